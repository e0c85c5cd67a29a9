-- printed by the session's own program wip/xprint.py (over the kit's printer); nothing here is trusted: Lean checks it
import Derived.Test.YtfhpppibiemhkaaDoorStr
import Derived.Test.YtfhpppibiemhkaaDoorP0
import Derived.Test.YtfhpppibiemhkaaDoorP9
import Derived.Test.YtfhpppibiemhkaaDoorP12
import Derived.Test.YtfhpppibiemhkaaDoorP13
import Derived.Test.YtfhpppibiemhkaaDoorP17
import Derived.Test.YtfhpppibiemhkaaDoorP18
import Derived.Test.YtfhpppibiemhkaaDoorP19
namespace Go.Proofs.YtfhpppibiemhkaaDoor.P
open Go.Proofs.YtfhpppibiemhkaaDoorR
open Go.RowKit Go.Proofs.YtfhpppibiemhkaaDoorW.PrintWords Go.Proofs.YtfhpppibiemhkaaDoorW.PrintLast Go.Proofs.YtfhpppibiemhkaaDoorW.PrintMore
attribute [local go_sem] max2_int min2_int max_two min_two max_three min_three max_four min_four   -- for this text's walks alone
set_option linter.unusedVariables false
set_option linter.unusedSimpArgs false

/-! ### jitneyref03_Write: function 19 -/
mutual
def jitneyref03_Write.j0 : Nat → Int → ByteArray → ByteArray → Option (ByteArray)
  | 0, _, _, _ => none
  | k + 1, x1, x5, x6 => jitneyref03_Write.l0 k x1 x5 x6
def jitneyref03_Write.l0 : Nat → Int → ByteArray → ByteArray → Option (ByteArray)
  | 0, _, _, _ => none
  | k + 1, x1, x5, x6 => if (x5.size : Int) ≤ x1 then (if 1 + x5.size ≤ 9223372036854775807 then (jitneyref03_Write.l0 k x1 ((⟨#[48]⟩ : ByteArray) ++ x5) x6) else (none)) else (jitneyref03_Write.l1 k x5 x6 (wrap64 ((x5.size : Int) - x1)) (x5.size : Int))
def jitneyref03_Write.l1 : Nat → ByteArray → ByteArray → Int → Int → Option (ByteArray)
  | 0, _, _, _, _ => none
  | k + 1, x5, x6, x7, x8 => if x8 > x7 then (if 0 ≤ (wrap64 (x8 - 1)) then (if (wrap64 (x8 - 1)) < (x5.size : Int) then (if (bt x5 (wrap64 (x8 - 1))) = 48 then (jitneyref03_Write.l1 k x5 x6 x7 (wrap64 (x8 - 1))) else (if x8 = x7 then (if 0 ≤ x7 then (if x7 ≤ (x5.size : Int) then (if x6.size + (x5.extract 0 (x7 : Int).toNat).size ≤ 9223372036854775807 then (some (x6 ++ (x5.extract 0 (x7 : Int).toNat))) else (none)) else (none)) else (none)) else (if 0 ≤ x7 then (if x7 ≤ (x5.size : Int) then (if x6.size + (x5.extract 0 (x7 : Int).toNat).size ≤ 9223372036854775807 then (if (x6 ++ (x5.extract 0 (x7 : Int).toNat)).size + 1 ≤ 9223372036854775807 then (if x7 ≤ x8 then (if x8 ≤ (x5.size : Int) then (if ((x6 ++ (x5.extract 0 (x7 : Int).toNat)) ++ (⟨#[46]⟩ : ByteArray)).size + (x5.extract (x7 : Int).toNat (x8 : Int).toNat).size ≤ 9223372036854775807 then (some (((x6 ++ (x5.extract 0 (x7 : Int).toNat)) ++ (⟨#[46]⟩ : ByteArray)) ++ (x5.extract (x7 : Int).toNat (x8 : Int).toNat))) else (none)) else (none)) else (none)) else (none)) else (none)) else (none)) else (none)))) else (none)) else (none)) else (if x8 = x7 then (if 0 ≤ x7 then (if x7 ≤ (x5.size : Int) then (if x6.size + (x5.extract 0 (x7 : Int).toNat).size ≤ 9223372036854775807 then (some (x6 ++ (x5.extract 0 (x7 : Int).toNat))) else (none)) else (none)) else (none)) else (if 0 ≤ x7 then (if x7 ≤ (x5.size : Int) then (if x6.size + (x5.extract 0 (x7 : Int).toNat).size ≤ 9223372036854775807 then (if (x6 ++ (x5.extract 0 (x7 : Int).toNat)).size + 1 ≤ 9223372036854775807 then (if x7 ≤ x8 then (if x8 ≤ (x5.size : Int) then (if ((x6 ++ (x5.extract 0 (x7 : Int).toNat)) ++ (⟨#[46]⟩ : ByteArray)).size + (x5.extract (x7 : Int).toNat (x8 : Int).toNat).size ≤ 9223372036854775807 then (some (((x6 ++ (x5.extract 0 (x7 : Int).toNat)) ++ (⟨#[46]⟩ : ByteArray)) ++ (x5.extract (x7 : Int).toNat (x8 : Int).toNat))) else (none)) else (none)) else (none)) else (none)) else (none)) else (none)) else (none)))
end
def jitneyref03_Write.f (k : Nat) (a0 : Int) (a1 : Int) : Option (ByteArray) := (jitneyref01_Held.f a1 0 6).bind fun t266 => ((strconv_FormatInt_34.f a0 10).bind fun t267 => (if a0 < 0 then (if 1 ≤ (t267.size : Int) then (jitneyref03_Write.j0 k t266 (t267.extract 1 t267.size) (⟨#[45]⟩ : ByteArray)) else (none)) else (jitneyref03_Write.j0 k t266 t267 (⟨#[]⟩ : ByteArray))))
theorem jitneyref03_Write.mono_l : ∀ k, (∀ y0 y1 y2, LeO (jitneyref03_Write.j0 k y0 y1 y2) (jitneyref03_Write.j0 (k + 1) y0 y1 y2)) ∧ (∀ y0 y1 y2, LeO (jitneyref03_Write.l0 k y0 y1 y2) (jitneyref03_Write.l0 (k + 1) y0 y1 y2)) ∧ (∀ y0 y1 y2 y3, LeO (jitneyref03_Write.l1 k y0 y1 y2 y3) (jitneyref03_Write.l1 (k + 1) y0 y1 y2 y3))
  | 0 => ⟨fun _ _ _ r h => by simp [jitneyref03_Write.j0] at h, fun _ _ _ r h => by simp [jitneyref03_Write.l0] at h, fun _ _ _ _ r h => by simp [jitneyref03_Write.l1] at h⟩
  | k + 1 => by
    obtain ⟨ih0, ih1, ih2⟩ := jitneyref03_Write.mono_l k
    refine ⟨?_, ?_, ?_⟩
    · intro y0 y1 y2
      unfold jitneyref03_Write.j0
      repeat' first
      | (with_reducible exact ih0 _ _ _)
      | (with_reducible exact ih1 _ _ _)
      | (with_reducible exact ih2 _ _ _ _)
      | (with_reducible exact LeO.refl _)
      | (with_reducible exact LeO.none _)
      | (with_reducible refine LeO.ite ?_ ?_)
      | (with_reducible refine LeO.bind ?_ (fun _ => ?_))
      | exact ih0 _ _ _
      | exact ih1 _ _ _
      | exact ih2 _ _ _ _
      | exact LeO.none _
      | refine LeO.ite ?_ ?_
      | refine LeO.bind ?_ (fun _ => ?_)
    · intro y0 y1 y2
      unfold jitneyref03_Write.l0
      repeat' first
      | (with_reducible exact ih0 _ _ _)
      | (with_reducible exact ih1 _ _ _)
      | (with_reducible exact ih2 _ _ _ _)
      | (with_reducible exact LeO.refl _)
      | (with_reducible exact LeO.none _)
      | (with_reducible refine LeO.ite ?_ ?_)
      | (with_reducible refine LeO.bind ?_ (fun _ => ?_))
      | exact ih0 _ _ _
      | exact ih1 _ _ _
      | exact ih2 _ _ _ _
      | exact LeO.none _
      | refine LeO.ite ?_ ?_
      | refine LeO.bind ?_ (fun _ => ?_)
    · intro y0 y1 y2 y3
      unfold jitneyref03_Write.l1
      repeat' first
      | (with_reducible exact ih0 _ _ _)
      | (with_reducible exact ih1 _ _ _)
      | (with_reducible exact ih2 _ _ _ _)
      | (with_reducible exact LeO.refl _)
      | (with_reducible exact LeO.none _)
      | (with_reducible refine LeO.ite ?_ ?_)
      | (with_reducible refine LeO.bind ?_ (fun _ => ?_))
      | exact ih0 _ _ _
      | exact ih1 _ _ _
      | exact ih2 _ _ _ _
      | exact LeO.none _
      | refine LeO.ite ?_ ?_
      | refine LeO.bind ?_ (fun _ => ?_)
theorem jitneyref03_Write.mono : ∀ a0 a1 k, LeO (jitneyref03_Write.f k a0 a1) (jitneyref03_Write.f (k + 1) a0 a1) := by
  intro a0 a1 k
  obtain ⟨ih0, ih1, ih2⟩ := jitneyref03_Write.mono_l k
  unfold jitneyref03_Write.f
  repeat' first
      | (with_reducible exact ih0 _ _ _)
      | (with_reducible exact ih1 _ _ _)
      | (with_reducible exact ih2 _ _ _ _)
      | (with_reducible exact LeO.refl _)
      | (with_reducible exact LeO.none _)
      | (with_reducible refine LeO.ite ?_ ?_)
      | (with_reducible refine LeO.bind ?_ (fun _ => ?_))
      | exact ih0 _ _ _
      | exact ih1 _ _ _
      | exact ih2 _ _ _ _
      | exact LeO.none _
      | refine LeO.ite ?_ ?_
      | refine LeO.bind ?_ (fun _ => ?_)
set_option maxHeartbeats 8000000 in
set_option maxRecDepth 100000 in
theorem jitneyref03_Write.calls (k : Nat) (a0 : Int) (a1 : Int) (r : ByteArray) (w : World) (h : jitneyref03_Write.f k a0 a1 = some r) (hG : GW w) :
    Calls Tryd.prog 19 #[.int .i64 a0, .int .i64 a1] w fun e w' => e = .returned (.string r) ∧ Below w.heap.size w w' := by
  have HB := Aside0.mk (Below.refl w.heap.size w)
  have H : ((jitneyref01_Held.f a1 0 6).bind fun t266 => ((strconv_FormatInt_34.f a0 10).bind fun t267 => (if a0 < 0 then (if 1 ≤ (t267.size : Int) then (jitneyref03_Write.j0 k t266 (t267.extract 1 t267.size) (⟨#[45]⟩ : ByteArray)) else (none)) else (jitneyref03_Write.j0 k t266 t267 (⟨#[]⟩ : ByteArray))))) = some r := h
  clear h
  replace H := Option.bind_eq_some_iff.mp H
  obtain ⟨t266, A30, H⟩ := H
  replace H : ((strconv_FormatInt_34.f a0 10).bind fun t267 => (if a0 < 0 then (if 1 ≤ (t267.size : Int) then (jitneyref03_Write.j0 k t266 (t267.extract 1 t267.size) (⟨#[45]⟩ : ByteArray)) else (none)) else (jitneyref03_Write.j0 k t266 t267 (⟨#[]⟩ : ByteArray)))) = some r := H
  have A3 := Aside0.mk A30
  clear A30
  replace H := Option.bind_eq_some_iff.mp H
  obtain ⟨t267, A40, H⟩ := H
  replace H : (if a0 < 0 then (if 1 ≤ (t267.size : Int) then (jitneyref03_Write.j0 k t266 (t267.extract 1 t267.size) (⟨#[45]⟩ : ByteArray)) else (none)) else (jitneyref03_Write.j0 k t266 t267 (⟨#[]⟩ : ByteArray))) = some r := H
  have A4 := Aside0.mk A40
  clear A40
  have HC5 := Aside0.mk H
  clear H
  go_enter Tryd.func19, Tryd.ntmps19
  go_upto_if 14 with (first | (go_at_call 33; (with_reducible refine (jitneyref01_Held.calls a1 0 6 t266 _ A3.out).mono ?_); rintro e w' ⟨rfl, ⟨nd, rfl⟩⟩; (try first | exact ⟨rfl, _, World.drewN_drewN _ _ _⟩ | exact ⟨rfl, _, Eq.trans (World.drewN_drewN _ _ _) (congrArg (World.drewN _) (Nat.add_assoc _ _ _))⟩)) | (go_at_call 34; (with_reducible refine (strconv_FormatInt_34.calls a0 10 t267 _ A4.out (GW.step hG (by repeat (first | (with_reducible first | exact HB.out | apply below_alloc | apply pw_below_drewN | apply below_drew1) | exact HB.out)))).mono ?_); rintro e w6 ⟨rfl, hb⟩; have n0_ := Aside0.mk (below_step (by repeat (first | (with_reducible first | exact HB.out | apply below_alloc | apply pw_below_drewN | apply below_drew1) | exact HB.out)) hb); clear HB; have HB := n0_; clear n0_; (try clear hb); (try clear hb2); (try clear hk); (try clear hi)))
  repeat (go_quiet (first | (go_at_call 33; (with_reducible refine (jitneyref01_Held.calls a1 0 6 t266 _ A3.out).mono ?_); rintro e w' ⟨rfl, ⟨nd, rfl⟩⟩; (try first | exact ⟨rfl, _, World.drewN_drewN _ _ _⟩ | exact ⟨rfl, _, Eq.trans (World.drewN_drewN _ _ _) (congrArg (World.drewN _) (Nat.add_assoc _ _ _))⟩)) | (go_at_call 34; (with_reducible refine (strconv_FormatInt_34.calls a0 10 t267 _ A4.out (GW.step hG (by repeat (first | (with_reducible first | exact HB.out | apply below_alloc | apply pw_below_drewN | apply below_drew1) | exact HB.out)))).mono ?_); rintro e w6 ⟨rfl, hb⟩; have n0_ := Aside0.mk (below_step (by repeat (first | (with_reducible first | exact HB.out | apply below_alloc | apply pw_below_drewN | apply below_drew1) | exact HB.out)) hb); clear HB; have HB := n0_; clear n0_; (try clear hb); (try clear hb2); (try clear hk); (try clear hi))); go_upto_if 14 with (first | (go_at_call 33; (with_reducible refine (jitneyref01_Held.calls a1 0 6 t266 _ A3.out).mono ?_); rintro e w' ⟨rfl, ⟨nd, rfl⟩⟩; (try first | exact ⟨rfl, _, World.drewN_drewN _ _ _⟩ | exact ⟨rfl, _, Eq.trans (World.drewN_drewN _ _ _) (congrArg (World.drewN _) (Nat.add_assoc _ _ _))⟩)) | (go_at_call 34; (with_reducible refine (strconv_FormatInt_34.calls a0 10 t267 _ A4.out (GW.step hG (by repeat (first | (with_reducible first | exact HB.out | apply below_alloc | apply pw_below_drewN | apply below_drew1) | exact HB.out)))).mono ?_); rintro e w6 ⟨rfl, hb⟩; have n0_ := Aside0.mk (below_step (by repeat (first | (with_reducible first | exact HB.out | apply below_alloc | apply pw_below_drewN | apply below_drew1) | exact HB.out)) hb); clear HB; have HB := n0_; clear n0_; (try clear hb); (try clear hb2); (try clear hk); (try clear hi))))
  (try simp only [Act.put, List.setIfInBounds_toArray, List.set_cons_zero, List.set_cons_succ])
  go_cut [5, 6] (fun v5 v6 wc => ∃ (kq : Nat) (x5_4 : ByteArray) (x6_4 : ByteArray), v5 = .string x5_4 ∧ v6 = .string x6_4 ∧ Aside0 (jitneyref03_Write.j0 kq t266 x5_4 x6_4 = some r) ∧ Aside0 (kq ≤ k) ∧ Aside0 (Below w.heap.size w wc))
  case first =>
    have H := HC5.out
    clear HC5
    by_cases c7 : a0 < 0
    · rw [if_pos c7] at H
      have c7b0 : decide (a0 < 0) = true := decide_eq_true c7
      clear c7
      (first | rw [c7b0] | (simp only [i64_w, i32_w]; rw [c7b0]) | skip)
      by_cases c8 : 1 ≤ (t267.size : Int)
      · rw [if_pos c8] at H
        have c8b0 := eq_true c8
        have c8b1 : decide (1 ≤ (t267.size : Int)) = true := decide_eq_true c8
        clear c8
        have H' := Aside0.mk H
        clear H
        go_wp2
        repeat (go_quiet (fail); try go_wp2)
        go_meet
        case rel => exact ⟨_, (t267.extract 1 t267.size), ((⟨#[45]⟩ : ByteArray)), (by first | rfl | (simp; done) | (simp [*]; done)), (by first | rfl | (simp; done) | (simp [*]; done)), H', ⟨by first | omega | exact Nat.le_refl _⟩, ⟨by repeat (first | (with_reducible first | exact HB.out | apply below_alloc | apply pw_below_drewN | apply below_drew1) | exact HB.out)⟩⟩
      · rw [if_neg c8] at H
        exact absurd H (by simp)
    · rw [if_neg c7] at H
      have c7b0 : decide (a0 < 0) = false := decide_eq_false c7
      clear c7
      (first | rw [c7b0] | (simp only [i64_w, i32_w]; rw [c7b0]) | skip)
      have H' := Aside0.mk H
      clear H
      go_wp2
      repeat (go_quiet (fail); try go_wp2)
      go_meet
      case rel => exact ⟨_, (t267), ((⟨#[]⟩ : ByteArray)), (by first | rfl | (simp; done) | (simp [*]; done)), (by first | rfl | (simp; done) | (simp [*]; done)), H', ⟨by first | omega | exact Nat.le_refl _⟩, ⟨by repeat (first | (with_reducible first | exact HB.out | apply below_alloc | apply pw_below_drewN | apply below_drew1) | exact HB.out)⟩⟩
  case rest =>
    clear HC5
    try clear c1
    try clear p2
    try clear c7
    try clear c7b0
    try clear c8
    try clear c8b0
    try clear c8b1
    obtain ⟨kq, x5_4, x6_4, rfl, rfl, HA, HJ4, HB⟩ := hcut
    cases kq with
    | zero => exact absurd HA.out (by simp [jitneyref03_Write.j0])
    | succ kj4 =>
      have H := HA.out
      clear HA
      simp only [jitneyref03_Write.j0] at H
      have H' := Aside0.mk H
      clear H
      go_wp2
      repeat (go_quiet (fail); try go_wp2)
      go_loopg [5] kj4 (fun kq v5 w' => ∃ (x5_2 : ByteArray), v5 = .string x5_2 ∧ Aside0 (jitneyref03_Write.l0 kq t266 x5_2 x6_4 = some r) ∧ Aside0 (kq ≤ kj4) ∧ Aside0 (Below w.heap.size w w'))
      case atStart => exact ⟨(x5_4), (by first | rfl | (simp; done) | (simp [*]; done)), H', ⟨Nat.le_refl _⟩, ⟨by repeat (first | (with_reducible first | exact HB.out | apply below_alloc | apply pw_below_drewN | apply below_drew1) | exact HB.out)⟩⟩
      case round =>
        clear H'
        try clear c1
        try clear p2
        try clear c7
        try clear c7b0
        try clear c8
        try clear c8b0
        try clear c8b1
        try clear p2
        obtain ⟨x5_2, rfl, HA, HK2, HB⟩ := hrel
        cases gk with
        | zero => exact absurd HA.out (by simp [jitneyref03_Write.l0])
        | succ k2 =>
          have H := HA.out
          clear HA
          simp only [jitneyref03_Write.l0] at H
          by_cases c9 : (x5_2.size : Int) ≤ t266
          · rw [if_pos c9] at H
            have c9b0 : decide ((x5_2.size : Int) ≤ t266) = true := decide_eq_true c9
            clear c9
            by_cases c10 : 1 + x5_2.size ≤ 9223372036854775807
            · rw [if_pos c10] at H
              have c10b0 := eq_true c10
              have c10b1 : decide (1 + x5_2.size ≤ 9223372036854775807) = true := decide_eq_true c10
              try have c10b2 : (9223372036854775807 < 1 + x5_2.size) = False := eq_false (Nat.not_lt.2 c10)
              have H' := Aside0.mk H
              clear H
              go_wp2
              repeat (go_quiet (fail); try go_wp2)
              go_roundg k2
              case measure => have := HJ4.out; have := HK2.out; omega
              case rel => exact ⟨((⟨#[48]⟩ : ByteArray) ++ x5_2), (by first | rfl | (simp; done) | (simp [*]; done)), H', ⟨by have := HJ4.out; have := HK2.out; omega⟩, ⟨by repeat (first | (with_reducible first | exact HB.out | apply below_alloc | apply pw_below_drewN | apply below_drew1) | exact HB.out)⟩⟩
            · rw [if_neg c10] at H
              exact absurd H (by simp)
          · rw [if_neg c9] at H
            have c9b0 : decide ((x5_2.size : Int) ≤ t266) = false := decide_eq_false c9
            clear c9
            have H' := Aside0.mk H
            clear H
            go_wp2
            repeat (go_quiet (fail); try go_wp2)
            go_loopg [8] k2 (fun kq v8 w' => ∃ (x8_3 : Int), v8 = .int .i64 x8_3 ∧ Aside0 (jitneyref03_Write.l1 kq x5_2 x6_4 (wrap64 ((x5_2.size : Int) - t266)) x8_3 = some r) ∧ Aside0 (kq ≤ k2) ∧ Aside0 (Below w.heap.size w w'))
            case atStart => exact ⟨((x5_2.size : Int)), (by first | rfl | (simp; done) | (simp [*]; done)), H', ⟨Nat.le_refl _⟩, ⟨by repeat (first | (with_reducible first | exact HB.out | apply below_alloc | apply pw_below_drewN | apply below_drew1) | exact HB.out)⟩⟩
            case round =>
              clear H'
              try clear c1
              try clear p2
              try clear p6
              try clear c7
              try clear c7b0
              try clear c8
              try clear c8b0
              try clear c8b1
              try clear c9
              try clear c9b0
              try clear c10
              try clear c10b0
              try clear c10b1
              try clear c10b2
              try clear p2
              obtain ⟨x8_3, rfl, HA, HK3, HB⟩ := hrel
              cases gk with
              | zero => exact absurd HA.out (by simp [jitneyref03_Write.l1])
              | succ k3 =>
                have H := HA.out
                clear HA
                simp only [jitneyref03_Write.l1] at H
                by_cases c11 : x8_3 > (wrap64 ((x5_2.size : Int) - t266))
                · rw [if_pos c11] at H
                  have c11b0 : decide ((wrap64 ((x5_2.size : Int) - t266)) < x8_3) = true := decide_eq_true c11
                  clear c11
                  obtain ⟨ji12, hji12⟩ : ∃ j_ : Int, (wrap64 (x8_3 - 1)) = j_ := ⟨_, rfl⟩
                  replace H : (if 0 ≤ (ji12) then (if (ji12) < (x5_2.size : Int) then (if (bt x5_2 (ji12)) = 48 then (jitneyref03_Write.l1 k3 x5_2 x6_4 (wrap64 ((x5_2.size : Int) - t266)) ji12) else (if x8_3 = (wrap64 ((x5_2.size : Int) - t266)) then (if 0 ≤ (wrap64 ((x5_2.size : Int) - t266)) then (if (wrap64 ((x5_2.size : Int) - t266)) ≤ (x5_2.size : Int) then (if x6_4.size + (x5_2.extract 0 ((wrap64 ((x5_2.size : Int) - t266)) : Int).toNat).size ≤ 9223372036854775807 then (some (x6_4 ++ (x5_2.extract 0 ((wrap64 ((x5_2.size : Int) - t266)) : Int).toNat))) else (none)) else (none)) else (none)) else (if 0 ≤ (wrap64 ((x5_2.size : Int) - t266)) then (if (wrap64 ((x5_2.size : Int) - t266)) ≤ (x5_2.size : Int) then (if x6_4.size + (x5_2.extract 0 ((wrap64 ((x5_2.size : Int) - t266)) : Int).toNat).size ≤ 9223372036854775807 then (if (x6_4 ++ (x5_2.extract 0 ((wrap64 ((x5_2.size : Int) - t266)) : Int).toNat)).size + 1 ≤ 9223372036854775807 then (if (wrap64 ((x5_2.size : Int) - t266)) ≤ x8_3 then (if x8_3 ≤ (x5_2.size : Int) then (if ((x6_4 ++ (x5_2.extract 0 ((wrap64 ((x5_2.size : Int) - t266)) : Int).toNat)) ++ (⟨#[46]⟩ : ByteArray)).size + (x5_2.extract ((wrap64 ((x5_2.size : Int) - t266)) : Int).toNat (x8_3 : Int).toNat).size ≤ 9223372036854775807 then (some (((x6_4 ++ (x5_2.extract 0 ((wrap64 ((x5_2.size : Int) - t266)) : Int).toNat)) ++ (⟨#[46]⟩ : ByteArray)) ++ (x5_2.extract ((wrap64 ((x5_2.size : Int) - t266)) : Int).toNat (x8_3 : Int).toNat))) else (none)) else (none)) else (none)) else (none)) else (none)) else (none)) else (none)))) else (none)) else (none)) = some r := by first | (rw [hji12] at H; exact H) | (simp only [hji12] at H ⊢; exact H)
                  have hji12w : (IntKind.i64.wrap (x8_3 - 1)) = ji12 := (i64_w _).trans hji12
                  by_cases c13 : 0 ≤ (ji12)
                  · rw [if_pos c13] at H
                    have c13b0 : decide (0 ≤ (ji12)) = true := decide_eq_true c13
                    clear c13
                    by_cases c14 : (ji12) < (x5_2.size : Int)
                    · rw [if_pos c14] at H
                      have c14b0 : decide ((ji12) < (x5_2.size : Int)) = true := decide_eq_true c14
                      clear c14
                      by_cases c16 : (bt x5_2 (ji12)) = 48
                      · rw [if_pos c16] at H
                        have c16b0 : ((bt x5_2 (ji12)) == 48) = true := beq_iff_eq.mpr c16
                        have c16b1 : ((bt x5_2 (ji12)) != 48) = false := bne_eq_false_iff_eq.mpr c16
                        clear c16
                        have H' := Aside0.mk H
                        clear H
                        have p15 : 0 ≤ ((ji12) : Int) := of_decide_eq_true (by first | (with_reducible assumption) | assumption)
                        have q15 : (ji12) < (x5_2.size : Int) := of_decide_eq_true (by first | (with_reducible assumption) | assumption)
                        have hx15 := bt_at x5_2 (ji12)
                        replace p15 := eq_true p15
                        replace q15 := eq_true q15
                        go_wp2
                        repeat (go_quiet (fail); try go_wp2)
                        go_roundg k3
                        case measure => have := HJ4.out; have := HK2.out; have := HK3.out; omega
                        case rel => exact ⟨(ji12), (by first | rfl | (simp; done) | (simp only [← hji12] <;> (first | rfl | simp)) | (simp [*]; done)), H', ⟨by have := HJ4.out; have := HK2.out; have := HK3.out; omega⟩, ⟨by repeat (first | (with_reducible first | exact HB.out | apply below_alloc | apply pw_below_drewN | apply below_drew1) | exact HB.out)⟩⟩
                      · rw [if_neg c16] at H
                        have c16b0 : ((bt x5_2 (ji12)) == 48) = false := beq_eq_false_iff_ne.mpr c16
                        have c16b1 : ((bt x5_2 (ji12)) != 48) = true := bne_iff_ne.mpr c16
                        by_cases c17 : x8_3 = (wrap64 ((x5_2.size : Int) - t266))
                        · rw [if_pos c17] at H
                          have c17b0 : (x8_3 == (wrap64 ((x5_2.size : Int) - t266))) = true := beq_iff_eq.mpr c17
                          have c17b1 : (x8_3 != (wrap64 ((x5_2.size : Int) - t266))) = false := bne_eq_false_iff_eq.mpr c17
                          clear c17
                          obtain ⟨ji18, hji18⟩ : ∃ j_ : Int, (wrap64 ((x5_2.size : Int) - t266)) = j_ := ⟨_, rfl⟩
                          replace H : (if 0 ≤ (ji18) then (if (ji18) ≤ (x5_2.size : Int) then (if x6_4.size + (x5_2.extract 0 ((ji18) : Int).toNat).size ≤ 9223372036854775807 then (some (x6_4 ++ (x5_2.extract 0 ((ji18) : Int).toNat))) else (none)) else (none)) else (none)) = some r := by first | (rw [hji18] at H; exact H) | (simp only [hji18] at H ⊢; exact H)
                          (try rw [hji18] at c11b0)
                          (try rw [hji18] at c17b0)
                          (try rw [hji18] at c17b1)
                          have hji18w : (IntKind.i64.wrap ((x5_2.size : Int) - t266)) = ji18 := (i64_w _).trans hji18
                          by_cases c19 : 0 ≤ (ji18)
                          · rw [if_pos c19] at H
                            have c19b0 := eq_true c19
                            have c19b1 : decide (0 ≤ (ji18)) = true := decide_eq_true c19
                            clear c19
                            by_cases c20 : (ji18) ≤ (x5_2.size : Int)
                            · rw [if_pos c20] at H
                              have c20b0 := eq_true c20
                              have c20b1 : decide ((ji18) ≤ (x5_2.size : Int)) = true := decide_eq_true c20
                              clear c20
                              by_cases c21 : x6_4.size + (x5_2.extract 0 ((ji18) : Int).toNat).size ≤ 9223372036854775807
                              · rw [if_pos c21] at H
                                have c21b0 := eq_true c21
                                have c21b1 : decide (x6_4.size + (x5_2.extract 0 ((ji18) : Int).toNat).size ≤ 9223372036854775807) = true := decide_eq_true c21
                                try have c21b2 : (9223372036854775807 < x6_4.size + (x5_2.extract 0 ((ji18) : Int).toNat).size) = False := eq_false (Nat.not_lt.2 c21)
                                obtain rfl := Option.some.inj H
                                have p15 : 0 ≤ ((ji12) : Int) := of_decide_eq_true (by first | (with_reducible assumption) | assumption)
                                have q15 : (ji12) < (x5_2.size : Int) := of_decide_eq_true (by first | (with_reducible assumption) | assumption)
                                have hx15 := bt_at x5_2 (ji12)
                                replace p15 := eq_true p15
                                replace q15 := eq_true q15
                                go_wp2
                                repeat (go_quiet (fail); try go_wp2)
                                go_ret
                                exact ⟨by first | rfl | (simp [errW_none, errW_some] <;> rfl) | (simp only [← hji12, ← hji18]; first | rfl | (simp [errW_none, errW_some] <;> rfl)) | (simp [*, errW_none, errW_some] <;> rfl), by repeat (first | (with_reducible first | exact HB.out | apply below_alloc | apply pw_below_drewN | apply below_drew1) | exact HB.out)⟩
                              · rw [if_neg c21] at H
                                exact absurd H (by simp)
                            · rw [if_neg c20] at H
                              exact absurd H (by simp)
                          · rw [if_neg c19] at H
                            exact absurd H (by simp)
                        · rw [if_neg c17] at H
                          have c17b0 : (x8_3 == (wrap64 ((x5_2.size : Int) - t266))) = false := beq_eq_false_iff_ne.mpr c17
                          have c17b1 : (x8_3 != (wrap64 ((x5_2.size : Int) - t266))) = true := bne_iff_ne.mpr c17
                          obtain ⟨ji22, hji22⟩ : ∃ j_ : Int, (wrap64 ((x5_2.size : Int) - t266)) = j_ := ⟨_, rfl⟩
                          replace H : (if 0 ≤ (ji22) then (if (ji22) ≤ (x5_2.size : Int) then (if x6_4.size + (x5_2.extract 0 ((ji22) : Int).toNat).size ≤ 9223372036854775807 then (if (x6_4 ++ (x5_2.extract 0 ((ji22) : Int).toNat)).size + 1 ≤ 9223372036854775807 then (if (ji22) ≤ x8_3 then (if x8_3 ≤ (x5_2.size : Int) then (if ((x6_4 ++ (x5_2.extract 0 ((ji22) : Int).toNat)) ++ (⟨#[46]⟩ : ByteArray)).size + (x5_2.extract ((ji22) : Int).toNat (x8_3 : Int).toNat).size ≤ 9223372036854775807 then (some (((x6_4 ++ (x5_2.extract 0 ((ji22) : Int).toNat)) ++ (⟨#[46]⟩ : ByteArray)) ++ (x5_2.extract ((ji22) : Int).toNat (x8_3 : Int).toNat))) else (none)) else (none)) else (none)) else (none)) else (none)) else (none)) else (none)) = some r := by first | (rw [hji22] at H; exact H) | (simp only [hji22] at H ⊢; exact H)
                          (try rw [hji22] at c11b0)
                          (try rw [hji22] at c17b0)
                          (try rw [hji22] at c17b1)
                          have hji22w : (IntKind.i64.wrap ((x5_2.size : Int) - t266)) = ji22 := (i64_w _).trans hji22
                          by_cases c23 : 0 ≤ (ji22)
                          · rw [if_pos c23] at H
                            have c23b0 := eq_true c23
                            have c23b1 : decide (0 ≤ (ji22)) = true := decide_eq_true c23
                            clear c23
                            by_cases c24 : (ji22) ≤ (x5_2.size : Int)
                            · rw [if_pos c24] at H
                              have c24b0 := eq_true c24
                              have c24b1 : decide ((ji22) ≤ (x5_2.size : Int)) = true := decide_eq_true c24
                              clear c24
                              by_cases c25 : x6_4.size + (x5_2.extract 0 ((ji22) : Int).toNat).size ≤ 9223372036854775807
                              · rw [if_pos c25] at H
                                have c25b0 := eq_true c25
                                have c25b1 : decide (x6_4.size + (x5_2.extract 0 ((ji22) : Int).toNat).size ≤ 9223372036854775807) = true := decide_eq_true c25
                                try have c25b2 : (9223372036854775807 < x6_4.size + (x5_2.extract 0 ((ji22) : Int).toNat).size) = False := eq_false (Nat.not_lt.2 c25)
                                by_cases c26 : (x6_4 ++ (x5_2.extract 0 ((ji22) : Int).toNat)).size + 1 ≤ 9223372036854775807
                                · rw [if_pos c26] at H
                                  have c26b0 := eq_true c26
                                  have c26b1 : decide ((x6_4 ++ (x5_2.extract 0 ((ji22) : Int).toNat)).size + 1 ≤ 9223372036854775807) = true := decide_eq_true c26
                                  try have c26b2 : (9223372036854775807 < (x6_4 ++ (x5_2.extract 0 ((ji22) : Int).toNat)).size + 1) = False := eq_false (Nat.not_lt.2 c26)
                                  have c27b0 := eq_true (of_decide_eq_true (by first | (with_reducible assumption) | assumption) : 0 ≤ (ji22))
                                  by_cases c28 : (ji22) ≤ x8_3
                                  · rw [if_pos c28] at H
                                    have c28b0 := eq_true c28
                                    have c28b1 : decide ((ji22) ≤ x8_3) = true := decide_eq_true c28
                                    clear c28
                                    by_cases c29 : x8_3 ≤ (x5_2.size : Int)
                                    · rw [if_pos c29] at H
                                      have c29b0 := eq_true c29
                                      have c29b1 : decide (x8_3 ≤ (x5_2.size : Int)) = true := decide_eq_true c29
                                      clear c29
                                      by_cases c30 : ((x6_4 ++ (x5_2.extract 0 ((ji22) : Int).toNat)) ++ (⟨#[46]⟩ : ByteArray)).size + (x5_2.extract ((ji22) : Int).toNat (x8_3 : Int).toNat).size ≤ 9223372036854775807
                                      · rw [if_pos c30] at H
                                        have c30b0 := eq_true c30
                                        have c30b1 : decide (((x6_4 ++ (x5_2.extract 0 ((ji22) : Int).toNat)) ++ (⟨#[46]⟩ : ByteArray)).size + (x5_2.extract ((ji22) : Int).toNat (x8_3 : Int).toNat).size ≤ 9223372036854775807) = true := decide_eq_true c30
                                        try have c30b2 : (9223372036854775807 < ((x6_4 ++ (x5_2.extract 0 ((ji22) : Int).toNat)) ++ (⟨#[46]⟩ : ByteArray)).size + (x5_2.extract ((ji22) : Int).toNat (x8_3 : Int).toNat).size) = False := eq_false (Nat.not_lt.2 c30)
                                        have z29x := of_eq_true c24b0
                                        have z29y := of_eq_true c23b0
                                        have z29w := of_eq_true c28b0
                                        have z29v := of_eq_true c29b0
                                        have c25z : x6_4.size + ((ji22) : Int).toNat ≤ 9223372036854775807 := by have h' := c25; simp only [ByteArray.size_append, ByteArray.size_extract] at h'; have h1 : (⟨#[46]⟩ : ByteArray).size = 1 := rfl; omega
                                        have c25y := eq_true c25z
                                        have c25x : (9223372036854775807 < x6_4.size + ((ji22) : Int).toNat) = False := eq_false (Nat.not_lt.2 c25z)
                                        have c26z : x6_4.size + ((ji22) : Int).toNat + 1 ≤ 9223372036854775807 := by have h' := c26; simp only [ByteArray.size_append, ByteArray.size_extract] at h'; have h1 : (⟨#[46]⟩ : ByteArray).size = 1 := rfl; omega
                                        have c26y := eq_true c26z
                                        have c26x : (9223372036854775807 < x6_4.size + ((ji22) : Int).toNat + 1) = False := eq_false (Nat.not_lt.2 c26z)
                                        have c30z : x6_4.size + ((ji22) : Int).toNat + 1 + ((x8_3 : Int).toNat - ((ji22) : Int).toNat) ≤ 9223372036854775807 := by have h' := c30; simp only [ByteArray.size_append, ByteArray.size_extract] at h'; have h1 : (⟨#[46]⟩ : ByteArray).size = 1 := rfl; omega
                                        have c30y := eq_true c30z
                                        have c30x : (9223372036854775807 < x6_4.size + ((ji22) : Int).toNat + 1 + ((x8_3 : Int).toNat - ((ji22) : Int).toNat)) = False := eq_false (Nat.not_lt.2 c30z)
                                        obtain rfl := Option.some.inj H
                                        have p15 : 0 ≤ ((ji12) : Int) := of_decide_eq_true (by first | (with_reducible assumption) | assumption)
                                        have q15 : (ji12) < (x5_2.size : Int) := of_decide_eq_true (by first | (with_reducible assumption) | assumption)
                                        have hx15 := bt_at x5_2 (ji12)
                                        replace p15 := eq_true p15
                                        replace q15 := eq_true q15
                                        go_wp2
                                        repeat (go_quiet (fail); try go_wp2)
                                        go_ret
                                        exact ⟨by first | rfl | (simp [errW_none, errW_some] <;> rfl) | (simp only [← hji12, ← hji22]; first | rfl | (simp [errW_none, errW_some] <;> rfl)) | (simp [*, errW_none, errW_some] <;> rfl), by repeat (first | (with_reducible first | exact HB.out | apply below_alloc | apply pw_below_drewN | apply below_drew1) | exact HB.out)⟩
                                      · rw [if_neg c30] at H
                                        exact absurd H (by simp)
                                    · rw [if_neg c29] at H
                                      exact absurd H (by simp)
                                  · rw [if_neg c28] at H
                                    exact absurd H (by simp)
                                · rw [if_neg c26] at H
                                  exact absurd H (by simp)
                              · rw [if_neg c25] at H
                                exact absurd H (by simp)
                            · rw [if_neg c24] at H
                              exact absurd H (by simp)
                          · rw [if_neg c23] at H
                            exact absurd H (by simp)
                    · rw [if_neg c14] at H
                      exact absurd H (by simp)
                  · rw [if_neg c13] at H
                    exact absurd H (by simp)
                · rw [if_neg c11] at H
                  have c11b0 : decide ((wrap64 ((x5_2.size : Int) - t266)) < x8_3) = false := decide_eq_false c11
                  clear c11
                  by_cases c31 : x8_3 = (wrap64 ((x5_2.size : Int) - t266))
                  · rw [if_pos c31] at H
                    have c31b0 : (x8_3 == (wrap64 ((x5_2.size : Int) - t266))) = true := beq_iff_eq.mpr c31
                    have c31b1 : (x8_3 != (wrap64 ((x5_2.size : Int) - t266))) = false := bne_eq_false_iff_eq.mpr c31
                    clear c31
                    obtain ⟨ji32, hji32⟩ : ∃ j_ : Int, (wrap64 ((x5_2.size : Int) - t266)) = j_ := ⟨_, rfl⟩
                    replace H : (if 0 ≤ (ji32) then (if (ji32) ≤ (x5_2.size : Int) then (if x6_4.size + (x5_2.extract 0 ((ji32) : Int).toNat).size ≤ 9223372036854775807 then (some (x6_4 ++ (x5_2.extract 0 ((ji32) : Int).toNat))) else (none)) else (none)) else (none)) = some r := by first | (rw [hji32] at H; exact H) | (simp only [hji32] at H ⊢; exact H)
                    (try rw [hji32] at c11b0)
                    (try rw [hji32] at c31b0)
                    (try rw [hji32] at c31b1)
                    have hji32w : (IntKind.i64.wrap ((x5_2.size : Int) - t266)) = ji32 := (i64_w _).trans hji32
                    by_cases c33 : 0 ≤ (ji32)
                    · rw [if_pos c33] at H
                      have c33b0 := eq_true c33
                      have c33b1 : decide (0 ≤ (ji32)) = true := decide_eq_true c33
                      clear c33
                      by_cases c34 : (ji32) ≤ (x5_2.size : Int)
                      · rw [if_pos c34] at H
                        have c34b0 := eq_true c34
                        have c34b1 : decide ((ji32) ≤ (x5_2.size : Int)) = true := decide_eq_true c34
                        clear c34
                        by_cases c35 : x6_4.size + (x5_2.extract 0 ((ji32) : Int).toNat).size ≤ 9223372036854775807
                        · rw [if_pos c35] at H
                          have c35b0 := eq_true c35
                          have c35b1 : decide (x6_4.size + (x5_2.extract 0 ((ji32) : Int).toNat).size ≤ 9223372036854775807) = true := decide_eq_true c35
                          try have c35b2 : (9223372036854775807 < x6_4.size + (x5_2.extract 0 ((ji32) : Int).toNat).size) = False := eq_false (Nat.not_lt.2 c35)
                          obtain rfl := Option.some.inj H
                          go_wp2
                          repeat (go_quiet (fail); try go_wp2)
                          go_ret
                          exact ⟨by first | rfl | (simp [errW_none, errW_some] <;> rfl) | (simp only [← hji32]; first | rfl | (simp [errW_none, errW_some] <;> rfl)) | (simp [*, errW_none, errW_some] <;> rfl), by repeat (first | (with_reducible first | exact HB.out | apply below_alloc | apply pw_below_drewN | apply below_drew1) | exact HB.out)⟩
                        · rw [if_neg c35] at H
                          exact absurd H (by simp)
                      · rw [if_neg c34] at H
                        exact absurd H (by simp)
                    · rw [if_neg c33] at H
                      exact absurd H (by simp)
                  · rw [if_neg c31] at H
                    have c31b0 : (x8_3 == (wrap64 ((x5_2.size : Int) - t266))) = false := beq_eq_false_iff_ne.mpr c31
                    have c31b1 : (x8_3 != (wrap64 ((x5_2.size : Int) - t266))) = true := bne_iff_ne.mpr c31
                    obtain ⟨ji36, hji36⟩ : ∃ j_ : Int, (wrap64 ((x5_2.size : Int) - t266)) = j_ := ⟨_, rfl⟩
                    replace H : (if 0 ≤ (ji36) then (if (ji36) ≤ (x5_2.size : Int) then (if x6_4.size + (x5_2.extract 0 ((ji36) : Int).toNat).size ≤ 9223372036854775807 then (if (x6_4 ++ (x5_2.extract 0 ((ji36) : Int).toNat)).size + 1 ≤ 9223372036854775807 then (if (ji36) ≤ x8_3 then (if x8_3 ≤ (x5_2.size : Int) then (if ((x6_4 ++ (x5_2.extract 0 ((ji36) : Int).toNat)) ++ (⟨#[46]⟩ : ByteArray)).size + (x5_2.extract ((ji36) : Int).toNat (x8_3 : Int).toNat).size ≤ 9223372036854775807 then (some (((x6_4 ++ (x5_2.extract 0 ((ji36) : Int).toNat)) ++ (⟨#[46]⟩ : ByteArray)) ++ (x5_2.extract ((ji36) : Int).toNat (x8_3 : Int).toNat))) else (none)) else (none)) else (none)) else (none)) else (none)) else (none)) else (none)) = some r := by first | (rw [hji36] at H; exact H) | (simp only [hji36] at H ⊢; exact H)
                    (try rw [hji36] at c11b0)
                    (try rw [hji36] at c31b0)
                    (try rw [hji36] at c31b1)
                    have hji36w : (IntKind.i64.wrap ((x5_2.size : Int) - t266)) = ji36 := (i64_w _).trans hji36
                    by_cases c37 : 0 ≤ (ji36)
                    · rw [if_pos c37] at H
                      have c37b0 := eq_true c37
                      have c37b1 : decide (0 ≤ (ji36)) = true := decide_eq_true c37
                      clear c37
                      by_cases c38 : (ji36) ≤ (x5_2.size : Int)
                      · rw [if_pos c38] at H
                        have c38b0 := eq_true c38
                        have c38b1 : decide ((ji36) ≤ (x5_2.size : Int)) = true := decide_eq_true c38
                        clear c38
                        by_cases c39 : x6_4.size + (x5_2.extract 0 ((ji36) : Int).toNat).size ≤ 9223372036854775807
                        · rw [if_pos c39] at H
                          have c39b0 := eq_true c39
                          have c39b1 : decide (x6_4.size + (x5_2.extract 0 ((ji36) : Int).toNat).size ≤ 9223372036854775807) = true := decide_eq_true c39
                          try have c39b2 : (9223372036854775807 < x6_4.size + (x5_2.extract 0 ((ji36) : Int).toNat).size) = False := eq_false (Nat.not_lt.2 c39)
                          by_cases c40 : (x6_4 ++ (x5_2.extract 0 ((ji36) : Int).toNat)).size + 1 ≤ 9223372036854775807
                          · rw [if_pos c40] at H
                            have c40b0 := eq_true c40
                            have c40b1 : decide ((x6_4 ++ (x5_2.extract 0 ((ji36) : Int).toNat)).size + 1 ≤ 9223372036854775807) = true := decide_eq_true c40
                            try have c40b2 : (9223372036854775807 < (x6_4 ++ (x5_2.extract 0 ((ji36) : Int).toNat)).size + 1) = False := eq_false (Nat.not_lt.2 c40)
                            have c41b0 := eq_true (of_decide_eq_true (by first | (with_reducible assumption) | assumption) : 0 ≤ (ji36))
                            by_cases c42 : (ji36) ≤ x8_3
                            · rw [if_pos c42] at H
                              have c42b0 := eq_true c42
                              have c42b1 : decide ((ji36) ≤ x8_3) = true := decide_eq_true c42
                              clear c42
                              by_cases c43 : x8_3 ≤ (x5_2.size : Int)
                              · rw [if_pos c43] at H
                                have c43b0 := eq_true c43
                                have c43b1 : decide (x8_3 ≤ (x5_2.size : Int)) = true := decide_eq_true c43
                                clear c43
                                by_cases c44 : ((x6_4 ++ (x5_2.extract 0 ((ji36) : Int).toNat)) ++ (⟨#[46]⟩ : ByteArray)).size + (x5_2.extract ((ji36) : Int).toNat (x8_3 : Int).toNat).size ≤ 9223372036854775807
                                · rw [if_pos c44] at H
                                  have c44b0 := eq_true c44
                                  have c44b1 : decide (((x6_4 ++ (x5_2.extract 0 ((ji36) : Int).toNat)) ++ (⟨#[46]⟩ : ByteArray)).size + (x5_2.extract ((ji36) : Int).toNat (x8_3 : Int).toNat).size ≤ 9223372036854775807) = true := decide_eq_true c44
                                  try have c44b2 : (9223372036854775807 < ((x6_4 ++ (x5_2.extract 0 ((ji36) : Int).toNat)) ++ (⟨#[46]⟩ : ByteArray)).size + (x5_2.extract ((ji36) : Int).toNat (x8_3 : Int).toNat).size) = False := eq_false (Nat.not_lt.2 c44)
                                  have z29x := of_eq_true c38b0
                                  have z29y := of_eq_true c37b0
                                  have z29w := of_eq_true c42b0
                                  have z29v := of_eq_true c43b0
                                  have c39z : x6_4.size + ((ji36) : Int).toNat ≤ 9223372036854775807 := by have h' := c39; simp only [ByteArray.size_append, ByteArray.size_extract] at h'; have h1 : (⟨#[46]⟩ : ByteArray).size = 1 := rfl; omega
                                  have c39y := eq_true c39z
                                  have c39x : (9223372036854775807 < x6_4.size + ((ji36) : Int).toNat) = False := eq_false (Nat.not_lt.2 c39z)
                                  have c40z : x6_4.size + ((ji36) : Int).toNat + 1 ≤ 9223372036854775807 := by have h' := c40; simp only [ByteArray.size_append, ByteArray.size_extract] at h'; have h1 : (⟨#[46]⟩ : ByteArray).size = 1 := rfl; omega
                                  have c40y := eq_true c40z
                                  have c40x : (9223372036854775807 < x6_4.size + ((ji36) : Int).toNat + 1) = False := eq_false (Nat.not_lt.2 c40z)
                                  have c44z : x6_4.size + ((ji36) : Int).toNat + 1 + ((x8_3 : Int).toNat - ((ji36) : Int).toNat) ≤ 9223372036854775807 := by have h' := c44; simp only [ByteArray.size_append, ByteArray.size_extract] at h'; have h1 : (⟨#[46]⟩ : ByteArray).size = 1 := rfl; omega
                                  have c44y := eq_true c44z
                                  have c44x : (9223372036854775807 < x6_4.size + ((ji36) : Int).toNat + 1 + ((x8_3 : Int).toNat - ((ji36) : Int).toNat)) = False := eq_false (Nat.not_lt.2 c44z)
                                  obtain rfl := Option.some.inj H
                                  go_wp2
                                  repeat (go_quiet (fail); try go_wp2)
                                  go_ret
                                  exact ⟨by first | rfl | (simp [errW_none, errW_some] <;> rfl) | (simp only [← hji36]; first | rfl | (simp [errW_none, errW_some] <;> rfl)) | (simp [*, errW_none, errW_some] <;> rfl), by repeat (first | (with_reducible first | exact HB.out | apply below_alloc | apply pw_below_drewN | apply below_drew1) | exact HB.out)⟩
                                · rw [if_neg c44] at H
                                  exact absurd H (by simp)
                              · rw [if_neg c43] at H
                                exact absurd H (by simp)
                            · rw [if_neg c42] at H
                              exact absurd H (by simp)
                          · rw [if_neg c40] at H
                            exact absurd H (by simp)
                        · rw [if_neg c39] at H
                          exact absurd H (by simp)
                      · rw [if_neg c38] at H
                        exact absurd H (by simp)
                    · rw [if_neg c37] at H
                      exact absurd H (by simp)

/-! ### jitneylaw03_DeciReads: function 7 -/
def jitneylaw03_DeciReads.f (k : Nat) (a0 : ByteArray) (a1 : Int) (a2 : Int) : Option (Bool) := (jitneylaw03_alive.f k).bind fun t268 => (if t268 = true then (if (a0.size : Int) > 100 then (some true) else ((deci_Read.f k a0 a1).bind fun bt269 => ((jitneyref03_Read.f k a0 a1).bind fun bt271 => ((deci_Whole.f k a0).bind fun bt273 => ((jitneyref03_Whole.f k a0).bind fun bt275 => (if bt269.1 = bt271.1 then (if bt269.2 = bt271.2 then ((deci_Write.f k a2 a1).bind fun t277 => ((jitneyref03_Write.f k a2 a1).bind fun t278 => (if t277.toList = t278.toList then (if bt273.1 = bt275.1 then (some (bt273.2 == bt275.2)) else (some false)) else (some false)))) else (some false)) else (some false))))))) else (some false))
theorem jitneylaw03_DeciReads.mono : ∀ a0 a1 a2 k, LeO (jitneylaw03_DeciReads.f k a0 a1 a2) (jitneylaw03_DeciReads.f (k + 1) a0 a1 a2) := by
  intro a0 a1 a2 k
  unfold jitneylaw03_DeciReads.f
  repeat' first
      | (with_reducible exact deci_Read.mono _ _ _)
      | (with_reducible exact deci_Whole.mono _ _)
      | (with_reducible exact deci_Write.mono _ _ _)
      | (with_reducible exact jitneylaw03_alive.mono _)
      | (with_reducible exact jitneyref03_Read.mono _ _ _)
      | (with_reducible exact jitneyref03_Whole.mono _ _)
      | (with_reducible exact jitneyref03_Write.mono _ _ _)
      | (with_reducible exact LeO.refl _)
      | (with_reducible exact LeO.none _)
      | (with_reducible refine LeO.ite ?_ ?_)
      | (with_reducible refine LeO.bind ?_ (fun _ => ?_))
      | exact deci_Read.mono _ _ _
      | exact deci_Whole.mono _ _
      | exact deci_Write.mono _ _ _
      | exact jitneylaw03_alive.mono _
      | exact jitneyref03_Read.mono _ _ _
      | exact jitneyref03_Whole.mono _ _
      | exact jitneyref03_Write.mono _ _ _
      | exact LeO.none _
      | refine LeO.ite ?_ ?_
      | refine LeO.bind ?_ (fun _ => ?_)
set_option maxHeartbeats 8000000 in
set_option maxRecDepth 100000 in
theorem jitneylaw03_DeciReads.calls (k : Nat) (a0 : ByteArray) (a1 : Int) (a2 : Int) (r : Bool) (w : World) (h : jitneylaw03_DeciReads.f k a0 a1 a2 = some r) (hG : GW w) :
    Calls Tryd.prog 7 #[.string a0, .int .i64 a1, .int .i64 a2] w fun e w' => e = .returned (.bool r) ∧ Below w.heap.size w w' := by
  have HB := Aside0.mk (Below.refl w.heap.size w)
  have H : ((jitneylaw03_alive.f k).bind fun t268 => (if t268 = true then (if (a0.size : Int) > 100 then (some true) else ((deci_Read.f k a0 a1).bind fun bt269 => ((jitneyref03_Read.f k a0 a1).bind fun bt271 => ((deci_Whole.f k a0).bind fun bt273 => ((jitneyref03_Whole.f k a0).bind fun bt275 => (if bt269.1 = bt271.1 then (if bt269.2 = bt271.2 then ((deci_Write.f k a2 a1).bind fun t277 => ((jitneyref03_Write.f k a2 a1).bind fun t278 => (if t277.toList = t278.toList then (if bt273.1 = bt275.1 then (some (bt273.2 == bt275.2)) else (some false)) else (some false)))) else (some false)) else (some false))))))) else (some false))) = some r := h
  clear h
  replace H := Option.bind_eq_some_iff.mp H
  obtain ⟨t268, A40, H⟩ := H
  replace H : (if t268 = true then (if (a0.size : Int) > 100 then (some true) else ((deci_Read.f k a0 a1).bind fun bt269 => ((jitneyref03_Read.f k a0 a1).bind fun bt271 => ((deci_Whole.f k a0).bind fun bt273 => ((jitneyref03_Whole.f k a0).bind fun bt275 => (if bt269.1 = bt271.1 then (if bt269.2 = bt271.2 then ((deci_Write.f k a2 a1).bind fun t277 => ((jitneyref03_Write.f k a2 a1).bind fun t278 => (if t277.toList = t278.toList then (if bt273.1 = bt275.1 then (some (bt273.2 == bt275.2)) else (some false)) else (some false)))) else (some false)) else (some false))))))) else (some false)) = some r := H
  have A4 := Aside0.mk A40
  clear A40
  by_cases c5 : t268 = true
  · subst c5
    have H1 : (if (a0.size : Int) > 100 then (some true) else ((deci_Read.f k a0 a1).bind fun bt269 => ((jitneyref03_Read.f k a0 a1).bind fun bt271 => ((deci_Whole.f k a0).bind fun bt273 => ((jitneyref03_Whole.f k a0).bind fun bt275 => (if bt269.1 = bt271.1 then (if bt269.2 = bt271.2 then ((deci_Write.f k a2 a1).bind fun t277 => ((jitneyref03_Write.f k a2 a1).bind fun t278 => (if t277.toList = t278.toList then (if bt273.1 = bt275.1 then (some (bt273.2 == bt275.2)) else (some false)) else (some false)))) else (some false)) else (some false))))))) = some r := by rw [if_pos rfl] at H; exact H
    clear H
    have H := H1
    clear H1
    by_cases c6 : (a0.size : Int) > 100
    · rw [if_pos c6] at H
      have c6b0 : decide (100 < (a0.size : Int)) = true := decide_eq_true c6
      have c6b1 : decide (100 < a0.size) = true := decide_eq_true (by omega)
      clear c6
      obtain rfl := Option.some.inj H
      go_enter Tryd.func7, Tryd.ntmps7
      go_wp2_with (first | ((with_reducible refine gate_callee (f := 8) rfl ?_); refine goesL_ (some 15) rfl rfl Tryd.func8 (by kernel_rfl) rfl #[] rfl (by (try simp only [List.map_toArray, List.map_cons, List.map_nil]); first | done | rfl | (simp only [List.length_drop, List.length_take]; rfl)) ?_; (with_reducible refine (jitneylaw03_alive.calls k  true _ A4.out (GW.step hG (by repeat (first | (with_reducible first | exact HB.out | apply below_alloc | apply pw_below_drewN | apply below_drew1) | exact HB.out)))).mono ?_); rintro e w7 ⟨rfl, hb⟩; refine ⟨_, rfl, ?_⟩; have n0_ := Aside0.mk (below_step (by repeat (first | (with_reducible first | exact HB.out | apply below_alloc | apply pw_below_drewN | apply below_drew1) | exact HB.out)) hb); clear HB; have HB := n0_; clear n0_; (try clear hb); (try clear hb2); (try clear hk); (try clear hi)))
      go_ret
      exact ⟨by first | rfl | (simp [errW_none, errW_some] <;> rfl) | (simp [*, errW_none, errW_some] <;> rfl), by repeat (first | (with_reducible first | exact HB.out | apply below_alloc | apply pw_below_drewN | apply below_drew1) | exact HB.out)⟩
    · rw [if_neg c6] at H
      have c6b0 : decide (100 < (a0.size : Int)) = false := decide_eq_false c6
      have c6b1 : decide (100 < a0.size) = false := decide_eq_false (by omega)
      clear c6
      replace H := Option.bind_eq_some_iff.mp H
      obtain ⟨⟨t269, t270⟩, A80, H⟩ := H
      replace H : ((jitneyref03_Read.f k a0 a1).bind fun bt271 => ((deci_Whole.f k a0).bind fun bt273 => ((jitneyref03_Whole.f k a0).bind fun bt275 => (if t269 = bt271.1 then (if t270 = bt271.2 then ((deci_Write.f k a2 a1).bind fun t277 => ((jitneyref03_Write.f k a2 a1).bind fun t278 => (if t277.toList = t278.toList then (if bt273.1 = bt275.1 then (some (bt273.2 == bt275.2)) else (some false)) else (some false)))) else (some false)) else (some false))))) = some r := H
      have A8 := Aside0.mk A80
      clear A80
      replace H := Option.bind_eq_some_iff.mp H
      obtain ⟨⟨t271, t272⟩, A90, H⟩ := H
      replace H : ((deci_Whole.f k a0).bind fun bt273 => ((jitneyref03_Whole.f k a0).bind fun bt275 => (if t269 = t271 then (if t270 = t272 then ((deci_Write.f k a2 a1).bind fun t277 => ((jitneyref03_Write.f k a2 a1).bind fun t278 => (if t277.toList = t278.toList then (if bt273.1 = bt275.1 then (some (bt273.2 == bt275.2)) else (some false)) else (some false)))) else (some false)) else (some false)))) = some r := H
      have A9 := Aside0.mk A90
      clear A90
      replace H := Option.bind_eq_some_iff.mp H
      obtain ⟨⟨t273, t274⟩, A100, H⟩ := H
      replace H : ((jitneyref03_Whole.f k a0).bind fun bt275 => (if t269 = t271 then (if t270 = t272 then ((deci_Write.f k a2 a1).bind fun t277 => ((jitneyref03_Write.f k a2 a1).bind fun t278 => (if t277.toList = t278.toList then (if t273 = bt275.1 then (some (t274 == bt275.2)) else (some false)) else (some false)))) else (some false)) else (some false))) = some r := H
      have A10 := Aside0.mk A100
      clear A100
      replace H := Option.bind_eq_some_iff.mp H
      obtain ⟨⟨t275, t276⟩, A110, H⟩ := H
      replace H : (if t269 = t271 then (if t270 = t272 then ((deci_Write.f k a2 a1).bind fun t277 => ((jitneyref03_Write.f k a2 a1).bind fun t278 => (if t277.toList = t278.toList then (if t273 = t275 then (some (t274 == t276)) else (some false)) else (some false)))) else (some false)) else (some false)) = some r := H
      have A11 := Aside0.mk A110
      clear A110
      by_cases c12 : t269 = t271
      · rw [if_pos c12] at H
        have c12b0 : (t269 == t271) = true := beq_iff_eq.mpr c12
        have c12b1 : (t269 != t271) = false := bne_eq_false_iff_eq.mpr c12
        clear c12
        by_cases c13 : t270 = t272
        · rw [if_pos c13] at H
          have c13b0 : (t270 == t272) = true := beq_iff_eq.mpr c13
          have c13b1 : (t270 != t272) = false := bne_eq_false_iff_eq.mpr c13
          clear c13
          replace H := Option.bind_eq_some_iff.mp H
          obtain ⟨t277, A140, H⟩ := H
          replace H : ((jitneyref03_Write.f k a2 a1).bind fun t278 => (if t277.toList = t278.toList then (if t273 = t275 then (some (t274 == t276)) else (some false)) else (some false))) = some r := H
          have A14 := Aside0.mk A140
          clear A140
          replace H := Option.bind_eq_some_iff.mp H
          obtain ⟨t278, A150, H⟩ := H
          replace H : (if t277.toList = t278.toList then (if t273 = t275 then (some (t274 == t276)) else (some false)) else (some false)) = some r := H
          have A15 := Aside0.mk A150
          clear A150
          by_cases c16 : t277.toList = t278.toList
          · rw [if_pos c16] at H
            have c16b0 : (t277.toList == t278.toList) = true := beq_iff_eq.mpr c16
            have c16b1 : (t277.toList != t278.toList) = false := bne_eq_false_iff_eq.mpr c16
            clear c16
            by_cases c17 : t273 = t275
            · rw [if_pos c17] at H
              have c17b0 : (t273 == t275) = true := beq_iff_eq.mpr c17
              have c17b1 : (t273 != t275) = false := bne_eq_false_iff_eq.mpr c17
              clear c17
              obtain rfl := Option.some.inj H
              go_enter Tryd.func7, Tryd.ntmps7
              go_wp2_with (first | ((with_reducible refine gate_callee (f := 8) rfl ?_); refine goesL_ (some 15) rfl rfl Tryd.func8 (by kernel_rfl) rfl #[] rfl (by (try simp only [List.map_toArray, List.map_cons, List.map_nil]); first | done | rfl | (simp only [List.length_drop, List.length_take]; rfl)) ?_; (with_reducible refine (jitneylaw03_alive.calls k  true _ A4.out (GW.step hG (by repeat (first | (with_reducible first | exact HB.out | apply below_alloc | apply pw_below_drewN | apply below_drew1) | exact HB.out)))).mono ?_); rintro e w18 ⟨rfl, hb⟩; refine ⟨_, rfl, ?_⟩; have n0_ := Aside0.mk (below_step (by repeat (first | (with_reducible first | exact HB.out | apply below_alloc | apply pw_below_drewN | apply below_drew1) | exact HB.out)) hb); clear HB; have HB := n0_; clear n0_; (try clear hb); (try clear hb2); (try clear hk); (try clear hi)) | ((with_reducible refine gate_callee (f := 15) rfl ?_); refine goesL_ (some 23) rfl rfl Tryd.func15 (by kernel_rfl) rfl #[.string a0, .int .i64 a1] rfl (by (try simp only [List.map_toArray, List.map_cons, List.map_nil]); first | done | rfl | (simp only [List.length_drop, List.length_take]; rfl)) ?_; (with_reducible refine (deci_Read.calls k a0 a1 t269 t270 _ A8.out).mono ?_); rintro e w19 ⟨rfl, hb⟩; refine ⟨_, rfl, ?_⟩; have n0_ := Aside0.mk (below_step (by repeat (first | (with_reducible first | exact HB.out | apply below_alloc | apply pw_below_drewN | apply below_drew1) | exact HB.out)) hb); clear HB; have HB := n0_; clear n0_; (try clear hb); (try clear hb2); (try clear hk); (try clear hi)) | ((with_reducible refine gate_callee (f := 16) rfl ?_); refine goesL_ (some 29) rfl rfl Tryd.func16 (by kernel_rfl) rfl #[.string a0, .int .i64 a1] rfl (by (try simp only [List.map_toArray, List.map_cons, List.map_nil]); first | done | rfl | (simp only [List.length_drop, List.length_take]; rfl)) ?_; (with_reducible refine (jitneyref03_Read.calls k a0 a1 t271 t272 _ A9.out).mono ?_); rintro e w' ⟨rfl, ⟨nd, rfl⟩⟩; refine ⟨_, rfl, ?_⟩) | ((with_reducible refine gate_callee (f := 17) rfl ?_); refine goesL_ (some 34) rfl rfl Tryd.func17 (by kernel_rfl) rfl #[.string a0] rfl (by (try simp only [List.map_toArray, List.map_cons, List.map_nil]); first | done | rfl | (simp only [List.length_drop, List.length_take]; rfl)) ?_; (with_reducible refine (deci_Whole.calls k a0 t273 t274 _ A10.out).mono ?_); rintro e w20 ⟨rfl, hb⟩; refine ⟨_, rfl, ?_⟩; have n0_ := Aside0.mk (below_step (by repeat (first | (with_reducible first | exact HB.out | apply below_alloc | apply pw_below_drewN | apply below_drew1) | exact HB.out)) hb); clear HB; have HB := n0_; clear n0_; (try clear hb); (try clear hb2); (try clear hk); (try clear hi)) | ((with_reducible refine gate_callee (f := 18) rfl ?_); refine goesL_ (some 39) rfl rfl Tryd.func18 (by kernel_rfl) rfl #[.string a0] rfl (by (try simp only [List.map_toArray, List.map_cons, List.map_nil]); first | done | rfl | (simp only [List.length_drop, List.length_take]; rfl)) ?_; (with_reducible refine (jitneyref03_Whole.calls k a0 t275 t276 _ A11.out).mono ?_); rintro e w' ⟨rfl, ⟨nd, rfl⟩⟩; refine ⟨_, rfl, ?_⟩) | (go_at_call 14; (with_reducible refine (deci_Write.calls k a2 a1 t277 _ A14.out (GW.step hG (by repeat (first | (with_reducible first | exact HB.out | apply below_alloc | apply pw_below_drewN | apply below_drew1) | exact HB.out)))).mono ?_); rintro e w21 ⟨rfl, hb⟩; have n0_ := Aside0.mk (below_step (by repeat (first | (with_reducible first | exact HB.out | apply below_alloc | apply pw_below_drewN | apply below_drew1) | exact HB.out)) hb); clear HB; have HB := n0_; clear n0_; (try clear hb); (try clear hb2); (try clear hk); (try clear hi)) | (go_at_call 19; (with_reducible refine (jitneyref03_Write.calls k a2 a1 t278 _ A15.out (GW.step hG (by repeat (first | (with_reducible first | exact HB.out | apply below_alloc | apply pw_below_drewN | apply below_drew1) | exact HB.out)))).mono ?_); rintro e w22 ⟨rfl, hb⟩; have n0_ := Aside0.mk (below_step (by repeat (first | (with_reducible first | exact HB.out | apply below_alloc | apply pw_below_drewN | apply below_drew1) | exact HB.out)) hb); clear HB; have HB := n0_; clear n0_; (try clear hb); (try clear hb2); (try clear hk); (try clear hi)))
              go_ret
              exact ⟨by first | rfl | (simp [errW_none, errW_some] <;> rfl) | (simp [*, errW_none, errW_some] <;> rfl), by repeat (first | (with_reducible first | exact HB.out | apply below_alloc | apply pw_below_drewN | apply below_drew1) | exact HB.out)⟩
            · rw [if_neg c17] at H
              have c17b0 : (t273 == t275) = false := beq_eq_false_iff_ne.mpr c17
              have c17b1 : (t273 != t275) = true := bne_iff_ne.mpr c17
              obtain rfl := Option.some.inj H
              go_enter Tryd.func7, Tryd.ntmps7
              go_wp2_with (first | ((with_reducible refine gate_callee (f := 8) rfl ?_); refine goesL_ (some 15) rfl rfl Tryd.func8 (by kernel_rfl) rfl #[] rfl (by (try simp only [List.map_toArray, List.map_cons, List.map_nil]); first | done | rfl | (simp only [List.length_drop, List.length_take]; rfl)) ?_; (with_reducible refine (jitneylaw03_alive.calls k  true _ A4.out (GW.step hG (by repeat (first | (with_reducible first | exact HB.out | apply below_alloc | apply pw_below_drewN | apply below_drew1) | exact HB.out)))).mono ?_); rintro e w23 ⟨rfl, hb⟩; refine ⟨_, rfl, ?_⟩; have n0_ := Aside0.mk (below_step (by repeat (first | (with_reducible first | exact HB.out | apply below_alloc | apply pw_below_drewN | apply below_drew1) | exact HB.out)) hb); clear HB; have HB := n0_; clear n0_; (try clear hb); (try clear hb2); (try clear hk); (try clear hi)) | ((with_reducible refine gate_callee (f := 15) rfl ?_); refine goesL_ (some 23) rfl rfl Tryd.func15 (by kernel_rfl) rfl #[.string a0, .int .i64 a1] rfl (by (try simp only [List.map_toArray, List.map_cons, List.map_nil]); first | done | rfl | (simp only [List.length_drop, List.length_take]; rfl)) ?_; (with_reducible refine (deci_Read.calls k a0 a1 t269 t270 _ A8.out).mono ?_); rintro e w24 ⟨rfl, hb⟩; refine ⟨_, rfl, ?_⟩; have n0_ := Aside0.mk (below_step (by repeat (first | (with_reducible first | exact HB.out | apply below_alloc | apply pw_below_drewN | apply below_drew1) | exact HB.out)) hb); clear HB; have HB := n0_; clear n0_; (try clear hb); (try clear hb2); (try clear hk); (try clear hi)) | ((with_reducible refine gate_callee (f := 16) rfl ?_); refine goesL_ (some 29) rfl rfl Tryd.func16 (by kernel_rfl) rfl #[.string a0, .int .i64 a1] rfl (by (try simp only [List.map_toArray, List.map_cons, List.map_nil]); first | done | rfl | (simp only [List.length_drop, List.length_take]; rfl)) ?_; (with_reducible refine (jitneyref03_Read.calls k a0 a1 t271 t272 _ A9.out).mono ?_); rintro e w' ⟨rfl, ⟨nd, rfl⟩⟩; refine ⟨_, rfl, ?_⟩) | ((with_reducible refine gate_callee (f := 17) rfl ?_); refine goesL_ (some 34) rfl rfl Tryd.func17 (by kernel_rfl) rfl #[.string a0] rfl (by (try simp only [List.map_toArray, List.map_cons, List.map_nil]); first | done | rfl | (simp only [List.length_drop, List.length_take]; rfl)) ?_; (with_reducible refine (deci_Whole.calls k a0 t273 t274 _ A10.out).mono ?_); rintro e w25 ⟨rfl, hb⟩; refine ⟨_, rfl, ?_⟩; have n0_ := Aside0.mk (below_step (by repeat (first | (with_reducible first | exact HB.out | apply below_alloc | apply pw_below_drewN | apply below_drew1) | exact HB.out)) hb); clear HB; have HB := n0_; clear n0_; (try clear hb); (try clear hb2); (try clear hk); (try clear hi)) | ((with_reducible refine gate_callee (f := 18) rfl ?_); refine goesL_ (some 39) rfl rfl Tryd.func18 (by kernel_rfl) rfl #[.string a0] rfl (by (try simp only [List.map_toArray, List.map_cons, List.map_nil]); first | done | rfl | (simp only [List.length_drop, List.length_take]; rfl)) ?_; (with_reducible refine (jitneyref03_Whole.calls k a0 t275 t276 _ A11.out).mono ?_); rintro e w' ⟨rfl, ⟨nd, rfl⟩⟩; refine ⟨_, rfl, ?_⟩) | (go_at_call 14; (with_reducible refine (deci_Write.calls k a2 a1 t277 _ A14.out (GW.step hG (by repeat (first | (with_reducible first | exact HB.out | apply below_alloc | apply pw_below_drewN | apply below_drew1) | exact HB.out)))).mono ?_); rintro e w26 ⟨rfl, hb⟩; have n0_ := Aside0.mk (below_step (by repeat (first | (with_reducible first | exact HB.out | apply below_alloc | apply pw_below_drewN | apply below_drew1) | exact HB.out)) hb); clear HB; have HB := n0_; clear n0_; (try clear hb); (try clear hb2); (try clear hk); (try clear hi)) | (go_at_call 19; (with_reducible refine (jitneyref03_Write.calls k a2 a1 t278 _ A15.out (GW.step hG (by repeat (first | (with_reducible first | exact HB.out | apply below_alloc | apply pw_below_drewN | apply below_drew1) | exact HB.out)))).mono ?_); rintro e w27 ⟨rfl, hb⟩; have n0_ := Aside0.mk (below_step (by repeat (first | (with_reducible first | exact HB.out | apply below_alloc | apply pw_below_drewN | apply below_drew1) | exact HB.out)) hb); clear HB; have HB := n0_; clear n0_; (try clear hb); (try clear hb2); (try clear hk); (try clear hi)))
              go_ret
              exact ⟨by first | rfl | (simp [errW_none, errW_some] <;> rfl) | (simp [*, errW_none, errW_some] <;> rfl), by repeat (first | (with_reducible first | exact HB.out | apply below_alloc | apply pw_below_drewN | apply below_drew1) | exact HB.out)⟩
          · rw [if_neg c16] at H
            have c16b0 : (t277.toList == t278.toList) = false := beq_eq_false_iff_ne.mpr c16
            have c16b1 : (t277.toList != t278.toList) = true := bne_iff_ne.mpr c16
            obtain rfl := Option.some.inj H
            go_enter Tryd.func7, Tryd.ntmps7
            go_wp2_with (first | ((with_reducible refine gate_callee (f := 8) rfl ?_); refine goesL_ (some 15) rfl rfl Tryd.func8 (by kernel_rfl) rfl #[] rfl (by (try simp only [List.map_toArray, List.map_cons, List.map_nil]); first | done | rfl | (simp only [List.length_drop, List.length_take]; rfl)) ?_; (with_reducible refine (jitneylaw03_alive.calls k  true _ A4.out (GW.step hG (by repeat (first | (with_reducible first | exact HB.out | apply below_alloc | apply pw_below_drewN | apply below_drew1) | exact HB.out)))).mono ?_); rintro e w28 ⟨rfl, hb⟩; refine ⟨_, rfl, ?_⟩; have n0_ := Aside0.mk (below_step (by repeat (first | (with_reducible first | exact HB.out | apply below_alloc | apply pw_below_drewN | apply below_drew1) | exact HB.out)) hb); clear HB; have HB := n0_; clear n0_; (try clear hb); (try clear hb2); (try clear hk); (try clear hi)) | ((with_reducible refine gate_callee (f := 15) rfl ?_); refine goesL_ (some 23) rfl rfl Tryd.func15 (by kernel_rfl) rfl #[.string a0, .int .i64 a1] rfl (by (try simp only [List.map_toArray, List.map_cons, List.map_nil]); first | done | rfl | (simp only [List.length_drop, List.length_take]; rfl)) ?_; (with_reducible refine (deci_Read.calls k a0 a1 t269 t270 _ A8.out).mono ?_); rintro e w29 ⟨rfl, hb⟩; refine ⟨_, rfl, ?_⟩; have n0_ := Aside0.mk (below_step (by repeat (first | (with_reducible first | exact HB.out | apply below_alloc | apply pw_below_drewN | apply below_drew1) | exact HB.out)) hb); clear HB; have HB := n0_; clear n0_; (try clear hb); (try clear hb2); (try clear hk); (try clear hi)) | ((with_reducible refine gate_callee (f := 16) rfl ?_); refine goesL_ (some 29) rfl rfl Tryd.func16 (by kernel_rfl) rfl #[.string a0, .int .i64 a1] rfl (by (try simp only [List.map_toArray, List.map_cons, List.map_nil]); first | done | rfl | (simp only [List.length_drop, List.length_take]; rfl)) ?_; (with_reducible refine (jitneyref03_Read.calls k a0 a1 t271 t272 _ A9.out).mono ?_); rintro e w' ⟨rfl, ⟨nd, rfl⟩⟩; refine ⟨_, rfl, ?_⟩) | ((with_reducible refine gate_callee (f := 17) rfl ?_); refine goesL_ (some 34) rfl rfl Tryd.func17 (by kernel_rfl) rfl #[.string a0] rfl (by (try simp only [List.map_toArray, List.map_cons, List.map_nil]); first | done | rfl | (simp only [List.length_drop, List.length_take]; rfl)) ?_; (with_reducible refine (deci_Whole.calls k a0 t273 t274 _ A10.out).mono ?_); rintro e w30 ⟨rfl, hb⟩; refine ⟨_, rfl, ?_⟩; have n0_ := Aside0.mk (below_step (by repeat (first | (with_reducible first | exact HB.out | apply below_alloc | apply pw_below_drewN | apply below_drew1) | exact HB.out)) hb); clear HB; have HB := n0_; clear n0_; (try clear hb); (try clear hb2); (try clear hk); (try clear hi)) | ((with_reducible refine gate_callee (f := 18) rfl ?_); refine goesL_ (some 39) rfl rfl Tryd.func18 (by kernel_rfl) rfl #[.string a0] rfl (by (try simp only [List.map_toArray, List.map_cons, List.map_nil]); first | done | rfl | (simp only [List.length_drop, List.length_take]; rfl)) ?_; (with_reducible refine (jitneyref03_Whole.calls k a0 t275 t276 _ A11.out).mono ?_); rintro e w' ⟨rfl, ⟨nd, rfl⟩⟩; refine ⟨_, rfl, ?_⟩) | (go_at_call 14; (with_reducible refine (deci_Write.calls k a2 a1 t277 _ A14.out (GW.step hG (by repeat (first | (with_reducible first | exact HB.out | apply below_alloc | apply pw_below_drewN | apply below_drew1) | exact HB.out)))).mono ?_); rintro e w31 ⟨rfl, hb⟩; have n0_ := Aside0.mk (below_step (by repeat (first | (with_reducible first | exact HB.out | apply below_alloc | apply pw_below_drewN | apply below_drew1) | exact HB.out)) hb); clear HB; have HB := n0_; clear n0_; (try clear hb); (try clear hb2); (try clear hk); (try clear hi)) | (go_at_call 19; (with_reducible refine (jitneyref03_Write.calls k a2 a1 t278 _ A15.out (GW.step hG (by repeat (first | (with_reducible first | exact HB.out | apply below_alloc | apply pw_below_drewN | apply below_drew1) | exact HB.out)))).mono ?_); rintro e w32 ⟨rfl, hb⟩; have n0_ := Aside0.mk (below_step (by repeat (first | (with_reducible first | exact HB.out | apply below_alloc | apply pw_below_drewN | apply below_drew1) | exact HB.out)) hb); clear HB; have HB := n0_; clear n0_; (try clear hb); (try clear hb2); (try clear hk); (try clear hi)))
            go_ret
            exact ⟨by first | rfl | (simp [errW_none, errW_some] <;> rfl) | (simp [*, errW_none, errW_some] <;> rfl), by repeat (first | (with_reducible first | exact HB.out | apply below_alloc | apply pw_below_drewN | apply below_drew1) | exact HB.out)⟩
        · rw [if_neg c13] at H
          have c13b0 : (t270 == t272) = false := beq_eq_false_iff_ne.mpr c13
          have c13b1 : (t270 != t272) = true := bne_iff_ne.mpr c13
          obtain rfl := Option.some.inj H
          go_enter Tryd.func7, Tryd.ntmps7
          go_wp2_with (first | ((with_reducible refine gate_callee (f := 8) rfl ?_); refine goesL_ (some 15) rfl rfl Tryd.func8 (by kernel_rfl) rfl #[] rfl (by (try simp only [List.map_toArray, List.map_cons, List.map_nil]); first | done | rfl | (simp only [List.length_drop, List.length_take]; rfl)) ?_; (with_reducible refine (jitneylaw03_alive.calls k  true _ A4.out (GW.step hG (by repeat (first | (with_reducible first | exact HB.out | apply below_alloc | apply pw_below_drewN | apply below_drew1) | exact HB.out)))).mono ?_); rintro e w33 ⟨rfl, hb⟩; refine ⟨_, rfl, ?_⟩; have n0_ := Aside0.mk (below_step (by repeat (first | (with_reducible first | exact HB.out | apply below_alloc | apply pw_below_drewN | apply below_drew1) | exact HB.out)) hb); clear HB; have HB := n0_; clear n0_; (try clear hb); (try clear hb2); (try clear hk); (try clear hi)) | ((with_reducible refine gate_callee (f := 15) rfl ?_); refine goesL_ (some 23) rfl rfl Tryd.func15 (by kernel_rfl) rfl #[.string a0, .int .i64 a1] rfl (by (try simp only [List.map_toArray, List.map_cons, List.map_nil]); first | done | rfl | (simp only [List.length_drop, List.length_take]; rfl)) ?_; (with_reducible refine (deci_Read.calls k a0 a1 t269 t270 _ A8.out).mono ?_); rintro e w34 ⟨rfl, hb⟩; refine ⟨_, rfl, ?_⟩; have n0_ := Aside0.mk (below_step (by repeat (first | (with_reducible first | exact HB.out | apply below_alloc | apply pw_below_drewN | apply below_drew1) | exact HB.out)) hb); clear HB; have HB := n0_; clear n0_; (try clear hb); (try clear hb2); (try clear hk); (try clear hi)) | ((with_reducible refine gate_callee (f := 16) rfl ?_); refine goesL_ (some 29) rfl rfl Tryd.func16 (by kernel_rfl) rfl #[.string a0, .int .i64 a1] rfl (by (try simp only [List.map_toArray, List.map_cons, List.map_nil]); first | done | rfl | (simp only [List.length_drop, List.length_take]; rfl)) ?_; (with_reducible refine (jitneyref03_Read.calls k a0 a1 t271 t272 _ A9.out).mono ?_); rintro e w' ⟨rfl, ⟨nd, rfl⟩⟩; refine ⟨_, rfl, ?_⟩) | ((with_reducible refine gate_callee (f := 17) rfl ?_); refine goesL_ (some 34) rfl rfl Tryd.func17 (by kernel_rfl) rfl #[.string a0] rfl (by (try simp only [List.map_toArray, List.map_cons, List.map_nil]); first | done | rfl | (simp only [List.length_drop, List.length_take]; rfl)) ?_; (with_reducible refine (deci_Whole.calls k a0 t273 t274 _ A10.out).mono ?_); rintro e w35 ⟨rfl, hb⟩; refine ⟨_, rfl, ?_⟩; have n0_ := Aside0.mk (below_step (by repeat (first | (with_reducible first | exact HB.out | apply below_alloc | apply pw_below_drewN | apply below_drew1) | exact HB.out)) hb); clear HB; have HB := n0_; clear n0_; (try clear hb); (try clear hb2); (try clear hk); (try clear hi)) | ((with_reducible refine gate_callee (f := 18) rfl ?_); refine goesL_ (some 39) rfl rfl Tryd.func18 (by kernel_rfl) rfl #[.string a0] rfl (by (try simp only [List.map_toArray, List.map_cons, List.map_nil]); first | done | rfl | (simp only [List.length_drop, List.length_take]; rfl)) ?_; (with_reducible refine (jitneyref03_Whole.calls k a0 t275 t276 _ A11.out).mono ?_); rintro e w' ⟨rfl, ⟨nd, rfl⟩⟩; refine ⟨_, rfl, ?_⟩))
          go_ret
          exact ⟨by first | rfl | (simp [errW_none, errW_some] <;> rfl) | (simp [*, errW_none, errW_some] <;> rfl), by repeat (first | (with_reducible first | exact HB.out | apply below_alloc | apply pw_below_drewN | apply below_drew1) | exact HB.out)⟩
      · rw [if_neg c12] at H
        have c12b0 : (t269 == t271) = false := beq_eq_false_iff_ne.mpr c12
        have c12b1 : (t269 != t271) = true := bne_iff_ne.mpr c12
        obtain rfl := Option.some.inj H
        go_enter Tryd.func7, Tryd.ntmps7
        go_wp2_with (first | ((with_reducible refine gate_callee (f := 8) rfl ?_); refine goesL_ (some 15) rfl rfl Tryd.func8 (by kernel_rfl) rfl #[] rfl (by (try simp only [List.map_toArray, List.map_cons, List.map_nil]); first | done | rfl | (simp only [List.length_drop, List.length_take]; rfl)) ?_; (with_reducible refine (jitneylaw03_alive.calls k  true _ A4.out (GW.step hG (by repeat (first | (with_reducible first | exact HB.out | apply below_alloc | apply pw_below_drewN | apply below_drew1) | exact HB.out)))).mono ?_); rintro e w36 ⟨rfl, hb⟩; refine ⟨_, rfl, ?_⟩; have n0_ := Aside0.mk (below_step (by repeat (first | (with_reducible first | exact HB.out | apply below_alloc | apply pw_below_drewN | apply below_drew1) | exact HB.out)) hb); clear HB; have HB := n0_; clear n0_; (try clear hb); (try clear hb2); (try clear hk); (try clear hi)) | ((with_reducible refine gate_callee (f := 15) rfl ?_); refine goesL_ (some 23) rfl rfl Tryd.func15 (by kernel_rfl) rfl #[.string a0, .int .i64 a1] rfl (by (try simp only [List.map_toArray, List.map_cons, List.map_nil]); first | done | rfl | (simp only [List.length_drop, List.length_take]; rfl)) ?_; (with_reducible refine (deci_Read.calls k a0 a1 t269 t270 _ A8.out).mono ?_); rintro e w37 ⟨rfl, hb⟩; refine ⟨_, rfl, ?_⟩; have n0_ := Aside0.mk (below_step (by repeat (first | (with_reducible first | exact HB.out | apply below_alloc | apply pw_below_drewN | apply below_drew1) | exact HB.out)) hb); clear HB; have HB := n0_; clear n0_; (try clear hb); (try clear hb2); (try clear hk); (try clear hi)) | ((with_reducible refine gate_callee (f := 16) rfl ?_); refine goesL_ (some 29) rfl rfl Tryd.func16 (by kernel_rfl) rfl #[.string a0, .int .i64 a1] rfl (by (try simp only [List.map_toArray, List.map_cons, List.map_nil]); first | done | rfl | (simp only [List.length_drop, List.length_take]; rfl)) ?_; (with_reducible refine (jitneyref03_Read.calls k a0 a1 t271 t272 _ A9.out).mono ?_); rintro e w' ⟨rfl, ⟨nd, rfl⟩⟩; refine ⟨_, rfl, ?_⟩) | ((with_reducible refine gate_callee (f := 17) rfl ?_); refine goesL_ (some 34) rfl rfl Tryd.func17 (by kernel_rfl) rfl #[.string a0] rfl (by (try simp only [List.map_toArray, List.map_cons, List.map_nil]); first | done | rfl | (simp only [List.length_drop, List.length_take]; rfl)) ?_; (with_reducible refine (deci_Whole.calls k a0 t273 t274 _ A10.out).mono ?_); rintro e w38 ⟨rfl, hb⟩; refine ⟨_, rfl, ?_⟩; have n0_ := Aside0.mk (below_step (by repeat (first | (with_reducible first | exact HB.out | apply below_alloc | apply pw_below_drewN | apply below_drew1) | exact HB.out)) hb); clear HB; have HB := n0_; clear n0_; (try clear hb); (try clear hb2); (try clear hk); (try clear hi)) | ((with_reducible refine gate_callee (f := 18) rfl ?_); refine goesL_ (some 39) rfl rfl Tryd.func18 (by kernel_rfl) rfl #[.string a0] rfl (by (try simp only [List.map_toArray, List.map_cons, List.map_nil]); first | done | rfl | (simp only [List.length_drop, List.length_take]; rfl)) ?_; (with_reducible refine (jitneyref03_Whole.calls k a0 t275 t276 _ A11.out).mono ?_); rintro e w' ⟨rfl, ⟨nd, rfl⟩⟩; refine ⟨_, rfl, ?_⟩))
        go_ret
        exact ⟨by first | rfl | (simp [errW_none, errW_some] <;> rfl) | (simp [*, errW_none, errW_some] <;> rfl), by repeat (first | (with_reducible first | exact HB.out | apply below_alloc | apply pw_below_drewN | apply below_drew1) | exact HB.out)⟩
  · replace c5 := Bool.eq_false_iff.mpr c5
    subst c5
    have H1 : (some false) = some r := by rw [if_neg (show ¬ (false = true) by decide)] at H; exact H
    clear H
    have H := H1
    clear H1
    obtain rfl := Option.some.inj H
    go_enter Tryd.func7, Tryd.ntmps7
    go_wp2_with (first | ((with_reducible refine gate_callee (f := 8) rfl ?_); refine goesL_ (some 15) rfl rfl Tryd.func8 (by kernel_rfl) rfl #[] rfl (by (try simp only [List.map_toArray, List.map_cons, List.map_nil]); first | done | rfl | (simp only [List.length_drop, List.length_take]; rfl)) ?_; (with_reducible refine (jitneylaw03_alive.calls k  false _ A4.out (GW.step hG (by repeat (first | (with_reducible first | exact HB.out | apply below_alloc | apply pw_below_drewN | apply below_drew1) | exact HB.out)))).mono ?_); rintro e w39 ⟨rfl, hb⟩; refine ⟨_, rfl, ?_⟩; have n0_ := Aside0.mk (below_step (by repeat (first | (with_reducible first | exact HB.out | apply below_alloc | apply pw_below_drewN | apply below_drew1) | exact HB.out)) hb); clear HB; have HB := n0_; clear n0_; (try clear hb); (try clear hb2); (try clear hk); (try clear hi)))
    go_ret
    exact ⟨by first | rfl | (simp [errW_none, errW_some] <;> rfl) | (simp [*, errW_none, errW_some] <;> rfl), by repeat (first | (with_reducible first | exact HB.out | apply below_alloc | apply pw_below_drewN | apply below_drew1) | exact HB.out)⟩

end Go.Proofs.YtfhpppibiemhkaaDoor.P
