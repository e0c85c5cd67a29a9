-- printed by the session's own program wip/xprint.py (over the kit's printer); nothing here is trusted: Lean checks it
import Derived.Test.YtfhpppibiemhkaaDoorStr
import Derived.Test.YtfhpppibiemhkaaDoorP0
import Derived.Test.YtfhpppibiemhkaaDoorP3
import Derived.Test.YtfhpppibiemhkaaDoorP9
import Derived.Test.YtfhpppibiemhkaaDoorP12
import Derived.Test.YtfhpppibiemhkaaDoorP13
namespace Go.Proofs.YtfhpppibiemhkaaDoor.P
open Go.Proofs.YtfhpppibiemhkaaDoorR
open Go.RowKit Go.Proofs.YtfhpppibiemhkaaDoorW.PrintWords Go.Proofs.YtfhpppibiemhkaaDoorW.PrintLast Go.Proofs.YtfhpppibiemhkaaDoorW.PrintMore
attribute [local go_sem] max2_int min2_int max_two min_two max_three min_three max_four min_four   -- for this text's walks alone
set_option linter.unusedVariables false
set_option linter.unusedSimpArgs false

/-! ### jitneylaw03_DeciBack: function 4 -/
mutual
def jitneylaw03_DeciBack.j0 : Nat → Int → Int → ByteArray → Bool → Option (Bool)
  | 0, _, _, _, _ => none
  | k + 1, x0, x1, x2, x34 => if x34 = true then (some true) else ((deci_Write.f k (Int.tmod x0 1099511627777) x1).bind fun t206 => ((deci_Read.f k t206 x1).bind fun bt207 => (if bt207.1 = (Int.tmod x0 1099511627777) then (jitneylaw03_DeciBack.j1 k x1 x2 (bt207.2 != 0)) else (jitneylaw03_DeciBack.j1 k x1 x2 true))))
def jitneylaw03_DeciBack.j1 : Nat → Int → ByteArray → Bool → Option (Bool)
  | 0, _, _, _ => none
  | k + 1, x1, x2, x52 => if x52 = true then (some false) else ((deci_Read.f k x2 x1).bind fun bt209 => (if bt209.2 = 0 then ((deci_Write.f k bt209.1 x1).bind fun t211 => (jitneylaw03_DeciBack.j2 k x2 (decide ((t211.size : Int) > (x2.size : Int))))) else (jitneylaw03_DeciBack.j2 k x2 false)))
def jitneylaw03_DeciBack.j2 : Nat → ByteArray → Bool → Option (Bool)
  | 0, _, _ => none
  | k + 1, x2, x69 => if x69 = true then (some false) else ((deci_Lines.f x2).bind fun bt212 => (if bt212.2 = 0 then (jitneylaw03_DeciBack.l0 k x2 (⟨#[]⟩ : ByteArray) bt212.1 (bt212.1.length : Int) 0) else (some ((bt212.1.length : Int) == 0))))
def jitneylaw03_DeciBack.l0 : Nat → ByteArray → ByteArray → List ByteArray → Int → Int → Option (Bool)
  | 0, _, _, _, _, _ => none
  | k + 1, x2, x14, x80, x81, x82 => if x82 < x81 then (if 0 ≤ x82 then (if x82 < (x80.length : Int) then (if (rdOf ByteArray.empty x80 x82).size + 1 ≤ 9223372036854775807 then (if x14.size + ((rdOf ByteArray.empty x80 x82) ++ (⟨#[10]⟩ : ByteArray)).size ≤ 9223372036854775807 then ((deci_Words.f k (rdOf ByteArray.empty x80 x82)).bind fun bt217 => (jitneylaw03_DeciBack.l1 k x2 (x14 ++ ((rdOf ByteArray.empty x80 x82) ++ (⟨#[10]⟩ : ByteArray))) (rdOf ByteArray.empty x80 x82) bt217.2 (⟨#[]⟩ : ByteArray) x80 x81 x82 bt217.1 (bt217.1.length : Int) 0)) else (none)) else (none)) else (none)) else (none)) else (some (x14.toList == x2.toList))
def jitneylaw03_DeciBack.l1 : Nat → ByteArray → ByteArray → ByteArray → Int → ByteArray → List ByteArray → Int → Int → List ByteArray → Int → Int → Option (Bool)
  | 0, _, _, _, _, _, _, _, _, _, _, _ => none
  | k + 1, x2, x14, x16, x18, x19, x80, x81, x82, x95, x96, x97 => if x97 < x96 then (if 0 ≤ x97 then (if x97 < (x95.length : Int) then (if x97 > 0 then (if x19.size + 1 ≤ 9223372036854775807 then (if (x19 ++ (⟨#[32]⟩ : ByteArray)).size + (rdOf ByteArray.empty x95 x97).size ≤ 9223372036854775807 then (jitneylaw03_DeciBack.l1 k x2 x14 x16 x18 ((x19 ++ (⟨#[32]⟩ : ByteArray)) ++ (rdOf ByteArray.empty x95 x97)) x80 x81 x82 x95 x96 (wrap64 (x97 + 1))) else (none)) else (none)) else (if x19.size + (rdOf ByteArray.empty x95 x97).size ≤ 9223372036854775807 then (jitneylaw03_DeciBack.l1 k x2 x14 x16 x18 (x19 ++ (rdOf ByteArray.empty x95 x97)) x80 x81 x82 x95 x96 (wrap64 (x97 + 1))) else (none))) else (none)) else (none)) else (if x18 = 0 then (if x19.toList = x16.toList then (jitneylaw03_DeciBack.l0 k x2 x14 x80 x81 (wrap64 (x82 + 1))) else (some false)) else (jitneylaw03_DeciBack.l0 k x2 x14 x80 x81 (wrap64 (x82 + 1))))
end
def jitneylaw03_DeciBack.f (k : Nat) (a0 : Int) (a1 : Int) (a2 : ByteArray) : Option (Bool) := (jitneylaw03_alive.f k).bind fun t205 => (if t205 = true then (if a1 < 0 then (jitneylaw03_DeciBack.j0 k a0 a1 a2 true) else (if a1 > 6 then (jitneylaw03_DeciBack.j0 k a0 a1 a2 true) else (jitneylaw03_DeciBack.j0 k a0 a1 a2 (decide ((a2.size : Int) > 2000))))) else (some false))
theorem jitneylaw03_DeciBack.mono_l : ∀ k, (∀ y0 y1 y2 y3, LeO (jitneylaw03_DeciBack.j0 k y0 y1 y2 y3) (jitneylaw03_DeciBack.j0 (k + 1) y0 y1 y2 y3)) ∧ (∀ y0 y1 y2, LeO (jitneylaw03_DeciBack.j1 k y0 y1 y2) (jitneylaw03_DeciBack.j1 (k + 1) y0 y1 y2)) ∧ (∀ y0 y1, LeO (jitneylaw03_DeciBack.j2 k y0 y1) (jitneylaw03_DeciBack.j2 (k + 1) y0 y1)) ∧ (∀ y0 y1 y2 y3 y4, LeO (jitneylaw03_DeciBack.l0 k y0 y1 y2 y3 y4) (jitneylaw03_DeciBack.l0 (k + 1) y0 y1 y2 y3 y4)) ∧ (∀ y0 y1 y2 y3 y4 y5 y6 y7 y8 y9 y10, LeO (jitneylaw03_DeciBack.l1 k y0 y1 y2 y3 y4 y5 y6 y7 y8 y9 y10) (jitneylaw03_DeciBack.l1 (k + 1) y0 y1 y2 y3 y4 y5 y6 y7 y8 y9 y10))
  | 0 => ⟨fun _ _ _ _ r h => by simp [jitneylaw03_DeciBack.j0] at h, fun _ _ _ r h => by simp [jitneylaw03_DeciBack.j1] at h, fun _ _ r h => by simp [jitneylaw03_DeciBack.j2] at h, fun _ _ _ _ _ r h => by simp [jitneylaw03_DeciBack.l0] at h, fun _ _ _ _ _ _ _ _ _ _ _ r h => by simp [jitneylaw03_DeciBack.l1] at h⟩
  | k + 1 => by
    obtain ⟨ih0, ih1, ih2, ih3, ih4⟩ := jitneylaw03_DeciBack.mono_l k
    refine ⟨?_, ?_, ?_, ?_, ?_⟩
    · intro y0 y1 y2 y3
      unfold jitneylaw03_DeciBack.j0
      repeat' first
      | (with_reducible exact ih0 _ _ _ _)
      | (with_reducible exact ih1 _ _ _)
      | (with_reducible exact ih2 _ _)
      | (with_reducible exact ih3 _ _ _ _ _)
      | (with_reducible exact ih4 _ _ _ _ _ _ _ _ _ _ _)
      | (with_reducible exact deci_Read.mono _ _ _)
      | (with_reducible exact deci_Words.mono _ _)
      | (with_reducible exact deci_Write.mono _ _ _)
      | (with_reducible exact jitneylaw03_alive.mono _)
      | (with_reducible exact LeO.refl _)
      | (with_reducible exact LeO.none _)
      | (with_reducible refine LeO.ite ?_ ?_)
      | (with_reducible refine LeO.bind ?_ (fun _ => ?_))
      | exact ih0 _ _ _ _
      | exact ih1 _ _ _
      | exact ih2 _ _
      | exact ih3 _ _ _ _ _
      | exact ih4 _ _ _ _ _ _ _ _ _ _ _
      | exact deci_Read.mono _ _ _
      | exact deci_Words.mono _ _
      | exact deci_Write.mono _ _ _
      | exact jitneylaw03_alive.mono _
      | exact LeO.none _
      | refine LeO.ite ?_ ?_
      | refine LeO.bind ?_ (fun _ => ?_)
    · intro y0 y1 y2
      unfold jitneylaw03_DeciBack.j1
      repeat' first
      | (with_reducible exact ih0 _ _ _ _)
      | (with_reducible exact ih1 _ _ _)
      | (with_reducible exact ih2 _ _)
      | (with_reducible exact ih3 _ _ _ _ _)
      | (with_reducible exact ih4 _ _ _ _ _ _ _ _ _ _ _)
      | (with_reducible exact deci_Read.mono _ _ _)
      | (with_reducible exact deci_Words.mono _ _)
      | (with_reducible exact deci_Write.mono _ _ _)
      | (with_reducible exact jitneylaw03_alive.mono _)
      | (with_reducible exact LeO.refl _)
      | (with_reducible exact LeO.none _)
      | (with_reducible refine LeO.ite ?_ ?_)
      | (with_reducible refine LeO.bind ?_ (fun _ => ?_))
      | exact ih0 _ _ _ _
      | exact ih1 _ _ _
      | exact ih2 _ _
      | exact ih3 _ _ _ _ _
      | exact ih4 _ _ _ _ _ _ _ _ _ _ _
      | exact deci_Read.mono _ _ _
      | exact deci_Words.mono _ _
      | exact deci_Write.mono _ _ _
      | exact jitneylaw03_alive.mono _
      | exact LeO.none _
      | refine LeO.ite ?_ ?_
      | refine LeO.bind ?_ (fun _ => ?_)
    · intro y0 y1
      unfold jitneylaw03_DeciBack.j2
      repeat' first
      | (with_reducible exact ih0 _ _ _ _)
      | (with_reducible exact ih1 _ _ _)
      | (with_reducible exact ih2 _ _)
      | (with_reducible exact ih3 _ _ _ _ _)
      | (with_reducible exact ih4 _ _ _ _ _ _ _ _ _ _ _)
      | (with_reducible exact deci_Read.mono _ _ _)
      | (with_reducible exact deci_Words.mono _ _)
      | (with_reducible exact deci_Write.mono _ _ _)
      | (with_reducible exact jitneylaw03_alive.mono _)
      | (with_reducible exact LeO.refl _)
      | (with_reducible exact LeO.none _)
      | (with_reducible refine LeO.ite ?_ ?_)
      | (with_reducible refine LeO.bind ?_ (fun _ => ?_))
      | exact ih0 _ _ _ _
      | exact ih1 _ _ _
      | exact ih2 _ _
      | exact ih3 _ _ _ _ _
      | exact ih4 _ _ _ _ _ _ _ _ _ _ _
      | exact deci_Read.mono _ _ _
      | exact deci_Words.mono _ _
      | exact deci_Write.mono _ _ _
      | exact jitneylaw03_alive.mono _
      | exact LeO.none _
      | refine LeO.ite ?_ ?_
      | refine LeO.bind ?_ (fun _ => ?_)
    · intro y0 y1 y2 y3 y4
      unfold jitneylaw03_DeciBack.l0
      repeat' first
      | (with_reducible exact ih0 _ _ _ _)
      | (with_reducible exact ih1 _ _ _)
      | (with_reducible exact ih2 _ _)
      | (with_reducible exact ih3 _ _ _ _ _)
      | (with_reducible exact ih4 _ _ _ _ _ _ _ _ _ _ _)
      | (with_reducible exact deci_Read.mono _ _ _)
      | (with_reducible exact deci_Words.mono _ _)
      | (with_reducible exact deci_Write.mono _ _ _)
      | (with_reducible exact jitneylaw03_alive.mono _)
      | (with_reducible exact LeO.refl _)
      | (with_reducible exact LeO.none _)
      | (with_reducible refine LeO.ite ?_ ?_)
      | (with_reducible refine LeO.bind ?_ (fun _ => ?_))
      | exact ih0 _ _ _ _
      | exact ih1 _ _ _
      | exact ih2 _ _
      | exact ih3 _ _ _ _ _
      | exact ih4 _ _ _ _ _ _ _ _ _ _ _
      | exact deci_Read.mono _ _ _
      | exact deci_Words.mono _ _
      | exact deci_Write.mono _ _ _
      | exact jitneylaw03_alive.mono _
      | exact LeO.none _
      | refine LeO.ite ?_ ?_
      | refine LeO.bind ?_ (fun _ => ?_)
    · intro y0 y1 y2 y3 y4 y5 y6 y7 y8 y9 y10
      unfold jitneylaw03_DeciBack.l1
      repeat' first
      | (with_reducible exact ih0 _ _ _ _)
      | (with_reducible exact ih1 _ _ _)
      | (with_reducible exact ih2 _ _)
      | (with_reducible exact ih3 _ _ _ _ _)
      | (with_reducible exact ih4 _ _ _ _ _ _ _ _ _ _ _)
      | (with_reducible exact deci_Read.mono _ _ _)
      | (with_reducible exact deci_Words.mono _ _)
      | (with_reducible exact deci_Write.mono _ _ _)
      | (with_reducible exact jitneylaw03_alive.mono _)
      | (with_reducible exact LeO.refl _)
      | (with_reducible exact LeO.none _)
      | (with_reducible refine LeO.ite ?_ ?_)
      | (with_reducible refine LeO.bind ?_ (fun _ => ?_))
      | exact ih0 _ _ _ _
      | exact ih1 _ _ _
      | exact ih2 _ _
      | exact ih3 _ _ _ _ _
      | exact ih4 _ _ _ _ _ _ _ _ _ _ _
      | exact deci_Read.mono _ _ _
      | exact deci_Words.mono _ _
      | exact deci_Write.mono _ _ _
      | exact jitneylaw03_alive.mono _
      | exact LeO.none _
      | refine LeO.ite ?_ ?_
      | refine LeO.bind ?_ (fun _ => ?_)
theorem jitneylaw03_DeciBack.mono : ∀ a0 a1 a2 k, LeO (jitneylaw03_DeciBack.f k a0 a1 a2) (jitneylaw03_DeciBack.f (k + 1) a0 a1 a2) := by
  intro a0 a1 a2 k
  obtain ⟨ih0, ih1, ih2, ih3, ih4⟩ := jitneylaw03_DeciBack.mono_l k
  unfold jitneylaw03_DeciBack.f
  repeat' first
      | (with_reducible exact ih0 _ _ _ _)
      | (with_reducible exact ih1 _ _ _)
      | (with_reducible exact ih2 _ _)
      | (with_reducible exact ih3 _ _ _ _ _)
      | (with_reducible exact ih4 _ _ _ _ _ _ _ _ _ _ _)
      | (with_reducible exact deci_Read.mono _ _ _)
      | (with_reducible exact deci_Words.mono _ _)
      | (with_reducible exact deci_Write.mono _ _ _)
      | (with_reducible exact jitneylaw03_alive.mono _)
      | (with_reducible exact LeO.refl _)
      | (with_reducible exact LeO.none _)
      | (with_reducible refine LeO.ite ?_ ?_)
      | (with_reducible refine LeO.bind ?_ (fun _ => ?_))
      | exact ih0 _ _ _ _
      | exact ih1 _ _ _
      | exact ih2 _ _
      | exact ih3 _ _ _ _ _
      | exact ih4 _ _ _ _ _ _ _ _ _ _ _
      | exact deci_Read.mono _ _ _
      | exact deci_Words.mono _ _
      | exact deci_Write.mono _ _ _
      | exact jitneylaw03_alive.mono _
      | exact LeO.none _
      | refine LeO.ite ?_ ?_
      | refine LeO.bind ?_ (fun _ => ?_)
set_option maxHeartbeats 8000000 in
set_option maxRecDepth 100000 in
theorem jitneylaw03_DeciBack.calls (k : Nat) (a0 : Int) (a1 : Int) (a2 : ByteArray) (r : Bool) (w : World) (h : jitneylaw03_DeciBack.f k a0 a1 a2 = some r) (hG : GW w) :
    Calls Tryd.prog 4 #[.int .i64 a0, .int .i64 a1, .string a2] w fun e w' => e = .returned (.bool r) ∧ Below w.heap.size w w' := by
  have HB := Aside0.mk (Below.refl w.heap.size w)
  have H : ((jitneylaw03_alive.f k).bind fun t205 => (if t205 = true then (if a1 < 0 then (jitneylaw03_DeciBack.j0 k a0 a1 a2 true) else (if a1 > 6 then (jitneylaw03_DeciBack.j0 k a0 a1 a2 true) else (jitneylaw03_DeciBack.j0 k a0 a1 a2 (decide ((a2.size : Int) > 2000))))) else (some false))) = some r := h
  clear h
  replace H := Option.bind_eq_some_iff.mp H
  obtain ⟨t205, A40, H⟩ := H
  replace H : (if t205 = true then (if a1 < 0 then (jitneylaw03_DeciBack.j0 k a0 a1 a2 true) else (if a1 > 6 then (jitneylaw03_DeciBack.j0 k a0 a1 a2 true) else (jitneylaw03_DeciBack.j0 k a0 a1 a2 (decide ((a2.size : Int) > 2000))))) else (some false)) = some r := H
  have A4 := Aside0.mk A40
  clear A40
  by_cases c5 : t205 = true
  · subst c5
    have H1 : (if a1 < 0 then (jitneylaw03_DeciBack.j0 k a0 a1 a2 true) else (if a1 > 6 then (jitneylaw03_DeciBack.j0 k a0 a1 a2 true) else (jitneylaw03_DeciBack.j0 k a0 a1 a2 (decide ((a2.size : Int) > 2000))))) = some r := by rw [if_pos rfl] at H; exact H
    clear H
    have H := H1
    clear H1
    have HC6 := Aside0.mk H
    clear H
    go_enter Tryd.func4, Tryd.ntmps4
    go_upto_region 3 with (first | ((with_reducible refine gate_callee (f := 8) rfl ?_); refine goesL_ (some 22) rfl rfl Tryd.func8 (by kernel_rfl) rfl #[] rfl (by (try simp only [List.map_toArray, List.map_cons, List.map_nil]); first | done | rfl | (simp only [List.length_drop, List.length_take]; rfl)) ?_; (with_reducible refine (jitneylaw03_alive.calls k  true _ A4.out (GW.step hG (by repeat (first | (with_reducible first | exact HB.out | apply below_alloc | apply pw_below_drewN | apply below_drew1) | exact HB.out)))).mono ?_); rintro e w7 ⟨rfl, hb⟩; refine ⟨_, rfl, ?_⟩; have n0_ := Aside0.mk (below_step (by repeat (first | (with_reducible first | exact HB.out | apply below_alloc | apply pw_below_drewN | apply below_drew1) | exact HB.out)) hb); clear HB; have HB := n0_; clear n0_; (try clear hb); (try clear hb2); (try clear hk); (try clear hi)))
    (try simp only [Act.put, List.setIfInBounds_toArray, List.set_cons_zero, List.set_cons_succ])
    go_cut [34] (fun v34 wc => ∃ (kq : Nat) (x34_5 : Bool), v34 = .bool x34_5 ∧ Aside0 (jitneylaw03_DeciBack.j0 kq a0 a1 a2 x34_5 = some r) ∧ Aside0 (kq ≤ k) ∧ Aside0 (Below w.heap.size w wc))
    case first =>
      have H := HC6.out
      clear HC6
      by_cases c8 : a1 < 0
      · rw [if_pos c8] at H
        have c8b0 : decide (a1 < 0) = true := decide_eq_true c8
        clear c8
        (first | rw [c8b0] | (simp only [i64_w, i32_w]; rw [c8b0]) | skip)
        have H' := Aside0.mk H
        clear H
        go_wp2
        go_meet
        case rel => exact ⟨_, (true), (by first | rfl | (simp; done) | (simp [*]; done)), H', ⟨by first | omega | exact Nat.le_refl _⟩, ⟨by repeat (first | (with_reducible first | exact HB.out | apply below_alloc | apply pw_below_drewN | apply below_drew1) | exact HB.out)⟩⟩
      · rw [if_neg c8] at H
        have c8b0 : decide (a1 < 0) = false := decide_eq_false c8
        clear c8
        (first | rw [c8b0] | (simp only [i64_w, i32_w]; rw [c8b0]) | skip)
        by_cases c9 : a1 > 6
        · rw [if_pos c9] at H
          have c9b0 : decide (6 < a1) = true := decide_eq_true c9
          clear c9
          have H' := Aside0.mk H
          clear H
          go_wp2
          go_meet
          case rel => exact ⟨_, (true), (by first | rfl | (simp; done) | (simp [*]; done)), H', ⟨by first | omega | exact Nat.le_refl _⟩, ⟨by repeat (first | (with_reducible first | exact HB.out | apply below_alloc | apply pw_below_drewN | apply below_drew1) | exact HB.out)⟩⟩
        · rw [if_neg c9] at H
          have c9b0 : decide (6 < a1) = false := decide_eq_false c9
          clear c9
          have H' := Aside0.mk H
          clear H
          go_wp2
          go_meet
          case rel => exact ⟨_, (decide ((a2.size : Int) > 2000)), (by first | rfl | (simp; done) | (simp [*]; done)), H', ⟨by first | omega | exact Nat.le_refl _⟩, ⟨by repeat (first | (with_reducible first | exact HB.out | apply below_alloc | apply pw_below_drewN | apply below_drew1) | exact HB.out)⟩⟩
    case rest =>
      clear HC6
      try clear p2
      try clear c4
      try clear c5
      try clear c8
      try clear c8b0
      try clear c9
      try clear c9b0
      obtain ⟨kq, x34_5, rfl, HA, HJ5, HB⟩ := hcut
      cases kq with
      | zero => exact absurd HA.out (by simp [jitneylaw03_DeciBack.j0])
      | succ kj5 =>
        have H := HA.out
        clear HA
        simp only [jitneylaw03_DeciBack.j0] at H
        by_cases c10 : x34_5 = true
        · subst c10
          have H1 : (some true) = some r := by rw [if_pos rfl] at H; exact H
          clear H
          have H := H1
          clear H1
          obtain rfl := Option.some.inj H
          go_wp2
          go_ret
          exact ⟨by first | rfl | (simp [errW_none, errW_some] <;> rfl) | (simp [*, errW_none, errW_some] <;> rfl), by repeat (first | (with_reducible first | exact HB.out | apply below_alloc | apply pw_below_drewN | apply below_drew1) | exact HB.out)⟩
        · replace c10 := Bool.eq_false_iff.mpr c10
          subst c10
          have H1 : ((deci_Write.f kj5 (Int.tmod a0 1099511627777) a1).bind fun t206 => ((deci_Read.f kj5 t206 a1).bind fun bt207 => (if bt207.1 = (Int.tmod a0 1099511627777) then (jitneylaw03_DeciBack.j1 kj5 a1 a2 (bt207.2 != 0)) else (jitneylaw03_DeciBack.j1 kj5 a1 a2 true)))) = some r := by rw [if_neg (show ¬ (false = true) by decide)] at H; exact H
          clear H
          have H := H1
          clear H1
          replace H := Option.bind_eq_some_iff.mp H
          obtain ⟨t206, A110, H⟩ := H
          replace H : ((deci_Read.f kj5 t206 a1).bind fun bt207 => (if bt207.1 = (Int.tmod a0 1099511627777) then (jitneylaw03_DeciBack.j1 kj5 a1 a2 (bt207.2 != 0)) else (jitneylaw03_DeciBack.j1 kj5 a1 a2 true))) = some r := H
          have A11 := Aside0.mk A110
          clear A110
          replace H := Option.bind_eq_some_iff.mp H
          obtain ⟨⟨t207, t208⟩, A120, H⟩ := H
          replace H : (if t207 = (Int.tmod a0 1099511627777) then (jitneylaw03_DeciBack.j1 kj5 a1 a2 (t208 != 0)) else (jitneylaw03_DeciBack.j1 kj5 a1 a2 true)) = some r := H
          have A12 := Aside0.mk A120
          clear A120
          have HC13 := Aside0.mk H
          clear H
          go_upto_region 8 with (first | ((with_reducible refine gate_callee (f := 14) rfl ?_); refine goesL_ (some 39) rfl rfl Tryd.func14 (by kernel_rfl) rfl #[.int .i64 (Int.tmod a0 1099511627777), .int .i64 a1] rfl (by (try simp only [List.map_toArray, List.map_cons, List.map_nil]); first | done | rfl | (simp only [List.length_drop, List.length_take]; rfl)) ?_; (with_reducible refine (deci_Write.calls kj5 (Int.tmod a0 1099511627777) a1 t206 _ A11.out (GW.step hG (by repeat (first | (with_reducible first | exact HB.out | apply below_alloc | apply pw_below_drewN | apply below_drew1) | exact HB.out)))).mono ?_); rintro e w14 ⟨rfl, hb⟩; refine ⟨_, rfl, ?_⟩; have n0_ := Aside0.mk (below_step (by repeat (first | (with_reducible first | exact HB.out | apply below_alloc | apply pw_below_drewN | apply below_drew1) | exact HB.out)) hb); clear HB; have HB := n0_; clear n0_; (try clear hb); (try clear hb2); (try clear hk); (try clear hi)) | ((with_reducible refine gate_callee (f := 15) rfl ?_); refine goesL_ (some 43) rfl rfl Tryd.func15 (by kernel_rfl) rfl #[.string t206, .int .i64 a1] rfl (by (try simp only [List.map_toArray, List.map_cons, List.map_nil]); first | done | rfl | (simp only [List.length_drop, List.length_take]; rfl)) ?_; (with_reducible refine (deci_Read.calls kj5 t206 a1 t207 t208 _ A12.out).mono ?_); rintro e w15 ⟨rfl, hb⟩; refine ⟨_, rfl, ?_⟩; have n0_ := Aside0.mk (below_step (by repeat (first | (with_reducible first | exact HB.out | apply below_alloc | apply pw_below_drewN | apply below_drew1) | exact HB.out)) hb); clear HB; have HB := n0_; clear n0_; (try clear hb); (try clear hb2); (try clear hk); (try clear hi)))
          (try simp only [Act.put, List.setIfInBounds_toArray, List.set_cons_zero, List.set_cons_succ])
          go_cut [52] (fun v52 wc => ∃ (kq : Nat) (x52_12 : Bool), v52 = .bool x52_12 ∧ Aside0 (jitneylaw03_DeciBack.j1 kq a1 a2 x52_12 = some r) ∧ Aside0 (kq ≤ kj5) ∧ Aside0 (Below w.heap.size w wc))
          case first =>
            have H := HC13.out
            clear HC13
            by_cases c16 : t207 = (Int.tmod a0 1099511627777)
            · rw [if_pos c16] at H
              have c16b0 : (t207 == (Int.tmod a0 1099511627777)) = true := beq_iff_eq.mpr c16
              have c16b1 : (t207 != (Int.tmod a0 1099511627777)) = false := bne_eq_false_iff_eq.mpr c16
              clear c16
              (first | rw [c16b0] | (simp only [i64_w, i32_w]; rw [c16b0]) | skip)
              have H' := Aside0.mk H
              clear H
              go_wp2
              go_meet
              case rel => exact ⟨_, ((t208 != 0)), (by first | rfl | (simp; done) | (simp [*]; done)), H', ⟨by have := HJ5.out; first | omega | exact Nat.le_refl _⟩, ⟨by repeat (first | (with_reducible first | exact HB.out | apply below_alloc | apply pw_below_drewN | apply below_drew1) | exact HB.out)⟩⟩
            · rw [if_neg c16] at H
              have c16b0 : (t207 == (Int.tmod a0 1099511627777)) = false := beq_eq_false_iff_ne.mpr c16
              have c16b1 : (t207 != (Int.tmod a0 1099511627777)) = true := bne_iff_ne.mpr c16
              (first | rw [c16b0] | (simp only [i64_w, i32_w]; rw [c16b0]) | skip)
              have H' := Aside0.mk H
              clear H
              go_wp2
              go_meet
              case rel => exact ⟨_, (true), (by first | rfl | (simp; done) | (simp [*]; done)), H', ⟨by have := HJ5.out; first | omega | exact Nat.le_refl _⟩, ⟨by repeat (first | (with_reducible first | exact HB.out | apply below_alloc | apply pw_below_drewN | apply below_drew1) | exact HB.out)⟩⟩
          case rest =>
            clear HC13
            try clear c1
            try clear p2
            try clear c4
            try clear c5
            try clear c8
            try clear c8b0
            try clear c9
            try clear c9b0
            try clear c10
            try clear c14
            try clear c15
            try clear c16
            try clear c16b0
            try clear c16b1
            try clear p2
            obtain ⟨kq, x52_12, rfl, HA, HJ12, HB⟩ := hcut
            cases kq with
            | zero => exact absurd HA.out (by simp [jitneylaw03_DeciBack.j1])
            | succ kj12 =>
              have H := HA.out
              clear HA
              simp only [jitneylaw03_DeciBack.j1] at H
              by_cases c17 : x52_12 = true
              · subst c17
                have H1 : (some false) = some r := by rw [if_pos rfl] at H; exact H
                clear H
                have H := H1
                clear H1
                obtain rfl := Option.some.inj H
                go_wp2
                go_ret
                exact ⟨by first | rfl | (simp [errW_none, errW_some] <;> rfl) | (simp [*, errW_none, errW_some] <;> rfl), by repeat (first | (with_reducible first | exact HB.out | apply below_alloc | apply pw_below_drewN | apply below_drew1) | exact HB.out)⟩
              · replace c17 := Bool.eq_false_iff.mpr c17
                subst c17
                have H1 : ((deci_Read.f kj12 a2 a1).bind fun bt209 => (if bt209.2 = 0 then ((deci_Write.f kj12 bt209.1 a1).bind fun t211 => (jitneylaw03_DeciBack.j2 kj12 a2 (decide ((t211.size : Int) > (a2.size : Int))))) else (jitneylaw03_DeciBack.j2 kj12 a2 false))) = some r := by rw [if_neg (show ¬ (false = true) by decide)] at H; exact H
                clear H
                have H := H1
                clear H1
                replace H := Option.bind_eq_some_iff.mp H
                obtain ⟨⟨t209, t210⟩, A180, H⟩ := H
                replace H : (if t210 = 0 then ((deci_Write.f kj12 t209 a1).bind fun t211 => (jitneylaw03_DeciBack.j2 kj12 a2 (decide ((t211.size : Int) > (a2.size : Int))))) else (jitneylaw03_DeciBack.j2 kj12 a2 false)) = some r := H
                have A18 := Aside0.mk A180
                clear A180
                have HC19 := Aside0.mk H
                clear H
                go_upto_region 11 with (first | ((with_reducible refine gate_callee (f := 15) rfl ?_); refine goesL_ (some 56) rfl rfl Tryd.func15 (by kernel_rfl) rfl #[.string a2, .int .i64 a1] rfl (by (try simp only [List.map_toArray, List.map_cons, List.map_nil]); first | done | rfl | (simp only [List.length_drop, List.length_take]; rfl)) ?_; (with_reducible refine (deci_Read.calls kj12 a2 a1 t209 t210 _ A18.out).mono ?_); rintro e w20 ⟨rfl, hb⟩; refine ⟨_, rfl, ?_⟩; have n0_ := Aside0.mk (below_step (by repeat (first | (with_reducible first | exact HB.out | apply below_alloc | apply pw_below_drewN | apply below_drew1) | exact HB.out)) hb); clear HB; have HB := n0_; clear n0_; (try clear hb); (try clear hb2); (try clear hk); (try clear hi)))
                (try simp only [Act.put, List.setIfInBounds_toArray, List.set_cons_zero, List.set_cons_succ])
                go_cut [69] (fun v69 wc => ∃ (kq : Nat) (x69_18 : Bool), v69 = .bool x69_18 ∧ Aside0 (jitneylaw03_DeciBack.j2 kq a2 x69_18 = some r) ∧ Aside0 (kq ≤ kj12) ∧ Aside0 (Below w.heap.size w wc))
                case first =>
                  have H := HC19.out
                  clear HC19
                  by_cases c21 : t210 = 0
                  · rw [if_pos c21] at H
                    have c21b0 : (t210 == 0) = true := beq_iff_eq.mpr c21
                    have c21b1 : (t210 != 0) = false := bne_eq_false_iff_eq.mpr c21
                    clear c21
                    (first | rw [c21b0] | (simp only [i64_w, i32_w]; rw [c21b0]) | skip)
                    replace H := Option.bind_eq_some_iff.mp H
                    obtain ⟨t211, A220, H⟩ := H
                    replace H : (jitneylaw03_DeciBack.j2 kj12 a2 (decide ((t211.size : Int) > (a2.size : Int)))) = some r := H
                    have A22 := Aside0.mk A220
                    clear A220
                    have H' := Aside0.mk H
                    clear H
                    go_wp2_with (first | (go_at_call 14; (with_reducible refine (deci_Write.calls kj12 t209 a1 t211 _ A22.out (GW.step hG (by repeat (first | (with_reducible first | exact HB.out | apply below_alloc | apply pw_below_drewN | apply below_drew1) | exact HB.out)))).mono ?_); rintro e w23 ⟨rfl, hb⟩; have n0_ := Aside0.mk (below_step (by repeat (first | (with_reducible first | exact HB.out | apply below_alloc | apply pw_below_drewN | apply below_drew1) | exact HB.out)) hb); clear HB; have HB := n0_; clear n0_; (try clear hb); (try clear hb2); (try clear hk); (try clear hi)))
                    go_meet
                    case rel => exact ⟨_, (decide ((t211.size : Int) > (a2.size : Int))), (by first | rfl | (simp; done) | (simp [*]; done)), H', ⟨by have := HJ5.out; have := HJ12.out; first | omega | exact Nat.le_refl _⟩, ⟨by repeat (first | (with_reducible first | exact HB.out | apply below_alloc | apply pw_below_drewN | apply below_drew1) | exact HB.out)⟩⟩
                  · rw [if_neg c21] at H
                    have c21b0 : (t210 == 0) = false := beq_eq_false_iff_ne.mpr c21
                    have c21b1 : (t210 != 0) = true := bne_iff_ne.mpr c21
                    (first | rw [c21b0] | (simp only [i64_w, i32_w]; rw [c21b0]) | skip)
                    have H' := Aside0.mk H
                    clear H
                    go_wp2
                    go_meet
                    case rel => exact ⟨_, (false), (by first | rfl | (simp; done) | (simp [*]; done)), H', ⟨by have := HJ5.out; have := HJ12.out; first | omega | exact Nat.le_refl _⟩, ⟨by repeat (first | (with_reducible first | exact HB.out | apply below_alloc | apply pw_below_drewN | apply below_drew1) | exact HB.out)⟩⟩
                case rest =>
                  clear HC19
                  try clear c1
                  try clear c2
                  try clear p2
                  try clear c4
                  try clear c5
                  try clear c8
                  try clear c8b0
                  try clear c9
                  try clear c9b0
                  try clear c10
                  try clear c14
                  try clear c15
                  try clear c16
                  try clear c16b0
                  try clear c16b1
                  try clear c17
                  try clear c21
                  try clear c21b0
                  try clear c21b1
                  try clear p2
                  obtain ⟨kq, x69_18, rfl, HA, HJ18, HB⟩ := hcut
                  cases kq with
                  | zero => exact absurd HA.out (by simp [jitneylaw03_DeciBack.j2])
                  | succ kj18 =>
                    have H := HA.out
                    clear HA
                    simp only [jitneylaw03_DeciBack.j2] at H
                    by_cases c24 : x69_18 = true
                    · subst c24
                      have H1 : (some false) = some r := by rw [if_pos rfl] at H; exact H
                      clear H
                      have H := H1
                      clear H1
                      obtain rfl := Option.some.inj H
                      go_wp2
                      go_ret
                      exact ⟨by first | rfl | (simp [errW_none, errW_some] <;> rfl) | (simp [*, errW_none, errW_some] <;> rfl), by repeat (first | (with_reducible first | exact HB.out | apply below_alloc | apply pw_below_drewN | apply below_drew1) | exact HB.out)⟩
                    · replace c24 := Bool.eq_false_iff.mpr c24
                      subst c24
                      have H1 : ((deci_Lines.f a2).bind fun bt212 => (if bt212.2 = 0 then (jitneylaw03_DeciBack.l0 kj18 a2 (⟨#[]⟩ : ByteArray) bt212.1 (bt212.1.length : Int) 0) else (some ((bt212.1.length : Int) == 0)))) = some r := by rw [if_neg (show ¬ (false = true) by decide)] at H; exact H
                      clear H
                      have H := H1
                      clear H1
                      replace H := Option.bind_eq_some_iff.mp H
                      obtain ⟨⟨t212, t213⟩, A250, H⟩ := H
                      replace H : (if t213 = 0 then (jitneylaw03_DeciBack.l0 kj18 a2 (⟨#[]⟩ : ByteArray) t212 (t212.length : Int) 0) else (some ((t212.length : Int) == 0))) = some r := H
                      have A25 := Aside0.mk A250
                      clear A250
                      by_cases c26 : t213 = 0
                      · rw [if_pos c26] at H
                        have c26b0 : (t213 == 0) = true := beq_iff_eq.mpr c26
                        have c26b1 : (t213 != 0) = false := bne_eq_false_iff_eq.mpr c26
                        clear c26
                        have H' := Aside0.mk H
                        clear H
                        go_wp2_with (first | ((with_reducible refine gate_callee (f := 11) rfl ?_); refine goesL_ (some 72) rfl rfl Tryd.func11 (by kernel_rfl) rfl #[.string a2] rfl (by (try simp only [List.map_toArray, List.map_cons, List.map_nil]); first | done | rfl | (simp only [List.length_drop, List.length_take]; rfl)) ?_; (with_reducible refine (deci_Lines.calls a2 t212 t213 _ A25.out).mono ?_); rintro e w27 ⟨v214, rfl, ho0, hb⟩; refine ⟨_, rfl, ?_⟩; have n0_ := Aside0.mk (Kd.R_lower ho0 (below_size (by repeat (first | (with_reducible first | exact HB.out | apply below_alloc | apply pw_below_drewN | apply below_drew1) | exact HB.out)))); have n1_ := Aside0.mk (below_step (by repeat (first | (with_reducible first | exact HB.out | apply below_alloc | apply pw_below_drewN | apply below_drew1) | exact HB.out)) hb); clear HB; have HO215 := n0_; have HB := n1_; clear n0_ n1_; (try clear hb); (try clear hb2); (try clear hk); (try clear hi); (try clear ho0); obtain ⟨Ao28, co28, eo28⟩ := Kd.R_slice HO215.out; subst eo28))
                        go_loopg [14, 82] kj18 (fun kq v14 v82 w' => ∃ (x14_4 : ByteArray) (x82_4 : Int), v14 = .string x14_4 ∧ v82 = .int .i64 x82_4 ∧ Aside0 (jitneylaw03_DeciBack.l0 kq a2 x14_4 t212 (t212.length : Int) x82_4 = some r) ∧ Aside0 (kq ≤ kj18) ∧ Aside0 (Kd.R Kd.string 9 w' w.heap.size (fun _ => True) (.slice Ao28 t212.length co28) t212) ∧ Aside0 (Below w.heap.size w w'))
                        case atStart => exact ⟨((⟨#[]⟩ : ByteArray)), (0), (by first | rfl | (simp; done) | (simp [*]; done)), (by first | rfl | (simp; done) | (simp [*]; done)), H', ⟨Nat.le_refl _⟩, ⟨by (with_reducible repeat (first | apply Kd.R_alloc | apply Kd.R_drewN | apply Kd.R_drew)); exact HO215.out⟩, ⟨by repeat (first | (with_reducible first | exact HB.out | apply below_alloc | apply pw_below_drewN | apply below_drew1) | exact HB.out)⟩⟩
                        case round =>
                          clear H'
                          try clear c1
                          try clear c2
                          try clear p2
                          try clear c4
                          try clear c5
                          try clear c8
                          try clear c8b0
                          try clear c9
                          try clear c9b0
                          try clear c10
                          try clear c11
                          try clear c14
                          try clear c15
                          try clear c16
                          try clear c16b0
                          try clear c16b1
                          try clear c17
                          try clear c21
                          try clear c21b0
                          try clear c21b1
                          try clear c24
                          try clear c26
                          try clear c26b0
                          try clear c26b1
                          try clear p2
                          obtain ⟨x14_4, x82_4, rfl, rfl, HA, HK4, HO_80, HB⟩ := hrel
                          cases gk with
                          | zero => exact absurd HA.out (by simp [jitneylaw03_DeciBack.l0])
                          | succ k4 =>
                            have H := HA.out
                            clear HA
                            simp only [jitneylaw03_DeciBack.l0] at H
                            by_cases c29 : x82_4 < (t212.length : Int)
                            · rw [if_pos c29] at H
                              have c29b0 : decide (x82_4 < (t212.length : Int)) = true := decide_eq_true c29
                              clear c29
                              by_cases c30 : 0 ≤ x82_4
                              · rw [if_pos c30] at H
                                have c30b0 : decide (0 ≤ x82_4) = true := decide_eq_true c30
                                clear c30
                                by_cases c31 : x82_4 < (t212.length : Int)
                                · rw [if_pos c31] at H
                                  have c31b0 : decide (x82_4 < (t212.length : Int)) = true := decide_eq_true c31
                                  clear c31
                                  by_cases c32 : (rdOf ByteArray.empty t212 x82_4).size + 1 ≤ 9223372036854775807
                                  · rw [if_pos c32] at H
                                    have c32b0 := eq_true c32
                                    have c32b1 : decide ((rdOf ByteArray.empty t212 x82_4).size + 1 ≤ 9223372036854775807) = true := decide_eq_true c32
                                    try have c32b2 : (9223372036854775807 < (rdOf ByteArray.empty t212 x82_4).size + 1) = False := eq_false (Nat.not_lt.2 c32)
                                    by_cases c33 : x14_4.size + ((rdOf ByteArray.empty t212 x82_4) ++ (⟨#[10]⟩ : ByteArray)).size ≤ 9223372036854775807
                                    · rw [if_pos c33] at H
                                      have c33b0 := eq_true c33
                                      have c33b1 : decide (x14_4.size + ((rdOf ByteArray.empty t212 x82_4) ++ (⟨#[10]⟩ : ByteArray)).size ≤ 9223372036854775807) = true := decide_eq_true c33
                                      try have c33b2 : (9223372036854775807 < x14_4.size + ((rdOf ByteArray.empty t212 x82_4) ++ (⟨#[10]⟩ : ByteArray)).size) = False := eq_false (Nat.not_lt.2 c33)
                                      replace H := Option.bind_eq_some_iff.mp H
                                      obtain ⟨⟨t217, t218⟩, A340, H⟩ := H
                                      replace H : (jitneylaw03_DeciBack.l1 k4 a2 (x14_4 ++ ((rdOf ByteArray.empty t212 x82_4) ++ (⟨#[10]⟩ : ByteArray))) (rdOf ByteArray.empty t212 x82_4) t218 (⟨#[]⟩ : ByteArray) t212 (t212.length : Int) x82_4 t217 (t217.length : Int) 0) = some r := H
                                      have A34 := Aside0.mk A340
                                      clear A340
                                      have H' := Aside0.mk H
                                      clear H
                                      have p216 : 0 ≤ (x82_4 : Int) := of_decide_eq_true (by first | (with_reducible assumption) | assumption)
                                      have q216 : x82_4 < (t212.length : Int) := of_decide_eq_true (by first | (with_reducible assumption) | assumption)
                                      obtain ⟨ad216, e216, hx216_0⟩ := Kd.at_string (Kd.R_reads' HO_80.out).2.2 x82_4 p216 q216
                                      cases e216
                                      replace p216 := eq_true p216
                                      replace q216 := eq_true q216
                                      go_wp2_with (first | ((with_reducible refine gate_callee (f := 9) rfl ?_); refine goesL_ (some 92) rfl rfl Tryd.func9 (by kernel_rfl) rfl #[.string (rdOf ByteArray.empty t212 x82_4)] rfl (by (try simp only [List.map_toArray, List.map_cons, List.map_nil]); first | done | rfl | (simp only [List.length_drop, List.length_take]; rfl)) ?_; (with_reducible refine (deci_Words.calls k4 (rdOf ByteArray.empty t212 x82_4) t217 t218 _ A34.out).mono ?_); rintro e w35 ⟨v219, rfl, ho0, hb⟩; refine ⟨_, rfl, ?_⟩; have n0_ := Aside0.mk (Kd.R_elder' (by (with_reducible repeat (first | apply Kd.R_alloc | apply Kd.R_drewN | apply Kd.R_drew)); exact HO_80.out) (Kd.R_base ho0) hb); have n1_ := Aside0.mk (Kd.R_lower (Kd.R_new' ho0 (Kd.R_lt (by (with_reducible repeat (first | apply Kd.R_alloc | apply Kd.R_drewN | apply Kd.R_drew)); exact HO_80.out))) (below_size (by repeat (first | (with_reducible first | exact HB.out | apply below_alloc | apply pw_below_drewN | apply below_drew1) | exact HB.out)))); have n2_ := Aside0.mk (below_step (by repeat (first | (with_reducible first | exact HB.out | apply below_alloc | apply pw_below_drewN | apply below_drew1) | exact HB.out)) hb); clear HO_80; clear HB; have HO_80 := n0_; have HO220 := n1_; have HB := n2_; clear n0_ n1_ n2_; (try clear hb); (try clear hb2); (try clear hk); (try clear hi); (try clear ho0); obtain ⟨Ao36, co36, eo36⟩ := Kd.R_slice HO220.out; subst eo36))
                                      go_loopg [19, 97] k4 (fun kq v19 v97 w' => ∃ (x19_5 : ByteArray) (x97_5 : Int), v19 = .string x19_5 ∧ v97 = .int .i64 x97_5 ∧ Aside0 (jitneylaw03_DeciBack.l1 kq a2 (x14_4 ++ ((rdOf ByteArray.empty t212 x82_4) ++ (⟨#[10]⟩ : ByteArray))) (rdOf ByteArray.empty t212 x82_4) t218 x19_5 t212 (t212.length : Int) x82_4 t217 (t217.length : Int) x97_5 = some r) ∧ Aside0 (kq ≤ k4) ∧ Aside0 (Kd.R Kd.string 9 w' w.heap.size (fun k_ => some k_ ≠ ((.slice Ao36 t217.length co36) : Value).ownBlock) (.slice (some ad216) t212.length co28) t212) ∧ Aside0 (Kd.R Kd.string 9 w' w.heap.size (fun k_ => some k_ ≠ ((.slice (some ad216) t212.length co28) : Value).ownBlock) (.slice Ao36 t217.length co36) t217) ∧ Aside0 (Below w.heap.size w w'))
                                      case atStart => exact ⟨((⟨#[]⟩ : ByteArray)), (0), (by first | rfl | (simp; done) | (simp [*]; done)), (by first | rfl | (simp; done) | (simp [*]; done)), H', ⟨Nat.le_refl _⟩, ⟨by (with_reducible repeat (first | apply Kd.R_alloc | apply Kd.R_drewN | apply Kd.R_drew)); exact Kd.R_mono HO_80.out (fun _ hk => hk.2)⟩, ⟨by (with_reducible repeat (first | apply Kd.R_alloc | apply Kd.R_drewN | apply Kd.R_drew)); exact Kd.R_mono HO220.out (fun _ hk => hk.2)⟩, ⟨by repeat (first | (with_reducible first | exact HB.out | apply below_alloc | apply pw_below_drewN | apply below_drew1) | exact HB.out)⟩⟩
                                      case round =>
                                        clear H'
                                        try clear c1
                                        try clear c2
                                        try clear p2
                                        try clear q2
                                        try clear hx2
                                        try clear c3
                                        try clear c4
                                        try clear c5
                                        try clear c8
                                        try clear c8b0
                                        try clear c9
                                        try clear c9b0
                                        try clear c10
                                        try clear c11
                                        try clear c14
                                        try clear c15
                                        try clear c16
                                        try clear c16b0
                                        try clear c16b1
                                        try clear c17
                                        try clear c21
                                        try clear c21b0
                                        try clear c21b1
                                        try clear p21
                                        try clear q21
                                        try clear hx21
                                        try clear c24
                                        try clear c26
                                        try clear c26b0
                                        try clear c26b1
                                        try clear c29
                                        try clear c29b0
                                        try clear c30
                                        try clear c30b0
                                        try clear c31
                                        try clear c31b0
                                        try clear c32
                                        try clear c32b0
                                        try clear c32b1
                                        try clear c32b2
                                        try clear c33
                                        try clear c33b0
                                        try clear c33b1
                                        try clear c33b2
                                        try clear hx216_0
                                        try clear p2
                                        try clear p216
                                        try clear q216
                                        obtain ⟨x19_5, x97_5, rfl, rfl, HA, HK5, HO_80, HO_95, HB⟩ := hrel
                                        cases gk with
                                        | zero => exact absurd HA.out (by simp [jitneylaw03_DeciBack.l1])
                                        | succ k5 =>
                                          have H := HA.out
                                          clear HA
                                          simp only [jitneylaw03_DeciBack.l1] at H
                                          by_cases c37 : x97_5 < (t217.length : Int)
                                          · rw [if_pos c37] at H
                                            have c37b0 : decide (x97_5 < (t217.length : Int)) = true := decide_eq_true c37
                                            clear c37
                                            by_cases c38 : 0 ≤ x97_5
                                            · rw [if_pos c38] at H
                                              have c38b0 : decide (0 ≤ x97_5) = true := decide_eq_true c38
                                              clear c38
                                              by_cases c39 : x97_5 < (t217.length : Int)
                                              · rw [if_pos c39] at H
                                                have c39b0 : decide (x97_5 < (t217.length : Int)) = true := decide_eq_true c39
                                                clear c39
                                                by_cases c40 : x97_5 > 0
                                                · rw [if_pos c40] at H
                                                  have c40b0 : decide (0 < x97_5) = true := decide_eq_true c40
                                                  clear c40
                                                  by_cases c41 : x19_5.size + 1 ≤ 9223372036854775807
                                                  · rw [if_pos c41] at H
                                                    have c41b0 := eq_true c41
                                                    have c41b1 : decide (x19_5.size + 1 ≤ 9223372036854775807) = true := decide_eq_true c41
                                                    try have c41b2 : (9223372036854775807 < x19_5.size + 1) = False := eq_false (Nat.not_lt.2 c41)
                                                    by_cases c42 : (x19_5 ++ (⟨#[32]⟩ : ByteArray)).size + (rdOf ByteArray.empty t217 x97_5).size ≤ 9223372036854775807
                                                    · rw [if_pos c42] at H
                                                      have c42b0 := eq_true c42
                                                      have c42b1 : decide ((x19_5 ++ (⟨#[32]⟩ : ByteArray)).size + (rdOf ByteArray.empty t217 x97_5).size ≤ 9223372036854775807) = true := decide_eq_true c42
                                                      try have c42b2 : (9223372036854775807 < (x19_5 ++ (⟨#[32]⟩ : ByteArray)).size + (rdOf ByteArray.empty t217 x97_5).size) = False := eq_false (Nat.not_lt.2 c42)
                                                      have H' := Aside0.mk H
                                                      clear H
                                                      have p221 : 0 ≤ (x97_5 : Int) := of_decide_eq_true (by first | (with_reducible assumption) | assumption)
                                                      have q221 : x97_5 < (t217.length : Int) := of_decide_eq_true (by first | (with_reducible assumption) | assumption)
                                                      obtain ⟨ad221, e221, hx221_0⟩ := Kd.at_string (Kd.R_reads' HO_95.out).2.2 x97_5 p221 q221
                                                      cases e221
                                                      replace p221 := eq_true p221
                                                      replace q221 := eq_true q221
                                                      go_wp2
                                                      go_roundg k5
                                                      case measure => have := HJ5.out; have := HJ12.out; have := HJ18.out; have := HK4.out; have := HK5.out; omega
                                                      case rel => exact ⟨((x19_5 ++ (⟨#[32]⟩ : ByteArray)) ++ (rdOf ByteArray.empty t217 x97_5)), (wrap64 (x97_5 + 1)), (by first | rfl | (simp; done) | (simp [*]; done)), (by first | rfl | (simp; done) | (simp [*]; done)), H', ⟨by have := HJ5.out; have := HJ12.out; have := HJ18.out; have := HK4.out; have := HK5.out; omega⟩, ⟨by (with_reducible repeat (first | apply Kd.R_alloc | apply Kd.R_drewN | apply Kd.R_drew)); exact HO_80.out⟩, ⟨by (with_reducible repeat (first | apply Kd.R_alloc | apply Kd.R_drewN | apply Kd.R_drew)); exact HO_95.out⟩, ⟨by repeat (first | (with_reducible first | exact HB.out | apply below_alloc | apply pw_below_drewN | apply below_drew1) | exact HB.out)⟩⟩
                                                    · rw [if_neg c42] at H
                                                      exact absurd H (by simp)
                                                  · rw [if_neg c41] at H
                                                    exact absurd H (by simp)
                                                · rw [if_neg c40] at H
                                                  have c40b0 : decide (0 < x97_5) = false := decide_eq_false c40
                                                  clear c40
                                                  by_cases c43 : x19_5.size + (rdOf ByteArray.empty t217 x97_5).size ≤ 9223372036854775807
                                                  · rw [if_pos c43] at H
                                                    have c43b0 := eq_true c43
                                                    have c43b1 : decide (x19_5.size + (rdOf ByteArray.empty t217 x97_5).size ≤ 9223372036854775807) = true := decide_eq_true c43
                                                    try have c43b2 : (9223372036854775807 < x19_5.size + (rdOf ByteArray.empty t217 x97_5).size) = False := eq_false (Nat.not_lt.2 c43)
                                                    have H' := Aside0.mk H
                                                    clear H
                                                    have p221 : 0 ≤ (x97_5 : Int) := of_decide_eq_true (by first | (with_reducible assumption) | assumption)
                                                    have q221 : x97_5 < (t217.length : Int) := of_decide_eq_true (by first | (with_reducible assumption) | assumption)
                                                    obtain ⟨ad221, e221, hx221_0⟩ := Kd.at_string (Kd.R_reads' HO_95.out).2.2 x97_5 p221 q221
                                                    cases e221
                                                    replace p221 := eq_true p221
                                                    replace q221 := eq_true q221
                                                    go_wp2
                                                    go_roundg k5
                                                    case measure => have := HJ5.out; have := HJ12.out; have := HJ18.out; have := HK4.out; have := HK5.out; omega
                                                    case rel => exact ⟨(x19_5 ++ (rdOf ByteArray.empty t217 x97_5)), (wrap64 (x97_5 + 1)), (by first | rfl | (simp; done) | (simp [*]; done)), (by first | rfl | (simp; done) | (simp [*]; done)), H', ⟨by have := HJ5.out; have := HJ12.out; have := HJ18.out; have := HK4.out; have := HK5.out; omega⟩, ⟨by (with_reducible repeat (first | apply Kd.R_alloc | apply Kd.R_drewN | apply Kd.R_drew)); exact HO_80.out⟩, ⟨by (with_reducible repeat (first | apply Kd.R_alloc | apply Kd.R_drewN | apply Kd.R_drew)); exact HO_95.out⟩, ⟨by repeat (first | (with_reducible first | exact HB.out | apply below_alloc | apply pw_below_drewN | apply below_drew1) | exact HB.out)⟩⟩
                                                  · rw [if_neg c43] at H
                                                    exact absurd H (by simp)
                                              · rw [if_neg c39] at H
                                                exact absurd H (by simp)
                                            · rw [if_neg c38] at H
                                              exact absurd H (by simp)
                                          · rw [if_neg c37] at H
                                            have c37b0 : decide (x97_5 < (t217.length : Int)) = false := decide_eq_false c37
                                            clear c37
                                            by_cases c44 : t218 = 0
                                            · rw [if_pos c44] at H
                                              have c44b0 : (t218 == 0) = true := beq_iff_eq.mpr c44
                                              have c44b1 : (t218 != 0) = false := bne_eq_false_iff_eq.mpr c44
                                              clear c44
                                              by_cases c45 : x19_5.toList = (rdOf ByteArray.empty t212 x82_4).toList
                                              · rw [if_pos c45] at H
                                                have c45b0 : (x19_5.toList == (rdOf ByteArray.empty t212 x82_4).toList) = true := beq_iff_eq.mpr c45
                                                have c45b1 : (x19_5.toList != (rdOf ByteArray.empty t212 x82_4).toList) = false := bne_eq_false_iff_eq.mpr c45
                                                clear c45
                                                have H' := Aside0.mk H
                                                clear H
                                                go_wp2
                                                go_roundg k5
                                                case measure => have := HJ5.out; have := HJ12.out; have := HJ18.out; have := HK4.out; have := HK5.out; omega
                                                case rel => exact ⟨((x14_4 ++ ((rdOf ByteArray.empty t212 x82_4) ++ (⟨#[10]⟩ : ByteArray)))), (wrap64 (x82_4 + 1)), (by first | rfl | (simp; done) | (simp [*]; done)), (by first | rfl | (simp; done) | (simp [*]; done)), H', ⟨by have := HJ5.out; have := HJ12.out; have := HJ18.out; have := HK4.out; have := HK5.out; omega⟩, ⟨by (with_reducible repeat (first | apply Kd.R_alloc | apply Kd.R_drewN | apply Kd.R_drew)); exact Kd.R_mono HO_80.out (fun _ hk => trivial)⟩, ⟨by repeat (first | (with_reducible first | exact HB.out | apply below_alloc | apply pw_below_drewN | apply below_drew1) | exact HB.out)⟩⟩
                                              · rw [if_neg c45] at H
                                                have c45b0 : (x19_5.toList == (rdOf ByteArray.empty t212 x82_4).toList) = false := beq_eq_false_iff_ne.mpr c45
                                                have c45b1 : (x19_5.toList != (rdOf ByteArray.empty t212 x82_4).toList) = true := bne_iff_ne.mpr c45
                                                obtain rfl := Option.some.inj H
                                                go_wp2
                                                go_ret
                                                exact ⟨by first | rfl | (simp [errW_none, errW_some] <;> rfl) | (simp [*, errW_none, errW_some] <;> rfl), by repeat (first | (with_reducible first | exact HB.out | apply below_alloc | apply pw_below_drewN | apply below_drew1) | exact HB.out)⟩
                                            · rw [if_neg c44] at H
                                              have c44b0 : (t218 == 0) = false := beq_eq_false_iff_ne.mpr c44
                                              have c44b1 : (t218 != 0) = true := bne_iff_ne.mpr c44
                                              have H' := Aside0.mk H
                                              clear H
                                              go_wp2
                                              go_roundg k5
                                              case measure => have := HJ5.out; have := HJ12.out; have := HJ18.out; have := HK4.out; have := HK5.out; omega
                                              case rel => exact ⟨((x14_4 ++ ((rdOf ByteArray.empty t212 x82_4) ++ (⟨#[10]⟩ : ByteArray)))), (wrap64 (x82_4 + 1)), (by first | rfl | (simp; done) | (simp [*]; done)), (by first | rfl | (simp; done) | (simp [*]; done)), H', ⟨by have := HJ5.out; have := HJ12.out; have := HJ18.out; have := HK4.out; have := HK5.out; omega⟩, ⟨by (with_reducible repeat (first | apply Kd.R_alloc | apply Kd.R_drewN | apply Kd.R_drew)); exact Kd.R_mono HO_80.out (fun _ hk => trivial)⟩, ⟨by repeat (first | (with_reducible first | exact HB.out | apply below_alloc | apply pw_below_drewN | apply below_drew1) | exact HB.out)⟩⟩
                                    · rw [if_neg c33] at H
                                      exact absurd H (by simp)
                                  · rw [if_neg c32] at H
                                    exact absurd H (by simp)
                                · rw [if_neg c31] at H
                                  exact absurd H (by simp)
                              · rw [if_neg c30] at H
                                exact absurd H (by simp)
                            · rw [if_neg c29] at H
                              have c29b0 : decide (x82_4 < (t212.length : Int)) = false := decide_eq_false c29
                              clear c29
                              obtain rfl := Option.some.inj H
                              go_wp2
                              go_ret
                              exact ⟨by first | rfl | (simp [errW_none, errW_some] <;> rfl) | (simp [*, errW_none, errW_some] <;> rfl), by repeat (first | (with_reducible first | exact HB.out | apply below_alloc | apply pw_below_drewN | apply below_drew1) | exact HB.out)⟩
                      · rw [if_neg c26] at H
                        have c26b0 : (t213 == 0) = false := beq_eq_false_iff_ne.mpr c26
                        have c26b1 : (t213 != 0) = true := bne_iff_ne.mpr c26
                        obtain rfl := Option.some.inj H
                        go_wp2_with (first | ((with_reducible refine gate_callee (f := 11) rfl ?_); refine goesL_ (some 72) rfl rfl Tryd.func11 (by kernel_rfl) rfl #[.string a2] rfl (by (try simp only [List.map_toArray, List.map_cons, List.map_nil]); first | done | rfl | (simp only [List.length_drop, List.length_take]; rfl)) ?_; (with_reducible refine (deci_Lines.calls a2 t212 t213 _ A25.out).mono ?_); rintro e w46 ⟨v214, rfl, ho0, hb⟩; refine ⟨_, rfl, ?_⟩; have n0_ := Aside0.mk (Kd.R_lower ho0 (below_size (by repeat (first | (with_reducible first | exact HB.out | apply below_alloc | apply pw_below_drewN | apply below_drew1) | exact HB.out)))); have n1_ := Aside0.mk (below_step (by repeat (first | (with_reducible first | exact HB.out | apply below_alloc | apply pw_below_drewN | apply below_drew1) | exact HB.out)) hb); clear HB; have HO215 := n0_; have HB := n1_; clear n0_ n1_; (try clear hb); (try clear hb2); (try clear hk); (try clear hi); (try clear ho0); obtain ⟨Ao47, co47, eo47⟩ := Kd.R_slice HO215.out; subst eo47))
                        go_ret
                        exact ⟨by first | rfl | (simp [errW_none, errW_some] <;> rfl) | (simp [*, errW_none, errW_some] <;> rfl), by repeat (first | (with_reducible first | exact HB.out | apply below_alloc | apply pw_below_drewN | apply below_drew1) | exact HB.out)⟩
  · replace c5 := Bool.eq_false_iff.mpr c5
    subst c5
    have H1 : (some false) = some r := by rw [if_neg (show ¬ (false = true) by decide)] at H; exact H
    clear H
    have H := H1
    clear H1
    obtain rfl := Option.some.inj H
    go_enter Tryd.func4, Tryd.ntmps4
    go_wp2_with (first | ((with_reducible refine gate_callee (f := 8) rfl ?_); refine goesL_ (some 22) rfl rfl Tryd.func8 (by kernel_rfl) rfl #[] rfl (by (try simp only [List.map_toArray, List.map_cons, List.map_nil]); first | done | rfl | (simp only [List.length_drop, List.length_take]; rfl)) ?_; (with_reducible refine (jitneylaw03_alive.calls k  false _ A4.out (GW.step hG (by repeat (first | (with_reducible first | exact HB.out | apply below_alloc | apply pw_below_drewN | apply below_drew1) | exact HB.out)))).mono ?_); rintro e w48 ⟨rfl, hb⟩; refine ⟨_, rfl, ?_⟩; have n0_ := Aside0.mk (below_step (by repeat (first | (with_reducible first | exact HB.out | apply below_alloc | apply pw_below_drewN | apply below_drew1) | exact HB.out)) hb); clear HB; have HB := n0_; clear n0_; (try clear hb); (try clear hb2); (try clear hk); (try clear hi)))
    go_ret
    exact ⟨by first | rfl | (simp [errW_none, errW_some] <;> rfl) | (simp [*, errW_none, errW_some] <;> rfl), by repeat (first | (with_reducible first | exact HB.out | apply below_alloc | apply pw_below_drewN | apply below_drew1) | exact HB.out)⟩

end Go.Proofs.YtfhpppibiemhkaaDoor.P
