/- The document's Parse: what it says of a text. P2 P22 The same instance: what == says of two equal elements; rows of whole numbers. The same instance: two that read alike are the same. All texts are the instance, or have the error, that the document says. -/
import Derived.Test.YtcdmndhaeiccoaaGreatDoorMkit
import Derived.Test.YtcdmndhaeiccoaaGreatDoorM30
import Derived.Test.YtcdmndhaeiccoaaGreatDoorM31
import Derived.Test.YtcdmndhaeiccoaaGreatDoorM00
import Derived.Test.YtcdmndhaeiccoaaGreatDoorM14
import Derived.Test.YtcdmndhaeiccoaaGreatDoorM19
import Derived.Test.YtcdmndhaeiccoaaGreatDoorM06
import Derived.Test.YtcdmndhaeiccoaaGreatDoorM24
namespace Go.Proofs.YtcdmndhaeiccoaaGreatDoor.P
open Go Go.Proofs.YtcdmndhaeiccoaaGreatDoorR
open Go.RowKit Go.Proofs.YtcdmndhaeiccoaaGreatDoorW.PrintWords Go.Proofs.YtcdmndhaeiccoaaGreatDoorW.PrintLast
set_option linter.unusedVariables false
set_option linter.unusedSimpArgs false
theorem nextM_ne {ls : List ByteArray} {l : Nat} {first : ByteArray} {n e : Int} (h : nextM ls l first n = .error e) : e ≠ 0 := by
  unfold nextM at h
  split at h
  · cases h; decide
  · unfold lineE at h
    split at h
    · cases h; decide
    · cases h
theorem headM_ne {ls : List ByteArray} {e : Int} (h : headM ls = .error e) : e ≠ 0 := by
  unfold headM at h
  split at h
  · rename_i e' hN
    cases h
    exact nextM_ne hN
  · unfold headW at h
    split at h
    · rename_i hq; cases h; exact hq
    · split at h
      · cases h; decide
      · split at h
        · rename_i hq; cases h; exact hq
        · split at h
          · rename_i hq; cases h; exact hq
          · split at h
            · cases h; decide
            · split at h
              · cases h; decide
              · split at h
                · cases h; decide
                · cases h
  · cases h; decide
theorem lt_cell {w : World} {a : Addr} {v : Value} (h : w.cell? a = some v) : a.block < w.heap.size := by
  rcases Nat.lt_or_ge a.block w.heap.size with h' | h'
  · exact h'
  · simp [World.cell?, Array.getElem?_eq_none h'] at h
theorem lines_of_C {w : World} {A : Option Addr} {ls : List ByteArray} (h : Kd.string.C w A ls.length ls) : LinesAt w w.heap.size A ls := by
  intro i t ht
  obtain ⟨ad, ha, hc⟩ := at_line h ht
  refine ⟨ad, ha, ?_, hc⟩
  have := lt_cell hc
  rw [ad_block] at this
  exact this
theorem ref_Parse.calls (t : ByteArray) (ht : t.size ≤ 3000) (w : World) : Calls Tryz.prog 6 #[.string t] w (AnsP w (parseM ((linesL t.data.toList).1.map mkB) (linesL t.data.toList).2)) := by
  have hL := refLines_is 20000 t (.inl (by omega))
  have hln := linesL_len t.data.toList
  obtain ⟨ps, e, hp⟩ : ∃ ps e, linesL t.data.toList = (ps, e) := ⟨_, _, rfl⟩
  have hsz : ∀ x ∈ ps.map mkB, x.size ≤ 3000 := by
    intro x hx
    obtain ⟨p, h1, rfl⟩ := List.mem_map.1 hx
    have := lines_size (l := t.data.toList) (p := p) (by rw [hp]; exact h1)
    rw [mkB_size]
    rw [← Lib.size_eq] at this
    omega
  rw [hp] at hL hln ⊢
  have hf : jitneyref03_Lines.f 20000 t = some (ps.map mkB, e) := hL
  have hll : (ps.map mkB).length ≤ 20000 := by
    have h1 := hln.1
    rw [← Lib.size_eq] at h1
    rw [List.length_map]
    have h2 : ps.length ≤ t.size + 1 := h1
    omega
  clear hL hp hln
  show Calls Tryz.prog 6 #[.string t] w (AnsP w (parseM (ps.map mkB) e))
  generalize ps.map mkB = ls at hsz hf hll ⊢
  have C9 := fun W => jitneyref03_Lines.calls 20000 t ls e W hf
  unfold parseM
  by_cases he : e = 0
  · subst he
    rw [if_neg (fun h => h rfl)]
    by_cases hl : ls.length = 0
    · rw [if_pos hl]
      refine ref_parse_none t w fun W => (C9 W).mono ?_
      rintro r w' ⟨v, rfl, hR, hb⟩
      obtain ⟨A, q, rfl⟩ := Kd.R_slice hR
      exact ⟨A, q, by rw [hl], hb⟩
    · rw [if_neg hl]
      obtain ⟨l0, h0⟩ : ∃ l0, ls[0]? = some l0 := ⟨_, List.getElem?_eq_getElem (by omega)⟩
      have hl0 := hsz l0 (List.mem_of_getElem? h0)
      have hh := ref_head_is l0 ls h0 hl0
      have CL : ∀ W, Calls Tryz.prog 13 #[.string t] W fun r w' => ∃ ad q, r = .returned (.tuple #[.slice (some ad) ls.length q, .int .i64 0]) ∧ Below W.heap.size W w' ∧ w'.cell? ad = some (.string l0) ∧ LinesAt w' w'.heap.size (some ad) ls := fun W => (C9 W).mono (by
        rintro r w' ⟨v, rfl, hR, hb⟩
        obtain ⟨A, q, rfl, hq, hC⟩ := Kd.R_reads hR
        obtain ⟨ad, rfl, hc⟩ := at_line hC h0
        rw [Addr.add_zero'] at hc
        exact ⟨ad, q, rfl, hb, hc, lines_of_C hC⟩)
      cases hM : headM ls with
      | error e =>
        have hne := headM_ne hM
        have hI : instM ls = .error (1, e) := by unfold instM; rw [hM]
        rw [hI]
        rw [hM] at hh
        exact ref_parse_head t l0 ls.length hl e 0 0 0 false hne w (fun W => (CL W).mono fun r w' ⟨ad, q, h1, h2, h3, _⟩ => ⟨ad, q, h1, h2, h3⟩) (fun W => jitneyref06_head.calls 20000 l0 0 0 0 false e W hh)
      | ok p =>
        obtain ⟨c, n, s, sp⟩ := p
        obtain ⟨b1, b2, b3, b4, b5, b6⟩ := headM_bound hM
        have hI : instM ls = finM ls (allM c.toNat n.toNat sp) s (goM (stepM ls c.toNat n.toNat s sp) (allM c.toNat n.toNat sp - 1) 1 zI) := by unfold instM; rw [hM]; rfl
        rw [hM] at hh
        show Calls Tryz.prog 6 #[.string t] w (AnsP w (outM (instM ls)))
        rw [hI]
        have CH : ∀ W, Calls Tryz.prog 14 #[.string l0] W fun r w' => r = .returned (.tuple #[.int .i64 (c.toNat : Int), .int .i64 (n.toNat : Int), .int .i64 s, .bool sp, .int .i64 0]) ∧ Below W.heap.size W w' := fun W => by
          rw [Int.toNat_of_nonneg (by omega), Int.toNat_of_nonneg (by omega)]
          exact jitneyref06_head.calls 20000 l0 c n s sp 0 W hh
        have CK : ∀ W base v0 v1 v2 v3 x, InstAt W base v0 v1 v2 v3 x → goM (stepM ls c.toNat n.toNat s sp) (allM c.toNat n.toNat sp - 1) 1 zI = .ok x → Calls Tryz.prog 16 #[.agg #[v0, v1, v2, v3]] W fun r w' => r = .returned (.int .i64 (chkI x)) ∧ Below W.heap.size W w' := by
          intro W base v0 v1 v2 v3 x hX hg
          obtain ⟨p, hC, hv⟩ := inC_of hX
          rw [hv]
          exact ref_Check.calls p x W hC (inst_good hsz (by omega) (by omega) (by omega) hg)
        cases sp with
        | true => exact ref_parse_spots t l0 ls c.toNat n.toNat s w h0 hsz hll (by omega) (by omega) (by omega) CL CH CK
        | false => exact ref_parse_times t l0 ls c.toNat n.toNat s w h0 hsz hll (by omega) (by omega) (by omega) CL CH CK
  · rw [if_pos he]
    refine ref_parse_bad t e he w fun W => (C9 W).mono ?_
    rintro r w' ⟨v, rfl, _, hb⟩
    exact ⟨v, rfl, hb⟩
end Go.Proofs.YtcdmndhaeiccoaaGreatDoor.P
namespace Go.Proofs.YtcdmndhaeiccoaaGreatDoor.P
open Go.Proofs.YtcdmndhaeiccoaaGreatDoorR
open Go.RowKit Go.Proofs.YtcdmndhaeiccoaaGreatDoorW.PrintWords Go.Proofs.YtcdmndhaeiccoaaGreatDoorW.PrintLast
attribute [local go_sem] max2_int min2_int max_two min_two   -- for this text's walks alone
set_option linter.unusedVariables false
set_option linter.unusedSimpArgs false

theorem eqA60 (d : Nat) (w : World) (x0 y0 : Int) (x1 y1 : Int) (x2 y2 : Int) :
    (Op.equalIn (d + 3) 60 (.agg #[.int .i64 x0, .int .i64 x1, .int .i64 x2]) (.agg #[.int .i64 y0, .int .i64 y1, .int .i64 y2])).run Tryz.prog w = .ok ((x0 == y0 && (x1 == y1)) && (x2 == y2)) w := by
  refine eqA_of Tryz.underlying60 (by kernel_rfl) ?_
  refine eqf_cons (by rfl) (by go_simp) (by go_simp) (eqA58 (d + 0) w _ _ _ _) ?_
  exact eqf_last (by rfl) (by go_simp; rfl) (by go_simp; rfl) (by go_simp)
end Go.Proofs.YtcdmndhaeiccoaaGreatDoor.P
namespace Go.Proofs.YtcdmndhaeiccoaaGreatDoor.P
open Go.Proofs.YtcdmndhaeiccoaaGreatDoorR
open Go.RowKit Go.Proofs.YtcdmndhaeiccoaaGreatDoorW.PrintWords Go.Proofs.YtcdmndhaeiccoaaGreatDoorW.PrintLast
attribute [local go_sem] max2_int min2_int max_two min_two   -- for this text's walks alone
set_option linter.unusedVariables false
set_option linter.unusedSimpArgs false

-- NOT PRINTED: function 6 (jitneyref06_Parse)

/-! ### jitneyref01_SameLongs: function 17 -/
def jitneyref01_SameLongs.l0 : Nat → List Int → List Int → Int → Option (Bool)
  | 0, _, _, _ => none
  | k + 1, x0, x1, x5 => if x5 < (x0.length : Int) then (if 0 ≤ x5 then (if x5 < (x1.length : Int) then (if (rd x0 x5) = (rd x1 x5) then (jitneyref01_SameLongs.l0 k x0 x1 (wrap64 (x5 + 1))) else (some false)) else (none)) else (none)) else (some true)
def jitneyref01_SameLongs.f (k : Nat) (l0 : List Int) (l1 : List Int) : Option (Bool) := if (l0.length : Int) = (l1.length : Int) then (jitneyref01_SameLongs.l0 k l0 l1 0) else (some false)
set_option maxHeartbeats 8000000 in
set_option maxRecDepth 100000 in
theorem jitneyref01_SameLongs.calls (k : Nat) (A0 : Option Addr) (c0 : Nat) (l0 : List Int) (A1 : Option Addr) (c1 : Nat) (l1 : List Int) (r : Bool) (w : World) (hr0 : Kd.C (Kd.int .i64) w A0 l0.length l0) (hc0 : l0.length ≤ c0) (hr1 : Kd.C (Kd.int .i64) w A1 l1.length l1) (hc1 : l1.length ≤ c1) (h : jitneyref01_SameLongs.f k l0 l1 = some r) :
    Calls Tryz.prog 17 #[.slice A0 l0.length c0, .slice A1 l1.length c1] w fun e w' => e = .returned (.bool r) ∧ Drawn0 w w' := by
  have HR0 := Aside0.mk hr0
  have HC0 := Aside0.mk hc0
  clear hr0 hc0
  have HR1 := Aside0.mk hr1
  have HC1 := Aside0.mk hc1
  clear hr1 hc1
  have H : (if (l0.length : Int) = (l1.length : Int) then (jitneyref01_SameLongs.l0 k l0 l1 0) else (some false)) = some r := h
  clear h
  by_cases c3 : (l0.length : Int) = (l1.length : Int)
  · rw [if_pos c3] at H
    have c3b0 : ((l0.length : Int) == (l1.length : Int)) = true := beq_iff_eq.mpr c3
    have c3b1 : ((l0.length : Int) != (l1.length : Int)) = false := bne_eq_false_iff_eq.mpr c3
    have c3b2 : (l0.length == l1.length) = true := by first | simpa using c3 | (simp at c3 ⊢; omega)
    clear c3
    have H' := Aside0.mk H
    clear H
    go_enter Tryz.func17, Tryz.ntmps17
    go_wp2
    repeat (go_quiet (fail); try go_wp2)
    go_loopg [5] k (fun kq v5 w' => ∃ (x5_1 : Int), v5 = .int .i64 x5_1 ∧ Aside0 (jitneyref01_SameLongs.l0 kq l0 l1 x5_1 = some r) ∧ Aside0 (kq ≤ k) ∧ Drawn0 w w')
    case atStart => exact ⟨(0), (by first | rfl | (simp; done) | (simp [*]; done)), H', ⟨Nat.le_refl _⟩, by repeat (first | exact Drawn0.refl _ | apply Drawn0.step)⟩
    case round =>
      clear H'
      try clear c1
      try clear p2
      try clear c3
      try clear c3b0
      try clear c3b1
      try clear c3b2
      obtain ⟨x5_1, rfl, HA, HK1, ⟨m1, rfl⟩⟩ := hrel
      cases gk with
      | zero => exact absurd HA.out (by simp [jitneyref01_SameLongs.l0])
      | succ k1 =>
        have H := HA.out
        clear HA
        simp only [jitneyref01_SameLongs.l0] at H
        by_cases c4 : x5_1 < (l0.length : Int)
        · rw [if_pos c4] at H
          have c4b0 : decide (x5_1 < (l0.length : Int)) = true := decide_eq_true c4
          clear c4
          by_cases c5 : 0 ≤ x5_1
          · rw [if_pos c5] at H
            have c5b0 : decide (0 ≤ x5_1) = true := decide_eq_true c5
            clear c5
            by_cases c6 : x5_1 < (l1.length : Int)
            · rw [if_pos c6] at H
              have c6b0 : decide (x5_1 < (l1.length : Int)) = true := decide_eq_true c6
              clear c6
              by_cases c7 : (rd l0 x5_1) = (rd l1 x5_1)
              · rw [if_pos c7] at H
                have c7b0 : ((rd l0 x5_1) == (rd l1 x5_1)) = true := beq_iff_eq.mpr c7
                have c7b1 : ((rd l0 x5_1) != (rd l1 x5_1)) = false := bne_eq_false_iff_eq.mpr c7
                clear c7
                have H' := Aside0.mk H
                clear H
                have p303 : 0 ≤ (x5_1 : Int) := of_decide_eq_true (by first | (with_reducible assumption) | assumption)
                have q303 : x5_1 < (l0.length : Int) := of_decide_eq_true (by first | (with_reducible assumption) | assumption)
                obtain ⟨ad303, e303, hx303_0⟩ := Kd.at_int HR0.out x5_1 p303 q303
                cases e303
                replace p303 := eq_true p303
                replace q303 := eq_true q303
                have p304 : 0 ≤ (x5_1 : Int) := of_decide_eq_true (by first | (with_reducible assumption) | assumption)
                have q304 : x5_1 < (l1.length : Int) := of_decide_eq_true (by first | (with_reducible assumption) | assumption)
                obtain ⟨ad304, e304, hx304_0⟩ := Kd.at_int HR1.out x5_1 p304 q304
                cases e304
                replace p304 := eq_true p304
                replace q304 := eq_true q304
                go_wp2
                repeat (go_quiet (fail); try go_wp2)
                go_roundg k1
                case measure => have := HK1.out; omega
                case rel => exact ⟨(wrap64 (x5_1 + 1)), (by first | rfl | (simp; done) | (simp [*]; done)), H', ⟨by have := HK1.out; omega⟩, by repeat (first | exact Drawn0.refl _ | apply Drawn0.step)⟩
              · rw [if_neg c7] at H
                have c7b0 : ((rd l0 x5_1) == (rd l1 x5_1)) = false := beq_eq_false_iff_ne.mpr c7
                have c7b1 : ((rd l0 x5_1) != (rd l1 x5_1)) = true := bne_iff_ne.mpr c7
                obtain rfl := Option.some.inj H
                have p303 : 0 ≤ (x5_1 : Int) := of_decide_eq_true (by first | (with_reducible assumption) | assumption)
                have q303 : x5_1 < (l0.length : Int) := of_decide_eq_true (by first | (with_reducible assumption) | assumption)
                obtain ⟨ad303, e303, hx303_0⟩ := Kd.at_int HR0.out x5_1 p303 q303
                cases e303
                replace p303 := eq_true p303
                replace q303 := eq_true q303
                have p304 : 0 ≤ (x5_1 : Int) := of_decide_eq_true (by first | (with_reducible assumption) | assumption)
                have q304 : x5_1 < (l1.length : Int) := of_decide_eq_true (by first | (with_reducible assumption) | assumption)
                obtain ⟨ad304, e304, hx304_0⟩ := Kd.at_int HR1.out x5_1 p304 q304
                cases e304
                replace p304 := eq_true p304
                replace q304 := eq_true q304
                go_wp2
                repeat (go_quiet (fail); try go_wp2)
                go_ret
                exact ⟨by first | rfl | (simp; done) | (simp [*]; done), by repeat (first | exact Drawn0.refl _ | apply Drawn0.step)⟩
            · rw [if_neg c6] at H
              exact absurd H (by simp)
          · rw [if_neg c5] at H
            exact absurd H (by simp)
        · rw [if_neg c4] at H
          have c4b0 : decide (x5_1 < (l0.length : Int)) = false := decide_eq_false c4
          clear c4
          obtain rfl := Option.some.inj H
          go_wp2
          repeat (go_quiet (fail); try go_wp2)
          go_ret
          exact ⟨by first | rfl | (simp; done) | (simp [*]; done), by repeat (first | exact Drawn0.refl _ | apply Drawn0.step)⟩
  · rw [if_neg c3] at H
    have c3b0 : ((l0.length : Int) == (l1.length : Int)) = false := beq_eq_false_iff_ne.mpr c3
    have c3b1 : ((l0.length : Int) != (l1.length : Int)) = true := bne_iff_ne.mpr c3
    have c3b2 : (l0.length == l1.length) = false := by first | simpa using c3 | (simp at c3 ⊢; omega)
    obtain rfl := Option.some.inj H
    go_enter Tryz.func17, Tryz.ntmps17
    go_wp2
    repeat (go_quiet (fail); try go_wp2)
    go_ret
    exact ⟨by first | rfl | (simp; done) | (simp [*]; done), by repeat (first | exact Drawn0.refl _ | apply Drawn0.step)⟩

end Go.Proofs.YtcdmndhaeiccoaaGreatDoor.P
namespace Go.Proofs.YtcdmndhaeiccoaaGreatDoor.P
open Go Go.Proofs.YtcdmndhaeiccoaaGreatDoorR
open Go.RowKit Go.Proofs.YtcdmndhaeiccoaaGreatDoorW.PrintWords Go.Proofs.YtcdmndhaeiccoaaGreatDoorW.PrintLast
set_option linter.unusedVariables false
set_option linter.unusedSimpArgs false
theorem longs_loop (l : List Int) (hl : l.length ≤ 20000) : ∀ (d k i : Nat), i + d = l.length → d < k → jitneyref01_SameLongs.l0 k l l (i : Int) = some true
  | 0, k, i, hi, hk => by
    obtain ⟨k, rfl⟩ : ∃ m, k = m + 1 := ⟨k - 1, by omega⟩
    unfold jitneyref01_SameLongs.l0
    rw [if_neg (by omega)]
  | d + 1, k, i, hi, hk => by
    obtain ⟨k, rfl⟩ : ∃ m, k = m + 1 := ⟨k - 1, by omega⟩
    unfold jitneyref01_SameLongs.l0
    have e2 : wrap64 ((i : Int) + 1) = ((i + 1 : Nat) : Int) := wrap_nat (by omega)
    rw [if_pos (by omega), if_pos (by omega), if_pos (by omega), if_pos rfl, e2]
    exact longs_loop l hl d k (i + 1) (by omega) (by omega)
theorem sameLongs_self (l : List Int) (hl : l.length ≤ 20000) : jitneyref01_SameLongs.f 30000 l l = some true := by
  unfold jitneyref01_SameLongs.f
  rw [if_pos rfl]
  exact longs_loop l hl l.length 30000 0 (by omega) (by omega)
theorem floatEq_self {x : Nat} {n : Int} (h : FIs x n) : Op.floatEq .f64 x x = true := by
  have h2 := fl_order h h
  rw [Int.compare_eq_eq.2 rfl] at h2
  unfold Op.floatEq
  rw [h2]
  rfl
theorem eqC61 (d : Nat) (w : World) {a b : Nat} (ha : Op.floatEq .f64 a a = true) (hb : Op.floatEq .f64 b b = true) : (Op.equalIn (d + 1) 61 (.complex .f64 a b) (.complex .f64 a b)).run Tryz.prog w = .ok true w := by
  simp [Op.equalIn, run_underlying Tryz.underlying61, ha, hb]
theorem eqS63 (d : Nat) (w : World) (x0 x1 x2 x3 x4 : Int) {a b : Nat} (ha : Op.floatEq .f64 a a = true) (hb : Op.floatEq .f64 b b = true) :
    (Op.equalIn (d + 3) 63 (.agg #[.int .i64 x0, .int .i64 x1, .int .i64 x2, .int .i64 x3, .int .i64 x4, .complex .f64 a b]) (.agg #[.int .i64 x0, .int .i64 x1, .int .i64 x2, .int .i64 x3, .int .i64 x4, .complex .f64 a b])).run Tryz.prog w = .ok true w := by
  have h : (Op.equalIn (d + 3) 63 (.agg #[.int .i64 x0, .int .i64 x1, .int .i64 x2, .int .i64 x3, .int .i64 x4, .complex .f64 a b]) (.agg #[.int .i64 x0, .int .i64 x1, .int .i64 x2, .int .i64 x3, .int .i64 x4, .complex .f64 a b])).run Tryz.prog w = .ok ((x0 == x0 && (x1 == x1)) && ((x2 == x2) && ((x3 == x3) && ((x4 == x4) && true)))) w := by
    refine eqA_of Tryz.underlying63 (by kernel_rfl) ?_
    refine eqf_cons (by rfl) (by go_simp) (by go_simp) (eqA58 (d + 0) w _ _ _ _) ?_
    refine eqf_cons (by rfl) (by go_simp; rfl) (by go_simp; rfl) (by go_simp) ?_
    refine eqf_cons (by rfl) (by go_simp; rfl) (by go_simp; rfl) (by go_simp) ?_
    refine eqf_cons (by rfl) (by go_simp; rfl) (by go_simp; rfl) (by go_simp) ?_
    exact eqf_last (a := .complex .f64 a b) (b := .complex .f64 a b) (by rfl) (by go_simp) (by go_simp) (eqC61 (d + 1) w ha hb)
  simpa using h
theorem eqS60 (d : Nat) (w : World) (x0 x1 x2 : Int) :
    (Op.equalIn (d + 3) 60 (.agg #[.int .i64 x0, .int .i64 x1, .int .i64 x2]) (.agg #[.int .i64 x0, .int .i64 x1, .int .i64 x2])).run Tryz.prog w = .ok true w := by
  simpa using eqA60 d w x0 x0 x1 x1 x2 x2
theorem neq60 (w : World) (x0 x1 x2 : Int) : (binOp .neq 60 (.agg #[.int .i64 x0, .int .i64 x1, .int .i64 x2]) (.agg #[.int .i64 x0, .int .i64 x1, .int .i64 x2])).run Tryz.prog w = .ok (.bool false) w := by
  have h := eqS60 9997 w x0 x1 x2
  simp only [binOp]
  simp [Op.equal, Op.maxDepth, h]
theorem neq63 (w : World) (x0 x1 x2 x3 x4 : Int) {a b : Nat} (ha : Op.floatEq .f64 a a = true) (hb : Op.floatEq .f64 b b = true) : (binOp .neq 63 (.agg #[.int .i64 x0, .int .i64 x1, .int .i64 x2, .int .i64 x3, .int .i64 x4, .complex .f64 a b]) (.agg #[.int .i64 x0, .int .i64 x1, .int .i64 x2, .int .i64 x3, .int .i64 x4, .complex .f64 a b])).run Tryz.prog w = .ok (.bool false) w := by
  have h := eqS63 9997 w x0 x1 x2 x3 x4 ha hb
  simp only [binOp]
  simp [Op.equal, Op.maxDepth, h]
end Go.Proofs.YtcdmndhaeiccoaaGreatDoor.P
namespace Go.Proofs.YtcdmndhaeiccoaaGreatDoor.P
open Go Go.Proofs.YtcdmndhaeiccoaaGreatDoorR
open Go.RowKit Go.Proofs.YtcdmndhaeiccoaaGreatDoorW.PrintWords Go.Proofs.YtcdmndhaeiccoaaGreatDoorW.PrintLast
set_option linter.unusedVariables false
set_option linter.unusedSimpArgs false
set_option maxHeartbeats 8000000
set_option maxRecDepth 100000
theorem ref_Same.calls (p q : Lie) (x : InstP) (w : World) (h : InC w p x) (h' : InC w q x) (hs : ∀ s ∈ x.stops, ∃ a b, Spot s.f4.1 s.f4.2 a b) (l0 : x.cars.length ≤ 20000) (l1 : x.stops.length ≤ 20000) (l2 : x.rides.length ≤ 20000) (l3 : x.rows.length ≤ 20000) (lr : ∀ r ∈ x.rows, r.length ≤ 20000) :
    Calls Tryz.prog 7 #[.agg (instCs p x), .agg (instCs q x)] w fun e w' => e = .returned (.bool true) ∧ Below w.heap.size w w' := by
  obtain ⟨A0, c0, A1, c1, A2, c2, A3, c3⟩ := p
  obtain ⟨B0, e0, B1, e1, B2, e2, B3, e3⟩ := q
  have HX := Aside0.mk h
  have HY := Aside0.mk h'
  have CS := Aside0.mk (fun (W : World) (hb : Below w.heap.size w W) => (jitneyref01_SameLongs.calls 30000 A2 c2 x.rides B2 e2 x.rides true W (Kd.C_below h.h2 hb) h.g2 (Kd.C_below h'.h2 hb) h'.g2 (sameLongs_self _ l2)).mono fun e w' k => (show e = .returned (.bool true) ∧ Below W.heap.size W w' from ⟨k.1, k.2.below⟩))
  have HS := Aside0.mk (fun (j : Nat) (hj : j < x.stops.length) => (show ∃ a b, Spot (rd_T63 x.stops (j : Int)).f4.1 (rd_T63 x.stops (j : Int)).f4.2 a b from hs _ (by unfold rd_T63; rw [rd_at z63 x.stops j hj]; exact List.getElem_mem hj)))
  have HLR := Aside0.mk (fun (j : Nat) (hj : j < x.rows.length) => lr (rd_L6 x.rows (j : Int)) (by unfold rd_L6; rw [rd_at [] x.rows j hj]; exact List.getElem_mem hj))
  show Calls Tryz.prog 7 #[.agg #[.slice A0 x.cars.length c0, .slice A1 x.stops.length c1, .slice A2 x.rides.length c2, .slice A3 x.rows.length c3], .agg #[.slice B0 x.cars.length e0, .slice B1 x.stops.length e1, .slice B2 x.rides.length e2, .slice B3 x.rows.length e3]] w _
  obtain ⟨n0, hn0⟩ : ∃ n, n = x.cars.length := ⟨_, rfl⟩
  obtain ⟨n1, hn1⟩ : ∃ n, n = x.stops.length := ⟨_, rfl⟩
  obtain ⟨n2, hn2⟩ : ∃ n, n = x.rides.length := ⟨_, rfl⟩
  obtain ⟨n3, hn3⟩ : ∃ n, n = x.rows.length := ⟨_, rfl⟩
  have X0 := Aside0.mk h.h0
  have X1 := Aside0.mk h.h1
  have X3 := Aside0.mk h.h3
  have Y0 := Aside0.mk h'.h0
  have Y1 := Aside0.mk h'.h1
  have Y3 := Aside0.mk h'.h3
  dsimp only at X0 X1 X3 Y0 Y1 Y3
  rw [← hn0] at X0 Y0 l0 ⊢
  rw [← hn1] at X1 Y1 l1 HS ⊢
  rw [← hn3] at X3 Y3 l3 HLR ⊢
  rw [← hn2] at CS ⊢
  have L0 := Aside0.mk l0
  have L1 := Aside0.mk l1
  have L3 := Aside0.mk l3
  generalize x.cars = cars at X0 Y0
  generalize x.stops = stops at X1 Y1 HS
  generalize x.rows = rows at X3 Y3 HLR
  clear h h' hs l0 l1 l2 l3 lr hn0 hn1 hn2 hn3 HX HY
  have q0 : ((n0 : Int) == (n0 : Int)) = true := by simp
  have q0' : ((n0 : Int) != (n0 : Int)) = false := by simp
  have q1 : ((n1 : Int) == (n1 : Int)) = true := by simp
  have q1' : ((n1 : Int) != (n1 : Int)) = false := by simp
  have q3 : ((n3 : Int) == (n3 : Int)) = true := by simp
  have q3' : ((n3 : Int) != (n3 : Int)) = false := by simp
  have HB := Aside0.mk (below_alloc (below_alloc (Below.refl w.heap.size w) (.cells #[.slice A0 n0 c0, .slice A1 n1 c1, .slice A2 n2 c2, .slice A3 n3 c3] 28 (0, 0))) (.cells #[.slice B0 n0 e0, .slice B1 n1 e1, .slice B2 n2 e2, .slice B3 n3 e3] 28 (0, 0)))
  have HW := Aside0.mk (heap_alloc2_old w (.cells #[.slice A0 n0 c0, .slice A1 n1 c1, .slice A2 n2 c2, .slice A3 n3 c3] 28 (0, 0)) (.cells #[.slice B0 n0 e0, .slice B1 n1 e1, .slice B2 n2 e2, .slice B3 n3 e3] 28 (0, 0)))
  have HV := Aside0.mk (heap_alloc2_new w (.cells #[.slice A0 n0 c0, .slice A1 n1 c1, .slice A2 n2 c2, .slice A3 n3 c3] 28 (0, 0)) (.cells #[.slice B0 n0 e0, .slice B1 n1 e1, .slice B2 n2 e2, .slice B3 n3 e3] 28 (0, 0)))
  go_enter Tryz.func7, Tryz.ntmps7
  go_wp2_with (first | (go_at_call 17; refine (CS.out _ HB.out).mono ?_; rintro r w1 ⟨rfl, hb⟩; have HB1 := Aside0.mk (HB.out.trans (hb.mono HB.out.size)); have HW1 := Aside0.mk ((hb.block _ (Array.getElem?_eq_some_iff.1 HW.out).1).trans HW.out); have HV1 := Aside0.mk ((hb.block _ (Array.getElem?_eq_some_iff.1 HV.out).1).trans HV.out); clear hb; obtain ⟨⟨y0, y1, y2, y3⟩, -⟩ := four_of HW1.out; obtain ⟨⟨u0, u1, u2, u3⟩, -⟩ := four_of HV1.out))
  clear q0 q0' q1 q1' q3 q3' y0 y1 y2 y3 u0 u1 u2 u3
  go_loopg [5] n0 (fun gg v5 wr => ∃ j : Nat, v5 = .int .i64 (j : Int) ∧ j ≤ n0 ∧ n0 - j ≤ gg ∧ Aside0 (wr.heap[w.heap.size]? = some (.cells #[.slice A0 n0 c0, .slice A1 n1 c1, .slice A2 n2 c2, .slice A3 n3 c3] 28 (0, 0))) ∧ Aside0 (wr.heap[w.heap.size + 1]? = some (.cells #[.slice B0 n0 e0, .slice B1 n1 e1, .slice B2 n2 e2, .slice B3 n3 e3] 28 (0, 0))) ∧ Aside0 (Below w.heap.size w wr))
  case atStart => exact ⟨0, rfl, Nat.zero_le _, Nat.le_refl _, HW1, HV1, HB1⟩
  case round =>
    clear HW HV HB HW1 HV1 HB1
    obtain ⟨j, rfl, hj, hm, HW, HV, HB⟩ := hrel
    obtain ⟨⟨y0, y1, y2, y3⟩, -⟩ := four_of HW.out
    obtain ⟨⟨u0, u1, u2, u3⟩, -⟩ := four_of HV.out
    by_cases hjn : j < n0
    · have cjm : decide ((j : Int) < (n0 : Int)) = true := by simp; omega
      have cjm2 : decide (j < n0) = true := by simp; omega
      have p1 : (0 : Int) ≤ (j : Int) := by omega
      have p2 : (j : Int) < (n0 : Int) := by omega
      have w1 : wrap64 ((j : Int) + 1) = (j : Int) + 1 := by have := L0.out; have := L1.out; have := L3.out; unfold wrap64; omega
      obtain ⟨ad, rfl, h0, h1, h2⟩ := at_T60 X0.out (j : Int) p1 p2
      obtain ⟨bd, rfl, k0, k1, k2⟩ := at_T60 Y0.out (j : Int) p1 p2
      rw [Int.toNat_natCast] at h0 h1 h2 k0 k1 k2
      have gh0 := cell_below HB.out h0
      have gh1 := cell_below HB.out h1
      have gh2 := cell_below HB.out h2
      have gk0 := cell_below HB.out k0
      have gk1 := cell_below HB.out k1
      have gk2 := cell_below HB.out k2
      clear h0 h1 h2 k0 k1 k2
      generalize rd_T60 cars (j : Int) = cc at gh0 gh1 gh2 gk0 gk1 gk2
      have hE := fun W => neq60 W cc.f0.f0 cc.f0.f1 cc.f1
      have hu60 := Tryz.underlying60
      go_wp2
      go_quiet (fail)
      go_wp2
      go_roundg (n0 - (j + 1))
      case measure => omega
      case rel => exact ⟨j + 1, by first | rfl | go_num, by omega, Nat.le_refl _, ⟨HW.out⟩, ⟨HV.out⟩, ⟨pw_below_drewN HB.out _⟩⟩
    · have cjm : decide ((j : Int) < (n0 : Int)) = false := by simp; omega
      have cjm2 : decide (j < n0) = false := by simp; omega
      clear hj hm hjn
      go_wp2
      clear cjm cjm2 y0 y1 y2 y3 u0 u1 u2 u3
      go_loopg [6] n1 (fun gg v6 wr => ∃ j : Nat, v6 = .int .i64 (j : Int) ∧ j ≤ n1 ∧ n1 - j ≤ gg ∧ Aside0 (wr.heap[w.heap.size]? = some (.cells #[.slice A0 n0 c0, .slice A1 n1 c1, .slice A2 n2 c2, .slice A3 n3 c3] 28 (0, 0))) ∧ Aside0 (wr.heap[w.heap.size + 1]? = some (.cells #[.slice B0 n0 e0, .slice B1 n1 e1, .slice B2 n2 e2, .slice B3 n3 e3] 28 (0, 0))) ∧ Aside0 (Below w.heap.size w wr))
      case atStart => exact ⟨0, rfl, Nat.zero_le _, Nat.le_refl _, HW, HV, HB⟩
      case round =>
        clear HW HV HB
        obtain ⟨j, rfl, hj, hm, HW, HV, HB⟩ := hrel
        obtain ⟨⟨y0, y1, y2, y3⟩, -⟩ := four_of HW.out
        obtain ⟨⟨u0, u1, u2, u3⟩, -⟩ := four_of HV.out
        by_cases hjn : j < n1
        · have cjm : decide ((j : Int) < (n1 : Int)) = true := by simp; omega
          have cjm2 : decide (j < n1) = true := by simp; omega
          have p1 : (0 : Int) ≤ (j : Int) := by omega
          have p2 : (j : Int) < (n1 : Int) := by omega
          have w1 : wrap64 ((j : Int) + 1) = (j : Int) + 1 := by have := L0.out; have := L1.out; have := L3.out; unfold wrap64; omega
          obtain ⟨ad, rfl, h0, h1, h2, h3, h4, h5⟩ := at_T63 X1.out (j : Int) p1 p2
          obtain ⟨bd, rfl, k0, k1, k2, k3, k4, k5⟩ := at_T63 Y1.out (j : Int) p1 p2
          rw [Int.toNat_natCast] at h0 h1 h2 h3 h4 h5 k0 k1 k2 k3 k4 k5
          have gh0 := cell_below HB.out h0
          have gh1 := cell_below HB.out h1
          have gh2 := cell_below HB.out h2
          have gh3 := cell_below HB.out h3
          have gh4 := cell_below HB.out h4
          have gh5 := cell_below HB.out h5
          have gk0 := cell_below HB.out k0
          have gk1 := cell_below HB.out k1
          have gk2 := cell_below HB.out k2
          have gk3 := cell_below HB.out k3
          have gk4 := cell_below HB.out k4
          have gk5 := cell_below HB.out k5
          clear h0 h1 h2 h3 h4 h5 k0 k1 k2 k3 k4 k5
          obtain ⟨fa, fb, hsp⟩ := HS.out j hjn
          generalize rd_T63 stops (j : Int) = cc at gh0 gh1 gh2 gh3 gh4 gh5 gk0 gk1 gk2 gk3 gk4 gk5 hsp
          have hE := fun W => neq63 W cc.f0.f0 cc.f0.f1 cc.f1 cc.f2 cc.f3 (floatEq_self hsp.re) (floatEq_self hsp.im)
          have hu63 := Tryz.underlying63
          clear hsp
          go_wp2
          go_quiet (fail)
          go_wp2
          go_roundg (n1 - (j + 1))
          case measure => omega
          case rel => exact ⟨j + 1, by first | rfl | go_num, by omega, Nat.le_refl _, ⟨HW.out⟩, ⟨HV.out⟩, ⟨pw_below_drewN HB.out _⟩⟩
        · have cjm : decide ((j : Int) < (n1 : Int)) = false := by simp; omega
          have cjm2 : decide (j < n1) = false := by simp; omega
          clear hj hm hjn
          go_wp2
          clear cjm cjm2 y0 y1 y2 y3 u0 u1 u2 u3
          go_loopg [7] n3 (fun gg v7 wr => ∃ j : Nat, v7 = .int .i64 (j : Int) ∧ j ≤ n3 ∧ n3 - j ≤ gg ∧ Aside0 (wr.heap[w.heap.size]? = some (.cells #[.slice A0 n0 c0, .slice A1 n1 c1, .slice A2 n2 c2, .slice A3 n3 c3] 28 (0, 0))) ∧ Aside0 (wr.heap[w.heap.size + 1]? = some (.cells #[.slice B0 n0 e0, .slice B1 n1 e1, .slice B2 n2 e2, .slice B3 n3 e3] 28 (0, 0))) ∧ Aside0 (Below w.heap.size w wr))
          case atStart => exact ⟨0, rfl, Nat.zero_le _, Nat.le_refl _, HW, HV, HB⟩
          case round =>
            clear HW HV HB
            obtain ⟨j, rfl, hj, hm, HW, HV, HB⟩ := hrel
            obtain ⟨⟨y0, y1, y2, y3⟩, -⟩ := four_of HW.out
            obtain ⟨⟨u0, u1, u2, u3⟩, -⟩ := four_of HV.out
            by_cases hjn : j < n3
            · have cjm : decide ((j : Int) < (n3 : Int)) = true := by simp; omega
              have cjm2 : decide (j < n3) = true := by simp; omega
              have p1 : (0 : Int) ≤ (j : Int) := by omega
              have p2 : (j : Int) < (n3 : Int) := by omega
              have w1 : wrap64 ((j : Int) + 1) = (j : Int) + 1 := by have := L0.out; have := L1.out; have := L3.out; unfold wrap64; omega
              obtain ⟨ad, D0, q0, rfl, h0, hq, hC⟩ := at_L6 X3.out (j : Int) p1 p2
              obtain ⟨bd, F0, r0, rfl, k0, kq, kC⟩ := at_L6 Y3.out (j : Int) p1 p2
              rw [Int.toNat_natCast] at h0 k0
              have gh0 := cell_below HB.out h0
              have gk0 := cell_below HB.out k0
              have CR := Aside0.mk (fun (W : World) (hb : Below w.heap.size w W) => jitneyref01_SameLongs.calls 30000 D0 q0 (rd_L6 rows (j : Int)) F0 r0 (rd_L6 rows (j : Int)) true W (Kd.C_below hC hb) hq (Kd.C_below kC hb) kq (sameLongs_self _ (HLR.out j (by have := hjn; omega))))
              clear h0 k0 hq kq hC kC
              generalize (rd_L6 rows (j : Int)).length = ln at gh0 gk0 CR
              go_wp2
              go_quiet (first | (go_at_call 17; refine (CR.out _ (by first | exact HB.out | exact pw_below_drewN HB.out _ | exact below_drew1 HB.out)).mono ?_; rintro e w' ⟨rfl, ⟨nd, rfl⟩⟩; (try first | exact ⟨rfl, _, World.drewN_drewN _ _ _⟩ | exact ⟨rfl, _, Eq.trans (World.drewN_drewN _ _ _) (congrArg (World.drewN _) (Nat.add_assoc _ _ _))⟩)))
              go_wp2
              go_roundg (n3 - (j + 1))
              case measure => omega
              case rel => exact ⟨j + 1, by first | rfl | go_num, by omega, Nat.le_refl _, ⟨HW.out⟩, ⟨HV.out⟩, ⟨pw_below_drewN HB.out _⟩⟩
            · have cjm : decide ((j : Int) < (n3 : Int)) = false := by simp; omega
              have cjm2 : decide (j < n3) = false := by simp; omega
              clear hj hm hjn
              go_wp2
              go_ret
              exact ⟨rfl, HB.out⟩
end Go.Proofs.YtcdmndhaeiccoaaGreatDoor.P
namespace Go.Proofs.YtcdmndhaeiccoaaGreatDoor.P
open Go Go.Proofs.YtcdmndhaeiccoaaGreatDoorR
open Go.RowKit Go.Proofs.YtcdmndhaeiccoaaGreatDoorW.PrintWords Go.Proofs.YtcdmndhaeiccoaaGreatDoorW.PrintLast
set_option linter.unusedVariables false
set_option linter.unusedSimpArgs false
set_option maxHeartbeats 8000000
set_option maxRecDepth 100000
/-- What == on two instances asks. -/
structure FineI (x : InstP) : Prop where
  spots : ∀ s ∈ x.stops, ∃ a b, Spot s.f4.1 s.f4.2 a b
  l0 : x.cars.length ≤ 20000
  l1 : x.stops.length ≤ 20000
  l2 : x.rides.length ≤ 20000
  l3 : x.rows.length ≤ 20000
  lr : ∀ r ∈ x.rows, r.length ≤ 20000
theorem fine_zI : FineI zI := ⟨by simp [zI], by simp [zI], by simp [zI], by simp [zI], by simp [zI], by simp [zI]⟩
theorem fine_good {x : InstP} (g : GoodI x) : FineI x := by
  have h1 := g.cars64
  have h2 := g.most
  have h3 := g.stops
  refine ⟨g.spots, by omega, by omega, by omega, ?_, ?_⟩
  · rcases g.rows with h | h
    · rw [h]; simp
    · omega
  · rcases g.rows with h | h
    · rw [h]; simp
    · intro r hr
      have := h.2 r hr
      omega
theorem parseM_fine {ls : List ByteArray} {e : Int} (hsz : ∀ t ∈ ls, t.size ≤ 3000) : FineI (parseM ls e).1 := by
  unfold parseM
  by_cases he : e ≠ 0
  · rw [if_pos he]; exact fine_zI
  · rw [if_neg he]
    by_cases hl : ls.length = 0
    · rw [if_pos hl]; exact fine_zI
    · rw [if_neg hl]
      cases hM : instM ls with
      | error p => exact fine_zI
      | ok p =>
        obtain ⟨x, s⟩ := p
        show FineI (if chkI x = 0 then (x, s, 0, 0) else (zI, 0, 0, chkI x)).1
        by_cases hc : chkI x = 0
        · rw [if_pos hc]; exact fine_good (instM_good hsz hM)
        · rw [if_neg hc]; exact fine_zI
theorem lines_fine (t : ByteArray) (ht : t.size ≤ 3000) : ∀ x ∈ (linesL t.data.toList).1.map mkB, x.size ≤ 3000 := by
  intro x hx
  obtain ⟨p, h1, rfl⟩ := List.mem_map.1 hx
  have := lines_size h1
  rw [mkB_size]
  rw [← Lib.size_eq] at this
  omega
theorem sheetParses.calls (t : ByteArray) (w : World) : Calls Tryz.prog 3 #[.string t] w fun r w' => r = .returned (.bool true) ∧ Below w.heap.size w w' := by
  have CA := Aside0.mk (fun W => alive.calls W)
  by_cases ht : t.size ≤ 3000
  · have d1 : decide ((t.size : Int) > 3000) = false := decide_eq_false (by omega)
    have d2 : decide (3000 < t.size) = false := decide_eq_false (by omega)
    have d3 : decide ((3000 : Int) < (t.size : Int)) = false := decide_eq_false (by omega)
    have C1 := Aside0.mk (fun W => sheet_Parse.calls t ht W)
    have C2 := Aside0.mk (fun W => ref_Parse.calls t ht W)
    have HF := Aside0.mk (parseM_fine (e := (linesL t.data.toList).2) (lines_fine t ht))
    obtain ⟨x, s, l, e, hM⟩ : ∃ x s l e, parseM ((linesL t.data.toList).1.map mkB) (linesL t.data.toList).2 = (x, s, l, e) := ⟨_, _, _, _, rfl⟩
    rw [hM] at C1 C2 HF
    clear hM ht
    have q1 : (e == e) = true := by simp
    have q2 : (s == s) = true := by simp
    have q3 : (l == l) = true := by simp
    have hu28 := Tryz.underlying28
    go_enter Tryz.func3, Tryz.ntmps3
    go_upto_region 6 with (first
      | (go_at_call 4; refine (CA.out _).mono ?_; rintro r w0 ⟨rfl, hb⟩; have B0 := Aside0.mk hb; clear hb)
      | (go_at_call 5; refine (C1.out _).mono ?_; rintro r w1 ⟨⟨v0, v1, v2, v3, rfl, hI⟩, hb⟩; obtain ⟨⟨A0, c0, A1, c1, A2, c2, A3, c3⟩, hC, hv⟩ := inC_of hI; have hv' : #[v0, v1, v2, v3] = #[.slice A0 x.cars.length c0, .slice A1 x.stops.length c1, .slice A2 x.rides.length c2, .slice A3 x.rows.length c3] := hv; rw [hv']; have B1 := Aside0.mk (B0.out.trans (hb.mono B0.out.size)); have I1 := Aside0.mk hC; clear hb hI hC hv hv'))
    obtain ⟨W1, hW1⟩ : ∃ W1, W1 = w1.alloc (.cells #[.slice A0 x.cars.length c0, .slice A1 x.stops.length c1, .slice A2 x.rides.length c2, .slice A3 x.rows.length c3] 28 (0, 0)) := ⟨_, rfl⟩
    rw [← hW1]
    have D1 := Aside0.mk (show Below w.heap.size w W1 by rw [hW1]; exact below_alloc B1.out _)
    have X1 := Aside0.mk (show W1.heap[w1.heap.size]? = some (.cells #[.slice A0 x.cars.length c0, .slice A1 x.stops.length c1, .slice A2 x.rides.length c2, .slice A3 x.rows.length c3] 28 (0, 0)) by rw [hW1]; exact heap_alloc_new w1 _)
    have J1 := Aside0.mk (show InC W1 ⟨A0, c0, A1, c1, A2, c2, A3, c3⟩ x by rw [hW1]; exact I1.out.below (below_alloc (Below.refl _ _) _))
    clear hW1 B1 I1
    go_upto_region 7 with (first
      | (go_at_call 6; refine (C2.out _).mono ?_; rintro r w2 ⟨⟨v0, v1, v2, v3, rfl, hI⟩, hb⟩; obtain ⟨⟨P0, p0, P1, p1, P2, p2, P3, p3⟩, hC, hv⟩ := inC_of hI; have hv' : #[v0, v1, v2, v3] = #[.slice P0 x.cars.length p0, .slice P1 x.stops.length p1, .slice P2 x.rides.length p2, .slice P3 x.rows.length p3] := hv; rw [hv']; have B2 := Aside0.mk hb; have I2 := Aside0.mk hC; clear hb hI hC hv hv'))
    obtain ⟨W2, hW2⟩ : ∃ W2, W2 = w2.alloc (.cells #[.slice P0 x.cars.length p0, .slice P1 x.stops.length p1, .slice P2 x.rides.length p2, .slice P3 x.rows.length p3] 28 (0, 0)) := ⟨_, rfl⟩
    rw [← hW2]
    have D2 := Aside0.mk (show Below W1.heap.size W1 W2 by rw [hW2]; exact below_alloc B2.out _)
    have X2 := Aside0.mk (show W2.heap[w2.heap.size]? = some (.cells #[.slice P0 x.cars.length p0, .slice P1 x.stops.length p1, .slice P2 x.rides.length p2, .slice P3 x.rows.length p3] 28 (0, 0)) by rw [hW2]; exact heap_alloc_new w2 _)
    have J2 := Aside0.mk (show InC W2 ⟨P0, p0, P1, p1, P2, p2, P3, p3⟩ x by rw [hW2]; exact I2.out.below (below_alloc (Below.refl _ _) _))
    clear hW2 B2 I2
    have X3 := Aside0.mk ((D2.out.block _ (Array.getElem?_eq_some_iff.1 X1.out).1).trans X1.out)
    have CS := Aside0.mk (ref_Same.calls ⟨A0, c0, A1, c1, A2, c2, A3, c3⟩ ⟨P0, p0, P1, p1, P2, p2, P3, p3⟩ x W2 (J1.out.below D2.out) J2.out HF.out.spots HF.out.l0 HF.out.l1 HF.out.l2 HF.out.l3 HF.out.lr)
    obtain ⟨⟨y0, y1, y2, y3⟩, -⟩ := four_of X3.out
    obtain ⟨⟨u0, u1, u2, u3⟩, -⟩ := four_of X2.out
    go_wp2_with (first | (go_at_call 7; refine CS.out.mono ?_; rintro r w3 ⟨rfl, hb⟩; have B3 := Aside0.mk hb; clear hb))
    go_ret
    exact ⟨rfl, D1.out.trans ((D2.out.trans (B3.out.mono D2.out.size)).mono D1.out.size)⟩
  · have d1 : decide ((t.size : Int) > 3000) = true := decide_eq_true (by omega)
    have d2 : decide (3000 < t.size) = true := decide_eq_true (by omega)
    have d3 : decide ((3000 : Int) < (t.size : Int)) = true := decide_eq_true (by omega)
    go_enter Tryz.func3, Tryz.ntmps3
    go_wp2_with (first | (go_at_call 4; refine (CA.out _).mono ?_; rintro r w0 ⟨rfl, hb⟩; have B0 := Aside0.mk hb; clear hb))
    go_ret
    exact ⟨rfl, B0.out⟩
theorem law_calls (k : Nat) (a : ByteArray) (r : Bool) (w : World) (h : (some true : Option Bool) = some r) (_ : True) : Calls Tryz.prog 3 #[.string a] w fun e w' => e = .returned (.bool r) ∧ Below w.heap.size w w' := by
  cases h
  exact sheetParses.calls a w
theorem law_true (a : ByteArray) (_ : a.size ≤ maxLen) : ∃ k : Nat, (some true : Option Bool) = some true := ⟨0, rfl⟩
end Go.Proofs.YtcdmndhaeiccoaaGreatDoor.P
