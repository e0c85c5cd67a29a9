/- P16 The document's answer, line by line: the plain laws of its words, numbers and head. -/
import Derived.Test.YtcdmndhaeiccoaaGreatDoorMkit
import Derived.Test.YtcdmndhaeiccoaaGreatDoorM00
import Derived.Test.YtcdmndhaeiccoaaGreatDoorM04
import Derived.Test.YtcdmndhaeiccoaaGreatDoorM11
import Derived.Test.YtcdmndhaeiccoaaGreatDoorM10
namespace Go.Proofs.YtcdmndhaeiccoaaGreatDoor.P
open Go.Proofs.YtcdmndhaeiccoaaGreatDoorR
open Go.RowKit Go.Proofs.YtcdmndhaeiccoaaGreatDoorW.PrintWords Go.Proofs.YtcdmndhaeiccoaaGreatDoorW.PrintLast
attribute [local go_sem] max2_int min2_int max_two min_two   -- for this text's walks alone
set_option linter.unusedVariables false
set_option linter.unusedSimpArgs false

/-! ### jitneyref06_numbers: function 42 -/
def jitneyref06_numbers.l0 : Nat → List ByteArray → List Int → Int → List Int → Int → Option (List Int × Int)
  | 0, _, _, _, _, _ => none
  | k + 1, x0, x1, x2, x8, x9 => if x9 < (x0.length : Int) then (if x9 < (x1.length : Int) then (if 0 ≤ x9 then ((jitneyref06_small.f k (rdOf ByteArray.empty x0 x9) (rd x1 x9)).bind fun bt228 => (if bt228.2 = 0 then (if x8.length < 17592186044416 then (jitneyref06_numbers.l0 k x0 x1 x2 (x8 ++ [bt228.1]) (wrap64 (x9 + 1))) else (none)) else (some (([] : List Int), bt228.2)))) else (none)) else (if 0 ≤ x9 then ((jitneyref03_Read.f k (rdOf ByteArray.empty x0 x9) x2).bind fun bt234 => (if bt234.2 = 0 then (if x8.length < 17592186044416 then (jitneyref06_numbers.l0 k x0 x1 x2 (x8 ++ [bt234.1]) (wrap64 (x9 + 1))) else (none)) else (some (([] : List Int), bt234.2)))) else (none))) else (some (x8, 0))
def jitneyref06_numbers.f (k : Nat) (l0 : List ByteArray) (l1 : List Int) (a2 : Int) : Option (List Int × Int) := jitneyref06_numbers.l0 k l0 l1 a2 (([] : List Int)) 0
set_option maxHeartbeats 8000000 in
set_option maxRecDepth 100000 in
theorem jitneyref06_numbers.calls (k : Nat) (A0 : Option Addr) (c0 : Nat) (l0 : List ByteArray) (A1 : Option Addr) (c1 : Nat) (l1 : List Int) (a2 : Int) (r1 : List Int) (r2 : Int) (w : World) (hr0 : Kd.C Kd.string w A0 l0.length l0) (hc0 : l0.length ≤ c0) (hr1 : Kd.C (Kd.int .i64) w A1 l1.length l1) (hc1 : l1.length ≤ c1) (h : jitneyref06_numbers.f k l0 l1 a2 = some (r1, r2)) :
    Calls Tryz.prog 42 #[.slice A0 l0.length c0, .slice A1 l1.length c1, .int .i64 a2] w fun e w' => ∃ v0_ : Value, e = .returned (.tuple #[v0_, .int .i64 r2]) ∧ Kd.R (Kd.int .i64) 2 w' w.heap.size (fun _ => True) v0_ r1 ∧ Below w.heap.size w w' := by
  have HR0 := Aside0.mk hr0
  have HC0 := Aside0.mk hc0
  clear hr0 hc0
  have HR1 := Aside0.mk hr1
  have HC1 := Aside0.mk hc1
  clear hr1 hc1
  have HB := Aside0.mk (Below.refl w.heap.size w)
  have H : (jitneyref06_numbers.l0 k l0 l1 a2 (([] : List Int)) 0) = some (r1, r2) := h
  clear h
  obtain ⟨y223, hy223⟩ : ∃ y_ : List Int, y_ = (([] : List Int)) := ⟨_, rfl⟩
  replace H : (jitneyref06_numbers.l0 k l0 l1 a2 y223 0) = some (r1, r2) := by first | (rw [hy223]; with_reducible exact H) | (have H2_ := (Option.bind_some _ _).symm.trans H; rw [hy223]; with_reducible exact H2_) | (have H2_ := (Option.bind_some _ _).symm.trans H; with_reducible exact H2_) | with_reducible exact H | (rw [hy223]; exact H) | exact H
  have Ny223 := Aside0.mk hy223
  clear hy223
  have H' := Aside0.mk H
  clear H
  go_enter Tryz.func42, Tryz.ntmps42
  go_wp2_with (first | ((with_reducible refine gate_dst (N := 12) rfl ?_); refine Kd.R_lit (Kd.int .i64) _ 2 ?hg (N := 12) ?hd (xs := ([] : List Int)) (inner := []) (ok := fun _ => True) (okp := fun _ => True) ?hr ?hp (fun _ hk => hk) trivial (Below.refl _ _) (Nat.le_refl _) (by simp) ?_; (case hd => rfl); (case hg => rfl); (case hr => first | (go_simp; done) | (go_simp; rfl)); (case hp => exact (Reps.none _ _)); intro v224 w4 ho5 hb hg_ hnew_; clear hg_ hnew_; (first | rw [← Ny223.out] at ho5 | (simp only [Int.reduceToNat] at ho5; rw [← Ny223.out] at ho5)); have n0_ := Aside0.mk (Kd.R_lower ho5 (below_size (by repeat (first | (with_reducible first | exact HB.out | apply below_alloc | apply pw_below_drewN | apply below_drew1) | exact HB.out)))); have n1_ := Aside0.mk (below_step (by repeat (first | (with_reducible first | exact HB.out | apply below_alloc | apply pw_below_drewN | apply below_drew1) | exact HB.out)) hb); clear HB; have HO225 := n0_; have HB := n1_; clear n0_ n1_; clear hb ho5))
  repeat (go_quiet (first | ((with_reducible refine gate_dst (N := 12) rfl ?_); refine Kd.R_lit (Kd.int .i64) _ 2 ?hg (N := 12) ?hd (xs := ([] : List Int)) (inner := []) (ok := fun _ => True) (okp := fun _ => True) ?hr ?hp (fun _ hk => hk) trivial (Below.refl _ _) (Nat.le_refl _) (by simp) ?_; (case hd => rfl); (case hg => rfl); (case hr => first | (go_simp; done) | (go_simp; rfl)); (case hp => exact (Reps.none _ _)); intro v224 w4 ho5 hb hg_ hnew_; clear hg_ hnew_; (first | rw [← Ny223.out] at ho5 | (simp only [Int.reduceToNat] at ho5; rw [← Ny223.out] at ho5)); have n0_ := Aside0.mk (Kd.R_lower ho5 (below_size (by repeat (first | (with_reducible first | exact HB.out | apply below_alloc | apply pw_below_drewN | apply below_drew1) | exact HB.out)))); have n1_ := Aside0.mk (below_step (by repeat (first | (with_reducible first | exact HB.out | apply below_alloc | apply pw_below_drewN | apply below_drew1) | exact HB.out)) hb); clear HB; have HO225 := n0_; have HB := n1_; clear n0_ n1_; clear hb ho5)); try go_wp2_with (first | ((with_reducible refine gate_dst (N := 12) rfl ?_); refine Kd.R_lit (Kd.int .i64) _ 2 ?hg (N := 12) ?hd (xs := ([] : List Int)) (inner := []) (ok := fun _ => True) (okp := fun _ => True) ?hr ?hp (fun _ hk => hk) trivial (Below.refl _ _) (Nat.le_refl _) (by simp) ?_; (case hd => rfl); (case hg => rfl); (case hr => first | (go_simp; done) | (go_simp; rfl)); (case hp => exact (Reps.none _ _)); intro v224 w4 ho5 hb hg_ hnew_; clear hg_ hnew_; (first | rw [← Ny223.out] at ho5 | (simp only [Int.reduceToNat] at ho5; rw [← Ny223.out] at ho5)); have n0_ := Aside0.mk (Kd.R_lower ho5 (below_size (by repeat (first | (with_reducible first | exact HB.out | apply below_alloc | apply pw_below_drewN | apply below_drew1) | exact HB.out)))); have n1_ := Aside0.mk (below_step (by repeat (first | (with_reducible first | exact HB.out | apply below_alloc | apply pw_below_drewN | apply below_drew1) | exact HB.out)) hb); clear HB; have HO225 := n0_; have HB := n1_; clear n0_ n1_; clear hb ho5)))
  go_loopg [8, 9] k (fun kq v8 v9 w' => ∃ (x8_1 : List Int) (x9_1 : Int), v9 = .int .i64 x9_1 ∧ Aside0 (jitneyref06_numbers.l0 kq l0 l1 a2 x8_1 x9_1 = some (r1, r2)) ∧ Aside0 (kq ≤ k) ∧ Aside0 (Kd.R (Kd.int .i64) 2 w' w.heap.size (fun _ => True) v8 x8_1) ∧ Aside0 (Below w.heap.size w w'))
  case atStart => exact ⟨(y223), (0), (by first | rfl | (simp; done) | (simp [*]; done)), H', ⟨Nat.le_refl _⟩, ⟨by (with_reducible repeat (first | apply Kd.R_alloc | apply Kd.R_drewN | apply Kd.R_drew)); exact HO225.out⟩, ⟨by repeat (first | (with_reducible first | exact HB.out | apply below_alloc | apply pw_below_drewN | apply below_drew1) | exact HB.out)⟩⟩
  case round =>
    clear H'
    try clear c1
    try clear p2
    try clear c4
    obtain ⟨x8_1, x9_1, rfl, HA, HK1, HO_8, HB⟩ := hrel
    cases gk with
    | zero => exact absurd HA.out (by simp [jitneyref06_numbers.l0])
    | succ k1 =>
      have H := HA.out
      clear HA
      simp only [jitneyref06_numbers.l0] at H
      by_cases c6 : x9_1 < (l0.length : Int)
      · rw [if_pos c6] at H
        have c6b0 : decide (x9_1 < (l0.length : Int)) = true := decide_eq_true c6
        clear c6
        by_cases c7 : x9_1 < (l1.length : Int)
        · rw [if_pos c7] at H
          have c7b0 : decide (x9_1 < (l1.length : Int)) = true := decide_eq_true c7
          clear c7
          by_cases c8 : 0 ≤ x9_1
          · rw [if_pos c8] at H
            have c8b0 : decide (0 ≤ x9_1) = true := decide_eq_true c8
            clear c8
            replace H := Option.bind_eq_some_iff.mp H
            obtain ⟨⟨t228, t229⟩, A90, H⟩ := H
            replace H : (if t229 = 0 then (if x8_1.length < 17592186044416 then (jitneyref06_numbers.l0 k1 l0 l1 a2 (x8_1 ++ [t228]) (wrap64 (x9_1 + 1))) else (none)) else (some (([] : List Int), t229))) = some (r1, r2) := H
            have A9 := Aside0.mk A90
            clear A90
            by_cases c10 : t229 = 0
            · rw [if_pos c10] at H
              have c10b0 : (t229 == 0) = true := beq_iff_eq.mpr c10
              have c10b1 : (t229 != 0) = false := bne_eq_false_iff_eq.mpr c10
              clear c10
              by_cases c11 : x8_1.length < 17592186044416
              · rw [if_pos c11] at H
                have LMc11 := Aside0.mk c11
                clear c11
                obtain ⟨y230, hy230⟩ : ∃ y_ : List Int, y_ = (x8_1 ++ [t228]) := ⟨_, rfl⟩
                replace H : (jitneyref06_numbers.l0 k1 l0 l1 a2 y230 (wrap64 (x9_1 + 1))) = some (r1, r2) := by first | (rw [hy230]; with_reducible exact H) | (have H2_ := (Option.bind_some _ _).symm.trans H; rw [hy230]; with_reducible exact H2_) | (have H2_ := (Option.bind_some _ _).symm.trans H; with_reducible exact H2_) | with_reducible exact H | (rw [hy230]; exact H) | exact H
                have Ny230 := Aside0.mk hy230
                clear hy230
                have H' := Aside0.mk H
                clear H
                have p226 : 0 ≤ (x9_1 : Int) := of_decide_eq_true (by first | (with_reducible assumption) | assumption)
                have q226 : x9_1 < (l0.length : Int) := of_decide_eq_true (by first | (with_reducible assumption) | assumption)
                obtain ⟨ad226, e226, hx226_0⟩ := Kd.at_string HR0.out x9_1 p226 q226
                cases e226
                replace hx226_0 := (HB.out.cell (World.block_lt_of_cell? w _ hx226_0)).trans hx226_0
                replace p226 := eq_true p226
                replace q226 := eq_true q226
                have p227 : 0 ≤ (x9_1 : Int) := of_decide_eq_true (by first | (with_reducible assumption) | assumption)
                have q227 : x9_1 < (l1.length : Int) := of_decide_eq_true (by first | (with_reducible assumption) | assumption)
                obtain ⟨ad227, e227, hx227_0⟩ := Kd.at_int HR1.out x9_1 p227 q227
                cases e227
                replace hx227_0 := (HB.out.cell (World.block_lt_of_cell? w _ hx227_0)).trans hx227_0
                replace p227 := eq_true p227
                replace q227 := eq_true q227
                go_wp2_with (first | (go_at_call 79; (with_reducible refine (jitneyref06_small.calls k1 (rdOf ByteArray.empty l0 x9_1) (rd l1 x9_1) t228 t229 _ A9.out).mono ?_); rintro e w' ⟨rfl, ⟨nd, rfl⟩⟩; (try first | exact ⟨rfl, _, World.drewN_drewN _ _ _⟩ | exact ⟨rfl, _, Eq.trans (World.drewN_drewN _ _ _) (congrArg (World.drewN _) (Nat.add_assoc _ _ _))⟩)) | ((with_reducible refine gate_builtin (b := .append) (xs := #[.tmp 47, .tmp 49]) rfl ?_); at_builtin; refine Kd.R_append (Kd.int .i64) (w0 := w) w.heap.size rfl (.tmp 47) (.tmp 49) 25 2 (.int .i64 0) 8 rfl Tryz.underlying25 info2 rfl (by decide) (by omega) u8 x8_1 t228 [.int .i64 t228] (fun _ => True) (fun _ => False) rfl rfl ?aP (fun _ hk => hk.elim) ?aF ?aO ?aB ?aS ?aL ?_; (case aP => exact rfl); (case aB => exact (by repeat (first | (with_reducible first | exact HB.out | apply below_alloc | apply pw_below_drewN | apply below_drew1) | exact HB.out))); (case aF => exact (fun _ _ => trivial)); (case aO => exact (by (with_reducible repeat (first | apply Kd.R_alloc | apply Kd.R_drewN | apply Kd.R_drew)); exact HO_8.out)); (case aS => exact (below_size (by repeat (first | (with_reducible first | exact HB.out | apply below_alloc | apply pw_below_drewN | apply below_drew1) | exact HB.out)))); (case aL => have := LMc11.out; omega); intro v231 w12 ho hb hg hat; rw [← Ny230.out] at ho; have n0_ := Aside0.mk (hb); have n1_ := Aside0.mk (ho); clear HB; clear HO_8; have HB := n0_; have HO232 := n1_; clear n0_ n1_; clear ho hb hg hat))
                repeat (go_quiet (first | (go_at_call 79; (with_reducible refine (jitneyref06_small.calls k1 (rdOf ByteArray.empty l0 x9_1) (rd l1 x9_1) t228 t229 _ A9.out).mono ?_); rintro e w' ⟨rfl, ⟨nd, rfl⟩⟩; (try first | exact ⟨rfl, _, World.drewN_drewN _ _ _⟩ | exact ⟨rfl, _, Eq.trans (World.drewN_drewN _ _ _) (congrArg (World.drewN _) (Nat.add_assoc _ _ _))⟩)) | ((with_reducible refine gate_builtin (b := .append) (xs := #[.tmp 47, .tmp 49]) rfl ?_); at_builtin; refine Kd.R_append (Kd.int .i64) (w0 := w) w.heap.size rfl (.tmp 47) (.tmp 49) 25 2 (.int .i64 0) 8 rfl Tryz.underlying25 info2 rfl (by decide) (by omega) u8 x8_1 t228 [.int .i64 t228] (fun _ => True) (fun _ => False) rfl rfl ?aP (fun _ hk => hk.elim) ?aF ?aO ?aB ?aS ?aL ?_; (case aP => exact rfl); (case aB => exact (by repeat (first | (with_reducible first | exact HB.out | apply below_alloc | apply pw_below_drewN | apply below_drew1) | exact HB.out))); (case aF => exact (fun _ _ => trivial)); (case aO => exact (by (with_reducible repeat (first | apply Kd.R_alloc | apply Kd.R_drewN | apply Kd.R_drew)); exact HO_8.out)); (case aS => exact (below_size (by repeat (first | (with_reducible first | exact HB.out | apply below_alloc | apply pw_below_drewN | apply below_drew1) | exact HB.out)))); (case aL => have := LMc11.out; omega); intro v231 w12 ho hb hg hat; rw [← Ny230.out] at ho; have n0_ := Aside0.mk (hb); have n1_ := Aside0.mk (ho); clear HB; clear HO_8; have HB := n0_; have HO232 := n1_; clear n0_ n1_; clear ho hb hg hat)); try go_wp2_with (first | (go_at_call 79; (with_reducible refine (jitneyref06_small.calls k1 (rdOf ByteArray.empty l0 x9_1) (rd l1 x9_1) t228 t229 _ A9.out).mono ?_); rintro e w' ⟨rfl, ⟨nd, rfl⟩⟩; (try first | exact ⟨rfl, _, World.drewN_drewN _ _ _⟩ | exact ⟨rfl, _, Eq.trans (World.drewN_drewN _ _ _) (congrArg (World.drewN _) (Nat.add_assoc _ _ _))⟩)) | ((with_reducible refine gate_builtin (b := .append) (xs := #[.tmp 47, .tmp 49]) rfl ?_); at_builtin; refine Kd.R_append (Kd.int .i64) (w0 := w) w.heap.size rfl (.tmp 47) (.tmp 49) 25 2 (.int .i64 0) 8 rfl Tryz.underlying25 info2 rfl (by decide) (by omega) u8 x8_1 t228 [.int .i64 t228] (fun _ => True) (fun _ => False) rfl rfl ?aP (fun _ hk => hk.elim) ?aF ?aO ?aB ?aS ?aL ?_; (case aP => exact rfl); (case aB => exact (by repeat (first | (with_reducible first | exact HB.out | apply below_alloc | apply pw_below_drewN | apply below_drew1) | exact HB.out))); (case aF => exact (fun _ _ => trivial)); (case aO => exact (by (with_reducible repeat (first | apply Kd.R_alloc | apply Kd.R_drewN | apply Kd.R_drew)); exact HO_8.out)); (case aS => exact (below_size (by repeat (first | (with_reducible first | exact HB.out | apply below_alloc | apply pw_below_drewN | apply below_drew1) | exact HB.out)))); (case aL => have := LMc11.out; omega); intro v231 w12 ho hb hg hat; rw [← Ny230.out] at ho; have n0_ := Aside0.mk (hb); have n1_ := Aside0.mk (ho); clear HB; clear HO_8; have HB := n0_; have HO232 := n1_; clear n0_ n1_; clear ho hb hg hat)))
                go_roundg k1
                case measure => have := HK1.out; omega
                case rel => exact ⟨(y230), (wrap64 (x9_1 + 1)), (by first | rfl | (simp; done) | (simp [*]; done)), H', ⟨by have := HK1.out; omega⟩, ⟨by (with_reducible repeat (first | apply Kd.R_alloc | apply Kd.R_drewN | apply Kd.R_drew)); exact HO232.out⟩, ⟨by repeat (first | (with_reducible first | exact HB.out | apply below_alloc | apply pw_below_drewN | apply below_drew1) | exact HB.out)⟩⟩
              · rw [if_neg c11] at H
                exact absurd H (by simp)
            · rw [if_neg c10] at H
              have c10b0 : (t229 == 0) = false := beq_eq_false_iff_ne.mpr c10
              have c10b1 : (t229 != 0) = true := bne_iff_ne.mpr c10
              simp only [Option.some.injEq, Prod.mk.injEq] at H
              obtain ⟨rfl, rfl⟩ := H
              have p226 : 0 ≤ (x9_1 : Int) := of_decide_eq_true (by first | (with_reducible assumption) | assumption)
              have q226 : x9_1 < (l0.length : Int) := of_decide_eq_true (by first | (with_reducible assumption) | assumption)
              obtain ⟨ad226, e226, hx226_0⟩ := Kd.at_string HR0.out x9_1 p226 q226
              cases e226
              replace hx226_0 := (HB.out.cell (World.block_lt_of_cell? w _ hx226_0)).trans hx226_0
              replace p226 := eq_true p226
              replace q226 := eq_true q226
              have p227 : 0 ≤ (x9_1 : Int) := of_decide_eq_true (by first | (with_reducible assumption) | assumption)
              have q227 : x9_1 < (l1.length : Int) := of_decide_eq_true (by first | (with_reducible assumption) | assumption)
              obtain ⟨ad227, e227, hx227_0⟩ := Kd.at_int HR1.out x9_1 p227 q227
              cases e227
              replace hx227_0 := (HB.out.cell (World.block_lt_of_cell? w _ hx227_0)).trans hx227_0
              replace p227 := eq_true p227
              replace q227 := eq_true q227
              go_wp2_with (first | (go_at_call 79; (with_reducible refine (jitneyref06_small.calls k1 (rdOf ByteArray.empty l0 x9_1) (rd l1 x9_1) t228 t229 _ A9.out).mono ?_); rintro e w' ⟨rfl, ⟨nd, rfl⟩⟩; (try first | exact ⟨rfl, _, World.drewN_drewN _ _ _⟩ | exact ⟨rfl, _, Eq.trans (World.drewN_drewN _ _ _) (congrArg (World.drewN _) (Nat.add_assoc _ _ _))⟩)))
              repeat (go_quiet (first | (go_at_call 79; (with_reducible refine (jitneyref06_small.calls k1 (rdOf ByteArray.empty l0 x9_1) (rd l1 x9_1) t228 t229 _ A9.out).mono ?_); rintro e w' ⟨rfl, ⟨nd, rfl⟩⟩; (try first | exact ⟨rfl, _, World.drewN_drewN _ _ _⟩ | exact ⟨rfl, _, Eq.trans (World.drewN_drewN _ _ _) (congrArg (World.drewN _) (Nat.add_assoc _ _ _))⟩))); try go_wp2_with (first | (go_at_call 79; (with_reducible refine (jitneyref06_small.calls k1 (rdOf ByteArray.empty l0 x9_1) (rd l1 x9_1) t228 t229 _ A9.out).mono ?_); rintro e w' ⟨rfl, ⟨nd, rfl⟩⟩; (try first | exact ⟨rfl, _, World.drewN_drewN _ _ _⟩ | exact ⟨rfl, _, Eq.trans (World.drewN_drewN _ _ _) (congrArg (World.drewN _) (Nat.add_assoc _ _ _))⟩))))
              go_ret2
              exact ⟨_, by first | rfl | (simp [errW_none, errW_some] <;> rfl) | (simp [*, errW_none, errW_some] <;> rfl), by first | exact Kd.R_nil _ _ _ _ _ | exact Kd.N_nil _ _ _ _ _ | exact Kd.V_nil _ _ _ _ _ | exact Kd.Q_nil _ _ _ _ _ | exact Kd.S_nil _ _ _ _ _, by repeat (first | (with_reducible first | exact HB.out | apply below_alloc | apply pw_below_drewN | apply below_drew1) | exact HB.out)⟩
          · rw [if_neg c8] at H
            exact absurd H (by simp)
        · rw [if_neg c7] at H
          have c7b0 : decide (x9_1 < (l1.length : Int)) = false := decide_eq_false c7
          clear c7
          by_cases c13 : 0 ≤ x9_1
          · rw [if_pos c13] at H
            have c13b0 : decide (0 ≤ x9_1) = true := decide_eq_true c13
            clear c13
            replace H := Option.bind_eq_some_iff.mp H
            obtain ⟨⟨t234, t235⟩, A140, H⟩ := H
            replace H : (if t235 = 0 then (if x8_1.length < 17592186044416 then (jitneyref06_numbers.l0 k1 l0 l1 a2 (x8_1 ++ [t234]) (wrap64 (x9_1 + 1))) else (none)) else (some (([] : List Int), t235))) = some (r1, r2) := H
            have A14 := Aside0.mk A140
            clear A140
            by_cases c15 : t235 = 0
            · rw [if_pos c15] at H
              have c15b0 : (t235 == 0) = true := beq_iff_eq.mpr c15
              have c15b1 : (t235 != 0) = false := bne_eq_false_iff_eq.mpr c15
              clear c15
              by_cases c16 : x8_1.length < 17592186044416
              · rw [if_pos c16] at H
                have LMc16 := Aside0.mk c16
                clear c16
                obtain ⟨y236, hy236⟩ : ∃ y_ : List Int, y_ = (x8_1 ++ [t234]) := ⟨_, rfl⟩
                replace H : (jitneyref06_numbers.l0 k1 l0 l1 a2 y236 (wrap64 (x9_1 + 1))) = some (r1, r2) := by first | (rw [hy236]; with_reducible exact H) | (have H2_ := (Option.bind_some _ _).symm.trans H; rw [hy236]; with_reducible exact H2_) | (have H2_ := (Option.bind_some _ _).symm.trans H; with_reducible exact H2_) | with_reducible exact H | (rw [hy236]; exact H) | exact H
                have Ny236 := Aside0.mk hy236
                clear hy236
                have H' := Aside0.mk H
                clear H
                have p233 : 0 ≤ (x9_1 : Int) := of_decide_eq_true (by first | (with_reducible assumption) | assumption)
                have q233 : x9_1 < (l0.length : Int) := of_decide_eq_true (by first | (with_reducible assumption) | assumption)
                obtain ⟨ad233, e233, hx233_0⟩ := Kd.at_string HR0.out x9_1 p233 q233
                cases e233
                replace hx233_0 := (HB.out.cell (World.block_lt_of_cell? w _ hx233_0)).trans hx233_0
                replace p233 := eq_true p233
                replace q233 := eq_true q233
                go_wp2_with (first | (go_at_call 78; (with_reducible refine (jitneyref03_Read.calls k1 (rdOf ByteArray.empty l0 x9_1) a2 t234 t235 _ A14.out).mono ?_); rintro e w' ⟨rfl, ⟨nd, rfl⟩⟩; (try first | exact ⟨rfl, _, World.drewN_drewN _ _ _⟩ | exact ⟨rfl, _, Eq.trans (World.drewN_drewN _ _ _) (congrArg (World.drewN _) (Nat.add_assoc _ _ _))⟩)) | ((with_reducible refine gate_builtin (b := .append) (xs := #[.tmp 47, .tmp 49]) rfl ?_); at_builtin; refine Kd.R_append (Kd.int .i64) (w0 := w) w.heap.size rfl (.tmp 47) (.tmp 49) 25 2 (.int .i64 0) 8 rfl Tryz.underlying25 info2 rfl (by decide) (by omega) u8 x8_1 t234 [.int .i64 t234] (fun _ => True) (fun _ => False) rfl rfl ?aP (fun _ hk => hk.elim) ?aF ?aO ?aB ?aS ?aL ?_; (case aP => exact rfl); (case aB => exact (by repeat (first | (with_reducible first | exact HB.out | apply below_alloc | apply pw_below_drewN | apply below_drew1) | exact HB.out))); (case aF => exact (fun _ _ => trivial)); (case aO => exact (by (with_reducible repeat (first | apply Kd.R_alloc | apply Kd.R_drewN | apply Kd.R_drew)); exact HO_8.out)); (case aS => exact (below_size (by repeat (first | (with_reducible first | exact HB.out | apply below_alloc | apply pw_below_drewN | apply below_drew1) | exact HB.out)))); (case aL => have := LMc16.out; omega); intro v237 w17 ho hb hg hat; rw [← Ny236.out] at ho; have n0_ := Aside0.mk (hb); have n1_ := Aside0.mk (ho); clear HB; clear HO_8; have HB := n0_; have HO238 := n1_; clear n0_ n1_; clear ho hb hg hat))
                repeat (go_quiet (first | (go_at_call 78; (with_reducible refine (jitneyref03_Read.calls k1 (rdOf ByteArray.empty l0 x9_1) a2 t234 t235 _ A14.out).mono ?_); rintro e w' ⟨rfl, ⟨nd, rfl⟩⟩; (try first | exact ⟨rfl, _, World.drewN_drewN _ _ _⟩ | exact ⟨rfl, _, Eq.trans (World.drewN_drewN _ _ _) (congrArg (World.drewN _) (Nat.add_assoc _ _ _))⟩)) | ((with_reducible refine gate_builtin (b := .append) (xs := #[.tmp 47, .tmp 49]) rfl ?_); at_builtin; refine Kd.R_append (Kd.int .i64) (w0 := w) w.heap.size rfl (.tmp 47) (.tmp 49) 25 2 (.int .i64 0) 8 rfl Tryz.underlying25 info2 rfl (by decide) (by omega) u8 x8_1 t234 [.int .i64 t234] (fun _ => True) (fun _ => False) rfl rfl ?aP (fun _ hk => hk.elim) ?aF ?aO ?aB ?aS ?aL ?_; (case aP => exact rfl); (case aB => exact (by repeat (first | (with_reducible first | exact HB.out | apply below_alloc | apply pw_below_drewN | apply below_drew1) | exact HB.out))); (case aF => exact (fun _ _ => trivial)); (case aO => exact (by (with_reducible repeat (first | apply Kd.R_alloc | apply Kd.R_drewN | apply Kd.R_drew)); exact HO_8.out)); (case aS => exact (below_size (by repeat (first | (with_reducible first | exact HB.out | apply below_alloc | apply pw_below_drewN | apply below_drew1) | exact HB.out)))); (case aL => have := LMc16.out; omega); intro v237 w17 ho hb hg hat; rw [← Ny236.out] at ho; have n0_ := Aside0.mk (hb); have n1_ := Aside0.mk (ho); clear HB; clear HO_8; have HB := n0_; have HO238 := n1_; clear n0_ n1_; clear ho hb hg hat)); try go_wp2_with (first | (go_at_call 78; (with_reducible refine (jitneyref03_Read.calls k1 (rdOf ByteArray.empty l0 x9_1) a2 t234 t235 _ A14.out).mono ?_); rintro e w' ⟨rfl, ⟨nd, rfl⟩⟩; (try first | exact ⟨rfl, _, World.drewN_drewN _ _ _⟩ | exact ⟨rfl, _, Eq.trans (World.drewN_drewN _ _ _) (congrArg (World.drewN _) (Nat.add_assoc _ _ _))⟩)) | ((with_reducible refine gate_builtin (b := .append) (xs := #[.tmp 47, .tmp 49]) rfl ?_); at_builtin; refine Kd.R_append (Kd.int .i64) (w0 := w) w.heap.size rfl (.tmp 47) (.tmp 49) 25 2 (.int .i64 0) 8 rfl Tryz.underlying25 info2 rfl (by decide) (by omega) u8 x8_1 t234 [.int .i64 t234] (fun _ => True) (fun _ => False) rfl rfl ?aP (fun _ hk => hk.elim) ?aF ?aO ?aB ?aS ?aL ?_; (case aP => exact rfl); (case aB => exact (by repeat (first | (with_reducible first | exact HB.out | apply below_alloc | apply pw_below_drewN | apply below_drew1) | exact HB.out))); (case aF => exact (fun _ _ => trivial)); (case aO => exact (by (with_reducible repeat (first | apply Kd.R_alloc | apply Kd.R_drewN | apply Kd.R_drew)); exact HO_8.out)); (case aS => exact (below_size (by repeat (first | (with_reducible first | exact HB.out | apply below_alloc | apply pw_below_drewN | apply below_drew1) | exact HB.out)))); (case aL => have := LMc16.out; omega); intro v237 w17 ho hb hg hat; rw [← Ny236.out] at ho; have n0_ := Aside0.mk (hb); have n1_ := Aside0.mk (ho); clear HB; clear HO_8; have HB := n0_; have HO238 := n1_; clear n0_ n1_; clear ho hb hg hat)))
                go_roundg k1
                case measure => have := HK1.out; omega
                case rel => exact ⟨(y236), (wrap64 (x9_1 + 1)), (by first | rfl | (simp; done) | (simp [*]; done)), H', ⟨by have := HK1.out; omega⟩, ⟨by (with_reducible repeat (first | apply Kd.R_alloc | apply Kd.R_drewN | apply Kd.R_drew)); exact HO238.out⟩, ⟨by repeat (first | (with_reducible first | exact HB.out | apply below_alloc | apply pw_below_drewN | apply below_drew1) | exact HB.out)⟩⟩
              · rw [if_neg c16] at H
                exact absurd H (by simp)
            · rw [if_neg c15] at H
              have c15b0 : (t235 == 0) = false := beq_eq_false_iff_ne.mpr c15
              have c15b1 : (t235 != 0) = true := bne_iff_ne.mpr c15
              simp only [Option.some.injEq, Prod.mk.injEq] at H
              obtain ⟨rfl, rfl⟩ := H
              have p233 : 0 ≤ (x9_1 : Int) := of_decide_eq_true (by first | (with_reducible assumption) | assumption)
              have q233 : x9_1 < (l0.length : Int) := of_decide_eq_true (by first | (with_reducible assumption) | assumption)
              obtain ⟨ad233, e233, hx233_0⟩ := Kd.at_string HR0.out x9_1 p233 q233
              cases e233
              replace hx233_0 := (HB.out.cell (World.block_lt_of_cell? w _ hx233_0)).trans hx233_0
              replace p233 := eq_true p233
              replace q233 := eq_true q233
              go_wp2_with (first | (go_at_call 78; (with_reducible refine (jitneyref03_Read.calls k1 (rdOf ByteArray.empty l0 x9_1) a2 t234 t235 _ A14.out).mono ?_); rintro e w' ⟨rfl, ⟨nd, rfl⟩⟩; (try first | exact ⟨rfl, _, World.drewN_drewN _ _ _⟩ | exact ⟨rfl, _, Eq.trans (World.drewN_drewN _ _ _) (congrArg (World.drewN _) (Nat.add_assoc _ _ _))⟩)))
              repeat (go_quiet (first | (go_at_call 78; (with_reducible refine (jitneyref03_Read.calls k1 (rdOf ByteArray.empty l0 x9_1) a2 t234 t235 _ A14.out).mono ?_); rintro e w' ⟨rfl, ⟨nd, rfl⟩⟩; (try first | exact ⟨rfl, _, World.drewN_drewN _ _ _⟩ | exact ⟨rfl, _, Eq.trans (World.drewN_drewN _ _ _) (congrArg (World.drewN _) (Nat.add_assoc _ _ _))⟩))); try go_wp2_with (first | (go_at_call 78; (with_reducible refine (jitneyref03_Read.calls k1 (rdOf ByteArray.empty l0 x9_1) a2 t234 t235 _ A14.out).mono ?_); rintro e w' ⟨rfl, ⟨nd, rfl⟩⟩; (try first | exact ⟨rfl, _, World.drewN_drewN _ _ _⟩ | exact ⟨rfl, _, Eq.trans (World.drewN_drewN _ _ _) (congrArg (World.drewN _) (Nat.add_assoc _ _ _))⟩))))
              go_ret2
              exact ⟨_, by first | rfl | (simp [errW_none, errW_some] <;> rfl) | (simp [*, errW_none, errW_some] <;> rfl), by first | exact Kd.R_nil _ _ _ _ _ | exact Kd.N_nil _ _ _ _ _ | exact Kd.V_nil _ _ _ _ _ | exact Kd.Q_nil _ _ _ _ _ | exact Kd.S_nil _ _ _ _ _, by repeat (first | (with_reducible first | exact HB.out | apply below_alloc | apply pw_below_drewN | apply below_drew1) | exact HB.out)⟩
          · rw [if_neg c13] at H
            exact absurd H (by simp)
      · rw [if_neg c6] at H
        have c6b0 : decide (x9_1 < (l0.length : Int)) = false := decide_eq_false c6
        clear c6
        simp only [Option.some.injEq, Prod.mk.injEq] at H
        obtain ⟨rfl, rfl⟩ := H
        go_wp2
        repeat (go_quiet (fail); try go_wp2)
        go_ret2
        exact ⟨_, by first | rfl | (simp [errW_none, errW_some] <;> rfl) | (simp [*, errW_none, errW_some] <;> rfl), by (with_reducible repeat (first | apply Kd.R_alloc | apply Kd.R_drewN | apply Kd.R_drew)); exact HO_8.out, by repeat (first | (with_reducible first | exact HB.out | apply below_alloc | apply pw_below_drewN | apply below_drew1) | exact HB.out)⟩

end Go.Proofs.YtcdmndhaeiccoaaGreatDoor.P
namespace Go.Proofs.YtcdmndhaeiccoaaGreatDoor.P
open Go Go.Proofs.YtcdmndhaeiccoaaGreatDoorR
open Go.RowKit Go.Proofs.YtcdmndhaeiccoaaGreatDoorW.PrintWords Go.Proofs.YtcdmndhaeiccoaaGreatDoorW.PrintLast
set_option linter.unusedVariables false
set_option linter.unusedSimpArgs false
def wordsO (o : Option (List ByteArray)) : List ByteArray × Int := match o with | some ws => (ws, 0) | none => ([], 21)
theorem ref_words_is (k : Nat) (t first : ByteArray) (n : Int) (ht : t.size ≤ 100000) (hk : 3 * t.size + 20 < k) (hn : 1 ≤ n) : jitneyref06_words.f k t first n = some (wordsO (wsOf t first n)) := by
  unfold jitneyref06_words.f
  rw [refWords_is k t ht hk]
  simp only [Option.bind_some, outB]
  unfold wsOf
  by_cases h0 : (wordsL t.data.toList).2 = 0
  · rw [if_pos h0]
    simp only [List.length_map]
    by_cases h1 : ((wordsL t.data.toList).1.length : Int) = n
    · rw [if_pos h1]
      cases hq : (wordsL t.data.toList).1 with
      | nil => rw [hq] at h1; simp at h1; omega
      | cons a q =>
        rw [hq] at h1
        rw [if_pos (by simp only [List.length_cons]; omega)]
        simp only [List.map_cons]
        have hr : rdOf ByteArray.empty (mkB a :: q.map mkB) 0 = mkB a := rfl
        rw [hr]
        by_cases h2 : mkB a = first
        · rw [if_pos (by rw [h2]), if_pos (by simp only [List.length_cons]; omega), if_pos ⟨h0, by simpa using h1, by rw [h2]; rfl⟩]
          rfl
        · rw [if_neg (fun h => h2 (bytes_inj h)), if_neg (fun h => h2 (Option.some.inj h.2.2))]
          rfl
    · rw [if_neg h1, if_neg (fun h => h1 h.2.1)]
      rfl
  · rw [if_neg h0, if_neg (fun h => h0 h.1)]
    rfl
theorem ref_small_is (k : Nat) (a : ByteArray) (m : Int) (hm : m = 1000 ∨ m = 16777216) (ha : a.size ≤ 100000) (hk : 3 * a.size + 40 < k) : ∃ n, jitneyref06_small.f k a m = some (n, (smallL a.data.toList m).2) ∧ ((smallL a.data.toList m).2 = 0 → n = (smallL a.data.toList m).1) := by
  unfold jitneyref06_small.f smallL
  rw [refRead_is k a 0 (by omega) (by omega)]
  simp only [Option.bind_some]
  have hw : wrap64 (-m) = -m := by unfold wrap64; omega
  rw [hw]
  by_cases h0 : (readL a.data.toList 0).2 = 0
  · rw [if_pos h0, if_pos h0]
    by_cases h1 : (readL a.data.toList 0).1 < -m
    · rw [if_pos h1, if_pos (.inl h1)]
      exact ⟨0, rfl, fun _ => rfl⟩
    · rw [if_neg h1]
      by_cases h2 : (readL a.data.toList 0).1 > m
      · rw [if_pos h2, if_pos (.inr h2)]
        exact ⟨0, rfl, fun _ => rfl⟩
      · rw [if_neg h2, if_neg (by omega)]
        exact ⟨_, by rw [h0], fun _ => rfl⟩
  · rw [if_neg h0, if_neg h0]
    exact ⟨_, rfl, fun h => absurd h h0⟩
/-- The numbers of words: the first ones within bounds, the others decimals. -/
def numG (sc : Int) : List ByteArray → List Int → Except Int (List Int)
  | [], _ => .ok []
  | x :: t, [] => bindE (okE (readL x.data.toList sc)) fun a => bindE (numG sc t []) fun r => .ok (a :: r)
  | x :: t, b :: bs => bindE (okE (smallL x.data.toList b)) fun a => bindE (numG sc t bs) fun r => .ok (a :: r)
def numsO (out : List Int) (o : Except Int (List Int)) : List Int × Int := match o with | .ok ns => (out ++ ns, 0) | .error e => ([], e)
theorem numsO_bad {out : List Int} {α : Type} {p : α × Int} {f : α → Except Int (List Int)} (h : p.2 ≠ 0) : numsO out (bindE (okE p) f) = ([], p.2) := by
  unfold okE
  rw [if_neg h]
  rfl
theorem numsO_good {out : List Int} {p : Int × Int} {M : Except Int (List Int)} {a : Int} (h : p.2 = 0) (ha : a = p.1) : numsO out (bindE (okE p) fun a => bindE M fun r => .ok (a :: r)) = numsO (out ++ [a]) M := by
  unfold okE
  rw [if_pos h, ha]
  cases M with
  | error e => rfl
  | ok r => show (out ++ p.1 :: r, (0 : Int)) = (out ++ [p.1] ++ r, 0); simp
theorem rdOf_drop (ws : List ByteArray) (i : Nat) (x : ByteArray) (t : List ByteArray) (h : ws.drop i = x :: t) : rdOf ByteArray.empty ws (i : Int) = x := by
  have h2 : ws[i]? = some x := by
    have := List.getElem?_drop (xs := ws) (i := i) (j := 0)
    rw [h] at this
    simpa using this.symm
  show (ws[((i : Int)).toNat]?).getD ByteArray.empty = x
  rw [Int.toNat_natCast, h2]
  rfl
theorem rd_drop (bs : List Int) (i : Nat) (x : Int) (t : List Int) (h : bs.drop i = x :: t) : rd bs (i : Int) = x := by
  have h2 : bs[i]? = some x := by
    have := List.getElem?_drop (xs := bs) (i := i) (j := 0)
    rw [h] at this
    simpa using this.symm
  show (bs[((i : Int)).toNat]?).getD 0 = x
  rw [Int.toNat_natCast, h2]
  rfl
theorem drop_step {α : Type} {l : List α} {i : Nat} {x : α} {t : List α} (h : l.drop i = x :: t) : l.drop (i + 1) = t := by
  rw [← List.drop_drop, h]
  rfl
theorem numbers_loop (ws : List ByteArray) (bs : List Int) (sc : Int) (hs : ∀ x ∈ ws, x.size ≤ 3000) (hb : ∀ m ∈ bs, m = 1000 ∨ m = 16777216) (hn : ws.length ≤ 5000) : ∀ (d k i : Nat) (out : List Int), i + d = ws.length → out.length = i → d + 9100 ≤ k → jitneyref06_numbers.l0 k ws bs sc out (i : Int) = some (numsO out (numG sc (ws.drop i) (bs.drop i)))
  | 0, k, i, out, hi, ho, hk => by
    obtain ⟨k, rfl⟩ : ∃ m, k = m + 1 := ⟨k - 1, by omega⟩
    unfold jitneyref06_numbers.l0
    rw [if_neg (by omega), List.drop_eq_nil_of_le (by omega)]
    simp [numG, numsO]
  | d + 1, k, i, out, hi, ho, hk => by
    obtain ⟨k, rfl⟩ : ∃ m, k = m + 1 := ⟨k - 1, by omega⟩
    unfold jitneyref06_numbers.l0
    rw [if_pos (by omega)]
    cases hw : ws.drop i with
    | nil => have := List.drop_eq_nil_iff.1 hw; omega
    | cons x t =>
      have hx : x.size ≤ 3000 := hs x (List.mem_of_mem_drop (by rw [hw]; exact List.mem_cons_self))
      have e1 := rdOf_drop ws i x t hw
      have e2 : wrap64 ((i : Int) + 1) = ((i + 1 : Nat) : Int) := wrap_nat (by omega)
      have ih := fun a => numbers_loop ws bs sc hs hb hn d k (i + 1) (out ++ [a]) (by omega) (by simp [ho]) (by omega)
      rw [drop_step hw] at ih
      by_cases hb2 : (i : Int) < (bs.length : Int)
      · rw [if_pos hb2, if_pos (by omega)]
        cases hq : bs.drop i with
        | nil => have := List.drop_eq_nil_iff.1 hq; omega
        | cons m q =>
          have hm := hb m (List.mem_of_mem_drop (by rw [hq]; exact List.mem_cons_self))
          rw [drop_step hq] at ih
          rw [e1, rd_drop bs i m q hq]
          obtain ⟨n, h1, h2⟩ := ref_small_is k x m hm (by omega) (by omega)
          rw [h1]
          simp only [Option.bind_some]
          rw [show numG sc (x :: t) (m :: q) = bindE (okE (smallL x.data.toList m)) fun a => bindE (numG sc t q) fun r => .ok (a :: r) from rfl]
          by_cases h0 : (smallL x.data.toList m).2 = 0
          · rw [if_pos h0, if_pos (by omega), e2, ih, numsO_good h0 (h2 h0)]
          · rw [if_neg h0, numsO_bad h0]
      · rw [if_neg hb2, if_pos (by omega), e1, refRead_is k x sc (by omega) (by omega)]
        have hq : bs.drop i = [] := List.drop_eq_nil_of_le (by omega)
        have hq2 : bs.drop (i + 1) = [] := List.drop_eq_nil_of_le (by omega)
        rw [hq2] at ih
        rw [hq]
        simp only [Option.bind_some]
        rw [show numG sc (x :: t) [] = bindE (okE (readL x.data.toList sc)) fun a => bindE (numG sc t []) fun r => .ok (a :: r) from rfl]
        by_cases h0 : (readL x.data.toList sc).2 = 0
        · rw [if_pos h0, if_pos (by omega), e2, ih, numsO_good h0 rfl]
        · rw [if_neg h0, numsO_bad h0]
theorem ref_numbers_is (ws : List ByteArray) (bs : List Int) (sc : Int) (hs : ∀ x ∈ ws, x.size ≤ 3000) (hb : ∀ m ∈ bs, m = 1000 ∨ m = 16777216) (hn : ws.length ≤ 5000) : jitneyref06_numbers.f 20000 ws bs sc = some (numsO [] (numG sc ws bs)) :=
  numbers_loop ws bs sc hs hb hn ws.length 20000 0 [] (by omega) rfl (by omega)
def mapE {α β : Type} (m : Except Int α) (f : α → β) : Except Int β := bindE m fun a => .ok (f a)
theorem numG_row (sc : Int) : ∀ ws, numG sc ws [] = numsE sc ws
  | [] => rfl
  | x :: t => by
    unfold numG numsE
    rw [numG_row sc t]
theorem numG_ride (sc : Int) (x : ByteArray) : numG sc [x] [] = mapE (okE (rideE [x] sc)) fun a => [a] := rfl
theorem okE_cases {α : Type} (p : α × Int) : (p.2 = 0 ∧ okE p = .ok p.1) ∨ (p.2 ≠ 0 ∧ okE p = .error p.2) := by
  unfold okE
  by_cases h : p.2 = 0
  · exact .inl ⟨h, if_pos h⟩
  · exact .inr ⟨h, if_neg h⟩
theorem okE_step {α β : Type} {p : α × Int} {f : α → Except Int β} : bindE (okE p) f = if p.2 = 0 then f p.1 else .error p.2 := by
  unfold okE
  by_cases h : p.2 = 0
  · rw [if_pos h, if_pos h]; rfl
  · rw [if_neg h, if_neg h]; rfl
theorem numG_car (sc : Int) (x0 x1 x2 : ByteArray) : numG sc [x0, x1, x2] [1000, 1000] = mapE (okE (carE [x0, x1, x2] sc)) fun a => [a.f0.f0, a.f0.f1, a.f1] := by
  simp only [numG, mapE, carE, okE_step, er2]
  generalize smallL x0.data.toList 1000 = p0
  generalize smallL x1.data.toList 1000 = p1
  generalize readL x2.data.toList sc = p2
  by_cases h0 : p0.2 = 0 <;> by_cases h1 : p1.2 = 0 <;> by_cases h2 : p2.2 = 0 <;> simp [h0, h1, h2, bindE]
theorem numG_times (sc : Int) (x2 x3 x4 x5 x6 : ByteArray) : numG sc [x2, x3, x4, x5, x6] [1000, 1000] = mapE (okE (stopE false [x2, x3, x4, x5, x6] sc)) fun s => [s.f0.f0, s.f0.f1, s.f1, s.f2, s.f3] := by
  simp only [numG, mapE, stopE, okE_step, er2]
  generalize smallL x2.data.toList 1000 = p0
  generalize smallL x3.data.toList 1000 = p1
  generalize readL x4.data.toList sc = p2
  generalize readL x5.data.toList sc = p3
  generalize readL x6.data.toList sc = p4
  by_cases h0 : p0.2 = 0 <;> by_cases h1 : p1.2 = 0 <;> by_cases h2 : p2.2 = 0 <;> by_cases h3 : p3.2 = 0 <;> by_cases h4 : p4.2 = 0 <;> simp [h0, h1, h2, h3, h4, bindE]
theorem numG_spots (sc : Int) (x0 x1 x2 x3 x4 x5 x6 : ByteArray) : numG sc [x0, x1, x2, x3, x4, x5, x6] [16777216, 16777216, 1000, 1000] = bindE (okE (stopE true [x0, x1, x2, x3, x4, x5, x6] sc)) fun s => .ok [(smallL x0.data.toList 16777216).1, (smallL x1.data.toList 16777216).1, s.f0.f0, s.f0.f1, s.f1, s.f2, s.f3] := by
  simp only [numG, stopE, okE_step, er2]
  generalize smallL x0.data.toList 16777216 = q0
  generalize smallL x1.data.toList 16777216 = q1
  generalize smallL x2.data.toList 1000 = p0
  generalize smallL x3.data.toList 1000 = p1
  generalize readL x4.data.toList sc = p2
  generalize readL x5.data.toList sc = p3
  generalize readL x6.data.toList sc = p4
  by_cases g0 : q0.2 = 0
  · by_cases g1 : q1.2 = 0
    · by_cases h0 : p0.2 = 0 <;> by_cases h1 : p1.2 = 0 <;> by_cases h2 : p2.2 = 0 <;> by_cases h3 : p3.2 = 0 <;> by_cases h4 : p4.2 = 0 <;> simp [g0, g1, h0, h1, h2, h3, h4, bindE]
    · simp [g0, g1, bindE]
  · simp [g0, bindE]
def headO (o : Except Int (Int × Int × Int × Bool)) : Int × Int × Int × Bool × Int := match o with | .ok (c, n, s, sp) => (c, n, s, sp, 0) | .error e => (0, 0, 0, false, e)
theorem ref_head_is (t : ByteArray) (ls : List ByteArray) (ht : ls[0]? = some t) (hs : t.size ≤ 3000) : jitneyref06_head.f 20000 t = some (headO (headM ls)) := by
  have hN : nextM ls 0 bJitney 5 = lineE (wsOf t bJitney 5) := by unfold nextM; rw [ht]
  unfold jitneyref06_head.f headM
  rw [ref_words_is 20000 t bJitney 5 (by omega) (by omega) (by decide), hN]
  simp only [Option.bind_some]
  cases hw : wsOf t bJitney 5 with
  | none => rfl
  | some ws =>
    obtain ⟨hlen, hsz⟩ := wsOf_len hw
    obtain ⟨x0, x1, x2, x3, rfl⟩ : ∃ x0 x1 x2 x3, ws = [x0, x1, x2, x3] := by
      match ws, hlen with
      | [x0, x1, x2, x3], _ => exact ⟨x0, x1, x2, x3, rfl⟩
      | [], h => simp at h
      | [_], h => simp at h
      | [_, _], h => simp at h
      | [_, _, _], h => simp at h
      | _ :: _ :: _ :: _ :: _ :: _, h => simp at h; omega
    have z0 : x0.size ≤ 3000 := Nat.le_trans (hsz x0 (by simp)) hs
    have z1 : x1.size ≤ 3000 := Nat.le_trans (hsz x1 (by simp)) hs
    have z2 : x2.size ≤ 3000 := Nat.le_trans (hsz x2 (by simp)) hs
    have hwo : wordsO (some [x0, x1, x2, x3]) = ([x0, x1, x2, x3], 0) := rfl
    rw [hwo]
    show (if (0 : Int) = 0 then _ else _) = some (headO (headW x0 x1 x2 x3))
    rw [if_pos rfl]
    have r0 : rdOf ByteArray.empty [x0, x1, x2, x3] 0 = x0 := rfl
    have r1 : rdOf ByteArray.empty [x0, x1, x2, x3] 1 = x1 := rfl
    have r2 : rdOf ByteArray.empty [x0, x1, x2, x3] 2 = x2 := rfl
    have r3 : rdOf ByteArray.empty [x0, x1, x2, x3] 3 = x3 := rfl
    have g0 : (0 : Int) < (([x0, x1, x2, x3] : List ByteArray).length : Int) := by simp
    have g1 : (1 : Int) < (([x0, x1, x2, x3] : List ByteArray).length : Int) := by simp
    have g2 : (2 : Int) < (([x0, x1, x2, x3] : List ByteArray).length : Int) := by simp
    have g3 : (3 : Int) < (([x0, x1, x2, x3] : List ByteArray).length : Int) := by simp
    rw [if_pos g0, r0, refWhole_is 20000 x0 (by omega) (by omega)]
    simp only [Option.bind_some]
    unfold headW
    by_cases a0 : (wholeL x0.data.toList).2 = 0
    · rw [if_pos a0, if_neg (fun h => h a0)]
      rw [show (20000 : Nat) = 19999 + 1 from rfl, jitneyref06_head.j0]
      by_cases a1 : (wholeL x0.data.toList).1 > 6
      · rw [if_pos (by simpa using a1), if_pos a1]
        rw [show (19999 : Nat) = 19998 + 1 from rfl, jitneyref06_head.j1]
        rfl
      · rw [if_neg (by simpa using a1), if_neg a1]
        rw [show (19999 : Nat) = 19998 + 1 from rfl, jitneyref06_head.j1]
        rw [if_pos a0]
        rw [if_pos g1, r1, refWhole_is 19998 x1 (by omega) (by omega)]
        simp only [Option.bind_some]
        by_cases a2 : (wholeL x1.data.toList).2 = 0
        · rw [if_pos a2, if_pos g2, r2, refWhole_is 19998 x2 (by omega) (by omega), if_neg (show ¬ (wholeL x1.data.toList).2 ≠ 0 from fun h => h a2)]
          simp only [Option.bind_some]
          by_cases a3 : (wholeL x2.data.toList).2 = 0
          · have hS : bSpots.toList = [115, 112, 111, 116, 115] := by rw [Lib.toList_data]
            have hT : bTimes.toList = [116, 105, 109, 101, 115] := by rw [Lib.toList_data]
            rw [if_pos a3, if_pos g3, r3, if_neg (show ¬ (wholeL x2.data.toList).2 ≠ 0 from fun h => h a3)]
            obtain ⟨n1, m1⟩ : 0 ≤ (wholeL x2.data.toList).1 ∧ (wholeL x2.data.toList).1 ≤ 1099511627776 := wholeL_bound (Prod.ext rfl a3)
            have hwr : wrap64 (wrap64 (2 * (wholeL x2.data.toList).1) + 2) = 2 * (wholeL x2.data.toList).1 + 2 := by unfold wrap64; omega
            have tail : ∀ b : Bool, b = decide (¬ (x3 = bSpots) ∧ ¬ (x3 = bTimes)) → jitneyref06_head.j2 (19997 + 1) [x0, x1, x2, x3] (wholeL x0.data.toList).1 (wholeL x1.data.toList).1 (wholeL x2.data.toList).1 b = some (headO (if x3 ≠ bSpots ∧ x3 ≠ bTimes then .error 21 else if (wholeL x1.data.toList).1 = 0 then .error 1 else if (wholeL x1.data.toList).1 > 64 ∨ 2 * (wholeL x2.data.toList).1 + 2 > 4096 then .error 3 else .ok ((wholeL x1.data.toList).1, (wholeL x2.data.toList).1, (wholeL x0.data.toList).1, decide (x3 = bSpots)))) := by
              intro b hb
              rw [jitneyref06_head.j2]
              by_cases c0 : x3 ≠ bSpots ∧ x3 ≠ bTimes
              · rw [if_pos c0, if_pos (by rw [hb]; exact decide_eq_true c0)]; rfl
              · rw [if_neg c0, if_neg (by rw [hb]; exact fun h => c0 (of_decide_eq_true h))]
                by_cases c1 : (wholeL x1.data.toList).1 = 0
                · rw [if_pos c1, if_pos c1]; rfl
                · rw [if_neg c1, if_neg c1]
                  by_cases c2 : (wholeL x1.data.toList).1 > 64
                  · rw [if_pos c2, if_pos (.inl c2)]; rfl
                  · rw [if_neg c2, hwr]
                    by_cases c3 : 2 * (wholeL x2.data.toList).1 + 2 > 4096
                    · rw [if_pos c3, if_pos (.inr c3)]; rfl
                    · rw [if_neg c3, if_neg (show ¬ ((wholeL x1.data.toList).1 > 64 ∨ 2 * (wholeL x2.data.toList).1 + 2 > 4096) from fun h => h.elim c2 c3)]
                      rw [if_pos g3, r3]
                      have hd : (x3.toList == ([115, 112, 111, 116, 115] : List UInt8)) = decide (x3 = bSpots) := by
                        by_cases hs3 : x3 = bSpots
                        · rw [decide_eq_true hs3, hs3, hS]; rfl
                        · rw [decide_eq_false hs3, beq_eq_false_iff_ne]
                          exact fun h => hs3 (bytes_inj (h.trans hS.symm))
                      rw [hd]
                      rfl
            by_cases b0 : x3 = bSpots
            · rw [if_pos (by rw [b0, hS])]
              exact tail false (by simp [b0])
            · rw [if_neg (fun h => b0 (bytes_inj (h.trans hS.symm)))]
              refine tail _ ?_
              by_cases b1 : x3 = bTimes
              · rw [b1, hT]; rfl
              · rw [decide_eq_true ⟨b0, b1⟩, bne_iff_ne]
                exact fun h => b1 (bytes_inj (h.trans hT.symm))
          · rw [if_neg a3, if_pos a3]; rfl
        · rw [if_neg a2, if_pos a2]; rfl
    · rw [if_neg a0, if_pos a0]
      rw [show (20000 : Nat) = 19999 + 1 from rfl, jitneyref06_head.j0]
      rw [if_neg (by decide)]
      rw [show (19999 : Nat) = 19998 + 1 from rfl, jitneyref06_head.j1]
      rw [if_neg a0]
      rfl
end Go.Proofs.YtcdmndhaeiccoaaGreatDoor.P
