/- A sweep over a row of spots of whatever size, and over none. -/
import Derived.Test.YtajblfmabokgkaaSweepA
import Derived.Test.YtajblfmabokgkaaStabE
import Derived.Test.YtajblfmabokgkaaSwoS
namespace Go.Proofs.Ytajblfmabokgkaa.P
open Go.Proofs.YtajblfmabokgkaaR
open Go.Shelf Go.Sort
open Go.RowKit Go.Proofs.YtajblfmabokgkaaW.PrintWords Go.Proofs.YtajblfmabokgkaaW.PrintLast Go.Proofs.YtajblfmabokgkaaW.PrintMore
set_option linter.unusedVariables false
set_option linter.unusedSimpArgs false
set_option maxHeartbeats 8000000
set_option maxRecDepth 100000
theorem slices_SortStableFunc.calls {α : Type} [Inhabited α] (enc : α → Value) (cf : α → α → Int) (cb : Array Value) (blk cap n : Nat) (d : Array α) (w : World)
    (hcmp : CmpLays1 Try.prog 21 cb enc cf blk 0 n w) (R : Row1 enc w blk 0 d) (hs : d.size = n) (hsz : n < 1152921504606846976) :
    Calls Try.prog 20 #[.slice (some ⟨blk, 0, none⟩) n cap, .func (.func 21) #[] cb] w fun e w' => e = .returned (.tuple #[]) ∧ SW enc w blk 0 (StableF.stable (ltOf cf) d n) w' := by
  have C1 := Aside0.mk (slices_stableCmpFunc.calls enc cf 21 cb blk cap n d w (enters_of Try.func21 (by kernel_rfl) rfl) hcmp R hs hsz)
  clear hcmp R hs
  go_enter Try.func20, Try.ntmps20
  go_wp2_with (first | (go_at_call 27; refine C1.out.mono ?_; rintro e w1 ⟨rfl, hS⟩; have S1 := Aside0.mk hS; clear hS))
  go_end0
  exact ⟨rfl, S1.out⟩
theorem slices_insertion_nil (f : Value) (w : World) : Calls Try.prog 36 #[.slice none 0 0, .int .i64 0, .int .i64 0, f] w fun e w' => e = .returned (.tuple #[]) ∧ w' = w := by
  go_enter Try.func36, Try.ntmps36
  go_wp2
  go_loopg [8, 9] 1 (fun gg v8 v9 wr => v8 = .int .i64 1 ∧ wr = w)
  case atStart => exact ⟨rfl, rfl⟩
  case round =>
    obtain ⟨rfl, rfl⟩ := hrel
    go_wp2
    go_end0
    exact ⟨rfl, rfl⟩
theorem slices_stable_nil (f : Value) (w : World) : Calls Try.prog 27 #[.slice none 0 0, .int .i64 0, f] w fun e w' => e = .returned (.tuple #[]) ∧ w' = w := by
  obtain ⟨w0, hw0⟩ : ∃ w0, w0 = w := ⟨_, rfl⟩
  have C := Aside0.mk (fun w1 => slices_insertion_nil f w1)
  have H0 := Aside0.mk hw0
  clear hw0
  go_enter Try.func27, Try.ntmps27
  go_wp2
  go_loopg [7, 8] 1 (fun gg v7 v8 wr => v7 = .int .i64 0 ∧ v8 = .int .i64 20 ∧ Aside0 (wr = w0))
  case atStart => exact ⟨rfl, rfl, ⟨H0.out.symm⟩⟩
  case round =>
    obtain ⟨rfl, rfl, HW⟩ := hrel
    go_wp2_with (first | (go_at_call 36; refine (C.out _).mono ?_; rintro e w1 ⟨rfl, rfl⟩))
    go_loopg [6, 7, 8, 9] 1 (fun gg v6 v7 v8 v9 wr => v6 = .int .i64 20 ∧ Aside0 (wr = w0))
    case atStart => exact ⟨rfl, HW⟩
    case round =>
      clear HW
      obtain ⟨rfl, HW⟩ := hrel
      go_wp2
      go_end0
      exact ⟨rfl, HW.out.trans H0.out⟩
theorem slices_SortStableFunc_nil (f : Value) (w : World) : Calls Try.prog 20 #[.slice none 0 0, f] w fun e w' => e = .returned (.tuple #[]) ∧ w' = w := by
  go_enter Try.func20, Try.ntmps20
  go_wp2_with (first | (go_at_call 27; refine (slices_stable_nil f _).mono ?_; rintro e w1 ⟨rfl, rfl⟩))
  go_end0
  exact ⟨rfl, rfl⟩
theorem spot_Sweep_nil (s t g : Nat) (w : World) :
    Calls Try.prog 12 #[.complex .f64 s t, .slice (some ⟨g, 0, none⟩) 0 0] w fun e w' => e = .returned (.slice none 0 0) ∧ Below w.heap.size w w' := by
  obtain ⟨W, hW⟩ : ∃ W, W = (w.alloc (.cells #[.complex .f64 s t] 23)).alloc (.cells #[.slice (some ⟨g, 0, none⟩) 0 0] 30) := ⟨_, rfl⟩
  have hBW : Below w.heap.size w W := by rw [hW]; exact below_alloc (below_alloc (Below.refl _ _) _) _
  have HW := Aside0.mk (show (w.alloc (.cells #[.complex .f64 s t] 23)).alloc (.cells #[.slice (some ⟨g, 0, none⟩) 0 0] 30) = W from hW.symm)
  have b3 := Aside0.mk (show W.cell? ⟨w.heap.size + 1, 0, none⟩ = some (.slice (some ⟨g, 0, none⟩) 0 0) by rw [hW]; simp)
  have HB := Aside0.mk hBW
  clear hW hBW
  go_enter Try.func12, Try.ntmps12
  go_wp2
  rw [HW.out]
  go_loopg [5, 6, 11] 1 (fun gg v5 v6 v11 wr => v5 = .slice none 0 0 ∧ v6 = .slice none 0 0 ∧ v11 = .int .i64 0 ∧ wr = W)
  case atStart => exact ⟨rfl, rfl, rfl, rfl⟩
  case round =>
    obtain ⟨rfl, rfl, rfl, hw⟩ := hrel
    subst hw

    go_wp2_with (first | (go_at_call 20; refine (slices_SortStableFunc_nil _ _).mono ?_; rintro e w1 ⟨rfl, rfl⟩))
    go_ret
    exact ⟨rfl, HB.out⟩
/-- The row that the sort has left. -/
def sweptG (o1 o2 : Int) (A B : Nat → Int) (n : Nat) [Inhabited (Fin n)] : Array (Fin n) := StableF.stable (ltOf (cfS o1 o2 A B)) (Array.ofFn id) n
theorem sweptG_holds (o1 o2 : Int) (A B : Nat → Int) (n : Nat) [Inhabited (Fin n)] : PermIn 0 n (Array.ofFn (id : Fin n → Fin n)) (sweptG o1 o2 A B n) ∧ SortedIn (ltOf (cfS o1 o2 A B)) 0 n (sweptG o1 o2 A B n) :=
  StableF.stable_holds (swoS o1 o2 A B n) _ n (by rw [Array.size_ofFn]; exact Nat.le_refl _)
theorem sweptG_size (o1 o2 : Int) (A B : Nat → Int) (n : Nat) [Inhabited (Fin n)] : (sweptG o1 o2 A B n).size = n := by
  rw [(sweptG_holds o1 o2 A B n).1.1, Array.size_ofFn]
/-- No place stands twice in it. -/
theorem sweptG_once (o1 o2 : Int) (A B : Nat → Int) (n : Nat) [Inhabited (Fin n)] (i j : Nat) (hi : i < n) (hj : j < n) (h : (sweptG o1 o2 A B n)[i]! = (sweptG o1 o2 A B n)[j]!) : i = j := by
  obtain ⟨h1, h2, h3⟩ := (sweptG_holds o1 o2 A B n).1
  have hs := sweptG_size o1 o2 A B n
  have e1 : (Array.ofFn (id : Fin n → Fin n)).extract 0 n = Array.ofFn (id : Fin n → Fin n) := by
    rw [show n = (Array.ofFn (id : Fin n → Fin n)).size by rw [Array.size_ofFn]]; simp
  have e2 : (sweptG o1 o2 A B n).extract 0 n = sweptG o1 o2 A B n := by
    conv => lhs; arg 3; rw [← hs]
    simp
  rw [e1, e2] at h3
  have nd : (Array.ofFn (id : Fin n → Fin n)).toList.Nodup := by
    rw [Array.toList_ofFn, List.nodup_iff_pairwise_ne, List.pairwise_iff_getElem]
    intro i j hi hj hij he
    simp at he
    omega
  have nd2 := h3.symm.nodup nd
  rw [getElem!_pos _ i (by omega), getElem!_pos _ j (by omega)] at h
  have := (List.getElem_inj nd2 (h₀ := by simpa [hs] using hi) (h₁ := by simpa [hs] using hj)).mp (by simpa using h)
  exact this
theorem spot_Sweep_all {w : World} {g n c : Nat} [Inhabited (Fin n)] {X Y : Nat → Nat} {A B : Nat → Int} (hL : SpotsAt w g n X Y A B) {s t : Nat} {o1 o2 : Int} (hO : Spot s t o1 o2) (hp : 0 < n) (hn : n ≤ 60) :
    Calls Try.prog 12 #[.complex .f64 s t, .slice (some ⟨g, 0, none⟩) n c] w fun e w' => ∃ g2 c2, e = .returned (.slice (some ⟨g2, 0, none⟩) n c2) ∧ n ≤ c2 ∧ w.heap.size ≤ g2 ∧ (∀ i, i < n → w'.cell? ⟨g2, i, none⟩ = some (enF n (sweptG o1 o2 A B n)[i]!)) ∧ Below w.heap.size w w' := by
  obtain ⟨W, hW⟩ : ∃ W, W = (w.alloc (.cells #[.complex .f64 s t] 23)).alloc (.cells #[.slice (some ⟨g, 0, none⟩) n c] 30) := ⟨_, rfl⟩
  have hBW : Below w.heap.size w W := by rw [hW]; exact below_alloc (below_alloc (Below.refl _ _) _) _
  have hsz : W.heap.size = w.heap.size + 2 := by rw [hW]; simp
  have b2 : W.cell? ⟨w.heap.size, 0, none⟩ = some (.complex .f64 s t) := by rw [hW]; simp
  have b3 : W.cell? ⟨w.heap.size + 1, 0, none⟩ = some (.slice (some ⟨g, 0, none⟩) n c) := by rw [hW]; simp
  have hL2 : SpotsAt W g n X Y A B := ⟨Nat.lt_of_lt_of_le hL.lt hBW.size, fun i hi => (hBW.cell (p := ⟨g, i, none⟩) hL.lt).trans (hL.cell i hi), hL.spot⟩
  have HW := Aside0.mk (show (w.alloc (.cells #[.complex .f64 s t] 23)).alloc (.cells #[.slice (some ⟨g, 0, none⟩) n c] 30) = W from hW.symm)
  have HL := Aside0.mk hL2
  have HO := Aside0.mk hO
  have HN := Aside0.mk hn
  have H2 := Aside0.mk b2
  have H3 := Aside0.mk b3
  have HS := Aside0.mk hsz
  have HBW := Aside0.mk hBW
  have HP := Aside0.mk hp
  clear hL hO hn hW hBW hsz b2 b3 hL2 hp
  go_enter Try.func12, Try.ntmps12
  go_wp2
  rw [HW.out]
  go_loopg [5, 6, 11] n (fun gg v5 v6 v11 wr => ∃ j : Nat, v6 = .slice none 0 0 ∧ v11 = .int .i64 (j : Int) ∧ j ≤ n ∧ n - j ≤ gg ∧ Aside0 (Kd.R (Kd.int .i64) 3 wr W.heap.size (fun _ => True) v5 (upTo j)) ∧ Aside0 (Below W.heap.size W wr))
  case atStart => exact ⟨0, rfl, rfl, Nat.zero_le _, Nat.le_refl _, ⟨Kd.R_nil _ _ _ _ _⟩, ⟨Below.refl _ _⟩⟩
  case round =>
    obtain ⟨j, rfl, rfl, hj, hm, HR, HB⟩ := hrel
    by_cases hjn : j < n
    · have c1 : decide ((j : Int) < (n : Int)) = true := by simp; omega
      have p1 : (0 : Int) ≤ (j : Int) := by omega
      have p2 : (j : Int) < (n : Int) := by omega
      have k1 : wr.cell? ⟨g, j, none⟩ = some (.complex .f64 (X j) (Y j)) := (HB.out.cell (p := ⟨g, j, none⟩) HL.out.lt).trans (HL.out.cell j hjn)
      have k2 : wr.cell? ⟨w.heap.size, 0, none⟩ = some (.complex .f64 s t) := (HB.out.cell (p := ⟨w.heap.size, 0, none⟩) (by have := HS.out; show w.heap.size < W.heap.size; omega)).trans H2.out
      have S1 := Aside0.mk (HL.out.spot j hjn)
      generalize X j = x at k1 S1
      generalize Y j = y at k1 S1
      have hjl : ((upTo j).length + 1) * 8 ≤ 140737488355328 := by rw [upTo_length]; have := HN.out; omega
      have HJ := Aside0.mk hjl
      have w1 : wrap64 ((j : Int) + 1) = (j : Int) + 1 := by unfold wrap64; have := HN.out; omega
      clear hjl
      go_wp2_with (first
        | (go_at_call 16; with_reducible refine (spot_Good.calls S1.out _).mono ?_; rintro e w1 ⟨rfl, rfl⟩)
        | (go_at_call 16; with_reducible refine (spot_Good.calls HO.out _).mono ?_; rintro e w1 ⟨rfl, rfl⟩)
        | ((with_reducible refine gate_builtin (b := .append) (xs := #[.tmp 22, .tmp 24]) rfl ?_); at_builtin; refine Kd.R_append (Kd.int .i64) (w0 := W) W.heap.size rfl (.tmp 22) (.tmp 24) 29 3 (.int .i64 0) 8 rfl Try.underlying29 info3 rfl (by decide) (by omega) u5 (upTo j) (j : Int) [.int .i64 (j : Int)] (fun _ => True) (fun _ => False) rfl rfl ?aP (fun _ hk => hk.elim) ?aF HR.out HB.out HB.out.size HJ.out ?_; (case aP => exact rfl); (case aF => exact (fun _ _ => trivial)); intro v1 w4 ho hb hg hat; rw [← upTo_succ] at ho; clear HR; clear HB; have HR := Aside0.mk ho; have HB := Aside0.mk hb; clear ho hb hg hat))
      go_roundg (n - (j + 1))
      case measure => omega
      case rel => exact ⟨j + 1, rfl, by first | rfl | go_num, by omega, Nat.le_refl _, HR, HB⟩
    · have c1 : decide ((j : Int) < (n : Int)) = false := by simp; omega
      obtain rfl : j = n := by omega
      obtain ⟨g2, cap, hv, hg0, hg1, _⟩ := Kd.R_form HR.out (by rw [upTo_length]; exact HP.out)
      rw [upTo_length] at hv
      subst hv
      have hcap : j ≤ cap := by
        obtain ⟨A', c', e', hc', _⟩ := Kd.R_reads HR.out
        injection e' with _ _ e3
        rw [e3, ← upTo_length j]
        exact hc'
      have hb2 : w.heap.size < W.heap.size := by have := HS.out; omega
      have hb3 : w.heap.size + 1 < W.heap.size := by have := HS.out; omega
      have hgW := HL.out.lt
      have k2 : wr.cell? ⟨w.heap.size, 0, none⟩ = some (.complex .f64 s t) := (HB.out.cell (p := ⟨w.heap.size, 0, none⟩) hb2).trans H2.out
      have k3 : wr.cell? ⟨w.heap.size + 1, 0, none⟩ = some (.slice (some ⟨g, 0, none⟩) j c) := (HB.out.cell (p := ⟨w.heap.size + 1, 0, none⟩) hb3).trans H3.out
      have hLr : SpotsAt wr g j X Y A B := ⟨Nat.lt_of_lt_of_le hgW HB.out.size, fun i hi => (HB.out.cell (p := ⟨g, i, none⟩) hgW).trans (HL.out.cell i hi), HL.out.spot⟩
      have hsrt := slices_SortStableFunc.calls (enF j) (cfS o1 o2 A B) _ g2 cap j (Array.ofFn (id : Fin j → Fin j)) wr (sweep_cmp (c := c) hLr HO.out k2 k3 (by omega) (by omega) (by omega) _) (sweep_row HR.out hg1) (by rw [Array.size_ofFn]) (by have := HN.out; omega)
      have CS := Aside0.mk hsrt
      have HG := Aside0.mk (And.intro hg0 hcap)
      have HW2 := Aside0.mk hg1
      clear hsrt hLr k2 k3 hgW hb2 hb3 hg0 hg1
      go_wp2_with (first | (go_at_call 20; refine CS.out.mono ?_; rintro e w1 ⟨rfl, hS⟩; have S1 := Aside0.mk hS; clear hS))
      go_ret
      have hS := S1.out
      have hc : ∀ i, i < j → w1.cell? ⟨g2, i, none⟩ = some (enF j (sweptG o1 o2 A B j)[i]!) := by
        intro i hi
        have := SW.c1 hS (sweep_row HR.out HW2.out) (by rw [Array.size_ofFn]; exact sweptG_size o1 o2 A B j) i (by show i < (sweptG o1 o2 A B j).size; rw [sweptG_size]; exact hi)
        rw [Nat.zero_add] at this
        exact this
      refine ⟨g2, cap, rfl, HG.out.2, Nat.le_trans (Nat.le_trans (Nat.le_of_lt (show w.heap.size < W.heap.size by have := HS.out; omega)) HG.out.1) (Nat.le_refl _), hc, ?_⟩
      have h1 : Below w.heap.size w wr := HBW.out.trans (HB.out.mono HBW.out.size)
      exact h1.trans (sw_below hS (Nat.le_trans HBW.out.size HG.out.1) (Nat.le_trans HBW.out.size HB.out.size))
end Go.Proofs.Ytajblfmabokgkaa.P
