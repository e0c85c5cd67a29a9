/- slices.Sort and slices.Compact at short rows; the requests of a list (seat 17). -/
import Derived.Test.YtlpjankfedhhjaaSome2
import Derived.Test.YtlpjankfedhhjaaP2
import Derived.Shelf.Slices.CompactI
namespace Go.Proofs.Ytlpjankfedhhjaa.P
open Go.Proofs.YtlpjankfedhhjaaR
open Go.Shelf Go.Sort
open Go.RowKit Go.Proofs.YtlpjankfedhhjaaW.PrintWords Go.Proofs.YtlpjankfedhhjaaW.PrintLast Go.Proofs.YtlpjankfedhhjaaW.PrintMore
set_option linter.unusedVariables false
set_option linter.unusedSimpArgs false
set_option maxHeartbeats 8000000
set_option maxRecDepth 100000
theorem bits_Len64.small (x : Nat) (h : x = 3 ∨ x = 5) (w : World) : Calls Try.prog 53 #[.int .u64 x] w fun e w' => (∃ r, e = .returned (.int .i64 r)) ∧ w' = w := by
  rcases h with rfl | rfl
  all_goals
    go_enter Try.func53, Try.ntmps53
    go_wp2
    go_ret
    exact ⟨⟨_, rfl⟩, rfl⟩
theorem bits_Len.small (x : Nat) (h : x = 3 ∨ x = 5) (w : World) : Calls Try.prog 33 #[.int .u64 x] w fun e w' => (∃ r, e = .returned (.int .i64 r)) ∧ w' = w := by
  have C1 := Aside0.mk (bits_Len64.small x h)
  clear h
  go_enter Try.func33, Try.ntmps33
  go_wp2_with (first | (go_at_call 53; with_reducible refine (C1.out _).mono ?_; rintro e w1 ⟨⟨r, rfl⟩, rfl⟩))
  go_ret
  exact ⟨⟨_, rfl⟩, rfl⟩
theorem pdq.calls (k : Nat) (v : Value) (xs xs' : List Int) (lim : Int) (w0 w : World) (hB : Below w0.heap.size w0 w) (hR : Kd.R (Kd.int .i64) 3 w w0.heap.size (fun _ => True) v xs) (hn : xs.length ≤ 12) (hf : slices_insertionSortOrdered_int.f k xs 0 (xs.length : Int) = some xs') :
    Calls Try.prog 32 #[v, .int .i64 0, .int .i64 (xs.length : Int), .int .i64 lim] w fun e w' => e = .returned (.tuple #[]) ∧ Kd.R (Kd.int .i64) 3 w' w0.heap.size (fun _ => True) v xs' ∧ Below w0.heap.size w0 w' := by
  obtain ⟨A, c, rfl⟩ := Kd.R_slice hR
  have C1 := Aside0.mk (slices_insertionSortOrdered_int.calls k (fun _ => True) (.slice A xs.length c) xs 0 (xs.length : Int) xs' w0 w hB hR hf)
  have w1 : wrap64 ((xs.length : Int) - 0) = (xs.length : Int) := by unfold wrap64; omega
  have w2 : wrap64 (xs.length : Int) = (xs.length : Int) := by unfold wrap64; omega
  have c2 : xs.length ≤ 12 := hn
  have c1 : decide ((xs.length : Int) ≤ 12) = true := decide_eq_true (by omega)
  clear hB hR hn hf
  generalize xs.length = n at C1 w1 w2 c1 c2 ⊢
  go_enter Try.func32, Try.ntmps32
  go_wp2
  go_loopg [1, 2, 3, 10] 1 (fun gg v1 v2 v3 v10 wr => v1 = .int .i64 0 ∧ v2 = .int .i64 (n : Int) ∧ v3 = .int .i64 lim ∧ w = wr)
  case atStart => exact ⟨rfl, rfl, rfl, rfl⟩
  case round =>
    obtain ⟨rfl, rfl, rfl, rfl⟩ := hrel
    go_wp2_with (first | (go_at_call 43; refine C1.out.mono ?_; rintro e w2 ⟨rfl, hR, hb, hk⟩; have R1 := Aside0.mk hR; have B1 := Aside0.mk hb; clear hR hb hk))
    ((try simp only [Exit.inBlock, Exit.then]); refine bodyPost_ret (results_none rfl _ _ _) rfl ?_)
    exact ⟨rfl, Kd.R_mono R1.out (fun _ _ => trivial), B1.out⟩
theorem slices_Sort.calls (k : Nat) (v : Value) (xs xs' : List Int) (w0 w : World) (hB : Below w0.heap.size w0 w) (hR : Kd.R (Kd.int .i64) 3 w w0.heap.size (fun _ => True) v xs) (hn : xs.length = 3 ∨ xs.length = 5) (hf : slices_insertionSortOrdered_int.f k xs 0 (xs.length : Int) = some xs') :
    Calls Try.prog 23 #[v] w fun e w' => e = .returned (.tuple #[]) ∧ Kd.R (Kd.int .i64) 3 w' w0.heap.size (fun _ => True) v xs' ∧ Below w0.heap.size w0 w' := by
  have C1 := Aside0.mk fun lim => pdq.calls k v xs xs' lim w0 w hB hR (by omega) hf
  have C2 := Aside0.mk (bits_Len.small xs.length hn)
  obtain ⟨A, c, rfl⟩ := Kd.R_slice hR
  have hcv : ∀ w, (convert 3 63 (.int .i64 (xs.length : Int))).run Try.prog w = .ok (.int .u64 (xs.length : Int)) w := fun w => by
    rcases hn with h | h <;> (rw [h]; kernel_rfl)
  clear hB hR hf hn
  generalize xs.length = n at C1 C2 hcv ⊢
  go_enter Try.func23, Try.ntmps23
  go_wp2_with (first | (go_at_call 33; with_reducible refine (C2.out _).mono ?_; rintro e w1 ⟨⟨r, rfl⟩, rfl⟩) | (go_at_call 32; refine (C1.out _).mono ?_; rintro e w2 ⟨rfl, hR, hb⟩; have R1 := Aside0.mk hR; have B1 := Aside0.mk hb; clear hR hb))
  go_end0
  exact ⟨rfl, R1.out, B1.out⟩
theorem laysC : Lays2.n20 Try.prog ⟨fun x => if x = 20 then 24 else x, fun x => x, fun x => x⟩ where
  mixed := by kernel_rfl
  f20 := by kernel_rfl
  t0 := by kernel_rfl
  a0 := fun w => by kernel_rfl
  z0 := fun w => by kernel_rfl
  v0 := fun w => by kernel_rfl
  t3 := by kernel_rfl
  a3 := fun w => by kernel_rfl
  z3 := fun w => by kernel_rfl
  v3 := fun w => by kernel_rfl
  t4 := by kernel_rfl
  a4 := fun w => by kernel_rfl
  z4 := fun w => by kernel_rfl
  v4 := fun w => by kernel_rfl
  t22 := by kernel_rfl
  a22 := fun w => by kernel_rfl
  z22 := fun w => by kernel_rfl
  v22 := fun w => by kernel_rfl
  i3 := by kernel_rfl
theorem RowZ.of_R {w : World} {base : Nat} {ok : Nat → Prop} {g n cap : Nat} {xs : List Int} (h : Kd.R (Kd.int .i64) 3 w base ok (.slice (some ⟨g, 0, none⟩) n cap) xs) : RowZ w g xs ∧ base ≤ g ∧ n = xs.length ∧ n ≤ cap := by
  obtain ⟨hn, hc, _⟩ := Kd.R_reads' h
  subst hn
  refine ⟨⟨Kd.R_lt h g rfl, fun i x hx => ?_⟩, Kd.R_base h g rfl, rfl, hc⟩
  have hi : i < xs.length := by
    rcases Nat.lt_or_ge i xs.length with h' | h'
    · exact h'
    · rw [List.getElem?_eq_none h'] at hx; cases hx
  obtain ⟨h1, h2⟩ := Kd.R_cell 0 h (i : Int) (by omega) (by omega)
  rw [Int.toNat_natCast] at h1 h2
  refine ⟨h1.trans ?_, h2⟩
  have : rdOf 0 xs (i : Int) = x := by unfold rdOf; simp [hx]
  rw [this]
theorem RowZ.holds {w : World} {g : Nat} {xs : List Int} (h : RowZ w g xs) : Holds (Value.int .i64) w g 0 xs.toArray := by
  intro j hj
  have hj' : j < xs.length := by simpa using hj
  obtain ⟨h1, h2⟩ := h.2 j xs[j] (List.getElem?_eq_getElem hj')
  rw [Nat.zero_add]
  refine ⟨?_, h2⟩
  rw [h1]
  simp [hj']
theorem slices_Compact.calls (xs zs : List Int) (m : Nat) (g cap : Nat) (w : World) (hR : RowZ w g xs) (hn : xs.length ≤ 1000) (hcap : xs.length ≤ cap) (hz : Lib.compact xs = zs) (hm : m = zs.length) (hle : zs.length ≤ xs.length) :
    Calls Try.prog 24 #[.slice (some ⟨g, 0, none⟩) xs.length cap] w fun e w' => e = .returned (.slice (some ⟨g, 0, none⟩) m cap) ∧ RowZ w' g zs ∧ Below g w w' := by
  refine (Any.slices_Compact_int laysC g 0 cap xs w hR.holds (by omega) hcap).mono ?_
  rintro e w' ⟨rfl, q, rfl⟩
  rw [hz, ← hm]
  refine ⟨rfl, ?_, ?_⟩
  · have hh := holds_putRow (Value.int .i64) (Sort.ahead w q) g 0 xs.toArray (zs ++ List.replicate (xs.length - m) 0).toArray (fun j hj => hR.holds j hj) (by simp; omega)
    refine ⟨by rw [Go.Proofs.size_putRow]; exact hR.1, fun i x hx => ?_⟩
    have hi : i < zs.length := by
      rcases Nat.lt_or_ge i zs.length with h' | h'
      · exact h'
      · rw [List.getElem?_eq_none h'] at hx; cases hx
    obtain ⟨h1, h2⟩ := hh i (by simp; omega)
    rw [Nat.zero_add] at h1 h2
    refine ⟨h1.trans ?_, h2⟩
    have hx' : zs[i] = x := by rw [List.getElem?_eq_getElem hi] at hx; exact Option.some.inj hx
    have e : (zs ++ List.replicate (xs.length - m) 0)[i]?.getD 0 = x := by rw [List.getElem?_append_left hi, hx]; rfl
    simpa using e
  · refine ⟨rfl, rfl, rfl, by rw [Go.Proofs.size_putRow]; exact Nat.le_refl _, fun k hk => ?_⟩
    unfold putRow mapBlock Sort.ahead
    have : ¬ g = k := by omega
    simp [Array.getElem?_modify, this]
theorem goods (xs : List Int) (k : Nat) (h : (xs.take k).all good4 = true) : ∀ (i : Nat) (x : Int), i < k → xs[i]? = some x → good4 x = true := fun i x hi hx =>
  List.all_eq_true.1 h x (List.mem_of_getElem? (i := i) (by rw [List.getElem?_take, if_pos hi]; exact hx))
theorem bads (xs : List Int) (k : Nat) (y : Int) (h : xs[k]? = some y) (hy : good4 y = false) : ∀ x, xs[k]? = some x → good4 x = false := fun x hx => by
  rw [h] at hx
  rw [← Option.some.inj hx]; exact hy
/-- What 'some' gives of two lists: the requests 1 to m, in a row of its own. -/
def SomeIs (w w' : World) (e : Ending) (m : Nat) : Prop := ∃ g cap, e = .returned (.slice (some ⟨g, 0, none⟩) m cap) ∧ m ≤ cap ∧ w.heap.size ≤ g ∧ RowZ w' g ((List.range m).map fun (i : Nat) => ((i + 1 : Nat) : Int)) ∧ Below w.heap.size w w'
theorem clone6 : slices_Clone_int_int.f [1, 2, 3, 4, 4, 9] = some [1, 2, 3, 4, 4, 9] := by decide +kernel
theorem clone3 : slices_Clone_int_int.f [1, 2, 3] = some [1, 2, 3] := by decide +kernel
theorem cloneS : slices_Clone_int_int.f [2, 3, 9] = some [2, 3, 9] := by decide +kernel
theorem sort5 : slices_insertionSortOrdered_int.f 50 [1, 2, 3, 4, 4] 0 5 = some [1, 2, 3, 4, 4] := by decide +kernel
theorem sort3 : slices_insertionSortOrdered_int.f 50 [1, 2, 3] 0 3 = some [1, 2, 3] := by decide +kernel
theorem comp5 : Lib.compact [(1 : Int), 2, 3, 4, 4] = [1, 2, 3, 4] := by decide +kernel
theorem comp3 : Lib.compact [(1 : Int), 2, 3] = [1, 2, 3] := by decide +kernel
theorem box_new (gc gs gr : Nat) (w : World) : Box (w.alloc (.cells #[.slice (some ⟨gc, 0, none⟩) 2 2, .slice (some ⟨gs, 0, none⟩) 10 10, .slice (some ⟨gr, 0, none⟩) 4 4, .slice none 0 0] 34)) w.heap.size gc gs gr :=
  ⟨by simp, by simp, by simp, by simp, by simp⟩
theorem sweep_some.six (gc gs gr : Nat) (A : Option Addr) (c : Nat) (w : World) (hC : Kd.C (Kd.int .i64) w A 6 [1, 2, 3, 4, 4, 9]) (hc : 6 ≤ c) : Calls Try.prog 14 #[.agg #[.slice (some ⟨gc, 0, none⟩) 2 2, .slice (some ⟨gs, 0, none⟩) 10 10, .slice (some ⟨gr, 0, none⟩) 4 4, .slice none 0 0], .slice A 6 c] w fun e w' => SomeIs w w' e 4 := by
  obtain ⟨W, hW⟩ : ∃ W, W = w.alloc (.cells #[.slice (some ⟨gc, 0, none⟩) 2 2, .slice (some ⟨gs, 0, none⟩) 10 10, .slice (some ⟨gr, 0, none⟩) 4 4, .slice none 0 0] 34) := ⟨_, rfl⟩
  have hB0 : Below w.heap.size w W := by rw [hW]; exact below_alloc (Below.refl _ _) _
  have hX : Box W w.heap.size gc gs gr := by rw [hW]; exact box_new gc gs gr w
  have C1 := Aside0.mk (slices_Clone_int_int.calls A c [1, 2, 3, 4, 4, 9] _ W (Kd.C_below hC hB0) hc clone6)
  have HX := Aside0.mk hX
  have HB0 := Aside0.mk hB0
  have HW := Aside0.mk (show w.alloc (.cells #[.slice (some ⟨gc, 0, none⟩) 2 2, .slice (some ⟨gs, 0, none⟩) 10 10, .slice (some ⟨gr, 0, none⟩) 4 4, .slice none 0 0] 34) = W from hW.symm)
  clear hC hc hB0 hX hW
  go_enter Try.func14, Try.ntmps14
  go_wp2_with (first
    | (go_at_call 13; rw [HW.out]; refine C1.out.mono ?_; rintro e w1 ⟨v, rfl, hR, hb⟩; obtain ⟨g, cap, hv, hg1, hg2, -⟩ := Kd.R_form hR (by decide); have hv' : v = .slice (some ⟨g, 0, none⟩) 6 cap := hv; subst hv'; have R1 := Aside0.mk hR; have B1 := Aside0.mk hb; have G1 := Aside0.mk hg1; clear hR hb hg1 hg2 hv)
    | (go_at_call 17; go_loud (refine (DeleteFunc_some1.last gc gs gr w.heap.size [1, 2, 3, 4, 4, 9] g cap w1 (RowZ.of_R R1.out).1 (HX.out.here B1.out) (goods _ _ (by decide +kernel)) rfl (bads _ _ 9 (by decide +kernel) (by decide +kernel)) (RowZ.of_R R1.out).2.2.2).mono ?_; rintro e w3 ⟨rfl, w2, hb, rfl⟩; have R2 := Aside0.mk (show Kd.R (Kd.int .i64) 3 (w2.setCell ⟨g, 5, none⟩ (.int .i64 0)) W.heap.size (fun _ => True) (.slice (some ⟨g, 0, none⟩) 5 cap) [1, 2, 3, 4, 4] from Kd.R_take (Kd.R_put (Kd.R_below R1.out hb) 5 0).1 (by decide)); have B2 := Aside0.mk (show Below W.heap.size W (w2.setCell ⟨g, 5, none⟩ (.int .i64 0)) from (B1.out.trans (hb.mono B1.out.size)).setCell (p := ⟨g, 5, none⟩) G1.out _); clear hb))
    | (go_at_call 23; go_loud (refine (slices_Sort.calls 50 _ [1, 2, 3, 4, 4] _ W _ B2.out R2.out (by decide) sort5).mono ?_; rintro e w4 ⟨rfl, hR, hb⟩; have R3 := Aside0.mk hR; have B3 := Aside0.mk hb; clear hR hb))
    | (go_at_call 24; go_loud (refine (slices_Compact.calls [1, 2, 3, 4, 4] _ 4 g cap _ (RowZ.of_R R3.out).1 (by decide) (RowZ.of_R R3.out).2.2.2 comp5 rfl (by decide)).mono ?_; rintro e w5 ⟨rfl, hz, hb⟩; have R4 := Aside0.mk hz; have B4 := Aside0.mk hb; clear hz hb)))
  go_ret
  refine ⟨g, cap, rfl, ?_, Nat.le_trans HB0.out.size G1.out, R4.out, HB0.out.trans ((B3.out.trans (B4.out.mono G1.out)).mono HB0.out.size)⟩
  have := (RowZ.of_R R3.out).2.2.2
  omega
theorem sweep_some.three (gc gs gr : Nat) (A : Option Addr) (c : Nat) (w : World) (hC : Kd.C (Kd.int .i64) w A 3 [1, 2, 3]) (hc : 3 ≤ c) : Calls Try.prog 14 #[.agg #[.slice (some ⟨gc, 0, none⟩) 2 2, .slice (some ⟨gs, 0, none⟩) 10 10, .slice (some ⟨gr, 0, none⟩) 4 4, .slice none 0 0], .slice A 3 c] w fun e w' => SomeIs w w' e 3 := by
  obtain ⟨W, hW⟩ : ∃ W, W = w.alloc (.cells #[.slice (some ⟨gc, 0, none⟩) 2 2, .slice (some ⟨gs, 0, none⟩) 10 10, .slice (some ⟨gr, 0, none⟩) 4 4, .slice none 0 0] 34) := ⟨_, rfl⟩
  have hB0 : Below w.heap.size w W := by rw [hW]; exact below_alloc (Below.refl _ _) _
  have hX : Box W w.heap.size gc gs gr := by rw [hW]; exact box_new gc gs gr w
  have C1 := Aside0.mk (slices_Clone_int_int.calls A c [1, 2, 3] _ W (Kd.C_below hC hB0) hc clone3)
  have HX := Aside0.mk hX
  have HB0 := Aside0.mk hB0
  have HW := Aside0.mk (show w.alloc (.cells #[.slice (some ⟨gc, 0, none⟩) 2 2, .slice (some ⟨gs, 0, none⟩) 10 10, .slice (some ⟨gr, 0, none⟩) 4 4, .slice none 0 0] 34) = W from hW.symm)
  clear hC hc hB0 hX hW
  go_enter Try.func14, Try.ntmps14
  go_wp2_with (first
    | (go_at_call 13; rw [HW.out]; refine C1.out.mono ?_; rintro e w1 ⟨v, rfl, hR, hb⟩; obtain ⟨g, cap, hv, hg1, hg2, -⟩ := Kd.R_form hR (by decide); have hv' : v = .slice (some ⟨g, 0, none⟩) 3 cap := hv; subst hv'; have R1 := Aside0.mk hR; have B1 := Aside0.mk hb; have G1 := Aside0.mk hg1; clear hR hb hg1 hg2 hv)
    | (go_at_call 17; go_loud (refine (DeleteFunc_some1.whole gc gs gr w.heap.size [1, 2, 3] g cap w1 (RowZ.of_R R1.out).1 (HX.out.here B1.out) (by decide) (goods _ _ (by decide +kernel))).mono ?_; rintro e w3 ⟨rfl, hb⟩; have R2 := Aside0.mk (Kd.R_below R1.out hb); have B2 := Aside0.mk (B1.out.trans (hb.mono B1.out.size)); clear hb))
    | (go_at_call 23; go_loud (refine (slices_Sort.calls 50 _ [1, 2, 3] _ W _ B2.out R2.out (by decide) sort3).mono ?_; rintro e w4 ⟨rfl, hR, hb⟩; have R3 := Aside0.mk hR; have B3 := Aside0.mk hb; clear hR hb))
    | (go_at_call 24; go_loud (refine (slices_Compact.calls [1, 2, 3] _ 3 g cap _ (RowZ.of_R R3.out).1 (by decide) (RowZ.of_R R3.out).2.2.2 comp3 rfl (by decide)).mono ?_; rintro e w5 ⟨rfl, hz, hb⟩; have R4 := Aside0.mk hz; have B4 := Aside0.mk hb; clear hz hb)))
  go_ret
  refine ⟨g, cap, rfl, ?_, Nat.le_trans HB0.out.size G1.out, R4.out, HB0.out.trans ((B3.out.trans (B4.out.mono G1.out)).mono HB0.out.size)⟩
  have := (RowZ.of_R R3.out).2.2.2
  omega
end Go.Proofs.Ytlpjankfedhhjaa.P
