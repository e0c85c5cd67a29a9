/- Which requests there are: slices.DeleteFunc over a closure, Sort and Compact, at short rows (seat 17). -/
import Derived.Test.YtlpjankfedhhjaaSweepA
import Derived.Test.YtlpjankfedhhjaaP4
import Derived.Lib.SliceRun
namespace Go.Proofs.Ytlpjankfedhhjaa.P
open Go.Proofs.YtlpjankfedhhjaaR
open Go.Shelf Go.Sort
open Go.RowKit Go.Proofs.YtlpjankfedhhjaaW.PrintWords Go.Proofs.YtlpjankfedhhjaaW.PrintLast Go.Proofs.YtlpjankfedhhjaaW.PrintMore
set_option linter.unusedVariables false
set_option linter.unusedSimpArgs false
set_option maxHeartbeats 8000000
set_option maxRecDepth 100000
def RowZ (w : World) (g : Nat) (xs : List Int) : Prop := g < w.heap.size ∧ ∀ (i : Nat) (x : Int), xs[i]? = some x → w.cell? ⟨g, i, none⟩ = some (.int .i64 x) ∧ w.frozen? ⟨g, i, none⟩ = false
theorem inst_Count.calls (gc gs gr : Nat) (w : World) : Calls Try.prog 30 #[.agg #[.slice (some ⟨gc, 0, none⟩) 2 2, .slice (some ⟨gs, 0, none⟩) 10 10, .slice (some ⟨gr, 0, none⟩) 4 4, .slice none 0 0]] w fun e w' => e = .returned (.int .i64 4) ∧ Below w.heap.size w w' := by
  go_enter Try.func30, Try.ntmps30
  go_wp2
  go_ret
  exact ⟨rfl, below_alloc (Below.refl _ _) _⟩
def good4 (q : Int) : Bool := decide (1 ≤ q ∧ q ≤ 4)
theorem inst_Pick.calls (gc gs gr : Nat) (q : Int) (w : World) : Calls Try.prog 19 #[.agg #[.slice (some ⟨gc, 0, none⟩) 2 2, .slice (some ⟨gs, 0, none⟩) 10 10, .slice (some ⟨gr, 0, none⟩) 4 4, .slice none 0 0], .int .i64 q] w fun e w' => e = .returned (.int .i64 (if good4 q = true then q else 0)) ∧ Below w.heap.size w w' := by
  have C1 := Aside0.mk (inst_Count.calls gc gs gr)
  by_cases c1 : q < 1
  · have d1 : decide (q < 1) = true := decide_eq_true c1
    have e1 : good4 q = false := decide_eq_false (by omega)
    rw [e1, if_neg (by decide)]
    clear e1 c1
    go_enter Try.func19, Try.ntmps19
    go_wp2
    go_ret
    exact ⟨rfl, below_alloc (Below.refl _ _) _⟩
  · by_cases c2 : q > 4
    · have d1 : decide (q < 1) = false := decide_eq_false c1
      have d2 : decide (q > 4) = true := decide_eq_true c2
      have d3 : decide (4 < q) = true := decide_eq_true c2
      have e1 : good4 q = false := decide_eq_false (by omega)
      rw [e1, if_neg (by decide)]
      clear e1 c1 c2
      go_enter Try.func19, Try.ntmps19
      go_wp2_with (first | (go_at_call 30; with_reducible refine (C1.out _).mono ?_; rintro e w1 ⟨rfl, hb⟩; have B1 := Aside0.mk hb; clear hb))
      go_ret
      exact ⟨rfl, (below_alloc (Below.refl _ _) _).trans (B1.out.mono (by simp))⟩
    · have d1 : decide (q < 1) = false := decide_eq_false c1
      have d2 : decide (q > 4) = false := decide_eq_false c2
      have d3 : decide (4 < q) = false := decide_eq_false c2
      have e1 : good4 q = true := decide_eq_true (by omega)
      rw [e1, if_pos rfl]
      clear e1 c1 c2
      go_enter Try.func19, Try.ntmps19
      go_wp2_with (first | (go_at_call 30; with_reducible refine (C1.out _).mono ?_; rintro e w1 ⟨rfl, hb⟩; have B1 := Aside0.mk hb; clear hb))
      go_ret
      exact ⟨rfl, (below_alloc (Below.refl _ _) _).trans (B1.out.mono (by simp))⟩
structure Box (w : World) (b gc gs gr : Nat) : Prop where
  lt : b < w.heap.size
  c0 : w.cell? ⟨b, 0, none⟩ = some (.slice (some ⟨gc, 0, none⟩) 2 2)
  c1 : w.cell? ⟨b, 1, none⟩ = some (.slice (some ⟨gs, 0, none⟩) 10 10)
  c2 : w.cell? ⟨b, 2, none⟩ = some (.slice (some ⟨gr, 0, none⟩) 4 4)
  c3 : w.cell? ⟨b, 3, none⟩ = some (.slice none 0 0)
theorem Box.below {w w' : World} {b gc gs gr : Nat} (h : Box w b gc gs gr) {B : Nat} (hb : Below B w w') (hB : b < B) : Box w' b gc gs gr :=
  ⟨Nat.lt_of_lt_of_le h.lt hb.size, (hb.cell (p := ⟨b, 0, none⟩) hB).trans h.c0, (hb.cell (p := ⟨b, 1, none⟩) hB).trans h.c1, (hb.cell (p := ⟨b, 2, none⟩) hB).trans h.c2, (hb.cell (p := ⟨b, 3, none⟩) hB).trans h.c3⟩
theorem Box.here {w w' : World} {b gc gs gr : Nat} (h : Box w b gc gs gr) (hb : Below w.heap.size w w') : Box w' b gc gs gr := h.below hb h.lt
theorem RowZ.below {w w' : World} {g : Nat} {xs : List Int} (h : RowZ w g xs) {B : Nat} (hb : Below B w w') (hB : g < B) : RowZ w' g xs := by
  refine ⟨Nat.lt_of_lt_of_le h.1 hb.size, fun i x hx => ?_⟩
  obtain ⟨h1, h2⟩ := h.2 i x hx
  refine ⟨(hb.cell (p := ⟨g, i, none⟩) hB).trans h1, ?_⟩
  have e : w'.heap[g]? = w.heap[g]? := hb.block g hB
  unfold World.frozen? at h2 ⊢
  simp only [e]
  exact h2
theorem RowZ.here {w w' : World} {g : Nat} {xs : List Int} (h : RowZ w g xs) (hb : Below w.heap.size w w') : RowZ w' g xs := h.below hb h.1
theorem some1.calls (gc gs gr b : Nat) (q : Int) (w : World) (hB : Box w b gc gs gr) : Calls Try.prog 22 #[.int .i64 q, .pointer (some ⟨b, 0, none⟩)] w fun e w' => e = .returned (.bool (!good4 q)) ∧ Below w.heap.size w w' := by
  have C1 := Aside0.mk (inst_Pick.calls gc gs gr q)
  have h0 := hB.c0
  have h1 := hB.c1
  have h2 := hB.c2
  have h3 := hB.c3
  have key : (!good4 q) = ((if good4 q = true then q else 0) == 0) := by
    unfold good4
    by_cases c : 1 ≤ q ∧ q ≤ 4
    · rw [decide_eq_true c, if_pos rfl]
      have : (q == 0) = false := beq_eq_false_iff_ne.2 (by omega)
      rw [this]; rfl
    · rw [decide_eq_false c, if_neg (by decide)]; rfl
  rw [key]
  generalize (if good4 q = true then q else 0) = z at C1 ⊢
  clear key hB
  go_enter Try.func22, Try.ntmps22
  go_wp2_with (first | (go_at_call 19; with_reducible refine (C1.out _).mono ?_; rintro e w1 ⟨rfl, hb⟩; have B1 := Aside0.mk hb; clear hb))
  go_ret
  exact ⟨rfl, B1.out⟩
theorem IndexFunc_some1.calls (gc gs gr b : Nat) (xs : List Int) (g cap k : Nat) (w : World) (hR : RowZ w g xs) (hB : Box w b gc gs gr) (hn : xs.length ≤ 1000) (hk : ∀ i x, i < k → xs[i]? = some x → good4 x = true) (hkn : k ≤ xs.length) (hbad : ∀ x, xs[k]? = some x → good4 x = false) :
    Calls Try.prog 29 #[.slice (some ⟨g, 0, none⟩) xs.length cap, .func (.func 22) #[] #[.pointer (some ⟨b, 0, none⟩)]] w fun e w' => e = .returned (.int .i64 (if k = xs.length then -1 else (k : Int))) ∧ Below w.heap.size w w' := by
  obtain ⟨n, hnn⟩ : ∃ n, n = xs.length := ⟨_, rfl⟩
  have HR := Aside0.mk hR
  have HX := Aside0.mk hB
  have HK := Aside0.mk hk
  have HN := Aside0.mk hkn
  have HD := Aside0.mk hbad
  have HE := Aside0.mk hnn
  have HM := Aside0.mk hn
  obtain ⟨r, hr⟩ : ∃ r : Int, r = (if k = n then -1 else (k : Int)) := ⟨_, rfl⟩
  have HRR := Aside0.mk hr
  clear hR hB hk hkn hbad hn
  rw [← hnn, ← hr]
  clear hnn hr
  go_enter Try.func29, Try.ntmps29
  go_wp2
  go_loopg [4, 5, 8] n (fun gg v4 v5 v8 wr => ∃ j : Nat, v8 = .int .i64 (j : Int) ∧ j ≤ k ∧ n - j ≤ gg ∧ Aside0 (Below w.heap.size w wr))
  case atStart => exact ⟨0, rfl, Nat.zero_le _, Nat.le_refl _, ⟨Below.refl _ _⟩⟩
  case round =>
    obtain ⟨j, rfl, hj, hm, HBl⟩ := hrel
    by_cases hjn : j < n
    · have c1 : decide ((j : Int) < (n : Int)) = true := decide_eq_true (by omega)
      have p1 : (0 : Int) ≤ (j : Int) := by omega
      have p2 : (j : Int) < (n : Int) := by omega
      have hjx : j < xs.length := by rw [← HE.out]; exact hjn
      have hx : xs[j]? = some xs[j] := List.getElem?_eq_getElem hjx
      have k1 := (HR.out.here HBl.out).2 j _ hx
      have HC := Aside0.mk (some1.calls gc gs gr b xs[j] wr (HX.out.here HBl.out))
      have HG := Aside0.mk (show (j < k ∧ good4 xs[j] = true) ∨ (j = k ∧ good4 xs[j] = false) by
        rcases Nat.lt_or_ge j k with h | h
        · exact .inl ⟨h, HK.out j _ h hx⟩
        · obtain rfl : j = k := by omega
          exact .inr ⟨rfl, HD.out _ hx⟩)
      clear hx
      generalize xs[j] = x at k1 HC HG
      have k2 := k1.1
      clear k1 hjx
      have HW := Aside0.mk (show wrap64 ((j : Int) + 1) = ((j + 1 : Nat) : Int) by unfold wrap64; have := HM.out; have := HE.out; omega)
      rcases HG.out with ⟨hlt, hg⟩ | ⟨heq, hg⟩
      · rw [hg] at HC
        clear hg HG
        go_wp2_with (first | (go_at_call 22; refine HC.out.mono ?_; rintro e w1 ⟨rfl, hb⟩; have B1 := Aside0.mk hb; clear hb))
        rw [HW.out]
        go_roundg (n - (j + 1))
        case measure => omega
        case rel => exact ⟨j + 1, rfl, hlt, Nat.le_refl _, ⟨HBl.out.trans (B1.out.mono HBl.out.size)⟩⟩
      · rw [hg] at HC
        have HQ := Aside0.mk heq
        clear hg HG heq
        go_wp2_with (first | (go_at_call 22; refine HC.out.mono ?_; rintro e w1 ⟨rfl, hb⟩; have B1 := Aside0.mk hb; clear hb))
        go_ret
        refine ⟨?_, HBl.out.trans (B1.out.mono HBl.out.size)⟩
        have h1 := HE.out
        have h2 := HQ.out
        rw [HRR.out, if_neg (by omega), ← h2]
        rfl
    · have c1 : decide ((j : Int) < (n : Int)) = false := decide_eq_false (by omega)
      have HKK := Aside0.mk (show k = n by have := HN.out; have := HE.out; omega)
      go_wp2
      go_ret
      refine ⟨?_, HBl.out⟩
      rw [HRR.out, if_pos HKK.out]
      rfl
theorem spread1.calls (gc gs gr b : Nat) (q : Int) (w : World) (hB : Box w b gc gs gr) : Calls Try.prog 18 #[.int .i64 q, .pointer (some ⟨b, 0, none⟩)] w fun e w' => e = .returned (.bool (!good4 q)) ∧ Below w.heap.size w w' := by
  have C1 := Aside0.mk (inst_Pick.calls gc gs gr q)
  have h0 := hB.c0
  have h1 := hB.c1
  have h2 := hB.c2
  have h3 := hB.c3
  have key : (!good4 q) = ((if good4 q = true then q else 0) == 0) := by
    unfold good4
    by_cases c : 1 ≤ q ∧ q ≤ 4
    · rw [decide_eq_true c, if_pos rfl]
      have : (q == 0) = false := beq_eq_false_iff_ne.2 (by omega)
      rw [this]; rfl
    · rw [decide_eq_false c, if_neg (by decide)]; rfl
  rw [key]
  generalize (if good4 q = true then q else 0) = z at C1 ⊢
  clear key hB
  go_enter Try.func18, Try.ntmps18
  go_wp2_with (first | (go_at_call 19; with_reducible refine (C1.out _).mono ?_; rintro e w1 ⟨rfl, hb⟩; have B1 := Aside0.mk hb; clear hb))
  go_ret
  exact ⟨rfl, B1.out⟩
theorem IndexFunc_spread1.calls (gc gs gr b : Nat) (xs : List Int) (g cap k : Nat) (w : World) (hR : RowZ w g xs) (hB : Box w b gc gs gr) (hn : xs.length ≤ 1000) (hk : ∀ i x, i < k → xs[i]? = some x → good4 x = true) (hkn : k ≤ xs.length) (hbad : ∀ x, xs[k]? = some x → good4 x = false) :
    Calls Try.prog 29 #[.slice (some ⟨g, 0, none⟩) xs.length cap, .func (.func 18) #[] #[.pointer (some ⟨b, 0, none⟩)]] w fun e w' => e = .returned (.int .i64 (if k = xs.length then -1 else (k : Int))) ∧ Below w.heap.size w w' := by
  obtain ⟨n, hnn⟩ : ∃ n, n = xs.length := ⟨_, rfl⟩
  have HR := Aside0.mk hR
  have HX := Aside0.mk hB
  have HK := Aside0.mk hk
  have HN := Aside0.mk hkn
  have HD := Aside0.mk hbad
  have HE := Aside0.mk hnn
  have HM := Aside0.mk hn
  obtain ⟨r, hr⟩ : ∃ r : Int, r = (if k = n then -1 else (k : Int)) := ⟨_, rfl⟩
  have HRR := Aside0.mk hr
  clear hR hB hk hkn hbad hn
  rw [← hnn, ← hr]
  clear hnn hr
  go_enter Try.func29, Try.ntmps29
  go_wp2
  go_loopg [4, 5, 8] n (fun gg v4 v5 v8 wr => ∃ j : Nat, v8 = .int .i64 (j : Int) ∧ j ≤ k ∧ n - j ≤ gg ∧ Aside0 (Below w.heap.size w wr))
  case atStart => exact ⟨0, rfl, Nat.zero_le _, Nat.le_refl _, ⟨Below.refl _ _⟩⟩
  case round =>
    obtain ⟨j, rfl, hj, hm, HBl⟩ := hrel
    by_cases hjn : j < n
    · have c1 : decide ((j : Int) < (n : Int)) = true := decide_eq_true (by omega)
      have p1 : (0 : Int) ≤ (j : Int) := by omega
      have p2 : (j : Int) < (n : Int) := by omega
      have hjx : j < xs.length := by rw [← HE.out]; exact hjn
      have hx : xs[j]? = some xs[j] := List.getElem?_eq_getElem hjx
      have k1 := (HR.out.here HBl.out).2 j _ hx
      have HC := Aside0.mk (spread1.calls gc gs gr b xs[j] wr (HX.out.here HBl.out))
      have HG := Aside0.mk (show (j < k ∧ good4 xs[j] = true) ∨ (j = k ∧ good4 xs[j] = false) by
        rcases Nat.lt_or_ge j k with h | h
        · exact .inl ⟨h, HK.out j _ h hx⟩
        · obtain rfl : j = k := by omega
          exact .inr ⟨rfl, HD.out _ hx⟩)
      clear hx
      generalize xs[j] = x at k1 HC HG
      have k2 := k1.1
      clear k1 hjx
      have HW := Aside0.mk (show wrap64 ((j : Int) + 1) = ((j + 1 : Nat) : Int) by unfold wrap64; have := HM.out; have := HE.out; omega)
      rcases HG.out with ⟨hlt, hg⟩ | ⟨heq, hg⟩
      · rw [hg] at HC
        clear hg HG
        go_wp2_with (first | (go_at_call 18; refine HC.out.mono ?_; rintro e w1 ⟨rfl, hb⟩; have B1 := Aside0.mk hb; clear hb))
        rw [HW.out]
        go_roundg (n - (j + 1))
        case measure => omega
        case rel => exact ⟨j + 1, rfl, hlt, Nat.le_refl _, ⟨HBl.out.trans (B1.out.mono HBl.out.size)⟩⟩
      · rw [hg] at HC
        have HQ := Aside0.mk heq
        clear hg HG heq
        go_wp2_with (first | (go_at_call 18; refine HC.out.mono ?_; rintro e w1 ⟨rfl, hb⟩; have B1 := Aside0.mk hb; clear hb))
        go_ret
        refine ⟨?_, HBl.out.trans (B1.out.mono HBl.out.size)⟩
        have h1 := HE.out
        have h2 := HQ.out
        rw [HRR.out, if_neg (by omega), ← h2]
        rfl
    · have c1 : decide ((j : Int) < (n : Int)) = false := decide_eq_false (by omega)
      have HKK := Aside0.mk (show k = n by have := HN.out; have := HE.out; omega)
      go_wp2
      go_ret
      refine ⟨?_, HBl.out⟩
      rw [HRR.out, if_pos HKK.out]
      rfl
end Go.Proofs.Ytlpjankfedhhjaa.P
