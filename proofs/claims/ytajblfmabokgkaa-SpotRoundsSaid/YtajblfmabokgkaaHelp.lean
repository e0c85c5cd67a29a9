/- Small words beside the kit's print: rows whose cells are known; what a call leaves; the first place of a row. -/
import Derived.Test.YtajblfmabokgkaaWWords
import Derived.Test.YtajblfmabokgkaaReg
import Derived.Shelf.Abstract
namespace Go.Proofs.YtajblfmabokgkaaR
open Go Go.RowKit Go.Proofs.YtajblfmabokgkaaW.PrintWords
/-- the first place at which b says yes, from j on -/
def firstAt (b : Nat → Bool) (n : Nat) : Int := match (List.range n).find? b with | some i => (i : Int) | none => -1

theorem firstAt_hit (b : Nat → Bool) (n k : Nat) (hk : k < n) (hb : b k = true) (hm : ∀ j, j < k → b j = false) : firstAt b n = k := by
  unfold firstAt
  have : (List.range n).find? b = some k := by
    rw [List.find?_range_eq_some]
    simp [hk, hb]
    intro j hj
    simp [hm j hj]
  rw [this]
theorem firstAt_miss (b : Nat → Bool) (n : Nat) (hm : ∀ j, j < n → b j = false) : firstAt b n = -1 := by
  unfold firstAt
  have : (List.range n).find? b = none := by
    rw [List.find?_range_eq_none]
    intro j hj
    simp [hm j hj]
  rw [this]

theorem size_after {w w1 : World} {o : Obj} (hb : Below (w.alloc o).heap.size (w.alloc o) w1) : w.heap.size + 1 ≤ w1.heap.size := by
  have h1 := hb.size
  have h2 : (w.alloc o).heap.size = w.heap.size + 1 := by simp
  omega
theorem bcell' {W w1 : World} (hb : Below W.heap.size W w1) : (∀ b o, b < W.heap.size → w1.cell? ⟨b, o, none⟩ = W.cell? ⟨b, o, none⟩) ∧ (∀ b o, b < W.heap.size → w1.frozen? ⟨b, o, none⟩ = W.frozen? ⟨b, o, none⟩) :=
  ⟨fun b o h => hb.cell (p := ⟨b, o, none⟩) h, fun b o h => hb.frozen (p := ⟨b, o, none⟩) h⟩
theorem two {w : World} {g t : Nat} {x y : Value} (h : w.heap[g]? = some (.cells #[x, y] t (0, 0))) : w.cell? ⟨g, 0, none⟩ = some x ∧ w.cell? ⟨g, 1, none⟩ = some y ∧ w.frozen? ⟨g, 0, none⟩ = false ∧ w.frozen? ⟨g, 1, none⟩ = false :=
  ⟨(blk_cell h 0).trans rfl, (blk_cell h 1).trans rfl, blk_frozen h 0, blk_frozen h 1⟩

/-- All but block g is as it was, new blocks apart. -/
structure KeepW (w w' : World) (g : Nat) : Prop where
  os : w'.os = w.os
  tape : w'.tape = w.tape
  output : w'.output = w.output
  size : w.heap.size ≤ w'.heap.size
  block : ∀ i, i < w.heap.size → i ≠ g → w'.heap[i]? = w.heap[i]?

theorem KeepW.refl (w : World) (g : Nat) : KeepW w w g := ⟨rfl, rfl, rfl, Nat.le_refl _, fun _ _ _ => rfl⟩
theorem KeepW.trans {a b c : World} {g : Nat} (h : KeepW a b g) (k : KeepW b c g) : KeepW a c g :=
  ⟨k.os.trans h.os, k.tape.trans h.tape, k.output.trans h.output, Nat.le_trans h.size k.size, fun i hi hg => (k.block i (Nat.lt_of_lt_of_le hi h.size) hg).trans (h.block i hi hg)⟩
theorem KeepW.of_below {a b : World} (h : Below a.heap.size a b) (g : Nat) : KeepW a b g := ⟨h.os, h.tape, h.output, h.size, fun i hi _ => h.block i hi⟩
theorem KeepW.set (a : World) (g j : Nat) (u : Value) : KeepW a (a.setCell ⟨g, j, none⟩ u) g := ⟨rfl, rfl, rfl, by simp [World.setCell], fun i _ hg => Below.heap_setCell a ⟨g, j, none⟩ u i hg⟩
theorem KeepW.alloc (a : World) (o : Obj) (g : Nat) : KeepW a (a.alloc o) g := KeepW.of_below (below_alloc (Below.refl _ _) o) g
theorem KeepW.below {a b : World} {g B : Nat} (h : KeepW a b g) (hB : B ≤ a.heap.size) (hg : B ≤ g) : Below B a b := ⟨h.os, h.tape, h.output, h.size, fun i hi => h.block i (by omega) (by omega)⟩

theorem KeepW.cell {a b : World} {g : Nat} {p : Addr} {v : Value} (h : KeepW a b g) (hc : a.cell? p = some v) (hne : p.block ≠ g) : b.cell? p = some v :=
  keep_cell (show KeepBut a b g none from ⟨h.size, fun i hi hg _ => h.block i hi hg⟩) hc hne

/-! Rows whose cells are known, and kinds. -/
theorem flat_at {α : Type} (enc : α → List Value) (n : Nat) (hl : ∀ x, (enc x).length = n) : ∀ (xs : List α) (j i : Nat) (x : α) (v : Value), xs[j]? = some x → (enc x)[i]? = some v → (xs.flatMap enc)[j * n + i]? = some v := by
  intro xs
  induction xs with
  | nil => intro j i x v h; simp at h
  | cons y ys ih =>
    intro j i x v hj hi
    have hy := hl y
    cases j with
    | zero =>
      rw [List.getElem?_cons_zero] at hj
      cases hj
      rw [List.flatMap_cons, Nat.zero_mul, Nat.zero_add]
      have : i < (enc y).length := by
        rcases Nat.lt_or_ge i (enc y).length with h | h
        · exact h
        · rw [List.getElem?_eq_none h] at hi; cases hi
      rw [List.getElem?_append_left this]
      exact hi
    | succ j =>
      rw [List.getElem?_cons_succ] at hj
      rw [List.flatMap_cons, List.getElem?_append_right (by rw [hy, Nat.succ_mul]; omega)]
      rw [show (j + 1) * n + i - (enc y).length = j * n + i by rw [hy, Nat.succ_mul]; omega]
      exact ih j i x v hj hi
theorem flat_back {α : Type} (enc : α → List Value) (n : Nat) (hl : ∀ x, (enc x).length = n) : ∀ (xs : List α) (k : Nat) (v : Value), (xs.flatMap enc)[k]? = some v → ∃ j i x, k = j * n + i ∧ xs[j]? = some x ∧ (enc x)[i]? = some v := by
  intro xs
  induction xs with
  | nil => intro k v h; simp at h
  | cons y ys ih =>
    intro k v h
    rw [List.flatMap_cons] at h
    rcases Nat.lt_or_ge k (enc y).length with hk | hk
    · rw [List.getElem?_append_left hk] at h
      exact ⟨0, k, y, by omega, by simp, h⟩
    · rw [List.getElem?_append_right hk] at h
      obtain ⟨j, i, x, e, hj, hi⟩ := ih _ _ h
      refine ⟨j + 1, i, x, ?_, by simpa using hj, hi⟩
      rw [hl] at e hk
      rw [Nat.succ_mul]
      omega
theorem C_of_rowAt {α : Type} (d : Kd α) (enc : α → List Value) (hl : ∀ x, (enc x).length = d.sz) (hK : ∀ w x, d.K w x (enc x)) {w : World} {g : Nat} {xs : List α} (hm : xs.length ≤ 9223372036854775807) (h : RowAt w g (xs.flatMap enc)) :
    d.C w (some ⟨g, 0, none⟩) xs.length xs :=
  ⟨rfl, hm, fun _ => ⟨_, rfl, fun j p hj => ⟨enc p, hl p, hK w p, fun i u hi => by
    rw [add_plain']
    exact h _ _ (flat_at enc d.sz hl xs j i p u hj hi)⟩⟩⟩
where add_plain' {g j : Nat} : (⟨g, 0, none⟩ : Addr).add j = ⟨g, j, none⟩ := by unfold Addr.add; split <;> simp_all
theorem rowAt_of_R {α : Type} (d : Kd α) (enc : α → List Value) (hl : ∀ x, (enc x).length = d.sz) (hK : ∀ {w x cs}, d.K w x cs → cs = enc x) {e : Nat} {w1 : World} {base : Nat} {ok : Nat → Prop} {v : Value} {xs : List α} (h : d.R e w1 base ok v xs) (h0 : 0 < xs.length) :
    ∃ g c, v = .slice (some ⟨g, 0, none⟩) xs.length c ∧ xs.length ≤ c ∧ RowAt w1 g (xs.flatMap enc) := by
  obtain ⟨A, c, rfl, hc, hC⟩ := Kd.R_reads h
  obtain ⟨inner, ho⟩ := Kd.R_own h
  obtain ⟨g, cap, hv, _, _⟩ := ho.form h0
  injection hv with hA _ hcap
  subst hA
  refine ⟨g, c, rfl, hc, fun k u hk => ?_⟩
  obtain ⟨j, i, x, rfl, hj, hi⟩ := flat_back enc d.sz hl xs k u hk
  obtain ⟨ad, had, hcell⟩ := hC.2.2 h0
  cases had
  obtain ⟨cs, _, hx, hcs⟩ := hcell j x hj
  have e2 := hK hx
  subst e2
  have := hcs i u hi
  rwa [add_plain] at this
theorem rowAt_new (w : World) (cs : Array Value) (t : TypeId) : RowAt (w.alloc (.cells cs t (0, 0))) w.heap.size cs.toList := fun i v hv => by
  have h := blk_cell (blk_new w (.cells cs t (0, 0))) i
  rw [h]
  simpa using hv
theorem heap_alloc3_new (w : World) (A B C : Obj) : (((w.alloc A).alloc B).alloc C).heap[w.heap.size + 1 + 1]? = some C := by
  have h := heap_alloc_new ((w.alloc A).alloc B) C
  have e : ((w.alloc A).alloc B).heap.size = w.heap.size + 1 + 1 := by
    show ((w.heap.push A).push B).size = _
    simp
  rwa [e] at h
theorem rowAt_of_blk {w : World} {g : Nat} {cs : Array Value} {t : TypeId} (h : w.heap[g]? = some (.cells cs t (0, 0))) : RowAt w g cs.toList := fun i v hv => by
  rw [blk_cell h i]
  simpa using hv
end Go.Proofs.YtajblfmabokgkaaR
