/- What comes in, read as the print's kinds: numbers, structs, slices of them. -/
import Derived.Test.YtajblfmabokgkaaHelp
import Derived.Deep.Slices
import Derived.Deep.Fields
import Derived.ChangeSame
import Derived.SizedLaws
import Derived.ShutString
import Derived.ChangeOld
import Derived.WalkKit
import Derived.ProofKit
import Derived.OpenShut
namespace Go.Proofs.YtajblfmabokgkaaR
open Go Go.RowKit Go.ChangeShapes Go.WideShapes Go.Deep Go.Proofs.YtajblfmabokgkaaW.PrintWords

/-- Whatever reads at type t is of the kind d. -/
def ReadsAs {α : Type} (P : Program) (t : TypeId) (d : Kd α) (good : α → Prop) : Prop :=
  ∀ (H : Type) (enc : TypeId × Value → H) (w : World) (base : Nat) (spare : Nat → Bool) (held : Bool) (fuel : Nat) (cs : List Value) (x : DataW H × List MemPlace),
    DataW.trod enc P w base spare held fuel t cs = some x → ∃ y, d.K w y cs ∧ good y
theorem readsAs_int {P : Program} {t : TypeId} {k : IntKind} (ht : P.underlying t = some (.int k)) : ReadsAs P t (Kd.int k) (fun n => (Lit.int k n).wf = true) := by
  intro H enc w base spare held fuel cs x h
  obtain ⟨n, rfl, _, hw⟩ := DataW.trod_int ht h
  exact ⟨n, rfl, hw⟩
theorem readsAs_struct2 {α β γ : Type} {P : Program} {t : TypeId} {f0 f1 : Field} {a : Kd α} {b : Kd β} {g0 : α → Prop} {g1 : β → Prop} (f : γ → α × β) (mk : α × β → γ) (hf : ∀ p, f (mk p) = p)
    (ht : P.underlying t = some (.struct #[f0, f1])) (h0 : f0.offset = 0) (h1 : f1.offset = a.sz) (c0 : P.cellsOf f0.type = a.sz) (c1 : P.cellsOf f1.type = b.sz) (hC : P.cellsOf t = a.sz + b.sz)
    (r0 : ReadsAs P f0.type a g0) (r1 : ReadsAs P f1.type b g1) : ReadsAs P t (Kd.iso (Kd.pair a b) f) (fun y => g0 (f y).1 ∧ g1 (f y).2) := by
  intro H enc w base spare held fuel cs x h
  obtain ⟨xs, n, _, _, hlen, hxs, hg⟩ := DataW.trod_struct ht h
  match xs, hxs with
  | [y0, y1], _ =>
    have e0 := hg 0 f0 rfl
    have e1 := hg 1 f1 rfl
    rw [h0, c0, List.drop_zero] at e0
    rw [h1, c1] at e1
    obtain ⟨z0, k0, p0⟩ := r0 H enc w base spare held n _ _ e0
    obtain ⟨z1, k1, p1⟩ := r1 H enc w base spare held n _ _ e1
    refine ⟨mk (z0, z1), ?_, ?_⟩
    · show (Kd.pair a b).K w (f (mk (z0, z1))) cs
      rw [hf]
      refine ⟨_, _, ?_, k0, k1⟩
      rw [List.take_of_length_le (l := cs.drop a.sz) (by rw [List.length_drop, hlen, hC]; omega)]
      exact (List.take_append_drop _ _).symm
    · show g0 (f (mk (z0, z1))).1 ∧ g1 (f (mk (z0, z1))).2
      rw [hf]
      exact ⟨p0, p1⟩
theorem readsAs_struct3 {α β γ δ : Type} {P : Program} {t : TypeId} {f0 f1 f2 : Field} {a : Kd α} {b : Kd β} {c : Kd γ} {g0 : α → Prop} {g1 : β → Prop} {g2 : γ → Prop} (f : δ → α × β × γ) (mk : α × β × γ → δ) (hf : ∀ p, f (mk p) = p)
    (ht : P.underlying t = some (.struct #[f0, f1, f2])) (h0 : f0.offset = 0) (h1 : f1.offset = a.sz) (h2 : f2.offset = a.sz + b.sz) (c0 : P.cellsOf f0.type = a.sz) (c1 : P.cellsOf f1.type = b.sz) (c2 : P.cellsOf f2.type = c.sz) (hC : P.cellsOf t = a.sz + (b.sz + c.sz))
    (r0 : ReadsAs P f0.type a g0) (r1 : ReadsAs P f1.type b g1) (r2 : ReadsAs P f2.type c g2) : ReadsAs P t (Kd.iso (Kd.pair a (Kd.pair b c)) f) (fun y => g0 (f y).1 ∧ g1 (f y).2.1 ∧ g2 (f y).2.2) := by
  intro H enc w base spare held fuel cs x h
  obtain ⟨xs, n, _, _, hlen, hxs, hg⟩ := DataW.trod_struct ht h
  match xs, hxs with
  | [y0, y1, y2], _ =>
    have e0 := hg 0 f0 rfl
    have e1 := hg 1 f1 rfl
    have e2 := hg 2 f2 rfl
    rw [h0, c0, List.drop_zero] at e0
    rw [h1, c1] at e1
    rw [h2, c2] at e2
    obtain ⟨z0, k0, p0⟩ := r0 H enc w base spare held n _ _ e0
    obtain ⟨z1, k1, p1⟩ := r1 H enc w base spare held n _ _ e1
    obtain ⟨z2, k2, p2⟩ := r2 H enc w base spare held n _ _ e2
    refine ⟨mk (z0, z1, z2), ?_, ?_⟩
    · show (Kd.pair a (Kd.pair b c)).K w (f (mk (z0, z1, z2))) cs
      rw [hf]
      refine ⟨_, _, (List.take_append_drop a.sz cs).symm, k0, _, _, ?_, k1, k2⟩
      rw [List.take_of_length_le (l := cs.drop (a.sz + b.sz)) (by rw [List.length_drop, hlen, hC]; omega)]
      rw [← List.drop_drop]
      exact (List.take_append_drop _ _).symm
    · show g0 (f (mk (z0, z1, z2))).1 ∧ g1 (f (mk (z0, z1, z2))).2.1 ∧ g2 (f (mk (z0, z1, z2))).2.2
      rw [hf]
      exact ⟨p0, p1, p2⟩

/-- A parameter that is a struct. -/
theorem arg_struct {α : Type} {H : Type} {enc : TypeId × Value → H} {P : Program} {W : World} {base : Nat} {spare : Nat → Bool} {held : Bool} {r : Reach} {b0 : Nat} {t : TypeId} {fs : Array Field} {v : Value} {x : DataW H} {p : List MemPlace} {d : Kd α} {good : α → Prop}
    (hs : P.underlying t = some (.struct fs)) (hr : ReadsAs P t d good) (hv : Value.okWide P W r b0 t v) (h : DataW.Trod enc P W base spare held t v x p) : ∃ y cs, v = .agg ⟨cs⟩ ∧ d.K W y cs ∧ good y := by
  obtain ⟨cs, rfl, _⟩ := okWide_struct hs hv
  obtain ⟨fuel, hf⟩ := h
  obtain ⟨y, hk, hg⟩ := hr H enc W base spare held fuel _ _ hf
  exact ⟨y, cs.toList, rfl, hk, hg⟩
/-- A parameter that is a slice: its elements, of a kind; how long it may be. -/
theorem arg_slice {α : Type} {H : Type} {enc : TypeId × Value → H} {P : Program} {W : World} {base : Nat} {spare : Nat → Bool} {held : Bool} {r : Reach} {b0 : Nat} {t e : TypeId} {v : Value} {x : DataW H} {p : List MemPlace} {d : Kd α} {good : α → Prop}
    {ts : List TypeId} {ds : List (DataW H)} {j : Nat} (hsz : (DataW.weightsEach P ts ds).all (· ≤ reachBytes) = true) (htj : ts[j]? = some t) (hdj : ds[j]? = some x)
    (ht : P.underlying t = some (.slice e)) (hC : P.cellsOf e = d.sz) (hr : ReadsAs P e d good) (hv : Value.okWide P W r b0 t v) (h : DataW.Trod enc P W base spare held t v x p) :
    ∃ (A : Option Addr) (c : Nat) (xs : List α), v = .slice A xs.length c ∧ xs.length ≤ c ∧ d.C W A xs.length xs ∧ (∀ y ∈ xs, good y) ∧ xs.length * P.bytesOf e ≤ reachBytes := by
  obtain ⟨a0, len0, cap0, rfl⟩ := okWide_slice ht hv
  obtain ⟨fuel, hf⟩ := h
  rcases open_slice ht hf with ⟨hcs, _⟩ | ⟨a, len, cap, m, n, D, Pl, hcs, _, hl, hm, hmm, hx, hi⟩
  · simp [Value.cells] at hcs
    obtain ⟨rfl, rfl, rfl⟩ := hcs
    exact ⟨none, 0, [], rfl, Nat.le_refl _, ⟨rfl, by simp, fun h => absurd h (by simp)⟩, fun y hy => by simp at hy, by simp⟩
  · simp [Value.cells] at hcs
    obtain ⟨rfl, rfl, rfl⟩ := hcs
    simp only [Prod.mk.injEq] at hx
    obtain ⟨rfl, _⟩ := hx
    have hlm : len0 ≤ m := by rw [hmm]; split <;> omega
    have hel : ∀ i, i < len0 → ∃ y cs, d.K W y cs ∧ good y ∧ cs.length = d.sz ∧ ∀ k u, cs[k]? = some u → W.cell? (a.add (i * d.sz + k)) = some u := by
      intro i hlt
      obtain ⟨cs', hc, ht'⟩ := hi i (by omega)
      obtain ⟨y, hk, hg⟩ := hr H enc W base spare held n _ _ ht'
      obtain ⟨_, hcl, hat⟩ := World.cells?_some hc
      rw [hC] at hcl hat
      refine ⟨y, cs', hk, hg, hcl, fun k u hu => ?_⟩
      have hk' : k < d.sz := by
        rcases Nat.lt_or_ge k cs'.length with h | h
        · omega
        · rw [List.getElem?_eq_none h] at hu; cases hu
      have := hat k hk'
      rw [← Go.Deep.add_add, this, hu]
    have hex : ∃ xs : List α, xs.length = len0 ∧ ∀ i y, xs[i]? = some y → good y ∧ ∃ cs, d.K W y cs ∧ cs.length = d.sz ∧ ∀ k u, cs[k]? = some u → W.cell? (a.add (i * d.sz + k)) = some u := by
      clear hsz htj hdj hf hi hl hm hmm hlm hv
      induction len0 with
      | zero => exact ⟨[], rfl, fun i y h => by simp at h⟩
      | succ q ih =>
        obtain ⟨xs, hlen, hxs⟩ := ih (fun i hlt => hel i (by omega))
        obtain ⟨y, cs, hk, hg, hcl, hat⟩ := hel q (by omega)
        refine ⟨xs ++ [y], by simp [hlen], fun i z hz => ?_⟩
        rcases Nat.lt_or_ge i xs.length with h | h
        · rw [List.getElem?_append_left h] at hz
          exact hxs i z hz
        · rw [List.getElem?_append_right h] at hz
          have hi0 : i - xs.length = 0 := by
            rcases Nat.eq_zero_or_pos (i - xs.length) with h2 | h2
            · exact h2
            · rw [List.getElem?_eq_none (by simp only [List.length_singleton]; omega)] at hz; cases hz
          rw [hi0] at hz
          simp only [List.getElem?_cons_zero, Option.some.injEq] at hz
          subst hz
          have : i = q := by omega
          subst this
          exact ⟨hg, cs, hk, hcl, hat⟩
    obtain ⟨xs, rfl, hxs⟩ := hex
    refine ⟨some a, cap0, xs, rfl, hl, ⟨rfl, ?_, fun _ => ⟨a, rfl, fun i y hy => ?_⟩⟩, fun y hy => ?_, ?_⟩
    · have := hm
      unfold maxLen at this
      omega
    · obtain ⟨_, cs, hk, hcl, hat⟩ := hxs i y hy
      exact ⟨cs, hcl, hk, hat⟩
    · obtain ⟨i, hi'⟩ := List.mem_iff_getElem?.1 hy
      exact (hxs i y hi').1
    · have h1 := sized_slice hsz htj hdj ht
      simp only [List.length_map, List.length_range] at h1
      exact Nat.le_trans (Nat.mul_le_mul_right _ (Nat.le_add_right _ _)) h1
end Go.Proofs.YtajblfmabokgkaaR
