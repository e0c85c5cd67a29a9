/- Of all pairs of loads every answer is as said: the plain law. -/
import Derived.Test.YtocoapfnkkmkiaaPlain
import Derived.Test.YtocoapfnkkmkiaaP9
namespace Go.Proofs.Ytocoapfnkkmkiaa.P
open Go.Proofs.YtocoapfnkkmkiaaR
open Go.RowKit Go.Proofs.YtocoapfnkkmkiaaW.PrintWords Go.Proofs.YtocoapfnkkmkiaaW.PrintLast Go.Proofs.YtocoapfnkkmkiaaW.PrintMore
theorem loadTwo_true (a b : S23) : jitneylaw04_LoadTwo.f 2 a.f0 a.f1 b.f0 b.f1 = some true := by
  unfold jitneylaw04_LoadTwo.f jitneylaw04_alive.f
  simp only [Option.bind_some, if_true]
  rw [add_is, refAdd_is, neg_is, May.is]
  simp only [Option.bind_some]
  have fin : ∀ (k : Nat) (x y : Bool) (p q : Int), jitneylaw04_LoadTwo.j0 (k + 1) x x false a.f0 a.f1 b.f0 b.f1 p q p q = some true := by
    intro k x y p q
    simp only [jitneylaw04_LoadTwo.j0]
    rw [right_is, refRight_is, fits_is, refFits_is]
    simp
  cases hm : mayB a.f0 a.f1 <;> simp only [Bool.false_eq_true, if_false, if_true]
  · exact fin _ _ true _ _
  · exact fin _ _ true _ _
theorem loadTwo_law (a b : S23) (_ : (Lit.int .i64 a.f0).wf = true ∧ (Lit.int .i64 a.f1).wf = true) (_ : (Lit.int .i64 b.f0).wf = true ∧ (Lit.int .i64 b.f1).wf = true) : ∃ k, jitneylaw04_LoadTwo.f k a.f0 a.f1 b.f0 b.f1 = some true := ⟨2, loadTwo_true a b⟩
end Go.Proofs.Ytocoapfnkkmkiaa.P
