/- The stable sort of a short row of whole numbers: the insertion sort, by the shelf's contract. -/
import Derived.Test.YtajblfmabokgkaaOrder
import Derived.Shelf.SlSortCmp.Insertion1
namespace Go.Proofs.Ytajblfmabokgkaa.P
open Go.Proofs.YtajblfmabokgkaaR
open Go.Shelf Go.Sort
open Go.RowKit Go.Proofs.YtajblfmabokgkaaW.PrintWords Go.Proofs.YtajblfmabokgkaaW.PrintLast Go.Proofs.YtajblfmabokgkaaW.PrintMore
set_option linter.unusedVariables false
set_option linter.unusedSimpArgs false
set_option maxHeartbeats 8000000
set_option maxRecDepth 100000
def ren : Ren := ⟨fun x => if x = 20 then 36 else x, fun x => if x = 22 then 29 else if x = 25 then 45 else if x = 24 then 3 else x, fun x => x⟩
theorem lays20 : SlLaysF.n20 Try.prog ren where
  mixed := by kernel_rfl
  f20 := ⟨"slices.insertionSortCmpFunc[int]", by decide, by kernel_rfl⟩
  t0 := by kernel_rfl
  a0 := fun w => by kernel_rfl
  z0 := fun w => by kernel_rfl
  v0 := fun w => by kernel_rfl
  t3 := by kernel_rfl
  a3 := fun w => by kernel_rfl
  z3 := fun w => by kernel_rfl
  v3 := fun w => by kernel_rfl
  t4 := by kernel_rfl
  a4 := fun w => by kernel_rfl
  z4 := fun w => by kernel_rfl
  v4 := fun w => by kernel_rfl
  t22 := by kernel_rfl
  a22 := fun w => by kernel_rfl
  z22 := fun w => by kernel_rfl
  v22 := fun w => by kernel_rfl
  a24 := fun w => by kernel_rfl
  z24 := fun w => by kernel_rfl
  t25 := by kernel_rfl
  a25 := fun w => by kernel_rfl
  z25 := fun w => by kernel_rfl
  v25 := fun w => by kernel_rfl
theorem slices_stableCmpFunc.small {α : Type} [Inhabited α] (enc : α → Value) (cf : α → α → Int) (g : Nat) (cb : Array Value) (blk cap : Nat) (d : Array α) (w : World)
    (eg : ∀ args w, (callFunc g args).run Try.prog w = .ok (.enter g args) w) (hcmp : CmpLays1 Try.prog g cb enc cf blk 0 d.size w) (R : Row1 enc w blk 0 d) (hs : d.size < 20) :
    Calls Try.prog 27 #[.slice (some ⟨blk, 0, none⟩) d.size cap, .int .i64 d.size, .func (.func g) #[] cb] w fun e w' => e = .returned (.tuple #[]) ∧ SW enc w blk 0 (Sort.insertionSort (ltOf cf) d 0 d.size) w' := by
  have C1 := Aside0.mk (Any.insertionSortCmpFunc_s lays20 enc cf g cb blk 0 cap 0 d.size d d w w eg hcmp R rfl (SW.start R.hH) (Nat.zero_le _) (Nat.le_refl _) (by omega))
  have c1 : decide ((20 : Int) ≤ (d.size : Int)) = false := by simp; omega
  have c2 : decide ((20 : Int) < (d.size : Int)) = false := by simp; omega
  have eg' := Aside0.mk eg
  clear hcmp R eg hs
  generalize d.size = n at C1 c1 c2 ⊢
  generalize Sort.insertionSort (ltOf cf) d 0 n = r at C1 ⊢
  go_enter Try.func27, Try.ntmps27
  go_wp2
  go_loopg [7, 8] 1 (fun gg v7 v8 wr => v7 = .int .i64 0 ∧ v8 = .int .i64 20 ∧ w = wr)
  case atStart => exact ⟨rfl, rfl, rfl⟩
  case round =>
    obtain ⟨rfl, rfl, rfl⟩ := hrel
    go_wp2_with (first | (go_at_call 36; refine C1.out.mono ?_; rintro e w1 ⟨rfl, hS⟩; have S1 := Aside0.mk hS; clear hS))
    go_loopg [6, 7, 8, 9] 1 (fun gg v6 v7 v8 v9 wr => v6 = .int .i64 20 ∧ Aside0 (SW enc w blk 0 r wr))
    case atStart => exact ⟨rfl, S1⟩
    case round =>
      clear S1
      obtain ⟨rfl, S1⟩ := hrel
      go_wp2
      go_end0
      exact ⟨rfl, S1.out⟩
end Go.Proofs.Ytajblfmabokgkaa.P
