/- slices.DeleteFunc at short rows (seat 17). -/
import Derived.Test.YtlpjankfedhhjaaSome
import Derived.Lib.EndianMore
namespace Go.Proofs.Ytlpjankfedhhjaa.P
open Go.Proofs.YtlpjankfedhhjaaR
open Go.Shelf Go.Sort
open Go.RowKit Go.Proofs.YtlpjankfedhhjaaW.PrintWords Go.Proofs.YtlpjankfedhhjaaW.PrintLast Go.Proofs.YtlpjankfedhhjaaW.PrintMore
set_option linter.unusedVariables false
set_option linter.unusedSimpArgs false
set_option maxHeartbeats 8000000
set_option maxRecDepth 100000
theorem RowZ.take {w : World} {g : Nat} {xs : List Int} (h : RowZ w g xs) (n : Nat) : RowZ w g (xs.take n) := by
  refine ⟨h.1, fun i x hx => h.2 i x ?_⟩
  rw [List.getElem?_take] at hx
  split at hx
  · exact hx
  · cases hx
theorem DeleteFunc_some1.whole (gc gs gr b : Nat) (xs : List Int) (g cap : Nat) (w : World) (hR : RowZ w g xs) (hB : Box w b gc gs gr) (hn : xs.length ≤ 1000) (hk : ∀ i x, i < xs.length → xs[i]? = some x → good4 x = true) :
    Calls Try.prog 17 #[.slice (some ⟨g, 0, none⟩) xs.length cap, .func (.func 22) #[] #[.pointer (some ⟨b, 0, none⟩)]] w fun e w' => e = .returned (.slice (some ⟨g, 0, none⟩) xs.length cap) ∧ Below w.heap.size w w' := by
  have C1 := Aside0.mk (IndexFunc_some1.calls gc gs gr b xs g cap xs.length w hR hB hn hk (Nat.le_refl _) (fun x hx => by rw [List.getElem?_eq_none (Nat.le_refl _)] at hx; cases hx))
  rw [if_pos rfl] at C1
  clear hR hB hn hk
  generalize xs.length = n at C1 ⊢
  go_enter Try.func17, Try.ntmps17
  go_wp2_with (first | (go_at_call 29; refine C1.out.mono ?_; rintro e w1 ⟨rfl, hb⟩; have B1 := Aside0.mk hb; clear hb))
  go_ret
  exact ⟨rfl, B1.out⟩
theorem DeleteFunc_some1.last (gc gs gr b : Nat) (xs : List Int) (g cap : Nat) (w : World) (hR : RowZ w g xs) (hB : Box w b gc gs gr) (hk : ∀ i x, i < 5 → xs[i]? = some x → good4 x = true) (hkn : xs.length = 6) (hbad : ∀ x, xs[5]? = some x → good4 x = false) (hcap : 6 ≤ cap) :
    Calls Try.prog 17 #[.slice (some ⟨g, 0, none⟩) 6 cap, .func (.func 22) #[] #[.pointer (some ⟨b, 0, none⟩)]] w fun e w' => e = .returned (.slice (some ⟨g, 0, none⟩) 5 cap) ∧ ∃ w1, Below w.heap.size w w1 ∧ w' = w1.setCell ⟨g, 5, none⟩ (.int .i64 0) := by
  have C1 := Aside0.mk (IndexFunc_some1.calls gc gs gr b xs g cap 5 w hR hB (by omega) hk (by omega) hbad)
  rw [if_neg (by omega), hkn] at C1
  have HR := Aside0.mk hR
  have HN := Aside0.mk hkn
  have HCp := Aside0.mk hcap
  have n1 : ((6 : Nat) : Int) = 6 := rfl
  have n2 : ((5 : Nat) : Int) = 5 := rfl
  rw [n2] at C1
  clear hR hB hk hbad hcap n1 n2 hkn
  go_enter Try.func17, Try.ntmps17
  go_wp2_with (first | (go_at_call 29; refine C1.out.mono ?_; rintro e w1 ⟨rfl, hb⟩; have B1 := Aside0.mk hb; clear hb))
  go_loopg [5, 6, 7] 1 (fun gg v5 v6 v7 wr => v5 = .int .i64 5 ∧ v6 = .int .i64 6 ∧ w1 = wr)
  case atStart => exact ⟨rfl, rfl, rfl⟩
  case round =>
    obtain ⟨rfl, rfl, rfl⟩ := hrel
    have HR1 := Aside0.mk (HR.out.here B1.out)
    have hcell : ∃ x, w1.cell? ⟨g, 5, none⟩ = some (.int .i64 x) ∧ w1.frozen? ⟨g, 5, none⟩ = false := by
      have hl := HN.out
      exact ⟨xs[5]'(by omega), HR1.out.2 5 _ (List.getElem?_eq_getElem (by omega))⟩
    have hcl : ∀ ty, (Builtin.clear_ #[22] ty #[.slice (some ⟨g, 5, none⟩) 1 (cap - 5)]).run Try.prog w1 = .ok (.tuple #[]) (w1.setCells g 5 (List.replicate 1 (.int .i64 0))) := fun ty => by
      obtain ⟨x, h1, h2⟩ := hcell
      refine Lib.run_clear_slice w1 22 3 ty (.int .i64 0) Try.underlying22 (fun w => by kernel_rfl) rfl rfl g 5 1 _ (by decide) (fun j hj => ?_) (fun j hj => ?_)
      · obtain rfl : j = 0 := by omega
        rw [Nat.add_zero, h1]; rfl
      · obtain rfl : j = 0 := by omega
        rw [Nat.add_zero, h2]
    have HCL := Aside0.mk (show w1.setCells g 5 (List.replicate 1 (.int .i64 0)) = w1.setCell ⟨g, 5, none⟩ (.int .i64 0) from rfl)
    generalize w1.setCells g 5 (List.replicate 1 (.int .i64 0)) = w2 at hcl HCL
    clear hcell
    have p3 : (6 : Int) ≤ (cap : Int) := by have := HCp.out; omega
    have p4 : (5 : Int) ≤ (cap : Int) := by omega
    have p5 : ¬ cap = 5 := by omega
    have p6 : ¬ cap - 5 = 0 := by omega
    go_wp2
    go_ret
    exact ⟨rfl, w1, B1.out, HCL.out⟩
theorem DeleteFunc_spread1.whole (gc gs gr b : Nat) (xs : List Int) (g cap : Nat) (w : World) (hR : RowZ w g xs) (hB : Box w b gc gs gr) (hn : xs.length ≤ 1000) (hk : ∀ i x, i < xs.length → xs[i]? = some x → good4 x = true) :
    Calls Try.prog 17 #[.slice (some ⟨g, 0, none⟩) xs.length cap, .func (.func 18) #[] #[.pointer (some ⟨b, 0, none⟩)]] w fun e w' => e = .returned (.slice (some ⟨g, 0, none⟩) xs.length cap) ∧ Below w.heap.size w w' := by
  have C1 := Aside0.mk (IndexFunc_spread1.calls gc gs gr b xs g cap xs.length w hR hB hn hk (Nat.le_refl _) (fun x hx => by rw [List.getElem?_eq_none (Nat.le_refl _)] at hx; cases hx))
  rw [if_pos rfl] at C1
  clear hR hB hn hk
  generalize xs.length = n at C1 ⊢
  go_enter Try.func17, Try.ntmps17
  go_wp2_with (first | (go_at_call 29; refine C1.out.mono ?_; rintro e w1 ⟨rfl, hb⟩; have B1 := Aside0.mk hb; clear hb))
  go_ret
  exact ⟨rfl, B1.out⟩
theorem DeleteFunc_spread1.last (gc gs gr b : Nat) (xs : List Int) (g cap : Nat) (w : World) (hR : RowZ w g xs) (hB : Box w b gc gs gr) (hk : ∀ i x, i < 2 → xs[i]? = some x → good4 x = true) (hkn : xs.length = 3) (hbad : ∀ x, xs[2]? = some x → good4 x = false) (hcap : 3 ≤ cap) :
    Calls Try.prog 17 #[.slice (some ⟨g, 0, none⟩) 3 cap, .func (.func 18) #[] #[.pointer (some ⟨b, 0, none⟩)]] w fun e w' => e = .returned (.slice (some ⟨g, 0, none⟩) 2 cap) ∧ ∃ w1, Below w.heap.size w w1 ∧ w' = w1.setCell ⟨g, 2, none⟩ (.int .i64 0) := by
  have C1 := Aside0.mk (IndexFunc_spread1.calls gc gs gr b xs g cap 2 w hR hB (by omega) hk (by omega) hbad)
  rw [if_neg (by omega), hkn] at C1
  have HR := Aside0.mk hR
  have HN := Aside0.mk hkn
  have HCp := Aside0.mk hcap
  have n1 : ((3 : Nat) : Int) = 3 := rfl
  have n2 : ((2 : Nat) : Int) = 2 := rfl
  rw [n2] at C1
  clear hR hB hk hbad hcap n1 n2 hkn
  go_enter Try.func17, Try.ntmps17
  go_wp2_with (first | (go_at_call 29; refine C1.out.mono ?_; rintro e w1 ⟨rfl, hb⟩; have B1 := Aside0.mk hb; clear hb))
  go_loopg [5, 6, 7] 1 (fun gg v5 v6 v7 wr => v5 = .int .i64 2 ∧ v6 = .int .i64 3 ∧ w1 = wr)
  case atStart => exact ⟨rfl, rfl, rfl⟩
  case round =>
    obtain ⟨rfl, rfl, rfl⟩ := hrel
    have HR1 := Aside0.mk (HR.out.here B1.out)
    have hcell : ∃ x, w1.cell? ⟨g, 2, none⟩ = some (.int .i64 x) ∧ w1.frozen? ⟨g, 2, none⟩ = false := by
      have hl := HN.out
      exact ⟨xs[2]'(by omega), HR1.out.2 2 _ (List.getElem?_eq_getElem (by omega))⟩
    have hcl : ∀ ty, (Builtin.clear_ #[22] ty #[.slice (some ⟨g, 2, none⟩) 1 (cap - 2)]).run Try.prog w1 = .ok (.tuple #[]) (w1.setCells g 2 (List.replicate 1 (.int .i64 0))) := fun ty => by
      obtain ⟨x, h1, h2⟩ := hcell
      refine Lib.run_clear_slice w1 22 3 ty (.int .i64 0) Try.underlying22 (fun w => by kernel_rfl) rfl rfl g 2 1 _ (by decide) (fun j hj => ?_) (fun j hj => ?_)
      · obtain rfl : j = 0 := by omega
        rw [Nat.add_zero, h1]; rfl
      · obtain rfl : j = 0 := by omega
        rw [Nat.add_zero, h2]
    have HCL := Aside0.mk (show w1.setCells g 2 (List.replicate 1 (.int .i64 0)) = w1.setCell ⟨g, 2, none⟩ (.int .i64 0) from rfl)
    generalize w1.setCells g 2 (List.replicate 1 (.int .i64 0)) = w2 at hcl HCL
    clear hcell
    have p3 : (3 : Int) ≤ (cap : Int) := by have := HCp.out; omega
    have p4 : (2 : Int) ≤ (cap : Int) := by omega
    have p5 : ¬ cap = 2 := by omega
    have p6 : ¬ cap - 2 = 0 := by omega
    go_wp2
    go_ret
    exact ⟨rfl, w1, B1.out, HCL.out⟩
end Go.Proofs.Ytlpjankfedhhjaa.P
