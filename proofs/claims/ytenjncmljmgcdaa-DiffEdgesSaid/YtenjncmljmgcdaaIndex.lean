/- The first place in a row at which a closure says yes. -/
import Derived.Test.YtenjncmljmgcdaaState
import Derived.Shelf.Abstract
namespace Go.Proofs.Ytenjncmljmgcdaa.P
open Go.Proofs.YtenjncmljmgcdaaR
open Go.RowKit Go.Proofs.YtenjncmljmgcdaaW.PrintWords Go.Proofs.YtenjncmljmgcdaaW.PrintLast Go.Proofs.YtenjncmljmgcdaaW.PrintMore
set_option linter.unusedVariables false
set_option linter.unusedSimpArgs false
set_option maxHeartbeats 8000000
set_option maxRecDepth 100000
theorem slices_IndexFunc_int64.calls (f : Nat) (cb : Array Value) (b : Int → Bool) (A : Option Addr) (c : Nat) (xs : List Int) (w : World) (eg : ∀ args w, (callFunc f args).run Try.prog w = .ok (.enter f args) w)
    (hcl : ∀ (W : World) (x : Int), Below w.heap.size w W → Calls Try.prog f (#[.int .i64 x] ++ cb) W fun e w' => e = .returned (.bool (b x)) ∧ Below W.heap.size W w') (hC : Kd.C (Kd.int .i64) w A xs.length xs) (hc : xs.length ≤ c) :
    Calls Try.prog 33 #[.slice A xs.length c, .func (.func f) #[] cb] w fun e w' => e = .returned (.int .i64 (firstAt (fun i => b (rd xs (i : Int))) xs.length)) ∧ Below w.heap.size w w' := by
  obtain ⟨n, hn⟩ : ∃ n, n = xs.length := ⟨_, rfl⟩
  rw [← hn] at hC hc ⊢
  have HN := Aside0.mk hC.2.1
  have HC := Aside0.mk hC
  have HCC := Aside0.mk hc
  have HL := Aside0.mk hcl
  have HX := Aside0.mk hn
  clear hcl hC hc hn
  go_enter Try.func33, Try.ntmps33
  go_wp2
  go_loopg [5, 8] n (fun gg v5 v8 wr => ∃ j : Nat, v8 = .int .i64 (j : Int) ∧ j ≤ n ∧ n - j ≤ gg ∧ Aside0 (∀ i, i < j → b (rd xs (i : Int)) = false) ∧ Aside0 (Below w.heap.size w wr))
  case atStart => exact ⟨0, rfl, Nat.zero_le _, Nat.le_refl _, ⟨fun i hi => absurd hi (Nat.not_lt_zero _)⟩, ⟨Below.refl _ _⟩⟩
  case round =>
    obtain ⟨j, rfl, hj, hm, K1, HB⟩ := hrel
    by_cases hjn : j < n
    · have c1 : decide ((j : Int) < (n : Int)) = true := by simp; omega
      have p1 : (0 : Int) ≤ (j : Int) := by omega
      have p2 : (j : Int) < (n : Int) := by omega
      have w1 : wrap64 ((j : Int) + 1) = (j : Int) + 1 := by have := HN.out; rw [HX.out] at hjn; unfold wrap64; omega
      obtain ⟨ad, rfl, h0⟩ := Kd.at_int HC.out (j : Int) p1 p2
      have h1 : wr.cell? (ad.add j) = some (.int .i64 (rd xs (j : Int))) := cell_below HB.out (by rw [Int.toNat_natCast] at h0; exact h0)
      clear h0
      have hl := HL.out wr (rd xs (j : Int)) HB.out
      have HS := Aside0.mk (fun h : b (rd xs (j : Int)) = false => show ∀ i, i < j + 1 → b (rd xs (i : Int)) = false from fun i hi => by
        by_cases e : i = j
        · subst e; exact h
        · exact K1.out i (by omega))
      have HH := Aside0.mk (fun h : b (rd xs (j : Int)) = true => firstAt_hit (fun i => b (rd xs (i : Int))) n j hjn h K1.out)
      generalize rd xs (j : Int) = x at hl HS h1 HH
      cases hb : b x with
      | true =>
        rw [hb] at hl
        have HLL := Aside0.mk hl
        clear hl
        go_wp2_with (first | (go_at_fn f; refine HLL.out.mono ?_; rintro e w2 ⟨rfl, hb2⟩; have HB2 := Aside0.mk (HB.out.trans (hb2.mono HB.out.size)); clear hb2))
        go_ret
        exact ⟨(by rw [HH.out hb]; first | done | rfl), HB2.out⟩
      | false =>
        rw [hb] at hl
        have HLL := Aside0.mk hl
        clear hl
        go_wp2_with (first | (go_at_fn f; refine HLL.out.mono ?_; rintro e w2 ⟨rfl, hb2⟩; have HB2 := Aside0.mk (HB.out.trans (hb2.mono HB.out.size)); clear hb2))
        go_roundg (n - (j + 1))
        case measure => omega
        case rel => exact ⟨j + 1, by first | rfl | go_num, by omega, Nat.le_refl _, ⟨HS.out hb⟩, HB2⟩
    · have c1 : decide ((j : Int) < (n : Int)) = false := by simp; omega
      have hjn' : j = n := by omega
      have hmiss := firstAt_miss (fun i => b (rd xs (i : Int))) n (fun i hi => K1.out i (by omega))
      have HM := Aside0.mk hmiss
      clear hmiss
      go_wp2
      go_ret
      exact ⟨(by rw [HM.out]; first | done | rfl), HB.out⟩
end Go.Proofs.Ytenjncmljmgcdaa.P
/- The first edge at which a closure says yes. -/
namespace Go.Proofs.Ytenjncmljmgcdaa.P
open Go.Proofs.YtenjncmljmgcdaaR
open Go.RowKit Go.Proofs.YtenjncmljmgcdaaW.PrintWords Go.Proofs.YtenjncmljmgcdaaW.PrintLast Go.Proofs.YtenjncmljmgcdaaW.PrintMore
set_option linter.unusedVariables false
set_option linter.unusedSimpArgs false
set_option maxHeartbeats 8000000
set_option maxRecDepth 100000
theorem slices_IndexFunc_Edge.calls (f : Nat) (cb : Array Value) (b : S42 → Bool) (A : Option Addr) (c : Nat) (xs : List S42) (w : World) (eg : ∀ args w, (callFunc f args).run Try.prog w = .ok (.enter f args) w)
    (hcl : ∀ (W : World) (x : S42), Below w.heap.size w W → Calls Try.prog f (#[.agg #[.int .i64 x.f0, .int .i64 x.f1, .int .i64 x.f2]] ++ cb) W fun e w' => e = .returned (.bool (b x)) ∧ Below W.heap.size W w') (hC : Kd.C k42 w A xs.length xs) (hc : xs.length ≤ c) :
    Calls Try.prog 32 #[.slice A xs.length c, .func (.func f) #[] cb] w fun e w' => e = .returned (.int .i64 (firstAt (fun i => b (rd_T42 xs (i : Int))) xs.length)) ∧ Below w.heap.size w w' := by
  obtain ⟨n, hn⟩ : ∃ n, n = xs.length := ⟨_, rfl⟩
  rw [← hn] at hC hc ⊢
  have HN := Aside0.mk hC.2.1
  have HC := Aside0.mk hC
  have HCC := Aside0.mk hc
  have HL := Aside0.mk hcl
  have HX := Aside0.mk hn
  clear hcl hC hc hn
  go_enter Try.func32, Try.ntmps32
  go_wp2
  go_loopg [5, 8] n (fun gg v5 v8 wr => ∃ j : Nat, v8 = .int .i64 (j : Int) ∧ j ≤ n ∧ n - j ≤ gg ∧ Aside0 (∀ i, i < j → b (rd_T42 xs (i : Int)) = false) ∧ Aside0 (Below w.heap.size w wr))
  case atStart => exact ⟨0, rfl, Nat.zero_le _, Nat.le_refl _, ⟨fun i hi => absurd hi (Nat.not_lt_zero _)⟩, ⟨Below.refl _ _⟩⟩
  case round =>
    obtain ⟨j, rfl, hj, hm, K1, HB⟩ := hrel
    by_cases hjn : j < n
    · have c1 : decide ((j : Int) < (n : Int)) = true := by simp; omega
      have p1 : (0 : Int) ≤ (j : Int) := by omega
      have p2 : (j : Int) < (n : Int) := by omega
      have w1 : wrap64 ((j : Int) + 1) = (j : Int) + 1 := by have := HN.out; rw [HX.out] at hjn; unfold wrap64; omega
      obtain ⟨ad, rfl, h0, g1, g2⟩ := at_T42 HC.out (j : Int) p1 p2
      rw [Int.toNat_natCast] at h0 g1 g2
      have h1 : wr.cell? (ad.add (j * 3)) = some (.int .i64 (rd_T42 xs (j : Int)).f0) := cell_below HB.out h0
      have h2 := cell_below HB.out g1
      have h3 := cell_below HB.out g2
      clear h0 g1 g2
      have hl := HL.out wr (rd_T42 xs (j : Int)) HB.out
      have HS := Aside0.mk (fun h : b (rd_T42 xs (j : Int)) = false => show ∀ i, i < j + 1 → b (rd_T42 xs (i : Int)) = false from fun i hi => by
        by_cases e : i = j
        · subst e; exact h
        · exact K1.out i (by omega))
      have HH := Aside0.mk (fun h : b (rd_T42 xs (j : Int)) = true => firstAt_hit (fun i => b (rd_T42 xs (i : Int))) n j hjn h K1.out)
      generalize rd_T42 xs (j : Int) = x at hl HS h1 h2 h3 HH
      cases hb : b x with
      | true =>
        rw [hb] at hl
        have HLL := Aside0.mk hl
        clear hl
        go_wp2_with (first | (go_at_fn f; refine HLL.out.mono ?_; rintro e w2 ⟨rfl, hb2⟩; have HB2 := Aside0.mk (HB.out.trans (hb2.mono HB.out.size)); clear hb2))
        go_ret
        exact ⟨(by rw [HH.out hb]; first | done | rfl), HB2.out⟩
      | false =>
        rw [hb] at hl
        have HLL := Aside0.mk hl
        clear hl
        go_wp2_with (first | (go_at_fn f; refine HLL.out.mono ?_; rintro e w2 ⟨rfl, hb2⟩; have HB2 := Aside0.mk (HB.out.trans (hb2.mono HB.out.size)); clear hb2))
        go_roundg (n - (j + 1))
        case measure => omega
        case rel => exact ⟨j + 1, by first | rfl | go_num, by omega, Nat.le_refl _, ⟨HS.out hb⟩, HB2⟩
    · have c1 : decide ((j : Int) < (n : Int)) = false := by simp; omega
      have hjn' : j = n := by omega
      have hmiss := firstAt_miss (fun i => b (rd_T42 xs (i : Int))) n (fun i hi => K1.out i (by omega))
      have HM := Aside0.mk hmiss
      clear hmiss
      go_wp2
      go_ret
      exact ⟨(by rw [HM.out]; first | done | rfl), HB.out⟩
end Go.Proofs.Ytenjncmljmgcdaa.P
/- What the closures of diff say, and Right, Holds, low. -/
namespace Go.Proofs.Ytenjncmljmgcdaa.P
open Go.Proofs.YtenjncmljmgcdaaR
open Go.Shelf Go.RowKit Go.Proofs.YtenjncmljmgcdaaW.PrintWords Go.Proofs.YtenjncmljmgcdaaW.PrintLast Go.Proofs.YtenjncmljmgcdaaW.PrintMore
set_option linter.unusedVariables false
set_option linter.unusedSimpArgs false
set_option maxHeartbeats 8000000
set_option maxRecDepth 100000
/-- An edge is wrong. -/
def badE (n : Int) (e : S42) : Bool := decide (e.f0 < 0) || decide (n ≤ e.f0) || decide (e.f1 < 0) || decide (n ≤ e.f1) || decide (e.f2 < -2199023255552) || decide (2199023255552 < e.f2)
theorem diff_Right_1.calls (n : Int) (g : Nat) (w : World) (hg : w.cell? ⟨g, 0, none⟩ = some (.int .i64 n)) (e : S42) :
    Calls Try.prog 22 (#[.agg #[.int .i64 e.f0, .int .i64 e.f1, .int .i64 e.f2]] ++ #[.pointer (some ⟨g, 0, none⟩)]) w fun e' w' => e' = .returned (.bool (badE n e)) ∧ Below w.heap.size w w' := by
  obtain ⟨a, b, x⟩ := e
  show Calls Try.prog 22 #[.agg #[.int .i64 a, .int .i64 b, .int .i64 x], .pointer (some ⟨g, 0, none⟩)] w fun e' w' => e' = .returned (.bool (decide (a < 0) || decide (n ≤ a) || decide (b < 0) || decide (n ≤ b) || decide (x < -2199023255552) || decide (2199023255552 < x))) ∧ Below w.heap.size w w'
  have hg2 : ∀ o : Obj, (w.alloc o).cell? ⟨g, 0, none⟩ = some (.int .i64 n) := fun o => cell_below (below_alloc (Below.refl _ _) o) hg
  clear hg
  cases d1 : decide (a < 0)
  · cases d2 : decide (n ≤ a)
    · cases d3 : decide (b < 0)
      · cases d4 : decide (n ≤ b)
        · cases d5 : decide (x < -2199023255552)
          · cases d6 : decide (2199023255552 < x)
            · go_enter Try.func22, Try.ntmps22
              go_wp2
              go_ret
              exact ⟨rfl, below_alloc (Below.refl _ _) _⟩
            · go_enter Try.func22, Try.ntmps22
              go_wp2
              go_ret
              exact ⟨rfl, below_alloc (Below.refl _ _) _⟩
          · go_enter Try.func22, Try.ntmps22
            go_wp2
            go_ret
            exact ⟨rfl, below_alloc (Below.refl _ _) _⟩
        · go_enter Try.func22, Try.ntmps22
          go_wp2
          go_ret
          exact ⟨rfl, below_alloc (Below.refl _ _) _⟩
      · go_enter Try.func22, Try.ntmps22
        go_wp2
        go_ret
        exact ⟨rfl, below_alloc (Below.refl _ _) _⟩
    · go_enter Try.func22, Try.ntmps22
      go_wp2
      go_ret
      exact ⟨rfl, below_alloc (Below.refl _ _) _⟩
  · go_enter Try.func22, Try.ntmps22
    go_wp2
    go_ret
    exact ⟨rfl, below_alloc (Below.refl _ _) _⟩
theorem slices_ContainsFunc_Edge.calls (f : Nat) (cb : Array Value) (b : S42 → Bool) (A : Option Addr) (c : Nat) (xs : List S42) (w : World) (eg : ∀ args w, (callFunc f args).run Try.prog w = .ok (.enter f args) w)
    (hcl : ∀ (W : World) (x : S42), Below w.heap.size w W → Calls Try.prog f (#[.agg #[.int .i64 x.f0, .int .i64 x.f1, .int .i64 x.f2]] ++ cb) W fun e w' => e = .returned (.bool (b x)) ∧ Below W.heap.size W w') (hC : Kd.C k42 w A xs.length xs) (hc : xs.length ≤ c) :
    Calls Try.prog 21 #[.slice A xs.length c, .func (.func f) #[] cb] w fun e w' => e = .returned (.bool (decide (0 ≤ firstAt (fun i => b (rd_T42 xs (i : Int))) xs.length))) ∧ Below w.heap.size w w' := by
  have C1 := Aside0.mk (slices_IndexFunc_Edge.calls f cb b A c xs w eg hcl hC hc)
  generalize firstAt (fun i => b (rd_T42 xs (i : Int))) xs.length = z at C1 ⊢
  clear hcl hC hc eg
  generalize xs.length = n at C1 ⊢
  go_enter Try.func21, Try.ntmps21
  go_wp2_with (first | (go_at_call 32; refine C1.out.mono ?_; rintro e w1 ⟨rfl, hb⟩; have B1 := Aside0.mk hb; clear hb))
  go_ret
  exact ⟨rfl, B1.out⟩
theorem slices_ContainsFunc_int64.calls (f : Nat) (cb : Array Value) (b : Int → Bool) (A : Option Addr) (c : Nat) (xs : List Int) (w : World) (eg : ∀ args w, (callFunc f args).run Try.prog w = .ok (.enter f args) w)
    (hcl : ∀ (W : World) (x : Int), Below w.heap.size w W → Calls Try.prog f (#[.int .i64 x] ++ cb) W fun e w' => e = .returned (.bool (b x)) ∧ Below W.heap.size W w') (hC : Kd.C (Kd.int .i64) w A xs.length xs) (hc : xs.length ≤ c) :
    Calls Try.prog 25 #[.slice A xs.length c, .func (.func f) #[] cb] w fun e w' => e = .returned (.bool (decide (0 ≤ firstAt (fun i => b (rd xs (i : Int))) xs.length))) ∧ Below w.heap.size w w' := by
  have C1 := Aside0.mk (slices_IndexFunc_int64.calls f cb b A c xs w eg hcl hC hc)
  generalize firstAt (fun i => b (rd xs (i : Int))) xs.length = z at C1 ⊢
  clear hcl hC hc eg
  generalize xs.length = n at C1 ⊢
  go_enter Try.func25, Try.ntmps25
  go_wp2_with (first | (go_at_call 33; refine C1.out.mono ?_; rintro e w1 ⟨rfl, hb⟩; have B1 := Aside0.mk hb; clear hb))
  go_ret
  exact ⟨rfl, B1.out⟩
/-- Some element says yes. -/
theorem firstAt_any {α : Type} (b : α → Bool) (r : Nat → α) (xs : List α) (h : ∀ (i : Nat) (x : α), xs[i]? = some x → r i = x) : decide (0 ≤ firstAt (fun i => b (r i)) xs.length) = xs.any b := by
  have key : (xs.any b = true ↔ ∃ i : Nat, i < xs.length ∧ b (r i) = true) := by
    rw [List.any_eq_true]
    constructor
    · rintro ⟨x, hx, hb⟩
      obtain ⟨i, hi⟩ := List.mem_iff_getElem?.1 hx
      exact ⟨i, (List.getElem?_eq_some_iff.1 hi).1, by rw [h i x hi]; exact hb⟩
    · rintro ⟨i, hi, hb⟩
      have := h i xs[i] (List.getElem?_eq_getElem hi)
      rw [this] at hb
      exact ⟨_, List.getElem_mem hi, hb⟩
  unfold firstAt
  cases hf : (List.range xs.length).find? fun i => b (r i) with
  | none =>
    have : xs.any b = false := by
      rw [Bool.eq_false_iff]
      intro hc
      obtain ⟨i, hi, hb⟩ := key.1 hc
      have := List.find?_eq_none.1 hf i (List.mem_range.2 hi)
      exact this hb
    rw [this]
    decide
  | some k =>
    have h1 := List.find?_some hf
    have h2 := List.mem_range.1 (List.mem_of_find?_eq_some hf)
    rw [key.2 ⟨k, h2, h1⟩]
    exact decide_eq_true (by show (0 : Int) ≤ (k : Int); omega)
theorem any_edge (b : S42 → Bool) (xs : List S42) : decide (0 ≤ firstAt (fun i => b (rd_T42 xs (i : Int))) xs.length) = xs.any b :=
  firstAt_any b (fun i => rd_T42 xs (i : Int)) xs fun i x h => by unfold rd_T42; rw [Int.toNat_natCast, List.getD_eq_getElem?_getD, h]; rfl
theorem any_int (b : Int → Bool) (xs : List Int) : decide (0 ≤ firstAt (fun i => b (rd xs (i : Int))) xs.length) = xs.any b :=
  firstAt_any b (fun i => rd xs (i : Int)) xs fun i x h => by unfold rd; rw [Int.toNat_natCast, List.getD_eq_getElem?_getD, h]; rfl
/-- Is a system right? -/
def rightB (n : Int) (es : List S42) : Bool := !(decide (n < 1) || decide (4098 < n) || decide (65536 < (es.length : Int))) && !es.any (badE n)
theorem diff_Right.runs (n : Int) (A : Option Addr) (c : Nat) (es : List S42) (w : World) (hC : Kd.C k42 w A es.length es) (hc : es.length ≤ c) :
    Calls Try.prog 11 #[.int .i64 n, .slice A es.length c] w fun e w' => e = .returned (.bool (rightB n es)) ∧ Below w.heap.size w w' := by
  have hW : Below w.heap.size w (w.alloc (.cells #[.int .i64 n] 3)) := below_alloc (Below.refl _ _) _
  have hcell : (w.alloc (.cells #[.int .i64 n] 3)).cell? ⟨w.heap.size, 0, none⟩ = some (.int .i64 n) := by simp
  have C1 := slices_ContainsFunc_Edge.calls 22 #[.pointer (some ⟨w.heap.size, 0, none⟩)] (badE n) A c es (w.alloc (.cells #[.int .i64 n] 3)) (enters_of Try.func22 (by kernel_rfl) rfl)
    (fun W x hb => diff_Right_1.calls n w.heap.size W (cell_below hb hcell) x) (Kd.C_below hC hW) hc
  rw [any_edge] at C1
  have C1 := Aside0.mk C1
  unfold rightB
  generalize es.any (badE n) = z at C1 ⊢
  clear hC hc hcell
  have HW := Aside0.mk hW
  clear hW
  generalize es.length = m at C1 ⊢
  cases d1 : decide (n < 1)
  · cases d2 : decide (4098 < n)
    · cases d3 : decide (65536 < (m : Int))
      · go_enter Try.func11, Try.ntmps11
        go_wp2_with (first | (go_at_call 21; refine C1.out.mono ?_; rintro e w1 ⟨rfl, hb⟩; have B1 := Aside0.mk hb; clear hb))
        go_ret
        exact ⟨rfl, HW.out.trans (B1.out.mono HW.out.size)⟩
      · go_enter Try.func11, Try.ntmps11
        go_wp2
        go_ret
        exact ⟨rfl, HW.out⟩
    · go_enter Try.func11, Try.ntmps11
      go_wp2
      go_ret
      exact ⟨rfl, HW.out⟩
  · go_enter Try.func11, Try.ntmps11
    go_wp2
    go_ret
    exact ⟨rfl, HW.out⟩
theorem diff_low_1.calls (z : Int) (g : Nat) (w : World) (hg : w.cell? ⟨g, 0, none⟩ = some (.int .i64 z)) (x : Int) :
    Calls Try.prog 34 (#[.int .i64 x] ++ #[.pointer (some ⟨g, 0, none⟩)]) w fun e' w' => e' = .returned (.bool (decide (x < z))) ∧ Below w.heap.size w w' := by
  show Calls Try.prog 34 #[.int .i64 x, .pointer (some ⟨g, 0, none⟩)] w fun e' w' => e' = .returned (.bool (decide (x < z))) ∧ Below w.heap.size w w'
  go_enter Try.func34, Try.ntmps34
  go_wp2
  go_ret
  exact ⟨rfl, Below.refl _ _⟩
theorem row_vec {w : World} {g n : Nat} {d : Int → Int} {t : TypeId} (h : w.heap[g]? = some (.cells (vecA n d) t (0, 0))) (hn : n ≤ 100000) : Kd.C (Kd.int .i64) w (some ⟨g, 0, none⟩) (vec n d).length (vec n d) := by
  refine C_of_rowAt (Kd.int .i64) (fun n => [.int .i64 n]) (fun _ => rfl) (fun _ _ => rfl) (by rw [vec_length]; omega) ?_
  have h2 := rowAt_of_blk h
  have e : ((vec n d).flatMap fun n => [Value.int .i64 n]) = (vecA n d).toList := by
    unfold vecA
    generalize vec n d = l
    induction l with
    | nil => rfl
    | cons x l ih => rw [List.flatMap_cons, ih]; rfl
  rw [e]
  exact h2
theorem rd_vec {n : Nat} (d : Int → Int) {i : Nat} (h : i < n) : rd (vec n d) (i : Int) = d (i : Int) := by
  unfold rd
  rw [Int.toNat_natCast, List.getD_eq_getElem?_getD, vec_at d h]
  rfl
theorem firstAt_congr {b b' : Nat → Bool} {n : Nat} (h : ∀ i, i < n → b i = b' i) : firstAt b n = firstAt b' n := by
  unfold firstAt
  have : (List.range n).find? b = (List.range n).find? b' := by
    have key : ∀ l : List Nat, (∀ i ∈ l, b i = b' i) → l.find? b = l.find? b' := by
      intro l
      induction l with
      | nil => intro _; rfl
      | cons x l ih =>
        intro hl
        rw [List.find?_cons, List.find?_cons, hl x List.mem_cons_self, ih fun i hi => hl i (List.mem_cons_of_mem _ hi)]
    exact key _ fun i hi => h i (List.mem_range.1 hi)
  rw [this]
theorem diff_low.calls {p gd gb : Nat} {A : Option Addr} {m c n : Nat} {d b : Int → Int} (hn : n ≤ 100000) (w : World) (hS : StAt w p gd gb A m c n d b) :
    Calls Try.prog 30 #[.pointer (some ⟨p, 0, none⟩)] w fun e w' => e = .returned (.int .i64 (low d n)) ∧ Below w.heap.size w w' := by
  obtain ⟨z, hz⟩ : ∃ z, z = -(n : Int) * 2199023255552 := ⟨_, rfl⟩
  obtain ⟨W, hW0⟩ : ∃ W, W = w.alloc (.cells #[.int .i64 z] 2) := ⟨_, rfl⟩
  have hW : Below w.heap.size w W := by rw [hW0]; exact below_alloc (Below.refl _ _) _
  have hcell : W.cell? ⟨w.heap.size, 0, none⟩ = some (.int .i64 z) := by rw [hW0]; simp
  have hS2 := hS.below hW
  have C1 := slices_IndexFunc_int64.calls 34 #[.pointer (some ⟨w.heap.size, 0, none⟩)] (fun x => decide (x < z)) (some ⟨gd, 0, none⟩) n (vec n d) W (enters_of Try.func34 (by kernel_rfl) rfl)
    (fun W2 x hb => diff_low_1.calls z w.heap.size W2 (cell_below hb hcell) x) (row_vec hS2.blkD hn) (by rw [vec_length]; exact Nat.le_refl _)
  rw [vec_length] at C1
  have e : firstAt (fun i => decide (rd (vec n d) (i : Int) < z)) n = low d n := by
    unfold low
    refine firstAt_congr fun i hi => ?_
    rw [rd_vec d hi, hz, show -(n : Int) * 2199023255552 = -(2199023255552 * (n : Int)) by omega]
  have e2 : firstAt (fun i => (fun x => decide (x < z)) (rd (vec n d) (i : Int))) n = low d n := e
  rw [e2] at C1
  have C1 := Aside0.mk C1
  generalize low d n = r at C1 ⊢
  have l1 : w.cell? ⟨p, 1, none⟩ = some (.slice (some ⟨gd, 0, none⟩) n n) := (blk_cell hS.blkP 1).trans rfl
  have l2 : W.cell? ⟨p, 1, none⟩ = some (.slice (some ⟨gd, 0, none⟩) n n) := (blk_cell hS2.blkP 1).trans rfl
  have w1 : wrap64 (-(n : Int)) = -(n : Int) := by unfold wrap64; omega
  have w2 : wrap64 (-(n : Int) * 2199023255552) = -(n : Int) * 2199023255552 := by unfold wrap64; omega
  have HW := Aside0.mk hW
  clear hW hcell hS hS2 e e2
  subst hW0
  subst hz
  go_enter Try.func30, Try.ntmps30
  go_wp2_with (first | (go_at_call 33; refine C1.out.mono ?_; rintro e w1 ⟨rfl, hb⟩; have B1 := Aside0.mk hb; clear hb))
  go_ret
  exact ⟨rfl, HW.out.trans (B1.out.mono HW.out.size)⟩
end Go.Proofs.Ytenjncmljmgcdaa.P
