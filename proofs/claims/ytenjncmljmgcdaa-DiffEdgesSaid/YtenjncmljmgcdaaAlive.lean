/- The document's example of layer 7 holds. -/
import Derived.Test.YtenjncmljmgcdaaHolds
import Derived.Test.YtenjncmljmgcdaaP5
import Derived.Test.YtenjncmljmgcdaaP9
namespace Go.Proofs.Ytenjncmljmgcdaa.P
open Go.Proofs.YtenjncmljmgcdaaR
open Go.Shelf Go.RowKit Go.Proofs.YtenjncmljmgcdaaW.PrintWords Go.Proofs.YtenjncmljmgcdaaW.PrintLast Go.Proofs.YtenjncmljmgcdaaW.PrintMore
set_option linter.unusedVariables false
set_option linter.unusedSimpArgs false
set_option maxHeartbeats 8000000
set_option maxRecDepth 100000
theorem ex1 : solveF 2 [⟨0, 1, 5⟩, ⟨1, 0, -6⟩] 0 = some ([], [0, 1], 0) := by decide +kernel
theorem ex2 : solveF 4 [⟨0, 2, 9⟩, ⟨1, 2, 3⟩] 0 = some ([0, 1152921504606846976, 9, 1152921504606846976], [], 0) := by decide +kernel
theorem ex3 : wayF 3 [⟨0, 1, 5⟩, ⟨0, 2, 9⟩, ⟨1, 2, 3⟩] 0 2 = some ([0, 2], 0) := by decide +kernel
theorem ex4 : wayF 2 [⟨0, 1, 5⟩, ⟨1, 0, -6⟩] 0 1 = some ([], 34) := by decide +kernel
theorem ex5 : wayF 4 [⟨0, 2, 9⟩, ⟨1, 2, 3⟩] 0 3 = some ([], 4) := by decide +kernel
theorem ex6 : solveF 0 [] 0 = some ([], [], 1) := by decide +kernel
theorem ex7 : holdsB [⟨0, 1, 5⟩] [0, 5] = true := by decide +kernel
theorem ex8 : holdsB [⟨0, 1, 5⟩] [0, 6] = false := by decide +kernel
theorem ex9 : rightB 2 [⟨0, 1, 5⟩, ⟨1, 0, -6⟩] = true := by decide +kernel
theorem ex10 : rightB 1 [⟨0, 1, 5⟩, ⟨1, 0, -6⟩, ⟨0, 2, 9⟩, ⟨1, 2, 3⟩] = false := by decide +kernel
theorem ex11 : jitneyref01_SameLongs.f 6 [0, 1152921504606846976, 9, 1152921504606846976] [0, 1152921504606846976, 9, 1152921504606846976] = some true := by decide +kernel
theorem ex12 : jitneyref01_SameInts.f 4 [0, 2] [0, 2] = some true := by decide +kernel
def esA : Array Value := #[.int .i64 0, .int .i64 1, .int .i64 5, .int .i64 1, .int .i64 0, .int .i64 (-6), .int .i64 0, .int .i64 2, .int .i64 9, .int .i64 1, .int .i64 2, .int .i64 3]
theorem add_at (g o k : Nat) : (⟨g, o, none⟩ : Addr).add k = ⟨g, o + k, none⟩ := by unfold Addr.add; split <;> simp_all
/-- Edges in a block, from a place on. -/
theorem C_es {w : World} {g off : Nat} {cs : Array Value} {t : TypeId} {xs : List S42} (h : w.heap[g]? = some (.cells cs t (0, 0))) (hl : xs.length ≤ 1000)
    (hcs : ∀ (j : Nat) (x : S42), xs[j]? = some x → cs[off + (j * 3 + 0)]? = some (.int .i64 x.f0) ∧ cs[off + (j * 3 + 1)]? = some (.int .i64 x.f1) ∧ cs[off + (j * 3 + 2)]? = some (.int .i64 x.f2)) : Kd.C k42 w (some ⟨g, off, none⟩) xs.length xs := by
  refine ⟨rfl, by omega, fun _ => ⟨_, rfl, fun j p hj => ⟨[.int .i64 p.f0, .int .i64 p.f1, .int .i64 p.f2], rfl, k42_mk w p, fun i u hi => ?_⟩⟩⟩
  obtain ⟨h1, h2, h3⟩ := hcs j p hj
  rw [add_at]
  show w.cell? ⟨g, off + (j * 3 + i), none⟩ = some u
  rw [blk_cell h]
  match i with
  | 0 => cases hi; exact h1
  | 1 => cases hi; exact h2
  | 2 => cases hi; exact h3
  | i + 3 => cases hi
theorem es_a {w : World} {g : Nat} (h : w.heap[g]? = some (.cells esA 42 (0, 0))) : Kd.C k42 w (some ⟨g, 0, none⟩) 2 [⟨0, 1, 5⟩, ⟨1, 0, -6⟩] :=
  C_es (xs := [⟨0, 1, 5⟩, ⟨1, 0, -6⟩]) h (by decide) fun j x hj => by
    match j with
    | 0 => cases hj; exact ⟨rfl, rfl, rfl⟩
    | 1 => cases hj; exact ⟨rfl, rfl, rfl⟩
    | j + 2 => cases hj
theorem es_b {w : World} {g : Nat} (h : w.heap[g]? = some (.cells esA 42 (0, 0))) : Kd.C k42 w (some ⟨g, 6, none⟩) 2 [⟨0, 2, 9⟩, ⟨1, 2, 3⟩] :=
  C_es (xs := [⟨0, 2, 9⟩, ⟨1, 2, 3⟩]) h (by decide) fun j x hj => by
    match j with
    | 0 => cases hj; exact ⟨rfl, rfl, rfl⟩
    | 1 => cases hj; exact ⟨rfl, rfl, rfl⟩
    | j + 2 => cases hj
theorem es_c {w : World} {g : Nat} (h : w.heap[g]? = some (.cells esA 42 (0, 0))) : Kd.C k42 w (some ⟨g, 0, none⟩) 1 [⟨0, 1, 5⟩] :=
  C_es (xs := [⟨0, 1, 5⟩]) h (by decide) fun j x hj => by
    match j with
    | 0 => cases hj; exact ⟨rfl, rfl, rfl⟩
    | j + 1 => cases hj
theorem es_d {w : World} {g : Nat} (h : w.heap[g]? = some (.cells esA 42 (0, 0))) : Kd.C k42 w (some ⟨g, 0, none⟩) 4 [⟨0, 1, 5⟩, ⟨1, 0, -6⟩, ⟨0, 2, 9⟩, ⟨1, 2, 3⟩] :=
  C_es (xs := [⟨0, 1, 5⟩, ⟨1, 0, -6⟩, ⟨0, 2, 9⟩, ⟨1, 2, 3⟩]) h (by decide) fun j x hj => by
    match j with
    | 0 => cases hj; exact ⟨rfl, rfl, rfl⟩
    | 1 => cases hj; exact ⟨rfl, rfl, rfl⟩
    | 2 => cases hj; exact ⟨rfl, rfl, rfl⟩
    | 3 => cases hj; exact ⟨rfl, rfl, rfl⟩
    | j + 4 => cases hj
def RowC (w : World) (v : Value) (xs : List Int) : Prop := ∃ A c, v = .slice A xs.length c ∧ xs.length ≤ c ∧ Kd.C (Kd.int .i64) w A xs.length xs
theorem RowC.below {w w1 : World} {v : Value} {xs : List Int} (h : RowC w v xs) (hb : Below w.heap.size w w1) : RowC w1 v xs := by
  obtain ⟨A, c, e, hc, hC⟩ := h
  exact ⟨A, c, e, hc, Kd.C_below hC hb⟩
theorem RowC.of_R {w : World} {e base : Nat} {ok : Nat → Prop} {v : Value} {xs : List Int} (h : Kd.R (Kd.int .i64) e w base ok v xs) : RowC w v xs := Kd.R_reads h
def pvWay : PV := ⟨fun v w => ∃ u, v = .tuple #[u, .int .i64 0] ∧ RowC w u [0, 2], fun ⟨u, e, h⟩ hb => ⟨u, e, h.below hb⟩⟩
def pvRow (xs : List Int) : PV := ⟨fun v w => RowC w v xs, fun h hb => h.below hb⟩
def pvEs3 : PV := ⟨fun v w => ∃ g, v = .slice (some ⟨g, 0, none⟩) 3 3 ∧ Kd.C k42 w (some ⟨g, 0, none⟩) 3 [⟨0, 1, 5⟩, ⟨0, 2, 9⟩, ⟨1, 2, 3⟩], fun ⟨g, e, h⟩ hb => ⟨g, e, Kd.C_below h hb⟩⟩
theorem row_i (w : World) (t : TypeId) (l : List Int) (hl : l.length ≤ 1000) : Kd.C (Kd.int .i64) (w.alloc (.cells (l.map fun n => .int .i64 n).toArray t (0, 0))) (some ⟨w.heap.size, 0, none⟩) l.length l := by
  refine C_of_rowAt (Kd.int .i64) (fun n => [.int .i64 n]) (fun _ => rfl) (fun _ _ => rfl) (by omega) ?_
  have h := rowAt_new w (l.map fun n => Value.int .i64 n).toArray t
  have e : (l.flatMap fun n => [Value.int .i64 n]) = l.map fun n => Value.int .i64 n := by
    clear h hl
    induction l with
    | nil => rfl
    | cons x l ih => rw [List.flatMap_cons, List.map_cons, ih]; rfl
  rw [e]
  exact h
theorem row_4 (w : World) : Kd.C (Kd.int .i64) (w.alloc (.cells #[.int .i64 0, .int .i64 1152921504606846976, .int .i64 9, .int .i64 1152921504606846976] 2 (0, 0))) (some ⟨w.heap.size, 0, none⟩) 4 [0, 1152921504606846976, 9, 1152921504606846976] := row_i w 2 [0, 1152921504606846976, 9, 1152921504606846976] (by decide)
theorem row_2 (w : World) (t : TypeId) (a b : Int) : Kd.C (Kd.int .i64) (w.alloc (.cells #[.int .i64 a, .int .i64 b] t (0, 0))) (some ⟨w.heap.size, 0, none⟩) 2 [a, b] := row_i w t [a, b] (by rw [List.length_cons, List.length_cons, List.length_nil]; omega)
section
variable {w : World} {g : Nat} (h : w.heap[g]? = some (.cells esA 42 (0, 0)))
include h
theorem al1 : Calls Try.prog 9 #[.int .i64 2, .slice (some ⟨g, 0, none⟩) 2 4, .int .i64 0] w fun e w' => ∃ v0 v1, e = .returned (.tuple #[v0, v1, .int .i64 0]) ∧ RowC w' v1 [0, 1] ∧ Below w.heap.size w w' :=
  (diff_Solve.runs 2 (some ⟨g, 0, none⟩) 4 [⟨0, 1, 5⟩, ⟨1, 0, -6⟩] 0 _ _ _ w (es_a h) (by decide) ex1).mono fun e w' ⟨v0, v1, he, _, hr, hb⟩ => ⟨v0, v1, he, RowC.of_R hr, hb⟩
theorem al2 : Calls Try.prog 9 #[.int .i64 4, .slice (some ⟨g, 6, none⟩) 2 2, .int .i64 0] w fun e w' => ∃ v0 v1, e = .returned (.tuple #[v0, v1, .int .i64 0]) ∧ RowC w' v0 [0, 1152921504606846976, 9, 1152921504606846976] ∧ RowC w' v1 [] ∧ Below w.heap.size w w' :=
  (diff_Solve.runs 4 (some ⟨g, 6, none⟩) 2 [⟨0, 2, 9⟩, ⟨1, 2, 3⟩] 0 _ _ _ w (es_b h) (by decide) ex2).mono fun e w' ⟨v0, v1, he, hr0, hr, hb⟩ => ⟨v0, v1, he, RowC.of_R hr0, RowC.of_R hr, hb⟩
theorem al4 : Calls Try.prog 15 #[.int .i64 2, .slice (some ⟨g, 0, none⟩) 2 4, .int .i64 0, .int .i64 1] w fun e w' => ∃ v0, e = .returned (.tuple #[v0, .int .i64 34]) ∧ Below w.heap.size w w' :=
  (diff_Way.runs 2 (some ⟨g, 0, none⟩) 4 [⟨0, 1, 5⟩, ⟨1, 0, -6⟩] 0 1 _ _ w (es_a h) (by decide) ex4).mono fun e w' ⟨v0, he, _, hb⟩ => ⟨v0, he, hb⟩
theorem al5 : Calls Try.prog 15 #[.int .i64 4, .slice (some ⟨g, 6, none⟩) 2 2, .int .i64 0, .int .i64 3] w fun e w' => ∃ v0, e = .returned (.tuple #[v0, .int .i64 4]) ∧ Below w.heap.size w w' :=
  (diff_Way.runs 4 (some ⟨g, 6, none⟩) 2 [⟨0, 2, 9⟩, ⟨1, 2, 3⟩] 0 3 _ _ w (es_b h) (by decide) ex5).mono fun e w' ⟨v0, he, _, hb⟩ => ⟨v0, he, hb⟩
theorem al9 : Calls Try.prog 11 #[.int .i64 2, .slice (some ⟨g, 0, none⟩) 2 4] w fun e w' => e = .returned (.bool true) ∧ Below w.heap.size w w' := by
  have := diff_Right.runs 2 (some ⟨g, 0, none⟩) 4 [⟨0, 1, 5⟩, ⟨1, 0, -6⟩] w (es_a h) (by decide)
  rw [ex9] at this
  exact this
theorem al10 : Calls Try.prog 11 #[.int .i64 1, .slice (some ⟨g, 0, none⟩) 4 4] w fun e w' => e = .returned (.bool false) ∧ Below w.heap.size w w' := by
  have := diff_Right.runs 1 (some ⟨g, 0, none⟩) 4 [⟨0, 1, 5⟩, ⟨1, 0, -6⟩, ⟨0, 2, 9⟩, ⟨1, 2, 3⟩] w (es_d h) (by decide)
  rw [ex10] at this
  exact this
theorem al7 : Calls Try.prog 17 #[.slice (some ⟨g, 0, none⟩) 1 4, .slice (some ⟨w.heap.size, 0, none⟩) 2 2] (w.alloc (.cells #[.int .i64 0, .int .i64 5] 2 (0, 0))) fun e w' => e = .returned (.bool true) ∧ Below (w.alloc (.cells #[.int .i64 0, .int .i64 5] 2 (0, 0))).heap.size (w.alloc (.cells #[.int .i64 0, .int .i64 5] 2 (0, 0))) w' := by
  have := diff_Holds.runs (some ⟨g, 0, none⟩) 4 [⟨0, 1, 5⟩] (some ⟨w.heap.size, 0, none⟩) 2 [0, 5] (w.alloc (.cells #[.int .i64 0, .int .i64 5] 2 (0, 0))) (es_c (blk_alloc h _)) (by decide) (row_2 w 2 0 5) (by decide)
  rw [ex7] at this
  exact this
theorem al8 : Calls Try.prog 17 #[.slice (some ⟨g, 0, none⟩) 1 4, .slice (some ⟨w.heap.size, 0, none⟩) 2 2] (w.alloc (.cells #[.int .i64 0, .int .i64 6] 2 (0, 0))) fun e w' => e = .returned (.bool false) ∧ Below (w.alloc (.cells #[.int .i64 0, .int .i64 6] 2 (0, 0))).heap.size (w.alloc (.cells #[.int .i64 0, .int .i64 6] 2 (0, 0))) w' := by
  have := diff_Holds.runs (some ⟨g, 0, none⟩) 4 [⟨0, 1, 5⟩] (some ⟨w.heap.size, 0, none⟩) 2 [0, 6] (w.alloc (.cells #[.int .i64 0, .int .i64 6] 2 (0, 0))) (es_c (blk_alloc h _)) (by decide) (row_2 w 2 0 6) (by decide)
  rw [ex8] at this
  exact this
end
theorem al3 {w : World} {g : Nat} (h : Kd.C k42 w (some ⟨g, 0, none⟩) 3 [⟨0, 1, 5⟩, ⟨0, 2, 9⟩, ⟨1, 2, 3⟩]) : Calls Try.prog 15 #[.int .i64 3, .slice (some ⟨g, 0, none⟩) 3 3, .int .i64 0, .int .i64 2] w fun e w' => ∃ u, e = .returned (.tuple #[u, .int .i64 0]) ∧ RowC w' u [0, 2] ∧ Below w.heap.size w w' :=
  (diff_Way.runs 3 (some ⟨g, 0, none⟩) 3 [⟨0, 1, 5⟩, ⟨0, 2, 9⟩, ⟨1, 2, 3⟩] 0 2 _ _ w h (by decide) ex3).mono fun e w' ⟨v0, he, hr, hb⟩ => ⟨v0, he, RowC.of_R hr, hb⟩
theorem al6 (w : World) : Calls Try.prog 9 #[.int .i64 0, .slice none 0 0, .int .i64 0] w fun e w' => ∃ v0 v1, e = .returned (.tuple #[v0, v1, .int .i64 1]) ∧ Below w.heap.size w w' :=
  (diff_Solve.runs 0 none 0 [] 0 _ _ _ w ⟨rfl, by decide, fun h => absurd h (by simp)⟩ (by decide) ex6).mono fun e w' ⟨v0, v1, he, _, _, hb⟩ => ⟨v0, v1, he, hb⟩
theorem al11 {w : World} {v : Value} (h : RowC w v [0, 1152921504606846976, 9, 1152921504606846976]) : Calls Try.prog 13 #[v, .slice (some ⟨w.heap.size, 0, none⟩) 4 4] (w.alloc (.cells #[.int .i64 0, .int .i64 1152921504606846976, .int .i64 9, .int .i64 1152921504606846976] 2 (0, 0))) fun e w' => e = .returned (.bool true) ∧ Drawn0 (w.alloc (.cells #[.int .i64 0, .int .i64 1152921504606846976, .int .i64 9, .int .i64 1152921504606846976] 2 (0, 0))) w' := by
  obtain ⟨A, c, rfl, hc, hC⟩ := h
  exact jitneyref01_SameLongs.calls 6 A c _ _ 4 [0, 1152921504606846976, 9, 1152921504606846976] true _ (Kd.C_alloc hC _) hc (row_4 w) (by decide) ex11
theorem al12 {w : World} {v : Value} (h : RowC w v [0, 2]) : Calls Try.prog 19 #[v, .slice (some ⟨w.heap.size, 0, none⟩) 2 2] (w.alloc (.cells #[.int .i64 0, .int .i64 2] 3 (0, 0))) fun e w' => e = .returned (.bool true) ∧ Drawn0 (w.alloc (.cells #[.int .i64 0, .int .i64 2] 3 (0, 0))) w' := by
  obtain ⟨A, c, rfl, hc, hC⟩ := h
  exact jitneyref01_SameInts.calls 4 A c _ _ 2 [0, 2] true _ (Kd.C_alloc hC _) hc (row_2 w 3 0 2) (by decide) ex12
end Go.Proofs.Ytenjncmljmgcdaa.P
/- The document's example of layer 7: the walk. -/
namespace Go.Proofs.Ytenjncmljmgcdaa.P
open Go.Proofs.YtenjncmljmgcdaaR
open Go.Shelf Go.RowKit Go.Proofs.YtenjncmljmgcdaaW.PrintWords Go.Proofs.YtenjncmljmgcdaaW.PrintLast Go.Proofs.YtenjncmljmgcdaaW.PrintMore
set_option linter.unusedVariables false
set_option linter.unusedSimpArgs false
set_option maxHeartbeats 8000000
set_option maxRecDepth 100000
theorem alive07_runs (w : World) : Calls Try.prog 8 #[] w fun e w' => e = .returned (.bool true) ∧ Below w.heap.size w w' := by
  obtain ⟨W, hW⟩ : ∃ W, W = w.alloc (.cells #[.int .i64 0, .int .i64 1, .int .i64 5, .int .i64 1, .int .i64 0, .int .i64 (-6), .int .i64 0, .int .i64 2, .int .i64 9, .int .i64 1, .int .i64 2, .int .i64 3] 42) := ⟨_, rfl⟩
  obtain ⟨g, hg⟩ : ∃ g, g = w.heap.size := ⟨_, rfl⟩
  have HA0 := Aside0.mk (show W.heap[g]? = some (.cells esA 42 (0, 0)) by rw [hW, hg]; exact blk_new _ _)
  have HB0 := Aside0.mk (show Below w.heap.size w W by rw [hW]; exact below_alloc (Below.refl _ _) _)
  have HW := Aside0.mk hW
  have HG := Aside0.mk hg
  clear hW hg
  go_enter Try.func8, Try.ntmps8
  go_wp2_with fail
  rw [← HW.out, ← HG.out]
  refine (al1 HA0.out).mono ?_
  rintro e w1 ⟨v0, v1, rfl, hr, hb⟩
  obtain ⟨A1, c1, rfl, _, _⟩ := hr
  have HA1 := Aside0.mk (blk_below HA0.out hb)
  have HB1 := Aside0.mk (HB0.out.trans (hb.mono HB0.out.size))
  clear hb HA0 HB0
  go_wp2_with (first | (go_at_call 9; refine (al2 HA1.out).mono ?_; rintro e w2 ⟨v2, v3, rfl, hr0, hr1, hb⟩; obtain ⟨A3, c3, rfl, _, _⟩ := hr1; have D2 := Aside0.mk hr0; have HA2 := Aside0.mk (blk_below HA1.out hb); have HB2 := Aside0.mk (HB1.out.trans (hb.mono HB1.out.size)); clear hr0 hb))
  refine wp_region_pv [.val (.slice (some ⟨g, 0, none⟩) 4 4), .val (.pointer (some ⟨g, 0, none⟩)), .val (.agg #[.int .i64 0, .int .i64 1, .int .i64 5]), .val (.slice (some ⟨g, 0, none⟩) 4 4), .val (.pointer (some ⟨g, 6, none⟩)), .val (.agg #[.int .i64 0, .int .i64 2, .int .i64 9]), .val (.slice (some ⟨g, 0, none⟩) 4 4), .val (.pointer (some ⟨g, 9, none⟩)), .val (.agg #[.int .i64 1, .int .i64 2, .int .i64 3]), pvEs3, pvWay, pvWay, pvRow [0, 2], .val (.int .i64 0), pvRow [0, 2], .val (.int .i64 0)] rfl (by kernel_rfl) ?howes ?hend
  case howes =>
    refine ⟨?_, ?_, ?_, ?_, ?_, ?_, ?_, ?_, ?_, ?_, ?_, ?_, ?_, ?_, ?_, ?_, trivial⟩
    · refine owes_pv0 (fun E vs a W_ hI hE hp => ?_)
      have e0 := hI.outer (d := 1) (by rfl) rfl
      refine ⟨rfl, _, ?_, rfl⟩
      simp only [execOp, e0]
      rfl
    · refine owes_pv0 (fun E vs a W_ hI hE hp => ?_)
      have e0 : a.eval (.tmp 37) = (.slice (some ⟨g, 0, none⟩) 4 4) := hI.pv 0 rfl rfl (pred_of hp 0 rfl) rfl
      refine ⟨rfl, _, ?_, rfl⟩
      simp only [execOp, e0]
      go_simp
    · refine owes_pv0 (fun E vs a W_ hI hE hp => ?_)
      have e0 : a.eval (.tmp 38) = .pointer (some ⟨g, 0, none⟩) := hI.pv 1 rfl rfl (pred_of hp 1 rfl) rfl
      have hb := blk_below HA2.out hI.world.2
      have k0 : W_.cell? ⟨g, 0, none⟩ = some (.int .i64 0) := (blk_cell hb 0).trans rfl
      have k1 : W_.cell? ⟨g, 1, none⟩ = some (.int .i64 1) := (blk_cell hb 1).trans rfl
      have k2 : W_.cell? ⟨g, 2, none⟩ = some (.int .i64 5) := (blk_cell hb 2).trans rfl
      clear hb
      refine ⟨rfl, _, ?_, rfl⟩
      simp only [execOp, e0]
      go_simp
    · refine owes_pv0 (fun E vs a W_ hI hE hp => ?_)
      have e0 := hI.outer (d := 1) (by rfl) rfl
      refine ⟨rfl, _, ?_, rfl⟩
      simp only [execOp, e0]
      rfl
    · refine owes_pv0 (fun E vs a W_ hI hE hp => ?_)
      have e0 : a.eval (.tmp 40) = (.slice (some ⟨g, 0, none⟩) 4 4) := hI.pv 3 rfl rfl (pred_of hp 3 rfl) rfl
      refine ⟨rfl, _, ?_, rfl⟩
      simp only [execOp, e0]
      go_simp
    · refine owes_pv0 (fun E vs a W_ hI hE hp => ?_)
      have e0 : a.eval (.tmp 41) = .pointer (some ⟨g, 6, none⟩) := hI.pv 4 rfl rfl (pred_of hp 4 rfl) rfl
      have hb := blk_below HA2.out hI.world.2
      have k0 : W_.cell? ⟨g, 6, none⟩ = some (.int .i64 0) := (blk_cell hb 6).trans rfl
      have k1 : W_.cell? ⟨g, 7, none⟩ = some (.int .i64 2) := (blk_cell hb 7).trans rfl
      have k2 : W_.cell? ⟨g, 8, none⟩ = some (.int .i64 9) := (blk_cell hb 8).trans rfl
      clear hb
      refine ⟨rfl, _, ?_, rfl⟩
      simp only [execOp, e0]
      go_simp
    · refine owes_pv0 (fun E vs a W_ hI hE hp => ?_)
      have e0 := hI.outer (d := 1) (by rfl) rfl
      refine ⟨rfl, _, ?_, rfl⟩
      simp only [execOp, e0]
      rfl
    · refine owes_pv0 (fun E vs a W_ hI hE hp => ?_)
      have e0 : a.eval (.tmp 43) = (.slice (some ⟨g, 0, none⟩) 4 4) := hI.pv 6 rfl rfl (pred_of hp 6 rfl) rfl
      refine ⟨rfl, _, ?_, rfl⟩
      simp only [execOp, e0]
      go_simp
    · refine owes_pv0 (fun E vs a W_ hI hE hp => ?_)
      have e0 : a.eval (.tmp 44) = .pointer (some ⟨g, 9, none⟩) := hI.pv 7 rfl rfl (pred_of hp 7 rfl) rfl
      have hb := blk_below HA2.out hI.world.2
      have k0 : W_.cell? ⟨g, 9, none⟩ = some (.int .i64 1) := (blk_cell hb 9).trans rfl
      have k1 : W_.cell? ⟨g, 10, none⟩ = some (.int .i64 2) := (blk_cell hb 10).trans rfl
      have k2 : W_.cell? ⟨g, 11, none⟩ = some (.int .i64 3) := (blk_cell hb 11).trans rfl
      clear hb
      refine ⟨rfl, _, ?_, rfl⟩
      simp only [execOp, e0]
      go_simp
    · refine owes_pv (fun E vs a W_ hI hE hp => ?_)
      have e0 : a.eval (.tmp 39) = (.agg #[.int .i64 0, .int .i64 1, .int .i64 5]) := hI.pv 2 rfl rfl (pred_of hp 2 rfl) rfl
      have e1 : a.eval (.tmp 42) = (.agg #[.int .i64 0, .int .i64 2, .int .i64 9]) := hI.pv 5 rfl rfl (pred_of hp 5 rfl) rfl
      have e2 : a.eval (.tmp 45) = (.agg #[.int .i64 1, .int .i64 2, .int .i64 3]) := hI.pv 8 rfl rfl (pred_of hp 8 rfl) rfl
      have hC : Kd.C k42 (W_.alloc (.cells #[.int .i64 0, .int .i64 1, .int .i64 5, .int .i64 0, .int .i64 2, .int .i64 9, .int .i64 1, .int .i64 2, .int .i64 3] 42 (0, 0))) (some ⟨W_.heap.size, 0, none⟩) 3 [⟨0, 1, 5⟩, ⟨0, 2, 9⟩, ⟨1, 2, 3⟩] := C_es (xs := [⟨0, 1, 5⟩, ⟨0, 2, 9⟩, ⟨1, 2, 3⟩]) (blk_new _ _) (by decide) fun j x hj => by
        match j with
        | 0 => cases hj; exact ⟨rfl, rfl, rfl⟩
        | 1 => cases hj; exact ⟨rfl, rfl, rfl⟩
        | 2 => cases hj; exact ⟨rfl, rfl, rfl⟩
        | j + 3 => cases hj
      refine ⟨rfl, _, _, ?_, below_alloc (Below.refl _ _) _, _, rfl, hC⟩
      simp only [execOp, List.map_toArray, List.map_cons, List.map_nil, e0, e1, e2]
      go_simp
    · refine owes_pvc (fun E vs a W_ hI hE hp => ?_)
      obtain ⟨g3, e0, hC⟩ := hI.pv 9 rfl rfl (pred_of hp 9 rfl) rfl
      refine ⟨rfl, 15, #[.int .i64 3, .slice (some ⟨g3, 0, none⟩) 3 3, .int .i64 0, .int .i64 2], ?_, ?_⟩
      · simp only [execOp, resolve, List.map_toArray, List.map_cons, List.map_nil, e0]
        rfl
      · refine (al3 hC).mono ?_
        rintro e w' ⟨u, rfl, hr, hb⟩
        exact ⟨_, rfl, hb, u, rfl, hr⟩
    · refine owes_pv0 (fun E vs a W_ hI hE hp => ?_)
      obtain ⟨u, e0, hr⟩ := hI.pv 10 rfl rfl (pred_of hp 10 rfl) rfl
      refine ⟨rfl, _, ?_, u, rfl, hr⟩
      simp only [execOp, e0]
      rfl
    · refine owes_pv0 (fun E vs a W_ hI hE hp => ?_)
      obtain ⟨u, e0, hr⟩ := hI.pv 11 rfl rfl (pred_of hp 11 rfl) rfl
      refine ⟨rfl, u, ?_, hr⟩
      simp only [execOp, e0]
      rfl
    · refine owes_pv0 (fun E vs a W_ hI hE hp => ?_)
      obtain ⟨u, e0, hr⟩ := hI.pv 11 rfl rfl (pred_of hp 11 rfl) rfl
      refine ⟨rfl, _, ?_, rfl⟩
      simp only [execOp, e0]
      rfl
    · refine owes_pv0 (fun E vs a W_ hI hE hp => ?_)
      have hr : RowC W_ (a.eval (.tmp 48)) [0, 2] := hI.pv 12 rfl rfl (pred_of hp 12 rfl) rfl
      refine ⟨rfl, a.eval (.tmp 48), ?_, hr⟩
      simp only [execOp]
      rfl
    · refine owes_pv0 (fun E vs a W_ hI hE hp => ?_)
      have e0 : a.eval (.tmp 49) = .int .i64 0 := hI.pv 13 rfl rfl (pred_of hp 13 rfl) rfl
      refine ⟨rfl, _, ?_, rfl⟩
      simp only [execOp, e0]
      rfl
  case hend =>
    intro E vs a w3 hI hall
    have hr : RowC w3 (a.eval (.tmp 8)) [0, 2] := hI.pv 14 rfl rfl (hall 14 (by decide)) rfl
    have h9 : a.eval (.tmp 9) = .int .i64 0 := hI.pv 15 rfl rfl (hall 15 (by decide)) rfl
    obtain rfl := hI.frame (by kernel_rfl) hall
    have hb := hI.world.2
    clear hI hall
    simp only [putsFrom, List.setIfInBounds_toArray, List.set_cons_zero, List.set_cons_succ] at hr h9 ⊢
    have e14 : RowC w3 (vs 14) [0, 2] := hr
    have e15 : vs 15 = .int .i64 0 := h9
    rw [e15]
    obtain ⟨A8, c8, e8, hc8, hC8⟩ := e14
    rw [e8]
    have HA3 := Aside0.mk (blk_below HA2.out hb)
    have HB3 := Aside0.mk (HB2.out.trans (hb.mono HB2.out.size))
    have D3 := Aside0.mk (D2.out.below hb)
    have X3 := Aside0.mk (show RowC w3 (.slice A8 2 c8) [0, 2] from ⟨A8, c8, rfl, hc8, hC8⟩)
    clear hb hr h9 e15 e8 hc8 hC8 HA2 HB2 D2 HA1 HB1
    go_wp2_with (first
      | (go_at_call 15; refine (al4 HA3.out).mono ?_; rintro e w4 ⟨v4, rfl, hb⟩; have HA4 := Aside0.mk (blk_below HA3.out hb); have HB4 := Aside0.mk (HB3.out.trans (hb.mono HB3.out.size)); have D4 := Aside0.mk (D3.out.below hb); have X4 := Aside0.mk (X3.out.below hb); clear hb HA3 HB3 D3 X3)
      | (go_at_call 15; refine (al5 HA4.out).mono ?_; rintro e w5 ⟨v5, rfl, hb⟩; have HA5 := Aside0.mk (blk_below HA4.out hb); have HB5 := Aside0.mk (HB4.out.trans (hb.mono HB4.out.size)); have D5 := Aside0.mk (D4.out.below hb); have X5 := Aside0.mk (X4.out.below hb); clear hb HA4 HB4 D4 X4))
    go_wp2_with (first
      | (go_at_call 9; refine (al6 _).mono ?_; rintro e w6 ⟨v6, v7, rfl, hb⟩; have HA6 := Aside0.mk (blk_below HA5.out hb); have HB6 := Aside0.mk (HB5.out.trans (hb.mono HB5.out.size)); have D6 := Aside0.mk (D5.out.below hb); have X6 := Aside0.mk (X5.out.below hb); clear hb HA5 HB5 D5 X5)
      | (go_at_call 13; refine (al11 D6.out).mono ?_; rintro e w7 ⟨rfl, hd⟩; have hb := (below_alloc (Below.refl _ _) _).trans (hd.below.mono (by simp)); have HA7 := Aside0.mk (blk_below HA6.out hb); have HB7 := Aside0.mk (HB6.out.trans (hb.mono HB6.out.size)); have X7 := Aside0.mk (X6.out.below hb); clear hb hd HA6 HB6 D6 X6)
      | (go_at_call 19; refine (al12 X7.out).mono ?_; rintro e w8 ⟨rfl, hd⟩; have hb := (below_alloc (Below.refl _ _) _).trans (hd.below.mono (by simp)); have HA8 := Aside0.mk (blk_below HA7.out hb); have HB8 := Aside0.mk (HB7.out.trans (hb.mono HB7.out.size)); clear hb hd HA7 HB7 X7)
      | (go_at_call 17; refine (al7 HA8.out).mono ?_; rintro e w9 ⟨rfl, hd⟩; have hb := (below_alloc (Below.refl _ _) _).trans (hd.mono (by simp)); have HA9 := Aside0.mk (blk_below HA8.out hb); have HB9 := Aside0.mk (HB8.out.trans (hb.mono HB8.out.size)); clear hb hd HA8 HB8)
      | (go_at_call 17; refine (al8 HA9.out).mono ?_; rintro e w10 ⟨rfl, hd⟩; have hb := (below_alloc (Below.refl _ _) _).trans (hd.mono (by simp)); have HA10 := Aside0.mk (blk_below HA9.out hb); have HB10 := Aside0.mk (HB9.out.trans (hb.mono HB9.out.size)); clear hb hd HA9 HB9)
      | (go_at_call 11; refine (al9 HA10.out).mono ?_; rintro e w11 ⟨rfl, hb⟩; have HA11 := Aside0.mk (blk_below HA10.out hb); have HB11 := Aside0.mk (HB10.out.trans (hb.mono HB10.out.size)); clear hb HA10 HB10)
      | (go_at_call 11; refine (al10 HA11.out).mono ?_; rintro e w12 ⟨rfl, hb⟩; have HB12 := Aside0.mk (HB11.out.trans (hb.mono HB11.out.size)); clear hb HA11 HB11))
    go_ret
    exact ⟨rfl, HB12.out⟩
end Go.Proofs.Ytenjncmljmgcdaa.P
