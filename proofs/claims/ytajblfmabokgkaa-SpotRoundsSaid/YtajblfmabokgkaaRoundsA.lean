/- What the law SpotRounds needs beside its walk: two rows that grow side by side, the map of places seen, the list compared with itself. -/
import Derived.Test.YtajblfmabokgkaaSweepB
import Derived.Test.YtajblfmabokgkaaAlive
import Derived.Test.YtajblfmabokgkaaTurns
import Derived.Maps.Own
namespace Go.Proofs.Ytajblfmabokgkaa.P
open Go.Proofs.YtajblfmabokgkaaR
open Go.Shelf Go.Sort
open Go.RowKit Go.Proofs.YtajblfmabokgkaaW.PrintWords Go.Proofs.YtajblfmabokgkaaW.PrintLast Go.Proofs.YtajblfmabokgkaaW.PrintMore
set_option linter.unusedVariables false
set_option linter.unusedSimpArgs false
set_option maxHeartbeats 8000000
set_option maxRecDepth 100000
def kc : Kd (Nat × Nat) := Kd.scalar (fun p => Value.complex .f64 p.1 p.2) (fun _ => rfl)
theorem info23 : (Try.prog.info? 23).map (fun i => (i.zero, i.size, i.bytes)) = some (some (.complex .f64 0 0), 1, 16) := by kernel_rfl
/-- Two rows of spots, each in a block of its own. -/
structure TwoR (w : World) (base : Nat) (u v : Value) (xs ys : List (Nat × Nat)) : Prop where
  fst : Kd.R kc 23 w base (fun k => some k ≠ v.ownBlock) u xs
  snd : Kd.R kc 23 w base (fun k => some k ≠ u.ownBlock) v ys
theorem R_lt {e : Nat} {w : World} {base : Nat} {ok : Nat → Prop} {v : Value} {xs : List (Nat × Nat)} (h : Kd.R kc e w base ok v xs) (k : Nat) (hk : v.ownBlock = some k) : k < w.heap.size := ((Kd.R_bound h).1 k hk).2.2.1
theorem TwoR.freshL {w : World} {base : Nat} {u v : Value} {xs ys : List (Nat × Nat)} (h : TwoR w base u v xs ys) (k : Nat) (hk : w.heap.size ≤ k) : some k ≠ v.ownBlock := fun he => by
  have := R_lt h.snd k he.symm; omega
theorem TwoR.freshR {w : World} {base : Nat} {u v : Value} {xs ys : List (Nat × Nat)} (h : TwoR w base u v xs ys) (k : Nat) (hk : w.heap.size ≤ k) : some k ≠ u.ownBlock := fun he => by
  have := R_lt h.fst k he.symm; omega
theorem TwoR.stepL {w w1 : World} {base : Nat} {u v u1 : Value} {xs ys xs1 : List (Nat × Nat)} (h : TwoR w base u v xs ys) (hr : Kd.R kc 23 w1 base (fun k => some k ≠ v.ownBlock) u1 xs1) (hg : w.grownBy w1 u.ownBlock)
    (hat : u1.ownBlock = u.ownBlock ∨ ∃ b, u1.ownBlock = some b ∧ w.heap.size ≤ b) : TwoR w1 base u1 v xs1 ys := by
  refine ⟨hr, ?_⟩
  have h2 := Kd.R_grown (Kd.R_bound h.snd) hg (fun k hk => hk.1)
  refine Kd.R_mono h2 fun k hk => ?_
  rcases hat with he | ⟨b, he, hb⟩
  · rw [he]; exact hk.1
  · rw [he]; intro hc; injection hc with hc; have := hk.2.2.1; omega
theorem TwoR.stepR {w w1 : World} {base : Nat} {u v v1 : Value} {xs ys ys1 : List (Nat × Nat)} (h : TwoR w base u v xs ys) (hr : Kd.R kc 23 w1 base (fun k => some k ≠ u.ownBlock) v1 ys1) (hg : w.grownBy w1 v.ownBlock)
    (hat : v1.ownBlock = v.ownBlock ∨ ∃ b, v1.ownBlock = some b ∧ w.heap.size ≤ b) : TwoR w1 base u v1 xs ys1 := by
  have h1 := TwoR.stepL ⟨h.snd, h.fst⟩ hr hg hat
  exact ⟨h1.snd, h1.fst⟩
theorem TwoR.drewN {w : World} {base : Nat} {u v : Value} {xs ys : List (Nat × Nat)} (h : TwoR w base u v xs ys) (n : Nat) : TwoR (w.drewN n) base u v xs ys := ⟨Kd.R_drewN h.fst n, Kd.R_drewN h.snd n⟩
/-- Two empty rows, just made. -/
theorem TwoR.made (w : World) : TwoR ((w.alloc (.cells #[] 23)).alloc (.cells #[] 23)) w.heap.size (.slice (some ⟨w.heap.size, 0, none⟩) 0 0) (.slice (some ⟨w.heap.size + 1, 0, none⟩) 0 0) [] [] := by
  have g1 : ((w.alloc (.cells #[] 23)).alloc (.cells #[] 23)).heap[w.heap.size]? = some (.cells #[] 23 (0, 0)) := by
    show ((w.heap.push (.cells #[] 23 (0, 0))).push (.cells #[] 23 (0, 0)))[w.heap.size]? = _
    simp [Array.getElem?_push]
  have g2 : ((w.alloc (.cells #[] 23)).alloc (.cells #[] 23)).heap[w.heap.size + 1]? = some (.cells #[] 23 (0, 0)) := by
    have h := heap_alloc_new (w.alloc (.cells #[] 23)) (.cells #[] 23)
    have e : (w.alloc (.cells #[] 23)).heap.size = w.heap.size + 1 := by simp
    rwa [e] at h
  refine ⟨⟨fun k hk => ?_, [], ⟨rfl, .inr ⟨_, 0, #[], rfl, Nat.le_refl _, g1, Nat.le_refl _, by decide, rfl, rfl⟩⟩, Reps.none _ _⟩, ⟨fun k hk => ?_, [], ⟨rfl, .inr ⟨_, 0, #[], rfl, Nat.le_succ _, g2, Nat.le_refl _, by decide, rfl, rfl⟩⟩, Reps.none _ _⟩⟩
  · have e : w.heap.size = k := by simpa [Value.ownBlock] using hk
    subst e
    intro hc
    have e : w.heap.size = w.heap.size + 1 := by simp [Value.ownBlock] at hc
    omega
  · have e : w.heap.size + 1 = k := by simpa [Value.ownBlock] using hk
    subst e
    intro hc
    have e : w.heap.size + 1 = w.heap.size := by simp [Value.ownBlock] at hc
    omega
def rowL (P : Nat → Nat × Nat) (j : Nat) : List (Nat × Nat) := (List.range j).map P
theorem rowL_succ (P : Nat → Nat × Nat) (j : Nat) : rowL P (j + 1) = rowL P j ++ [P j] := by unfold rowL; rw [List.range_succ, List.map_append]; rfl
theorem rowL_length (P : Nat → Nat × Nat) (j : Nat) : (rowL P j).length = j := by unfold rowL; simp
theorem rowL_at (P : Nat → Nat × Nat) (n i : Nat) (h : i < n) (d : Nat × Nat) : rdOf d (rowL P n) (i : Int) = P i := by unfold rdOf rowL; simp [h]
theorem row_spots {w : World} {base : Nat} {ok : Nat → Prop} {P : Nat → Nat × Nat} {n : Nat} {v : Value} {A B : Nat → Int} (h : Kd.R kc 23 w base ok v (rowL P n)) (hn : 0 < n) (hS : ∀ i, Spot (P i).1 (P i).2 (A i) (B i)) :
    ∃ g c, v = .slice (some ⟨g, 0, none⟩) n c ∧ base ≤ g ∧ SpotsAt w g n (fun i => (P i).1) (fun i => (P i).2) A B := by
  obtain ⟨g, c, hv, hg0, hg1, _⟩ := Kd.R_form h (by rw [rowL_length]; exact hn)
  rw [rowL_length] at hv
  subst hv
  refine ⟨g, c, rfl, hg0, hg1, fun i hi => ?_, fun i hi => hS i⟩
  have := (Kd.R_celln (0, 0) h (i : Int) (by omega) (by omega)).1
  rw [rowL_at P n i hi, Int.toNat_natCast] at this
  exact this
theorem SpotsAt.move {w w1 : World} {g n : Nat} {X Y : Nat → Nat} {A B : Nat → Int} (h : SpotsAt w g n X Y A B) {b : Nat} (hk : KeepW w w1 b) (hne : g ≠ b) : SpotsAt w1 g n X Y A B :=
  ⟨Nat.lt_of_lt_of_le h.lt hk.size, fun i hi => hk.cell (p := ⟨g, i, none⟩) (h.cell i hi) hne, h.spot⟩
/-! the map -/
theorem grown_grow (w : World) (q : Nat) (os : Array Obj) : w.grownBy (grow (w.drewN q) os) none := by
  refine ⟨rfl, rfl, rfl, ?_, fun k hk _ => ?_⟩
  · unfold grow World.drewN; simp
  · unfold grow World.drewN; exact Array.getElem?_append_left hk
theorem keepW_grown {w w1 : World} {b : Nat} (h : w.grownBy w1 (some b)) : KeepW w w1 b := ⟨h.os, h.tape, h.output, h.size, fun i hi hne => h.block i hi (fun he => by injection he with he; exact hne he)⟩
theorem keepW_grow (w : World) (q : Nat) (os : Array Obj) (b : Nat) : KeepW w (grow (w.drewN q) os) b := by
  have h := grown_grow w q os
  exact ⟨h.os, h.tape, h.output, h.size, fun i hi _ => h.block i hi (by simp)⟩
theorem plainElem_bool_inv {P : Program} {e : TypeId} (he : P.underlying e = some .bool) {v : Value} {x : Bool} {ps : List MemPlace} (h : plainElem (H := Unit) P e v = some (.lit (.bool x), ps)) : v = .bool x := by
  unfold plainElem at h
  rw [he] at h
  cases v <;> simp at h
  rw [h.1]
theorem zero4 (w : World) : (zeroValue 4).run Try.prog w = .ok (.bool false) w := by kernel_rfl
theorem seen_no {w : World} {b m : Nat} {D : DataW Unit} (hm : w.ownsMap Try.prog 3 (plainElem Try.prog 4) b m D) (k : Int) (hk : (Lit.int .i64 k).wf = true) (hat : ∀ z, D.atKey (.int .i64 k) z = z) :
    (Instr.lookup 32 (.map (some b)) (.int .i64 k) false).run Try.prog w = .ok (.bool false) w := by
  obtain ⟨v, ps, hrun, hv⟩ := hm.lookup (Maps.int_keyed Try.underlying3) Try.underlying32 (zero4 w) (plainElem_bool Try.underlying4 false) (Maps.keyOf_int_mk Try.underlying3 hk)
  rw [hat] at hv
  rw [hrun, plainElem_bool_inv Try.underlying4 hv]
theorem seen_no_grown {w : World} {b m : Nat} {D : DataW Unit} (hm : w.ownsMap Try.prog 3 (plainElem Try.prog 4) b m D) (k : Int) (hk : (Lit.int .i64 k).wf = true) (hat : ∀ z, D.atKey (.int .i64 k) z = z) (q : Nat) (os : Array Obj) :
    (Instr.lookup 32 (.map (some b)) (.int .i64 k) false).run Try.prog (grow (w.drewN q) os) = .ok (.bool false) (grow (w.drewN q) os) := seen_no (hm.kept (grown_grow w q os) (by simp)) k hk hat
/-! the list against itself -/
theorem same_all (l : List Int) (hl : l.length ≤ 60) : ∀ (d x k : Nat), x + d = l.length → d < k → jitneyref01_SameInts.l0 k l l (x : Int) = some true := by
  intro d
  induction d with
  | zero =>
    intro x k h hk
    obtain ⟨k, rfl⟩ : ∃ j, k = j + 1 := ⟨k - 1, by omega⟩
    rw [jitneyref01_SameInts.l0, if_neg (by omega)]
  | succ d ih =>
    intro x k h hk
    obtain ⟨k, rfl⟩ : ∃ j, k = j + 1 := ⟨k - 1, by omega⟩
    rw [jitneyref01_SameInts.l0, if_pos (by omega), if_pos (by omega), if_pos (by omega), if_pos rfl]
    have e : wrap64 ((x : Int) + 1) = ((x + 1 : Nat) : Int) := by unfold wrap64; omega
    rw [e]
    exact ih (x + 1) k (by omega) (by omega)
theorem same_self (l : List Int) (hl : l.length ≤ 60) : jitneyref01_SameInts.f (l.length + 1) l l = some true := by
  unfold jitneyref01_SameInts.f
  rw [if_pos rfl]
  exact same_all l hl l.length 0 _ (by omega) (by omega)
def gotL (n : Nat) [Inhabited (Fin n)] (r : Array (Fin n)) : List Int := (List.range n).map fun i => ((r[i]!).val : Int)
theorem gotL_length (n : Nat) [Inhabited (Fin n)] (r : Array (Fin n)) : (gotL n r).length = n := by unfold gotL; simp
theorem row_got {w : World} {g n : Nat} [Inhabited (Fin n)] {r : Array (Fin n)} (hn : n ≤ 60) (h : ∀ i, i < n → w.cell? ⟨g, i, none⟩ = some (enF n r[i]!)) : Kd.C (Kd.int .i64) w (some ⟨g, 0, none⟩) (gotL n r).length (gotL n r) := by
  refine C_of_rowAt (Kd.int .i64) (fun n => [.int .i64 n]) (fun _ => rfl) (fun _ _ => rfl) (by rw [gotL_length]; omega) ?_
  intro i v hv
  have e : ((gotL n r).flatMap fun n => [Value.int .i64 n]) = (gotL n r).map fun n => Value.int .i64 n := by
    generalize gotL n r = l
    clear h hv
    induction l with
    | nil => rfl
    | cons x l ih => rw [List.flatMap_cons, List.map_cons, ih]; rfl
  rw [e] at hv
  unfold gotL at hv
  rw [List.map_map, List.getElem?_map] at hv
  have hi : i < n := by
    rcases Nat.lt_or_ge i n with h | h
    · exact h
    · rw [List.getElem?_eq_none (by simpa using h)] at hv; cases hv
  rw [List.getElem?_range hi] at hv
  cases hv
  exact h i hi
theorem same_rows {n : Nat} [Inhabited (Fin n)] (hn : n ≤ 60) (r : Array (Fin n)) {w : World} {g3 q3 g5 q5 : Nat} (h3 : ∀ i, i < n → w.cell? ⟨g3, i, none⟩ = some (enF n r[i]!)) (h5 : ∀ i, i < n → w.cell? ⟨g5, i, none⟩ = some (enF n r[i]!)) (hq3 : n ≤ q3) (hq5 : n ≤ q5) :
    Calls Try.prog 14 #[.slice (some ⟨g5, 0, none⟩) n q5, .slice (some ⟨g3, 0, none⟩) n q3] w fun e w' => e = .returned (.bool true) ∧ Drawn0 w w' := by
  have X := jitneyref01_SameInts.calls ((gotL n r).length + 1) (some ⟨g5, 0, none⟩) q5 (gotL n r) (some ⟨g3, 0, none⟩) q3 (gotL n r) true w (row_got hn h5) (by rw [gotL_length]; exact hq5) (row_got hn h3) (by rw [gotL_length]; exact hq3) (same_self _ (by rw [gotL_length]; exact hn))
  rw [gotL_length] at X
  exact X
theorem sweptG_move (o1 o2 : Int) (A B : Nat → Int) (n : Nat) [Inhabited (Fin n)] : sweptG o1 o2 (fun i => A i + o1) (fun i => B i + o2) n = sweptG 0 0 A B n := by
  unfold sweptG
  rw [cfS_move]
theorem sweptG_next (A B : Nat → Int) (n : Nat) [Inhabited (Fin n)] (j : Nat) (h0 : 0 < j) (hj : j < n) :
    ordS 0 0 (A (sweptG 0 0 A B n)[j]!.val) (B (sweptG 0 0 A B n)[j]!.val) (A (sweptG 0 0 A B n)[j - 1]!.val) (B (sweptG 0 0 A B n)[j - 1]!.val) < 0 ↔ False := by
  have h := (sweptG_holds 0 0 A B n).2 (j - 1) j (Nat.zero_le _) (by omega) hj
  exact iff_false_intro (of_decide_eq_false h)
theorem spot_Before_g {s t x y u v : Nat} {o1 o2 a b c d : Int} (k : Spot s t o1 o2) (h : Spot x y a b) (g : Spot u v c d) (w : World) :
    Calls Try.prog 13 #[.complex .f64 s t, .complex .f64 x y, .complex .f64 u v] w fun e w' => e = .returned (.bool (decide (ordS o1 o2 a b c d < 0))) ∧ ∃ n os, w' = grow (w.drewN n) os := by
  have C1 := Aside0.mk (spot_order.calls k h g)
  have C2 := Aside0.mk (spot_Good.calls k)
  have C3 := Aside0.mk (spot_Good.calls h)
  have C4 := Aside0.mk (spot_Good.calls g)
  generalize ordS o1 o2 a b c d = z at C1 ⊢
  clear h g k
  go_enter Try.func13, Try.ntmps13
  go_wp2_with (first
    | (go_at_call 22; with_reducible refine (C1.out _).mono ?_; rintro e w1 ⟨rfl, n, os, rfl⟩)
    | (go_at_call 16; with_reducible refine (C2.out _).mono ?_; rintro e w1 ⟨rfl, rfl⟩)
    | (go_at_call 16; with_reducible refine (C3.out _).mono ?_; rintro e w1 ⟨rfl, rfl⟩)
    | (go_at_call 16; with_reducible refine (C4.out _).mono ?_; rintro e w1 ⟨rfl, rfl⟩))
  go_ret
  exact ⟨rfl, _, _, rfl⟩
/-- The whole numbers of the law's spots, and the words that stand for them. -/
def rA (l : List Int) (i : Nat) : Int := Int.tmod (rd l (i : Int)) 1000000
def rP (xs ys : List Int) (i : Nat) : Nat × Nat := (floatOfInt .f64 (rA xs i), floatOfInt .f64 (rA ys i))
theorem rA_bound (l : List Int) (i : Nat) : -1000000 < rA l i ∧ rA l i < 1000000 := tmod_bound _ _ (by decide)
theorem spot_P (xs ys : List Int) (i : Nat) : Spot (rP xs ys i).1 (rP xs ys i).2 (rA xs i) (rA ys i) := by
  have a := rA_bound xs i
  have b := rA_bound ys i
  exact spot_int ⟨by omega, by omega⟩ ⟨by omega, by omega⟩
theorem call_P (xs ys : List Int) (i : Nat) (w : World) : Calls Try.prog 8 #[.int .i64 (rA xs i), .int .i64 (rA ys i)] w fun e w' => e = .returned (.tuple #[.complex .f64 (rP xs ys i).1 (rP xs ys i).2, .bool true]) ∧ w' = w := by
  have a := rA_bound xs i
  have b := rA_bound ys i
  exact spot_At.calls (rA xs i) (rA ys i) ⟨by omega, by omega⟩ ⟨by omega, by omega⟩ w
theorem moved_P (xs ys : List Int) (ox oy : Nat) (o1 o2 : Int) (h1 : -1000 < o1 ∧ o1 < 1000) (h2 : -1000 < o2 ∧ o2 < 1000) (SO : Spot ox oy o1 o2) (i : Nat) : ∃ q : Nat × Nat, Spot q.1 q.2 (rA xs i + o1) (rA ys i + o2) ∧
      ∀ w : World, (binOp .add 23 (.complex .f64 (rP xs ys i).1 (rP xs ys i).2) (.complex .f64 ox oy)).run Try.prog w = .ok (.complex .f64 q.1 q.2) w := by
  have a := rA_bound xs i
  have b := rA_bound ys i
  have SP := spot_P xs ys i
  obtain ⟨x, y, fx, fy, hp⟩ := cplx_add SP.re SP.im SO.re SO.im (by omega) (by omega)
  exact ⟨(x, y), ⟨fx, fy, ⟨by omega, by omega⟩, ⟨by omega, by omega⟩⟩, hp⟩
theorem moved_all (xs ys : List Int) (ox oy : Nat) (o1 o2 : Int) (h1 : -1000 < o1 ∧ o1 < 1000) (h2 : -1000 < o2 ∧ o2 < 1000) (SO : Spot ox oy o1 o2) : ∃ Q : Nat → Nat × Nat, (∀ i, Spot (Q i).1 (Q i).2 (rA xs i + o1) (rA ys i + o2)) ∧
      ∀ i (w : World), (binOp .add 23 (.complex .f64 (rP xs ys i).1 (rP xs ys i).2) (.complex .f64 ox oy)).run Try.prog w = .ok (.complex .f64 (Q i).1 (Q i).2) w :=
  ⟨fun i => Classical.choose (moved_P xs ys ox oy o1 o2 h1 h2 SO i), fun i => (Classical.choose_spec (moved_P xs ys ox oy o1 o2 h1 h2 SO i)).1, fun i => (Classical.choose_spec (moved_P xs ys ox oy o1 o2 h1 h2 SO i)).2⟩
theorem off_spot (a2 a3 : Int) : ∃ (ox oy : Nat) (o1 o2 : Int), o1 = Int.tmod a2 1000 ∧ o2 = Int.tmod a3 1000 ∧ (-1000 < o1 ∧ o1 < 1000) ∧ (-1000 < o2 ∧ o2 < 1000) ∧ Spot ox oy o1 o2 ∧
    ∀ (w : World), Calls Try.prog 8 #[.int .i64 (Int.tmod a2 1000), .int .i64 (Int.tmod a3 1000)] w fun e w' => e = .returned (.tuple #[.complex .f64 ox oy, .bool true]) ∧ w' = w := by
  have h1 := tmod_bound a2 1000 (by decide)
  have h2 := tmod_bound a3 1000 (by decide)
  generalize Int.tmod a2 1000 = o1 at h1 ⊢
  generalize Int.tmod a3 1000 = o2 at h2 ⊢
  have SO : Spot (floatOfInt .f64 o1) (floatOfInt .f64 o2) o1 o2 := spot_int ⟨by omega, by omega⟩ ⟨by omega, by omega⟩
  exact ⟨_, _, o1, o2, rfl, rfl, h1, h2, SO, spot_At.calls o1 o2 SO.bre SO.bim⟩
end Go.Proofs.Ytajblfmabokgkaa.P
