/- A scope with a label that is gone back to: its law; and a row turned round. -/
import Derived.Test.YtenjncmljmgcdaaIndex
import Derived.Test.YtenjncmljmgcdaaP3
namespace Go.Proofs.Ytenjncmljmgcdaa.P
open Go.Proofs.YtenjncmljmgcdaaR
open Go.Shelf Go.RowKit Go.Proofs.YtenjncmljmgcdaaW.PrintWords Go.Proofs.YtenjncmljmgcdaaW.PrintLast Go.Proofs.YtenjncmljmgcdaaW.PrintMore
set_option linter.unusedVariables false
set_option linter.unusedSimpArgs false
section
variable {P : Program} {b : Frame} {a : Act} {k : List Item} {cs : List Frame} {w : World}
theorem step_scope {c : Code} : step P (lone (b.at a (.code (.scope c) :: k)) cs w) = .next (lone (b.at a (.code c :: .inScope c :: k)) cs w) :=
  step_lone_go (by simp [stepG, stepG.exec, Frame.at])
theorem step_inScope {c : Code} : step P (lone (b.at a (.inScope c :: k)) cs w) = .next (lone (b.at a k) cs w) :=
  step_lone_go (by simp [stepG, stepG.exec, Frame.at])
end
/-- What a round in a scope may end at: the label again, with less left; or the scope's own end. -/
def Again (l n : Nat) (I : Nat → Act → World → Prop) (Q : Exit → Act → World → Prop) : Exit → Act → World → Prop
  | .goto l', a, w => l' = l ∧ ∃ m, m < n ∧ I m a w
  | e, a, w => Q e a w
theorem wp_scope {P : Program} {Q : Exit → Act → World → Prop} {a : Act} {w : World} {body X : Code} {l : Nat} (hf : findLabel body l = some (.seq .skip X)) (I : Nat → Act → World → Prop)
    (round : ∀ n a w, I n a w → X.wp P (Again l n I Q) a w) (N : Nat) (h0 : (∀ n a w, n < N → I n a w → X.wp P (Again l N I Q) a w) → body.wp P (Again l N I Q) a w) : (Code.scope body).wp P Q a w := by
  intro b k cs
  have key : ∀ n (m : Machine) e a₁ w₁, Again l n I Q e a₁ w₁ → Arrives P m b (.inScope body :: k) cs e a₁ w₁ → ∃ e a' w', Q e a' w' ∧ Arrives P m b k cs e a' w' := by
    intro n
    induction n using Nat.strongRecOn with
    | _ n ih =>
      intro m e a₁ w₁ hq harr
      cases e with
      | normal => exact ⟨.normal, a₁, w₁, hq, Steps.trans harr (.one step_inScope)⟩
      | exit id => exact ⟨.exit id, a₁, w₁, hq, fun k' hk => harr k' (by simp [exitTo, hk])⟩
      | goto l' =>
        obtain ⟨rfl, n', hlt, hI⟩ := hq
        have hs := harr (.code (.seq .skip X) :: .inScope body :: k) (by simp [gotoIn, hf])
        have hr := wp_seq (x := .skip) (wp_skip (Q := Exit.then (X.wp P (Again l' n' I Q)) (Again l' n' I Q)) (round n' a₁ w₁ hI)) b (.inScope body :: k) cs
        obtain ⟨e2, a2, w2, hq2, harr2⟩ := hr
        exact ih n' hlt m e2 a2 w2 hq2 (.of_steps hs harr2)
      | ret => exact ⟨.ret, a₁, w₁, hq, harr⟩
      | panic ch => exact ⟨.panic ch, a₁, w₁, hq, harr⟩
      | outgrown => exact ⟨.outgrown, a₁, w₁, hq, harr⟩
  obtain ⟨e, a₁, w₁, hq, harr⟩ := h0 (fun n a w hn hI => wp_mono (round n a w hI) fun e a w h => by
    cases e with
    | goto l' => obtain ⟨h1, m, h2, h3⟩ := h; exact ⟨h1, m, Nat.lt_trans h2 hn, h3⟩
    | _ => exact h) b (.inScope body :: k) cs
  obtain ⟨e2, a2, w2, hq2, harr2⟩ := key N _ e a₁ w₁ hq harr
  exact ⟨e2, a2, w2, hq2, .of_steps (.one step_scope) harr2⟩
/-- A row turned round. -/
theorem reverse_go (xs : List Int) (n : Nat) (hn : xs.length = n) (hn2 : n ≤ 100000) : ∀ (k i : Nat) (ys : List Int), ys.length = n → i + i ≤ n + 1 → n + 2 ≤ i + i + k + k → (∀ t, t < n → ys[t]? = if i ≤ t ∧ t + i < n then xs[t]? else xs[n - 1 - t]?) →
    slices_Reverse_int_int.l0 k ys (i : Int) ((n : Int) - 1 - (i : Int)) = some xs.reverse
  | 0, i, ys, hl, hi, hk, h => by omega
  | k + 1, i, ys, hl, hi, hk, h => by
    unfold slices_Reverse_int_int.l0
    by_cases c : (i : Int) < (n : Int) - 1 - (i : Int)
    · obtain ⟨j, hj⟩ : ∃ j : Nat, j + i + 1 = n := ⟨n - 1 - i, by omega⟩
      have ej : (n : Int) - 1 - (i : Int) = (j : Int) := by omega
      rw [ej] at c ⊢
      rw [if_pos c, if_pos (by omega), if_pos (by omega), if_pos (by omega), if_pos (by omega)]
      have e1 : wrap64 ((i : Int) + 1) = ((i + 1 : Nat) : Int) := by unfold wrap64; omega
      have e2 : wrap64 ((j : Int) - 1) = (n : Int) - 1 - ((i + 1 : Nat) : Int) := by unfold wrap64; omega
      rw [e1, e2, Int.toNat_natCast, Int.toNat_natCast]
      refine reverse_go xs n hn hn2 k (i + 1) _ (by rw [List.length_set, List.length_set]; exact hl) (by omega) (by omega) fun t ht => ?_
      have gi := h i (by omega)
      have gj := h j (by omega)
      rw [if_pos (by omega)] at gi gj
      have ri : rd ys (i : Int) = rd xs (i : Int) := by unfold rd; rw [Int.toNat_natCast, List.getD_eq_getElem?_getD, List.getD_eq_getElem?_getD, gi]
      have rj : rd ys (j : Int) = rd xs (j : Int) := by unfold rd; rw [Int.toNat_natCast, List.getD_eq_getElem?_getD, List.getD_eq_getElem?_getD, gj]
      have vx : ∀ q : Nat, q < n → xs[q]? = some (rd xs (q : Int)) := fun q hq => by
        unfold rd
        rw [Int.toNat_natCast, List.getD_eq_getElem?_getD, List.getElem?_eq_getElem (by omega)]
        rfl
      rw [ri, rj]
      by_cases t1 : t = j
      · subst t1
        rw [List.getElem?_set_self (by rw [List.length_set]; omega), if_neg (by omega), show n - 1 - t = i by omega, vx i (by omega)]
      · rw [List.getElem?_set_ne (Ne.symm t1)]
        by_cases t2 : t = i
        · subst t2
          rw [List.getElem?_set_self (by omega), if_neg (by omega), show n - 1 - t = j by omega, vx j (by omega)]
        · rw [List.getElem?_set_ne (Ne.symm t2), h t ht]
          by_cases t3 : i ≤ t ∧ t + i < n
          · rw [if_pos t3, if_pos (by omega)]
          · rw [if_neg t3, if_neg (by omega)]
    · rw [if_neg c]
      congr 1
      refine List.ext_getElem? fun t => ?_
      by_cases ht : t < n
      · rw [h t ht, List.getElem?_reverse (by omega), hn]
        by_cases t3 : i ≤ t ∧ t + i < n
        · rw [if_pos t3, show n - 1 - t = t by omega]
        · rw [if_neg t3]
      · rw [List.getElem?_eq_none (by omega), List.getElem?_eq_none (by rw [List.length_reverse]; omega)]
theorem reverse_f (xs : List Int) (h : xs.length ≤ 100000) : slices_Reverse_int_int.f (xs.length + 1) xs = some xs.reverse := by
  have e : wrap64 ((xs.length : Int) - 1) = (xs.length : Int) - 1 - ((0 : Nat) : Int) := by unfold wrap64; omega
  unfold slices_Reverse_int_int.f
  rw [e]
  exact reverse_go xs xs.length rfl h (xs.length + 1) 0 xs rfl (by omega) (by omega) fun t ht => by rw [if_pos (by omega)]
end Go.Proofs.Ytenjncmljmgcdaa.P
/- The ring that goes on to a number. -/
namespace Go.Proofs.Ytenjncmljmgcdaa.P
open Go.Proofs.YtenjncmljmgcdaaR
open Go.Shelf Go.RowKit Go.Proofs.YtenjncmljmgcdaaW.PrintWords Go.Proofs.YtenjncmljmgcdaaW.PrintLast Go.Proofs.YtenjncmljmgcdaaW.PrintMore
set_option linter.unusedVariables false
set_option linter.unusedSimpArgs false
set_option maxHeartbeats 8000000
set_option maxRecDepth 100000
def itr (f : Int → Int) : Nat → Int → Int
  | 0, v => v
  | k + 1, v => f (itr f k v)
theorem itr_add (f : Int → Int) (i k : Nat) (v : Int) : itr f (i + k) v = itr f k (itr f i v) := by
  induction k with
  | zero => rfl
  | succ k ih => show f (itr f (i + k) v) = f (itr f k (itr f i v)); rw [ih]
def parr (es : List S42) (b : Int → Int) (v : Int) : Int := (rd_T42 es (b v)).f0
/-- From v one can go on back for ever. -/
def OkB (es : List S42) (b : Int → Int) (n : Nat) (v : Int) : Prop := ∀ k, 0 ≤ itr (parr es b) k v ∧ itr (parr es b) k v < n ∧ 0 ≤ b (itr (parr es b) k v) ∧ b (itr (parr es b) k v) < es.length
def ringL (es : List S42) (b : Int → Int) (z : Int) (q : Nat) : List Int := (List.range q).map fun (k : Nat) => b (itr (parr es b) k z)
theorem ringL_succ (es : List S42) (b : Int → Int) (z : Int) (q : Nat) : ringL es b z (q + 1) = ringL es b z q ++ [b (itr (parr es b) q z)] := by
  unfold ringL
  rw [List.range_succ, List.map_append]
  rfl
theorem ringL_length (es : List S42) (b : Int → Int) (z : Int) (q : Nat) : (ringL es b z q).length = q := by unfold ringL; simp
theorem info3 : (Try.prog.info? 3).map (fun i => (i.zero, i.size, i.bytes)) = some (some (.int .i64 0), 1, 8) := by kernel_rfl
/-- The frame at the label, k edges of the ring being told. -/
def AtLabel (w : World) (p : Nat) (l : List S42) (b : Int → Int) (z : Int) (q nn : Nat) (a : Act) (w' : World) : Prop :=
  ∃ (k : Nat) (v5 u7 u8 u9 u10 u11 u12 u13 u14 u15 u16 u17 u18 u19 u20 u21 u22 u23 u24 u25 u26 u27 u28 u29 u30 u31 u32 u33 u34 u35 u36 u37 u38 u39 u40 u41 u42 u43 u44 u45 u46 u47 u48 u49 u50 u51 u52 u53 u54 u55 u56 u57 u58 u59 : Value), a = { tmps := #[.pointer (some ⟨p, 0, none⟩), .int .i64 z, undef, undef, .slice none 0 0, v5, .int .i64 (itr (parr l b) k z), u7, u8, u9, u10, u11, u12, u13, u14, u15, u16, u17, u18, u19, u20, u21, u22, u23, u24, u25, u26, u27, u28, u29, u30, u31, u32, u33, u34, u35, u36, u37, u38, u39, u40, u41, u42, u43, u44, u45, u46, u47, u48, u49, u50, u51, u52, u53, u54, u55, u56, u57, u58, u59], defers := [] } ∧ k < q ∧ nn = q - k ∧
    Kd.R (Kd.int .i64) 3 w' w.heap.size (fun _ => True) v5 (ringL l b z k) ∧ Below w.heap.size w w'
theorem diff_cycle.calls {p gd gb : Nat} {A : Option Addr} {c n q : Nat} {l : List S42} {d b : Int → Int} {v z : Int} (hn : n ≤ 100000) (hlen : l.length ≤ 1000000) (hok : OkB l b n v) (hz : z = itr (parr l b) n v) (hq0 : 0 < q) (hqn : q ≤ n) (hq1 : itr (parr l b) q z = z) (hq2 : ∀ j, 0 < j → j < q → itr (parr l b) j z ≠ z)
    (w : World) (hS : StAt w p gd gb A l.length c n d b) (hE : Kd.C k42 w A l.length l) :
    Calls Try.prog 31 #[.pointer (some ⟨p, 0, none⟩), .int .i64 v] w fun e w' => ∃ u, e = .returned u ∧ Kd.R (Kd.int .i64) 3 w' w.heap.size (fun _ => True) u (ringL l b z q).reverse ∧ Below w.heap.size w w' := by
  obtain ⟨m, hm⟩ : ∃ m, m = l.length := ⟨_, rfl⟩
  rw [← hm] at hS hE hlen
  have HM := Aside0.mk hm
  have HN := Aside0.mk (And.intro hn hlen)
  have HO := Aside0.mk hok
  have HZ := Aside0.mk hz
  have HQ := Aside0.mk (And.intro hq0 (And.intro hqn (And.intro hq1 hq2)))
  have HS := Aside0.mk hS
  have HE := Aside0.mk hE
  have l0 : w.cell? ⟨p, 1, none⟩ = some (.slice (some ⟨gd, 0, none⟩) n n) := (blk_cell hS.blkP 1).trans rfl
  clear hm hn hlen hok hz hq0 hqn hq1 hq2 hS hE
  go_enter Try.func31, Try.ntmps31
  go_wp2_with fail
  refine wp_scope (l := 0) (X := ?X) ?hf (AtLabel w p l b z q) ?_ (q + 1) ?_
  case hf => rfl
  · rintro nn a w' ⟨k, v5, u7, u8, u9, u10, u11, u12, u13, u14, u15, u16, u17, u18, u19, u20, u21, u22, u23, u24, u25, u26, u27, u28, u29, u30, u31, u32, u33, u34, u35, u36, u37, u38, u39, u40, u41, u42, u43, u44, u45, u46, u47, u48, u49, u50, u51, u52, u53, u54, u55, u56, u57, u58, u59, rfl, hk, rfl, hR, hB⟩
    have HRow := Aside0.mk hR
    have HBl := Aside0.mk hB
    have hS := HS.out.below hB
    have hEr := Kd.C_below HE.out hB
    obtain ⟨j1, j2, j3, j4⟩ := HO.out (n + k)
    rw [itr_add, ← HZ.out] at j1 j2 j3 j4
    have hnext : itr (parr l b) (k + 1) z = (rd_T42 l (b (itr (parr l b) k z))).f0 := rfl
    have hrow : ringL l b z (k + 1) = ringL l b z k ++ [b (itr (parr l b) k z)] := ringL_succ l b z k
    have HT := Aside0.mk hnext
    have HW := Aside0.mk hrow
    have hwrapI := HM.out
    clear hnext hrow hR hB
    generalize itr (parr l b) k z = a at *
    obtain ⟨a, rfl⟩ : ∃ a' : Nat, a = a' := ⟨a.toNat, by omega⟩
    obtain ⟨i, hi⟩ : ∃ i : Nat, b (a : Int) = i := ⟨(b (a : Int)).toNat, by omega⟩
    rw [hi] at j3 j4 HT HW
    have HI := Aside0.mk hi
    have l0 : w'.cell? ⟨p, 0, none⟩ = some (.slice A m c) := (blk_cell hS.blkP 0).trans rfl
    have l2 : w'.cell? ⟨p, 2, none⟩ = some (.slice (some ⟨gb, 0, none⟩) n n) := (blk_cell hS.blkP 2).trans rfl
    have l3 : w'.cell? ⟨gb, a, none⟩ = some (.int .i64 (i : Int)) := by rw [← HI.out]; exact (blk_cell hS.blkB a).trans (vecA_at _ (by omega))
    have k5 : (i : Int) < (m : Int) := by rw [hwrapI]; exact j4
    obtain ⟨ad, rfl, g0, g1, g2⟩ := at_T42 HE.out (i : Int) j3 k5
    rw [Int.toNat_natCast] at g0 g1 g2
    generalize rd_T42 l (i : Int) = e at g0 g1 g2 HT
    have G0 := Aside0.mk g0
    have hln : ((ringL l b z k).length + 1) * 8 ≤ 140737488355328 := by rw [ringL_length]; have := HQ.out; have := HN.out; omega
    have LN := Aside0.mk hln
    have GB := Aside0.mk (show b (a : Int) = (i : Int) ∧ (a : Int) < (n : Int) from ⟨hi, j2⟩)
    clear hS hEr j4 hi g0 g1 g2 hwrapI hln
    go_wp2_with (first
      | ((with_reducible refine gate_builtin (b := .append) (xs := #[.tmp 30, .tmp 38]) rfl ?_); at_builtin; refine Kd.R_append (Kd.int .i64) (w0 := w) w.heap.size rfl (.tmp 30) (.tmp 38) 25 3 (.int .i64 0) 8 rfl Try.underlying25 info3 rfl (by decide) (by omega) v5 (ringL l b z k) (i : Int) [.int .i64 (i : Int)] (fun _ => True) (fun _ => False) rfl rfl ?aP (fun _ hk => hk.elim) ?aF HRow.out HBl.out HBl.out.size LN.out ?_; (case aP => exact rfl); (case aF => exact (fun _ _ => trivial)); intro v1 w4 ho hb hg hat; rw [← HW.out] at ho; clear HRow HBl l0 l2 l3 hg hat; have HRow := Aside0.mk ho; have HBl := Aside0.mk hb; clear ho hb))
    have hS4 := HS.out.below HBl.out
    have l0 : w4.cell? ⟨p, 0, none⟩ = some (.slice (some ad) m c) := (blk_cell hS4.blkP 0).trans rfl
    have l2 : w4.cell? ⟨p, 2, none⟩ = some (.slice (some ⟨gb, 0, none⟩) n n) := (blk_cell hS4.blkP 2).trans rfl
    have l3 : w4.cell? ⟨gb, a, none⟩ = some (.int .i64 (i : Int)) := by rw [← GB.out.1]; exact (blk_cell hS4.blkB a).trans (vecA_at _ (by have := GB.out.2; omega))
    have g0 := cell_below HBl.out G0.out
    clear hS4
    by_cases hez : e.f0 = z
    · have c1 : (e.f0 != z) = false := by simp [hez]
      have hkq : k + 1 = q := by
        refine Classical.byContradiction fun hc => ?_
        exact HQ.out.2.2.2 (k + 1) (Nat.succ_pos k) (by omega) (HT.out.trans hez)
      have HR2 := HRow.out
      rw [hkq] at HR2
      have CR := Aside0.mk (fun (w5 : World) (hb : Below w.heap.size w w5) (hr : Kd.R (Kd.int .i64) 3 w5 w.heap.size (fun _ => True) v1 (ringL l b z q)) => slices_Reverse_int_int.calls ((ringL l b z q).length + 1) (fun _ => True) v1 (ringL l b z q) _ w w5 hb hr (reverse_f _ (by rw [ringL_length]; have := HQ.out; have := HN.out; omega)))
      have HRow2 := Aside0.mk HR2
      clear HR2 hez
      go_quiet (fail)
      go_wp2_with (first | (go_at_call 24; refine (CR.out _ (pw_below_drewN HBl.out nq) (Kd.R_drewN HRow2.out nq)).mono ?_; rintro e w5 ⟨rfl, hr, hb, _⟩; have R5 := Aside0.mk hr; have B5 := Aside0.mk hb; clear hr hb))
      simp only [Again]
      go_ret
      exact ⟨v1, rfl, Kd.R_mono R5.out (fun _ _ => trivial), B5.out⟩
    · have c1 : (e.f0 != z) = true := by simp [hez]
      have hkq : k + 1 < q := by
        refine Nat.lt_of_le_of_ne hk fun hc => ?_
        rw [hc] at HT
        exact hez (HT.out.symm.trans HQ.out.2.2.1)
      clear hez
      go_quiet (fail)
      go_wp2
      refine wp_goto ?_
      rw [← HT.out]
      exact ⟨rfl, q - (k + 1), by omega, k + 1, v1, _, _, _, _, _, _, _, _, _, _, _, _, _, _, _, _, _, _, _, _, _, _, _, _, _, _, _, _, _, _, _, _, _, _, _, _, _, _, _, _, _, _, _, _, _, _, _, _, _, _, _, _, _, rfl, hkq, rfl, Kd.R_drewN HRow.out nq, pw_below_drewN HBl.out nq⟩
  · intro HX
    go_wp2
    clear l0
    go_loopg [1, 12] n (fun gg v1 v12 wr => ∃ j : Nat, v12 = .int .i64 (j : Int) ∧ v1 = .int .i64 (itr (parr l b) j v) ∧ j ≤ n ∧ n - j ≤ gg ∧ Drawn0 w wr)
    case atStart => exact ⟨0, rfl, rfl, Nat.zero_le _, Nat.le_refl _, Drawn0.refl _⟩
    case round =>
      obtain ⟨j, rfl, rfl, hj, hg, HD⟩ := hrel
      by_cases hjn : j < n
      · have c1 : decide ((j : Int) < (n : Int)) = true := by simp; omega
        have w1 : wrap64 ((j : Int) + 1) = (j : Int) + 1 := by have := HN.out; unfold wrap64; omega
        obtain ⟨k1, k2, k3, k4⟩ := HO.out j
        have hnext : itr (parr l b) (j + 1) v = (rd_T42 l (b (itr (parr l b) j v))).f0 := rfl
        have HT := Aside0.mk hnext
        clear hnext
        generalize itr (parr l b) j v = a at *
        obtain ⟨a, rfl⟩ : ∃ a' : Nat, a = a' := ⟨a.toNat, by omega⟩
        obtain ⟨i, hi⟩ : ∃ i : Nat, b (a : Int) = i := ⟨(b (a : Int)).toNat, by omega⟩
        rw [hi] at k3 k4 HT
        have HI := Aside0.mk hi
        obtain ⟨nd, hnd⟩ := HD.out
        have hS := HS.out
        have hSr : StAt wr p gd gb A m c n d b := by rw [hnd]; exact ⟨hS.blkP, hS.blkD, hS.blkB⟩
        have l0 : wr.cell? ⟨p, 0, none⟩ = some (.slice A m c) := (blk_cell hSr.blkP 0).trans rfl
        have l2 : wr.cell? ⟨p, 2, none⟩ = some (.slice (some ⟨gb, 0, none⟩) n n) := (blk_cell hSr.blkP 2).trans rfl
        have l3 : wr.cell? ⟨gb, a, none⟩ = some (.int .i64 (i : Int)) := by rw [← HI.out]; exact (blk_cell hSr.blkB a).trans (vecA_at _ (by omega))
        have hEr : Kd.C k42 wr A m l := by rw [hnd]; exact Kd.C_drewN HE.out nd
        have k5 : (i : Int) < (m : Int) := by rw [HM.out]; exact k4
        obtain ⟨ad, rfl, g0, g1, g2⟩ := at_T42 hEr (i : Int) k3 k5
        rw [Int.toNat_natCast] at g0 g1 g2
        generalize rd_T42 l (i : Int) = e at g0 g1 g2 HT
        clear hSr hS hEr hnd k4 hi g1 g2
        go_wp2_with fail
        go_quiet (fail)
        go_wp2
        go_roundg (n - (j + 1))
        case measure => omega
        case rel => exact ⟨j + 1, by first | rfl | go_num, by rw [HT.out], by omega, Nat.le_refl _, HD.step _⟩
      · have c1 : decide ((j : Int) < (n : Int)) = false := by simp; omega
        have hjn' : j = n := by omega
        subst hjn'
        rw [← HZ.out]
        go_wp2
        refine wp_label ?_
        rename_i hK
        refine hK _ _ (HX q _ _ (Nat.lt_succ_self q) ?_)
        exact ⟨0, _, _, _, _, _, _, _, _, _, _, _, _, _, _, _, _, _, _, _, _, _, _, _, _, _, _, _, _, _, _, _, _, _, _, _, _, _, _, _, _, _, _, _, _, _, _, _, _, _, _, _, _, _, _, rfl, HQ.out.1, rfl, Kd.R_nil _ _ _ _ _, HD.below⟩
end Go.Proofs.Ytenjncmljmgcdaa.P
/- The ring that the search tells, as a row of edges. Plain facts. -/
namespace Go.Proofs.Ytenjncmljmgcdaa.P
open Go.Proofs.YtenjncmljmgcdaaR
open Go.Proofs.YtenjncmljmgcdaaW.PrintWords
set_option linter.unusedVariables false
theorem eb_some {es : List S42} {b : Int → Int} {v : Int} {e : S42} (h : eb es b v = some e) : 0 ≤ b v ∧ b v < es.length ∧ rd_T42 es (b v) = e := by
  unfold eb at h
  split at h
  · cases h
  · rename_i hb
    have := (List.getElem?_eq_some_iff.1 h).1
    refine ⟨by omega, by omega, ?_⟩
    unfold rd_T42
    rw [List.getD_eq_getElem?_getD, h]
    rfl
theorem pw_itr {es : List S42} {b : Int → Int} : ∀ (k : Nat) {v y x : Int}, pw es b k v = some (y, x) → y = itr (parr es b) k v ∧ ∀ j, j < k → 0 ≤ b (itr (parr es b) j v) ∧ b (itr (parr es b) j v) < es.length
  | 0, v, y, x, h => by cases h; exact ⟨rfl, fun j hj => absurd hj (Nat.not_lt_zero _)⟩
  | k + 1, v, y, x, h => by
    obtain ⟨y0, x0, e, h0, he, rfl, rfl⟩ := pw_succ h
    obtain ⟨h1, h2⟩ := pw_itr k h0
    obtain ⟨h3, h4, h5⟩ := eb_some he
    subst h1
    refine ⟨?_, fun j hj => ?_⟩
    · show e.f0 = (rd_T42 es (b (itr (parr es b) k v))).f0
      rw [h5]
    · by_cases hc : j = k
      · subst hc; exact ⟨h3, h4⟩
      · exact h2 j (by omega)
theorem ring_ok {es : List S42} {b : Int → Int} {n p : Nat} {v z x s : Int} (hR : RightE es n) (h0 : 0 ≤ v) (h1 : v < n) (hz : pw es b n v = some (z, x)) (hp : 1 ≤ p) (hr : pw es b p z = some (z, s)) : OkB es b n v ∧ z = itr (parr es b) n v ∧ itr (parr es b) p z = z := by
  obtain ⟨e1, k1⟩ := pw_itr n hz
  obtain ⟨e2, k2⟩ := pw_itr p hr
  have hpz : ∀ j, 0 ≤ b (itr (parr es b) j z) ∧ b (itr (parr es b) j z) < es.length := by
    intro j
    induction j using Nat.strongRecOn with
    | _ j ih =>
      by_cases hc : j < p
      · exact k2 j hc
      · have := itr_add (parr es b) p (j - p) z
        rw [show p + (j - p) = j by omega, ← e2] at this
        rw [this]
        exact ih (j - p) (by omega)
  have hb : ∀ j, 0 ≤ b (itr (parr es b) j v) ∧ b (itr (parr es b) j v) < es.length := by
    intro j
    by_cases hc : j < n
    · exact k1 j hc
    · have := itr_add (parr es b) n (j - n) v
      rw [show n + (j - n) = j by omega, ← e1] at this
      rw [this]
      exact hpz (j - n)
  have hin : ∀ j, 0 ≤ itr (parr es b) j v ∧ itr (parr es b) j v < n := by
    intro j
    induction j with
    | zero => exact ⟨h0, h1⟩
    | succ j ih =>
      obtain ⟨g1, g2⟩ := hb j
      have hlt : (b (itr (parr es b) j v)).toNat < es.length := by omega
      have := hR _ (List.getElem_mem hlt)
      show 0 ≤ (rd_T42 es (b (itr (parr es b) j v))).f0 ∧ (rd_T42 es (b (itr (parr es b) j v))).f0 < n
      unfold rd_T42
      rw [List.getD_eq_getElem?_getD, List.getElem?_eq_getElem hlt]
      exact ⟨this.1, this.2.1⟩
  exact ⟨fun j => ⟨(hin j).1, (hin j).2, (hb j).1, (hb j).2⟩, e1, e2.symm⟩
/-- The length of the ring at z. -/
def perF (f : Int → Int) (z : Int) (n : Nat) : Nat := match (List.range n).find? (fun k => itr f (k + 1) z == z) with | some k => k + 1 | none => 0
theorem perF_is {f : Int → Int} {z : Int} {n p : Nat} (hp : 1 ≤ p) (hn : p ≤ n) (h : itr f p z = z) : 0 < perF f z n ∧ perF f z n ≤ n ∧ itr f (perF f z n) z = z ∧ ∀ j, 0 < j → j < perF f z n → itr f j z ≠ z := by
  unfold perF
  cases hf : (List.range n).find? (fun k => itr f (k + 1) z == z) with
  | none =>
    exfalso
    have := List.find?_eq_none.1 hf (p - 1) (List.mem_range.2 (by omega))
    rw [show p - 1 + 1 = p by omega, h] at this
    simp at this
  | some k =>
    rw [List.find?_range_eq_some] at hf
    obtain ⟨h1, h2, h3⟩ := hf
    have h2 := List.mem_range.1 h2
    refine ⟨Nat.succ_pos _, h2, by simpa using h1, fun j hj hlt hc => ?_⟩
    have hlt' : j < k + 1 := hlt
    have := h3 (j - 1) (by omega)
    rw [show j - 1 + 1 = j by omega, hc] at this
    simp at this
/-- What the program tells of a ring. -/
def cycR (es : List S42) (b : Int → Int) (n : Nat) (v : Int) : List Int := (ringL es b (itr (parr es b) n v) (perF (parr es b) (itr (parr es b) n v) n)).reverse
/-- A chain back is a way. -/
theorem chain_way {es : List S42} {F B : Int} {s : Sta} (hI : Inv es F B s) {u : Int} : ∀ (k : Nat), (∀ j, j < k → 0 ≤ s.b (itr (parr es s.b) j u) ∧ s.b (itr (parr es s.b) j u) < es.length) →
    ∃ x l, pw es s.b k u = some (itr (parr es s.b) k u, x) ∧ Way es (itr (parr es s.b) k u) l u x ∧ l.map (fun i : Nat => (i : Int)) = (ringL es s.b u k).reverse
  | 0, _ => ⟨0, [], rfl, ⟨rfl, rfl⟩, rfl⟩
  | k + 1, h => by
    obtain ⟨x, l, h1, h2, h3⟩ := chain_way hI k (fun j hj => h j (by omega))
    obtain ⟨g1, g2⟩ := h k (Nat.lt_succ_self k)
    rcases hI.par (itr (parr es s.b) k u) with h4 | ⟨i, e, h4, h5, h6, _⟩
    · omega
    · have he := eb_of h4 h5
      have hn := pw_next h1 he
      have hp : itr (parr es s.b) (k + 1) u = e.f0 := by
        show (rd_T42 es (s.b (itr (parr es s.b) k u))).f0 = e.f0
        rw [(eb_some he).2.2]
      refine ⟨x + e.f2, i :: l, by rw [hp]; exact hn, ⟨e, h5, hp.symm, ?_⟩, ?_⟩
      · rw [h6, show x + e.f2 - e.f2 = x by omega]
        exact h2
      · rw [ringL_succ, List.reverse_append, List.map_cons, h3, h4]
        rfl
/-- The ring that is told: it is one, its sum is below 0, and it can be reached. -/
theorem cycR_way {es : List S42} {n : Nat} {F B : Int} {d b : Int → Int} {last v : Int} (hR : RightE es n) (hI : Inv es F B ⟨d, b, last⟩) (hv0 : 0 ≤ v) (hv1 : v < n) (hd : d v ≠ 1152921504606846976) (hall : ∀ k, k ≤ n → ∃ q, pw es b k v = some q) :
    OkB es b n v ∧ (0 < perF (parr es b) (itr (parr es b) n v) n ∧ perF (parr es b) (itr (parr es b) n v) n ≤ n ∧ itr (parr es b) (perF (parr es b) (itr (parr es b) n v) n) (itr (parr es b) n v) = itr (parr es b) n v ∧ ∀ j, 0 < j → j < perF (parr es b) (itr (parr es b) n v) n → itr (parr es b) j (itr (parr es b) n v) ≠ itr (parr es b) n v) ∧
    ∃ z l s l0 x, Way es z l z s ∧ s < 0 ∧ l ≠ [] ∧ l.length ≤ n ∧ l.map (fun i : Nat => (i : Int)) = cycR es b n v ∧ Way es F l0 z x := by
  obtain ⟨z, x, p, s, h1, h2, h3, h4, h5, h6, l0, h7⟩ := ring_way hR hI hv0 hv1 hd hall
  obtain ⟨g1, g2, g3⟩ := ring_ok hR hv0 hv1 h1 h2 h4
  have hper := perF_is h2 h3 g3
  rw [g2] at hper
  refine ⟨g1, hper, ?_⟩
  obtain ⟨y, l, k1, k2, k3⟩ := chain_way (s := ⟨d, b, last⟩) hI (u := z) (perF (parr es b) z n) (fun j _ => by
    have := g1 (n + j)
    rw [itr_add, ← g2] at this
    exact ⟨this.2.2.1, this.2.2.2⟩)
  rw [← g2] at hper
  have hz : itr (parr es b) (perF (parr es b) z n) z = z := hper.2.2.1
  have k1' : pw es b (perF (parr es b) z n) z = some (itr (parr es b) (perF (parr es b) z n) z, y) := k1
  have k2' : Way es (itr (parr es b) (perF (parr es b) z n) z) l z y := k2
  rw [hz] at k1' k2'
  have hlen : l.length = perF (parr es b) z n := by
    have := congrArg List.length k3
    rw [List.length_map, List.length_reverse, ringL_length] at this
    exact this
  refine ⟨z, l, y, l0, _, k2', ?_, ?_, by rw [hlen]; exact hper.2.1, ?_, h7⟩
  · obtain ⟨q, hq⟩ : ∃ q, perF (parr es b) z n = q + 1 := ⟨perF (parr es b) z n - 1, by have := hper.1; omega⟩
    rw [hq] at k1'
    exact hI.neg q z y k1'
  · intro h
    rw [h] at hlen
    have := hper.1
    simp at hlen
    omega
  · rw [k3]
    unfold cycR
    rw [← g2]
end Go.Proofs.Ytenjncmljmgcdaa.P
