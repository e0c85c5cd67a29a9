/- The search: solve, and what Solve gives. -/
import Derived.Test.YtenjncmljmgcdaaCycle
namespace Go.Proofs.Ytenjncmljmgcdaa.P
open Go.Proofs.YtenjncmljmgcdaaR
open Go.Shelf Go.RowKit Go.Proofs.YtenjncmljmgcdaaW.PrintWords Go.Proofs.YtenjncmljmgcdaaW.PrintLast Go.Proofs.YtenjncmljmgcdaaW.PrintMore
set_option linter.unusedVariables false
set_option linter.unusedSimpArgs false
set_option maxHeartbeats 8000000
set_option maxRecDepth 100000
theorem rnd_bd {n : Int} : ∀ (r : List S42) (i : Nat) (B : Int) (s : Sta), (∀ e ∈ r, -2199023255552 ≤ e.f2 ∧ e.f2 ≤ 2199023255552) → Bd B s.d → Bd (B + 2199023255552 * (r.length : Int)) (rnd r i s).d
  | [], i, B, s, hr, h => by rw [List.length_nil, show B + 2199023255552 * ((0 : Nat) : Int) = B by omega]; exact h
  | e :: r, i, B, s, hr, h => by
    have h1 := relax_bd (n := n) (i := i) (hr e List.mem_cons_self) h
    have h2 := rnd_bd (n := n) r (i + 1) _ (relax i e s) (fun e' he' => hr e' (List.mem_cons_of_mem _ he')) h1
    rw [List.length_cons, show B + 2199023255552 * ((r.length + 1 : Nat) : Int) = B + 2199023255552 + 2199023255552 * (r.length : Int) by omega]
    exact h2
/-- What solve leaves. -/
def SolvePost (w : World) (A : Option Addr) (m c n : Nat) (l : List S42) (e : Ending) (w' : World) : Res → Prop
  | .ok d b => ∃ p gd gb, e = .returned (.tuple #[.pointer (some ⟨p, 0, none⟩), .slice none 0 0]) ∧ w.heap.size ≤ p ∧ w.heap.size ≤ gd ∧ w.heap.size ≤ gb ∧ StAt w' p gd gb A m c n d b ∧ Below w.heap.size w w'
  | .cyc b v => ∃ u, e = .returned (.tuple #[.pointer none, u]) ∧ Kd.R (Kd.int .i64) 3 w' w.heap.size (fun _ => True) u (cycR l b n v) ∧ Below w.heap.size w w'
theorem cycle_of_ends {p gd gb : Nat} {A : Option Addr} {c n : Nat} {l : List S42} {F : Int} {d b : Int → Int} {v : Int} (hn : n ≤ 100000) (hlen : l.length ≤ 1000000) (hR : RightE l n) (he : Ends l n F (.cyc b v))
    (w0 w : World) (hS : StAt w p gd gb A l.length c n d b) (hE : Kd.C k42 w0 A l.length l) (hB : Below w0.heap.size w0 w) :
    Calls Try.prog 31 #[.pointer (some ⟨p, 0, none⟩), .int .i64 v] w fun e w' => ∃ u, e = .returned u ∧ Kd.R (Kd.int .i64) 3 w' w0.heap.size (fun _ => True) u (cycR l b n v) ∧ Below w0.heap.size w0 w' := by
  obtain ⟨B, d', last, h1, h2, h3, h4, h5⟩ := he
  obtain ⟨g1, ⟨g2, g3, g4, g5⟩, _⟩ := cycR_way hR h1 h2 h3 h4 h5
  refine (diff_cycle.calls (c := c) hn hlen g1 rfl g2 g3 g4 g5 w hS (Kd.C_below hE hB)).mono ?_
  rintro e w' ⟨u, rfl, hR', hB'⟩
  exact ⟨u, rfl, Kd.R_lower hR' hB.size, hB.trans (hB'.mono hB.size)⟩
theorem diff_solve.calls {A : Option Addr} {c n : Nat} {l : List S42} {F : Int} (h0 : 0 < n) (hn : n ≤ 100000) (hlen : l.length ≤ 1000000) (hc : l.length ≤ c) (hR : RightE l n) (hF0 : 0 ≤ F) (hF1 : F < n)
    (hcap : 2199023255552 * ((n * l.length : Nat) : Int) + 2199023255552 < 1152921504606846976) (w : World) (hE : Kd.C k42 w A l.length l) :
    Calls Try.prog 20 #[.int .i64 (n : Int), .slice A l.length c, .int .i64 F] w fun e w' => SolvePost w A l.length c n l e w' (solveR l n F) := by
  have hends := solve_ends (F := F) hR h0 hn hcap
  have C1 := Aside0.mk (diff_start.calls A l.length c n F h0 hn hF0 hF1)
  have HEnd := Aside0.mk hends
  have HE := Aside0.mk hE
  have HR := Aside0.mk hR
  have HN := Aside0.mk (And.intro h0 (And.intro hn (And.intro hlen (And.intro hc hcap))))
  have HRes := Aside0.mk (show slv l n n (start F) = solveR l n F from rfl)
  have hFA : ∀ ad, A = some ad → 0 < l.length → ad.block < w.heap.size := by
    intro ad ha hm
    obtain ⟨ad', h1, h2, _⟩ := at_T42 hE 0 (by omega) (by omega)
    rw [ha] at h1
    cases h1
    have := World.block_lt_of_cell? w _ h2
    rw [add_block] at this
    exact this
  have HFA := Aside0.mk hFA
  generalize solveR l n F = res at HEnd HRes ⊢
  obtain ⟨m, hm⟩ : ∃ m, m = l.length := ⟨_, rfl⟩
  have HM := Aside0.mk hm
  rw [← hm] at C1 ⊢
  clear hends hE hR h0 hn hlen hc hcap hFA hm hF0 hF1
  go_enter Try.func20, Try.ntmps20
  go_wp2_with (first | (go_at_call 28; refine (C1.out _).mono ?_; rintro e w1 ⟨p, gd, gb, rfl, hp, hgd, hgb, hS, hB⟩; have S1 := Aside0.mk hS; have G1 := Aside0.mk (And.intro hp (And.intro hgd hgb)); have B1 := Aside0.mk hB; clear hS hp hgd hgb hB))
  go_loopg [9, 10, 17] n (fun gg v9 v10 v17 wr => ∃ (r k : Nat) (s : Sta), v17 = .int .i64 (r : Int) ∧ v9 = .int .i64 s.last ∧ r + k = n ∧ k ≤ gg ∧ Aside0 (slv l n k s = res) ∧ Aside0 (Bd (2199023255552 * ((r * l.length : Nat) : Int)) s.d) ∧ Aside0 (StAt wr p gd gb A m c n s.d s.b) ∧ Aside0 (Below w.heap.size w wr))
  case atStart => exact ⟨0, n, start F, rfl, rfl, by omega, Nat.le_refl _, HRes, ⟨by rw [Nat.zero_mul]; exact (start_inv (es := l) (F := F)).bd⟩, S1, B1⟩
  case round =>
    clear S1 B1
    obtain ⟨r, k, s, rfl, rfl, hrk, hg, HSlv, HBd, HS, HB⟩ := hrel
    cases k with
    | zero =>
      have c1 : decide ((r : Int) < (n : Int)) = false := by simp; omega
      have hres : res = .cyc s.b s.last := HSlv.out.symm
      have hends := HEnd.out
      rw [hres] at hends
      have hS := HS.out
      rw [HM.out] at hS
      have hE := HE.out
      have C2 := cycle_of_ends HN.out.2.1 HN.out.2.2.1 HR.out hends w wr hS hE HB.out
      have C2 := Aside0.mk C2
      have HRs := Aside0.mk hres
      clear hres hends hS hE
      go_wp2_with (first | (go_at_call 31; refine C2.out.mono ?_; rintro e w2 ⟨u, rfl, hR2, hB2⟩; have R2 := Aside0.mk hR2; have B2 := Aside0.mk hB2; clear hR2 hB2))
      go_ret2
      rw [HRs.out]
      exact ⟨u, rfl, R2.out, B2.out⟩
    | succ k =>
      have c1 : decide ((r : Int) < (n : Int)) = true := by simp; omega
      have w1 : wrap64 ((r : Int) + 1) = (r : Int) + 1 := by have := HN.out; unfold wrap64; omega
      have hrm : (r + 1) * l.length ≤ n * l.length := Nat.mul_le_mul_right _ (by omega)
      have hadd : 2199023255552 * ((r * l.length : Nat) : Int) + 2199023255552 * (l.length : Int) = 2199023255552 * (((r + 1) * l.length : Nat) : Int) := by
        rw [Nat.add_mul, Nat.one_mul]
        omega
      have hcapr : 2199023255552 * ((r * l.length : Nat) : Int) + 2199023255552 * (l.length : Int) < 1152921504606846976 := by have := HN.out.2.2.2.2; omega
      have hS := HS.out
      have hE := Kd.C_below HE.out HB.out
      rw [HM.out] at hS
      have CR := diff_round.calls (HN.out.2.2.2.1) HR.out HBd.out hcapr (by omega) wr hS hE (fun hpos ad ha => by
        have h1 := HFA.out ad ha hpos
        have h2 := G1.out
        exact ⟨by omega, by omega⟩)
      have hbd2 := rnd_bd (n := (n : Int)) l 0 _ ⟨s.d, s.b, -1⟩ (fun e he => (HR.out e he).2.2.2.2) HBd.out
      rw [hadd] at hbd2
      have hslv := HSlv.out
      unfold slv at hslv
      generalize rnd l 0 ⟨s.d, s.b, -1⟩ = t at CR hbd2 hslv
      rw [← HM.out] at CR
      have CR := Aside0.mk CR
      have HBd2 := Aside0.mk hbd2
      clear hS hE hrm hadd hcapr hbd2 HSlv
      obtain ⟨la, hla⟩ : ∃ la, la = t.last := ⟨_, rfl⟩
      have HLa := Aside0.mk hla
      rw [← hla] at CR hslv
      by_cases hl1 : la = -1
      · rw [if_pos hl1] at hslv
        have c2 : (la == -1) = true := by simp [hl1]
        have HRs := Aside0.mk hslv
        clear hslv hl1 hla
        go_wp2_with (first | (go_at_call 29; refine CR.out.mono ?_; rintro e w2 ⟨rfl, hS2, hK2⟩; have S2 := Aside0.mk hS2; have K2 := Aside0.mk hK2; clear hS2 hK2))
        go_ret2
        rw [← HRs.out]
        exact ⟨p, gd, gb, rfl, G1.out.1, G1.out.2.1, G1.out.2.2, S2.out, HB.out.trans (K2.out.below HB.out.size G1.out.2.1 G1.out.2.2)⟩
      · rw [if_neg hl1] at hslv
        have c2 : (la == -1) = false := by simpa using hl1
        have CL := Aside0.mk (fun (w3 : World) (h : StAt w3 p gd gb A m c n t.d t.b) => diff_low.calls HN.out.2.1 w3 h)
        have HLow := Aside0.mk (show low t.d n = low t.d n from rfl)
        by_cases hl2 : low t.d n = -1
        · rw [if_pos hl2] at hslv
          rw [hl2] at CL
          have HSlv := Aside0.mk hslv
          clear hslv hl1 hl2 hla HLow
          go_wp2_with (first
            | (go_at_call 29; refine CR.out.mono ?_; rintro e w2 ⟨rfl, hS2, hK2⟩; have S2 := Aside0.mk hS2; have B2 := Aside0.mk (HB.out.trans (hK2.below HB.out.size G1.out.2.1 G1.out.2.2)); clear hS2 hK2)
            | (go_at_call 30; refine (CL.out _ S2.out).mono ?_; rintro e w3 ⟨rfl, hB3⟩; have S3 := Aside0.mk (S2.out.below hB3); have B3 := Aside0.mk (B2.out.trans (hB3.mono B2.out.size)); clear hB3))
          go_roundg k
          case measure => omega
          case rel => exact ⟨r + 1, k, t, by first | rfl | go_num, by rw [HLa.out], by omega, Nat.le_refl _, HSlv, HBd2, S3, B3⟩
        · rw [if_neg hl2] at hslv
          have hends := HEnd.out
          rw [← hslv] at hends
          have CC := Aside0.mk (fun (w3 : World) (hS3 : StAt w3 p gd gb A l.length c n t.d t.b) (hB3 : Below w.heap.size w w3) => cycle_of_ends HN.out.2.1 HN.out.2.2.1 HR.out hends w w3 hS3 HE.out hB3)
          obtain ⟨lo, hlo⟩ : ∃ lo, lo = low t.d n := ⟨_, rfl⟩
          rw [← hlo] at CL CC hl2 hslv
          have c3 : (lo != -1) = true := by simpa using hl2
          have c4 : (lo == -1) = false := by simpa using hl2
          have HRs := Aside0.mk hslv
          clear hslv hl1 hl2 hla HLow hends hlo
          go_wp2_with (first
            | (go_at_call 29; refine CR.out.mono ?_; rintro e w2 ⟨rfl, hS2, hK2⟩; have S2 := Aside0.mk hS2; have B2 := Aside0.mk (HB.out.trans (hK2.below HB.out.size G1.out.2.1 G1.out.2.2)); clear hS2 hK2)
            | (go_at_call 30; refine (CL.out _ S2.out).mono ?_; rintro e w3 ⟨rfl, hB3⟩; have S3 := Aside0.mk (S2.out.below hB3); have B3 := Aside0.mk (B2.out.trans (hB3.mono B2.out.size)); clear hB3)
            | (go_at_call 31; refine (CC.out _ (by have h := S3.out; rw [HM.out] at h; exact h) B3.out).mono ?_; rintro e w4 ⟨u, rfl, hR4, hB4⟩; have R4 := Aside0.mk hR4; have B4 := Aside0.mk hB4; clear hR4 hB4))
          go_ret2
          rw [← HRs.out]
          exact ⟨u, rfl, R4.out, B4.out⟩
end Go.Proofs.Ytenjncmljmgcdaa.P
/- What Solve gives. -/
namespace Go.Proofs.Ytenjncmljmgcdaa.P
open Go.Proofs.YtenjncmljmgcdaaR
open Go.Shelf Go.RowKit Go.Proofs.YtenjncmljmgcdaaW.PrintWords Go.Proofs.YtenjncmljmgcdaaW.PrintLast Go.Proofs.YtenjncmljmgcdaaW.PrintMore
set_option linter.unusedVariables false
set_option linter.unusedSimpArgs false
set_option maxHeartbeats 8000000
set_option maxRecDepth 100000
theorem R_of_blk {w : World} {g n base : Nat} {d : Int → Int} {t : TypeId} (h : w.heap[g]? = some (.cells (vecA n d) t (0, 0))) (hg : base ≤ g) (hn : n ≤ 100000) :
    Kd.R (Kd.int .i64) t w base (fun _ => True) (.slice (some ⟨g, 0, none⟩) n n) (vec n d) := by
  have hl : (vecA n d).toList = (vec n d).map fun x => Value.int .i64 x := by unfold vecA; rfl
  refine ⟨fun _ _ => trivial, (vecA n d).toList, ⟨?_, .inr ⟨g, n, vecA n d, by rw [vec_length], hg, h, ?_, ?_, ?_, ?_⟩⟩, ?_, fun j p hj => ?_⟩
  · rw [hl, List.length_map]; exact (Nat.mul_one _).symm
  · rw [vec_length]; exact Nat.le_refl _
  · show n ≤ 9223372036854775807; omega
  · rw [vecA_size]; exact (Nat.mul_one _).symm
  · rw [vec_length]
    refine List.take_of_length_le ?_
    rw [Array.length_toList, vecA_size]
    exact Nat.le_of_eq (Nat.mul_one n).symm
  · rw [hl, List.length_map]; exact (Nat.mul_one _).symm
  · show ((vecA n d).toList.drop (j * 1)).take 1 = [.int .i64 p]
    rw [hl, Nat.mul_one]
    have hj2 : ((vec n d).map fun x => Value.int .i64 x)[j]? = some (.int .i64 p) := by rw [List.getElem?_map, hj]; rfl
    obtain ⟨hlt, hv⟩ := List.getElem?_eq_some_iff.1 hj2
    rw [List.drop_eq_getElem_cons hlt, hv]
    rfl
/-- All bounds hold. -/
theorem right_of {n : Int} {es : List S42} (h : rightB n es = true) : 0 < n ∧ n ≤ 4098 ∧ RightE es n := by
  unfold rightB at h
  rw [Bool.and_eq_true, Bool.not_eq_true', Bool.not_eq_true'] at h
  obtain ⟨h1, h2⟩ := h
  rw [Bool.or_eq_false_iff, Bool.or_eq_false_iff] at h1
  have k1 := of_decide_eq_false h1.1.1
  have k2 := of_decide_eq_false h1.1.2
  refine ⟨by omega, by omega, fun e he => ?_⟩
  have := List.any_eq_false.1 h2 e he
  unfold badE at this
  simp only [Bool.or_eq_true, decide_eq_true_eq, not_or] at this
  omega
/-- What Solve hands back. -/
def solveV (n : Int) (l : List S42) (F : Int) : List Int × List Int × Int :=
  if rightB n l = true ∧ 0 ≤ F ∧ F < n then (match solveR l n.toNat F with | .ok d b => (vec n.toNat d, [], 0) | .cyc b v => ([], cycR l b n.toNat v, 0)) else ([], [], 1)
def solveF (n : Int) (l : List S42) (F : Int) : Option (List Int × List Int × Int) := if n ≤ 60 ∧ l.length ≤ 300 then some (solveV n l F) else none
theorem cap_ok {n m : Nat} (hn : n ≤ 60) (hm : m ≤ 300) : 2199023255552 * ((n * m : Nat) : Int) + 2199023255552 < 1152921504606846976 := by
  have := Nat.mul_le_mul hn hm
  omega
theorem diff_Solve.runs (n : Int) (A : Option Addr) (c : Nat) (l : List S42) (F : Int) (r1 r2 : List Int) (r3 : Int) (w : World) (hE : Kd.C k42 w A l.length l) (hc : l.length ≤ c) (h : solveF n l F = some (r1, r2, r3)) :
    Calls Try.prog 9 #[.int .i64 n, .slice A l.length c, .int .i64 F] w fun e w' => ∃ v0_ v1_ : Value, e = .returned (.tuple #[v0_, v1_, .int .i64 r3]) ∧ Kd.R (Kd.int .i64) 2 w' w.heap.size (fun _ => True) v0_ r1 ∧ Kd.R (Kd.int .i64) 3 w' w.heap.size (fun _ => True) v1_ r2 ∧ Below w.heap.size w w' := by
  unfold solveF at h
  by_cases hg : n ≤ 60 ∧ l.length ≤ 300
  · rw [if_pos hg] at h
    have h := Option.some.inj h
    have CR := diff_Right.runs n A c l w hE hc
    unfold solveV at h
    by_cases hr : rightB n l = true ∧ 0 ≤ F ∧ F < n
    · rw [if_pos hr] at h
      obtain ⟨hr1, hF0, hF1⟩ := hr
      obtain ⟨hn0, hn1, hR⟩ := right_of hr1
      obtain ⟨m, rfl⟩ : ∃ m : Nat, n = m := ⟨n.toNat, by omega⟩
      rw [Int.toNat_natCast] at h
      have CS := fun (w1 : World) (hB : Below w.heap.size w w1) => diff_solve.calls (c := c) (by omega) (by omega) (by omega) hc hR hF0 hF1 (cap_ok (by omega) hg.2) w1 (Kd.C_below hE hB)
      rw [hr1] at CR
      have CR := Aside0.mk CR
      have d1 : decide (F < 0) = false := by simp; omega
      have d2 : decide (F ≥ (m : Int)) = false := by simp; omega
      have d3 : decide ((m : Int) ≤ F) = false := by simp; omega
      have HM := Aside0.mk (show m ≤ 100000 by omega)
      cases hres : solveR l m F with
      | ok d b =>
        rw [hres] at h
        have h : (vec m d, ([] : List Int), (0 : Int)) = (r1, r2, r3) := h
        obtain ⟨q1, q2⟩ := Prod.mk.inj h
        obtain ⟨q3, q4⟩ := Prod.mk.inj q2
        clear h q2
        subst q1 q3 q4
        simp only [hres, SolvePost] at CS
        have CS := Aside0.mk CS
        clear hE hc hg hr1 hF0 hF1 hn0 hn1 hR hres
        generalize l.length = ln at CR CS ⊢
        go_enter Try.func9, Try.ntmps9
        go_wp2_with (first
          | (go_at_call 11; refine CR.out.mono ?_; rintro e w1 ⟨rfl, hB1⟩; have B1 := Aside0.mk hB1; clear hB1)
          | (go_at_call 20; refine (CS.out _ B1.out).mono ?_; rintro e w2 ⟨p, gd, gb, rfl, hp, hgd, hgb, hS, hB2⟩; have l1 : w2.cell? ⟨p, 1, none⟩ = some (.slice (some ⟨gd, 0, none⟩) m m) := (blk_cell hS.blkP 1).trans rfl; have S2 := Aside0.mk hS; have G2 := Aside0.mk hgd; have B2 := Aside0.mk hB2; clear hS hp hgd hgb hB2))
        go_ret3
        exact ⟨_, _, rfl, R_of_blk S2.out.blkD (Nat.le_trans B1.out.size G2.out) HM.out, Kd.R_nil _ _ _ _ _, B1.out.trans (B2.out.mono B1.out.size)⟩
      | cyc b v =>
        rw [hres] at h
        have h : (([] : List Int), cycR l b m v, (0 : Int)) = (r1, r2, r3) := h
        obtain ⟨q1, q2⟩ := Prod.mk.inj h
        obtain ⟨q3, q4⟩ := Prod.mk.inj q2
        clear h q2
        subst q1 q3 q4
        simp only [hres, SolvePost] at CS
        generalize cycR l b m v = ring at CS ⊢
        have CS := Aside0.mk CS
        clear hE hc hg hr1 hF0 hF1 hn0 hn1 hR hres
        generalize l.length = ln at CR CS ⊢
        go_enter Try.func9, Try.ntmps9
        go_wp2_with (first
          | (go_at_call 11; refine CR.out.mono ?_; rintro e w1 ⟨rfl, hB1⟩; have B1 := Aside0.mk hB1; clear hB1)
          | (go_at_call 20; refine (CS.out _ B1.out).mono ?_; rintro e w2 ⟨u, rfl, hR2, hB2⟩; have R2 := Aside0.mk hR2; have B2 := Aside0.mk hB2; clear hR2 hB2))
        go_ret3
        exact ⟨_, _, rfl, Kd.R_nil _ _ _ _ _, Kd.R_lower R2.out B1.out.size, B1.out.trans (B2.out.mono B1.out.size)⟩
    · rw [if_neg hr] at h
      have h : (([] : List Int), ([] : List Int), (1 : Int)) = (r1, r2, r3) := h
      obtain ⟨q1, q2⟩ := Prod.mk.inj h
      obtain ⟨q3, q4⟩ := Prod.mk.inj q2
      clear h q2
      subst q1 q3 q4
      have hcase : rightB n l = false ∨ decide (F < 0) = true ∨ (decide (F < 0) = false ∧ decide (F ≥ n) = true) := by
        cases hb : rightB n l with
        | false => exact .inl rfl
        | true =>
          by_cases h1 : F < 0
          · exact .inr (.inl (decide_eq_true h1))
          · exact .inr (.inr ⟨decide_eq_false h1, decide_eq_true (by
              refine Int.not_lt.1 fun h2 => hr ⟨hb, by omega, h2⟩)⟩)
      clear hE hc hg hr
      generalize rightB n l = rb at CR hcase
      generalize l.length = ln at CR ⊢
      have CR := Aside0.mk CR
      rcases hcase with rfl | d1 | ⟨d1, d2⟩
      · go_enter Try.func9, Try.ntmps9
        go_wp2_with (first | (go_at_call 11; refine CR.out.mono ?_; rintro e w1 ⟨rfl, hB1⟩; have B1 := Aside0.mk hB1; clear hB1))
        go_ret3
        exact ⟨_, _, rfl, Kd.R_nil _ _ _ _ _, Kd.R_nil _ _ _ _ _, B1.out⟩
      · cases rb
        all_goals
          go_enter Try.func9, Try.ntmps9
          go_wp2_with (first | (go_at_call 11; refine CR.out.mono ?_; rintro e w1 ⟨rfl, hB1⟩; have B1 := Aside0.mk hB1; clear hB1))
          go_ret3
          exact ⟨_, _, rfl, Kd.R_nil _ _ _ _ _, Kd.R_nil _ _ _ _ _, B1.out⟩
      · have d3 : decide (n ≤ F) = true := d2
        cases rb
        all_goals
          go_enter Try.func9, Try.ntmps9
          go_wp2_with (first | (go_at_call 11; refine CR.out.mono ?_; rintro e w1 ⟨rfl, hB1⟩; have B1 := Aside0.mk hB1; clear hB1))
          go_ret3
          exact ⟨_, _, rfl, Kd.R_nil _ _ _ _ _, Kd.R_nil _ _ _ _ _, B1.out⟩
  · rw [if_neg hg] at h
    cases h
end Go.Proofs.Ytenjncmljmgcdaa.P
/- What Way gives. -/
namespace Go.Proofs.Ytenjncmljmgcdaa.P
open Go.Proofs.YtenjncmljmgcdaaR
open Go.Shelf Go.RowKit Go.Proofs.YtenjncmljmgcdaaW.PrintWords Go.Proofs.YtenjncmljmgcdaaW.PrintLast Go.Proofs.YtenjncmljmgcdaaW.PrintMore
set_option linter.unusedVariables false
set_option linter.unusedSimpArgs false
set_option maxHeartbeats 8000000
set_option maxRecDepth 100000
/-- How long a chain back is. -/
def chainL (es : List S42) (b : Int → Int) (T : Int) (n : Nat) : Nat := match (List.range n).find? (fun k => b (itr (parr es b) k T) == -1) with | some k => k | none => 0
theorem chain_end {es : List S42} {n : Nat} {F B : Int} {s : Sta} (hR : RightE es n) (hI : Inv es F B s) (hD : Dist es F s.d) {T : Int} (h0 : 0 ≤ T) (h1 : T < n) (hT : s.d T ≠ 1152921504606846976) :
    ∃ q, q < n ∧ s.b (itr (parr es s.b) q T) = -1 ∧ (∀ k, k < q → 0 ≤ s.b (itr (parr es s.b) k T) ∧ s.b (itr (parr es s.b) k T) < es.length) ∧ ∃ l, Way es F l T (s.d T) ∧ l.length = q ∧ l.map (fun i : Nat => (i : Int)) = (ringL es s.b T q).reverse := by
  have hex : ∃ k, k ≤ n ∧ pw es s.b k T = none := by
    refine Classical.byContradiction fun hc => ?_
    have hall : ∀ k, k ≤ n → ∃ q, pw es s.b k T = some q := fun k hk => by
      cases hp : pw es s.b k T with
      | none => exact absurd ⟨k, hk, hp⟩ hc
      | some q => exact ⟨q, rfl⟩
    obtain ⟨⟨z, x⟩, hz⟩ := hall n (Nat.le_refl _)
    obtain ⟨p, t, p1, p2, p3⟩ := ring hR h0 h1 hz
    obtain ⟨p', rfl⟩ : ∃ p', p = p' + 1 := ⟨p - 1, by omega⟩
    have hneg := hI.neg p' z t p3
    obtain ⟨g1, _, _⟩ := hI.chain n hz hT
    obtain ⟨l0, hl0⟩ := hI.way z g1
    obtain ⟨_, _, l1, _, hl1⟩ := hI.chain (p' + 1) p3 g1
    have := hD.no_ring hl0 hl1
    omega
  obtain ⟨k, hk, hn⟩ := hex
  -- the least such k
  have hleast : ∃ k, k ≤ n ∧ pw es s.b k T = none ∧ ∀ j, j < k → ∃ q, pw es s.b j T = some q := by
    induction k using Nat.strongRecOn with
    | _ k ih =>
      by_cases hc : ∃ j, j < k ∧ pw es s.b j T = none
      · obtain ⟨j, hj, hjn⟩ := hc
        exact ih j hj (by omega) hjn
      · refine ⟨k, hk, hn, fun j hj => ?_⟩
        cases hp : pw es s.b j T with
        | none => exact absurd ⟨j, hj, hp⟩ hc
        | some q => exact ⟨q, rfl⟩
  obtain ⟨k, hk, hn, hall⟩ := hleast
  cases k with
  | zero => cases hn
  | succ q =>
    obtain ⟨⟨y, x⟩, hq⟩ := hall q (Nat.lt_succ_self q)
    obtain ⟨e1, e2⟩ := pw_itr q hq
    obtain ⟨g1, g2, l0, g3, g4⟩ := hI.chain q hq hT
    have hb : s.b y = -1 := by
      rcases hI.par y with h | ⟨i, e, h4, h5, _⟩
      · exact h
      · have := pw_next hq (eb_of h4 h5)
        rw [hn] at this
        cases this
    have hroot := hI.root y hb
    have hyF : y = F := by
      refine Classical.byContradiction fun hc => ?_
      rw [if_neg hc] at hroot
      exact g1 hroot
    rw [if_pos hyF] at hroot
    obtain ⟨x', l, k1, k2, k3⟩ := chain_way hI (u := T) q e2
    rw [hq] at k1
    have hxx : x' = x := by
      have := Option.some.inj k1
      exact (congrArg Prod.snd this).symm
    subst hxx
    rw [← e1, hyF] at k2
    have := (hD.least l T x' k2).2
    have hx : x' = s.d T := by omega
    refine ⟨q, by omega, by rw [← e1]; exact hb, e2, l, by rw [← hx]; exact k2, ?_, k3⟩
    have := congrArg List.length k3
    rw [List.length_map, List.length_reverse, ringL_length] at this
    exact this
theorem chainL_is {es : List S42} {b : Int → Int} {T : Int} {n q : Nat} (hq : q < n) (h : b (itr (parr es b) q T) = -1) (hall : ∀ k, k < q → 0 ≤ b (itr (parr es b) k T)) : chainL es b T n = q := by
  unfold chainL
  have : (List.range n).find? (fun k => b (itr (parr es b) k T) == -1) = some q := by
    rw [List.find?_range_eq_some]
    refine ⟨by simp [h], List.mem_range.2 hq, fun j hj => ?_⟩
    have := hall j hj
    have : b (itr (parr es b) j T) ≠ -1 := by omega
    simpa using this
  rw [this]
/-- What Way hands back. -/
def wayV (n : Int) (l : List S42) (F T : Int) : List Int × Int :=
  if rightB n l = true ∧ (0 ≤ F ∧ F < n) ∧ 0 ≤ T ∧ T < n then (match solveR l n.toNat F with
    | .ok d b => if d T = 1152921504606846976 then ([], 4) else ((ringL l b T (chainL l b T n.toNat)).reverse, 0)
    | .cyc _ _ => ([], 34)) else ([], 1)
def wayF (n : Int) (l : List S42) (F T : Int) : Option (List Int × Int) := if n ≤ 60 ∧ l.length ≤ 300 then some (wayV n l F T) else none
theorem inn_itr {es : List S42} {n : Nat} {b : Int → Int} {T : Int} (hR : RightE es n) (h0 : 0 ≤ T) (h1 : T < n) : ∀ (q : Nat), (∀ k, k < q → 0 ≤ b (itr (parr es b) k T) ∧ b (itr (parr es b) k T) < es.length) → 0 ≤ itr (parr es b) q T ∧ itr (parr es b) q T < n
  | 0, _ => ⟨h0, h1⟩
  | q + 1, h => by
    obtain ⟨g1, g2⟩ := h q (Nat.lt_succ_self q)
    have hlt : (b (itr (parr es b) q T)).toNat < es.length := by omega
    have := hR _ (List.getElem_mem hlt)
    show 0 ≤ (rd_T42 es (b (itr (parr es b) q T))).f0 ∧ (rd_T42 es (b (itr (parr es b) q T))).f0 < n
    unfold rd_T42
    rw [List.getD_eq_getElem?_getD, List.getElem?_eq_getElem hlt]
    exact ⟨this.1, this.2.1⟩
theorem diff_Way.bad (n : Int) (A : Option Addr) (c : Nat) (l : List S42) (F T : Int) (w : World) (hE : Kd.C k42 w A l.length l) (hc : l.length ≤ c) (hr : ¬ (rightB n l = true ∧ (0 ≤ F ∧ F < n) ∧ 0 ≤ T ∧ T < n)) :
    Calls Try.prog 15 #[.int .i64 n, .slice A l.length c, .int .i64 F, .int .i64 T] w fun e w' => e = .returned (.tuple #[.slice none 0 0, .int .i64 1]) ∧ Below w.heap.size w w' := by
  have CR := diff_Right.runs n A c l w hE hc
  have h1 : rightB n l = true → ¬ F < 0 → ¬ n ≤ F → ¬ T < 0 → n ≤ T := fun a1 a2 a3 a4 => by
    refine Int.not_lt.1 fun h => hr ⟨a1, ⟨by omega, by omega⟩, by omega, h⟩
  clear hE hc hr
  generalize rightB n l = rb at CR h1
  generalize l.length = ln at CR ⊢
  have CR := Aside0.mk CR
  cases rb
  · go_enter Try.func15, Try.ntmps15
    go_wp2_with (first | (go_at_call 11; refine CR.out.mono ?_; rintro e w1 ⟨rfl, hB1⟩; have B1 := Aside0.mk hB1; clear hB1))
    go_ret2
    exact ⟨rfl, B1.out⟩
  · cases d1 : decide (F < 0)
    · cases d2 : decide (n ≤ F)
      · cases d3 : decide (T < 0)
        · have h2 := h1 rfl (of_decide_eq_false d1) (of_decide_eq_false d2) (of_decide_eq_false d3)
          have d4 : decide (n ≤ T) = true := decide_eq_true h2
          clear h1 h2
          go_enter Try.func15, Try.ntmps15
          go_wp2_with (first | (go_at_call 11; refine CR.out.mono ?_; rintro e w1 ⟨rfl, hB1⟩; have B1 := Aside0.mk hB1; clear hB1))
          go_ret2
          exact ⟨rfl, B1.out⟩
        · clear h1
          go_enter Try.func15, Try.ntmps15
          go_wp2_with (first | (go_at_call 11; refine CR.out.mono ?_; rintro e w1 ⟨rfl, hB1⟩; have B1 := Aside0.mk hB1; clear hB1))
          go_ret2
          exact ⟨rfl, B1.out⟩
      · clear h1
        go_enter Try.func15, Try.ntmps15
        go_wp2_with (first | (go_at_call 11; refine CR.out.mono ?_; rintro e w1 ⟨rfl, hB1⟩; have B1 := Aside0.mk hB1; clear hB1))
        go_ret2
        exact ⟨rfl, B1.out⟩
    · clear h1
      go_enter Try.func15, Try.ntmps15
      go_wp2_with (first | (go_at_call 11; refine CR.out.mono ?_; rintro e w1 ⟨rfl, hB1⟩; have B1 := Aside0.mk hB1; clear hB1))
      go_ret2
      exact ⟨rfl, B1.out⟩
end Go.Proofs.Ytenjncmljmgcdaa.P
/- What Way gives, the walk. -/
namespace Go.Proofs.Ytenjncmljmgcdaa.P
open Go.Proofs.YtenjncmljmgcdaaR
open Go.Shelf Go.RowKit Go.Proofs.YtenjncmljmgcdaaW.PrintWords Go.Proofs.YtenjncmljmgcdaaW.PrintLast Go.Proofs.YtenjncmljmgcdaaW.PrintMore
set_option linter.unusedVariables false
set_option linter.unusedSimpArgs false
set_option maxHeartbeats 8000000
set_option maxRecDepth 100000
theorem diff_Way.runs (n : Int) (A : Option Addr) (c : Nat) (l : List S42) (F T : Int) (r1 : List Int) (r2 : Int) (w : World) (hE : Kd.C k42 w A l.length l) (hc : l.length ≤ c) (h : wayF n l F T = some (r1, r2)) :
    Calls Try.prog 15 #[.int .i64 n, .slice A l.length c, .int .i64 F, .int .i64 T] w fun e w' => ∃ v0_ : Value, e = .returned (.tuple #[v0_, .int .i64 r2]) ∧ Kd.R (Kd.int .i64) 3 w' w.heap.size (fun _ => True) v0_ r1 ∧ Below w.heap.size w w' := by
  unfold wayF at h
  by_cases hg : n ≤ 60 ∧ l.length ≤ 300
  · rw [if_pos hg] at h
    have h := Option.some.inj h
    unfold wayV at h
    by_cases hr : rightB n l = true ∧ (0 ≤ F ∧ F < n) ∧ 0 ≤ T ∧ T < n
    · rw [if_pos hr] at h
      obtain ⟨hr1, ⟨hF0, hF1⟩, hT0, hT1⟩ := hr
      have CR := diff_Right.runs n A c l w hE hc
      obtain ⟨hn0, hn1, hR⟩ := right_of hr1
      obtain ⟨m, rfl⟩ : ∃ m : Nat, n = m := ⟨n.toNat, by omega⟩
      rw [Int.toNat_natCast] at h
      have CS := fun (w1 : World) (hB : Below w.heap.size w w1) => diff_solve.calls (c := c) (by omega) (by omega) (by omega) hc hR hF0 hF1 (cap_ok (by omega) hg.2) w1 (Kd.C_below hE hB)
      have hends := solve_ends (F := F) hR (n := m) (by omega) (by omega) (cap_ok (by omega) hg.2)
      rw [hr1] at CR
      have CR := Aside0.mk CR
      have d1 : decide (F < 0) = false := by simp; omega
      have d3 : decide ((m : Int) ≤ F) = false := by simp; omega
      have d4 : decide (T < 0) = false := by simp; omega
      have d5 : decide ((m : Int) ≤ T) = false := by simp; omega
      have HM := Aside0.mk (show m ≤ 60 by omega)
      cases hres : solveR l m F with
      | cyc b v =>
        rw [hres] at h
        have h : (([] : List Int), (34 : Int)) = (r1, r2) := h
        obtain ⟨q1, q2⟩ := Prod.mk.inj h
        clear h
        subst q1 q2
        simp only [hres, SolvePost] at CS
        generalize cycR l b m v = ring at CS
        have CS := Aside0.mk CS
        clear hE hc hg hr1 hF0 hF1 hn0 hn1 hR hres hends hT0 hT1
        generalize l.length = ln at CR CS ⊢
        go_enter Try.func15, Try.ntmps15
        go_wp2_with (first
          | (go_at_call 11; refine CR.out.mono ?_; rintro e w1 ⟨rfl, hB1⟩; have B1 := Aside0.mk hB1; clear hB1)
          | (go_at_call 20; refine (CS.out _ B1.out).mono ?_; rintro e w2 ⟨u, rfl, hR2, hB2⟩; have B2 := Aside0.mk hB2; clear hR2 hB2))
        go_ret2
        exact ⟨_, rfl, Kd.R_nil _ _ _ _ _, B1.out.trans (B2.out.mono B1.out.size)⟩
      | ok d b =>
        rw [hres] at h hends
        obtain ⟨t, rfl⟩ : ∃ t : Nat, T = t := ⟨T.toNat, by omega⟩
        by_cases hfar : d (t : Int) = 1152921504606846976
        · have h : (if d (t : Int) = 1152921504606846976 then (([] : List Int), (4 : Int)) else ((ringL l b (t : Int) (chainL l b (t : Int) m)).reverse, 0)) = (r1, r2) := h
          rw [if_pos hfar] at h
          obtain ⟨q1, q2⟩ := Prod.mk.inj h
          clear h
          subst q1 q2
          simp only [hres, SolvePost] at CS
          have CS := Aside0.mk CS
          have HF := Aside0.mk hfar
          have HT := Aside0.mk (show t < m by omega)
          have p1 : (0 : Int) ≤ (t : Int) := by omega
          have p2 : (t : Int) < (m : Int) := by omega
          clear hE hc hg hr1 hF0 hF1 hn0 hn1 hR hres hends hT0 hT1 hfar
          generalize l.length = ln at CR CS ⊢
          go_enter Try.func15, Try.ntmps15
          go_wp2_with (first
            | (go_at_call 11; refine CR.out.mono ?_; rintro e w1 ⟨rfl, hB1⟩; have B1 := Aside0.mk hB1; clear hB1)
            | (go_at_call 20; refine (CS.out _ B1.out).mono ?_; rintro e w2 ⟨p, gd, gb, rfl, hp, hgd, hgb, hS, hB2⟩; have l1 : w2.cell? ⟨p, 1, none⟩ = some (.slice (some ⟨gd, 0, none⟩) m m) := (blk_cell hS.blkP 1).trans rfl; have l2 : w2.cell? ⟨gd, t, none⟩ = some (.int .i64 1152921504606846976) := (blk_cell hS.blkD t).trans (by rw [vecA_at d HT.out, HF.out]); have B2 := Aside0.mk hB2; clear hS hp hgd hgb hB2))
          go_ret2
          exact ⟨_, rfl, Kd.R_nil _ _ _ _ _, B1.out.trans (B2.out.mono B1.out.size)⟩
        · have h : (if d (t : Int) = 1152921504606846976 then (([] : List Int), (4 : Int)) else ((ringL l b (t : Int) (chainL l b (t : Int) m)).reverse, 0)) = (r1, r2) := h
          rw [if_neg hfar] at h
          obtain ⟨B, la, hb1, hI, hfix, hdF⟩ := hends
          have hD : Dist l F d := dist_of_fix hR hb1 hI.bd hfix hdF hI.way
          obtain ⟨q, hq, hbq, hchain, _⟩ := chain_end (s := ⟨d, b, la⟩) hR hI hD hT0 hT1 hfar
          have hbq : b (itr (parr l b) q (t : Int)) = -1 := hbq
          have hchain : ∀ k, k < q → 0 ≤ b (itr (parr l b) k (t : Int)) ∧ b (itr (parr l b) k (t : Int)) < l.length := hchain
          rw [chainL_is hq hbq (fun k hk => (hchain k hk).1)] at h
          obtain ⟨q1, q2⟩ := Prod.mk.inj h
          clear h
          subst q1 q2
          simp only [hres, SolvePost] at CS
          have CS := Aside0.mk CS
          have HQ := Aside0.mk (And.intro hq (And.intro hbq hchain))
          have HIN := Aside0.mk (fun (k : Nat) (hk : k ≤ q) => inn_itr (b := b) hR hT0 hT1 k (fun j hj => hchain j (by omega)))
          have HE := Aside0.mk hE
          have HX := Aside0.mk (show d (t : Int) ≠ 1152921504606846976 from hfar)
          have c2 : (d (t : Int) == 1152921504606846976) = false := by simpa using hfar
          have p1 : (0 : Int) ≤ (t : Int) := by omega
          have p2 : (t : Int) < (m : Int) := by omega
          have HT := Aside0.mk (show t < m by omega)
          obtain ⟨ln, hln⟩ : ∃ ln, ln = l.length := ⟨_, rfl⟩
          rw [← hln] at CR CS HE HQ ⊢
          have HL := Aside0.mk (And.intro hln hg.2)
          clear hE hc hg hr1 hF0 hF1 hn0 hn1 hR hres hT0 hT1 hfar hb1 hI hfix hdF hD hq hbq hchain hln
          go_enter Try.func15, Try.ntmps15
          go_wp2_with (first
            | (go_at_call 11; refine CR.out.mono ?_; rintro e w1 ⟨rfl, hB1⟩; have B1 := Aside0.mk hB1; clear hB1)
            | (go_at_call 20; refine (CS.out _ B1.out).mono ?_; rintro e w2 ⟨p, gd, gb, rfl, hp, hgd, hgb, hS, hB2⟩; have l1 : w2.cell? ⟨p, 1, none⟩ = some (.slice (some ⟨gd, 0, none⟩) m m) := (blk_cell hS.blkP 1).trans rfl; have l2 : w2.cell? ⟨gd, t, none⟩ = some (.int .i64 (d (t : Int))) := (blk_cell hS.blkD t).trans (vecA_at d HT.out); have S2 := Aside0.mk hS; have B2 := Aside0.mk (B1.out.trans (hB2.mono B1.out.size)); clear hS hp hgd hgb hB2))
          clear l1 l2 c2
          go_loopg [12, 13] q (fun gg v12 v13 wr => ∃ k : Nat, v13 = .int .i64 (itr (parr l b) k (t : Int)) ∧ k ≤ q ∧ q - k ≤ gg ∧ Aside0 (Kd.R (Kd.int .i64) 3 wr w2.heap.size (fun _ => True) v12 (ringL l b (t : Int) k)) ∧ Aside0 (Below w2.heap.size w2 wr))
          case atStart => exact ⟨0, rfl, Nat.zero_le _, Nat.le_refl _, ⟨Kd.R_nil _ _ _ _ _⟩, ⟨Below.refl _ _⟩⟩
          case round =>
            obtain ⟨k, rfl, hk, hg, HRow, HB⟩ := hrel
            have hS := S2.out.below HB.out
            obtain ⟨j1, j2⟩ := HIN.out k hk
            have l2 : wr.cell? ⟨p, 2, none⟩ = some (.slice (some ⟨gb, 0, none⟩) m m) := (blk_cell hS.blkP 2).trans rfl
            by_cases hkq : k < q
            · obtain ⟨j3, j4⟩ := HQ.out.2.2 k hkq
              have hnext : itr (parr l b) (k + 1) (t : Int) = (rd_T42 l (b (itr (parr l b) k (t : Int)))).f0 := rfl
              have hrow := ringL_succ l b (t : Int) k
              have HTT := Aside0.mk hnext
              have HW := Aside0.mk hrow
              clear hnext hrow
              generalize itr (parr l b) k (t : Int) = a at *
              obtain ⟨a, rfl⟩ : ∃ a' : Nat, a = a' := ⟨a.toNat, by omega⟩
              obtain ⟨i, hi⟩ : ∃ i : Nat, b (a : Int) = i := ⟨(b (a : Int)).toNat, by omega⟩
              rw [hi] at j3 j4 HTT HW
              have l3 : wr.cell? ⟨gb, a, none⟩ = some (.int .i64 (i : Int)) := by rw [← hi]; exact (blk_cell hS.blkB a).trans (vecA_at _ (by omega))
              obtain ⟨ad, rfl, g0, g1, g2⟩ := at_T42 HE.out (i : Int) j3 j4
              rw [Int.toNat_natCast] at g0 g1 g2
              have G0 := Aside0.mk (cell_below B2.out g0)
              generalize rd_T42 l (i : Int) = e at g0 g1 g2 HTT G0
              have HIB := Aside0.mk (And.intro hi (show a < m by omega))
              have hln8 : ((ringL l b (t : Int) k).length + 1) * 8 ≤ 140737488355328 := by rw [ringL_length]; have := HQ.out.1; have := HM.out; omega
              have LN := Aside0.mk hln8
              have c1 : ((i : Int) != -1) = true := by first | (simp; done) | (simp; omega)
              clear hS hi g0 g1 g2 hln8
              go_wp2_with (first
                | ((with_reducible refine gate_builtin (b := .append) (xs := #[.tmp 75, .tmp 83]) rfl ?_); at_builtin; refine Kd.R_append (Kd.int .i64) (w0 := w2) w2.heap.size rfl (.tmp 75) (.tmp 83) 25 3 (.int .i64 0) 8 rfl Try.underlying25 info3 rfl (by decide) (by omega) u12 (ringL l b (t : Int) k) (i : Int) [.int .i64 (i : Int)] (fun _ => True) (fun _ => False) rfl rfl ?aP (fun _ hk => hk.elim) ?aF HRow.out HB.out HB.out.size LN.out ?_; (case aP => exact rfl); (case aF => exact (fun _ _ => trivial)); intro v1 w4 ho hb hg2 hat; rw [← HW.out] at ho; clear HRow l2 l3 hg2 hat; have HRow := Aside0.mk ho; have HB4 := Aside0.mk hb; have l2 : w4.cell? ⟨p, 2, none⟩ = some (.slice (some ⟨gb, 0, none⟩) m m) := (blk_cell (S2.out.below hb).blkP 2).trans rfl; have l3 : w4.cell? ⟨gb, a, none⟩ = some (.int .i64 (i : Int)) := (blk_cell (S2.out.below hb).blkB a).trans (by rw [vecA_at _ HIB.out.2, HIB.out.1]); have g0 := cell_below hb G0.out; clear ho hb))
              go_roundg (q - (k + 1))
              case measure => omega
              case rel => exact ⟨k + 1, by rw [HTT.out], by omega, Nat.le_refl _, HRow, HB4⟩
            · have hkq' : k = q := by omega
              subst hkq'
              have hb1 := HQ.out.2.1
              have CRv := Aside0.mk (fun (w5 : World) (hb : Below w2.heap.size w2 w5) (hr : Kd.R (Kd.int .i64) 3 w5 w2.heap.size (fun _ => True) u12 (ringL l b (t : Int) k)) => slices_Reverse_int_int.calls ((ringL l b (t : Int) k).length + 1) (fun _ => True) u12 (ringL l b (t : Int) k) _ w2 w5 hb hr (reverse_f _ (by rw [ringL_length]; have := HQ.out.1; have := HM.out; omega)))
              obtain ⟨rg, hrg⟩ : ∃ rg, rg = ringL l b (t : Int) k := ⟨_, rfl⟩
              have HRG := Aside0.mk hrg
              rw [← hrg] at HRow CRv
              clear hrg
              generalize itr (parr l b) k (t : Int) = a at *
              obtain ⟨a, rfl⟩ : ∃ a' : Nat, a = a' := ⟨a.toNat, by omega⟩
              have l3 : wr.cell? ⟨gb, a, none⟩ = some (.int .i64 (-1)) := by rw [← hb1]; exact (blk_cell hS.blkB a).trans (vecA_at _ (by omega))
              clear hS hb1
              go_wp2_with (first | (go_at_call 24; refine (CRv.out _ HB.out HRow.out).mono ?_; rintro e w5 ⟨rfl, hr, hb, _⟩; have R5 := Aside0.mk hr; have B5 := Aside0.mk hb; clear hr hb))
              go_ret2
              have h5 := R5.out
              rw [HRG.out] at h5
              exact ⟨u12, rfl, Kd.R_lower (Kd.R_mono h5 (fun _ _ => trivial)) B2.out.size, B2.out.trans (B5.out.mono B2.out.size)⟩
    · rw [if_neg hr] at h
      have h : (([] : List Int), (1 : Int)) = (r1, r2) := h
      obtain ⟨q1, q2⟩ := Prod.mk.inj h
      clear h
      subst q1 q2
      refine (diff_Way.bad n A c l F T w hE hc hr).mono ?_
      rintro e w' ⟨rfl, hB⟩
      exact ⟨_, rfl, Kd.R_nil _ _ _ _ _, hB⟩
  · rw [if_neg hg] at h
    cases h
end Go.Proofs.Ytenjncmljmgcdaa.P
