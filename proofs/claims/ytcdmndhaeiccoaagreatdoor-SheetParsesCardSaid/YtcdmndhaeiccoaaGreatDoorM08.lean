/- The reader's first line. The reader's first line, joined. -/
import Derived.Test.YtcdmndhaeiccoaaGreatDoorMkit
import Derived.Test.YtcdmndhaeiccoaaGreatDoorM07
namespace Go.Proofs.YtcdmndhaeiccoaaGreatDoor.P
open Go Go.Proofs.YtcdmndhaeiccoaaGreatDoorR
open Go.RowKit Go.Proofs.YtcdmndhaeiccoaaGreatDoorW.PrintWords Go.Proofs.YtcdmndhaeiccoaaGreatDoorW.PrintLast
set_option linter.unusedVariables false
set_option linter.unusedSimpArgs false
set_option maxHeartbeats 8000000
set_option maxRecDepth 100000
abbrev bJitney : ByteArray := ⟨#[106, 105, 116, 110, 101, 121]⟩
abbrev bSpots : ByteArray := ⟨#[115, 112, 111, 116, 115]⟩
abbrev bTimes : ByteArray := ⟨#[116, 105, 109, 101, 115]⟩
theorem readL_bound {l : List UInt8} {s n : Int} (h : readL l s = (n, 0)) : -1099511627776 ≤ n ∧ n ≤ 1099511627776 ∧ (neg l = false → 0 ≤ n) := by
  unfold readL at h
  split at h
  · exact absurd (Prod.mk.inj h).2 (by decide)
  · split at h
    · unfold told at h
      split at h
      · exact absurd (Prod.mk.inj h).2 (by decide)
      · rename_i hN
        obtain ⟨rfl, -⟩ := Prod.mk.inj h
        refine ⟨by split <;> omega, by split <;> omega, fun hn => ?_⟩
        rw [if_neg (by rw [hn]; decide)]
        omega
    · exact absurd (Prod.mk.inj h).2 (by decide)
theorem wholeL_bound {l : List UInt8} {n : Int} (h : wholeL l = (n, 0)) : 0 ≤ n ∧ n ≤ 1099511627776 := by
  unfold wholeL at h
  split at h
  · exact absurd (Prod.mk.inj h).2 (by decide)
  · rename_i hc
    obtain ⟨h1, h2, h3⟩ := readL_bound h
    exact ⟨h3 (by cases hg : neg l with | false => rfl | true => exact absurd (.inr (.inl hg)) hc), h2⟩
/-- What the first line's words say: cars, requests, the scale, are there spots; or an error. -/
def headW (x0 x1 x2 x3 : ByteArray) : Except Int (Int × Int × Int × Bool) :=
  if (wholeL x0.data.toList).2 ≠ 0 then .error (wholeL x0.data.toList).2
  else if (wholeL x0.data.toList).1 > 6 then .error 23
  else if (wholeL x1.data.toList).2 ≠ 0 then .error (wholeL x1.data.toList).2
  else if (wholeL x2.data.toList).2 ≠ 0 then .error (wholeL x2.data.toList).2
  else if x3 ≠ bSpots ∧ x3 ≠ bTimes then .error 21
  else if (wholeL x1.data.toList).1 = 0 then .error 1
  else if (wholeL x1.data.toList).1 > 64 ∨ 2 * (wholeL x2.data.toList).1 + 2 > 4096 then .error 3
  else .ok ((wholeL x1.data.toList).1, (wholeL x2.data.toList).1, (wholeL x0.data.toList).1, decide (x3 = bSpots))
def headM (ls : List ByteArray) : Except Int (Int × Int × Int × Bool) :=
  match nextM ls 0 bJitney 5 with
  | .error e => .error e
  | .ok [x0, x1, x2, x3] => headW x0 x1 x2 x3
  | .ok _ => .error 21
theorem nextM_ok {ls : List ByteArray} {l : Nat} {first : ByteArray} {n : Int} {ws : List ByteArray} (h : nextM ls l first n = .ok ws) (hsz : ∀ t ∈ ls, t.size ≤ 3000) : (ws.length : Int) + 1 = n ∧ ∀ x ∈ ws, x.size ≤ 3000 := by
  unfold nextM at h
  cases ht : ls[l]? with
  | none => rw [ht] at h; cases h
  | some t =>
    rw [ht] at h
    have h : lineE (wsOf t first n) = .ok ws := h
    cases hw : wsOf t first n with
    | none => rw [hw] at h; cases h
    | some ws' =>
      rw [hw] at h
      cases h
      obtain ⟨h1, h2⟩ := wsOf_len hw
      exact ⟨h1, fun x hx => Nat.le_trans (h2 x hx) (hsz t (List.mem_of_getElem? ht))⟩
/-- A call that surely comes back, or surely gives up. -/
theorem ans_ok {f : FuncId} {args : Array Value} {w : World} {b : Nat} {l e : Int} {v : Value} {G : World → Prop} (h : Calls Tryz.prog f args w (AnsZ w b l e v G)) (he : e = 0) : Calls Tryz.prog f args w fun r w' => r = .returned v ∧ Aside0 (KeepW w w' b) ∧ Aside0 (G w') :=
  h.mono fun r w' ⟨k, h⟩ => h.elim (fun ⟨_, h1, h2⟩ => ⟨h1, k, h2⟩) (fun ⟨h1, _⟩ => absurd he h1.out)
theorem ans_bad {f : FuncId} {args : Array Value} {w : World} {b : Nat} {l e : Int} {v : Value} {G : World → Prop} (h : Calls Tryz.prog f args w (AnsZ w b l e v G)) (he : e ≠ 0) : Calls Tryz.prog f args w fun r w' => r = .panicked (faultC l e) ∧ Aside0 (KeepW w w' b) :=
  h.mono fun r w' ⟨k, h⟩ => h.elim (fun ⟨h1, _⟩ => absurd h1 he) (fun ⟨_, h1⟩ => ⟨h1, k⟩)
theorem bSpots_l : bSpots.toList = [115, 112, 111, 116, 115] := by rw [Lib.toList_data]
theorem bTimes_l : bTimes.toList = [116, 105, 109, 101, 115] := by rw [Lib.toList_data]
theorem rdr_scale {w : World} {b : Nat} {L : Value} {l : Int} {ws : List ByteArray} {sc : Int} (h : Rdr w b L l ws sc) (s : Int) : Rdr (w.setCell ⟨b, 3, none⟩ (.int .i64 s)) b L l ws s := by
  obtain ⟨v, hv, hl⟩ := h.blk
  exact ⟨⟨v, blk_set hv 3 _, hl.keep (KeepW.set _ _ _ _)⟩⟩
theorem whole_scale (b : Nat) (L : Value) (l : Int) (x : ByteArray) (ws : List ByteArray) (sc : Int) (w : World) (h : Rdr w b L l (x :: ws) sc) (hx : x.size ≤ 3000) (n : Int) (hne : wholeL x.data.toList = (n, 0)) :
    Calls Tryz.prog 56 #[.pointer (some ⟨b, 0, none⟩)] w fun r w' => r = .returned (.int .i64 n) ∧ Aside0 (KeepW w w' b) ∧ Aside0 (Rdr w' b L l ws sc) ∧ w'.cell? ⟨b, 3, none⟩ = some (.int .i64 sc) ∧ w'.frozen? ⟨b, 3, none⟩ = false :=
  (ans_ok (sheet_whole.ans b L l x ws sc w h hx n 0 hne) rfl).mono fun r w' h => ⟨h.1, h.2.1, h.2.2, h.2.2.out.at3, by obtain ⟨v, hv, _⟩ := h.2.2.out.blk; exact blk_frozen hv 3⟩
theorem word_ans (b : Nat) (L : Value) (l : Int) (x : ByteArray) (ws : List ByteArray) (sc : Int) (w : World) (h : Rdr w b L l (x :: ws) sc) :
    Calls Tryz.prog 57 #[.pointer (some ⟨b, 0, none⟩)] w fun r w' => r = .returned (.string x) ∧ Aside0 (KeepW w w' b) ∧ Aside0 (Rdr w' b L l ws sc) :=
  (sheet_word.calls b L l x ws sc w h).mono fun r w' h => ⟨h.1, ⟨h.2.2⟩, ⟨h.2.1⟩⟩
/-! ### printed by genhead.py -/
theorem head_bad0 (b : Nat) (L : Value) (ws0 : List ByteArray) (sc0 : Int) (ls : List ByteArray) (x0 x1 x2 x3 : ByteArray) (w : World) (s0 e0 c1 e1 n2 e2 : Int) (N : Calls Tryz.prog 27 #[.pointer (some ⟨b, 0, none⟩), .string bJitney, .int .i64 5] w fun r w' => r = .returned (.tuple #[]) ∧ Aside0 (KeepW w w' b) ∧ Aside0 (Rdr w' b L 1 [x0, x1, x2, x3] sc0)) (z0 : x0.size ≤ 3000) (z1 : x1.size ≤ 3000) (z2 : x2.size ≤ 3000) (h0 : wholeL x0.data.toList = (s0, e0)) (h1 : wholeL x1.data.toList = (c1, e1)) (h2 : wholeL x2.data.toList = (n2, e2)) (he : e0 ≠ 0) :
    Calls Tryz.prog 26 #[.pointer (some ⟨b, 0, none⟩)] w fun r w' => r = .panicked (faultC 1 e0) ∧ KeepW w w' b := by
  have N1 := Aside0.mk N
  have C0 := Aside0.mk (fun w h => ans_bad (sheet_whole.ans b L 1 x0 [x1, x2, x3] sc0 w h z0 s0 e0 h0) he)
  clear N h0 h1 h2 z0 z1 z2
  go_enter Tryz.func26, Tryz.ntmps26
  go_wp2_with (first
      | (go_at_call 56; refine (C0.out _ R1.out).mono ?_; rintro r w2 ⟨rfl, K2⟩)
      | (go_at_call 27; refine N1.out.mono ?_; rintro r w1 ⟨rfl, K1, R1⟩))
  exact ⟨rfl, rfl, (K1.out).trans (K2.out)⟩
theorem head_big (b : Nat) (L : Value) (ws0 : List ByteArray) (sc0 : Int) (ls : List ByteArray) (x0 x1 x2 x3 : ByteArray) (w : World) (s0 e0 c1 e1 n2 e2 : Int) (N : Calls Tryz.prog 27 #[.pointer (some ⟨b, 0, none⟩), .string bJitney, .int .i64 5] w fun r w' => r = .returned (.tuple #[]) ∧ Aside0 (KeepW w w' b) ∧ Aside0 (Rdr w' b L 1 [x0, x1, x2, x3] sc0)) (z0 : x0.size ≤ 3000) (z1 : x1.size ≤ 3000) (z2 : x2.size ≤ 3000) (h0 : wholeL x0.data.toList = (s0, e0)) (h1 : wholeL x1.data.toList = (c1, e1)) (h2 : wholeL x2.data.toList = (n2, e2)) (he : e0 = 0) (hs : s0 > 6) :
    Calls Tryz.prog 26 #[.pointer (some ⟨b, 0, none⟩)] w fun r w' => r = .panicked (faultC 1 23) ∧ KeepW w w' b := by
  have N1 := Aside0.mk N
  subst he
  have C0 := Aside0.mk (fun w h => whole_scale b L 1 x0 [x1, x2, x3] sc0 w h z0 s0 h0)
  have d0 : decide (s0 > 6) = true := decide_eq_true hs
  have d0' : decide (6 < s0) = true := decide_eq_true hs
  clear N h0 h1 h2 z0 z1 z2
  go_enter Tryz.func26, Tryz.ntmps26
  go_wp2_with (first
      | (go_at_call 32; refine (sheet_fail.calls b 1 23 _ (rdr_scale R2.out s0).at1).mono ?_; rintro r w6 ⟨rfl, rfl⟩)
      | (go_at_call 56; refine (C0.out _ R1.out).mono ?_; rintro r w2 ⟨rfl, K2, R2, c3, g3⟩)
      | (go_at_call 27; refine N1.out.mono ?_; rintro r w1 ⟨rfl, K1, R1⟩))
  exact ⟨rfl, rfl, (K1.out).trans ((K2.out).trans (KeepW.set _ b 3 _))⟩
theorem head_bad1 (b : Nat) (L : Value) (ws0 : List ByteArray) (sc0 : Int) (ls : List ByteArray) (x0 x1 x2 x3 : ByteArray) (w : World) (s0 e0 c1 e1 n2 e2 : Int) (N : Calls Tryz.prog 27 #[.pointer (some ⟨b, 0, none⟩), .string bJitney, .int .i64 5] w fun r w' => r = .returned (.tuple #[]) ∧ Aside0 (KeepW w w' b) ∧ Aside0 (Rdr w' b L 1 [x0, x1, x2, x3] sc0)) (z0 : x0.size ≤ 3000) (z1 : x1.size ≤ 3000) (z2 : x2.size ≤ 3000) (h0 : wholeL x0.data.toList = (s0, e0)) (h1 : wholeL x1.data.toList = (c1, e1)) (h2 : wholeL x2.data.toList = (n2, e2)) (he0 : e0 = 0) (hs : ¬ s0 > 6) (he : e1 ≠ 0) :
    Calls Tryz.prog 26 #[.pointer (some ⟨b, 0, none⟩)] w fun r w' => r = .panicked (faultC 1 e1) ∧ KeepW w w' b := by
  have N1 := Aside0.mk N
  subst he0
  have C0 := Aside0.mk (fun w h => whole_scale b L 1 x0 [x1, x2, x3] sc0 w h z0 s0 h0)
  have d0 : decide (s0 > 6) = false := decide_eq_false hs
  have d0' : decide (6 < s0) = false := decide_eq_false hs
  have C1 := Aside0.mk (fun w h => ans_bad (sheet_whole.ans b L 1 x1 [x2, x3] s0 w h z1 c1 e1 h1) he)
  clear N h0 h1 h2 z0 z1 z2
  go_enter Tryz.func26, Tryz.ntmps26
  go_wp2_with (first
      | (go_at_call 56; refine (C1.out _ (rdr_scale R2.out s0)).mono ?_; rintro r w3 ⟨rfl, K3⟩)
      | (go_at_call 56; refine (C0.out _ R1.out).mono ?_; rintro r w2 ⟨rfl, K2, R2, c3, g3⟩)
      | (go_at_call 27; refine N1.out.mono ?_; rintro r w1 ⟨rfl, K1, R1⟩))
  exact ⟨rfl, rfl, (K1.out).trans ((K2.out).trans ((KeepW.set _ b 3 _).trans (K3.out)))⟩
theorem head_bad2 (b : Nat) (L : Value) (ws0 : List ByteArray) (sc0 : Int) (ls : List ByteArray) (x0 x1 x2 x3 : ByteArray) (w : World) (s0 e0 c1 e1 n2 e2 : Int) (N : Calls Tryz.prog 27 #[.pointer (some ⟨b, 0, none⟩), .string bJitney, .int .i64 5] w fun r w' => r = .returned (.tuple #[]) ∧ Aside0 (KeepW w w' b) ∧ Aside0 (Rdr w' b L 1 [x0, x1, x2, x3] sc0)) (z0 : x0.size ≤ 3000) (z1 : x1.size ≤ 3000) (z2 : x2.size ≤ 3000) (h0 : wholeL x0.data.toList = (s0, e0)) (h1 : wholeL x1.data.toList = (c1, e1)) (h2 : wholeL x2.data.toList = (n2, e2)) (he0 : e0 = 0) (hs : ¬ s0 > 6) (he1 : e1 = 0) (he : e2 ≠ 0) :
    Calls Tryz.prog 26 #[.pointer (some ⟨b, 0, none⟩)] w fun r w' => r = .panicked (faultC 1 e2) ∧ KeepW w w' b := by
  have N1 := Aside0.mk N
  subst he0
  subst he1
  have C0 := Aside0.mk (fun w h => whole_scale b L 1 x0 [x1, x2, x3] sc0 w h z0 s0 h0)
  have d0 : decide (s0 > 6) = false := decide_eq_false hs
  have d0' : decide (6 < s0) = false := decide_eq_false hs
  have C1 := Aside0.mk (fun w h => ans_ok (sheet_whole.ans b L 1 x1 [x2, x3] s0 w h z1 c1 0 h1) rfl)
  have C2 := Aside0.mk (fun w h => ans_bad (sheet_whole.ans b L 1 x2 [x3] s0 w h z2 n2 e2 h2) he)
  clear N h0 h1 h2 z0 z1 z2
  go_enter Tryz.func26, Tryz.ntmps26
  go_wp2_with (first
      | (go_at_call 56; refine (C2.out _ R3.out).mono ?_; rintro r w4 ⟨rfl, K4⟩)
      | (go_at_call 56; refine (C1.out _ (rdr_scale R2.out s0)).mono ?_; rintro r w3 ⟨rfl, K3, R3⟩)
      | (go_at_call 56; refine (C0.out _ R1.out).mono ?_; rintro r w2 ⟨rfl, K2, R2, c3, g3⟩)
      | (go_at_call 27; refine N1.out.mono ?_; rintro r w1 ⟨rfl, K1, R1⟩))
  exact ⟨rfl, rfl, (K1.out).trans ((K2.out).trans ((KeepW.set _ b 3 _).trans ((K3.out).trans (K4.out))))⟩
theorem head_kind (b : Nat) (L : Value) (ws0 : List ByteArray) (sc0 : Int) (ls : List ByteArray) (x0 x1 x2 x3 : ByteArray) (w : World) (s0 e0 c1 e1 n2 e2 : Int) (N : Calls Tryz.prog 27 #[.pointer (some ⟨b, 0, none⟩), .string bJitney, .int .i64 5] w fun r w' => r = .returned (.tuple #[]) ∧ Aside0 (KeepW w w' b) ∧ Aside0 (Rdr w' b L 1 [x0, x1, x2, x3] sc0)) (z0 : x0.size ≤ 3000) (z1 : x1.size ≤ 3000) (z2 : x2.size ≤ 3000) (h0 : wholeL x0.data.toList = (s0, e0)) (h1 : wholeL x1.data.toList = (c1, e1)) (h2 : wholeL x2.data.toList = (n2, e2)) (he0 : e0 = 0) (hs : ¬ s0 > 6) (he1 : e1 = 0) (he2 : e2 = 0) (ks : x3 ≠ bSpots) (kt : x3 ≠ bTimes) :
    Calls Tryz.prog 26 #[.pointer (some ⟨b, 0, none⟩)] w fun r w' => r = .panicked (faultC 1 21) ∧ KeepW w w' b := by
  have N1 := Aside0.mk N
  subst he0
  subst he1
  subst he2
  have b1 := wholeL_bound h1
  have b2 := wholeL_bound h2
  obtain ⟨b3, b4⟩ := b1
  obtain ⟨b5, b6⟩ := b2
  have C0 := Aside0.mk (fun w h => whole_scale b L 1 x0 [x1, x2, x3] sc0 w h z0 s0 h0)
  have d0 : decide (s0 > 6) = false := decide_eq_false hs
  have d0' : decide (6 < s0) = false := decide_eq_false hs
  have C1 := Aside0.mk (fun w h => ans_ok (sheet_whole.ans b L 1 x1 [x2, x3] s0 w h z1 c1 0 h1) rfl)
  have C2 := Aside0.mk (fun w h => ans_ok (sheet_whole.ans b L 1 x2 [x3] s0 w h z2 n2 0 h2) rfl)
  have C3 := Aside0.mk (fun w h => word_ans b L 1 x3 [] s0 w h)
  have ks1 : (x3.toList == ([115, 112, 111, 116, 115] : List UInt8)) = false := beq_eq_false_iff_ne.2 (fun h => ks (bytes_inj (b := bSpots) (h.trans bSpots_l.symm)))
  have ks2 : (x3.toList != ([115, 112, 111, 116, 115] : List UInt8)) = true := by simp only [bne, ks1]; rfl
  have kt1 : (x3.toList == ([116, 105, 109, 101, 115] : List UInt8)) = false := beq_eq_false_iff_ne.2 (fun h => kt (bytes_inj (b := bTimes) (h.trans bTimes_l.symm)))
  have kt2 : (x3.toList != ([116, 105, 109, 101, 115] : List UInt8)) = true := by simp only [bne, kt1]; rfl
  clear N h0 h1 h2 z0 z1 z2
  go_enter Tryz.func26, Tryz.ntmps26
  go_wp2_with (first
      | (go_at_call 32; refine (sheet_fail.calls b 1 21 _ R5.out.at1).mono ?_; rintro r w6 ⟨rfl, rfl⟩)
      | (go_at_call 57; refine (C3.out _ R4.out).mono ?_; rintro r w5 ⟨rfl, K5, R5⟩)
      | (go_at_call 56; refine (C2.out _ R3.out).mono ?_; rintro r w4 ⟨rfl, K4, R4⟩)
      | (go_at_call 56; refine (C1.out _ (rdr_scale R2.out s0)).mono ?_; rintro r w3 ⟨rfl, K3, R3⟩)
      | (go_at_call 56; refine (C0.out _ R1.out).mono ?_; rintro r w2 ⟨rfl, K2, R2, c3, g3⟩)
      | (go_at_call 27; refine N1.out.mono ?_; rintro r w1 ⟨rfl, K1, R1⟩))
  exact ⟨rfl, rfl, (K1.out).trans ((K2.out).trans ((KeepW.set _ b 3 _).trans ((K3.out).trans ((K4.out).trans (K5.out)))))⟩
theorem head_none_spots (b : Nat) (L : Value) (ws0 : List ByteArray) (sc0 : Int) (ls : List ByteArray) (x0 x1 x2 x3 : ByteArray) (w : World) (s0 e0 c1 e1 n2 e2 : Int) (N : Calls Tryz.prog 27 #[.pointer (some ⟨b, 0, none⟩), .string bJitney, .int .i64 5] w fun r w' => r = .returned (.tuple #[]) ∧ Aside0 (KeepW w w' b) ∧ Aside0 (Rdr w' b L 1 [x0, x1, x2, x3] sc0)) (z0 : x0.size ≤ 3000) (z1 : x1.size ≤ 3000) (z2 : x2.size ≤ 3000) (h0 : wholeL x0.data.toList = (s0, e0)) (h1 : wholeL x1.data.toList = (c1, e1)) (h2 : wholeL x2.data.toList = (n2, e2)) (he0 : e0 = 0) (hs : ¬ s0 > 6) (he1 : e1 = 0) (he2 : e2 = 0) (ks : x3 = bSpots) (hc : c1 = 0) :
    Calls Tryz.prog 26 #[.pointer (some ⟨b, 0, none⟩)] w fun r w' => r = .panicked (faultC 1 1) ∧ KeepW w w' b := by
  have N1 := Aside0.mk N
  subst he0
  subst he1
  subst he2
  have b1 := wholeL_bound h1
  have b2 := wholeL_bound h2
  obtain ⟨b3, b4⟩ := b1
  obtain ⟨b5, b6⟩ := b2
  have C0 := Aside0.mk (fun w h => whole_scale b L 1 x0 [x1, x2, x3] sc0 w h z0 s0 h0)
  have d0 : decide (s0 > 6) = false := decide_eq_false hs
  have d0' : decide (6 < s0) = false := decide_eq_false hs
  have C1 := Aside0.mk (fun w h => ans_ok (sheet_whole.ans b L 1 x1 [x2, x3] s0 w h z1 c1 0 h1) rfl)
  have C2 := Aside0.mk (fun w h => ans_ok (sheet_whole.ans b L 1 x2 [x3] s0 w h z2 n2 0 h2) rfl)
  have C3 := Aside0.mk (fun w h => word_ans b L 1 x3 [] s0 w h)
  have ks1 : (x3.toList == ([115, 112, 111, 116, 115] : List UInt8)) = true := by rw [ks, bSpots_l]; rfl
  have ks2 : (x3.toList != ([115, 112, 111, 116, 115] : List UInt8)) = false := by simp only [bne, ks1]; rfl
  have d1 : (c1 == 0) = true := by rw [hc]; rfl
  clear hc
  clear N h0 h1 h2 z0 z1 z2
  go_enter Tryz.func26, Tryz.ntmps26
  go_wp2_with (first
      | (go_at_call 32; refine (sheet_fail.calls b 1 1 _ R5.out.at1).mono ?_; rintro r w6 ⟨rfl, rfl⟩)
      | (go_at_call 57; refine (C3.out _ R4.out).mono ?_; rintro r w5 ⟨rfl, K5, R5⟩)
      | (go_at_call 56; refine (C2.out _ R3.out).mono ?_; rintro r w4 ⟨rfl, K4, R4⟩)
      | (go_at_call 56; refine (C1.out _ (rdr_scale R2.out s0)).mono ?_; rintro r w3 ⟨rfl, K3, R3⟩)
      | (go_at_call 56; refine (C0.out _ R1.out).mono ?_; rintro r w2 ⟨rfl, K2, R2, c3, g3⟩)
      | (go_at_call 27; refine N1.out.mono ?_; rintro r w1 ⟨rfl, K1, R1⟩))
  exact ⟨rfl, rfl, (K1.out).trans ((K2.out).trans ((KeepW.set _ b 3 _).trans ((K3.out).trans ((K4.out).trans (K5.out)))))⟩
theorem head_many_spots (b : Nat) (L : Value) (ws0 : List ByteArray) (sc0 : Int) (ls : List ByteArray) (x0 x1 x2 x3 : ByteArray) (w : World) (s0 e0 c1 e1 n2 e2 : Int) (N : Calls Tryz.prog 27 #[.pointer (some ⟨b, 0, none⟩), .string bJitney, .int .i64 5] w fun r w' => r = .returned (.tuple #[]) ∧ Aside0 (KeepW w w' b) ∧ Aside0 (Rdr w' b L 1 [x0, x1, x2, x3] sc0)) (z0 : x0.size ≤ 3000) (z1 : x1.size ≤ 3000) (z2 : x2.size ≤ 3000) (h0 : wholeL x0.data.toList = (s0, e0)) (h1 : wholeL x1.data.toList = (c1, e1)) (h2 : wholeL x2.data.toList = (n2, e2)) (he0 : e0 = 0) (hs : ¬ s0 > 6) (he1 : e1 = 0) (he2 : e2 = 0) (ks : x3 = bSpots) (hc : c1 ≠ 0) (hm : c1 > 64) :
    Calls Tryz.prog 26 #[.pointer (some ⟨b, 0, none⟩)] w fun r w' => r = .panicked (faultC 1 3) ∧ KeepW w w' b := by
  have N1 := Aside0.mk N
  subst he0
  subst he1
  subst he2
  have b1 := wholeL_bound h1
  have b2 := wholeL_bound h2
  obtain ⟨b3, b4⟩ := b1
  obtain ⟨b5, b6⟩ := b2
  have C0 := Aside0.mk (fun w h => whole_scale b L 1 x0 [x1, x2, x3] sc0 w h z0 s0 h0)
  have d0 : decide (s0 > 6) = false := decide_eq_false hs
  have d0' : decide (6 < s0) = false := decide_eq_false hs
  have C1 := Aside0.mk (fun w h => ans_ok (sheet_whole.ans b L 1 x1 [x2, x3] s0 w h z1 c1 0 h1) rfl)
  have C2 := Aside0.mk (fun w h => ans_ok (sheet_whole.ans b L 1 x2 [x3] s0 w h z2 n2 0 h2) rfl)
  have C3 := Aside0.mk (fun w h => word_ans b L 1 x3 [] s0 w h)
  have ks1 : (x3.toList == ([115, 112, 111, 116, 115] : List UInt8)) = true := by rw [ks, bSpots_l]; rfl
  have ks2 : (x3.toList != ([115, 112, 111, 116, 115] : List UInt8)) = false := by simp only [bne, ks1]; rfl
  have d1 : (c1 == 0) = false := beq_eq_false_iff_ne.2 hc
  clear hc
  have d2 : decide (c1 > 64) = true := decide_eq_true hm
  have d3 : decide (64 < c1) = true := decide_eq_true hm
  clear N h0 h1 h2 z0 z1 z2
  go_enter Tryz.func26, Tryz.ntmps26
  go_wp2_with (first
      | (go_at_call 32; refine (sheet_fail.calls b 1 3 _ R5.out.at1).mono ?_; rintro r w6 ⟨rfl, rfl⟩)
      | (go_at_call 57; refine (C3.out _ R4.out).mono ?_; rintro r w5 ⟨rfl, K5, R5⟩)
      | (go_at_call 56; refine (C2.out _ R3.out).mono ?_; rintro r w4 ⟨rfl, K4, R4⟩)
      | (go_at_call 56; refine (C1.out _ (rdr_scale R2.out s0)).mono ?_; rintro r w3 ⟨rfl, K3, R3⟩)
      | (go_at_call 56; refine (C0.out _ R1.out).mono ?_; rintro r w2 ⟨rfl, K2, R2, c3, g3⟩)
      | (go_at_call 27; refine N1.out.mono ?_; rintro r w1 ⟨rfl, K1, R1⟩))
  exact ⟨rfl, rfl, (K1.out).trans ((K2.out).trans ((KeepW.set _ b 3 _).trans ((K3.out).trans ((K4.out).trans (K5.out)))))⟩
theorem head_stops_spots (b : Nat) (L : Value) (ws0 : List ByteArray) (sc0 : Int) (ls : List ByteArray) (x0 x1 x2 x3 : ByteArray) (w : World) (s0 e0 c1 e1 n2 e2 : Int) (N : Calls Tryz.prog 27 #[.pointer (some ⟨b, 0, none⟩), .string bJitney, .int .i64 5] w fun r w' => r = .returned (.tuple #[]) ∧ Aside0 (KeepW w w' b) ∧ Aside0 (Rdr w' b L 1 [x0, x1, x2, x3] sc0)) (z0 : x0.size ≤ 3000) (z1 : x1.size ≤ 3000) (z2 : x2.size ≤ 3000) (h0 : wholeL x0.data.toList = (s0, e0)) (h1 : wholeL x1.data.toList = (c1, e1)) (h2 : wholeL x2.data.toList = (n2, e2)) (he0 : e0 = 0) (hs : ¬ s0 > 6) (he1 : e1 = 0) (he2 : e2 = 0) (ks : x3 = bSpots) (hc : c1 ≠ 0) (hm : ¬ c1 > 64) (hn : 2 * n2 + 2 > 4096) :
    Calls Tryz.prog 26 #[.pointer (some ⟨b, 0, none⟩)] w fun r w' => r = .panicked (faultC 1 3) ∧ KeepW w w' b := by
  have N1 := Aside0.mk N
  subst he0
  subst he1
  subst he2
  have b1 := wholeL_bound h1
  have b2 := wholeL_bound h2
  obtain ⟨b3, b4⟩ := b1
  obtain ⟨b5, b6⟩ := b2
  have C0 := Aside0.mk (fun w h => whole_scale b L 1 x0 [x1, x2, x3] sc0 w h z0 s0 h0)
  have d0 : decide (s0 > 6) = false := decide_eq_false hs
  have d0' : decide (6 < s0) = false := decide_eq_false hs
  have C1 := Aside0.mk (fun w h => ans_ok (sheet_whole.ans b L 1 x1 [x2, x3] s0 w h z1 c1 0 h1) rfl)
  have C2 := Aside0.mk (fun w h => ans_ok (sheet_whole.ans b L 1 x2 [x3] s0 w h z2 n2 0 h2) rfl)
  have C3 := Aside0.mk (fun w h => word_ans b L 1 x3 [] s0 w h)
  have ks1 : (x3.toList == ([115, 112, 111, 116, 115] : List UInt8)) = true := by rw [ks, bSpots_l]; rfl
  have ks2 : (x3.toList != ([115, 112, 111, 116, 115] : List UInt8)) = false := by simp only [bne, ks1]; rfl
  have d1 : (c1 == 0) = false := beq_eq_false_iff_ne.2 hc
  clear hc
  have d2 : decide (c1 > 64) = false := decide_eq_false hm
  have d3 : decide (64 < c1) = false := decide_eq_false hm
  have d4 : decide (2 * n2 + 2 > 4096) = true := decide_eq_true hn
  have d5 : decide (4096 < 2 * n2 + 2) = true := decide_eq_true hn
  clear N h0 h1 h2 z0 z1 z2
  go_enter Tryz.func26, Tryz.ntmps26
  go_wp2_with (first
      | (go_at_call 32; refine (sheet_fail.calls b 1 3 _ R5.out.at1).mono ?_; rintro r w6 ⟨rfl, rfl⟩)
      | (go_at_call 57; refine (C3.out _ R4.out).mono ?_; rintro r w5 ⟨rfl, K5, R5⟩)
      | (go_at_call 56; refine (C2.out _ R3.out).mono ?_; rintro r w4 ⟨rfl, K4, R4⟩)
      | (go_at_call 56; refine (C1.out _ (rdr_scale R2.out s0)).mono ?_; rintro r w3 ⟨rfl, K3, R3⟩)
      | (go_at_call 56; refine (C0.out _ R1.out).mono ?_; rintro r w2 ⟨rfl, K2, R2, c3, g3⟩)
      | (go_at_call 27; refine N1.out.mono ?_; rintro r w1 ⟨rfl, K1, R1⟩))
  exact ⟨rfl, rfl, (K1.out).trans ((K2.out).trans ((KeepW.set _ b 3 _).trans ((K3.out).trans ((K4.out).trans (K5.out)))))⟩
theorem head_ok_spots (b : Nat) (L : Value) (ws0 : List ByteArray) (sc0 : Int) (ls : List ByteArray) (x0 x1 x2 x3 : ByteArray) (w : World) (s0 e0 c1 e1 n2 e2 : Int) (N : Calls Tryz.prog 27 #[.pointer (some ⟨b, 0, none⟩), .string bJitney, .int .i64 5] w fun r w' => r = .returned (.tuple #[]) ∧ Aside0 (KeepW w w' b) ∧ Aside0 (Rdr w' b L 1 [x0, x1, x2, x3] sc0)) (z0 : x0.size ≤ 3000) (z1 : x1.size ≤ 3000) (z2 : x2.size ≤ 3000) (h0 : wholeL x0.data.toList = (s0, e0)) (h1 : wholeL x1.data.toList = (c1, e1)) (h2 : wholeL x2.data.toList = (n2, e2)) (he0 : e0 = 0) (hs : ¬ s0 > 6) (he1 : e1 = 0) (he2 : e2 = 0) (ks : x3 = bSpots) (hc : c1 ≠ 0) (hm : ¬ c1 > 64) (hn : ¬ 2 * n2 + 2 > 4096) :
    Calls Tryz.prog 26 #[.pointer (some ⟨b, 0, none⟩)] w fun r w' => r = .returned (.tuple #[.int .i64 c1, .int .i64 n2, .bool true]) ∧ KeepW w w' b ∧ Rdr w' b L 1 [] s0 := by
  have N1 := Aside0.mk N
  subst he0
  subst he1
  subst he2
  have b1 := wholeL_bound h1
  have b2 := wholeL_bound h2
  obtain ⟨b3, b4⟩ := b1
  obtain ⟨b5, b6⟩ := b2
  have C0 := Aside0.mk (fun w h => whole_scale b L 1 x0 [x1, x2, x3] sc0 w h z0 s0 h0)
  have d0 : decide (s0 > 6) = false := decide_eq_false hs
  have d0' : decide (6 < s0) = false := decide_eq_false hs
  have C1 := Aside0.mk (fun w h => ans_ok (sheet_whole.ans b L 1 x1 [x2, x3] s0 w h z1 c1 0 h1) rfl)
  have C2 := Aside0.mk (fun w h => ans_ok (sheet_whole.ans b L 1 x2 [x3] s0 w h z2 n2 0 h2) rfl)
  have C3 := Aside0.mk (fun w h => word_ans b L 1 x3 [] s0 w h)
  have ks1 : (x3.toList == ([115, 112, 111, 116, 115] : List UInt8)) = true := by rw [ks, bSpots_l]; rfl
  have ks2 : (x3.toList != ([115, 112, 111, 116, 115] : List UInt8)) = false := by simp only [bne, ks1]; rfl
  have d1 : (c1 == 0) = false := beq_eq_false_iff_ne.2 hc
  clear hc
  have d2 : decide (c1 > 64) = false := decide_eq_false hm
  have d3 : decide (64 < c1) = false := decide_eq_false hm
  have d4 : decide (2 * n2 + 2 > 4096) = false := decide_eq_false hn
  have d5 : decide (4096 < 2 * n2 + 2) = false := decide_eq_false hn
  clear N h0 h1 h2 z0 z1 z2
  go_enter Tryz.func26, Tryz.ntmps26
  go_wp2_with (first
      | (go_at_call 57; refine (C3.out _ R4.out).mono ?_; rintro r w5 ⟨rfl, K5, R5⟩)
      | (go_at_call 56; refine (C2.out _ R3.out).mono ?_; rintro r w4 ⟨rfl, K4, R4⟩)
      | (go_at_call 56; refine (C1.out _ (rdr_scale R2.out s0)).mono ?_; rintro r w3 ⟨rfl, K3, R3⟩)
      | (go_at_call 56; refine (C0.out _ R1.out).mono ?_; rintro r w2 ⟨rfl, K2, R2, c3, g3⟩)
      | (go_at_call 27; refine N1.out.mono ?_; rintro r w1 ⟨rfl, K1, R1⟩))
  go_ret3
  exact ⟨rfl, (K1.out).trans ((K2.out).trans ((KeepW.set _ b 3 _).trans ((K3.out).trans ((K4.out).trans (K5.out))))), R5.out⟩
theorem head_none_times (b : Nat) (L : Value) (ws0 : List ByteArray) (sc0 : Int) (ls : List ByteArray) (x0 x1 x2 x3 : ByteArray) (w : World) (s0 e0 c1 e1 n2 e2 : Int) (N : Calls Tryz.prog 27 #[.pointer (some ⟨b, 0, none⟩), .string bJitney, .int .i64 5] w fun r w' => r = .returned (.tuple #[]) ∧ Aside0 (KeepW w w' b) ∧ Aside0 (Rdr w' b L 1 [x0, x1, x2, x3] sc0)) (z0 : x0.size ≤ 3000) (z1 : x1.size ≤ 3000) (z2 : x2.size ≤ 3000) (h0 : wholeL x0.data.toList = (s0, e0)) (h1 : wholeL x1.data.toList = (c1, e1)) (h2 : wholeL x2.data.toList = (n2, e2)) (he0 : e0 = 0) (hs : ¬ s0 > 6) (he1 : e1 = 0) (he2 : e2 = 0) (ks : x3 ≠ bSpots) (kt : x3 = bTimes) (hc : c1 = 0) :
    Calls Tryz.prog 26 #[.pointer (some ⟨b, 0, none⟩)] w fun r w' => r = .panicked (faultC 1 1) ∧ KeepW w w' b := by
  have N1 := Aside0.mk N
  subst he0
  subst he1
  subst he2
  have b1 := wholeL_bound h1
  have b2 := wholeL_bound h2
  obtain ⟨b3, b4⟩ := b1
  obtain ⟨b5, b6⟩ := b2
  have C0 := Aside0.mk (fun w h => whole_scale b L 1 x0 [x1, x2, x3] sc0 w h z0 s0 h0)
  have d0 : decide (s0 > 6) = false := decide_eq_false hs
  have d0' : decide (6 < s0) = false := decide_eq_false hs
  have C1 := Aside0.mk (fun w h => ans_ok (sheet_whole.ans b L 1 x1 [x2, x3] s0 w h z1 c1 0 h1) rfl)
  have C2 := Aside0.mk (fun w h => ans_ok (sheet_whole.ans b L 1 x2 [x3] s0 w h z2 n2 0 h2) rfl)
  have C3 := Aside0.mk (fun w h => word_ans b L 1 x3 [] s0 w h)
  have ks1 : (x3.toList == ([115, 112, 111, 116, 115] : List UInt8)) = false := beq_eq_false_iff_ne.2 (fun h => ks (bytes_inj (b := bSpots) (h.trans bSpots_l.symm)))
  have ks2 : (x3.toList != ([115, 112, 111, 116, 115] : List UInt8)) = true := by simp only [bne, ks1]; rfl
  have kt1 : (x3.toList == ([116, 105, 109, 101, 115] : List UInt8)) = true := by rw [kt, bTimes_l]; rfl
  have kt2 : (x3.toList != ([116, 105, 109, 101, 115] : List UInt8)) = false := by simp only [bne, kt1]; rfl
  have d1 : (c1 == 0) = true := by rw [hc]; rfl
  clear hc
  clear N h0 h1 h2 z0 z1 z2
  go_enter Tryz.func26, Tryz.ntmps26
  go_wp2_with (first
      | (go_at_call 32; refine (sheet_fail.calls b 1 1 _ R5.out.at1).mono ?_; rintro r w6 ⟨rfl, rfl⟩)
      | (go_at_call 57; refine (C3.out _ R4.out).mono ?_; rintro r w5 ⟨rfl, K5, R5⟩)
      | (go_at_call 56; refine (C2.out _ R3.out).mono ?_; rintro r w4 ⟨rfl, K4, R4⟩)
      | (go_at_call 56; refine (C1.out _ (rdr_scale R2.out s0)).mono ?_; rintro r w3 ⟨rfl, K3, R3⟩)
      | (go_at_call 56; refine (C0.out _ R1.out).mono ?_; rintro r w2 ⟨rfl, K2, R2, c3, g3⟩)
      | (go_at_call 27; refine N1.out.mono ?_; rintro r w1 ⟨rfl, K1, R1⟩))
  exact ⟨rfl, rfl, (K1.out).trans ((K2.out).trans ((KeepW.set _ b 3 _).trans ((K3.out).trans ((K4.out).trans (K5.out)))))⟩
theorem head_many_times (b : Nat) (L : Value) (ws0 : List ByteArray) (sc0 : Int) (ls : List ByteArray) (x0 x1 x2 x3 : ByteArray) (w : World) (s0 e0 c1 e1 n2 e2 : Int) (N : Calls Tryz.prog 27 #[.pointer (some ⟨b, 0, none⟩), .string bJitney, .int .i64 5] w fun r w' => r = .returned (.tuple #[]) ∧ Aside0 (KeepW w w' b) ∧ Aside0 (Rdr w' b L 1 [x0, x1, x2, x3] sc0)) (z0 : x0.size ≤ 3000) (z1 : x1.size ≤ 3000) (z2 : x2.size ≤ 3000) (h0 : wholeL x0.data.toList = (s0, e0)) (h1 : wholeL x1.data.toList = (c1, e1)) (h2 : wholeL x2.data.toList = (n2, e2)) (he0 : e0 = 0) (hs : ¬ s0 > 6) (he1 : e1 = 0) (he2 : e2 = 0) (ks : x3 ≠ bSpots) (kt : x3 = bTimes) (hc : c1 ≠ 0) (hm : c1 > 64) :
    Calls Tryz.prog 26 #[.pointer (some ⟨b, 0, none⟩)] w fun r w' => r = .panicked (faultC 1 3) ∧ KeepW w w' b := by
  have N1 := Aside0.mk N
  subst he0
  subst he1
  subst he2
  have b1 := wholeL_bound h1
  have b2 := wholeL_bound h2
  obtain ⟨b3, b4⟩ := b1
  obtain ⟨b5, b6⟩ := b2
  have C0 := Aside0.mk (fun w h => whole_scale b L 1 x0 [x1, x2, x3] sc0 w h z0 s0 h0)
  have d0 : decide (s0 > 6) = false := decide_eq_false hs
  have d0' : decide (6 < s0) = false := decide_eq_false hs
  have C1 := Aside0.mk (fun w h => ans_ok (sheet_whole.ans b L 1 x1 [x2, x3] s0 w h z1 c1 0 h1) rfl)
  have C2 := Aside0.mk (fun w h => ans_ok (sheet_whole.ans b L 1 x2 [x3] s0 w h z2 n2 0 h2) rfl)
  have C3 := Aside0.mk (fun w h => word_ans b L 1 x3 [] s0 w h)
  have ks1 : (x3.toList == ([115, 112, 111, 116, 115] : List UInt8)) = false := beq_eq_false_iff_ne.2 (fun h => ks (bytes_inj (b := bSpots) (h.trans bSpots_l.symm)))
  have ks2 : (x3.toList != ([115, 112, 111, 116, 115] : List UInt8)) = true := by simp only [bne, ks1]; rfl
  have kt1 : (x3.toList == ([116, 105, 109, 101, 115] : List UInt8)) = true := by rw [kt, bTimes_l]; rfl
  have kt2 : (x3.toList != ([116, 105, 109, 101, 115] : List UInt8)) = false := by simp only [bne, kt1]; rfl
  have d1 : (c1 == 0) = false := beq_eq_false_iff_ne.2 hc
  clear hc
  have d2 : decide (c1 > 64) = true := decide_eq_true hm
  have d3 : decide (64 < c1) = true := decide_eq_true hm
  clear N h0 h1 h2 z0 z1 z2
  go_enter Tryz.func26, Tryz.ntmps26
  go_wp2_with (first
      | (go_at_call 32; refine (sheet_fail.calls b 1 3 _ R5.out.at1).mono ?_; rintro r w6 ⟨rfl, rfl⟩)
      | (go_at_call 57; refine (C3.out _ R4.out).mono ?_; rintro r w5 ⟨rfl, K5, R5⟩)
      | (go_at_call 56; refine (C2.out _ R3.out).mono ?_; rintro r w4 ⟨rfl, K4, R4⟩)
      | (go_at_call 56; refine (C1.out _ (rdr_scale R2.out s0)).mono ?_; rintro r w3 ⟨rfl, K3, R3⟩)
      | (go_at_call 56; refine (C0.out _ R1.out).mono ?_; rintro r w2 ⟨rfl, K2, R2, c3, g3⟩)
      | (go_at_call 27; refine N1.out.mono ?_; rintro r w1 ⟨rfl, K1, R1⟩))
  exact ⟨rfl, rfl, (K1.out).trans ((K2.out).trans ((KeepW.set _ b 3 _).trans ((K3.out).trans ((K4.out).trans (K5.out)))))⟩
theorem head_stops_times (b : Nat) (L : Value) (ws0 : List ByteArray) (sc0 : Int) (ls : List ByteArray) (x0 x1 x2 x3 : ByteArray) (w : World) (s0 e0 c1 e1 n2 e2 : Int) (N : Calls Tryz.prog 27 #[.pointer (some ⟨b, 0, none⟩), .string bJitney, .int .i64 5] w fun r w' => r = .returned (.tuple #[]) ∧ Aside0 (KeepW w w' b) ∧ Aside0 (Rdr w' b L 1 [x0, x1, x2, x3] sc0)) (z0 : x0.size ≤ 3000) (z1 : x1.size ≤ 3000) (z2 : x2.size ≤ 3000) (h0 : wholeL x0.data.toList = (s0, e0)) (h1 : wholeL x1.data.toList = (c1, e1)) (h2 : wholeL x2.data.toList = (n2, e2)) (he0 : e0 = 0) (hs : ¬ s0 > 6) (he1 : e1 = 0) (he2 : e2 = 0) (ks : x3 ≠ bSpots) (kt : x3 = bTimes) (hc : c1 ≠ 0) (hm : ¬ c1 > 64) (hn : 2 * n2 + 2 > 4096) :
    Calls Tryz.prog 26 #[.pointer (some ⟨b, 0, none⟩)] w fun r w' => r = .panicked (faultC 1 3) ∧ KeepW w w' b := by
  have N1 := Aside0.mk N
  subst he0
  subst he1
  subst he2
  have b1 := wholeL_bound h1
  have b2 := wholeL_bound h2
  obtain ⟨b3, b4⟩ := b1
  obtain ⟨b5, b6⟩ := b2
  have C0 := Aside0.mk (fun w h => whole_scale b L 1 x0 [x1, x2, x3] sc0 w h z0 s0 h0)
  have d0 : decide (s0 > 6) = false := decide_eq_false hs
  have d0' : decide (6 < s0) = false := decide_eq_false hs
  have C1 := Aside0.mk (fun w h => ans_ok (sheet_whole.ans b L 1 x1 [x2, x3] s0 w h z1 c1 0 h1) rfl)
  have C2 := Aside0.mk (fun w h => ans_ok (sheet_whole.ans b L 1 x2 [x3] s0 w h z2 n2 0 h2) rfl)
  have C3 := Aside0.mk (fun w h => word_ans b L 1 x3 [] s0 w h)
  have ks1 : (x3.toList == ([115, 112, 111, 116, 115] : List UInt8)) = false := beq_eq_false_iff_ne.2 (fun h => ks (bytes_inj (b := bSpots) (h.trans bSpots_l.symm)))
  have ks2 : (x3.toList != ([115, 112, 111, 116, 115] : List UInt8)) = true := by simp only [bne, ks1]; rfl
  have kt1 : (x3.toList == ([116, 105, 109, 101, 115] : List UInt8)) = true := by rw [kt, bTimes_l]; rfl
  have kt2 : (x3.toList != ([116, 105, 109, 101, 115] : List UInt8)) = false := by simp only [bne, kt1]; rfl
  have d1 : (c1 == 0) = false := beq_eq_false_iff_ne.2 hc
  clear hc
  have d2 : decide (c1 > 64) = false := decide_eq_false hm
  have d3 : decide (64 < c1) = false := decide_eq_false hm
  have d4 : decide (2 * n2 + 2 > 4096) = true := decide_eq_true hn
  have d5 : decide (4096 < 2 * n2 + 2) = true := decide_eq_true hn
  clear N h0 h1 h2 z0 z1 z2
  go_enter Tryz.func26, Tryz.ntmps26
  go_wp2_with (first
      | (go_at_call 32; refine (sheet_fail.calls b 1 3 _ R5.out.at1).mono ?_; rintro r w6 ⟨rfl, rfl⟩)
      | (go_at_call 57; refine (C3.out _ R4.out).mono ?_; rintro r w5 ⟨rfl, K5, R5⟩)
      | (go_at_call 56; refine (C2.out _ R3.out).mono ?_; rintro r w4 ⟨rfl, K4, R4⟩)
      | (go_at_call 56; refine (C1.out _ (rdr_scale R2.out s0)).mono ?_; rintro r w3 ⟨rfl, K3, R3⟩)
      | (go_at_call 56; refine (C0.out _ R1.out).mono ?_; rintro r w2 ⟨rfl, K2, R2, c3, g3⟩)
      | (go_at_call 27; refine N1.out.mono ?_; rintro r w1 ⟨rfl, K1, R1⟩))
  exact ⟨rfl, rfl, (K1.out).trans ((K2.out).trans ((KeepW.set _ b 3 _).trans ((K3.out).trans ((K4.out).trans (K5.out)))))⟩
theorem head_ok_times (b : Nat) (L : Value) (ws0 : List ByteArray) (sc0 : Int) (ls : List ByteArray) (x0 x1 x2 x3 : ByteArray) (w : World) (s0 e0 c1 e1 n2 e2 : Int) (N : Calls Tryz.prog 27 #[.pointer (some ⟨b, 0, none⟩), .string bJitney, .int .i64 5] w fun r w' => r = .returned (.tuple #[]) ∧ Aside0 (KeepW w w' b) ∧ Aside0 (Rdr w' b L 1 [x0, x1, x2, x3] sc0)) (z0 : x0.size ≤ 3000) (z1 : x1.size ≤ 3000) (z2 : x2.size ≤ 3000) (h0 : wholeL x0.data.toList = (s0, e0)) (h1 : wholeL x1.data.toList = (c1, e1)) (h2 : wholeL x2.data.toList = (n2, e2)) (he0 : e0 = 0) (hs : ¬ s0 > 6) (he1 : e1 = 0) (he2 : e2 = 0) (ks : x3 ≠ bSpots) (kt : x3 = bTimes) (hc : c1 ≠ 0) (hm : ¬ c1 > 64) (hn : ¬ 2 * n2 + 2 > 4096) :
    Calls Tryz.prog 26 #[.pointer (some ⟨b, 0, none⟩)] w fun r w' => r = .returned (.tuple #[.int .i64 c1, .int .i64 n2, .bool false]) ∧ KeepW w w' b ∧ Rdr w' b L 1 [] s0 := by
  have N1 := Aside0.mk N
  subst he0
  subst he1
  subst he2
  have b1 := wholeL_bound h1
  have b2 := wholeL_bound h2
  obtain ⟨b3, b4⟩ := b1
  obtain ⟨b5, b6⟩ := b2
  have C0 := Aside0.mk (fun w h => whole_scale b L 1 x0 [x1, x2, x3] sc0 w h z0 s0 h0)
  have d0 : decide (s0 > 6) = false := decide_eq_false hs
  have d0' : decide (6 < s0) = false := decide_eq_false hs
  have C1 := Aside0.mk (fun w h => ans_ok (sheet_whole.ans b L 1 x1 [x2, x3] s0 w h z1 c1 0 h1) rfl)
  have C2 := Aside0.mk (fun w h => ans_ok (sheet_whole.ans b L 1 x2 [x3] s0 w h z2 n2 0 h2) rfl)
  have C3 := Aside0.mk (fun w h => word_ans b L 1 x3 [] s0 w h)
  have ks1 : (x3.toList == ([115, 112, 111, 116, 115] : List UInt8)) = false := beq_eq_false_iff_ne.2 (fun h => ks (bytes_inj (b := bSpots) (h.trans bSpots_l.symm)))
  have ks2 : (x3.toList != ([115, 112, 111, 116, 115] : List UInt8)) = true := by simp only [bne, ks1]; rfl
  have kt1 : (x3.toList == ([116, 105, 109, 101, 115] : List UInt8)) = true := by rw [kt, bTimes_l]; rfl
  have kt2 : (x3.toList != ([116, 105, 109, 101, 115] : List UInt8)) = false := by simp only [bne, kt1]; rfl
  have d1 : (c1 == 0) = false := beq_eq_false_iff_ne.2 hc
  clear hc
  have d2 : decide (c1 > 64) = false := decide_eq_false hm
  have d3 : decide (64 < c1) = false := decide_eq_false hm
  have d4 : decide (2 * n2 + 2 > 4096) = false := decide_eq_false hn
  have d5 : decide (4096 < 2 * n2 + 2) = false := decide_eq_false hn
  clear N h0 h1 h2 z0 z1 z2
  go_enter Tryz.func26, Tryz.ntmps26
  go_wp2_with (first
      | (go_at_call 57; refine (C3.out _ R4.out).mono ?_; rintro r w5 ⟨rfl, K5, R5⟩)
      | (go_at_call 56; refine (C2.out _ R3.out).mono ?_; rintro r w4 ⟨rfl, K4, R4⟩)
      | (go_at_call 56; refine (C1.out _ (rdr_scale R2.out s0)).mono ?_; rintro r w3 ⟨rfl, K3, R3⟩)
      | (go_at_call 56; refine (C0.out _ R1.out).mono ?_; rintro r w2 ⟨rfl, K2, R2, c3, g3⟩)
      | (go_at_call 27; refine N1.out.mono ?_; rintro r w1 ⟨rfl, K1, R1⟩))
  go_ret3
  exact ⟨rfl, (K1.out).trans ((K2.out).trans ((KeepW.set _ b 3 _).trans ((K3.out).trans ((K4.out).trans (K5.out))))), R5.out⟩
end Go.Proofs.YtcdmndhaeiccoaaGreatDoor.P
namespace Go.Proofs.YtcdmndhaeiccoaaGreatDoor.P
open Go Go.Proofs.YtcdmndhaeiccoaaGreatDoorR
open Go.RowKit Go.Proofs.YtcdmndhaeiccoaaGreatDoorW.PrintWords Go.Proofs.YtcdmndhaeiccoaaGreatDoorW.PrintLast
set_option linter.unusedVariables false
set_option linter.unusedSimpArgs false
set_option maxHeartbeats 8000000
set_option maxRecDepth 100000
theorem next_ok {b l : Nat} {L : Value} {ws0 : List ByteArray} {sc : Int} {ls : List ByteArray} {first : ByteArray} {n : Int} {w : World} {ws : List ByteArray} (h : Rdr w b L l ws0 sc) (hL : Left w b L ls) (hb : l ≤ 20000) (hn : 1 ≤ n) (hsz : ∀ t ∈ ls, t.size ≤ 3000) (hM : nextM ls l first n = .ok ws) :
    Calls Tryz.prog 27 #[.pointer (some ⟨b, 0, none⟩), .string first, .int .i64 n] w fun r w' => r = .returned (.tuple #[]) ∧ Aside0 (KeepW w w' b) ∧ Aside0 (Rdr w' b L (l + 1) ws sc) :=
  (sheet_next.calls b l L ws0 sc ls first n w h hL hb hn hsz).mono fun r w' ⟨k, h⟩ => h.elim (fun ⟨ws', h1, h2, h3⟩ => by rw [hM] at h1; cases h1; exact ⟨h2, ⟨k⟩, ⟨h3⟩⟩) (fun ⟨e, h1, _⟩ => by rw [hM] at h1; cases h1)
theorem next_bad {b l : Nat} {L : Value} {ws0 : List ByteArray} {sc : Int} {ls : List ByteArray} {first : ByteArray} {n e : Int} {w : World} (h : Rdr w b L l ws0 sc) (hL : Left w b L ls) (hb : l ≤ 20000) (hn : 1 ≤ n) (hsz : ∀ t ∈ ls, t.size ≤ 3000) (hM : nextM ls l first n = .error e) :
    Calls Tryz.prog 27 #[.pointer (some ⟨b, 0, none⟩), .string first, .int .i64 n] w fun r w' => r = .panicked (faultC (l + 1) e) ∧ Aside0 (KeepW w w' b) :=
  (sheet_next.calls b l L ws0 sc ls first n w h hL hb hn hsz).mono fun r w' ⟨k, h⟩ => h.elim (fun ⟨ws', h1, _⟩ => by rw [hM] at h1; cases h1) (fun ⟨e, h1, h2⟩ => by rw [hM] at h1; cases h1; exact ⟨h2, ⟨k⟩⟩)
theorem head_bad_next (b : Nat) (e : Int) (w : World) (N : Calls Tryz.prog 27 #[.pointer (some ⟨b, 0, none⟩), .string bJitney, .int .i64 5] w fun r w' => r = .panicked (faultC 1 e) ∧ Aside0 (KeepW w w' b)) :
    Calls Tryz.prog 26 #[.pointer (some ⟨b, 0, none⟩)] w fun r w' => r = .panicked (faultC 1 e) ∧ KeepW w w' b := by
  have N1 := Aside0.mk N
  clear N
  go_enter Tryz.func26, Tryz.ntmps26
  go_wp2_with (first | (go_at_call 27; refine N1.out.mono ?_; rintro r w1 ⟨rfl, K1⟩))
  exact ⟨rfl, rfl, K1.out⟩
/-- head: how many cars and requests, and whether there are spots; the scale is laid down. -/
theorem sheet_head.calls (b : Nat) (L : Value) (ws0 : List ByteArray) (sc0 : Int) (ls : List ByteArray) (w : World) (h : Rdr w b L 0 ws0 sc0) (hL : Left w b L ls) (hsz : ∀ t ∈ ls, t.size ≤ 3000) :
    Calls Tryz.prog 26 #[.pointer (some ⟨b, 0, none⟩)] w fun r w' => KeepW w w' b ∧ ((∃ c n s sp, headM ls = .ok (c, n, s, sp) ∧ r = .returned (.tuple #[.int .i64 c, .int .i64 n, .bool sp]) ∧ Rdr w' b L 1 [] s) ∨ (∃ e, headM ls = .error e ∧ r = .panicked (faultC 1 e))) := by
  have hb : ∀ {e : Int} {r : Ending} {w' : World}, headM ls = .error e → r = .panicked (faultC 1 e) ∧ KeepW w w' b → KeepW w w' b ∧ ((∃ c n s sp, headM ls = .ok (c, n, s, sp) ∧ r = .returned (.tuple #[.int .i64 c, .int .i64 n, .bool sp]) ∧ Rdr w' b L 1 [] s) ∨ (∃ e, headM ls = .error e ∧ r = .panicked (faultC 1 e))) := fun h1 h2 => ⟨h2.2, .inr ⟨_, h1, h2.1⟩⟩
  have hg : ∀ {c n s : Int} {sp : Bool} {r : Ending} {w' : World}, headM ls = .ok (c, n, s, sp) → r = .returned (.tuple #[.int .i64 c, .int .i64 n, .bool sp]) ∧ KeepW w w' b ∧ Rdr w' b L 1 [] s → KeepW w w' b ∧ ((∃ c n s sp, headM ls = .ok (c, n, s, sp) ∧ r = .returned (.tuple #[.int .i64 c, .int .i64 n, .bool sp]) ∧ Rdr w' b L 1 [] s) ∨ (∃ e, headM ls = .error e ∧ r = .panicked (faultC 1 e))) := fun h1 h2 => ⟨h2.2.1, .inl ⟨_, _, _, _, h1, h2.1, h2.2.2⟩⟩
  have h' : Rdr w b L ((0 : Nat) : Int) ws0 sc0 := h
  cases hM : nextM ls 0 bJitney 5 with
  | error e => exact (head_bad_next b e w (next_bad h' hL (by omega) (by omega) hsz hM)).mono fun r w' k => hb (by unfold headM; rw [hM]) k
  | ok ws =>
    obtain ⟨hlen, hz⟩ := nextM_ok hM hsz
    match ws, hlen, hz, hM with
    | [x0, x1, x2, x3], _, hz, hM =>
      have hH : headM ls = headW x0 x1 x2 x3 := by unfold headM; rw [hM]
      have N := next_ok h' hL (by omega) (by omega) hsz hM
      have z0 := hz x0 (by simp)
      have z1 := hz x1 (by simp)
      have z2 := hz x2 (by simp)
      rw [hH] at hb hg
      rw [hH]
      unfold headW at hb hg ⊢
      obtain ⟨s0, e0, g0⟩ : ∃ s e, wholeL x0.data.toList = (s, e) := ⟨_, _, rfl⟩
      obtain ⟨c1, e1, g1⟩ : ∃ s e, wholeL x1.data.toList = (s, e) := ⟨_, _, rfl⟩
      obtain ⟨n2, e2, g2⟩ : ∃ s e, wholeL x2.data.toList = (s, e) := ⟨_, _, rfl⟩
      simp only [g0, g1, g2] at hb hg ⊢
      by_cases a0 : e0 = 0
      · by_cases a1 : s0 > 6
        · exact (head_big b L ws0 sc0 ls x0 x1 x2 x3 w s0 e0 c1 e1 n2 e2 N z0 z1 z2 g0 g1 g2 a0 a1).mono fun r w' k => hb (by rw [if_neg (by simp [a0]), if_pos a1]) k
        · by_cases a2 : e1 = 0
          · by_cases a3 : e2 = 0
            · by_cases ks : x3 = bSpots
              · have hk : ¬ (x3 ≠ bSpots ∧ x3 ≠ bTimes) := fun h => h.1 ks
                by_cases hc : c1 = 0
                · exact (head_none_spots b L ws0 sc0 ls x0 x1 x2 x3 w s0 e0 c1 e1 n2 e2 N z0 z1 z2 g0 g1 g2 a0 a1 a2 a3 ks hc).mono fun r w' k => hb (by rw [if_neg (by simp [a0]), if_neg a1, if_neg (by simp [a2]), if_neg (by simp [a3]), if_neg hk, if_pos hc]) k
                · by_cases hm : c1 > 64
                  · exact (head_many_spots b L ws0 sc0 ls x0 x1 x2 x3 w s0 e0 c1 e1 n2 e2 N z0 z1 z2 g0 g1 g2 a0 a1 a2 a3 ks hc hm).mono fun r w' k => hb (by rw [if_neg (by simp [a0]), if_neg a1, if_neg (by simp [a2]), if_neg (by simp [a3]), if_neg hk, if_neg hc, if_pos (.inl hm)]) k
                  · by_cases hn : 2 * n2 + 2 > 4096
                    · exact (head_stops_spots b L ws0 sc0 ls x0 x1 x2 x3 w s0 e0 c1 e1 n2 e2 N z0 z1 z2 g0 g1 g2 a0 a1 a2 a3 ks hc hm hn).mono fun r w' k => hb (by rw [if_neg (by simp [a0]), if_neg a1, if_neg (by simp [a2]), if_neg (by simp [a3]), if_neg hk, if_neg hc, if_pos (.inr hn)]) k
                    · exact (head_ok_spots b L ws0 sc0 ls x0 x1 x2 x3 w s0 e0 c1 e1 n2 e2 N z0 z1 z2 g0 g1 g2 a0 a1 a2 a3 ks hc hm hn).mono fun r w' k => hg (by rw [if_neg (by simp [a0]), if_neg a1, if_neg (by simp [a2]), if_neg (by simp [a3]), if_neg hk, if_neg hc, if_neg (by rintro (h | h); exact hm h; exact hn h), decide_eq_true ks]) k
              · by_cases kt : x3 = bTimes
                · have hk : ¬ (x3 ≠ bSpots ∧ x3 ≠ bTimes) := fun h => h.2 kt
                  by_cases hc : c1 = 0
                  · exact (head_none_times b L ws0 sc0 ls x0 x1 x2 x3 w s0 e0 c1 e1 n2 e2 N z0 z1 z2 g0 g1 g2 a0 a1 a2 a3 ks kt hc).mono fun r w' k => hb (by rw [if_neg (by simp [a0]), if_neg a1, if_neg (by simp [a2]), if_neg (by simp [a3]), if_neg hk, if_pos hc]) k
                  · by_cases hm : c1 > 64
                    · exact (head_many_times b L ws0 sc0 ls x0 x1 x2 x3 w s0 e0 c1 e1 n2 e2 N z0 z1 z2 g0 g1 g2 a0 a1 a2 a3 ks kt hc hm).mono fun r w' k => hb (by rw [if_neg (by simp [a0]), if_neg a1, if_neg (by simp [a2]), if_neg (by simp [a3]), if_neg hk, if_neg hc, if_pos (.inl hm)]) k
                    · by_cases hn : 2 * n2 + 2 > 4096
                      · exact (head_stops_times b L ws0 sc0 ls x0 x1 x2 x3 w s0 e0 c1 e1 n2 e2 N z0 z1 z2 g0 g1 g2 a0 a1 a2 a3 ks kt hc hm hn).mono fun r w' k => hb (by rw [if_neg (by simp [a0]), if_neg a1, if_neg (by simp [a2]), if_neg (by simp [a3]), if_neg hk, if_neg hc, if_pos (.inr hn)]) k
                      · exact (head_ok_times b L ws0 sc0 ls x0 x1 x2 x3 w s0 e0 c1 e1 n2 e2 N z0 z1 z2 g0 g1 g2 a0 a1 a2 a3 ks kt hc hm hn).mono fun r w' k => hg (by rw [if_neg (by simp [a0]), if_neg a1, if_neg (by simp [a2]), if_neg (by simp [a3]), if_neg hk, if_neg hc, if_neg (by rintro (h | h); exact hm h; exact hn h), decide_eq_false ks]) k
                · exact (head_kind b L ws0 sc0 ls x0 x1 x2 x3 w s0 e0 c1 e1 n2 e2 N z0 z1 z2 g0 g1 g2 a0 a1 a2 a3 ks kt).mono fun r w' k => hb (by rw [if_neg (by simp [a0]), if_neg a1, if_neg (by simp [a2]), if_neg (by simp [a3]), if_pos ⟨ks, kt⟩]) k
            · exact (head_bad2 b L ws0 sc0 ls x0 x1 x2 x3 w s0 e0 c1 e1 n2 e2 N z0 z1 z2 g0 g1 g2 a0 a1 a2 a3).mono fun r w' k => hb (by rw [if_neg (by simp [a0]), if_neg a1, if_neg (by simp [a2]), if_pos a3]) k
          · exact (head_bad1 b L ws0 sc0 ls x0 x1 x2 x3 w s0 e0 c1 e1 n2 e2 N z0 z1 z2 g0 g1 g2 a0 a1 a2).mono fun r w' k => hb (by rw [if_neg (by simp [a0]), if_neg a1, if_pos a2]) k
      · exact (head_bad0 b L ws0 sc0 ls x0 x1 x2 x3 w s0 e0 c1 e1 n2 e2 N z0 z1 z2 g0 g1 g2 a0).mono fun r w' k => hb (by rw [if_pos a0]) k
end Go.Proofs.YtcdmndhaeiccoaaGreatDoor.P
