/- The reader's instance. -/
import Derived.Test.YtcdmndhaeiccoaaGreatDoorMkit
import Derived.Deep.RegionLaw
import Derived.Test.YtcdmndhaeiccoaaGreatDoorM10
namespace Go.Proofs.YtcdmndhaeiccoaaGreatDoor.P
open Go Go.Proofs.YtcdmndhaeiccoaaGreatDoorR
open Go.RowKit Go.Proofs.YtcdmndhaeiccoaaGreatDoorW.PrintWords Go.Proofs.YtcdmndhaeiccoaaGreatDoorW.PrintLast
set_option linter.unusedVariables false
set_option linter.unusedSimpArgs false
set_option maxHeartbeats 8000000
set_option maxRecDepth 100000
def AnsI (w : World) (b : Nat) (L : Value) (M : Except (Int × Int) (InstP × Int)) (r : Ending) (w' : World) : Prop :=
  Aside0 (KeepW w w' b) ∧ ((∃ x s, M = .ok (x, s) ∧ ∃ v0 v1 v2 v3, r = .returned (.agg #[v0, v1, v2, v3]) ∧ Aside0 (InstAt w' w.heap.size v0 v1 v2 v3 x) ∧ Aside0 (∃ l, Rdr w' b L l [] s)) ∨ (∃ l e, M = .error (l, e) ∧ r = .panicked (faultC l e)))
theorem go_fail {f : InstP → Nat → Except Int InstP} {ls : List ByteArray} {all d i : Nat} {s e : Int} {x : InstP} (hd : 0 < d) (h : f x i = .error e) : finM ls all s (goM f d i x) = .error ((i : Int) + 1, e) := by
  obtain ⟨d, rfl⟩ : ∃ m, d = m + 1 := ⟨d - 1, by omega⟩
  rw [goM_bad h]
  rfl
theorem go_on {f : InstP → Nat → Except Int InstP} {d i : Nat} {x y : InstP} (hd : 0 < d) (h : f x i = .ok y) : goM f d i x = goM f (d - 1) (i + 1) y := by
  obtain ⟨d, rfl⟩ : ∃ m, d = m + 1 := ⟨d - 1, by omega⟩
  rw [goM_good h]
  rfl
theorem bind_next {α : Type} {ls : List ByteArray} {l : Nat} {first : ByteArray} {n e : Int} {f : List ByteArray → Except Int α} (h : nextM ls l first n = .error e) : bindE (nextM ls l first n) f = .error e := by rw [h]; rfl
theorem bind_next_ok {α : Type} {ls : List ByteArray} {l : Nat} {first : ByteArray} {n : Int} {ws : List ByteArray} {f : List ByteArray → Except Int α} (h : nextM ls l first n = .ok ws) : bindE (nextM ls l first n) f = f ws := by rw [h]; rfl
theorem bind_err {α β : Type} {M : Except Int α} {e : Int} {f : α → Except Int β} (h : M = .error e) : bindE M f = .error e := by rw [h]; rfl
theorem bind_ok {α β : Type} {M : Except Int α} {a : α} {f : α → Except Int β} (h : M = .ok a) : bindE M f = f a := by rw [h]; rfl
theorem okE_bad {α : Type} {p : α × Int} {a : α} {e : Int} (h : p = (a, e)) (he : e ≠ 0) : okE p = .error e := by rw [h]; exact if_neg he
theorem okE_good {α : Type} {p : α × Int} {a : α} {e : Int} (h : p = (a, e)) (he : e = 0) : okE p = .ok a := by rw [h]; exact if_pos he
theorem er2_s {e f : Int} (h : e = 0) : er2 e f = f := if_pos h
theorem inst_walk (b : Nat) (L : Value) (ls : List ByteArray) (c n : Nat) (s : Int) (sp : Bool) (w : World) (hc : c ≤ 64) (hn : 2 * n + 2 ≤ 4096) (hb : b < w.heap.size) (hL : Left w b L ls) (hsz : ∀ t ∈ ls, t.size ≤ 3000)
    (CH : ∀ W, Below w.heap.size w W → Calls Tryz.prog 26 #[.pointer (some ⟨b, 0, none⟩)] W fun r w' => r = .returned (.tuple #[.int .i64 c, .int .i64 n, .bool sp]) ∧ Aside0 (KeepW W w' b) ∧ Aside0 (Rdr w' b L 1 [] s)) :
    Calls Tryz.prog 11 #[.pointer (some ⟨b, 0, none⟩)] w (AnsI w b L (finM ls (allM c n sp) s (goM (stepM ls c n s sp) (allM c n sp - 1) 1 ⟨[], [], [], []⟩))) := by
  have B0 := Aside0.mk (below_alloc (below_alloc (Below.refl w.heap.size w) zInst) zInst)
  have n1 : ¬ (w.heap.size + 1 = b) := by omega
  have n2 : ¬ (b = w.heap.size + 1) := by omega
  have HB := Aside0.mk hb
  have HC := Aside0.mk hc
  have HN := Aside0.mk hn
  have HS := Aside0.mk hsz
  have CH0 := Aside0.mk (CH _ B0.out)
  have HL := Aside0.mk (hL.keep (.of_below B0.out b))
  have HALL := Aside0.mk (show allM c n sp = 1 + c + (2 * n + 2) + n + (if sp then 0 else 2 * n + 2) from rfl)
  obtain ⟨all, hall⟩ : ∃ all, all = allM c n sp := ⟨_, rfl⟩
  rw [← hall] at HALL ⊢
  obtain ⟨T, hT⟩ : ∃ T, T = goM (stepM ls c n s sp) (all - 1) 1 ⟨[], [], [], []⟩ := ⟨_, rfl⟩
  rw [← hT]
  have HT := Aside0.mk hT
  clear hL hsz CH hT hall hb
  go_enter Tryz.func11, Tryz.ntmps11
  go_wp2_with (first | (go_at_call 26; refine CH0.out.mono ?_; rintro r w1 ⟨rfl, K1, R1⟩))
  have S1 := Aside0.mk (show St0 w w1 b L ls #[.slice none 0 0, .slice none 0 0, .slice none 0 0, .slice none 0 0] 1 s from ⟨(KeepW.of_below B0.out b).trans K1.out, R1.out, HL.out.keep K1.out, keep_at K1.out (heap_alloc2_new w zInst zInst) (by have := HB.out; omega), keep_at K1.out (heap_alloc2_old w zInst zInst) (by have := HB.out; omega)⟩)
  clear K1 R1 HL CH0
  go_loopg [14] c (fun gg v14 wr => ∃ (acc : List S60) (v0 : Value), v14 = .int .i64 (acc.length : Int) ∧ acc.length ≤ c ∧ c - acc.length ≤ gg ∧ Aside0 (T = goM (stepM ls c n s sp) (all - 1 - acc.length) (1 + acc.length) ⟨acc, [], [], []⟩) ∧ Aside0 (St0 w wr b L ls #[v0, .slice none 0 0, .slice none 0 0, .slice none 0 0] ((1 + acc.length : Nat) : Int) s) ∧ Aside0 (InstAt wr w.heap.size v0 (.slice none 0 0) (.slice none 0 0) (.slice none 0 0) ⟨acc, [], [], []⟩))
  case atStart => exact ⟨[], _, rfl, Nat.zero_le _, Nat.le_refl _, HT, S1, ⟨instAt_nil _ _⟩⟩
  case round =>
    obtain ⟨acc, v0, rfl, hlen, hm, HG, HS0, HI⟩ := hrel
    by_cases hj : acc.length < c
    · have HLE := Aside0.mk hlen
      have HM := Aside0.mk hm
      obtain ⟨j, hjj⟩ : ∃ j, j = acc.length := ⟨_, rfl⟩
      have HJ := Aside0.mk hjj
      rw [← hjj] at hj HG HS0 ⊢
      clear hlen hm hjj
      have c1 : decide ((j : Int) < (c : Int)) = true := decide_eq_true (by omega)
      have c2 : decide (j < c) = true := decide_eq_true hj
      cases hM : nextM ls (1 + j) bCar 4 with
      | error e =>
        have N1 := Aside0.mk (next_bad HS0.out.rdr HS0.out.left (by omega) (by decide) HS.out hM)
        have HE := Aside0.mk (show stepM ls c n s sp ⟨acc, [], [], []⟩ (1 + j) = .error e by rw [step_car (by omega)]; exact bind_err (bind_next hM))
        clear hM
        go_wp2_with (first | (go_at_call 27; refine N1.out.mono ?_; rintro r w2 ⟨rfl, K2⟩))
        exact ⟨rfl, ⟨HS0.out.keep.trans K2.out⟩, .inr ⟨_, e, by rw [HG.out]; exact go_fail (by have := HALL.out; omega) HE.out, rfl⟩⟩
      | ok ws =>
        obtain ⟨hlen, hz⟩ := nextM_ok hM HS.out
        match ws, hlen, hz, hM with
        | [x0, x1, x2], _, hz, hM =>
          obtain ⟨a0, e0, g0⟩ : ∃ a e, smallL x0.data.toList 1000 = (a, e) := ⟨_, _, rfl⟩
          obtain ⟨a1, e1, g1⟩ : ∃ a e, smallL x1.data.toList 1000 = (a, e) := ⟨_, _, rfl⟩
          obtain ⟨a2, e2, g2⟩ : ∃ a e, readL x2.data.toList s = (a, e) := ⟨_, _, rfl⟩
          have HP := Aside0.mk (show carE [x0, x1, x2] s = (⟨⟨a0, a1⟩, a2⟩, er2 (er2 e0 e1) e2) by simp only [carE, g0, g1, g2])
          have HC1 := Aside0.mk (show carM ls (1 + j) s = okE (carE [x0, x1, x2] s) from bind_next_ok hM)
          have N1 := Aside0.mk (next_ok HS0.out.rdr HS0.out.left (by omega) (by decide) HS.out hM)
          have CL := Aside0.mk (fun W h => sheet_load.ans b L (((1 + j : Nat) : Int) + 1) x0 x1 [x2] s W h (hz x0 (by simp)) (hz x1 (by simp)) a0 a1 e0 e1 g0 g1)
          have CD := Aside0.mk (fun W h => sheet_decimal.ans b L (((1 + j : Nat) : Int) + 1) x2 [] s s W h (hz x2 (by simp)) a2 e2 g2)
          have HD := Aside0.mk (show (acc ++ [(⟨⟨a0, a1⟩, a2⟩ : S60)]).length = j + 1 by rw [List.length_append, ← HJ.out]; rfl)
          have HWR := Aside0.mk (show wrap64 ((j : Int) + 1) = ((j + 1 : Nat) : Int) by unfold wrap64; have := HC.out; omega)
          clear hM hz g0 g1 g2
          go_wp2_with (first | (go_at_call 27; refine N1.out.mono ?_; rintro r w2 ⟨rfl, K2, R2⟩))
          have hbx := Aside0.mk (keep_at K2.out HS0.out.box (by have := HB.out; omega))
          have s3 := R2.out.at3
          have y0 := (four_of hbx.out).1.1
          go_region_law (first | (refine Kd.R_append_step k60 (w0 := w4) w.heap.size rfl (.tmp 19) (.tmp 29) 23 60 (.agg #[.int .i64 0, .int .i64 0, .int .i64 0]) 24 rfl Tryz.underlying23 info60 rfl (by decide) (by decide) _ acc ⟨⟨a0, a1⟩, a2⟩ [.int .i64 a0, .int .i64 a1, .int .i64 a2] (fun _ => True) (fun _ => False) rfl rfl (k60_mkM _ _ _ ⟨⟨a0, a1⟩, a2⟩) (fun _ h => h.elim) (fun _ _ => trivial) I4.out.cars (Below.refl _ _) S4.out.keep.size (by have := HC.out; have := HJ.out; omega) ?_; intro v1 w5 ho hb hg _; obtain ⟨A1, q1, hv⟩ := Kd.R_slice ho; rw [HD.out] at hv; subst hv; have HO := Aside0.mk ho; have S5 := Aside0.mk (st0_grow S4.out hb hg (row_type I4.out.cars (by decide) (by decide) (by decide))); clear ho hb hg; clear y0 y0a; obtain ⟨⟨y0, y1, y2, y3⟩, f0, f1, f2, f3⟩ := four_of S5.out.box; have s5 := S5.out.rdr.at3) | (go_simp; go_wp2_with (first | (go_at_call 29; refine (CD.out _ R3.out).mono ?_; rintro r w4 ⟨K4, ⟨rfl, rfl, R4⟩ | ⟨F4, rfl⟩⟩; rotate_left; exact ⟨rfl, ⟨HS0.out.keep.trans (K2.out.trans ((keep_drew' K3.out).trans K4.out))⟩, .inr ⟨_, e2, by rw [HG.out]; exact go_fail (by have := HALL.out; omega) (by rw [step_car (by omega)]; exact bind_err (HC1.out.trans (okE_bad (HP.out.trans (by rw [er2_s HE3.out])) F4.out))), rfl⟩⟩; have S4 := Aside0.mk (st0_keep HS0.out HB.out (K2.out.trans ((keep_drew' K3.out).trans K4.out)) R4.out); have I4 := Aside0.mk (instAt_keep HI.out (K2.out.trans ((keep_drew' K3.out).trans K4.out)) HB.out); clear y0; have y0 := (four_of S4.out.box).1.1; have y0a := fun o => cell_below (below_alloc (Below.refl w4.heap.size w4) o) y0) | (go_at_call 28; refine (CL.out _ (rdr_drew R2.out)).mono ?_; rintro r w3 ⟨K3, ⟨he3, rfl, R3⟩ | ⟨F3, rfl⟩⟩; rotate_left; exact ⟨rfl, ⟨HS0.out.keep.trans (K2.out.trans (keep_drew' K3.out))⟩, .inr ⟨_, er2 e0 e1, by rw [HG.out]; exact go_fail (by have := HALL.out; omega) (by rw [step_car (by omega)]; exact bind_err (HC1.out.trans (okE_bad (HP.out.trans (by rw [er2_n F3.out])) F3.out))), rfl⟩⟩; have HE3 := Aside0.mk he3; clear he3; clear y0 s3; have s3 := R3.out.at3; have y0 := (four_of (keep_at K3.out hbx.out (by have := HB.out; omega))).1.1))))
          all_goals
            go_wp2
            go_roundg (c - (j + 1))
            case measure => have := HM.out; have := HJ.out; omega
            case rel =>
              refine ⟨acc ++ [⟨⟨a0, a1⟩, a2⟩], _, ?_, ?_, ?_, ⟨?_⟩, ⟨?_⟩, ⟨instAt_set ⟨HO.out, Kd.R_nil _ _ _ _ _, Kd.R_nil _ _ _ _ _, Kd.R_nil _ _ _ _ _⟩ S5.out.box 0 _⟩⟩
              · rw [HD.out]; first | rfl | go_num
              · rw [HD.out]; omega
              · rw [HD.out]; exact Nat.le_refl _
              · rw [HD.out, HG.out, go_on (y := ⟨acc ++ [⟨⟨a0, a1⟩, a2⟩], [], [], []⟩) (by have := HALL.out; omega) (by rw [step_car (by omega)]; exact bind_ok (HC1.out.trans (okE_good HP.out (by rw [er2_s HE3.out])))), Nat.sub_sub, Nat.add_assoc]
              · rw [HD.out]; exact st0_put S5.out HB.out 0 _
    · have hcl : acc.length = c := by omega
      have d1 : decide ((acc.length : Int) < (c : Int)) = false := decide_eq_false (by omega)
      have d2 : decide (acc.length < c) = false := decide_eq_false hj
      rw [hcl] at HG HS0
      have HCL1 := Aside0.mk hcl
      clear hlen hm hj hcl
      go_wp2
      clear d1 d2
      go_loopg [36] (2 * n + 2) (fun gg v36 wr => ∃ (st : List S63) (v1 : Value), v36 = .int .i64 (st.length : Int) ∧ st.length ≤ 2 * n + 2 ∧ 2 * n + 2 - st.length ≤ gg ∧ Aside0 (T = goM (stepM ls c n s sp) (all - 1 - (c + st.length)) (1 + c + st.length) ⟨acc, st, [], []⟩) ∧ Aside0 (St0 w wr b L ls #[v0, v1, .slice none 0 0, .slice none 0 0] ((1 + c + st.length : Nat) : Int) s) ∧ Aside0 (InstAt wr w.heap.size v0 v1 (.slice none 0 0) (.slice none 0 0) ⟨acc, st, [], []⟩))
      case atStart => exact ⟨[], _, rfl, Nat.zero_le _, Nat.le_refl _, HG, HS0, HI⟩
      case round =>
        clear HG HS0 HI
        obtain ⟨st, v1, rfl, hlen, hm, HG, HS0, HI⟩ := hrel
        by_cases hj : st.length < 2 * n + 2
        · have HM := Aside0.mk hm
          obtain ⟨j, hjj⟩ : ∃ j, j = st.length := ⟨_, rfl⟩
          have HJ := Aside0.mk hjj
          rw [← hjj] at hj HG HS0 ⊢
          clear hlen hm hjj
          have c1 : decide ((j : Int) < 2 * (n : Int) + 2) = true := decide_eq_true (by omega)
          have c2 : decide (j < 2 * n + 2) = true := decide_eq_true hj
          have HWR := Aside0.mk (show wrap64 ((j : Int) + 1) = ((j + 1 : Nat) : Int) by unfold wrap64; have := HN.out; omega)
          have HD := Aside0.mk (fun x : S63 => show (st ++ [x]).length = j + 1 by rw [List.length_append, ← HJ.out]; rfl)
          have CS := Aside0.mk (fun W h hL => show Calls Tryz.prog 30 #[.pointer (some ⟨b, 0, none⟩), .bool sp] W (AnsM W b (((1 + c + j : Nat) : Int) + 1) (stopM ls (1 + c + j) sp s) (fun x r w' => r = .returned (.agg #[.int .i64 x.f0.f0, .int .i64 x.f0.f1, .int .i64 x.f1, .int .i64 x.f2, .int .i64 x.f3, .complex .f64 x.f4.1 x.f4.2]) ∧ Aside0 (Rdr w' b L (((1 + c + j : Nat) : Int) + 1) [] s))) from sheet_stop.calls b (1 + c + j) L [] s ls sp W h hL (by omega) HS.out)
          go_wp2_with fail
          have y1 := (four_of HS0.out.box).1.2.1
          go_region_law (first | (refine Kd.R_append_step k63 (w0 := w4) w.heap.size rfl (.tmp 39) (.tmp 43) 24 63 (.agg #[.int .i64 0, .int .i64 0, .int .i64 0, .int .i64 0, .int .i64 0, .complex .f64 0 0]) 56 rfl Tryz.underlying24 info63 rfl (by decide) (by decide) _ st x [.int .i64 x.f0.f0, .int .i64 x.f0.f1, .int .i64 x.f1, .int .i64 x.f2, .int .i64 x.f3, .complex .f64 x.f4.1 x.f4.2] (fun _ => True) (fun _ => False) rfl rfl (k63_mkM _ _ _ x) (fun _ h => h.elim) (fun _ _ => trivial) I4.out.stops (Below.refl _ _) S4.out.keep.size (by have := HN.out; have := HJ.out; omega) ?_; intro v2 w5 ho hb hg _; obtain ⟨A1, q1, hv⟩ := Kd.R_slice ho; rw [HD.out] at hv; subst hv; have HO := Aside0.mk ho; have HOC := Aside0.mk (row_else I4.out.stops I4.out.cars hg (by decide)); have S5 := Aside0.mk (st0_grow S4.out hb hg (row_type I4.out.stops (by decide) (by decide) (by decide))); clear ho hb hg; clear y1 y1a; obtain ⟨⟨y0, y1, y2, y3⟩, f0, f1, f2, f3⟩ := four_of S5.out.box) | (go_simp; go_wp2_with (first | (go_at_call 30; refine (CS.out _ (rdr_drew HS0.out.rdr) HS0.out.left).mono ?_; rintro r w4 ⟨K4, ⟨x, hx, rfl, R4⟩ | ⟨e, he, rfl⟩⟩; rotate_left; exact ⟨rfl, ⟨HS0.out.keep.trans (keep_drew' K4.out)⟩, .inr ⟨_, e, by rw [HG.out]; exact go_fail (by have := HALL.out; omega) (by rw [step_stop (by omega) (by omega)]; exact bind_err he), rfl⟩⟩; have HX := Aside0.mk hx; clear hx; have S4 := Aside0.mk (st0_keep HS0.out HB.out (keep_drew' K4.out) R4.out); have I4 := Aside0.mk (instAt_keep HI.out (keep_drew' K4.out) HB.out); clear y1; have y1 := (four_of S4.out.box).1.2.1; have y1a := fun o => cell_below (below_alloc (Below.refl w4.heap.size w4) o) y1))))
          all_goals
            go_wp2
            go_roundg (2 * n + 2 - (j + 1))
            case measure => have := HM.out; have := HJ.out; omega
            case rel =>
              refine ⟨st ++ [x], _, ?_, ?_, ?_, ⟨?_⟩, ⟨?_⟩, ⟨instAt_set ⟨HOC.out, HO.out, Kd.R_nil _ _ _ _ _, Kd.R_nil _ _ _ _ _⟩ S5.out.box 1 _⟩⟩
              · rw [HD.out]; first | rfl | go_num
              · rw [HD.out]; omega
              · rw [HD.out]; exact Nat.le_refl _
              · rw [HD.out, HG.out, go_on (y := ⟨acc, st ++ [x], [], []⟩) (by have := HALL.out; omega) (by rw [step_stop (by omega) (by omega)]; exact bind_ok HX.out)]; exact congrArg (fun k => goM (stepM ls c n s sp) k _ _) (by omega)
              · rw [HD.out]; exact st0_put S5.out HB.out 1 _
        · have hcl : st.length = 2 * n + 2 := by omega
          have d1 : decide ((st.length : Int) < 2 * (n : Int) + 2) = false := decide_eq_false (by omega)
          have d2 : decide (st.length < 2 * n + 2) = false := decide_eq_false hj
          rw [hcl] at HG HS0
          have HCL2 := Aside0.mk hcl
          clear hlen hm hj hcl
          go_wp2
          clear d1 d2
          go_loopg [48] n (fun gg v48 wr => ∃ (rd : List Int) (v2 : Value), v48 = .int .i64 (rd.length : Int) ∧ rd.length ≤ n ∧ n - rd.length ≤ gg ∧ Aside0 (T = goM (stepM ls c n s sp) (all - 1 - (c + (2 * n + 2) + rd.length)) (1 + c + (2 * n + 2) + rd.length) ⟨acc, st, rd, []⟩) ∧ Aside0 (St0 w wr b L ls #[v0, v1, v2, .slice none 0 0] ((1 + c + (2 * n + 2) + rd.length : Nat) : Int) s) ∧ Aside0 (InstAt wr w.heap.size v0 v1 v2 (.slice none 0 0) ⟨acc, st, rd, []⟩))
          case atStart => exact ⟨[], _, rfl, Nat.zero_le _, Nat.le_refl _, HG, HS0, HI⟩
          case round =>
            clear HG HS0 HI
            obtain ⟨rd, v2, rfl, hlen, hm, HG, HS0, HI⟩ := hrel
            by_cases hj : rd.length < n
            · have HM := Aside0.mk hm
              obtain ⟨j, hjj⟩ : ∃ j, j = rd.length := ⟨_, rfl⟩
              have HJ := Aside0.mk hjj
              rw [← hjj] at hj HG HS0 ⊢
              clear hlen hm hjj
              have c1 : decide ((j : Int) < (n : Int)) = true := decide_eq_true (by omega)
              have c2 : decide (j < n) = true := decide_eq_true hj
              have HWR := Aside0.mk (show wrap64 ((j : Int) + 1) = ((j + 1 : Nat) : Int) by unfold wrap64; have := HN.out; omega)
              have HD := Aside0.mk (fun x : Int => show (rd ++ [x]).length = j + 1 by rw [List.length_append, ← HJ.out]; rfl)
              cases hM : nextM ls (1 + c + (2 * n + 2) + j) bRide 2 with
              | error e =>
                have N1 := Aside0.mk (next_bad HS0.out.rdr HS0.out.left (by omega) (by decide) HS.out hM)
                have HE := Aside0.mk (show stepM ls c n s sp ⟨acc, st, rd, []⟩ (1 + c + (2 * n + 2) + j) = .error e by rw [step_ride (by omega) (by omega)]; exact bind_err (bind_next hM))
                clear hM
                go_wp2_with (first | (go_at_call 27; refine N1.out.mono ?_; rintro r w2 ⟨rfl, K2⟩))
                exact ⟨rfl, ⟨HS0.out.keep.trans K2.out⟩, .inr ⟨_, e, by rw [HG.out]; exact go_fail (by have := HALL.out; omega) HE.out, rfl⟩⟩
              | ok ws =>
                obtain ⟨hlen, hz⟩ := nextM_ok hM HS.out
                match ws, hlen, hz, hM with
                | [x0], _, hz, hM =>
                  obtain ⟨a0, e0, g0⟩ : ∃ a e, readL x0.data.toList s = (a, e) := ⟨_, _, rfl⟩
                  have HP := Aside0.mk (show rideE [x0] s = (a0, e0) from g0)
                  have HC1 := Aside0.mk (show rideM ls (1 + c + (2 * n + 2) + j) s = okE (rideE [x0] s) from bind_next_ok hM)
                  have N1 := Aside0.mk (next_ok HS0.out.rdr HS0.out.left (by omega) (by decide) HS.out hM)
                  have CD := Aside0.mk (fun W h => sheet_decimal.ans b L (((1 + c + (2 * n + 2) + j : Nat) : Int) + 1) x0 [] s s W h (hz x0 (by simp)) a0 e0 g0)
                  clear hM hz g0
                  go_wp2_with (first | (go_at_call 27; refine N1.out.mono ?_; rintro r w2 ⟨rfl, K2, R2⟩))
                  have hbx := Aside0.mk (keep_at K2.out HS0.out.box (by have := HB.out; omega))
                  have s3 := R2.out.at3
                  have y2 := (four_of hbx.out).1.2.2.1
                  go_region_law (first | (refine Kd.R_append_step (Kd.int .i64) (w0 := w4) w.heap.size rfl (.tmp 53) (.tmp 60) 25 2 (.int .i64 0) 8 rfl Tryz.underlying25 info2 rfl (by decide) (by decide) _ rd a0 [.int .i64 a0] (fun _ => True) (fun _ => False) rfl rfl rfl (fun _ h => h.elim) (fun _ _ => trivial) I4.out.rides (Below.refl _ _) S4.out.keep.size (by have := HN.out; have := HJ.out; omega) ?_; intro v3 w5 ho hb hg _; obtain ⟨A1, q1, hv⟩ := Kd.R_slice ho; rw [HD.out] at hv; subst hv; have HO := Aside0.mk ho; have HOC := Aside0.mk (row_else I4.out.rides I4.out.cars hg (by decide)); have HOS := Aside0.mk (row_else I4.out.rides I4.out.stops hg (by decide)); have S5 := Aside0.mk (st0_grow S4.out hb hg (row_type I4.out.rides (by decide) (by decide) (by decide))); clear ho hb hg; clear y2 y2a; obtain ⟨⟨y0, y1, y2, y3⟩, f0, f1, f2, f3⟩ := four_of S5.out.box; have s5 := S5.out.rdr.at3) | (go_simp; go_wp2_with (first | (go_at_call 29; refine (CD.out _ (rdr_drew R2.out)).mono ?_; rintro r w4 ⟨K4, ⟨rfl, rfl, R4⟩ | ⟨F4, rfl⟩⟩; rotate_left; exact ⟨rfl, ⟨HS0.out.keep.trans (K2.out.trans (keep_drew' K4.out))⟩, .inr ⟨_, e0, by rw [HG.out]; exact go_fail (by have := HALL.out; omega) (by rw [step_ride (by omega) (by omega)]; exact bind_err (HC1.out.trans (okE_bad HP.out F4.out))), rfl⟩⟩; have S4 := Aside0.mk (st0_keep HS0.out HB.out (K2.out.trans (keep_drew' K4.out)) R4.out); have I4 := Aside0.mk (instAt_keep HI.out (K2.out.trans (keep_drew' K4.out)) HB.out); clear y2; have y2 := (four_of S4.out.box).1.2.2.1; have y2a := fun o => cell_below (below_alloc (Below.refl w4.heap.size w4) o) y2))))
                  all_goals
                    go_wp2
                    go_roundg (n - (j + 1))
                    case measure => have := HM.out; have := HJ.out; omega
                    case rel =>
                      refine ⟨rd ++ [a0], _, ?_, ?_, ?_, ⟨?_⟩, ⟨?_⟩, ⟨instAt_set ⟨HOC.out, HOS.out, HO.out, Kd.R_nil _ _ _ _ _⟩ S5.out.box 2 _⟩⟩
                      · rw [HD.out]; first | rfl | go_num
                      · rw [HD.out]; omega
                      · rw [HD.out]; exact Nat.le_refl _
                      · rw [HD.out, HG.out, go_on (y := ⟨acc, st, rd ++ [a0], []⟩) (by have := HALL.out; omega) (by rw [step_ride (by omega) (by omega)]; exact bind_ok (HC1.out.trans (okE_good HP.out rfl)))]; exact congrArg (fun k => goM (stepM ls c n s sp) k _ _) (by omega)
                      · rw [HD.out]; exact st0_put S5.out HB.out 2 _
            · have hcl : rd.length = n := by omega
              have d1 : decide ((rd.length : Int) < (n : Int)) = false := decide_eq_false (by omega)
              have d2 : decide (rd.length < n) = false := decide_eq_false hj
              rw [hcl] at HG HS0
              have HCL3 := Aside0.mk hcl
              clear hlen hm hj hcl
              go_wp2
              clear d1 d2
              cases sp with
              | true =>
                have hall : all = 1 + c + (2 * n + 2) + n := by have := HALL.out; simpa using this
                have HAL := Aside0.mk hall
                clear hall
                go_loopg [67] 1 (fun gg v67 wr => v67 = .int .i64 0 ∧ Aside0 (St0 w wr b L ls #[v0, v1, v2, .slice none 0 0] ((1 + c + (2 * n + 2) + n : Nat) : Int) s) ∧ Aside0 (InstAt wr w.heap.size v0 v1 v2 (.slice none 0 0) ⟨acc, st, rd, []⟩))
                case atStart => exact ⟨rfl, HS0, HI⟩
                case round =>
                  clear HS0 HI
                  obtain ⟨rfl, HS0, HI⟩ := hrel
                  have c1 : decide ((0 : Int) < 2 * (n : Int) + 2) = true := decide_eq_true (by omega)
                  have c2 : decide (0 < 2 * n + 2) = true := decide_eq_true (by omega)
                  have HT0 := Aside0.mk (show T = .ok ⟨acc, st, rd, []⟩ by rw [HG.out, show all - 1 - (c + (2 * n + 2) + n) = 0 by have := HAL.out; omega]; rfl)
                  obtain ⟨A0, q0, hv0⟩ := Kd.R_slice HI.out.cars
                  obtain ⟨A1, q1, hv1⟩ := Kd.R_slice HI.out.stops
                  obtain ⟨A2, q2, hv2⟩ := Kd.R_slice HI.out.rides
                  obtain ⟨A3, q3, hv3⟩ := Kd.R_slice HI.out.rows
                  have HO0 := Aside0.mk (show v0.oneCell' = true by rw [hv0]; rfl)
                  have HO1 := Aside0.mk (show v1.oneCell' = true by rw [hv1]; rfl)
                  have HO2 := Aside0.mk (show v2.oneCell' = true by rw [hv2]; rfl)
                  have HO3 := Aside0.mk (show (Value.slice none 0 0).oneCell' = true by rw [hv3]; rfl)
                  clear hv0 hv1 hv2 hv3
                  obtain ⟨LA, lc, hLe, -⟩ := HS0.out.left
                  have HLE := Aside0.mk hLe
                  obtain ⟨z, hz⟩ : ∃ z : Nat, z = 1 + c + (2 * n + 2) + n := ⟨_, rfl⟩
                  rw [← hz] at HS0
                  have HZ := Aside0.mk hz
                  have hzb : z ≤ 20000 := by have := HN.out; have := HC.out; omega
                  have k1 := HS0.out.rdr.at1
                  have k0 := HS0.out.rdr.at0
                  rw [hLe] at k0
                  obtain ⟨vb, hvb, hlb⟩ := HS0.out.rdr.blk
                  have g1 : wr.frozen? ⟨b, 1, none⟩ = false := blk_frozen hvb 1
                  have HVB := Aside0.mk (And.intro hvb hlb)
                  clear hvb hlb hLe hz
                  go_wp2_with fail
                  obtain ⟨W, hW⟩ : ∃ W, W = wr.setCell ⟨b, 1, none⟩ (.int .i64 ((z : Int) + 1)) := ⟨_, rfl⟩
                  rw [← hW]
                  have hBW : W.heap[b]? = some (.cells #[L, .int .i64 ((z : Int) + 1), vb, .int .i64 s] 46 (0, 0)) := by rw [hW]; exact blk_set HVB.out.1 1 _
                  have KW := Aside0.mk (show KeepW wr W b by rw [hW]; exact KeepW.set _ _ _ _)
                  have RW := Aside0.mk (show Rdr W b L ((z : Int) + 1) [] s from ⟨⟨vb, hBW, HVB.out.2.keep KW.out⟩⟩)
                  have j1 := RW.out.at1
                  have j0 := RW.out.at0
                  rw [HLE.out] at j0
                  clear hW k0 k1 g1 hBW
                  by_cases hmore : z + 1 ≤ ls.length
                  · have d1 : decide (((z : Int) + 1) ≤ (ls.length : Int)) = true := decide_eq_true (by omega)
                    have d2 : decide (z + 1 ≤ ls.length) = true := decide_eq_true hmore
                    have d3 : decide (z < ls.length) = true := decide_eq_true hmore
                    go_quiet (fail)
                    go_wp2_with (first | (go_at_call 32; refine (sheet_fail.calls b ((z : Int) + 1) 22 _ ?_).mono ?_; exact j1; rintro r wf ⟨rfl, rfl⟩))
                    refine ⟨rfl, ⟨HS0.out.keep.trans (KW.out.trans ⟨rfl, rfl, rfl, Nat.le_refl _, fun _ _ _ => rfl⟩)⟩, .inr ⟨(z : Int) + 1, 22, ?_, rfl⟩⟩
                    rw [HT0.out]
                    have hza : z = all := by have := HZ.out; have := HAL.out; omega
                    show (if all < ls.length then _ else _) = _
                    rw [if_pos (by omega), hza]
                  · have d1 : decide (((z : Int) + 1) ≤ (ls.length : Int)) = false := decide_eq_false (by omega)
                    have d2 : decide (z + 1 ≤ ls.length) = false := decide_eq_false hmore
                    have d3 : decide (z < ls.length) = false := decide_eq_false hmore
                    go_quiet (fail)
                    obtain ⟨W2, hW2⟩ : ∃ W2, W2 = W.drewN nq := ⟨_, rfl⟩
                    rw [← hW2]
                    have KW2 := Aside0.mk (show KeepW wr W2 b by rw [hW2]; exact KW.out.trans ⟨rfl, rfl, rfl, Nat.le_refl _, fun _ _ _ => rfl⟩)
                    have RW2 := Aside0.mk (show Rdr W2 b L ((z : Int) + 1) [] s by rw [hW2]; exact ⟨RW.out.blk⟩)
                    clear hW2
                    go_upto_region 25 with fail
                    have hbx := keep_at KW2.out HS0.out.box (by have := HB.out; omega)
                    have hrs := keep_at KW2.out HS0.out.res (by have := HB.out; omega)
                    refine wp_region_list ?_
                    refine wpList_load_row rfl 28 (.tmp 3) rfl (w.heap.size + 1) rfl 28 #[v0, v1, v2, (Value.slice none 0 0)] (0, 0) _ hbx Tryz.underlying28 rfl (by kernel_rfl) ?_
                    refine wpList_store_row rfl 28 (.tmp 2) (.tmp 100) rfl w.heap.size #[v0, v1, v2, (Value.slice none 0 0)] rfl rfl 28 _ hrs (by kernel_rfl) rfl (by simp [HO0.out, HO1.out, HO2.out, HO3.out, slice_one]) ?_
                    have HBX := Aside0.mk hbx
                    have HRS := Aside0.mk hrs
                    clear hbx hrs
                    go_wp2
                    refine bodyPost_ret (results_cell_row rfl _ _ w.heap.size 28 #[v0, v1, v2, (Value.slice none 0 0)] (0, 0) _ rfl (setRow_heap _ _ _ _ _ _ HRS.out) Tryz.underlying28 rfl (by kernel_rfl)) rfl ?_
                    refine ⟨⟨keep_row (HS0.out.keep.trans KW2.out) (Nat.le_refl _) _⟩, .inl ⟨_, s, ?_, v0, v1, v2, (Value.slice none 0 0), rfl, ⟨instAt_row (instAt_keep HI.out KW2.out HB.out) HRS.out _⟩, ⟨_, rdr_row' RW2.out HRS.out (by decide) (by decide) _⟩⟩⟩
                    rw [HT0.out]
                    have hza : z = all := by have := HZ.out; have := HAL.out; omega
                    show (if all < ls.length then _ else _) = _
                    rw [if_neg (by omega)]
              | false =>
                have hall : all = 1 + c + (2 * n + 2) + n + (2 * n + 2) := by have := HALL.out; simpa using this
                have HAL := Aside0.mk hall
                clear hall
                go_loopg [67] (2 * n + 2) (fun gg v67 wr => ∃ (mx : List (List Int)) (v3 : Value), v67 = .int .i64 (mx.length : Int) ∧ mx.length ≤ 2 * n + 2 ∧ 2 * n + 2 - mx.length ≤ gg ∧ Aside0 (T = goM (stepM ls c n s false) (all - 1 - (c + (2 * n + 2) + n + mx.length)) (1 + c + (2 * n + 2) + n + mx.length) ⟨acc, st, rd, mx⟩) ∧ Aside0 (St0 w wr b L ls #[v0, v1, v2, v3] ((1 + c + (2 * n + 2) + n + mx.length : Nat) : Int) s) ∧ Aside0 (InstAt wr w.heap.size v0 v1 v2 v3 ⟨acc, st, rd, mx⟩))
                case atStart => exact ⟨[], _, rfl, Nat.zero_le _, Nat.le_refl _, HG, HS0, HI⟩
                case round =>
                  clear HG HS0 HI
                  obtain ⟨mx, v3, rfl, hlen, hm, HG, HS0, HI⟩ := hrel
                  by_cases hj : mx.length < 2 * n + 2
                  · have HM := Aside0.mk hm
                    obtain ⟨j, hjj⟩ : ∃ j, j = mx.length := ⟨_, rfl⟩
                    have HJ := Aside0.mk hjj
                    rw [← hjj] at hj HG HS0 ⊢
                    clear hlen hm hjj
                    have c1 : decide ((j : Int) < 2 * (n : Int) + 2) = true := decide_eq_true (by omega)
                    have c2 : decide (j < 2 * n + 2) = true := decide_eq_true hj
                    have HWR := Aside0.mk (show wrap64 ((j : Int) + 1) = ((j + 1 : Nat) : Int) by unfold wrap64; have := HN.out; omega)
                    have HD := Aside0.mk (fun x : List Int => show (mx ++ [x]).length = j + 1 by rw [List.length_append, ← HJ.out]; rfl)
                    have CR := (fun W h hL => sheet_row.calls b (1 + c + (2 * n + 2) + n + j) L [] s ls (2 * n + 2) W h hL (by omega) (by omega) HS.out)
                    have HCAST : ((2 * n + 2 : Nat) : Int) = 2 * (n : Int) + 2 := by omega
                    rw [HCAST] at CR
                    clear HCAST
                    have CRX := Aside0.mk (Calls.mono (CR wr.drew (rdr_drew HS0.out.rdr) HS0.out.left) (fun r w4 h => row_pack (F := fun e => finM ls all s T = .error (((1 + c + (2 * n + 2) + n + j : Nat) : Int) + 1, e)) HS0.out HI.out HB.out (fun e he => by rw [HG.out]; exact go_fail (by have := HAL.out; omega) (by rw [step_row (by omega)]; exact bind_err he)) h))
                    clear CR
                    have hw1 : IntKind.i64.wrap (2 * (n : Int)) = 2 * (n : Int) := by rw [IntKind.wrap_i64]; have := HN.out; omega
                    have hw2 : IntKind.i64.wrap (2 * (n : Int) + 2) = 2 * (n : Int) + 2 := by rw [IntKind.wrap_i64]; have := HN.out; omega
                    have HCAP := Aside0.mk (show (mx.length + 1) * 24 ≤ 140737488355328 from by have := HN.out; have := HJ.out; omega)
                    go_wp2_with fail
                    have y3 := (four_of HS0.out.box).1.2.2.2
                    go_region_law (first | (refine Kd.R_append_step (Kd.slice 2 (Kd.int .i64)) (w0 := w4) w.heap.size rfl (.tmp 71) (.tmp 77) 26 25 (.slice none 0 0) 24 rfl Tryz.underlying26 info25 rfl (by decide) (by decide) _ mx x [.slice Ax x.length qx] (fun _ => True) (fun k => some k ≠ v3.ownBlock) rfl rfl ⟨_, rfl, RW.out.inner⟩ (fun _ h => ⟨trivial, h⟩) (fun _ _ => trivial) RW.out.at'.rows (Below.refl _ _) RW.out.st.keep.size HCAP.out ?_; intro v5 w5 ho hb hg _; obtain ⟨A1, q1, hv, D5⟩ := row_done RW.out hb hg ho; rw [HD.out] at hv; subst hv; have D5 := Aside0.mk D5; clear ho hb hg y3 y3a; obtain ⟨⟨y0, y1, y2, y3⟩, f0, f1, f2, f3⟩ := D5.out.four) | (go_simp; go_wp2_with (first | (go_at_call 31; refine CRX.out.mono ?_; rintro r w4 (⟨x, Ax, qx, rfl, HX, RW⟩ | ⟨e, rfl, KE, FE⟩); rotate_left; exact ⟨rfl, KE, .inr ⟨_, e, FE.out, rfl⟩⟩; clear y3; have y3 := RW.out.y3; have y3a := RW.out.y3a))))
                    all_goals
                      go_wp2
                      go_roundg (2 * n + 2 - (j + 1))
                      case measure => have := HM.out; have := HJ.out; omega
                      case rel =>
                        refine ⟨mx ++ [x], _, ?_, ?_, ?_, ⟨?_⟩, ⟨?_⟩, ⟨instAt_set D5.out.at' D5.out.st.box 3 _⟩⟩
                        · rw [HD.out]; first | rfl | go_num
                        · rw [HD.out]; omega
                        · rw [HD.out]; exact Nat.le_refl _
                        · rw [HD.out, HG.out, go_on (y := ⟨acc, st, rd, mx ++ [x]⟩) (by have := HAL.out; omega) (by rw [step_row (by omega)]; exact bind_ok HX.out)]; exact congrArg (fun k => goM (stepM ls c n s false) k _ _) (by omega)
                        · rw [HD.out]; exact st0_put D5.out.st HB.out 3 _
                  · have hcl : mx.length = 2 * n + 2 := by omega
                    have c1 : decide ((mx.length : Int) < 2 * (n : Int) + 2) = false := decide_eq_false (by omega)
                    have c2 : decide (mx.length < 2 * n + 2) = false := decide_eq_false hj
                    rw [hcl] at HG HS0
                    clear hlen hm hj
                    have HT0 := Aside0.mk (show T = .ok ⟨acc, st, rd, mx⟩ by rw [HG.out, show all - 1 - (c + (2 * n + 2) + n + (2 * n + 2)) = 0 by have := HAL.out; omega]; rfl)
                    obtain ⟨A0, q0, hv0⟩ := Kd.R_slice HI.out.cars
                    obtain ⟨A1, q1, hv1⟩ := Kd.R_slice HI.out.stops
                    obtain ⟨A2, q2, hv2⟩ := Kd.R_slice HI.out.rides
                    obtain ⟨A3, q3, hv3⟩ := Kd.R_slice HI.out.rows
                    have HO0 := Aside0.mk (show v0.oneCell' = true by rw [hv0]; rfl)
                    have HO1 := Aside0.mk (show v1.oneCell' = true by rw [hv1]; rfl)
                    have HO2 := Aside0.mk (show v2.oneCell' = true by rw [hv2]; rfl)
                    have HO3 := Aside0.mk (show v3.oneCell' = true by rw [hv3]; rfl)
                    clear hv0 hv1 hv2 hv3
                    obtain ⟨LA, lc, hLe, -⟩ := HS0.out.left
                    have HLE := Aside0.mk hLe
                    obtain ⟨z, hz⟩ : ∃ z : Nat, z = 1 + c + (2 * n + 2) + n + (2 * n + 2) := ⟨_, rfl⟩
                    rw [← hz] at HS0
                    have HZ := Aside0.mk hz
                    have hzb : z ≤ 20000 := by have := HN.out; have := HC.out; omega
                    have k1 := HS0.out.rdr.at1
                    have k0 := HS0.out.rdr.at0
                    rw [hLe] at k0
                    obtain ⟨vb, hvb, hlb⟩ := HS0.out.rdr.blk
                    have g1 : wr.frozen? ⟨b, 1, none⟩ = false := blk_frozen hvb 1
                    have HVB := Aside0.mk (And.intro hvb hlb)
                    clear hvb hlb hLe hz
                    go_wp2_with fail
                    obtain ⟨W, hW⟩ : ∃ W, W = wr.setCell ⟨b, 1, none⟩ (.int .i64 ((z : Int) + 1)) := ⟨_, rfl⟩
                    rw [← hW]
                    have hBW : W.heap[b]? = some (.cells #[L, .int .i64 ((z : Int) + 1), vb, .int .i64 s] 46 (0, 0)) := by rw [hW]; exact blk_set HVB.out.1 1 _
                    have KW := Aside0.mk (show KeepW wr W b by rw [hW]; exact KeepW.set _ _ _ _)
                    have RW := Aside0.mk (show Rdr W b L ((z : Int) + 1) [] s from ⟨⟨vb, hBW, HVB.out.2.keep KW.out⟩⟩)
                    have j1 := RW.out.at1
                    have j0 := RW.out.at0
                    rw [HLE.out] at j0
                    clear hW k0 k1 g1 hBW
                    by_cases hmore : z + 1 ≤ ls.length
                    · have d1 : decide (((z : Int) + 1) ≤ (ls.length : Int)) = true := decide_eq_true (by omega)
                      have d2 : decide (z + 1 ≤ ls.length) = true := decide_eq_true hmore
                      have d3 : decide (z < ls.length) = true := decide_eq_true hmore
                      go_quiet (fail)
                      go_wp2_with (first | (go_at_call 32; refine (sheet_fail.calls b ((z : Int) + 1) 22 _ ?_).mono ?_; exact j1; rintro r wf ⟨rfl, rfl⟩))
                      refine ⟨rfl, ⟨HS0.out.keep.trans (KW.out.trans ⟨rfl, rfl, rfl, Nat.le_refl _, fun _ _ _ => rfl⟩)⟩, .inr ⟨(z : Int) + 1, 22, ?_, rfl⟩⟩
                      rw [HT0.out]
                      have hza : z = all := by have := HZ.out; have := HAL.out; omega
                      show (if all < ls.length then _ else _) = _
                      rw [if_pos (by omega), hza]
                    · have d1 : decide (((z : Int) + 1) ≤ (ls.length : Int)) = false := decide_eq_false (by omega)
                      have d2 : decide (z + 1 ≤ ls.length) = false := decide_eq_false hmore
                      have d3 : decide (z < ls.length) = false := decide_eq_false hmore
                      go_quiet (fail)
                      obtain ⟨W2, hW2⟩ : ∃ W2, W2 = W.drewN nq := ⟨_, rfl⟩
                      rw [← hW2]
                      have KW2 := Aside0.mk (show KeepW wr W2 b by rw [hW2]; exact KW.out.trans ⟨rfl, rfl, rfl, Nat.le_refl _, fun _ _ _ => rfl⟩)
                      have RW2 := Aside0.mk (show Rdr W2 b L ((z : Int) + 1) [] s by rw [hW2]; exact ⟨RW.out.blk⟩)
                      clear hW2
                      go_upto_region 25 with fail
                      have hbx := keep_at KW2.out HS0.out.box (by have := HB.out; omega)
                      have hrs := keep_at KW2.out HS0.out.res (by have := HB.out; omega)
                      refine wp_region_list ?_
                      refine wpList_load_row rfl 28 (.tmp 3) rfl (w.heap.size + 1) rfl 28 #[v0, v1, v2, v3] (0, 0) _ hbx Tryz.underlying28 rfl (by kernel_rfl) ?_
                      refine wpList_store_row rfl 28 (.tmp 2) (.tmp 100) rfl w.heap.size #[v0, v1, v2, v3] rfl rfl 28 _ hrs (by kernel_rfl) rfl (by simp [HO0.out, HO1.out, HO2.out, HO3.out, slice_one]) ?_
                      have HBX := Aside0.mk hbx
                      have HRS := Aside0.mk hrs
                      clear hbx hrs
                      go_wp2
                      refine bodyPost_ret (results_cell_row rfl _ _ w.heap.size 28 #[v0, v1, v2, v3] (0, 0) _ rfl (setRow_heap _ _ _ _ _ _ HRS.out) Tryz.underlying28 rfl (by kernel_rfl)) rfl ?_
                      refine ⟨⟨keep_row (HS0.out.keep.trans KW2.out) (Nat.le_refl _) _⟩, .inl ⟨_, s, ?_, v0, v1, v2, v3, rfl, ⟨instAt_row (instAt_keep HI.out KW2.out HB.out) HRS.out _⟩, ⟨_, rdr_row' RW2.out HRS.out (by decide) (by decide) _⟩⟩⟩
                      rw [HT0.out]
                      have hza : z = all := by have := HZ.out; have := HAL.out; omega
                      show (if all < ls.length then _ else _) = _
                      rw [if_neg (by omega)]
end Go.Proofs.YtcdmndhaeiccoaaGreatDoor.P
