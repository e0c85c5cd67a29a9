/- The first place in a row at which a closure says yes. -/
import Derived.Test.YtcdmndhaeiccoaaGreatDoorMkit
import Derived.Shelf.Abstract
import Derived.Test.YtcdmndhaeiccoaaGreatDoorM10
namespace Go.Proofs.YtcdmndhaeiccoaaGreatDoor.P
open Go Go.Proofs.YtcdmndhaeiccoaaGreatDoorR
open Go.RowKit Go.Proofs.YtcdmndhaeiccoaaGreatDoorW.PrintWords Go.Proofs.YtcdmndhaeiccoaaGreatDoorW.PrintLast
set_option linter.unusedVariables false
set_option linter.unusedSimpArgs false
set_option maxHeartbeats 8000000
set_option maxRecDepth 100000
/-- Some element says yes. -/
theorem firstAt_any {α : Type} (b : α → Bool) (r : Nat → α) (xs : List α) (h : ∀ (i : Nat) (x : α), xs[i]? = some x → r i = x) : decide (0 ≤ firstAt (fun i => b (r i)) xs.length) = xs.any b := by
  have key : (xs.any b = true ↔ ∃ i : Nat, i < xs.length ∧ b (r i) = true) := by
    rw [List.any_eq_true]
    constructor
    · rintro ⟨x, hx, hb⟩
      obtain ⟨i, hi⟩ := List.mem_iff_getElem?.1 hx
      exact ⟨i, (List.getElem?_eq_some_iff.1 hi).1, by rw [h i x hi]; exact hb⟩
    · rintro ⟨i, hi, hb⟩
      have := h i xs[i] (List.getElem?_eq_getElem hi)
      rw [this] at hb
      exact ⟨_, List.getElem_mem hi, hb⟩
  unfold firstAt
  cases hf : (List.range xs.length).find? fun i => b (r i) with
  | none =>
    have : xs.any b = false := by
      rw [Bool.eq_false_iff]
      intro hc
      obtain ⟨i, hi, hb⟩ := key.1 hc
      have := List.find?_eq_none.1 hf i (List.mem_range.2 hi)
      exact this hb
    rw [this]
    decide
  | some k =>
    have h1 := List.find?_some hf
    have h2 := List.mem_range.1 (List.mem_of_find?_eq_some hf)
    rw [key.2 ⟨k, h2, h1⟩]
    exact decide_eq_true (by show (0 : Int) ≤ (k : Int); omega)
theorem IndexFunc_Car.calls (f : Nat) (cb : Array Value) (b : S60 → Bool) (A : Option Addr) (c : Nat) (xs : List (S60)) (w : World) (eg : ∀ args w, (callFunc f args).run Tryz.prog w = .ok (.enter f args) w)
    (hcl : ∀ (W : World) (x : S60), x ∈ xs → Below w.heap.size w W → Calls Tryz.prog f (#[.agg #[.int .i64 x.f0.f0, .int .i64 x.f0.f1, .int .i64 x.f1]] ++ cb) W fun e w' => e = .returned (.bool (b x)) ∧ Below W.heap.size W w') (hC : Kd.C k60 w A xs.length xs) (hc : xs.length ≤ c) :
    Calls Tryz.prog 100 #[.slice A xs.length c, .func (.func f) #[] cb] w fun e w' => e = .returned (.int .i64 (firstAt (fun i => b (rd_T60 xs (i : Int))) xs.length)) ∧ Below w.heap.size w w' := by
  obtain ⟨n, hn⟩ : ∃ n, n = xs.length := ⟨_, rfl⟩
  have hmem : ∀ j : Nat, j < n → rd_T60 xs (j : Int) ∈ xs := fun j hj => by
    have hj' : j < xs.length := by omega
    unfold rd_T60
    rw [Int.toNat_natCast, List.getD_eq_getElem?_getD, List.getElem?_eq_getElem hj']
    exact List.getElem_mem hj'
  rw [← hn] at hC hc ⊢
  have HN := Aside0.mk hC.2.1
  have HC := Aside0.mk hC
  have HCC := Aside0.mk hc
  have HL := Aside0.mk hcl
  have HX := Aside0.mk hn
  have HME := Aside0.mk hmem
  clear hcl hC hc hn hmem
  go_enter Tryz.func100, Tryz.ntmps100
  go_wp2
  go_loopg [5, 8] n (fun gg v5 v8 wr => ∃ j : Nat, v8 = .int .i64 (j : Int) ∧ j ≤ n ∧ n - j ≤ gg ∧ Aside0 (∀ i, i < j → b (rd_T60 xs (i : Int)) = false) ∧ Aside0 (Below w.heap.size w wr))
  case atStart => exact ⟨0, rfl, Nat.zero_le _, Nat.le_refl _, ⟨fun i hi => absurd hi (Nat.not_lt_zero _)⟩, ⟨Below.refl _ _⟩⟩
  case round =>
    obtain ⟨j, rfl, hj, hm, K1, HB⟩ := hrel
    by_cases hjn : j < n
    · have c1 : decide ((j : Int) < (n : Int)) = true := by simp; omega
      have p1 : (0 : Int) ≤ (j : Int) := by omega
      have p2 : (j : Int) < (n : Int) := by omega
      have w1 : wrap64 ((j : Int) + 1) = (j : Int) + 1 := by have := HN.out; rw [HX.out] at hjn; unfold wrap64; omega
      obtain ⟨ad, rfl, h0, h1, h2⟩ := at_T60 HC.out (j : Int) p1 p2
      rw [Int.toNat_natCast] at h0 h1 h2
      have gh0 := cell_below HB.out h0
      have gh1 := cell_below HB.out h1
      have gh2 := cell_below HB.out h2
      clear h0 h1 h2
      have hl := HL.out wr (rd_T60 xs (j : Int)) (HME.out j hjn) HB.out
      have HS := Aside0.mk (fun h : b (rd_T60 xs (j : Int)) = false => show ∀ i, i < j + 1 → b (rd_T60 xs (i : Int)) = false from fun i hi => by
        by_cases e : i = j
        · subst e; exact h
        · exact K1.out i (by omega))
      have HH := Aside0.mk (fun h : b (rd_T60 xs (j : Int)) = true => firstAt_hit (fun i => b (rd_T60 xs (i : Int))) n j hjn h K1.out)
      generalize rd_T60 xs (j : Int) = x at hl HS HH gh0 gh1 gh2
      cases hb : b x with
      | true =>
        rw [hb] at hl
        have HLL := Aside0.mk hl
        clear hl
        go_wp2_with (first | (go_at_fn f; refine HLL.out.mono ?_; rintro e w2 ⟨rfl, hb2⟩; have HB2 := Aside0.mk (HB.out.trans (hb2.mono HB.out.size)); clear hb2))
        go_ret
        exact ⟨(by rw [HH.out hb]; first | done | rfl), HB2.out⟩
      | false =>
        rw [hb] at hl
        have HLL := Aside0.mk hl
        clear hl
        go_wp2_with (first | (go_at_fn f; refine HLL.out.mono ?_; rintro e w2 ⟨rfl, hb2⟩; have HB2 := Aside0.mk (HB.out.trans (hb2.mono HB.out.size)); clear hb2))
        go_roundg (n - (j + 1))
        case measure => omega
        case rel => exact ⟨j + 1, by first | rfl | go_num, by omega, Nat.le_refl _, ⟨HS.out hb⟩, HB2⟩
    · have c1 : decide ((j : Int) < (n : Int)) = false := by simp; omega
      have hjn' : j = n := by omega
      have hmiss := firstAt_miss (fun i => b (rd_T60 xs (i : Int))) n (fun i hi => K1.out i (by omega))
      have HM := Aside0.mk hmiss
      clear hmiss
      go_wp2
      go_ret
      exact ⟨(by rw [HM.out]; first | done | rfl), HB.out⟩
theorem ContainsFunc_Car.calls (f : Nat) (cb : Array Value) (b : S60 → Bool) (A : Option Addr) (c : Nat) (xs : List (S60)) (w : World) (eg : ∀ args w, (callFunc f args).run Tryz.prog w = .ok (.enter f args) w)
    (hcl : ∀ (W : World) (x : S60), x ∈ xs → Below w.heap.size w W → Calls Tryz.prog f (#[.agg #[.int .i64 x.f0.f0, .int .i64 x.f0.f1, .int .i64 x.f1]] ++ cb) W fun e w' => e = .returned (.bool (b x)) ∧ Below W.heap.size W w') (hC : Kd.C k60 w A xs.length xs) (hc : xs.length ≤ c) :
    Calls Tryz.prog 63 #[.slice A xs.length c, .func (.func f) #[] cb] w fun e w' => e = .returned (.bool (xs.any b)) ∧ Below w.heap.size w w' := by
  have C0 := IndexFunc_Car.calls f cb b A c xs w eg hcl hC hc
  have ha := firstAt_any b (fun i => rd_T60 xs (i : Int)) xs fun i x h => by unfold rd_T60; rw [Int.toNat_natCast, List.getD_eq_getElem?_getD, h]; rfl
  rw [← ha]
  have C1 := Aside0.mk C0
  clear C0 ha
  generalize firstAt (fun i => b (rd_T60 xs (i : Int))) xs.length = z at C1 ⊢
  clear hcl hC hc eg
  generalize xs.length = n at C1 ⊢
  go_enter Tryz.func63, Tryz.ntmps63
  go_wp2_with (first | (go_at_call 100; refine C1.out.mono ?_; rintro e w1 ⟨rfl, hb⟩; have B1 := Aside0.mk hb; clear hb))
  go_ret
  exact ⟨rfl, B1.out⟩
theorem IndexFunc_Stop.calls (f : Nat) (cb : Array Value) (b : S63 → Bool) (A : Option Addr) (c : Nat) (xs : List (S63)) (w : World) (eg : ∀ args w, (callFunc f args).run Tryz.prog w = .ok (.enter f args) w)
    (hcl : ∀ (W : World) (x : S63), x ∈ xs → Below w.heap.size w W → Calls Tryz.prog f (#[.agg #[.int .i64 x.f0.f0, .int .i64 x.f0.f1, .int .i64 x.f1, .int .i64 x.f2, .int .i64 x.f3, .complex .f64 x.f4.1 x.f4.2]] ++ cb) W fun e w' => e = .returned (.bool (b x)) ∧ Below W.heap.size W w') (hC : Kd.C k63 w A xs.length xs) (hc : xs.length ≤ c) :
    Calls Tryz.prog 75 #[.slice A xs.length c, .func (.func f) #[] cb] w fun e w' => e = .returned (.int .i64 (firstAt (fun i => b (rd_T63 xs (i : Int))) xs.length)) ∧ Below w.heap.size w w' := by
  obtain ⟨n, hn⟩ : ∃ n, n = xs.length := ⟨_, rfl⟩
  have hmem : ∀ j : Nat, j < n → rd_T63 xs (j : Int) ∈ xs := fun j hj => by
    have hj' : j < xs.length := by omega
    unfold rd_T63
    rw [Int.toNat_natCast, List.getD_eq_getElem?_getD, List.getElem?_eq_getElem hj']
    exact List.getElem_mem hj'
  rw [← hn] at hC hc ⊢
  have HN := Aside0.mk hC.2.1
  have HC := Aside0.mk hC
  have HCC := Aside0.mk hc
  have HL := Aside0.mk hcl
  have HX := Aside0.mk hn
  have HME := Aside0.mk hmem
  clear hcl hC hc hn hmem
  go_enter Tryz.func75, Tryz.ntmps75
  go_wp2
  go_loopg [5, 8] n (fun gg v5 v8 wr => ∃ j : Nat, v8 = .int .i64 (j : Int) ∧ j ≤ n ∧ n - j ≤ gg ∧ Aside0 (∀ i, i < j → b (rd_T63 xs (i : Int)) = false) ∧ Aside0 (Below w.heap.size w wr))
  case atStart => exact ⟨0, rfl, Nat.zero_le _, Nat.le_refl _, ⟨fun i hi => absurd hi (Nat.not_lt_zero _)⟩, ⟨Below.refl _ _⟩⟩
  case round =>
    obtain ⟨j, rfl, hj, hm, K1, HB⟩ := hrel
    by_cases hjn : j < n
    · have c1 : decide ((j : Int) < (n : Int)) = true := by simp; omega
      have p1 : (0 : Int) ≤ (j : Int) := by omega
      have p2 : (j : Int) < (n : Int) := by omega
      have w1 : wrap64 ((j : Int) + 1) = (j : Int) + 1 := by have := HN.out; rw [HX.out] at hjn; unfold wrap64; omega
      obtain ⟨ad, rfl, h0, h1, h2, h3, h4, h5⟩ := at_T63 HC.out (j : Int) p1 p2
      rw [Int.toNat_natCast] at h0 h1 h2 h3 h4 h5
      have gh0 := cell_below HB.out h0
      have gh1 := cell_below HB.out h1
      have gh2 := cell_below HB.out h2
      have gh3 := cell_below HB.out h3
      have gh4 := cell_below HB.out h4
      have gh5 := cell_below HB.out h5
      clear h0 h1 h2 h3 h4 h5
      have hl := HL.out wr (rd_T63 xs (j : Int)) (HME.out j hjn) HB.out
      have HS := Aside0.mk (fun h : b (rd_T63 xs (j : Int)) = false => show ∀ i, i < j + 1 → b (rd_T63 xs (i : Int)) = false from fun i hi => by
        by_cases e : i = j
        · subst e; exact h
        · exact K1.out i (by omega))
      have HH := Aside0.mk (fun h : b (rd_T63 xs (j : Int)) = true => firstAt_hit (fun i => b (rd_T63 xs (i : Int))) n j hjn h K1.out)
      generalize rd_T63 xs (j : Int) = x at hl HS HH gh0 gh1 gh2 gh3 gh4 gh5
      cases hb : b x with
      | true =>
        rw [hb] at hl
        have HLL := Aside0.mk hl
        clear hl
        go_wp2_with (first | (go_at_fn f; refine HLL.out.mono ?_; rintro e w2 ⟨rfl, hb2⟩; have HB2 := Aside0.mk (HB.out.trans (hb2.mono HB.out.size)); clear hb2))
        go_ret
        exact ⟨(by rw [HH.out hb]; first | done | rfl), HB2.out⟩
      | false =>
        rw [hb] at hl
        have HLL := Aside0.mk hl
        clear hl
        go_wp2_with (first | (go_at_fn f; refine HLL.out.mono ?_; rintro e w2 ⟨rfl, hb2⟩; have HB2 := Aside0.mk (HB.out.trans (hb2.mono HB.out.size)); clear hb2))
        go_roundg (n - (j + 1))
        case measure => omega
        case rel => exact ⟨j + 1, by first | rfl | go_num, by omega, Nat.le_refl _, ⟨HS.out hb⟩, HB2⟩
    · have c1 : decide ((j : Int) < (n : Int)) = false := by simp; omega
      have hjn' : j = n := by omega
      have hmiss := firstAt_miss (fun i => b (rd_T63 xs (i : Int))) n (fun i hi => K1.out i (by omega))
      have HM := Aside0.mk hmiss
      clear hmiss
      go_wp2
      go_ret
      exact ⟨(by rw [HM.out]; first | done | rfl), HB.out⟩
theorem ContainsFunc_Stop.calls (f : Nat) (cb : Array Value) (b : S63 → Bool) (A : Option Addr) (c : Nat) (xs : List (S63)) (w : World) (eg : ∀ args w, (callFunc f args).run Tryz.prog w = .ok (.enter f args) w)
    (hcl : ∀ (W : World) (x : S63), x ∈ xs → Below w.heap.size w W → Calls Tryz.prog f (#[.agg #[.int .i64 x.f0.f0, .int .i64 x.f0.f1, .int .i64 x.f1, .int .i64 x.f2, .int .i64 x.f3, .complex .f64 x.f4.1 x.f4.2]] ++ cb) W fun e w' => e = .returned (.bool (b x)) ∧ Below W.heap.size W w') (hC : Kd.C k63 w A xs.length xs) (hc : xs.length ≤ c) :
    Calls Tryz.prog 37 #[.slice A xs.length c, .func (.func f) #[] cb] w fun e w' => e = .returned (.bool (xs.any b)) ∧ Below w.heap.size w w' := by
  have C0 := IndexFunc_Stop.calls f cb b A c xs w eg hcl hC hc
  have ha := firstAt_any b (fun i => rd_T63 xs (i : Int)) xs fun i x h => by unfold rd_T63; rw [Int.toNat_natCast, List.getD_eq_getElem?_getD, h]; rfl
  rw [← ha]
  have C1 := Aside0.mk C0
  clear C0 ha
  generalize firstAt (fun i => b (rd_T63 xs (i : Int))) xs.length = z at C1 ⊢
  clear hcl hC hc eg
  generalize xs.length = n at C1 ⊢
  go_enter Tryz.func37, Tryz.ntmps37
  go_wp2_with (first | (go_at_call 75; refine C1.out.mono ?_; rintro e w1 ⟨rfl, hb⟩; have B1 := Aside0.mk hb; clear hb))
  go_ret
  exact ⟨rfl, B1.out⟩
theorem IndexFunc_int.calls (f : Nat) (cb : Array Value) (b : Int → Bool) (A : Option Addr) (c : Nat) (xs : List (Int)) (w : World) (eg : ∀ args w, (callFunc f args).run Tryz.prog w = .ok (.enter f args) w)
    (hcl : ∀ (W : World) (x : Int), x ∈ xs → Below w.heap.size w W → Calls Tryz.prog f (#[.int .i64 x] ++ cb) W fun e w' => e = .returned (.bool (b x)) ∧ Below W.heap.size W w') (hC : Kd.C (Kd.int .i64) w A xs.length xs) (hc : xs.length ≤ c) :
    Calls Tryz.prog 102 #[.slice A xs.length c, .func (.func f) #[] cb] w fun e w' => e = .returned (.int .i64 (firstAt (fun i => b (rd xs (i : Int))) xs.length)) ∧ Below w.heap.size w w' := by
  obtain ⟨n, hn⟩ : ∃ n, n = xs.length := ⟨_, rfl⟩
  have hmem : ∀ j : Nat, j < n → rd xs (j : Int) ∈ xs := fun j hj => by
    have hj' : j < xs.length := by omega
    unfold rd
    rw [Int.toNat_natCast, List.getD_eq_getElem?_getD, List.getElem?_eq_getElem hj']
    exact List.getElem_mem hj'
  rw [← hn] at hC hc ⊢
  have HN := Aside0.mk hC.2.1
  have HC := Aside0.mk hC
  have HCC := Aside0.mk hc
  have HL := Aside0.mk hcl
  have HX := Aside0.mk hn
  have HME := Aside0.mk hmem
  clear hcl hC hc hn hmem
  go_enter Tryz.func102, Tryz.ntmps102
  go_wp2
  go_loopg [5, 8] n (fun gg v5 v8 wr => ∃ j : Nat, v8 = .int .i64 (j : Int) ∧ j ≤ n ∧ n - j ≤ gg ∧ Aside0 (∀ i, i < j → b (rd xs (i : Int)) = false) ∧ Aside0 (Below w.heap.size w wr))
  case atStart => exact ⟨0, rfl, Nat.zero_le _, Nat.le_refl _, ⟨fun i hi => absurd hi (Nat.not_lt_zero _)⟩, ⟨Below.refl _ _⟩⟩
  case round =>
    obtain ⟨j, rfl, hj, hm, K1, HB⟩ := hrel
    by_cases hjn : j < n
    · have c1 : decide ((j : Int) < (n : Int)) = true := by simp; omega
      have p1 : (0 : Int) ≤ (j : Int) := by omega
      have p2 : (j : Int) < (n : Int) := by omega
      have w1 : wrap64 ((j : Int) + 1) = (j : Int) + 1 := by have := HN.out; rw [HX.out] at hjn; unfold wrap64; omega
      obtain ⟨ad, rfl, h0⟩ := Kd.at_int HC.out (j : Int) p1 p2
      have gh0 : wr.cell? (ad.add j) = some (.int .i64 (rd xs (j : Int))) := cell_below HB.out (by rw [Int.toNat_natCast] at h0; exact h0)
      clear h0
      have hl := HL.out wr (rd xs (j : Int)) (HME.out j hjn) HB.out
      have HS := Aside0.mk (fun h : b (rd xs (j : Int)) = false => show ∀ i, i < j + 1 → b (rd xs (i : Int)) = false from fun i hi => by
        by_cases e : i = j
        · subst e; exact h
        · exact K1.out i (by omega))
      have HH := Aside0.mk (fun h : b (rd xs (j : Int)) = true => firstAt_hit (fun i => b (rd xs (i : Int))) n j hjn h K1.out)
      generalize rd xs (j : Int) = x at hl HS HH gh0
      cases hb : b x with
      | true =>
        rw [hb] at hl
        have HLL := Aside0.mk hl
        clear hl
        go_wp2_with (first | (go_at_fn f; refine HLL.out.mono ?_; rintro e w2 ⟨rfl, hb2⟩; have HB2 := Aside0.mk (HB.out.trans (hb2.mono HB.out.size)); clear hb2))
        go_ret
        exact ⟨(by rw [HH.out hb]; first | done | rfl), HB2.out⟩
      | false =>
        rw [hb] at hl
        have HLL := Aside0.mk hl
        clear hl
        go_wp2_with (first | (go_at_fn f; refine HLL.out.mono ?_; rintro e w2 ⟨rfl, hb2⟩; have HB2 := Aside0.mk (HB.out.trans (hb2.mono HB.out.size)); clear hb2))
        go_roundg (n - (j + 1))
        case measure => omega
        case rel => exact ⟨j + 1, by first | rfl | go_num, by omega, Nat.le_refl _, ⟨HS.out hb⟩, HB2⟩
    · have c1 : decide ((j : Int) < (n : Int)) = false := by simp; omega
      have hjn' : j = n := by omega
      have hmiss := firstAt_miss (fun i => b (rd xs (i : Int))) n (fun i hi => K1.out i (by omega))
      have HM := Aside0.mk hmiss
      clear hmiss
      go_wp2
      go_ret
      exact ⟨(by rw [HM.out]; first | done | rfl), HB.out⟩
theorem ContainsFunc_int.calls (f : Nat) (cb : Array Value) (b : Int → Bool) (A : Option Addr) (c : Nat) (xs : List (Int)) (w : World) (eg : ∀ args w, (callFunc f args).run Tryz.prog w = .ok (.enter f args) w)
    (hcl : ∀ (W : World) (x : Int), x ∈ xs → Below w.heap.size w W → Calls Tryz.prog f (#[.int .i64 x] ++ cb) W fun e w' => e = .returned (.bool (b x)) ∧ Below W.heap.size W w') (hC : Kd.C (Kd.int .i64) w A xs.length xs) (hc : xs.length ≤ c) :
    Calls Tryz.prog 67 #[.slice A xs.length c, .func (.func f) #[] cb] w fun e w' => e = .returned (.bool (xs.any b)) ∧ Below w.heap.size w w' := by
  have C0 := IndexFunc_int.calls f cb b A c xs w eg hcl hC hc
  have ha := firstAt_any b (fun i => rd xs (i : Int)) xs fun i x h => by unfold rd; rw [Int.toNat_natCast, List.getD_eq_getElem?_getD, h]; rfl
  rw [← ha]
  have C1 := Aside0.mk C0
  clear C0 ha
  generalize firstAt (fun i => b (rd xs (i : Int))) xs.length = z at C1 ⊢
  clear hcl hC hc eg
  generalize xs.length = n at C1 ⊢
  go_enter Tryz.func67, Tryz.ntmps67
  go_wp2_with (first | (go_at_call 102; refine C1.out.mono ?_; rintro e w1 ⟨rfl, hb⟩; have B1 := Aside0.mk hb; clear hb))
  go_ret
  exact ⟨rfl, B1.out⟩
theorem IndexFunc_row.calls (f : Nat) (cb : Array Value) (b : List Int → Bool) (A : Option Addr) (c : Nat) (xs : List (List Int)) (w : World) (eg : ∀ args w, (callFunc f args).run Tryz.prog w = .ok (.enter f args) w)
    (hcl : ∀ (W : World) (x : List Int), x ∈ xs → Below w.heap.size w W → ∀ B q, Calls Tryz.prog f (#[.slice B x.length q] ++ cb) W fun e w' => e = .returned (.bool (b x)) ∧ Below W.heap.size W w') (hC : Kd.C (Kd.slice 2 (Kd.int .i64)) w A xs.length xs) (hc : xs.length ≤ c) :
    Calls Tryz.prog 104 #[.slice A xs.length c, .func (.func f) #[] cb] w fun e w' => e = .returned (.int .i64 (firstAt (fun i => b (rd_L6 xs (i : Int))) xs.length)) ∧ Below w.heap.size w w' := by
  obtain ⟨n, hn⟩ : ∃ n, n = xs.length := ⟨_, rfl⟩
  have hmem : ∀ j : Nat, j < n → rd_L6 xs (j : Int) ∈ xs := fun j hj => by
    have hj' : j < xs.length := by omega
    unfold rd_L6
    rw [Int.toNat_natCast, List.getD_eq_getElem?_getD, List.getElem?_eq_getElem hj']
    exact List.getElem_mem hj'
  rw [← hn] at hC hc ⊢
  have HN := Aside0.mk hC.2.1
  have HC := Aside0.mk hC
  have HCC := Aside0.mk hc
  have HL := Aside0.mk hcl
  have HX := Aside0.mk hn
  have HME := Aside0.mk hmem
  clear hcl hC hc hn hmem
  go_enter Tryz.func104, Tryz.ntmps104
  go_wp2
  go_loopg [5, 8] n (fun gg v5 v8 wr => ∃ j : Nat, v8 = .int .i64 (j : Int) ∧ j ≤ n ∧ n - j ≤ gg ∧ Aside0 (∀ i, i < j → b (rd_L6 xs (i : Int)) = false) ∧ Aside0 (Below w.heap.size w wr))
  case atStart => exact ⟨0, rfl, Nat.zero_le _, Nat.le_refl _, ⟨fun i hi => absurd hi (Nat.not_lt_zero _)⟩, ⟨Below.refl _ _⟩⟩
  case round =>
    obtain ⟨j, rfl, hj, hm, K1, HB⟩ := hrel
    by_cases hjn : j < n
    · have c1 : decide ((j : Int) < (n : Int)) = true := by simp; omega
      have p1 : (0 : Int) ≤ (j : Int) := by omega
      have p2 : (j : Int) < (n : Int) := by omega
      have w1 : wrap64 ((j : Int) + 1) = (j : Int) + 1 := by have := HN.out; rw [HX.out] at hjn; unfold wrap64; omega
      obtain ⟨ad, B0, q0, rfl, h0, _, _⟩ := at_L6 HC.out (j : Int) p1 p2
      rw [Int.toNat_natCast] at h0
      have gh0 := cell_below HB.out h0
      clear h0
      have hl := HL.out wr (rd_L6 xs (j : Int)) (HME.out j hjn) HB.out B0 q0
      have HS := Aside0.mk (fun h : b (rd_L6 xs (j : Int)) = false => show ∀ i, i < j + 1 → b (rd_L6 xs (i : Int)) = false from fun i hi => by
        by_cases e : i = j
        · subst e; exact h
        · exact K1.out i (by omega))
      have HH := Aside0.mk (fun h : b (rd_L6 xs (j : Int)) = true => firstAt_hit (fun i => b (rd_L6 xs (i : Int))) n j hjn h K1.out)
      generalize rd_L6 xs (j : Int) = x at hl HS HH gh0
      cases hb : b x with
      | true =>
        rw [hb] at hl
        have HLL := Aside0.mk hl
        clear hl
        go_wp2_with (first | (go_at_fn f; refine HLL.out.mono ?_; rintro e w2 ⟨rfl, hb2⟩; have HB2 := Aside0.mk (HB.out.trans (hb2.mono HB.out.size)); clear hb2))
        go_ret
        exact ⟨(by rw [HH.out hb]; first | done | rfl), HB2.out⟩
      | false =>
        rw [hb] at hl
        have HLL := Aside0.mk hl
        clear hl
        go_wp2_with (first | (go_at_fn f; refine HLL.out.mono ?_; rintro e w2 ⟨rfl, hb2⟩; have HB2 := Aside0.mk (HB.out.trans (hb2.mono HB.out.size)); clear hb2))
        go_roundg (n - (j + 1))
        case measure => omega
        case rel => exact ⟨j + 1, by first | rfl | go_num, by omega, Nat.le_refl _, ⟨HS.out hb⟩, HB2⟩
    · have c1 : decide ((j : Int) < (n : Int)) = false := by simp; omega
      have hjn' : j = n := by omega
      have hmiss := firstAt_miss (fun i => b (rd_L6 xs (i : Int))) n (fun i hi => K1.out i (by omega))
      have HM := Aside0.mk hmiss
      clear hmiss
      go_wp2
      go_ret
      exact ⟨(by rw [HM.out]; first | done | rfl), HB.out⟩
theorem ContainsFunc_row.calls (f : Nat) (cb : Array Value) (b : List Int → Bool) (A : Option Addr) (c : Nat) (xs : List (List Int)) (w : World) (eg : ∀ args w, (callFunc f args).run Tryz.prog w = .ok (.enter f args) w)
    (hcl : ∀ (W : World) (x : List Int), x ∈ xs → Below w.heap.size w W → ∀ B q, Calls Tryz.prog f (#[.slice B x.length q] ++ cb) W fun e w' => e = .returned (.bool (b x)) ∧ Below W.heap.size W w') (hC : Kd.C (Kd.slice 2 (Kd.int .i64)) w A xs.length xs) (hc : xs.length ≤ c) :
    Calls Tryz.prog 72 #[.slice A xs.length c, .func (.func f) #[] cb] w fun e w' => e = .returned (.bool (xs.any b)) ∧ Below w.heap.size w w' := by
  have C0 := IndexFunc_row.calls f cb b A c xs w eg hcl hC hc
  have ha := firstAt_any b (fun i => rd_L6 xs (i : Int)) xs fun i x h => by unfold rd_L6; rw [Int.toNat_natCast, List.getD_eq_getElem?_getD, h]; rfl
  rw [← ha]
  have C1 := Aside0.mk C0
  clear C0 ha
  generalize firstAt (fun i => b (rd_L6 xs (i : Int))) xs.length = z at C1 ⊢
  clear hcl hC hc eg
  generalize xs.length = n at C1 ⊢
  go_enter Tryz.func72, Tryz.ntmps72
  go_wp2_with (first | (go_at_call 104; refine C1.out.mono ?_; rintro e w1 ⟨rfl, hb⟩; have B1 := Aside0.mk hb; clear hb))
  go_ret
  exact ⟨rfl, B1.out⟩
end Go.Proofs.YtcdmndhaeiccoaaGreatDoor.P
