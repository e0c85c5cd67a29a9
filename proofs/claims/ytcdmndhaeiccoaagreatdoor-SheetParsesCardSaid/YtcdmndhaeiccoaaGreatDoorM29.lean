/- The document's line, joined. The document's Parse: its ends ahead of the lines. The document's Parse: the lines, one behind the other: what is known in a round. -/
import Derived.Test.YtcdmndhaeiccoaaGreatDoorMkit
import Derived.Test.YtcdmndhaeiccoaaGreatDoorM25
import Derived.Test.YtcdmndhaeiccoaaGreatDoorM26
import Derived.Test.YtcdmndhaeiccoaaGreatDoorM27
import Derived.Test.YtcdmndhaeiccoaaGreatDoorM28
namespace Go.Proofs.YtcdmndhaeiccoaaGreatDoor.P
open Go Go.Proofs.YtcdmndhaeiccoaaGreatDoorR
open Go.RowKit Go.Proofs.YtcdmndhaeiccoaaGreatDoorW.PrintWords Go.Proofs.YtcdmndhaeiccoaaGreatDoorW.PrintLast
set_option linter.unusedVariables false
set_option linter.unusedSimpArgs false
theorem ok42_of {t first : ByteArray} {many sc : Int} {bs ns : List Int} {ws : List ByteArray} (h1 : jitneyref06_words.f 20000 t first many = some (ws, 0)) (h2 : jitneyref06_numbers.f 20000 ws bs sc = some (ns, 0)) : Ok42 t first many bs ns sc := by
  intro W
  refine (jitneyref06_words.calls 20000 t first many ws 0 W h1).mono ?_
  rintro r w' ⟨v, rfl, hQ, hb⟩
  obtain ⟨A, q, rfl, hq, hC⟩ := Kd.Q_reads hQ
  refine ⟨A, _, q, rfl, hb, fun W1 A1 hB hC1 => ?_⟩
  exact (jitneyref06_numbers.calls 20000 A q ws A1 bs.length bs sc ns 0 W1 (Kd.C_below hC hB) hq hC1 (Nat.le_refl _) h2).mono (fun r w2 ⟨v, h⟩ => ⟨v, h⟩)
theorem bad42_of {t first : ByteArray} {many sc e : Int} {bs ns : List Int} {ws : List ByteArray} (h1 : jitneyref06_words.f 20000 t first many = some (ws, 0)) (h2 : jitneyref06_numbers.f 20000 ws bs sc = some (ns, e)) : Bad42 t first many bs sc e := by
  intro W
  refine (jitneyref06_words.calls 20000 t first many ws 0 W h1).mono ?_
  rintro r w' ⟨v, rfl, hQ, hb⟩
  obtain ⟨A, q, rfl, hq, hC⟩ := Kd.Q_reads hQ
  refine ⟨A, _, q, rfl, hb, fun W1 A1 hB hC1 => ?_⟩
  exact (jitneyref06_numbers.calls 20000 A q ws A1 bs.length bs sc ns e W1 (Kd.C_below hC hB) hq hC1 (Nat.le_refl _) h2).mono (fun r w2 ⟨v, h1, _, h3⟩ => ⟨v, h1, h3⟩)
theorem bad40_of {t first : ByteArray} {many e : Int} {ws : List ByteArray} (h1 : jitneyref06_words.f 20000 t first many = some (ws, e)) : Bad40 t first many e := fun W =>
  (jitneyref06_words.calls 20000 t first many ws e W h1).mono (fun r w' ⟨v, h1, _, h3⟩ => ⟨v, h1, h3⟩)
/-- One line's words and numbers, as its walk asks them. -/
theorem line_ways (ls : List ByteArray) (i : Nat) (t first : ByteArray) (many sc : Int) (bs : List Int) (hi : ls[i]? = some t) (ht : t.size ≤ 3000) (hm : 1 ≤ many) (hm2 : many ≤ 5001) (hbs : ∀ m ∈ bs, m = 1000 ∨ m = 16777216) :
    (nextM ls i first many = .error 21 ∧ Bad40 t first many 21) ∨
    ∃ ws, nextM ls i first many = .ok ws ∧ (ws.length : Int) + 1 = many ∧ ((∃ e, numG sc ws bs = .error e ∧ Bad42 t first many bs sc e) ∨ (∃ ns, numG sc ws bs = .ok ns ∧ Ok42 t first many bs ns sc)) := by
  have hw := ref_words_is 20000 t first many (by omega) (by omega) hm
  have hN : nextM ls i first many = lineE (wsOf t first many) := by unfold nextM; rw [hi]
  rw [hN]
  cases hws : wsOf t first many with
  | none =>
    rw [hws] at hw
    exact .inl ⟨rfl, bad40_of hw⟩
  | some ws =>
    rw [hws] at hw
    obtain ⟨hlen, hsz⟩ := wsOf_len hws
    refine .inr ⟨ws, rfl, hlen, ?_⟩
    have hn := ref_numbers_is ws bs sc (fun x hx => Nat.le_trans (hsz x hx) ht) hbs (by omega)
    cases hg : numG sc ws bs with
    | error e => rw [hg] at hn; exact .inl ⟨e, rfl, bad42_of hw hn⟩
    | ok ns => rw [hg] at hn; exact .inr ⟨ns, rfl, ok42_of hw (by simpa [numsO] using hn)⟩
theorem numG_ne {sc : Int} : ∀ {ws : List ByteArray} {bs : List Int} {e : Int}, numG sc ws bs = .error e → e ≠ 0
  | [], _, e, h => by simp [numG] at h
  | x :: t, [], e, h => by
    unfold numG at h
    rcases okE_cases (readL x.data.toList sc) with ⟨_, h1⟩ | ⟨h0, h1⟩
    · rw [h1] at h
      cases hq : numG sc t [] with
      | error f => rw [hq] at h; cases h; exact numG_ne hq
      | ok r => rw [hq] at h; cases h
    · rw [h1] at h; cases h; exact h0
  | x :: t, b :: bs, e, h => by
    unfold numG at h
    rcases okE_cases (smallL x.data.toList b) with ⟨_, h1⟩ | ⟨h0, h1⟩
    · rw [h1] at h
      cases hq : numG sc t bs with
      | error f => rw [hq] at h; cases h; exact numG_ne hq
      | ok r => rw [hq] at h; cases h
    · rw [h1] at h; cases h; exact h0
theorem len3 {ws : List ByteArray} (h : (ws.length : Int) + 1 = 4) : ∃ a b c, ws = [a, b, c] := by
  match ws, h with
  | [a, b, c], _ => exact ⟨a, b, c, rfl⟩
  | [], h => simp at h
  | [_], h => simp at h
  | [_, _], h => simp at h
  | _ :: _ :: _ :: _ :: _, h => simp at h; omega
theorem len1 {ws : List ByteArray} (h : (ws.length : Int) + 1 = 2) : ∃ a, ws = [a] := by
  match ws, h with
  | [a], _ => exact ⟨a, rfl⟩
  | [], h => simp at h
  | _ :: _ :: _, h => simp at h; omega
theorem len5 {ws : List ByteArray} (h : (ws.length : Int) + 1 = 6) : ∃ a b c d e, ws = [a, b, c, d, e] := by
  match ws, h with
  | [a, b, c, d, e], _ => exact ⟨a, b, c, d, e, rfl⟩
  | [], h => simp at h
  | [_], h => simp at h
  | [_, _], h => simp at h
  | [_, _, _], h => simp at h
  | [_, _, _, _], h => simp at h
  | _ :: _ :: _ :: _ :: _ :: _ :: _, h => simp at h; omega
theorem len7 {ws : List ByteArray} (h : (ws.length : Int) + 1 = 8) : ∃ a b c d e f g, ws = [a, b, c, d, e, f, g] := by
  match ws, h with
  | [a, b, c, d, e, f, g], _ => exact ⟨a, b, c, d, e, f, g, rfl⟩
  | [], h => simp at h
  | [_], h => simp at h
  | [_, _], h => simp at h
  | [_, _, _], h => simp at h
  | [_, _, _, _], h => simp at h
  | [_, _, _, _, _], h => simp at h
  | [_, _, _, _, _, _], h => simp at h
  | _ :: _ :: _ :: _ :: _ :: _ :: _ :: _ :: _, h => simp at h; omega
theorem mapE_inv {α β : Type} {M : Except Int α} {f : α → β} : (∃ e, M = .error e ∧ mapE M f = .error e) ∨ (∃ a, M = .ok a ∧ mapE M f = .ok (f a)) := by
  cases M with
  | error e => exact .inl ⟨e, rfl, rfl⟩
  | ok a => exact .inr ⟨a, rfl, rfl⟩
theorem ref_line.calls (ls : List ByteArray) (t : ByteArray) (i c n : Nat) (sc : Int) (sp : Bool) (A0 A1 A2 A3 : Option Addr) (n0 n1 n2 n3 c0 c1 c2 c3 : Nat) (x : InstP) (base : Nat) (w : World) (hi : ls[i]? = some t) (ht : t.size ≤ 3000) (hil : i ≤ 20000) (hc : c ≤ 64) (hn : 2 * n + 2 ≤ 4096) (hb : base ≤ w.heap.size)
    (hX : InstAt w base (.slice A0 n0 c0) (.slice A1 n1 c1) (.slice A2 n2 c2) (.slice A3 n3 c3) x) (l0 : x.cars.length ≤ 20000) (l1 : x.stops.length ≤ 20000) (l2 : x.rides.length ≤ 20000) (l3 : x.rows.length ≤ 20000) (h3 : x.rows ≠ [] ∨ Value.slice A3 n3 c3 = .slice none 0 0) (hr : i < 1 + c + (2 * n + 2) + n → x.rows = []) :
    Calls Tryz.prog 15 #[iv A0 n0 c0 A1 n1 c1 A2 n2 c2 A3 n3 c3, .string t, .int .i64 i, .int .i64 c, .int .i64 n, .int .i64 sc, .bool sp] w (AnsL w base (stepM ls c n sc sp x i)) := by
  by_cases k1 : i < 1 + c
  · rw [step_car k1]
    unfold carM
    rcases line_ways ls i t bCar 4 sc [1000, 1000] hi ht (by decide) (by decide) (by simp) with ⟨h1, h2⟩ | ⟨ws, h1, hlen, h2⟩
    · rw [h1]
      exact line_car_bad1 t i c n sc sp A0 A1 A2 A3 n0 n1 n2 n3 c0 c1 c2 c3 21 base w k1 hc hn hb (by decide) h2
    · obtain ⟨a, b, d, rfl⟩ := len3 hlen
      rw [h1, numG_car] at *
      show Calls _ _ _ _ (AnsL w base (bindE (okE (carE [a, b, d] sc)) fun a => .ok { x with cars := x.cars ++ [a] }))
      rcases mapE_inv (M := okE (carE [a, b, d] sc)) (f := fun a => [a.f0.f0, a.f0.f1, a.f1]) with ⟨e, g1, g2⟩ | ⟨y, g1, g2⟩
      · rcases h2 with ⟨e', h2, h4⟩ | ⟨ns, h2, _⟩
        · rw [g2] at h2; cases h2
          rw [g1]
          exact line_car_bad2 t i c n sc sp A0 A1 A2 A3 n0 n1 n2 n3 c0 c1 c2 c3 e base w k1 hc hn hb (numG_ne (by rw [numG_car]; exact g2)) h4
        · rw [g2] at h2; cases h2
      · rcases h2 with ⟨e', h2, _⟩ | ⟨ns, h2, h4⟩
        · rw [g2] at h2; cases h2
        · rw [g2] at h2; cases h2
          rw [g1]
          exact line_car_ok t i c n sc sp A0 A1 A2 A3 n0 n1 n2 n3 c0 c1 c2 c3 x y.f0.f0 y.f0.f1 y.f1 base w k1 hc hn hb hX h3 l0 h4
  · by_cases k2 : i < 1 + c + (2 * n + 2)
    · rw [step_stop k1 k2]
      unfold stopM
      cases sp with
      | true =>
        rcases line_ways ls i t bStop 8 sc [16777216, 16777216, 1000, 1000] hi ht (by decide) (by decide) (by simp) with ⟨h1, h2⟩ | ⟨ws, h1, hlen, h2⟩
        · rw [show stopN true = 8 from rfl, h1]
          exact line_spots_bad1 t i c n sc A0 A1 A2 A3 n0 n1 n2 n3 c0 c1 c2 c3 21 base w k1 (by omega) hc hn hb (by decide) h2
        · obtain ⟨y0, y1, y2, y3, y4, y5, y6, rfl⟩ := len7 hlen
          rw [show stopN true = 8 from rfl, h1]
          rw [numG_spots] at h2
          show Calls _ _ _ _ (AnsL w base (bindE (okE (stopE true [y0, y1, y2, y3, y4, y5, y6] sc)) fun a => .ok { x with stops := x.stops ++ [a] }))
          rcases okE_cases (stopE true [y0, y1, y2, y3, y4, y5, y6] sc) with ⟨g0, g1⟩ | ⟨g0, g1⟩
          · rw [g1] at h2 ⊢
            rcases h2 with ⟨e', h2, _⟩ | ⟨ns, h2, h4⟩
            · cases h2
            · cases h2
              exact line_spots_ok t i c n sc A0 A1 A2 A3 n0 n1 n2 n3 c0 c1 c2 c3 x _ _ _ _ _ _ _ base w k1 (by omega) hc hn hb hX h3 l1 h4
          · rw [g1] at h2 ⊢
            rcases h2 with ⟨e', h2, h4⟩ | ⟨ns, h2, _⟩
            · cases h2
              exact line_spots_bad2 t i c n sc A0 A1 A2 A3 n0 n1 n2 n3 c0 c1 c2 c3 _ base w k1 (by omega) hc hn hb g0 h4
            · cases h2
      | false =>
        rcases line_ways ls i t bStop 6 sc [1000, 1000] hi ht (by decide) (by decide) (by simp) with ⟨h1, h2⟩ | ⟨ws, h1, hlen, h2⟩
        · rw [show stopN false = 6 from rfl, h1]
          exact line_times_bad1 t i c n sc A0 A1 A2 A3 n0 n1 n2 n3 c0 c1 c2 c3 21 base w k1 (by omega) hc hn hb (by decide) h2
        · obtain ⟨y2, y3, y4, y5, y6, rfl⟩ := len5 hlen
          rw [show stopN false = 6 from rfl, h1]
          rw [numG_times] at h2
          show Calls _ _ _ _ (AnsL w base (bindE (okE (stopE false [y2, y3, y4, y5, y6] sc)) fun a => .ok { x with stops := x.stops ++ [a] }))
          rcases okE_cases (stopE false [y2, y3, y4, y5, y6] sc) with ⟨g0, g1⟩ | ⟨g0, g1⟩
          · rw [g1] at h2 ⊢
            rcases h2 with ⟨e', h2, _⟩ | ⟨ns, h2, h4⟩
            · cases h2
            · cases h2
              exact line_times_ok t i c n sc A0 A1 A2 A3 n0 n1 n2 n3 c0 c1 c2 c3 x _ _ _ _ _ base w k1 (by omega) hc hn hb hX h3 l1 h4
          · rw [g1] at h2 ⊢
            rcases h2 with ⟨e', h2, h4⟩ | ⟨ns, h2, _⟩
            · cases h2
              exact line_times_bad2 t i c n sc A0 A1 A2 A3 n0 n1 n2 n3 c0 c1 c2 c3 _ base w k1 (by omega) hc hn hb g0 h4
            · cases h2
    · by_cases k3 : i < 1 + c + (2 * n + 2) + n
      · rw [step_ride k2 k3]
        unfold rideM
        rcases line_ways ls i t bRide 2 sc [] hi ht (by decide) (by decide) (by simp) with ⟨h1, h2⟩ | ⟨ws, h1, hlen, h2⟩
        · rw [h1]
          exact line_ride_bad1 t i c n sc sp A0 A1 A2 A3 n0 n1 n2 n3 c0 c1 c2 c3 21 base w (by omega) (by omega) hc hn hb (by decide) h2
        · obtain ⟨a, rfl⟩ := len1 hlen
          rw [h1]
          rw [numG_ride] at h2
          show Calls _ _ _ _ (AnsL w base (bindE (okE (rideE [a] sc)) fun a => .ok { x with rides := x.rides ++ [a] }))
          rcases okE_cases (rideE [a] sc) with ⟨g0, g1⟩ | ⟨g0, g1⟩
          · rw [g1] at h2 ⊢
            rcases h2 with ⟨e', h2, _⟩ | ⟨ns, h2, h4⟩
            · cases h2
            · cases h2
              have hr' := hr k3
              rcases h3 with h3 | h3
              · exact absurd hr' h3
              · cases h3
                exact line_ride_ok t i c n sc sp A0 A1 A2 n0 n1 n2 c0 c1 c2 x _ base w (by omega) (by omega) hc hn hb hX hr' l2 h4
          · rw [g1] at h2 ⊢
            rcases h2 with ⟨e', h2, h4⟩ | ⟨ns, h2, _⟩
            · cases h2
              exact line_ride_bad2 t i c n sc sp A0 A1 A2 A3 n0 n1 n2 n3 c0 c1 c2 c3 _ base w (by omega) (by omega) hc hn hb g0 h4
            · cases h2
      · rw [step_row k3]
        unfold rowM
        have hm : (((2 * n + 2 : Nat) : Int)) + 1 = 2 * (n : Int) + 3 := by omega
        rw [hm]
        rcases line_ways ls i t bRow (2 * (n : Int) + 3) sc [] hi ht (by omega) (by omega) (by simp) with ⟨h1, h2⟩ | ⟨ws, h1, hlen, h2⟩
        · rw [h1]
          exact line_row_bad1 t i c n sc sp A0 A1 A2 A3 n0 n1 n2 n3 c0 c1 c2 c3 21 base w (by omega) hil hc hn hb (by decide) h2
        · rw [h1]
          show Calls _ _ _ _ (AnsL w base (bindE (numsE sc ws) fun a => .ok { x with rows := x.rows ++ [a] }))
          rcases h2 with ⟨e', h2, h4⟩ | ⟨ns, h2, h4⟩
          · have he := numG_ne h2
            rw [numG_row] at h2
            rw [h2]
            exact line_row_bad2 t i c n sc sp A0 A1 A2 A3 n0 n1 n2 n3 c0 c1 c2 c3 _ base w (by omega) hil hc hn hb he h4
          · rw [numG_row] at h2
            rw [h2]
            exact line_row_ok t i c n sc sp A0 A1 A2 A3 n0 n1 n2 n3 c0 c1 c2 c3 x ns base w (by omega) hil hc hn hb hX l3 h4
end Go.Proofs.YtcdmndhaeiccoaaGreatDoor.P
namespace Go.Proofs.YtcdmndhaeiccoaaGreatDoor.P
open Go Go.Proofs.YtcdmndhaeiccoaaGreatDoorR
open Go.RowKit Go.Proofs.YtcdmndhaeiccoaaGreatDoorW.PrintWords Go.Proofs.YtcdmndhaeiccoaaGreatDoorW.PrintLast
set_option linter.unusedVariables false
set_option linter.unusedSimpArgs false
set_option maxHeartbeats 8000000
set_option maxRecDepth 100000
theorem results6_of {tmps : Array Value} {W : World} {g : Nat} {v0 v1 v2 v3 : Value} {s l e : Int} (h2 : tmps.getD 2 undef = .pointer (some ⟨g, 0, none⟩)) (h3 : tmps.getD 3 undef = .int .i64 s) (h4 : tmps.getD 4 undef = .int .i64 l) (h5 : tmps.getD 5 undef = .int .i64 e) (r0 : W.heap[g]? = some (.cells #[v0, v1, v2, v3] 28 (0, 0))) :
    (results Tryz.f6 tmps).run Tryz.prog W = .ok (.tuple #[.agg #[v0, v1, v2, v3], .int .i64 s, .int .i64 l, .int .i64 e]) W := by
  have a2 : tmps[2]?.getD undef = .pointer (some ⟨g, 0, none⟩) := by simpa using h2
  have a3 : tmps[3]?.getD undef = .int .i64 s := by simpa using h3
  have a4 : tmps[4]?.getD undef = .int .i64 l := by simpa using h4
  have a5 : tmps[5]?.getD undef = .int .i64 e := by simpa using h5
  obtain ⟨⟨y0, y1, y2, y3⟩, _⟩ := four_of r0
  have hu28 := Tryz.underlying28
  simp [results, Tryz.results6, a2, a3, a4, a5, asAddr, loadVar, go_sem, y0, y1, y2, y3, hu28]
/-- A result without an instance. -/
theorem ansP_bad {w w' : World} {s l e : Int} (hb : Below w.heap.size w w') : AnsP w (zI, s, l, e) (.returned (.tuple #[.agg #[nilV, nilV, nilV, nilV], .int .i64 s, .int .i64 l, .int .i64 e])) w' :=
  ⟨⟨_, _, _, _, rfl, instAt_nil _ _⟩, hb⟩
theorem ref_parse_bad (t : ByteArray) (e : Int) (he : e ≠ 0) (w : World) (CL : ∀ W, Calls Tryz.prog 13 #[.string t] W fun r w' => ∃ v, r = .returned (.tuple #[v, .int .i64 e]) ∧ Below W.heap.size W w') :
    Calls Tryz.prog 6 #[.string t] w (AnsP w (zI, 0, 0, e)) := by
  have C1 := Aside0.mk CL
  have q1 : (e == 0) = false := by simp [he]
  have q2 : (e != 0) = true := by simp [he]
  have hu28 := Tryz.underlying28
  clear CL
  go_enter Tryz.func6, Tryz.ntmps6
  go_wp2_with (first | (go_at_call 13; refine (C1.out _).mono ?_; rintro r w1 ⟨v, rfl, hb⟩; have R1 := Aside0.mk ((hb.block _ (by simp)).trans (heap_alloc_new w zInst)); have B1 := Aside0.mk ((below_alloc (Below.refl w.heap.size w) zInst).trans (hb.mono (by simp))); clear hb; obtain ⟨⟨y0, y1, y2, y3⟩, f0, f1, f2, f3⟩ := four_of R1.out))
  refine bodyPost_ret (results6_of (v0 := nilV) (v1 := nilV) (v2 := nilV) (v3 := nilV) rfl rfl rfl rfl (blk_set (blk_set (blk_set (blk_set R1.out 0 _) 1 _) 2 _) 3 _)) rfl ?_
  exact ansP_bad ((((B1.out.setCell (Nat.le_refl _) _).setCell (Nat.le_refl _) _).setCell (Nat.le_refl _) _).setCell (Nat.le_refl _) _)
theorem ref_parse_none (t : ByteArray) (w : World) (CL : ∀ W, Calls Tryz.prog 13 #[.string t] W fun r w' => ∃ A q, r = .returned (.tuple #[.slice A 0 q, .int .i64 0]) ∧ Below W.heap.size W w') :
    Calls Tryz.prog 6 #[.string t] w (AnsP w (zI, 0, 0, 20)) := by
  have C1 := Aside0.mk CL
  have hu28 := Tryz.underlying28
  clear CL
  go_enter Tryz.func6, Tryz.ntmps6
  go_wp2_with (first | (go_at_call 13; refine (C1.out _).mono ?_; rintro r w1 ⟨A, q, rfl, hb⟩; have R1 := Aside0.mk ((hb.block _ (by simp)).trans (heap_alloc_new w zInst)); have B1 := Aside0.mk ((below_alloc (Below.refl w.heap.size w) zInst).trans (hb.mono (by simp))); clear hb; obtain ⟨⟨y0, y1, y2, y3⟩, f0, f1, f2, f3⟩ := four_of R1.out))
  refine bodyPost_ret (results6_of (v0 := nilV) (v1 := nilV) (v2 := nilV) (v3 := nilV) rfl rfl rfl rfl (blk_set (blk_set (blk_set (blk_set R1.out 0 _) 1 _) 2 _) 3 _)) rfl ?_
  exact ansP_bad ((((B1.out.setCell (Nat.le_refl _) _).setCell (Nat.le_refl _) _).setCell (Nat.le_refl _) _).setCell (Nat.le_refl _) _)
theorem ref_parse_head (t l0 : ByteArray) (n : Nat) (hn : n ≠ 0) (e c m s : Int) (sp : Bool) (he : e ≠ 0) (w : World) (CL : ∀ W, Calls Tryz.prog 13 #[.string t] W fun r w' => ∃ ad q, r = .returned (.tuple #[.slice (some ad) n q, .int .i64 0]) ∧ Below W.heap.size W w' ∧ w'.cell? ad = some (.string l0))
    (CH : ∀ W, Calls Tryz.prog 14 #[.string l0] W fun r w' => r = .returned (.tuple #[.int .i64 c, .int .i64 m, .int .i64 s, .bool sp, .int .i64 e]) ∧ Below W.heap.size W w') :
    Calls Tryz.prog 6 #[.string t] w (AnsP w (zI, 0, 1, e)) := by
  have C1 := Aside0.mk CL
  have C2 := Aside0.mk CH
  have q1 : (e == 0) = false := by simp [he]
  have q2 : (e != 0) = true := by simp [he]
  have d1 : decide ((n : Int) = 0) = false := by simp [hn]
  have d2 : (n == 0) = false := by simp [hn]
  have d3 : ((n : Int) == 0) = false := by simp [hn]
  have p2 : (0 : Int) < (n : Int) := by omega
  have hu28 := Tryz.underlying28
  clear CL CH
  go_enter Tryz.func6, Tryz.ntmps6
  go_wp2_with (first
    | (go_at_call 13; refine (C1.out _).mono ?_; rintro r w1 ⟨ad, q, rfl, hb, hc⟩; have R1 := Aside0.mk ((hb.block _ (by simp)).trans (heap_alloc_new w zInst)); have B1 := Aside0.mk ((below_alloc (Below.refl w.heap.size w) zInst).trans (hb.mono (by simp))); clear hb)
    | (go_at_call 14; refine (C2.out _).mono ?_; rintro r w2 ⟨rfl, hb⟩; have R2 := Aside0.mk ((hb.block _ (Array.getElem?_eq_some_iff.1 R1.out).1).trans R1.out); have B2 := Aside0.mk (B1.out.trans (hb.mono B1.out.size)); clear hb hc; obtain ⟨⟨y0, y1, y2, y3⟩, f0, f1, f2, f3⟩ := four_of R2.out))
  refine bodyPost_ret (results6_of (v0 := nilV) (v1 := nilV) (v2 := nilV) (v3 := nilV) rfl rfl rfl rfl (blk_set (blk_set (blk_set (blk_set R2.out 0 _) 1 _) 2 _) 3 _)) rfl ?_
  exact ansP_bad ((((B2.out.setCell (Nat.le_refl _) _).setCell (Nat.le_refl _) _).setCell (Nat.le_refl _) _).setCell (Nat.le_refl _) _)
end Go.Proofs.YtcdmndhaeiccoaaGreatDoor.P
namespace Go.Proofs.YtcdmndhaeiccoaaGreatDoor.P
open Go Go.Proofs.YtcdmndhaeiccoaaGreatDoorR
open Go.RowKit Go.Proofs.YtcdmndhaeiccoaaGreatDoorW.PrintWords Go.Proofs.YtcdmndhaeiccoaaGreatDoorW.PrintLast
set_option linter.unusedVariables false
set_option linter.unusedSimpArgs false
set_option maxHeartbeats 8000000
set_option maxRecDepth 100000
def outM (M : Except (Int × Int) (InstP × Int)) : InstP × Int × Int × Int :=
  match M with
  | .error (l, e) => (zI, 0, l, e)
  | .ok (x, s) => if chkI x = 0 then (x, s, 0, 0) else (zI, 0, 0, chkI x)
theorem step_short {ls : List ByteArray} {c n : Nat} {sc : Int} {sp : Bool} {x : InstP} {i : Nat} (h : ls.length ≤ i) : stepM ls c n sc sp x i = .error 20 := by
  have hN : ∀ first m, nextM ls i first m = .error 20 := fun first m => by unfold nextM; rw [List.getElem?_eq_none h]
  unfold stepM carM stopM rideM rowM
  simp only [hN, bindE]
  split
  · rfl
  · split
    · rfl
    · split <;> rfl
/-- The lines' texts lie ahead of a block. -/
def LinesAt (w : World) (P : Nat) (A : Option Addr) (ls : List ByteArray) : Prop := ∀ (i : Nat) (t : ByteArray), ls[i]? = some t → ∃ ad, A = some ad ∧ ad.block < P ∧ w.cell? (ad.add i) = some (.string t)
theorem cell_at {w w1 : World} {P : Nat} {ad : Addr} {v : Value} (hb : ∀ k, k < P → w1.heap[k]? = w.heap[k]?) (h : w.cell? ad = some v) (hlt : ad.block < P) : w1.cell? ad = some v := by
  unfold World.cell? at h ⊢
  rw [hb _ hlt]
  exact h
theorem LinesAt.move {w w1 : World} {P : Nat} {A : Option Addr} {ls : List ByteArray} (h : LinesAt w P A ls) (hb : ∀ k, k < P → w1.heap[k]? = w.heap[k]?) : LinesAt w1 P A ls := by
  intro i t ht
  obtain ⟨ad, ha, hlt, hc⟩ := h i t ht
  exact ⟨ad, ha, hlt, cell_at hb hc (by rw [ad_block]; exact hlt)⟩
/-- A round's state: the result's box, the instance's box, its rows behind it, the lines ahead of it. -/
structure StR (w wr : World) (P : Nat) (A : Option Addr) (ls : List ByteArray) (v0 v1 v2 v3 : Value) (x : InstP) : Prop where
  res : wr.heap[w.heap.size]? = some zInst
  box : wr.heap[P]? = some (.cells #[v0, v1, v2, v3] 28 (0, 0))
  lines : LinesAt wr P A ls
  inst : InstAt wr (P + 1) v0 v1 v2 v3 x
  none3 : x.rows ≠ [] ∨ v3 = .slice none 0 0
  below : Below w.heap.size w wr
  lt : w.heap.size < P
theorem StR.move {w wr w1 : World} {P : Nat} {A : Option Addr} {ls : List ByteArray} {v0 v1 v2 v3 u0 u1 u2 u3 : Value} {x y : InstP} (h : StR w wr P A ls v0 v1 v2 v3 x) (hb : Below (P + 1) wr w1) (hI : InstAt w1 (P + 1) u0 u1 u2 u3 y) (hn : y.rows ≠ [] ∨ u3 = .slice none 0 0) : StR w (put4 w1 P u0 u1 u2 u3) P A ls u0 u1 u2 u3 y := by
  have hlt := h.lt
  have hp : w1.heap[P]? = some (.cells #[v0, v1, v2, v3] 28 (0, 0)) := (hb.block P (by omega)).trans h.box
  have hk : ∀ k, k < P → (put4 w1 P u0 u1 u2 u3).heap[k]? = wr.heap[k]? := fun k hk => by
    have e : ∀ (X : World) (j : Nat) (u : Value), (X.setCell ⟨P, j, none⟩ u).heap[k]? = X.heap[k]? := fun X j u => Below.heap_setCell X ⟨P, j, none⟩ u k (by show k ≠ P; omega)
    rw [e, e, e, e]
    exact hb.block k (by omega)
  refine ⟨(hk _ hlt).trans h.res, blk_set (blk_set (blk_set (blk_set hp 0 _) 1 _) 2 _) 3 _, h.lines.move hk, instAt_put4 hI hp _ _ _ _, hn, ?_, hlt⟩
  exact ((((h.below.trans (hb.mono (by omega))).setCell (p := ⟨P, 0, none⟩) (Nat.le_of_lt hlt) _).setCell (p := ⟨P, 1, none⟩) (Nat.le_of_lt hlt) _).setCell (p := ⟨P, 2, none⟩) (Nat.le_of_lt hlt) _).setCell (p := ⟨P, 3, none⟩) (Nat.le_of_lt hlt) _
/-- The call of a line, as a round asks it. -/
def OkL (wr : World) (P : Nat) (args : Array Value) (y : InstP) : Prop :=
  ∀ W, Below wr.heap.size wr W → Calls Tryz.prog 15 args W fun r w' => ∃ a0 m0 d0 a1 m1 d1 a2 m2 d2 a3 m3 d3, r = .returned (.tuple #[.agg #[.slice a0 m0 d0, .slice a1 m1 d1, .slice a2 m2 d2, .slice a3 m3 d3], .int .i64 0]) ∧ Aside0 (InstAt w' (P + 1) (.slice a0 m0 d0) (.slice a1 m1 d1) (.slice a2 m2 d2) (.slice a3 m3 d3) y) ∧ Aside0 (y.rows ≠ [] ∨ Value.slice a3 m3 d3 = .slice none 0 0) ∧ Aside0 (Below (P + 1) W w') ∧ Aside0 (Keep28 W w')
def BadL (wr : World) (P : Nat) (args : Array Value) (e : Int) : Prop :=
  ∀ W, Below wr.heap.size wr W → Calls Tryz.prog 15 args W fun r w' => ∃ a0 m0 d0 a1 m1 d1 a2 m2 d2 a3 m3 d3, r = .returned (.tuple #[.agg #[.slice a0 m0 d0, .slice a1 m1 d1, .slice a2 m2 d2, .slice a3 m3 d3], .int .i64 e]) ∧ Aside0 (Below (P + 1) W w') ∧ Aside0 (Keep28 W w')
theorem line_round {w wr : World} {P : Nat} {A : Option Addr} {ls : List ByteArray} {v0 v1 v2 v3 : Value} {x : InstP} (S : StR w wr P A ls v0 v1 v2 v3 x) {t : ByteArray} {i c n : Nat} {s : Int} {sp : Bool} (hi : ls[i]? = some t) (ht : t.size ≤ 3000) (hil : i ≤ 20000) (hc : c ≤ 64) (hn : 2 * n + 2 ≤ 4096) (l0 : x.cars.length ≤ 20000) (l1 : x.stops.length ≤ 20000) (l2 : x.rides.length ≤ 20000) (l3 : x.rows.length ≤ 20000) (hr : i < 1 + c + (2 * n + 2) + n → x.rows = []) :
    (∃ e, stepM ls c n s sp x i = .error e ∧ e ≠ 0 ∧ BadL wr P #[.agg #[v0, v1, v2, v3], .string t, .int .i64 i, .int .i64 c, .int .i64 n, .int .i64 s, .bool sp] e) ∨ (∃ y, stepM ls c n s sp x i = .ok y ∧ OkL wr P #[.agg #[v0, v1, v2, v3], .string t, .int .i64 i, .int .i64 c, .int .i64 n, .int .i64 s, .bool sp] y) := by
  obtain ⟨A0, c0, rfl⟩ := Kd.R_slice S.inst.cars
  obtain ⟨A1, c1, rfl⟩ := Kd.R_slice S.inst.stops
  obtain ⟨A2, c2, rfl⟩ := Kd.R_slice S.inst.rides
  obtain ⟨A3, c3, rfl⟩ := Kd.R_slice S.inst.rows
  have hP : P + 1 ≤ wr.heap.size := (Array.getElem?_eq_some_iff.1 S.box).1
  have C := fun W (hW : Below wr.heap.size wr W) => ref_line.calls ls t i c n s sp A0 A1 A2 A3 _ _ _ _ c0 c1 c2 c3 x (P + 1) W hi ht hil hc hn (Nat.le_trans hP hW.size) (instAt_below S.inst hW) l0 l1 l2 l3 S.none3 hr
  cases hM : stepM ls c n s sp x i with
  | error e =>
    rw [hM] at C
    have he : e ≠ 0 := by
      obtain ⟨r, w', _, hq, _⟩ := C wr (Below.refl _ _) []
      obtain ⟨⟨_, _, _, _, e', _, h⟩, _⟩ := hq
      rcases h with ⟨y, h, _⟩ | ⟨h, h2, _⟩
      · cases h
      · cases h; exact h2
    refine .inl ⟨e, rfl, he, fun W hW => (C W hW).mono ?_⟩
    rintro r w' ⟨⟨u0, u1, u2, u3, e', rfl, h⟩, hb, hk⟩
    rcases h with ⟨y, h, _⟩ | ⟨h, _, a0, a1, a2, a3, n0, n1, n2, n3, d0, d1, d2, d3, rfl, rfl, rfl, rfl⟩
    · cases h
    · cases h
      exact ⟨_, _, _, _, _, _, _, _, _, _, _, _, rfl, ⟨hb⟩, ⟨hk⟩⟩
  | ok y =>
    rw [hM] at C
    refine .inr ⟨y, rfl, fun W hW => (C W hW).mono ?_⟩
    rintro r w' ⟨⟨u0, u1, u2, u3, e', rfl, h⟩, hb, hk⟩
    rcases h with ⟨y', h, he, hI, hn3⟩ | ⟨h, _⟩
    · cases h
      subst he
      obtain ⟨B0, e0, rfl⟩ := Kd.R_slice hI.cars
      obtain ⟨B1, e1, rfl⟩ := Kd.R_slice hI.stops
      obtain ⟨B2, e2, rfl⟩ := Kd.R_slice hI.rides
      obtain ⟨B3, e3, rfl⟩ := Kd.R_slice hI.rows
      exact ⟨_, _, _, _, _, _, _, _, _, _, _, _, rfl, ⟨hI⟩, ⟨hn3⟩, ⟨hb⟩, ⟨hk⟩⟩
    · cases h
end Go.Proofs.YtcdmndhaeiccoaaGreatDoor.P
