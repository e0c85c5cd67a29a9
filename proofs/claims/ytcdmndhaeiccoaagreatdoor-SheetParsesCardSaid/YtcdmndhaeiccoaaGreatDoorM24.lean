/- The document's example holds. -/
import Derived.Test.YtcdmndhaeiccoaaGreatDoorMkit
import Derived.Test.YtcdmndhaeiccoaaGreatDoorM23
import Derived.Test.YtcdmndhaeiccoaaGreatDoorM21
namespace Go.Proofs.YtcdmndhaeiccoaaGreatDoor.P
open Go Go.Proofs.YtcdmndhaeiccoaaGreatDoorR
open Go.RowKit Go.Proofs.YtcdmndhaeiccoaaGreatDoorW.PrintWords Go.Proofs.YtcdmndhaeiccoaaGreatDoorW.PrintLast
set_option linter.unusedVariables false
set_option linter.unusedSimpArgs false
set_option maxHeartbeats 8000000
set_option maxRecDepth 100000
abbrev tx1 : ByteArray := ⟨#[106, 105, 116, 110, 101, 121, 32, 48, 32, 49, 32, 48, 32, 115, 112, 111, 116, 115, 10, 99, 97, 114, 32, 49, 32, 48, 32, 57, 10, 115, 116, 111, 112, 32, 48, 32, 48, 32, 48, 32, 48, 32, 48, 32, 48, 32, 57, 10, 115, 116, 111, 112, 32, 48, 32, 48, 32, 48, 32, 48, 32, 48, 32, 48, 32, 57, 10]⟩
abbrev tx2 : ByteArray := ⟨#[106, 105, 116, 110, 101, 121, 32, 48, 32, 49, 32, 48, 32, 115, 112, 111, 116, 115, 10, 99, 97, 114, 32, 49, 32, 48, 10]⟩
abbrev tx3 : ByteArray := ⟨#[106, 105, 116, 110, 101, 121, 32, 48, 32, 49, 32, 48, 32, 115, 112, 111, 116, 115, 10]⟩
theorem out_tx1 : (⟨(outL 1 2).toArray⟩ : ByteArray) = tx1 := by decide +kernel
theorem parse_tx1 : parseM ((linesL tx1.data.toList).1.map mkB) (linesL tx1.data.toList).2 = (xA, 0, 0, 0) := by kernel_rfl
theorem parse_tx2 : parseM ((linesL tx2.data.toList).1.map mkB) (linesL tx2.data.toList).2 = (zI, 0, 2, 21) := by kernel_rfl
theorem parse_tx3 : parseM ((linesL tx3.data.toList).1.map mkB) (linesL tx3.data.toList).2 = (zI, 0, 2, 20) := by kernel_rfl
theorem parse1 (w : World) : Calls Tryz.prog 5 #[.string tx1] w fun r w' => ∃ A0 c0 A1 c1 A2 c2 A3 c3, r = .returned (.tuple #[.agg #[.slice A0 1 c0, .slice A1 2 c1, .slice A2 0 c2, .slice A3 0 c3], .int .i64 0, .int .i64 0, .int .i64 0]) ∧ Aside0 (InC w' ⟨A0, c0, A1, c1, A2, c2, A3, c3⟩ xA) ∧ Aside0 (Below w.heap.size w w') := by
  have h := sheet_Parse.calls tx1 (by decide) w
  rw [parse_tx1] at h
  refine h.mono ?_
  rintro r w' ⟨⟨v0, v1, v2, v3, rfl, hI⟩, hb⟩
  obtain ⟨⟨A0, c0, A1, c1, A2, c2, A3, c3⟩, hC, hv⟩ := inC_of hI
  have hv' : #[v0, v1, v2, v3] = #[.slice A0 1 c0, .slice A1 2 c1, .slice A2 0 c2, .slice A3 0 c3] := hv
  rw [hv']
  exact ⟨A0, c0, A1, c1, A2, c2, A3, c3, rfl, ⟨hC⟩, ⟨hb⟩⟩
theorem parse23 (t : ByteArray) (ht : t.size ≤ 3000) (l e : Int) (h : parseM ((linesL t.data.toList).1.map mkB) (linesL t.data.toList).2 = (zI, 0, l, e)) (w : World) : Calls Tryz.prog 5 #[.string t] w fun r w' => ∃ A0 c0 A1 c1 A2 c2 A3 c3, r = .returned (.tuple #[.agg #[.slice A0 0 c0, .slice A1 0 c1, .slice A2 0 c2, .slice A3 0 c3], .int .i64 0, .int .i64 l, .int .i64 e]) ∧ Aside0 (Below w.heap.size w w') := by
  have h' := sheet_Parse.calls t ht w
  rw [h] at h'
  refine h'.mono ?_
  rintro r w' ⟨⟨v0, v1, v2, v3, rfl, hI⟩, hb⟩
  obtain ⟨⟨A0, c0, A1, c1, A2, c2, A3, c3⟩, hC, hv⟩ := inC_of hI
  have hv' : #[v0, v1, v2, v3] = #[.slice A0 0 c0, .slice A1 0 c1, .slice A2 0 c2, .slice A3 0 c3] := hv
  rw [hv']
  exact ⟨A0, c0, A1, c1, A2, c2, A3, c3, rfl, ⟨hb⟩⟩
theorem alive.calls (w : World) : Calls Tryz.prog 4 #[] w fun r w' => r = .returned (.bool true) ∧ Below w.heap.size w w' := by
  have C1 := Aside0.mk (fun W => parse1 W)
  have C2 := Aside0.mk (fun W => parse23 tx2 (by decide) 2 21 parse_tx2 W)
  have C3 := Aside0.mk (fun W => parse23 tx3 (by decide) 2 20 parse_tx3 W)
  have hu28 := Tryz.underlying28
  go_enter Tryz.func4, Tryz.ntmps4
  go_upto_region 3 with (first | (go_at_call 5; refine (C1.out _).mono ?_; rintro r w1 ⟨A0, c0, A1, c1, A2, c2, A3, c3, rfl, I1, B1⟩))
  obtain ⟨W1, hW1⟩ : ∃ W1, W1 = w1.alloc (.cells #[.slice A0 1 c0, .slice A1 2 c1, .slice A2 0 c2, .slice A3 0 c3] 28 (0, 0)) := ⟨_, rfl⟩
  rw [← hW1]
  have D1 := Aside0.mk (show Below w.heap.size w W1 by rw [hW1]; exact below_alloc B1.out _)
  have X1 := Aside0.mk (show W1.heap[w1.heap.size]? = some (.cells #[.slice A0 1 c0, .slice A1 2 c1, .slice A2 0 c2, .slice A3 0 c3] 28 (0, 0)) by rw [hW1]; exact heap_alloc_new w1 _)
  have J1 := Aside0.mk (show InC W1 ⟨A0, c0, A1, c1, A2, c2, A3, c3⟩ xA by rw [hW1]; exact I1.out.below (below_alloc (Below.refl _ _) _))
  clear hW1
  go_upto_region 4 with (first | (go_at_call 5; refine (C2.out _).mono ?_; rintro r w2 ⟨P2, p2, Q2, q2, R2, r2, S2, s2, rfl, B2⟩))
  obtain ⟨W2, hW2⟩ : ∃ W2, W2 = w2.alloc (.cells #[.slice P2 0 p2, .slice Q2 0 q2, .slice R2 0 r2, .slice S2 0 s2] 28 (0, 0)) := ⟨_, rfl⟩
  rw [← hW2]
  have E2 := Aside0.mk (show Below W1.heap.size W1 W2 by rw [hW2]; exact below_alloc B2.out _)
  clear hW2
  go_upto_region 5 with (first | (go_at_call 5; refine (C3.out _).mono ?_; rintro r w3 ⟨P3, p3, Q3, q3, R3, r3, S3, s3, rfl, B3⟩))
  obtain ⟨W3, hW3⟩ : ∃ W3, W3 = w3.alloc (.cells #[.slice P3 0 p3, .slice Q3 0 q3, .slice R3 0 r3, .slice S3 0 s3] 28 (0, 0)) := ⟨_, rfl⟩
  rw [← hW3]
  have E3 := Aside0.mk (show Below W1.heap.size W1 W3 by rw [hW3]; exact E2.out.trans ((below_alloc B3.out _).mono E2.out.size))
  clear hW3
  have X3 := Aside0.mk ((E3.out.block _ (Array.getElem?_eq_some_iff.1 X1.out).1).trans X1.out)
  have C4 := Aside0.mk (print_xA.calls ⟨A0, c0, A1, c1, A2, c2, A3, c3⟩ W3 (J1.out.below E3.out))
  rw [out_tx1] at C4
  obtain ⟨⟨y0, y1, y2, y3⟩, -⟩ := four_of X3.out
  go_wp2_with (first | (go_at_call 8; refine C4.out.mono ?_; rintro r w4 ⟨rfl, hb⟩; have B4 := Aside0.mk hb; have X4 := Aside0.mk ((hb.block _ (Array.getElem?_eq_some_iff.1 X3.out).1).trans X3.out); clear hb y0 y1 y2 y3; obtain ⟨⟨y0, y1, y2, y3⟩, -⟩ := four_of X4.out))
  go_ret
  exact ⟨rfl, D1.out.trans ((E3.out.trans (B4.out.mono E3.out.size)).mono D1.out.size)⟩
end Go.Proofs.YtcdmndhaeiccoaaGreatDoor.P
