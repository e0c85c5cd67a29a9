/- Of all pairs of numbers every answer is as said: the walk. -/
import Derived.Test.YtmbjkoffnocodaaP1
import Derived.Test.YtmbjkoffnocodaaP2
import Derived.Test.YtmbjkoffnocodaaP3
import Derived.Test.YtmbjkoffnocodaaP4
import Derived.Test.YtmbjkoffnocodaaP5
namespace Go.Proofs.Ytmbjkoffnocodaa.P
open Go.Proofs.YtmbjkoffnocodaaR
open Go.RowKit Go.Proofs.YtmbjkoffnocodaaW.PrintWords Go.Proofs.YtmbjkoffnocodaaW.PrintLast Go.Proofs.YtmbjkoffnocodaaW.PrintMore
attribute [local go_sem] max2_int min2_int max_two min_two max_three min_three max_four min_four
set_option linter.unusedVariables false
set_option linter.unusedSimpArgs false
set_option maxHeartbeats 8000000 in
set_option maxRecDepth 100000 in
theorem numTwo_walk (k : Nat) (a0 a1 a2 s m h q : Int) (ok mk : Bool) (w : World) (h4 : jitneylaw01_alive.f k = some true) (h6 : num_Add.f a0 a1 = some (s, ok)) (h7 : jitneyref01_Sum.f k ([a0, a1] : List Int) = some (s, ok))
    (h8 : num_Mul.f k a0 a1 = some (m, mk)) (h9 : jitneyref01_Mul.f k a0 a1 = some (m, mk)) (h14 : num_Held.f a0 a1 a2 = some h) (h15 : jitneyref01_Held.f a0 a1 a2 = some h) (h17 : num_Root.f a0 = some q) (h18 : jitneyref01_Root.f k a0 = some q) :
    Calls Try.prog 3 #[.int .i64 a0, .int .i64 a1, .int .i64 a2] w fun e w' => e = .returned (.bool true) ∧ Below w.heap.size w w' := by
  have HB := Aside0.mk (Below.refl w.heap.size w)
  obtain ⟨y141, hy141⟩ : ∃ y_ : List Int, y_ = (([a0, a1] : List Int)) := ⟨_, rfl⟩
  rw [← hy141] at h7
  have Ny141 := Aside0.mk hy141
  clear hy141
  have A4 := Aside0.mk h4
  have A6 := Aside0.mk h6
  have A7 := Aside0.mk h7
  have A8 := Aside0.mk h8
  have A9 := Aside0.mk h9
  have A14 := Aside0.mk h14
  have A15 := Aside0.mk h15
  have A17 := Aside0.mk h17
  have A18 := Aside0.mk h18
  clear h4 h6 h7 h8 h9 h14 h15 h17 h18
  go_enter Try.func3, Try.ntmps3
  go_wp2_with (first | ((with_reducible refine gate_callee (f := 9) rfl ?_); refine goesL_ (some 15) rfl rfl Try.func9 (by kernel_rfl) rfl #[] rfl (by (try simp only [List.map_toArray, List.map_cons, List.map_nil]); first | done | rfl | (simp only [List.length_drop, List.length_take]; rfl)) ?_; (with_reducible refine (jitneylaw01_alive.calls k  true _ A4.out).mono ?_); rintro e w19 ⟨rfl, hb⟩; refine ⟨_, rfl, ?_⟩; have n0_ := Aside0.mk (below_step (by repeat (first | (with_reducible first | exact HB.out | apply below_alloc | apply pw_below_drewN | apply below_drew1) | exact HB.out)) hb); clear HB; have HB := n0_; clear n0_; (try clear hb); (try clear hb2); (try clear hk); (try clear hi)) | ((with_reducible refine gate_callee (f := 10) rfl ?_); refine goesL_ (some 20) rfl rfl Try.func10 (by kernel_rfl) rfl #[.int .i64 a0, .int .i64 a1] rfl (by (try simp only [List.map_toArray, List.map_cons, List.map_nil]); first | done | rfl | (simp only [List.length_drop, List.length_take]; rfl)) ?_; (with_reducible refine (num_Add.calls a0 a1 s ok _ A6.out).mono ?_); rintro e w' ⟨rfl, ⟨nd, rfl⟩⟩; refine ⟨_, rfl, ?_⟩) | ((with_reducible refine gate_dst (N := 26) rfl ?_); refine Kd.R_lit (Kd.int .i64) _ 2 ?hg (N := 26) ?hd (xs := ([a0, a1] : List Int)) (inner := [.int .i64 a0, .int .i64 a1]) (ok := fun _ => True) (okp := fun _ => True) ?hr ?hp (fun _ hk => hk) trivial (Below.refl _ _) (Nat.le_refl _) (by simp) ?_; (case hd => rfl); (case hg => rfl); (case hr => first | (go_simp; done) | (go_simp; rfl)); (case hp => exact (Reps.one (show Kd.M (Kd.int .i64) _ _ _ a0 [.int .i64 a0] from rfl) (Reps.one (show Kd.M (Kd.int .i64) _ _ _ a1 [.int .i64 a1] from rfl) (Reps.none _ _)))); intro v142 w20 ho21 hb hg_ hnew_; clear hg_ hnew_; (first | rw [← Ny141.out] at ho21 | (simp only [Int.reduceToNat] at ho21; rw [← Ny141.out] at ho21)); have n0_ := Aside0.mk (Kd.R_lower ho21 (below_size (by repeat (first | (with_reducible first | exact HB.out | apply below_alloc | apply pw_below_drewN | apply below_drew1) | exact HB.out)))); have n1_ := Aside0.mk (below_step (by repeat (first | (with_reducible first | exact HB.out | apply below_alloc | apply pw_below_drewN | apply below_drew1) | exact HB.out)) hb); clear HB; have HO143 := n0_; have HB := n1_; clear n0_ n1_; clear hb ho21; obtain ⟨Ao22, co22, eo22⟩ := Kd.R_slice HO143.out; subst eo22) | ((with_reducible refine gate_callee (f := 11) rfl ?_); refine goesL_ (some 27) rfl rfl Try.func11 (by kernel_rfl) rfl #[.slice Ao22 y141.length co22] rfl (by (try simp only [List.map_toArray, List.map_cons, List.map_nil]); first | done | rfl | (simp only [List.length_drop, List.length_take]; rfl)) ?_; (with_reducible refine (jitneyref01_Sum.calls k _ _ y141 s ok _ ?side1 ?side2 A7.out).mono ?_); (case side1 => repeat (first | exact (Kd.R_reads' HO143.out).2.2 | (with_reducible refine Kd.C_alloc ?_ _) | (with_reducible refine Kd.C_drewN ?_ _) | (with_reducible refine Kd.C_drew ?_))); (case side2 => exact (Kd.R_reads' HO143.out).2.1); rintro e w' ⟨rfl, ⟨nd, rfl⟩⟩; refine ⟨_, rfl, ?_⟩) | ((with_reducible refine gate_callee (f := 12) rfl ?_); refine goesL_ (some 33) rfl rfl Try.func12 (by kernel_rfl) rfl #[.int .i64 a0, .int .i64 a1] rfl (by (try simp only [List.map_toArray, List.map_cons, List.map_nil]); first | done | rfl | (simp only [List.length_drop, List.length_take]; rfl)) ?_; (with_reducible refine (num_Mul.calls k a0 a1 m mk _ A8.out).mono ?_); rintro e w' ⟨rfl, ⟨nd, rfl⟩⟩; refine ⟨_, rfl, ?_⟩) | ((with_reducible refine gate_callee (f := 13) rfl ?_); refine goesL_ (some 39) rfl rfl Try.func13 (by kernel_rfl) rfl #[.int .i64 a0, .int .i64 a1] rfl (by (try simp only [List.map_toArray, List.map_cons, List.map_nil]); first | done | rfl | (simp only [List.length_drop, List.length_take]; rfl)) ?_; (with_reducible refine (jitneyref01_Mul.calls k a0 a1 m mk _ A9.out).mono ?_); rintro e w' ⟨rfl, ⟨nd, rfl⟩⟩; refine ⟨_, rfl, ?_⟩) | (go_at_call 14; (with_reducible refine (num_Held.calls a0 a1 a2 h _ A14.out).mono ?_); rintro e wy0 ⟨rfl, hb⟩; have BX0 := Aside0.mk (below_step (by repeat (first | (with_reducible first | exact HB.out | apply below_alloc | apply pw_below_drewN | apply below_drew1) | exact HB.out)) hb); clear hb) | (go_at_call 15; (with_reducible refine (jitneyref01_Held.calls a0 a1 a2 h _ A15.out).mono ?_); rintro e wy1 ⟨rfl, ⟨ny1, rfl⟩⟩) | (go_at_call 16; (with_reducible refine (num_Root.calls a0 q _ A17.out).mono ?_); rintro e wy2 ⟨rfl, hb⟩; have BX2 := Aside0.mk (below_step (by repeat (first | (with_reducible first | exact BX0.out | apply below_alloc | apply pw_below_drewN | apply below_drew1) | exact BX0.out)) hb); clear hb) | (go_at_call 17; (with_reducible refine (jitneyref01_Root.calls k a0 q _ A18.out).mono ?_); rintro e wy3 ⟨rfl, ⟨ny3, rfl⟩⟩))
  go_ret
  exact ⟨rfl, by repeat (first | (with_reducible first | exact BX2.out | apply below_alloc | apply pw_below_drewN | apply below_drew1) | exact BX2.out)⟩
end Go.Proofs.Ytmbjkoffnocodaa.P
