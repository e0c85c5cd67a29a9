/- The reader's instance, joined. What was read to its end is good. What Parse defers. Parse: the ends ahead of the reader. Parse: with the reader. Parse: a good instance. The document's line: what is known of rows and boxes. -/
import Derived.Test.YtcdmndhaeiccoaaGreatDoorMkit
import Derived.Test.YtcdmndhaeiccoaaGreatDoorM20
import Derived.Test.YtcdmndhaeiccoaaGreatDoorM16
import Derived.Defers
import Derived.Recover
import Derived.Test.YtcdmndhaeiccoaaGreatDoorM19
import Derived.Test.YtcdmndhaeiccoaaGreatDoorM01
import Derived.Test.YtcdmndhaeiccoaaGreatDoorM12
namespace Go.Proofs.YtcdmndhaeiccoaaGreatDoor.P
open Go Go.Proofs.YtcdmndhaeiccoaaGreatDoorR
open Go.RowKit Go.Proofs.YtcdmndhaeiccoaaGreatDoorW.PrintWords Go.Proofs.YtcdmndhaeiccoaaGreatDoorW.PrintLast
set_option linter.unusedVariables false
set_option linter.unusedSimpArgs false
set_option maxHeartbeats 8000000
set_option maxRecDepth 100000
theorem inst_bad (b : Nat) (e : Int) (w : World) (hb : b < w.heap.size)
    (CH : ∀ W, Below w.heap.size w W → Calls Tryz.prog 26 #[.pointer (some ⟨b, 0, none⟩)] W fun r w' => r = .panicked (faultC 1 e) ∧ Aside0 (KeepW W w' b)) :
    Calls Tryz.prog 11 #[.pointer (some ⟨b, 0, none⟩)] w fun r w' => r = .panicked (faultC 1 e) ∧ Aside0 (KeepW w w' b) := by
  have B0 := Aside0.mk (below_alloc (below_alloc (Below.refl w.heap.size w) zInst) zInst)
  have CH0 := Aside0.mk (CH _ B0.out)
  clear CH
  go_enter Tryz.func11, Tryz.ntmps11
  go_wp2_with (first | (go_at_call 26; refine CH0.out.mono ?_; rintro r w1 ⟨rfl, K1⟩))
  exact ⟨rfl, rfl, ⟨(KeepW.of_below B0.out b).trans K1.out⟩⟩
theorem sheet_instance.calls (b : Nat) (L : Value) (ws0 : List ByteArray) (sc0 : Int) (ls : List ByteArray) (w : World) (h : Rdr w b L 0 ws0 sc0) (hL : Left w b L ls) (hsz : ∀ t ∈ ls, t.size ≤ 3000) :
    Calls Tryz.prog 11 #[.pointer (some ⟨b, 0, none⟩)] w (AnsI w b L (instM ls)) := by
  have hlt := h.lt
  have CH : ∀ W, Below w.heap.size w W → Rdr W b L 0 ws0 sc0 ∧ Left W b L ls := fun W hW => ⟨h.below hW, hL.keep (.of_below hW b)⟩
  cases hM : headM ls with
  | error e =>
    have hI : instM ls = .error (1, e) := by unfold instM; rw [hM]
    rw [hI]
    refine (inst_bad b e w hlt (fun W hW => (sheet_head.calls b L ws0 sc0 ls W (CH W hW).1 (CH W hW).2 hsz).mono ?_)).mono (fun r w' k => ⟨k.2, .inr ⟨1, e, rfl, k.1⟩⟩)
    rintro r w' ⟨k, ⟨c, n, s, sp, h1, _⟩ | ⟨e', h1, h2⟩⟩
    · rw [hM] at h1; cases h1
    · rw [hM] at h1; cases h1; exact ⟨h2, ⟨k⟩⟩
  | ok p =>
    obtain ⟨c, n, s, sp⟩ := p
    have hI : instM ls = finM ls (allM c.toNat n.toNat sp) s (goM (stepM ls c.toNat n.toNat s sp) (allM c.toNat n.toNat sp - 1) 1 ⟨[], [], [], []⟩) := by unfold instM; rw [hM]
    obtain ⟨b1, b2, b3, b4, b5, b6⟩ := headM_bound hM
    rw [hI]
    refine inst_walk b L ls c.toNat n.toNat s sp w (by omega) (by omega) hlt hL hsz (fun W hW => (sheet_head.calls b L ws0 sc0 ls W (CH W hW).1 (CH W hW).2 hsz).mono ?_)
    rintro r w' ⟨k, ⟨c', n', s', sp', h1, h2, h3⟩ | ⟨e', h1, h2⟩⟩
    · rw [hM] at h1; cases h1
      exact ⟨by rw [h2, Int.toNat_of_nonneg (by omega), Int.toNat_of_nonneg (by omega)], ⟨k⟩, ⟨h3⟩⟩
    · rw [hM] at h1; cases h1
end Go.Proofs.YtcdmndhaeiccoaaGreatDoor.P
namespace Go.Proofs.YtcdmndhaeiccoaaGreatDoor.P
open Go Go.Proofs.YtcdmndhaeiccoaaGreatDoorR
open Go.RowKit Go.Proofs.YtcdmndhaeiccoaaGreatDoorW.PrintWords Go.Proofs.YtcdmndhaeiccoaaGreatDoorW.PrintLast
set_option linter.unusedVariables false
set_option linter.unusedSimpArgs false
theorem small_Sm (l : List UInt8) : Sm (smallL l 1000).1 := by
  unfold smallL Sm
  split
  · split
    · simp
    · rename_i h; simp only; omega
  · simp
theorem small_In (l : List UInt8) : InB (smallL l 16777216).1 := by
  unfold smallL InB
  split
  · split
    · simp
    · rename_i h; simp only; omega
  · simp
def GoodS (s : S63) : Prop := (Sm s.f0.f0 ∧ Sm s.f0.f1) ∧ ∃ p q, Spot s.f4.1 s.f4.2 p q
theorem bind_inv {α β : Type} {M : Except Int α} {f : α → Except Int β} {y : β} (h : bindE M f = .ok y) : ∃ a, M = .ok a ∧ f a = .ok y := by
  cases M with
  | error e => cases h
  | ok a => exact ⟨a, rfl, h⟩
theorem okE_inv {α : Type} {p : α × Int} {a : α} (h : okE p = .ok a) : a = p.1 := by
  unfold okE at h
  split at h
  · cases h; rfl
  · cases h
theorem stopE_good (sp : Bool) (ws : List ByteArray) (sc : Int) : GoodS (stopE sp ws sc).1 := by
  unfold stopE
  split
  · exact ⟨⟨small_Sm _, small_Sm _⟩, _, _, ⟨fis_int (small_In _), fis_int (small_In _), small_In _, small_In _⟩⟩
  · exact ⟨⟨small_Sm _, small_Sm _⟩, _, _, spot_zero⟩
  · exact ⟨⟨⟨by decide, by decide⟩, ⟨by decide, by decide⟩⟩, _, _, spot_zero⟩
theorem stopM_good {ls : List ByteArray} {l : Nat} {sp : Bool} {sc : Int} {s : S63} (h : stopM ls l sp sc = .ok s) : GoodS s := by
  obtain ⟨ws, _, h2⟩ := bind_inv h
  rw [okE_inv h2]
  exact stopE_good sp ws sc
theorem nums_len {sc : Int} : ∀ {ws : List ByteArray} {ns : List Int}, numsE sc ws = .ok ns → ns.length = ws.length
  | [], ns, h => by cases h; rfl
  | x :: t, ns, h => by
    obtain ⟨a, _, h2⟩ := bind_inv h
    obtain ⟨r, h3, h4⟩ := bind_inv h2
    cases h4
    rw [List.length_cons, List.length_cons, nums_len h3]
theorem rowM_len {ls : List ByteArray} {l n : Nat} {sc : Int} {ns : List Int} (hsz : ∀ t ∈ ls, t.size ≤ 3000) (h : rowM ls l n sc = .ok ns) : ns.length = n := by
  obtain ⟨ws, h1, h2⟩ := bind_inv h
  have := (nextM_ok h1 hsz).1
  rw [nums_len h2]
  omega
/-- Behind so many lines. -/
structure Upto (c n : Nat) (i : Nat) (x : InstP) : Prop where
  cars : x.cars.length = min (i - 1) c
  stops : x.stops.length = min (i - 1 - c) (2 * n + 2)
  rides : x.rides.length = min (i - 1 - c - (2 * n + 2)) n
  rows : x.rows.length = i - 1 - c - (2 * n + 2) - n
  good : ∀ s ∈ x.stops, GoodS s
  wide : ∀ r ∈ x.rows, r.length = 2 * n + 2
theorem step_upto {ls : List ByteArray} {c n : Nat} {sc : Int} {sp : Bool} {x y : InstP} {i : Nat} (hsz : ∀ t ∈ ls, t.size ≤ 3000) (hi : 1 ≤ i) (U : Upto c n i x) (h : stepM ls c n sc sp x i = .ok y) : Upto c n (i + 1) y := by
  obtain ⟨u1, u2, u3, u4, u5, u6⟩ := U
  unfold stepM at h
  split at h
  · obtain ⟨a, _, h2⟩ := bind_inv h
    cases h2
    refine ⟨?_, ?_, ?_, ?_, u5, u6⟩
    · simp only [List.length_append, List.length_cons, List.length_nil]; omega
    · simp only; omega
    · simp only; omega
    · simp only; omega
  · split at h
    · obtain ⟨a, ha, h2⟩ := bind_inv h
      cases h2
      refine ⟨?_, ?_, ?_, ?_, ?_, u6⟩
      · simp only; omega
      · simp only [List.length_append, List.length_cons, List.length_nil]; omega
      · simp only; omega
      · simp only; omega
      · intro s hs
        rcases List.mem_append.1 hs with hs | hs
        · exact u5 s hs
        · rw [List.mem_singleton.1 hs]; exact stopM_good ha
    · split at h
      · obtain ⟨a, _, h2⟩ := bind_inv h
        cases h2
        refine ⟨?_, ?_, ?_, ?_, u5, u6⟩
        · simp only; omega
        · simp only; omega
        · simp only [List.length_append, List.length_cons, List.length_nil]; omega
        · simp only; omega
      · obtain ⟨a, ha, h2⟩ := bind_inv h
        cases h2
        refine ⟨?_, ?_, ?_, ?_, u5, ?_⟩
        · simp only; omega
        · simp only; omega
        · simp only; omega
        · simp only [List.length_append, List.length_cons, List.length_nil]; omega
        · intro r hr
          rcases List.mem_append.1 hr with hr | hr
          · exact u6 r hr
          · rw [List.mem_singleton.1 hr]; exact rowM_len hsz ha
theorem go_upto {ls : List ByteArray} {c n : Nat} {sc : Int} {sp : Bool} (hsz : ∀ t ∈ ls, t.size ≤ 3000) : ∀ (d i : Nat) (x y : InstP), 1 ≤ i → Upto c n i x → goM (stepM ls c n sc sp) d i x = .ok y → Upto c n (i + d) y
  | 0, i, x, y, hi, U, h => by cases h; exact U
  | d + 1, i, x, y, hi, U, h => by
    unfold goM at h
    cases hs : stepM ls c n sc sp x i with
    | error e => rw [hs] at h; cases h
    | ok z =>
      rw [hs] at h
      have := go_upto hsz d (i + 1) z y (by omega) (step_upto hsz hi U hs) h
      rw [show i + (d + 1) = i + 1 + d by omega]
      exact this
theorem inst_good {ls : List ByteArray} {c n : Nat} {sc : Int} {sp : Bool} {x : InstP} (hsz : ∀ t ∈ ls, t.size ≤ 3000) (h1 : 1 ≤ c) (h64 : c ≤ 64) (hn : 2 * n + 2 ≤ 4096) (h : goM (stepM ls c n sc sp) (allM c n sp - 1) 1 ⟨[], [], [], []⟩ = .ok x) : GoodI x := by
  have U := go_upto hsz _ 1 _ x (Nat.le_refl _) ⟨by simp, by simp, by simp, by simp, by simp, by simp⟩ h
  obtain ⟨u1, u2, u3, u4, u5, u6⟩ := U
  unfold allM at u1 u2 u3 u4
  have e1 : x.cars.length = c := by omega
  have e2 : x.stops.length = 2 * n + 2 := by omega
  have e3 : x.rides.length = n := by omega
  refine ⟨by omega, by omega, by omega, by omega, fun s hs => (u5 s hs).1, fun s hs => (u5 s hs).2, ?_⟩
  cases sp with
  | true => exact .inl (List.length_eq_zero_iff.1 (by simp at u4; omega))
  | false => exact .inr ⟨by simp at u4; omega, fun r hr => by rw [u6 r hr, e2]⟩
theorem instM_good {ls : List ByteArray} {x : InstP} {s : Int} (hsz : ∀ t ∈ ls, t.size ≤ 3000) (h : instM ls = .ok (x, s)) : GoodI x := by
  unfold instM at h
  cases hM : headM ls with
  | error e => rw [hM] at h; cases h
  | ok p =>
    obtain ⟨c, n, s', sp⟩ := p
    rw [hM] at h
    obtain ⟨b1, b2, b3, b4, b5, b6⟩ := headM_bound hM
    simp only at h
    unfold finM at h
    split at h
    · cases h
    · rename_i y hy
      split at h
      · cases h
      · cases h
        exact inst_good hsz (by omega) (by omega) (by omega) hy
end Go.Proofs.YtcdmndhaeiccoaaGreatDoor.P
namespace Go.Proofs.YtcdmndhaeiccoaaGreatDoor.P
open Go Go.Proofs.YtcdmndhaeiccoaaGreatDoorR
open Go.RowKit Go.Proofs.YtcdmndhaeiccoaaGreatDoorW.PrintWords Go.Proofs.YtcdmndhaeiccoaaGreatDoorW.PrintLast
set_option linter.unusedVariables false
set_option linter.unusedSimpArgs false
set_option maxHeartbeats 8000000
set_option maxRecDepth 100000
theorem ta_nil (w : World) : (Instr.typeAssert .nilIface 20 42 true).run Tryz.prog w = .ok (.tuple #[.agg #[.int .i64 0, .int .i64 0], .bool false]) w := by kernel_rfl
theorem ta_fault (l e : Int) (w : World) : (Instr.typeAssert (.iface 42 (.agg #[.int .i64 l, .int .i64 e])) 20 42 true).run Tryz.prog w = .ok (.tuple #[.agg #[.int .i64 l, .int .i64 e], .bool true]) w := by kernel_rfl
theorem rep18 : Array.replicate 18 undef = #[undef, undef, undef, undef, undef, undef, undef, undef, undef, undef, undef, undef, undef, undef, undef, undef, undef, undef] := rfl
theorem parse_idle (a0 a1 a2 a3 : Nat) (w : World) :
    CallsD Tryz.prog 10 #[.pointer (some ⟨a0, 0, none⟩), .pointer (some ⟨a1, 0, none⟩), .pointer (some ⟨a2, 0, none⟩), .pointer (some ⟨a3, 0, none⟩)] .returning w fun e u' w' => e = .returned (.tuple #[]) ∧ u' = .returning ∧ Below w.heap.size w w' := by
  refine callsD_of_wpS Tryz.func10 rfl fun c₀ cs hu => ?_
  apply wpS_seq
  apply wpS_region
  simp [wpOpsS, go_sem, recoverD, hu, Tryz.ntmps10, Exit.thenS, rep18]
  refine wpS_of_wp ?_
  have t1 := ta_nil
  go_wp2
  cases c₀
  simp_all [bodyPostS, results, Tryz.results10, Exit.thenS]
  exact below_alloc (Below.refl _ _) _
/-- What the closure leaves of the four results. -/
structure Caught (a0 a1 a2 a3 : Nat) (l e : Int) (w w' : World) : Prop where
  r0 : w'.heap[a0]? = some zInst
  r1 : w'.heap[a1]? = some (.cells #[.int .i64 0] 3 (0, 0))
  r2 : w'.heap[a2]? = some (.cells #[.int .i64 l] 3 (0, 0))
  r3 : w'.heap[a3]? = some (.cells #[.int .i64 e] 29 (0, 0))
  below : ∀ base, base ≤ w.heap.size → base ≤ a0 → base ≤ a1 → base ≤ a2 → base ≤ a3 → Below base w w'
theorem far_set {X : World} {g k j : Nat} {u : Value} {o : Obj} (h : X.heap[k]? = some o) (hne : g ≠ k) : (X.setCell ⟨g, j, none⟩ u).heap[k]? = some o := (Below.heap_setCell X ⟨g, j, none⟩ u k (fun h => hne h.symm)).trans h
theorem caught_of {a0 a1 a2 a3 : Nat} {l e : Int} {u0 u1 u2 u3 x1 x2 x3 : Value} {w W : World} (n01 : a0 ≠ a1) (n02 : a0 ≠ a2) (n03 : a0 ≠ a3) (n12 : a1 ≠ a2) (n13 : a1 ≠ a3) (n23 : a2 ≠ a3) (hb : Below w.heap.size w W) (k0 : W.heap[a0]? = some (.cells #[u0, u1, u2, u3] 28 (0, 0))) (k1 : W.heap[a1]? = some (.cells #[x1] 3 (0, 0))) (k2 : W.heap[a2]? = some (.cells #[x2] 3 (0, 0))) (k3 : W.heap[a3]? = some (.cells #[x3] 29 (0, 0))) :
    Caught a0 a1 a2 a3 l e w (((((((W.setCell ⟨a0, 0, none⟩ (.slice none 0 0)).setCell ⟨a0, 1, none⟩ (.slice none 0 0)).setCell ⟨a0, 2, none⟩ (.slice none 0 0)).setCell ⟨a0, 3, none⟩ (.slice none 0 0)).setCell ⟨a1, 0, none⟩ (.int .i64 0)).setCell ⟨a2, 0, none⟩ (.int .i64 l)).setCell ⟨a3, 0, none⟩ (.int .i64 e)).drew := by
  have z0 := blk_set (blk_set (blk_set (blk_set k0 0 (.slice none 0 0)) 1 (.slice none 0 0)) 2 (.slice none 0 0)) 3 (.slice none 0 0)
  generalize hX : (((W.setCell ⟨a0, 0, none⟩ (.slice none 0 0)).setCell ⟨a0, 1, none⟩ (.slice none 0 0)).setCell ⟨a0, 2, none⟩ (.slice none 0 0)).setCell ⟨a0, 3, none⟩ (.slice none 0 0) = X at z0 ⊢
  have e1 : X.heap[a1]? = some (.cells #[x1] 3 (0, 0)) := by rw [← hX]; exact far_set (far_set (far_set (far_set k1 n01) n01) n01) n01
  have e2 : X.heap[a2]? = some (.cells #[x2] 3 (0, 0)) := by rw [← hX]; exact far_set (far_set (far_set (far_set k2 n02) n02) n02) n02
  have e3 : X.heap[a3]? = some (.cells #[x3] 29 (0, 0)) := by rw [← hX]; exact far_set (far_set (far_set (far_set k3 n03) n03) n03) n03
  have e0 : X.heap[a0]? = some zInst := z0
  clear z0
  exact ⟨far_set (far_set (far_set e0 n01.symm) n02.symm) n03.symm, far_set (far_set (blk_set e1 0 _) n12.symm) n13.symm, far_set (blk_set (far_set e2 n12) 0 _) n23.symm, blk_set (far_set (far_set e3 n13) n23) 0 _, fun base h b0 b1 b2 b3 => by
    rw [← hX]
    have hb' : Below base w W := hb.mono h
    exact below_drew1 (((((((hb'.setCell b0 _).setCell b0 _).setCell b0 _).setCell b0 _).setCell b1 _).setCell b2 _).setCell b3 _)⟩
theorem parse_caught (l e : Int) (a0 a1 a2 a3 : Nat) (w : World) (n01 : a0 ≠ a1) (n02 : a0 ≠ a2) (n03 : a0 ≠ a3) (n12 : a1 ≠ a2) (n13 : a1 ≠ a3) (n23 : a2 ≠ a3) (h0 : w.heap[a0]? = some zInst) (h1 : w.heap[a1]? = some (.cells #[.int .i64 0] 3 (0, 0))) (h2 : w.heap[a2]? = some (.cells #[.int .i64 0] 3 (0, 0))) (h3 : w.heap[a3]? = some (.cells #[.int .i64 0] 29 (0, 0))) :
    CallsD Tryz.prog 10 #[.pointer (some ⟨a0, 0, none⟩), .pointer (some ⟨a1, 0, none⟩), .pointer (some ⟨a2, 0, none⟩), .pointer (some ⟨a3, 0, none⟩)] (.panicking (faultC l e)) w fun r u' w' => r = .returned (.tuple #[]) ∧ u' = .panicking [{ v := .iface 42 (.agg #[.int .i64 l, .int .i64 e]), recovered := true }] ∧ Caught a0 a1 a2 a3 l e w w' := by
  refine callsD_of_wpS Tryz.func10 rfl fun c₀ cs hu => ?_
  apply wpS_seq
  apply wpS_region
  simp [wpOpsS, go_sem, recoverD, hu, Tryz.ntmps10, Exit.thenS, faultC, rep18]
  refine wpS_of_wp ?_
  have t1 := ta_fault l e
  go_wp2
  obtain ⟨W, hW⟩ : ∃ W, W = w.alloc (.cells #[.int .i64 l, .int .i64 e] 42 (0, 0)) := ⟨_, rfl⟩
  rw [← hW]
  have k0 : W.heap[a0]? = some zInst := by rw [hW]; exact (heap_old w _ h0).trans h0
  have k1 : W.heap[a1]? = some (.cells #[.int .i64 0] 3 (0, 0)) := by rw [hW]; exact (heap_old w _ h1).trans h1
  have k2 : W.heap[a2]? = some (.cells #[.int .i64 0] 3 (0, 0)) := by rw [hW]; exact (heap_old w _ h2).trans h2
  have k3 : W.heap[a3]? = some (.cells #[.int .i64 0] 29 (0, 0)) := by rw [hW]; exact (heap_old w _ h3).trans h3
  have k4 : W.heap[w.heap.size]? = some (.cells #[.int .i64 l, .int .i64 e] 42 (0, 0)) := by rw [hW]; exact heap_alloc_new w _
  have x0 : W.cell? ⟨w.heap.size, 0, none⟩ = some (.int .i64 l) := (blk_cell k4 0).trans rfl
  have x1 : W.cell? ⟨w.heap.size, 1, none⟩ = some (.int .i64 e) := (blk_cell k4 1).trans rfl
  obtain ⟨⟨y0, y1, y2, y3⟩, f0, f1, f2, f3⟩ := four_of k0
  have z1 : W.cell? ⟨a1, 0, none⟩ = some (.int .i64 0) := (blk_cell k1 0).trans rfl
  have z2 : W.cell? ⟨a2, 0, none⟩ = some (.int .i64 0) := (blk_cell k2 0).trans rfl
  have z3 : W.cell? ⟨a3, 0, none⟩ = some (.int .i64 0) := (blk_cell k3 0).trans rfl
  have g1 := blk_frozen k1 0
  have g2 := blk_frozen k2 0
  have g3 := blk_frozen k3 0
  have l0 := (Array.getElem?_eq_some_iff.1 h0).1
  have m0 : ¬ a0 = w.heap.size := by omega
  have m0' : ¬ w.heap.size = a0 := by omega
  clear l0
  have l1 := (Array.getElem?_eq_some_iff.1 h1).1
  have m1 : ¬ a1 = w.heap.size := by omega
  have m1' : ¬ w.heap.size = a1 := by omega
  clear l1
  have l2 := (Array.getElem?_eq_some_iff.1 h2).1
  have m2 : ¬ a2 = w.heap.size := by omega
  have m2' : ¬ w.heap.size = a2 := by omega
  clear l2
  have l3 := (Array.getElem?_eq_some_iff.1 h3).1
  have m3 : ¬ a3 = w.heap.size := by omega
  have m3' : ¬ w.heap.size = a3 := by omega
  clear l3
  have n01' := n01.symm
  have n02' := n02.symm
  have n03' := n03.symm
  have n12' := n12.symm
  have n13' := n13.symm
  have n23' := n23.symm
  have HC := Aside0.mk (caught_of (l := l) (e := e) n01 n02 n03 n12 n13 n23 (by rw [hW]; exact below_alloc (Below.refl w.heap.size w) _) k0 k1 k2 k3)
  clear h0 h1 h2 h3 hW t1
  have hu28 := Tryz.underlying28
  go_region_held2 (fun w' => w'.cell? ⟨w.heap.size, 0, none⟩ = some (.int .i64 l) ∧ w'.cell? ⟨w.heap.size, 1, none⟩ = some (.int .i64 e)) (go_keep) (fail)
  clear x0 x1 y0 y1 y2 y3 f0 f1 f2 f3 z1 z2 z3 g1 g2 g3 k0 k1 k2 k3 k4 hu28 n01 n02 n03 n12 n13 n23 n01' n02' n03' n12' n13' n23' m0 m0' m1 m1' m2 m2' m3 m3'
  go_wp2
  cases c₀
  simp_all [bodyPostS, results, Tryz.results10, Exit.thenS]
  exact HC.out
end Go.Proofs.YtcdmndhaeiccoaaGreatDoor.P
namespace Go.Proofs.YtcdmndhaeiccoaaGreatDoor.P
open Go Go.Proofs.YtcdmndhaeiccoaaGreatDoorR
open Go.RowKit Go.Proofs.YtcdmndhaeiccoaaGreatDoorW.PrintWords Go.Proofs.YtcdmndhaeiccoaaGreatDoorW.PrintLast
set_option linter.unusedVariables false
set_option linter.unusedSimpArgs false
set_option maxHeartbeats 8000000
set_option maxRecDepth 100000
abbrev nilV : Value := .slice none 0 0
def zI : InstP := ⟨[], [], [], []⟩
/-- What Parse says: the instance, the scale, the line, the error. -/
def parseM (ls : List ByteArray) (e : Int) : InstP × Int × Int × Int :=
  if e ≠ 0 then (zI, 0, 0, e)
  else if ls.length = 0 then (zI, 0, 0, 20)
  else match instM ls with
    | .error (l, e) => (zI, 0, l, e)
    | .ok (x, s) => if chkI x = 0 then (x, s, 0, 0) else (zI, 0, 0, chkI x)
/-- The four results' boxes, as they are laid. -/
structure Res (w W : World) (l e : Int) : Prop where
  r0 : W.heap[w.heap.size]? = some zInst
  r1 : W.heap[w.heap.size + 1]? = some (.cells #[.int .i64 0] 3 (0, 0))
  r2 : W.heap[w.heap.size + 1 + 1]? = some (.cells #[.int .i64 l] 3 (0, 0))
  r3 : W.heap[w.heap.size + 1 + 1 + 1]? = some (.cells #[.int .i64 e] 29 (0, 0))
  below : Below w.heap.size w W
abbrev W4 (w : World) : World := (((w.alloc zInst).alloc (.cells #[.int .i64 0] 3 (0, 0))).alloc (.cells #[.int .i64 0] 3 (0, 0))).alloc (.cells #[.int .i64 0] 29 (0, 0))
theorem res_new (w : World) : Res w (W4 w) 0 0 := by
  have b1 := below_alloc (Below.refl w.heap.size w) zInst
  have k0 : (w.alloc zInst).heap[w.heap.size]? = some zInst := heap_alloc_new w zInst
  have s1 : (w.alloc zInst).heap.size = w.heap.size + 1 := by simp
  have k1 := heap_alloc_new (w.alloc zInst) (.cells #[.int .i64 0] 3 (0, 0))
  rw [s1] at k1
  have s2 : ((w.alloc zInst).alloc (.cells #[.int .i64 0] 3 (0, 0))).heap.size = w.heap.size + 1 + 1 := by simp
  have k2 := heap_alloc_new ((w.alloc zInst).alloc (.cells #[.int .i64 0] 3 (0, 0))) (.cells #[.int .i64 0] 3 (0, 0))
  rw [s2] at k2
  have s3 : (((w.alloc zInst).alloc (.cells #[.int .i64 0] 3 (0, 0))).alloc (.cells #[.int .i64 0] 3 (0, 0))).heap.size = w.heap.size + 1 + 1 + 1 := by simp
  have k3 := heap_alloc_new (((w.alloc zInst).alloc (.cells #[.int .i64 0] 3 (0, 0))).alloc (.cells #[.int .i64 0] 3 (0, 0))) (.cells #[.int .i64 0] 29 (0, 0))
  rw [s3] at k3
  have k0' := (heap_old _ (.cells #[.int .i64 0] 3 (0, 0)) k0).trans k0
  have k0'' := (heap_old _ (.cells #[.int .i64 0] 3 (0, 0)) k0').trans k0'
  have k1' := (heap_old _ (.cells #[.int .i64 0] 3 (0, 0)) k1).trans k1
  exact ⟨(heap_old _ _ k0'').trans k0'', (heap_old _ _ k1').trans k1', (heap_old _ _ k2).trans k2, k3, below_alloc (below_alloc (below_alloc b1 _) _) _⟩
theorem Res.keep {w W W1 : World} {l e : Int} (h : Res w W l e) (hb : Below W.heap.size W W1) : Res w W1 l e :=
  ⟨(hb.block _ (Array.getElem?_eq_some_iff.1 h.r0).1).trans h.r0, (hb.block _ (Array.getElem?_eq_some_iff.1 h.r1).1).trans h.r1, (hb.block _ (Array.getElem?_eq_some_iff.1 h.r2).1).trans h.r2, (hb.block _ (Array.getElem?_eq_some_iff.1 h.r3).1).trans h.r3, h.below.trans (hb.mono h.below.size)⟩
theorem results5_of {tmps : Array Value} {W : World} {g0 g1 g2 g3 : Nat} {v0 v1 v2 v3 : Value} {s l e : Int} (h2 : tmps.getD 2 undef = .pointer (some ⟨g0, 0, none⟩)) (h3 : tmps.getD 3 undef = .pointer (some ⟨g1, 0, none⟩)) (h4 : tmps.getD 4 undef = .pointer (some ⟨g2, 0, none⟩)) (h5 : tmps.getD 5 undef = .pointer (some ⟨g3, 0, none⟩))
    (r0 : W.heap[g0]? = some (.cells #[v0, v1, v2, v3] 28 (0, 0))) (r1 : W.heap[g1]? = some (.cells #[.int .i64 s] 3 (0, 0))) (r2 : W.heap[g2]? = some (.cells #[.int .i64 l] 3 (0, 0))) (r3 : W.heap[g3]? = some (.cells #[.int .i64 e] 29 (0, 0))) :
    (results Tryz.f5 tmps).run Tryz.prog W = .ok (.tuple #[.agg #[v0, v1, v2, v3], .int .i64 s, .int .i64 l, .int .i64 e]) W := by
  have a2 : tmps[2]?.getD undef = .pointer (some ⟨g0, 0, none⟩) := by simpa using h2
  have a3 : tmps[3]?.getD undef = .pointer (some ⟨g1, 0, none⟩) := by simpa using h3
  have a4 : tmps[4]?.getD undef = .pointer (some ⟨g2, 0, none⟩) := by simpa using h4
  have a5 : tmps[5]?.getD undef = .pointer (some ⟨g3, 0, none⟩) := by simpa using h5
  have c1 : W.cell? ⟨g1, 0, none⟩ = some (.int .i64 s) := (blk_cell r1 0).trans rfl
  have c2 : W.cell? ⟨g2, 0, none⟩ = some (.int .i64 l) := (blk_cell r2 0).trans rfl
  have c3 : W.cell? ⟨g3, 0, none⟩ = some (.int .i64 e) := (blk_cell r3 0).trans rfl
  obtain ⟨⟨y0, y1, y2, y3⟩, _⟩ := four_of r0
  have hu28 := Tryz.underlying28
  have hu3 := Tryz.underlying3
  have hu29 := Tryz.underlying29
  simp [results, Tryz.results5, a2, a3, a4, a5, asAddr, loadVar, go_sem, y0, y1, y2, y3, c1, c2, c3, hu3, hu29, hu28]
theorem parse_lines_bad (t : ByteArray) (e : Int) (he : e ≠ 0) (w : World) (CL : ∀ W, Calls Tryz.prog 9 #[.string t] W fun r w' => ∃ v, r = .returned (.tuple #[v, .int .i64 e]) ∧ Below W.heap.size W w') :
    Calls Tryz.prog 5 #[.string t] w fun r w' => r = .returned (.tuple #[.agg #[nilV, nilV, nilV, nilV], .int .i64 0, .int .i64 0, .int .i64 e]) ∧ Below w.heap.size w w' := by
  have C1 := Aside0.mk CL
  have q1 : (e == 0) = false := by simp [he]
  have q2 : (e != 0) = true := by simp [he]
  clear CL
  go_enter_defers Tryz.func5, Tryz.ntmps5
  go_wp2_with (first | (go_at_call 9; refine (C1.out _).mono ?_; rintro r w1 ⟨v, rfl, hb⟩; have R1 := Aside0.mk ((res_new w).keep hb); clear hb; have z3 : w1.cell? ⟨w.heap.size + 1 + 1 + 1, 0, none⟩ = some (.int .i64 0) := (blk_cell R1.out.r3 0).trans rfl; have g3 : w1.frozen? ⟨w.heap.size + 1 + 1 + 1, 0, none⟩ = false := blk_frozen R1.out.r3 0))
  obtain ⟨W, hW⟩ : ∃ W, W = w1.setCell ⟨w.heap.size + 1 + 1 + 1, 0, none⟩ (.int .i64 e) := ⟨_, rfl⟩
  rw [← hW]
  have R2 := Aside0.mk (show Res w W 0 e by rw [hW]; exact ⟨far_set R1.out.r0 (by omega), far_set R1.out.r1 (by omega), far_set R1.out.r2 (by omega), blk_set R1.out.r3 0 _, R1.out.below.setCell (show w.heap.size ≤ w.heap.size + 1 + 1 + 1 by omega) _⟩)
  clear hW z3 g3
  obtain ⟨⟨y0, y1, y2, y3⟩, f0, f1, f2, f3⟩ := four_of R2.out.r0
  have z1 : W.cell? ⟨w.heap.size + 1, 0, none⟩ = some (.int .i64 0) := (blk_cell R2.out.r1 0).trans rfl
  have z2 : W.cell? ⟨w.heap.size + 1 + 1, 0, none⟩ = some (.int .i64 0) := (blk_cell R2.out.r2 0).trans rfl
  have z3 : W.cell? ⟨w.heap.size + 1 + 1 + 1, 0, none⟩ = some (.int .i64 e) := (blk_cell R2.out.r3 0).trans rfl
  have g1 := blk_frozen R2.out.r1 0
  have g2 := blk_frozen R2.out.r2 0
  have g3 := blk_frozen R2.out.r3 0
  have hu28 := Tryz.underlying28
  go_region
  have HC := Aside0.mk (caught_of (l := 0) (e := e) (w := w) (a0 := w.heap.size) (a1 := w.heap.size + 1) (a2 := w.heap.size + 1 + 1) (a3 := w.heap.size + 1 + 1 + 1) (by omega) (by omega) (by omega) (by omega) (by omega) (by omega) R2.out.below R2.out.r0 R2.out.r1 R2.out.r2 R2.out.r3)
  clear y0 y1 y2 y3 f0 f1 f2 f3 z1 z2 z3 g1 g2 g3 hu28
  go_wp2
  exact ⟨_, results5_of rfl rfl rfl rfl HC.out.r0 HC.out.r1 HC.out.r2 HC.out.r3, rfl, HC.out.below _ (Nat.le_refl _) (Nat.le_refl _) (by omega) (by omega) (by omega)⟩
end Go.Proofs.YtcdmndhaeiccoaaGreatDoor.P
namespace Go.Proofs.YtcdmndhaeiccoaaGreatDoor.P
open Go Go.Proofs.YtcdmndhaeiccoaaGreatDoorR
open Go.RowKit Go.Proofs.YtcdmndhaeiccoaaGreatDoorW.PrintWords Go.Proofs.YtcdmndhaeiccoaaGreatDoorW.PrintLast
set_option linter.unusedVariables false
set_option linter.unusedSimpArgs false
set_option maxHeartbeats 8000000
set_option maxRecDepth 100000
def AnsP (w : World) (M : InstP × Int × Int × Int) (r : Ending) (w' : World) : Prop :=
  (∃ v0 v1 v2 v3, r = .returned (.tuple #[.agg #[v0, v1, v2, v3], .int .i64 M.2.1, .int .i64 M.2.2.1, .int .i64 M.2.2.2]) ∧ InstAt w' w.heap.size v0 v1 v2 v3 M.1) ∧ Below w.heap.size w w'
theorem left_of_R {w : World} {b base : Nat} {v : Value} {ls : List ByteArray} (h : Kd.R Kd.string 9 w base (fun _ => True) v ls) (hb : w.heap.size ≤ b) : Left w b v ls := by
  obtain ⟨A1, c1, rfl, hc1, hC1⟩ := Kd.R_reads h
  refine ⟨A1, c1, rfl, hc1, hC1, fun ad ha h0 => ?_⟩
  subst ha
  obtain ⟨inner, ho⟩ := Kd.R_own h
  obtain ⟨cells, hcl⟩ := own_typed ho ad.block (by
    obtain ⟨g, cap, hv, _, _⟩ := ho.form (by omega)
    rw [hv]
    injection hv with hv1 _ _
    injection hv1 with hv2
    rw [hv2]
    rfl)
  exact ⟨by have := (Array.getElem?_eq_some_iff.1 hcl).1; omega, _, _, hcl⟩
abbrev rdr0 (v : Value) : Obj := .cells #[v, .int .i64 0, .slice none 0 0, .int .i64 0] 46 (0, 0)
theorem rdr_new {w : World} {base g t : Nat} {cs : Array Value} {fr : Nat × Nat} {u v : Value} {ls : List ByteArray} (h : Kd.R Kd.string 9 w base (fun _ => True) v ls) (hg : w.heap[g]? = some (.cells cs t fr)) (ht : t ≠ 9) : Rdr ((w.setCell ⟨g, 0, none⟩ u).alloc (rdr0 v)) w.heap.size v 0 [] 0 ∧ Left ((w.setCell ⟨g, 0, none⟩ u).alloc (rdr0 v)) w.heap.size v ls := by
  have hL : Left w w.heap.size v ls := left_of_R h (Nat.le_refl _)
  have hL1 : Left ((w.setCell ⟨g, 0, none⟩ u).alloc (rdr0 v)) w.heap.size v ls := (left_set hL hg ht 0 u).keep (.of_below (below_alloc (Below.refl _ _) _) _)
  refine ⟨⟨⟨.slice none 0 0, ?_, none, 0, rfl, Nat.le_refl _, Kd.C_nil _ _, fun ad ha => by cases ha⟩⟩, hL1⟩
  have := heap_alloc_new (w.setCell ⟨g, 0, none⟩ u) (rdr0 v)
  rwa [show (w.setCell ⟨g, 0, none⟩ u).heap.size = w.heap.size by simp [World.setCell]] at this
theorem hmf : ∀ (fn : Fn) (first cap : Array Value) (w : World), (Instr.makeFunc fn first cap).run Tryz.prog w = .ok (.func fn first cap) w := fun _ _ _ _ => rfl
abbrev W11 (w' : World) (g : Nat) (v : Value) : World := (w'.setCell ⟨g, 0, none⟩ (.int .i64 0)).alloc (rdr0 v)
theorem below_undrew {B : Nat} {w W : World} (h : Below B w W.drew) : Below B w W := ⟨h.os, h.tape, h.output, h.size, h.block⟩
theorem caught_after {a0 a1 a2 a3 : Nat} {l e : Int} {w X w5 : World} (h : Caught a0 a1 a2 a3 l e w X.drew) (hb : Below X.heap.size X w5) (hs : w.heap.size ≤ X.heap.size) : Caught a0 a1 a2 a3 l e w w5 :=
  ⟨(hb.block _ (Array.getElem?_eq_some_iff.1 h.r0).1).trans h.r0, (hb.block _ (Array.getElem?_eq_some_iff.1 h.r1).1).trans h.r1, (hb.block _ (Array.getElem?_eq_some_iff.1 h.r2).1).trans h.r2, (hb.block _ (Array.getElem?_eq_some_iff.1 h.r3).1).trans h.r3, fun base h1 h2 h3 h4 h5 => (below_undrew (h.below base h1 h2 h3 h4 h5)).trans (hb.mono (Nat.le_trans h1 hs))⟩
theorem below_keep {w w1 w2 : World} {B b : Nat} (h : Below B w w1) (hk : KeepW w1 w2 b) (hb : B ≤ b) (hs : B ≤ w.heap.size) : Below B w w2 :=
  ⟨hk.os.trans h.os, hk.tape.trans h.tape, hk.output.trans h.output, Nat.le_trans h.size hk.size, fun i hi => (hk.block i (Nat.lt_of_lt_of_le (by have := h.size; omega) h.size) (by omega)).trans (h.block i hi)⟩
theorem parse_err (t : ByteArray) (n : Nat) (l e : Int) (w : World) (hn : n ≠ 0)
    (CL : ∀ W, Calls Tryz.prog 9 #[.string t] W fun r w' => ∃ A q, r = .returned (.tuple #[.slice A n q, .int .i64 0]) ∧ Below W.heap.size W w' ∧ ∀ g cs fr, w'.heap[g]? = some (.cells cs 29 fr) → Calls Tryz.prog 11 #[.pointer (some ⟨w'.heap.size, 0, none⟩)] (W11 w' g (.slice A n q)) fun r w2 => r = .panicked (faultC l e) ∧ KeepW (W11 w' g (.slice A n q)) w2 w'.heap.size) :
    Calls Tryz.prog 5 #[.string t] w (AnsP w (zI, 0, l, e)) := by
  have C1 := Aside0.mk CL
  have d1 : decide ((n : Int) = 0) = false := by simp [hn]
  have d2 : (n == 0) = false := by simp [hn]
  have d3 : ((n : Int) == 0) = false := by simp [hn]
  have M1 := hmf
  clear CL
  go_enter_defers Tryz.func5, Tryz.ntmps5
  go_wp2_with (first
    | (go_at_call 9; refine (C1.out _).mono ?_; rintro r w1 ⟨A, q, rfl, hb, hI⟩; have R1 := Aside0.mk ((res_new w).keep hb); have H1 := Aside0.mk hI; clear hb hI; have z3 : w1.cell? ⟨w.heap.size + 1 + 1 + 1, 0, none⟩ = some (.int .i64 0) := (blk_cell R1.out.r3 0).trans rfl; have g3 : w1.frozen? ⟨w.heap.size + 1 + 1 + 1, 0, none⟩ = false := blk_frozen R1.out.r3 0)
    | (go_at_call 11; refine (H1.out _ _ _ R1.out.r3).mono ?_; rintro r w2 ⟨rfl, hk⟩; have K2 := Aside0.mk hk; clear hk))
  have n1 : w.heap.size + 1 + 1 + 1 < w1.heap.size := (Array.getElem?_eq_some_iff.1 R1.out.r3).1
  have h0 := heap_old (w1.setCell ⟨w.heap.size + 1 + 1 + 1, 0, none⟩ (.int .i64 0)) (rdr0 (.slice A n q)) (far_set (u := .int .i64 0) (j := 0) (g := w.heap.size + 1 + 1 + 1) R1.out.r0 (by omega))
  have k0 := keep_at K2.out (h0.trans (far_set R1.out.r0 (by omega))) (by omega)
  have h1 := heap_old (w1.setCell ⟨w.heap.size + 1 + 1 + 1, 0, none⟩ (.int .i64 0)) (rdr0 (.slice A n q)) (far_set (u := .int .i64 0) (j := 0) (g := w.heap.size + 1 + 1 + 1) R1.out.r1 (by omega))
  have k1 := keep_at K2.out (h1.trans (far_set R1.out.r1 (by omega))) (by omega)
  have h2 := heap_old (w1.setCell ⟨w.heap.size + 1 + 1 + 1, 0, none⟩ (.int .i64 0)) (rdr0 (.slice A n q)) (far_set (u := .int .i64 0) (j := 0) (g := w.heap.size + 1 + 1 + 1) R1.out.r2 (by omega))
  have k2 := keep_at K2.out (h2.trans (far_set R1.out.r2 (by omega))) (by omega)
  have h3 := heap_old (w1.setCell ⟨w.heap.size + 1 + 1 + 1, 0, none⟩ (.int .i64 0)) (rdr0 (.slice A n q)) (blk_set R1.out.r3 0 (.int .i64 0))
  have k3 := keep_at K2.out (h3.trans (blk_set R1.out.r3 0 (.int .i64 0))) (by omega)
  have hB : Below w.heap.size w w2 := below_keep (below_alloc (R1.out.below.setCell (p := ⟨w.heap.size + 1 + 1 + 1, 0, none⟩) (show w.heap.size ≤ w.heap.size + 1 + 1 + 1 by omega) _) _) K2.out (by omega) (Nat.le_refl _)
  clear h0 h1 h2 h3
  refine leaves_cons (f := 10) (args := #[.pointer (some ⟨w.heap.size, 0, none⟩), .pointer (some ⟨w.heap.size + 1, 0, none⟩), .pointer (some ⟨w.heap.size + 1 + 1, 0, none⟩), .pointer (some ⟨w.heap.size + 1 + 1 + 1, 0, none⟩)]) (by simp) (by simp [go_sem]) ?_
  refine (parse_caught l e _ _ _ _ w2 (by omega) (by omega) (by omega) (by omega) (by omega) (by omega) k0 k1 k2 k3).mono ?_
  rintro r u w3 ⟨rfl, rfl, HC⟩
  exact ⟨_, results5_of rfl rfl rfl rfl HC.r0 HC.r1 HC.r2 HC.r3, ⟨_, _, _, _, rfl, instAt_nil _ _⟩, hB.trans (HC.below _ hB.size (Nat.le_refl _) (by omega) (by omega) (by omega))⟩
/-- The four results' boxes, the instance among them. -/
structure ResV (w W : World) (v0 v1 v2 v3 : Value) : Prop where
  r0 : W.heap[w.heap.size]? = some (.cells #[v0, v1, v2, v3] 28 (0, 0))
  r1 : W.heap[w.heap.size + 1]? = some (.cells #[.int .i64 0] 3 (0, 0))
  r2 : W.heap[w.heap.size + 1 + 1]? = some (.cells #[.int .i64 0] 3 (0, 0))
  r3 : W.heap[w.heap.size + 1 + 1 + 1]? = some (.cells #[.int .i64 0] 29 (0, 0))
  below : Below w.heap.size w W
theorem resV_11 {w w1 w2 : World} {v : Value} (R1 : Res w w1 0 0) (K2 : KeepW (W11 w1 (w.heap.size + 1 + 1 + 1) v) w2 w1.heap.size) : ResV w w2 nilV nilV nilV nilV := by
  have n1 : w.heap.size + 1 + 1 + 1 < w1.heap.size := (Array.getElem?_eq_some_iff.1 R1.r3).1
  have h0 := heap_old (w1.setCell ⟨w.heap.size + 1 + 1 + 1, 0, none⟩ (.int .i64 0)) (rdr0 v) (far_set (u := .int .i64 0) (j := 0) (g := w.heap.size + 1 + 1 + 1) R1.r0 (by omega))
  have k0 := keep_at K2 (h0.trans (far_set R1.r0 (by omega))) (by omega)
  have h1 := heap_old (w1.setCell ⟨w.heap.size + 1 + 1 + 1, 0, none⟩ (.int .i64 0)) (rdr0 v) (far_set (u := .int .i64 0) (j := 0) (g := w.heap.size + 1 + 1 + 1) R1.r1 (by omega))
  have k1 := keep_at K2 (h1.trans (far_set R1.r1 (by omega))) (by omega)
  have h2 := heap_old (w1.setCell ⟨w.heap.size + 1 + 1 + 1, 0, none⟩ (.int .i64 0)) (rdr0 v) (far_set (u := .int .i64 0) (j := 0) (g := w.heap.size + 1 + 1 + 1) R1.r2 (by omega))
  have k2 := keep_at K2 (h2.trans (far_set R1.r2 (by omega))) (by omega)
  have h3 := heap_old (w1.setCell ⟨w.heap.size + 1 + 1 + 1, 0, none⟩ (.int .i64 0)) (rdr0 v) (blk_set R1.r3 0 (.int .i64 0))
  have k3 := keep_at K2 (h3.trans (blk_set R1.r3 0 (.int .i64 0))) (by omega)
  exact ⟨k0, k1, k2, k3, below_keep (below_alloc (R1.below.setCell (p := ⟨w.heap.size + 1 + 1 + 1, 0, none⟩) (show w.heap.size ≤ w.heap.size + 1 + 1 + 1 by omega) _) _) K2 (by omega) (Nat.le_refl _)⟩
abbrev put4 (W : World) (g : Nat) (v0 v1 v2 v3 : Value) : World := (((W.setCell ⟨g, 0, none⟩ v0).setCell ⟨g, 1, none⟩ v1).setCell ⟨g, 2, none⟩ v2).setCell ⟨g, 3, none⟩ v3
theorem ResV.put {w W : World} {u0 u1 u2 u3 : Value} (h : ResV w W u0 u1 u2 u3) (v0 v1 v2 v3 : Value) : ResV w (put4 W w.heap.size v0 v1 v2 v3) v0 v1 v2 v3 :=
  ⟨blk_set (blk_set (blk_set (blk_set h.r0 0 v0) 1 v1) 2 v2) 3 v3, far_set (far_set (far_set (far_set h.r1 (by omega)) (by omega)) (by omega)) (by omega), far_set (far_set (far_set (far_set h.r2 (by omega)) (by omega)) (by omega)) (by omega), far_set (far_set (far_set (far_set h.r3 (by omega)) (by omega)) (by omega)) (by omega), (((h.below.setCell (Nat.le_refl _) _).setCell (Nat.le_refl _) _).setCell (Nat.le_refl _) _).setCell (Nat.le_refl _) _⟩
theorem ResV.keep {w W W1 : World} {v0 v1 v2 v3 : Value} (h : ResV w W v0 v1 v2 v3) (hb : Below W.heap.size W W1) : ResV w W1 v0 v1 v2 v3 :=
  ⟨(hb.block _ (Array.getElem?_eq_some_iff.1 h.r0).1).trans h.r0, (hb.block _ (Array.getElem?_eq_some_iff.1 h.r1).1).trans h.r1, (hb.block _ (Array.getElem?_eq_some_iff.1 h.r2).1).trans h.r2, (hb.block _ (Array.getElem?_eq_some_iff.1 h.r3).1).trans h.r3, h.below.trans (hb.mono h.below.size)⟩
theorem instAt_put4 {W : World} {base g : Nat} {v0 v1 v2 v3 u0 u1 u2 u3 : Value} {x : InstP} (h : InstAt W base v0 v1 v2 v3 x) (hg : W.heap[g]? = some (.cells #[u0, u1, u2, u3] 28 (0, 0))) (w0 w1 w2 w3 : Value) : InstAt (put4 W g w0 w1 w2 w3) base v0 v1 v2 v3 x :=
  instAt_set (instAt_set (instAt_set (instAt_set h hg 0 w0) (blk_set hg 0 w0) 1 w1) (blk_set (blk_set hg 0 w0) 1 w1) 2 w2) (blk_set (blk_set (blk_set hg 0 w0) 1 w1) 2 w2) 3 w3
theorem instAt_below {w w1 : World} {base : Nat} {v0 v1 v2 v3 : Value} {x : InstP} (h : InstAt w base v0 v1 v2 v3 x) (hb : Below w.heap.size w w1) : InstAt w1 base v0 v1 v2 v3 x :=
  ⟨Kd.R_below h.cars hb, Kd.R_below h.stops hb, Kd.R_below h.rides hb, Kd.R_below h.rows hb⟩
theorem instAt_lower {w : World} {base base' : Nat} {v0 v1 v2 v3 : Value} {x : InstP} (h : InstAt w base v0 v1 v2 v3 x) (hb : base' ≤ base) : InstAt w base' v0 v1 v2 v3 x :=
  ⟨Kd.R_lower h.cars hb, Kd.R_lower h.stops hb, Kd.R_lower h.rides hb, Kd.R_lower h.rows hb⟩
/-- What the reader of all gives back, as the walk asks it. -/
def Ok11 (t : ByteArray) (n : Nat) (x : InstP) (s : Int) : Prop :=
  ∀ W, Calls Tryz.prog 9 #[.string t] W fun r w' => ∃ A q, r = .returned (.tuple #[.slice A n q, .int .i64 0]) ∧ Below W.heap.size W w' ∧ ∀ g cs fr, w'.heap[g]? = some (.cells cs 29 fr) → Calls Tryz.prog 11 #[.pointer (some ⟨w'.heap.size, 0, none⟩)] (W11 w' g (.slice A n q)) fun r w2 => ∃ v0 v1 v2 v3, r = .returned (.agg #[v0, v1, v2, v3]) ∧ Aside0 (KeepW (W11 w' g (.slice A n q)) w2 w'.heap.size) ∧ Aside0 (InstAt w2 w'.heap.size v0 v1 v2 v3 x) ∧ Aside0 (∃ c0 c1 c2, w2.heap[w'.heap.size]? = some (.cells #[c0, c1, c2, .int .i64 s] 46 (0, 0)))
theorem parse_chk (t : ByteArray) (n : Nat) (x : InstP) (s e : Int) (w : World) (hn : n ≠ 0) (he : e ≠ 0) (CL : Ok11 t n x s)
    (C12 : ∀ W base v0 v1 v2 v3, InstAt W base v0 v1 v2 v3 x → Calls Tryz.prog 12 #[.agg #[v0, v1, v2, v3]] W fun r w' => r = .returned (.int .i64 e) ∧ Below W.heap.size W w') :
    Calls Tryz.prog 5 #[.string t] w (AnsP w (zI, 0, 0, e)) := by
  have C1 := Aside0.mk CL
  have C2 := Aside0.mk C12
  have d1 : decide ((n : Int) = 0) = false := by simp [hn]
  have d2 : (n == 0) = false := by simp [hn]
  have d3 : ((n : Int) == 0) = false := by simp [hn]
  have q1 : (e == 0) = false := by simp [he]
  have q2 : (e != 0) = true := by simp [he]
  have M1 := hmf
  have hu28 := Tryz.underlying28
  clear CL C12
  go_enter_defers Tryz.func5, Tryz.ntmps5
  go_wp2_with (first
    | (go_at_call 9; refine (C1.out _).mono ?_; rintro r w1 ⟨A, q, rfl, hb, hI⟩; have R1 := Aside0.mk ((res_new w).keep hb); have H1 := Aside0.mk hI; clear hb hI; have z3 : w1.cell? ⟨w.heap.size + 1 + 1 + 1, 0, none⟩ = some (.int .i64 0) := (blk_cell R1.out.r3 0).trans rfl; have g3 : w1.frozen? ⟨w.heap.size + 1 + 1 + 1, 0, none⟩ = false := blk_frozen R1.out.r3 0)
    | (go_at_call 11; refine (H1.out _ _ _ R1.out.r3).mono ?_; rintro r w2 ⟨v0, v1, v2, v3, rfl, K2, I2, B2⟩; obtain ⟨A0, c0, rfl⟩ := Kd.R_slice I2.out.cars; obtain ⟨A1, c1, rfl⟩ := Kd.R_slice I2.out.stops; obtain ⟨A2, c2, rfl⟩ := Kd.R_slice I2.out.rides; obtain ⟨A3, c3, rfl⟩ := Kd.R_slice I2.out.rows; have R2 := Aside0.mk (resV_11 R1.out K2.out); clear z3 g3; obtain ⟨⟨y0, y1, y2, y3⟩, f0, f1, f2, f3⟩ := four_of R2.out.r0))
  have R3 := Aside0.mk (R2.out.put (.slice A0 x.cars.length c0) (.slice A1 x.stops.length c1) (.slice A2 x.rides.length c2) (.slice A3 x.rows.length c3))
  have I3 := Aside0.mk (instAt_put4 I2.out R2.out.r0 (.slice A0 x.cars.length c0) (.slice A1 x.stops.length c1) (.slice A2 x.rides.length c2) (.slice A3 x.rows.length c3))
  refine (C2.out _ _ _ _ _ _ I3.out).mono ?_
  rintro r w3 ⟨rfl, hb3⟩
  have R4 := Aside0.mk (R3.out.keep hb3)
  clear y0 y1 y2 y3 f0 f1 f2 f3 hb3 R3 I3 I2 K2 B2 R2
  obtain ⟨⟨y0, y1, y2, y3⟩, f0, f1, f2, f3⟩ := four_of R4.out.r0
  have z1 : w3.cell? ⟨w.heap.size + 1, 0, none⟩ = some (.int .i64 0) := (blk_cell R4.out.r1 0).trans rfl
  have z2 : w3.cell? ⟨w.heap.size + 1 + 1, 0, none⟩ = some (.int .i64 0) := (blk_cell R4.out.r2 0).trans rfl
  have z3 : w3.cell? ⟨w.heap.size + 1 + 1 + 1, 0, none⟩ = some (.int .i64 0) := (blk_cell R4.out.r3 0).trans rfl
  have g1 := blk_frozen R4.out.r1 0
  have g2 := blk_frozen R4.out.r2 0
  have g3 := blk_frozen R4.out.r3 0
  go_wp2
  have HC := caught_of (l := 0) (e := e) (w := w) (a0 := w.heap.size) (a1 := w.heap.size + 1) (a2 := w.heap.size + 1 + 1) (a3 := w.heap.size + 1 + 1 + 1) (by omega) (by omega) (by omega) (by omega) (by omega) (by omega) R4.out.below R4.out.r0 R4.out.r1 R4.out.r2 R4.out.r3
  refine leaves_cons (f := 10) (args := #[.pointer (some ⟨w.heap.size, 0, none⟩), .pointer (some ⟨w.heap.size + 1, 0, none⟩), .pointer (some ⟨w.heap.size + 1 + 1, 0, none⟩), .pointer (some ⟨w.heap.size + 1 + 1 + 1, 0, none⟩)]) (by simp) (by simp [go_sem]) ?_
  refine (parse_idle _ _ _ _ _).mono ?_
  rintro r u w5 ⟨rfl, rfl, hb5⟩
  have HC5 := Aside0.mk (caught_after HC hb5 (by simpa using R4.out.below.size))
  clear HC hb5
  exact ⟨_, results5_of rfl rfl rfl rfl HC5.out.r0 HC5.out.r1 HC5.out.r2 HC5.out.r3, ⟨_, _, _, _, rfl, instAt_nil _ _⟩, HC5.out.below _ (Nat.le_refl _) (Nat.le_refl _) (by omega) (by omega) (by omega)⟩
end Go.Proofs.YtcdmndhaeiccoaaGreatDoor.P
namespace Go.Proofs.YtcdmndhaeiccoaaGreatDoor.P
open Go Go.Proofs.YtcdmndhaeiccoaaGreatDoorR
open Go.RowKit Go.Proofs.YtcdmndhaeiccoaaGreatDoorW.PrintWords Go.Proofs.YtcdmndhaeiccoaaGreatDoorW.PrintLast
set_option linter.unusedVariables false
set_option linter.unusedSimpArgs false
set_option maxHeartbeats 8000000
set_option maxRecDepth 100000
theorem instAt_setT {w : World} {base g t : Nat} {cs : Array Value} {v0 v1 v2 v3 : Value} {x : InstP} (h : InstAt w base v0 v1 v2 v3 x) (hg : w.heap[g]? = some (.cells cs t (0, 0))) (ht : t = 3 ∨ t = 29) (j : Nat) (u : Value) : InstAt (w.setCell ⟨g, j, none⟩ u) base v0 v1 v2 v3 x := by
  rcases ht with rfl | rfl
  · exact ⟨Kd.R_set h.cars hg (by decide) j u, Kd.R_set h.stops hg (by decide) j u, Kd.R_set h.rides hg (by decide) j u, Kd.R_set h.rows hg (by decide) j u⟩
  · exact ⟨Kd.R_set h.cars hg (by decide) j u, Kd.R_set h.stops hg (by decide) j u, Kd.R_set h.rides hg (by decide) j u, Kd.R_set h.rows hg (by decide) j u⟩
/-- What Parse leaves of a good text. -/
structure GoodR (w w' : World) (v0 v1 v2 v3 : Value) (s : Int) (x : InstP) : Prop where
  r0 : w'.heap[w.heap.size]? = some (.cells #[v0, v1, v2, v3] 28 (0, 0))
  r1 : w'.heap[w.heap.size + 1]? = some (.cells #[.int .i64 s] 3 (0, 0))
  r2 : w'.heap[w.heap.size + 1 + 1]? = some (.cells #[.int .i64 0] 3 (0, 0))
  r3 : w'.heap[w.heap.size + 1 + 1 + 1]? = some (.cells #[.int .i64 0] 29 (0, 0))
  inst : InstAt w' w.heap.size v0 v1 v2 v3 x
  below : Below w.heap.size w w'
theorem good_of {w W : World} {base : Nat} {v0 v1 v2 v3 : Value} {s : Int} {x : InstP} (R : ResV w W v0 v1 v2 v3) (I : InstAt W base v0 v1 v2 v3 x) (hb : w.heap.size ≤ base) :
    GoodR w ((((put4 W w.heap.size v0 v1 v2 v3).setCell ⟨w.heap.size + 1, 0, none⟩ (.int .i64 s)).setCell ⟨w.heap.size + 1 + 1, 0, none⟩ (.int .i64 0)).setCell ⟨w.heap.size + 1 + 1 + 1, 0, none⟩ (.int .i64 0)).drew v0 v1 v2 v3 s x := by
  have P := R.put v0 v1 v2 v3
  have I1 := instAt_put4 (instAt_lower I hb) R.r0 v0 v1 v2 v3
  generalize put4 W w.heap.size v0 v1 v2 v3 = X at P I1 ⊢
  refine ⟨far_set (far_set (far_set P.r0 (by omega)) (by omega)) (by omega), far_set (far_set (blk_set P.r1 0 _) (by omega)) (by omega), far_set (blk_set (far_set P.r2 (by omega)) 0 _) (by omega), blk_set (far_set (far_set P.r3 (by omega)) (by omega)) 0 _, ?_, below_drew1 (((P.below.setCell (p := ⟨w.heap.size + 1, 0, none⟩) (show w.heap.size ≤ w.heap.size + 1 by omega) _).setCell (p := ⟨w.heap.size + 1 + 1, 0, none⟩) (show w.heap.size ≤ w.heap.size + 1 + 1 by omega) _).setCell (p := ⟨w.heap.size + 1 + 1 + 1, 0, none⟩) (show w.heap.size ≤ w.heap.size + 1 + 1 + 1 by omega) _)⟩
  exact instAt_drew (instAt_setT (instAt_setT (instAt_setT I1 P.r1 (.inl rfl) 0 _) (far_set P.r2 (by omega)) (.inl rfl) 0 _) (far_set (far_set P.r3 (by omega)) (by omega)) (.inr rfl) 0 _)
theorem good_after {w X w5 : World} {v0 v1 v2 v3 : Value} {s : Int} {x : InstP} (h : GoodR w X v0 v1 v2 v3 s x) (hb : Below X.heap.size X w5) (hs : w.heap.size ≤ X.heap.size) : GoodR w w5 v0 v1 v2 v3 s x :=
  ⟨(hb.block _ (Array.getElem?_eq_some_iff.1 h.r0).1).trans h.r0, (hb.block _ (Array.getElem?_eq_some_iff.1 h.r1).1).trans h.r1, (hb.block _ (Array.getElem?_eq_some_iff.1 h.r2).1).trans h.r2, (hb.block _ (Array.getElem?_eq_some_iff.1 h.r3).1).trans h.r3, instAt_below h.inst hb, h.below.trans (hb.mono hs)⟩
theorem parse_good (t : ByteArray) (n : Nat) (x : InstP) (s : Int) (w : World) (hn : n ≠ 0) (CL : Ok11 t n x s)
    (C12 : ∀ W base v0 v1 v2 v3, InstAt W base v0 v1 v2 v3 x → Calls Tryz.prog 12 #[.agg #[v0, v1, v2, v3]] W fun r w' => r = .returned (.int .i64 0) ∧ Below W.heap.size W w') :
    Calls Tryz.prog 5 #[.string t] w (AnsP w (x, s, 0, 0)) := by
  have C1 := Aside0.mk CL
  have C2 := Aside0.mk C12
  have d1 : decide ((n : Int) = 0) = false := by simp [hn]
  have d2 : (n == 0) = false := by simp [hn]
  have d3 : ((n : Int) == 0) = false := by simp [hn]
  have M1 := hmf
  have hu28 := Tryz.underlying28
  clear CL C12
  go_enter_defers Tryz.func5, Tryz.ntmps5
  go_wp2_with (first
    | (go_at_call 9; refine (C1.out _).mono ?_; rintro r w1 ⟨A, q, rfl, hb, hI⟩; have R1 := Aside0.mk ((res_new w).keep hb); have H1 := Aside0.mk hI; clear hb hI; have z3 : w1.cell? ⟨w.heap.size + 1 + 1 + 1, 0, none⟩ = some (.int .i64 0) := (blk_cell R1.out.r3 0).trans rfl; have g3 : w1.frozen? ⟨w.heap.size + 1 + 1 + 1, 0, none⟩ = false := blk_frozen R1.out.r3 0)
    | (go_at_call 11; refine (H1.out _ _ _ R1.out.r3).mono ?_; rintro r w2 ⟨v0, v1, v2, v3, rfl, K2, I2, B2⟩; obtain ⟨A0, c0, rfl⟩ := Kd.R_slice I2.out.cars; obtain ⟨A1, c1, rfl⟩ := Kd.R_slice I2.out.stops; obtain ⟨A2, c2, rfl⟩ := Kd.R_slice I2.out.rides; obtain ⟨A3, c3, rfl⟩ := Kd.R_slice I2.out.rows; have R2 := Aside0.mk (resV_11 R1.out K2.out); clear z3 g3; obtain ⟨⟨y0, y1, y2, y3⟩, f0, f1, f2, f3⟩ := four_of R2.out.r0))
  have n1 := Aside0.mk (show w.heap.size + 1 + 1 + 1 < w1.heap.size from (Array.getElem?_eq_some_iff.1 R1.out.r3).1)
  have R3 := Aside0.mk (R2.out.put (.slice A0 x.cars.length c0) (.slice A1 x.stops.length c1) (.slice A2 x.rides.length c2) (.slice A3 x.rows.length c3))
  have I3 := Aside0.mk (instAt_put4 I2.out R2.out.r0 (.slice A0 x.cars.length c0) (.slice A1 x.stops.length c1) (.slice A2 x.rides.length c2) (.slice A3 x.rows.length c3))
  obtain ⟨b0, b1, b2, BB⟩ := B2.out
  have B3 := Aside0.mk (far_set (g := w.heap.size) (j := 3) (u := .slice A3 x.rows.length c3) (far_set (g := w.heap.size) (j := 2) (u := .slice A2 x.rides.length c2) (far_set (g := w.heap.size) (j := 1) (u := .slice A1 x.stops.length c1) (far_set (g := w.heap.size) (j := 0) (u := .slice A0 x.cars.length c0) BB (by have := n1.out; omega)) (by have := n1.out; omega)) (by have := n1.out; omega)) (by have := n1.out; omega))
  have J3 := Aside0.mk I3.out.cars
  refine (C2.out _ _ _ _ _ _ I3.out).mono ?_
  rintro r w3 ⟨rfl, hb3⟩
  have R4 := Aside0.mk (R3.out.keep hb3)
  have I4 := Aside0.mk (instAt_below I3.out hb3)
  have B4 := (hb3.block _ (Array.getElem?_eq_some_iff.1 B3.out).1).trans B3.out
  clear y0 y1 y2 y3 f0 f1 f2 f3 hb3 R3 I3 I2 K2 B2 BB R2 B3 J3
  obtain ⟨⟨y0, y1, y2, y3⟩, f0, f1, f2, f3⟩ := four_of R4.out.r0
  have z1 : w3.cell? ⟨w.heap.size + 1, 0, none⟩ = some (.int .i64 0) := (blk_cell R4.out.r1 0).trans rfl
  have z2 : w3.cell? ⟨w.heap.size + 1 + 1, 0, none⟩ = some (.int .i64 0) := (blk_cell R4.out.r2 0).trans rfl
  have z3 : w3.cell? ⟨w.heap.size + 1 + 1 + 1, 0, none⟩ = some (.int .i64 0) := (blk_cell R4.out.r3 0).trans rfl
  have z4 : w3.cell? ⟨w1.heap.size, 3, none⟩ = some (.int .i64 s) := (blk_cell B4 3).trans rfl
  have g1 := blk_frozen R4.out.r1 0
  have g2 := blk_frozen R4.out.r2 0
  have g3 := blk_frozen R4.out.r3 0
  have m0 : ¬ w1.heap.size = w.heap.size := by have := n1.out; omega
  have m1 : ¬ w1.heap.size = w.heap.size + 1 := by have := n1.out; omega
  have m2 : ¬ w1.heap.size = w.heap.size + 1 + 1 := by have := n1.out; omega
  have m3 : ¬ w1.heap.size = w.heap.size + 1 + 1 + 1 := by have := n1.out; omega
  have m0' : ¬ w.heap.size = w1.heap.size := by have := n1.out; omega
  have m1' : ¬ w.heap.size + 1 = w1.heap.size := by have := n1.out; omega
  have m2' : ¬ w.heap.size + 1 + 1 = w1.heap.size := by have := n1.out; omega
  have m3' : ¬ w.heap.size + 1 + 1 + 1 = w1.heap.size := by have := n1.out; omega
  clear B4
  go_wp2
  go_region
  clear y0 y1 y2 y3 f0 f1 f2 f3 z1 z2 z3 z4 g1 g2 g3 m0 m1 m2 m3 m0' m1' m2' m3' hu28
  go_wp2
  have HC := good_of (s := s) R4.out I4.out (by have := n1.out; omega)
  refine leaves_cons (f := 10) (args := #[.pointer (some ⟨w.heap.size, 0, none⟩), .pointer (some ⟨w.heap.size + 1, 0, none⟩), .pointer (some ⟨w.heap.size + 1 + 1, 0, none⟩), .pointer (some ⟨w.heap.size + 1 + 1 + 1, 0, none⟩)]) (by simp) (by simp [go_sem]) ?_
  refine (parse_idle _ _ _ _ _).mono ?_
  rintro r u w5 ⟨rfl, rfl, hb5⟩
  have HC5 := Aside0.mk (good_after HC hb5 (by simpa using R4.out.below.size))
  clear HC hb5
  exact ⟨_, results5_of rfl rfl rfl rfl HC5.out.r0 HC5.out.r1 HC5.out.r2 HC5.out.r3, ⟨_, _, _, _, rfl, HC5.out.inst⟩, HC5.out.below⟩
theorem parse_none (t : ByteArray) (w : World)
    (CL : ∀ W, Calls Tryz.prog 9 #[.string t] W fun r w' => ∃ A q, r = .returned (.tuple #[.slice A 0 q, .int .i64 0]) ∧ Below W.heap.size W w') :
    Calls Tryz.prog 5 #[.string t] w (AnsP w (zI, 0, 0, 20)) := by
  have C1 := Aside0.mk CL
  have hu28 := Tryz.underlying28
  clear CL
  go_enter_defers Tryz.func5, Tryz.ntmps5
  go_wp2_with (first
    | (go_at_call 9; refine (C1.out _).mono ?_; rintro r w1 ⟨A, q, rfl, hb⟩; have R1 := Aside0.mk ((res_new w).keep hb); clear hb; have z3 : w1.cell? ⟨w.heap.size + 1 + 1 + 1, 0, none⟩ = some (.int .i64 0) := (blk_cell R1.out.r3 0).trans rfl; have g3 : w1.frozen? ⟨w.heap.size + 1 + 1 + 1, 0, none⟩ = false := blk_frozen R1.out.r3 0; obtain ⟨⟨y0, y1, y2, y3⟩, f0, f1, f2, f3⟩ := four_of R1.out.r0; have z1 : w1.cell? ⟨w.heap.size + 1, 0, none⟩ = some (.int .i64 0) := (blk_cell R1.out.r1 0).trans rfl; have z2 : w1.cell? ⟨w.heap.size + 1 + 1, 0, none⟩ = some (.int .i64 0) := (blk_cell R1.out.r2 0).trans rfl; have g1 := blk_frozen R1.out.r1 0; have g2 := blk_frozen R1.out.r2 0))
  have R2 : Res w (w1.setCell ⟨w.heap.size + 1 + 1 + 1, 0, none⟩ (.int .i64 0)) 0 0 := ⟨far_set R1.out.r0 (by omega), far_set R1.out.r1 (by omega), far_set R1.out.r2 (by omega), blk_set R1.out.r3 0 _, R1.out.below.setCell (p := ⟨w.heap.size + 1 + 1 + 1, 0, none⟩) (show w.heap.size ≤ w.heap.size + 1 + 1 + 1 by omega) _⟩
  have HC := caught_after (caught_of (l := 0) (e := 20) (w := w) (a0 := w.heap.size) (a1 := w.heap.size + 1) (a2 := w.heap.size + 1 + 1) (a3 := w.heap.size + 1 + 1 + 1) (by omega) (by omega) (by omega) (by omega) (by omega) (by omega) R2.below R2.r0 R2.r1 R2.r2 R2.r3) (Below.refl _ _) (by simpa using R2.below.size)
  exact ⟨_, results5_of rfl rfl rfl rfl HC.r0 HC.r1 HC.r2 HC.r3, ⟨_, _, _, _, rfl, instAt_nil _ _⟩, HC.below _ (Nat.le_refl _) (Nat.le_refl _) (by omega) (by omega) (by omega)⟩
theorem lines_size {l : List UInt8} {p : List UInt8} (h : p ∈ (linesL l).1) : p.length ≤ l.length := by
  unfold linesL at h
  split at h
  · cases h
  · split at h
    · exact (pcs_len 10 l).2 p ((List.dropLast_sublist _).subset h)
    · cases h
theorem inC_of {w : World} {base : Nat} {v0 v1 v2 v3 : Value} {x : InstP} (h : InstAt w base v0 v1 v2 v3 x) : ∃ p : Lie, InC w p x ∧ #[v0, v1, v2, v3] = instCs p x := by
  obtain ⟨A0, c0, rfl, g0, h0⟩ := Kd.R_reads h.cars
  obtain ⟨A1, c1, rfl, g1, h1⟩ := Kd.R_reads h.stops
  obtain ⟨A2, c2, rfl, g2, h2⟩ := Kd.R_reads h.rides
  obtain ⟨A3, c3, rfl, g3, h3⟩ := Kd.R_reads h.rows
  exact ⟨⟨A0, c0, A1, c1, A2, c2, A3, c3⟩, ⟨h0, g0, h1, g1, h2, g2, h3, g3⟩, rfl⟩
/-- Parse: what it says of a text. -/
theorem sheet_Parse.calls (t : ByteArray) (ht : t.size ≤ 3000) (w : World) : Calls Tryz.prog 5 #[.string t] w (AnsP w (parseM ((linesL t.data.toList).1.map mkB) (linesL t.data.toList).2)) := by
  have hL := lines_is t
  obtain ⟨ps, e, hp⟩ : ∃ ps e, linesL t.data.toList = (ps, e) := ⟨_, _, rfl⟩
  have hsz : ∀ x ∈ ps.map mkB, x.size ≤ 3000 := by
    intro x hx
    obtain ⟨p, h1, rfl⟩ := List.mem_map.1 hx
    have := lines_size (l := t.data.toList) (p := p) (by rw [hp]; exact h1)
    rw [mkB_size]
    rw [← Lib.size_eq] at this
    omega
  rw [hp] at hL ⊢
  have hf : deci_Lines.f t = some (ps.map mkB, e) := hL
  clear hL hp
  generalize ps.map mkB = ls at hsz hf ⊢
  have C9 := fun W => deci_Lines.calls t ls e W hf
  show Calls Tryz.prog 5 #[.string t] w (AnsP w (parseM ls e))
  unfold parseM
  by_cases he : e = 0
  · subst he
    rw [if_neg (fun h => h rfl)]
    by_cases hl : ls.length = 0
    · rw [if_pos hl]
      refine parse_none t w fun W => (C9 W).mono ?_
      rintro r w' ⟨v, rfl, hR, hb⟩
      obtain ⟨A, q, rfl⟩ := Kd.R_slice hR
      exact ⟨A, q, by rw [hl], hb⟩
    · rw [if_neg hl]
      cases hM : instM ls with
      | error p =>
        obtain ⟨l, e⟩ := p
        refine parse_err t ls.length l e w hl fun W => (C9 W).mono ?_
        rintro r w' ⟨v, rfl, hR, hb⟩
        obtain ⟨A, q, rfl⟩ := Kd.R_slice hR
        refine ⟨A, q, rfl, hb, fun g cs fr hg => ?_⟩
        obtain ⟨h1, h2⟩ := rdr_new (u := .int .i64 0) hR hg (by decide)
        refine (sheet_instance.calls _ _ [] 0 ls _ h1 h2 hsz).mono ?_
        rintro r w2 ⟨K, ⟨x, s, hx, _⟩ | ⟨l', e', hx, rfl⟩⟩
        · rw [hM] at hx; cases hx
        · rw [hM] at hx; cases hx; exact ⟨rfl, K.out⟩
      | ok p =>
        obtain ⟨x, s⟩ := p
        have hG := instM_good hsz hM
        have CO : Ok11 t ls.length x s := fun W => (C9 W).mono (by
          rintro r w' ⟨v, rfl, hR, hb⟩
          obtain ⟨A, q, rfl⟩ := Kd.R_slice hR
          refine ⟨A, q, rfl, hb, fun g cs fr hg => ?_⟩
          obtain ⟨h1, h2⟩ := rdr_new (u := .int .i64 0) hR hg (by decide)
          refine (sheet_instance.calls _ _ [] 0 ls _ h1 h2 hsz).mono ?_
          rintro r w2 ⟨K, ⟨x', s', hx, v0, v1, v2, v3, rfl, hI, hRd⟩ | ⟨l', e', hx, _⟩⟩
          · rw [hM] at hx; cases hx
            obtain ⟨l, hl⟩ := hRd.out
            obtain ⟨v, hv, _⟩ := hl.blk
            exact ⟨v0, v1, v2, v3, rfl, K, ⟨instAt_lower hI.out (by simp)⟩, ⟨_, _, _, hv⟩⟩
          · rw [hM] at hx; cases hx)
        have C12 : ∀ W base v0 v1 v2 v3, InstAt W base v0 v1 v2 v3 x → Calls Tryz.prog 12 #[.agg #[v0, v1, v2, v3]] W fun r w' => r = .returned (.int .i64 (chkI x)) ∧ Below W.heap.size W w' := by
          intro W base v0 v1 v2 v3 hI
          obtain ⟨p, hC, hv⟩ := inC_of hI
          rw [hv]
          exact inst_Check.calls p x W hC hG
        show Calls Tryz.prog 5 #[.string t] w (AnsP w (if chkI x = 0 then (x, s, 0, 0) else (zI, 0, 0, chkI x)))
        by_cases hc : chkI x = 0
        · rw [if_pos hc]
          rw [hc] at C12
          exact parse_good t ls.length x s w hl CO C12
        · rw [if_neg hc]
          exact parse_chk t ls.length x s (chkI x) w hl hc CO C12
  · rw [if_pos he]
    refine (parse_lines_bad t e he w fun W => (C9 W).mono ?_).mono ?_
    · rintro r w' ⟨v, rfl, _, hb⟩
      exact ⟨v, rfl, hb⟩
    · rintro r w' ⟨rfl, hb⟩
      exact ⟨⟨_, _, _, _, rfl, instAt_nil _ _⟩, hb⟩
end Go.Proofs.YtcdmndhaeiccoaaGreatDoor.P
namespace Go.Proofs.YtcdmndhaeiccoaaGreatDoor.P
open Go Go.Proofs.YtcdmndhaeiccoaaGreatDoorR
open Go.RowKit Go.Proofs.YtcdmndhaeiccoaaGreatDoorW.PrintWords Go.Proofs.YtcdmndhaeiccoaaGreatDoorW.PrintLast
set_option linter.unusedVariables false
set_option linter.unusedSimpArgs false
set_option maxHeartbeats 8000000
set_option maxRecDepth 100000
/-- Whole numbers that lie in a row of their own. -/
structure IntsAt (w : World) (g : Nat) (ns : List Int) : Prop where
  at' : ∀ j x, ns[j]? = some x → w.cell? ⟨g, j, none⟩ = some (.int .i64 x)
  typed : ∃ cs, w.heap[g]? = some (.cells cs 2 (0, 0))
theorem IntsAt.below {w w1 : World} {g : Nat} {ns : List Int} (h : IntsAt w g ns) (hb : Below w.heap.size w w1) : IntsAt w1 g ns := by
  obtain ⟨cs, hc⟩ := h.typed
  have hk := hb.block g (Array.getElem?_eq_some_iff.1 hc).1
  exact ⟨fun j x hx => cell_below hb (h.at' j x hx), cs, hk.trans hc⟩
theorem ints_of_R {w : World} {base : Nat} {v : Value} {x : Int} {t : List Int} (h : Kd.R (Kd.int .i64) 2 w base (fun _ => True) v (x :: t)) : ∃ g q, v = .slice (some ⟨g, 0, none⟩) (x :: t).length q ∧ (x :: t).length ≤ q ∧ base ≤ g ∧ IntsAt w g (x :: t) := by
  obtain ⟨inner, ho⟩ := Kd.R_own h
  obtain ⟨g, cap, hv, _, _⟩ := ho.form (by simp)
  subst hv
  obtain ⟨cells, hcl⟩ := own_typed ho g rfl
  have hb := own_base ho g rfl
  obtain ⟨_, hcp, hC⟩ := Kd.R_reads' h
  refine ⟨g, cap, rfl, hcp, hb, fun j y hy => ?_, _, hcl⟩
  have hj := (List.getElem?_eq_some_iff.1 hy).1
  obtain ⟨ad, had, hcell⟩ := Kd.at_int hC (j : Int) (by omega) (by omega)
  cases had
  rw [Int.toNat_natCast] at hcell
  have e1 : rd (x :: t) (j : Int) = y := by
    show ((x :: t)[((j : Int)).toNat]?).getD 0 = y
    rw [Int.toNat_natCast, hy]; rfl
  rw [e1] at hcell
  have e2 : (⟨g, 0, none⟩ : Addr).add j = ⟨g, j, none⟩ := by unfold Addr.add; split <;> simp_all
  rw [e2] at hcell
  exact hcell
theorem results15_of {tmps : Array Value} {W : World} {g : Nat} {v0 v1 v2 v3 : Value} {e : Int} (h2 : tmps.getD 14 undef = .pointer (some ⟨g, 0, none⟩)) (h3 : tmps.getD 15 undef = .int .i64 e) (r0 : W.heap[g]? = some (.cells #[v0, v1, v2, v3] 28 (0, 0))) :
    (results Tryz.f15 tmps).run Tryz.prog W = .ok (.tuple #[.agg #[v0, v1, v2, v3], .int .i64 e]) W := by
  have a2 : tmps[14]?.getD undef = .pointer (some ⟨g, 0, none⟩) := by simpa using h2
  have a3 : tmps[15]?.getD undef = .int .i64 e := by simpa using h3
  obtain ⟨⟨y0, y1, y2, y3⟩, _⟩ := four_of r0
  have hu28 := Tryz.underlying28
  simp [results, Tryz.results15, a2, a3, asAddr, loadVar, go_sem, y0, y1, y2, y3, hu28]
/-- What a call of words comes to, and behind it one of numbers. -/
def Ok42 (t first : ByteArray) (many : Int) (bs ns : List Int) (sc : Int) : Prop :=
  ∀ W, Calls Tryz.prog 40 #[.string t, .string first, .int .i64 many] W fun r w' => ∃ A n q, r = .returned (.tuple #[.slice A n q, .int .i64 0]) ∧ Below W.heap.size W w' ∧
    ∀ W1 A1, Below w'.heap.size w' W1 → Kd.C (Kd.int .i64) W1 A1 bs.length bs → Calls Tryz.prog 42 #[.slice A n q, .slice A1 bs.length bs.length, .int .i64 sc] W1 fun r w2 => ∃ v, r = .returned (.tuple #[v, .int .i64 0]) ∧ Kd.R (Kd.int .i64) 2 w2 W1.heap.size (fun _ => True) v ns ∧ Below W1.heap.size W1 w2
def Bad42 (t first : ByteArray) (many : Int) (bs : List Int) (sc e : Int) : Prop :=
  ∀ W, Calls Tryz.prog 40 #[.string t, .string first, .int .i64 many] W fun r w' => ∃ A n q, r = .returned (.tuple #[.slice A n q, .int .i64 0]) ∧ Below W.heap.size W w' ∧
    ∀ W1 A1, Below w'.heap.size w' W1 → Kd.C (Kd.int .i64) W1 A1 bs.length bs → Calls Tryz.prog 42 #[.slice A n q, .slice A1 bs.length bs.length, .int .i64 sc] W1 fun r w2 => ∃ v, r = .returned (.tuple #[v, .int .i64 e]) ∧ Below W1.heap.size W1 w2
def Bad40 (t first : ByteArray) (many e : Int) : Prop :=
  ∀ W, Calls Tryz.prog 40 #[.string t, .string first, .int .i64 many] W fun r w' => ∃ v, r = .returned (.tuple #[v, .int .i64 e]) ∧ Below W.heap.size W w'
/-- Each box of an instance stays as it is. -/
def Keep28 (w w' : World) : Prop := ∀ (k : Nat) (cs : Array Value) (fr : Nat × Nat), w.heap[k]? = some (.cells cs 28 fr) → w'.heap[k]? = some (.cells cs 28 fr)
theorem keep28_below {w w' : World} (h : Below w.heap.size w w') : Keep28 w w' := fun k cs fr hk => (h.block k (Array.getElem?_eq_some_iff.1 hk).1).trans hk
/-- What the line comes to. -/
def AnsL (w : World) (base : Nat) (M : Except Int InstP) (r : Ending) (w' : World) : Prop :=
  (∃ v0 v1 v2 v3 e, r = .returned (.tuple #[.agg #[v0, v1, v2, v3], .int .i64 e]) ∧ ((∃ y, M = .ok y ∧ e = 0 ∧ InstAt w' base v0 v1 v2 v3 y ∧ (y.rows ≠ [] ∨ v3 = .slice none 0 0)) ∨ (M = .error e ∧ e ≠ 0 ∧ ∃ a0 a1 a2 a3 n0 n1 n2 n3 c0 c1 c2 c3, v0 = .slice a0 n0 c0 ∧ v1 = .slice a1 n1 c1 ∧ v2 = .slice a2 n2 c2 ∧ v3 = .slice a3 n3 c3))) ∧ Below base w w' ∧ Keep28 w w'
theorem ints_C {w : World} {g : Nat} {ns : List Int} (h : w.heap[g]? = some (.cells (ns.map (Value.int .i64)).toArray 2 (0, 0))) (hn : ns.length ≤ 100) : (Kd.int .i64).C w (some ⟨g, 0, none⟩) ns.length ns := by
  refine Kd.C_of_reads (d := 0) ⟨rfl, by omega, fun _ => ⟨⟨g, 0, none⟩, rfl, fun j hj => ?_⟩⟩
  have e2 : (⟨g, 0, none⟩ : Addr).add j = ⟨g, j, none⟩ := by unfold Addr.add; split <;> simp_all
  rw [e2, blk_cell h j]
  simp [hj]
theorem ints_nil (w : World) (A : Option Addr) : (Kd.int .i64).C w A ([] : List Int).length [] := ⟨rfl, by simp, fun h => absurd h (Nat.lt_irrefl 0)⟩
theorem box4 {w w1 : World} {o0 o1 o2 o3 : Obj} (hb : Below ((((w.alloc o0).alloc o1).alloc o2).alloc o3).heap.size ((((w.alloc o0).alloc o1).alloc o2).alloc o3) w1) :
    w1.heap[w.heap.size]? = some o0 ∧ w1.heap[w.heap.size + 1]? = some o1 ∧ w1.heap[w.heap.size + 1 + 1 + 1]? = some o3 ∧ Below w.heap.size w w1 := by
  have s1 : (w.alloc o0).heap.size = w.heap.size + 1 := by simp
  have s2 : ((w.alloc o0).alloc o1).heap.size = w.heap.size + 1 + 1 := by simp
  have s3 : (((w.alloc o0).alloc o1).alloc o2).heap.size = w.heap.size + 1 + 1 + 1 := by simp
  have s4 : ((((w.alloc o0).alloc o1).alloc o2).alloc o3).heap.size = w.heap.size + 1 + 1 + 1 + 1 := by simp
  have k0 := heap_alloc_new w o0
  have k1 := heap_alloc_new (w.alloc o0) o1
  have k3 := heap_alloc_new (((w.alloc o0).alloc o1).alloc o2) o3
  rw [s1] at k1
  rw [s3] at k3
  have j0 := (heap_old _ o1 k0).trans k0
  have j1 := (heap_old _ o2 j0).trans j0
  have j2 := (heap_old _ o3 j1).trans j1
  have i1 := (heap_old _ o2 k1).trans k1
  have i2 := (heap_old _ o3 i1).trans i1
  rw [s4] at hb
  exact ⟨(hb.block _ (by omega)).trans j2, (hb.block _ (by omega)).trans i2, (hb.block _ (by omega)).trans k3, (below_alloc (below_alloc (below_alloc (below_alloc (Below.refl _ _) _) _) _) _).trans (hb.mono (by omega))⟩
theorem box3 {w w1 : World} {o0 o1 o2 : Obj} (hb : Below (((w.alloc o0).alloc o1).alloc o2).heap.size (((w.alloc o0).alloc o1).alloc o2) w1) :
    w1.heap[w.heap.size]? = some o0 ∧ w1.heap[w.heap.size + 1]? = some o1 ∧ w1.heap[w.heap.size + 1 + 1]? = some o2 ∧ Below w.heap.size w w1 := by
  have s1 : (w.alloc o0).heap.size = w.heap.size + 1 := by simp
  have s2 : ((w.alloc o0).alloc o1).heap.size = w.heap.size + 1 + 1 := by simp
  have s3 : (((w.alloc o0).alloc o1).alloc o2).heap.size = w.heap.size + 1 + 1 + 1 := by simp
  have k0 := heap_alloc_new w o0
  have k1 := heap_alloc_new (w.alloc o0) o1
  have k2 := heap_alloc_new ((w.alloc o0).alloc o1) o2
  rw [s1] at k1
  rw [s2] at k2
  have j0 := (heap_old _ o1 k0).trans k0
  have j1 := (heap_old _ o2 j0).trans j0
  have i1 := (heap_old _ o2 k1).trans k1
  rw [s3] at hb
  exact ⟨(hb.block _ (by omega)).trans j1, (hb.block _ (by omega)).trans i1, (hb.block _ (by omega)).trans k2, (below_alloc (below_alloc (below_alloc (Below.refl _ _) _) _) _).trans (hb.mono (by omega))⟩
theorem ansL_bad {w w' : World} {base : Nat} {e : Int} {a0 a1 a2 a3 : Option Addr} {n0 n1 n2 n3 c0 c1 c2 c3 : Nat} (he : e ≠ 0) (hle : base ≤ w.heap.size) (hb : Below w.heap.size w w') : AnsL w base (.error e) (.returned (.tuple #[.agg #[.slice a0 n0 c0, .slice a1 n1 c1, .slice a2 n2 c2, .slice a3 n3 c3], .int .i64 e])) w' :=
  ⟨⟨_, _, _, _, e, rfl, .inr ⟨rfl, he, _, _, _, _, _, _, _, _, _, _, _, _, rfl, rfl, rfl, rfl⟩⟩, hb.mono hle, keep28_below hb⟩
/-- The boxes of a line's call: the instance, and what it gives back. -/
structure LineS (w w' : World) (base : Nat) (v0 v1 v2 v3 : Value) : Prop where
  box : w'.heap[w.heap.size]? = some (.cells #[v0, v1, v2, v3] 28 (0, 0))
  res : w'.heap[w.heap.size + 1]? = some zInst
  below : Below base w w'
  keep : Keep28 w w'
theorem line_grow {w W w5 : World} {base : Nat} {v0 v1 v2 v3 : Value} (G0 : W.heap[w.heap.size]? = some (.cells #[v0, v1, v2, v3] 28 (0, 0))) (G1 : W.heap[w.heap.size + 1]? = some zInst) (hle : base ≤ w.heap.size) (hW : Below w.heap.size w W) (hb : Below base W w5) {row : Option Nat} (hg : W.grownBy w5 row) (hr : ∀ k, row = some k → ∃ cells e' fr, W.heap[k]? = some (.cells cells e' fr) ∧ e' ≠ 28) : LineS w w5 base v0 v1 v2 v3 := by
  have hk : ∀ (g : Nat) (c : Array Value) (fr : Nat × Nat), W.heap[g]? = some (.cells c 28 fr) → w5.heap[g]? = some (.cells c 28 fr) := fun g c fr h => (hg.block g (Array.getElem?_eq_some_iff.1 h).1 (fun hx => by
    obtain ⟨cells, e, fr', h1, h4⟩ := hr g hx.symm
    rw [h] at h1
    exact h4 (by cases h1; rfl))).trans h
  exact ⟨hk _ _ _ G0, hk _ _ _ G1, (hW.mono hle).trans hb, fun k cs fr h => hk k cs fr (keep28_below hW k cs fr h)⟩
theorem row_not28 {α : Type} {d : Kd α} {e base : Nat} {ok : Nat → Prop} {w : World} {v : Value} {xs : List α} (h : d.R e w base ok v xs) (h28 : e ≠ 28) : ∀ k, v.ownBlock = some k → ∃ cells e' fr, w.heap[k]? = some (.cells cells e' fr) ∧ e' ≠ 28 := by
  intro k hk
  obtain ⟨cells, hc⟩ := own_typed' h hk
  exact ⟨cells, e, _, hc, h28⟩
theorem ansL_ok {w W : World} {base : Nat} {v0 v1 v2 v3 o0 o1 o2 o3 : Value} {y : InstP} {j : Nat} {u : Value} (S : LineS w W base o0 o1 o2 o3) (I : InstAt W base v0 v1 v2 v3 y) (hb : base ≤ w.heap.size) (h3 : y.rows ≠ [] ∨ v3 = .slice none 0 0) :
    AnsL w base (.ok y) (.returned (.tuple #[.agg #[v0, v1, v2, v3], .int .i64 0])) (put4 (W.setCell ⟨w.heap.size, j, none⟩ u) (w.heap.size + 1) v0 v1 v2 v3) := by
  have r1 := far_set (g := w.heap.size) (j := j) (u := u) S.res (by omega)
  refine ⟨⟨_, _, _, _, 0, rfl, .inl ⟨y, rfl, rfl, instAt_put4 (instAt_set I S.box j u) r1 v0 v1 v2 v3, h3⟩⟩, ?_, fun k cs fr h => ?_⟩
  rotate_left
  · have hlt := (Array.getElem?_eq_some_iff.1 h).1
    exact far_set (far_set (far_set (far_set (far_set (S.keep k cs fr h) (by omega)) (by omega)) (by omega)) (by omega)) (by omega)
  exact ((((S.below.setCell (p := ⟨w.heap.size, j, none⟩) hb _).setCell (p := ⟨w.heap.size + 1, 0, none⟩) (show base ≤ w.heap.size + 1 by omega) _).setCell (p := ⟨w.heap.size + 1, 1, none⟩) (show base ≤ w.heap.size + 1 by omega) _).setCell (p := ⟨w.heap.size + 1, 2, none⟩) (show base ≤ w.heap.size + 1 by omega) _).setCell (p := ⟨w.heap.size + 1, 3, none⟩) (show base ≤ w.heap.size + 1 by omega) _
theorem IntsAt.grown {w w1 : World} {g : Nat} {ns : List Int} {row : Option Nat} (h : IntsAt w g ns) (hg : w.grownBy w1 row) (hr : ∀ k, row = some k → k ≠ g) : IntsAt w1 g ns := by
  obtain ⟨cs, hc⟩ := h.typed
  have hk := hg.block g (Array.getElem?_eq_some_iff.1 hc).1 (fun hx => hr g hx.symm rfl)
  refine ⟨fun j x hx => ?_, cs, hk.trans hc⟩
  have := h.at' j x hx
  rw [blk_cell hc j] at this
  rw [blk_cell (hk.trans hc) j]
  exact this
theorem row_apart {α : Type} {d : Kd α} {e base : Nat} {ok : Nat → Prop} {w : World} {v : Value} {xs : List α} (h : d.R e w base ok v xs) {g : Nat} (hg : w.heap.size ≤ g) : ∀ k, v.ownBlock = some k → k ≠ g := by
  intro k hk
  obtain ⟨cells, hc⟩ := own_typed' h hk
  have := (Array.getElem?_eq_some_iff.1 hc).1
  omega
abbrev iv (A0 : Option Addr) (n0 c0 : Nat) (A1 : Option Addr) (n1 c1 : Nat) (A2 : Option Addr) (n2 c2 : Nat) (A3 : Option Addr) (n3 c3 : Nat) : Value := .agg #[.slice A0 n0 c0, .slice A1 n1 c1, .slice A2 n2 c2, .slice A3 n3 c3]
end Go.Proofs.YtcdmndhaeiccoaaGreatDoor.P
