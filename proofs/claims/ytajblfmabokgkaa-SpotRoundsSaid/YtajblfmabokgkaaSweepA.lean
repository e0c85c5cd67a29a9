/- A sweep over a short row of spots. -/
import Derived.Test.YtajblfmabokgkaaClos
namespace Go.Proofs.Ytajblfmabokgkaa.P
open Go.Proofs.YtajblfmabokgkaaR
open Go.Shelf Go.Sort
open Go.RowKit Go.Proofs.YtajblfmabokgkaaW.PrintWords Go.Proofs.YtajblfmabokgkaaW.PrintLast Go.Proofs.YtajblfmabokgkaaW.PrintMore
set_option linter.unusedVariables false
set_option linter.unusedSimpArgs false
set_option maxHeartbeats 8000000
set_option maxRecDepth 100000
def upTo (j : Nat) : List Int := (List.range j).map fun (i : Nat) => (i : Int)
theorem upTo_succ (j : Nat) : upTo (j + 1) = upTo j ++ [(j : Int)] := by unfold upTo; rw [List.range_succ, List.map_append]; rfl
theorem upTo_length (j : Nat) : (upTo j).length = j := by unfold upTo; simp
theorem info3 : (Try.prog.info? 3).map (fun i => (i.zero, i.size, i.bytes)) = some (some (.int .i64 0), 1, 8) := by kernel_rfl
/-- The row that the sort has left. -/
def swept (o1 o2 : Int) (A B : Nat → Int) (n : Nat) [Inhabited (Fin n)] : Array (Fin n) := Sort.insertionSort (ltOf (cfS o1 o2 A B)) (Array.ofFn id) 0 n
theorem insInner_size {α : Type} [Inhabited α] (lt : α → α → Bool) (a : Nat) : ∀ (j : Nat) (d : Array α), (insInner lt a j d).size = d.size
  | 0, d => by unfold insInner; rfl
  | j + 1, d => by
    unfold insInner
    split
    · rw [insInner_size lt a j, swp_size]
    · rfl
theorem insOuter_size {α : Type} [Inhabited α] (lt : α → α → Bool) (a b : Nat) : ∀ (n i : Nat) (d : Array α), b - i = n → (insOuter lt a b i d).size = d.size
  | 0, i, d, hn => by rw [insOuter, if_neg (by omega)]
  | n + 1, i, d, hn => by rw [insOuter, if_pos (by omega), insOuter_size lt a b n (i + 1) _ (by omega), insInner_size]
theorem swept_size (o1 o2 : Int) (A B : Nat → Int) (n : Nat) [Inhabited (Fin n)] : (swept o1 o2 A B n).size = n := by
  unfold swept Sort.insertionSort
  rw [insOuter_size _ _ _ _ _ _ rfl, Array.size_ofFn]
theorem ofFn_at (n : Nat) [Inhabited (Fin n)] (j : Nat) (h : j < n) : (Array.ofFn (id : Fin n → Fin n))[j]! = ⟨j, h⟩ := by
  rw [getElem!_pos _ j (by simpa using h)]
  simp
theorem rd_upTo (n j : Nat) (h : j < n) : rd (upTo n) (j : Int) = (j : Int) := by
  unfold rd upTo
  simp [h]
theorem sweep_row {wr : World} {n base g2 cap : Nat} [Inhabited (Fin n)] (HR : Kd.R (Kd.int .i64) 3 wr base (fun _ => True) (.slice (some ⟨g2, 0, none⟩) n cap) (upTo n)) (hg : g2 < wr.heap.size) :
    Row1 (enF n) wr g2 0 (Array.ofFn (id : Fin n → Fin n)) := by
  refine ⟨fun x => rfl, fun j hj => ?_, hg⟩
  have hj' : j < n := by simpa using hj
  obtain ⟨h1, h2⟩ := Kd.R_celln 0 HR (j : Int) (by omega) (by omega)
  rw [ofFn_at n j hj', Nat.zero_add]
  refine ⟨?_, h2⟩
  have e : (j : Int).toNat = j := by omega
  rw [e] at h1
  exact h1.trans (congrArg (fun z => some (Value.int .i64 z)) (rd_upTo n j hj'))
theorem sweep_cmp {wr : World} {g n c g2 b2 b3 : Nat} [Inhabited (Fin n)] {X Y : Nat → Nat} {A B : Nat → Int} (hL : SpotsAt wr g n X Y A B) {s t : Nat} {o1 o2 : Int} (hO : Spot s t o1 o2)
    (h2 : wr.cell? ⟨b2, 0, none⟩ = some (.complex .f64 s t)) (h3 : wr.cell? ⟨b3, 0, none⟩ = some (.slice (some ⟨g, 0, none⟩) n c)) (n1 : g ≠ g2) (n2 : b2 ≠ g2) (n3 : b3 ≠ g2) (size : Nat) :
    CmpLays1 Try.prog 21 #[.pointer (some ⟨b2, 0, none⟩), .pointer (some ⟨b3, 0, none⟩)] (enF n) (cfS o1 o2 A B) g2 0 size wr := by
  intro m os dk hd x y
  refine spot_Sweep_1.calls (w := sortWorld (enF n) wr g2 0 m dk os) ⟨?_, fun i hi => (sort_other (enF n) wr g2 m dk os g i hL.lt n1).trans (hL.cell i hi), hL.spot⟩ c b2 b3 hO ((sort_other (enF n) wr g2 m dk os b2 0 (cell_lt h2) n2).trans h2) ((sort_other (enF n) wr g2 m dk os b3 0 (cell_lt h3) n3).trans h3) x y
  exact Nat.lt_of_lt_of_le hL.lt (SW.le (enc := enF n) (w0 := wr) (blk := g2) (off := 0) (dk := dk) ⟨m, os, rfl⟩)
theorem sw_below {wr w' : World} {n g2 base : Nat} [Inhabited (Fin n)] {r : Array (Fin n)} (h : SW (enF n) wr g2 0 r w') (hb : base ≤ g2) (hs : base ≤ wr.heap.size) : Below base wr w' := by
  obtain ⟨m, os, rfl⟩ := h
  refine ⟨rfl, rfl, rfl, SW.le (enc := enF n) (w0 := wr) (blk := g2) (off := 0) (dk := r) ⟨m, os, rfl⟩, fun k hk => ?_⟩
  have hne : k ≠ g2 := by omega
  have hk2 : k < (putRow (enF n) (Sort.ahead wr m) g2 0 r).heap.size := by rw [Go.Proofs.size_putRow]; show k < wr.heap.size; omega
  unfold sortWorld
  show ((putRow (enF n) (Sort.ahead wr m) g2 0 r).heap ++ os)[k]? = wr.heap[k]?
  rw [Array.getElem?_append_left hk2]
  unfold putRow mapBlock Sort.ahead
  simp [Array.getElem?_modify, hne.symm]
theorem spot_Sweep.calls {w : World} {g n c : Nat} [Inhabited (Fin n)] {X Y : Nat → Nat} {A B : Nat → Int} (hL : SpotsAt w g n X Y A B) {s t : Nat} {o1 o2 : Int} (hO : Spot s t o1 o2) (hp : 0 < n) (hn : n < 20) :
    Calls Try.prog 12 #[.complex .f64 s t, .slice (some ⟨g, 0, none⟩) n c] w fun e w' => ∃ g2 c2, e = .returned (.slice (some ⟨g2, 0, none⟩) n c2) ∧ n ≤ c2 ∧ w.heap.size ≤ g2 ∧ (∀ i, i < n → w'.cell? ⟨g2, i, none⟩ = some (enF n (swept o1 o2 A B n)[i]!)) ∧ Below w.heap.size w w' := by
  obtain ⟨W, hW⟩ : ∃ W, W = (w.alloc (.cells #[.complex .f64 s t] 23)).alloc (.cells #[.slice (some ⟨g, 0, none⟩) n c] 30) := ⟨_, rfl⟩
  have hBW : Below w.heap.size w W := by rw [hW]; exact below_alloc (below_alloc (Below.refl _ _) _) _
  have hsz : W.heap.size = w.heap.size + 2 := by rw [hW]; simp
  have b2 : W.cell? ⟨w.heap.size, 0, none⟩ = some (.complex .f64 s t) := by rw [hW]; simp
  have b3 : W.cell? ⟨w.heap.size + 1, 0, none⟩ = some (.slice (some ⟨g, 0, none⟩) n c) := by rw [hW]; simp
  have hL2 : SpotsAt W g n X Y A B := ⟨Nat.lt_of_lt_of_le hL.lt hBW.size, fun i hi => (hBW.cell (p := ⟨g, i, none⟩) hL.lt).trans (hL.cell i hi), hL.spot⟩
  have HW := Aside0.mk (show (w.alloc (.cells #[.complex .f64 s t] 23)).alloc (.cells #[.slice (some ⟨g, 0, none⟩) n c] 30) = W from hW.symm)
  have HL := Aside0.mk hL2
  have HO := Aside0.mk hO
  have HN := Aside0.mk hn
  have H2 := Aside0.mk b2
  have H3 := Aside0.mk b3
  have HS := Aside0.mk hsz
  have HBW := Aside0.mk hBW
  have HP := Aside0.mk hp
  clear hL hO hn hW hBW hsz b2 b3 hL2 hp
  go_enter Try.func12, Try.ntmps12
  go_wp2
  rw [HW.out]
  go_loopg [5, 6, 11] n (fun gg v5 v6 v11 wr => ∃ j : Nat, v6 = .slice none 0 0 ∧ v11 = .int .i64 (j : Int) ∧ j ≤ n ∧ n - j ≤ gg ∧ Aside0 (Kd.R (Kd.int .i64) 3 wr W.heap.size (fun _ => True) v5 (upTo j)) ∧ Aside0 (Below W.heap.size W wr))
  case atStart => exact ⟨0, rfl, rfl, Nat.zero_le _, Nat.le_refl _, ⟨Kd.R_nil _ _ _ _ _⟩, ⟨Below.refl _ _⟩⟩
  case round =>
    obtain ⟨j, rfl, rfl, hj, hm, HR, HB⟩ := hrel
    by_cases hjn : j < n
    · have c1 : decide ((j : Int) < (n : Int)) = true := by simp; omega
      have p1 : (0 : Int) ≤ (j : Int) := by omega
      have p2 : (j : Int) < (n : Int) := by omega
      have k1 : wr.cell? ⟨g, j, none⟩ = some (.complex .f64 (X j) (Y j)) := (HB.out.cell (p := ⟨g, j, none⟩) HL.out.lt).trans (HL.out.cell j hjn)
      have k2 : wr.cell? ⟨w.heap.size, 0, none⟩ = some (.complex .f64 s t) := (HB.out.cell (p := ⟨w.heap.size, 0, none⟩) (by have := HS.out; show w.heap.size < W.heap.size; omega)).trans H2.out
      have S1 := Aside0.mk (HL.out.spot j hjn)
      generalize X j = x at k1 S1
      generalize Y j = y at k1 S1
      have hjl : ((upTo j).length + 1) * 8 ≤ 140737488355328 := by rw [upTo_length]; have := HN.out; omega
      have HJ := Aside0.mk hjl
      have w1 : wrap64 ((j : Int) + 1) = (j : Int) + 1 := by unfold wrap64; have := HN.out; omega
      clear hjl
      go_wp2_with (first
        | (go_at_call 16; with_reducible refine (spot_Good.calls S1.out _).mono ?_; rintro e w1 ⟨rfl, rfl⟩)
        | (go_at_call 16; with_reducible refine (spot_Good.calls HO.out _).mono ?_; rintro e w1 ⟨rfl, rfl⟩)
        | ((with_reducible refine gate_builtin (b := .append) (xs := #[.tmp 22, .tmp 24]) rfl ?_); at_builtin; refine Kd.R_append (Kd.int .i64) (w0 := W) W.heap.size rfl (.tmp 22) (.tmp 24) 29 3 (.int .i64 0) 8 rfl Try.underlying29 info3 rfl (by decide) (by omega) u5 (upTo j) (j : Int) [.int .i64 (j : Int)] (fun _ => True) (fun _ => False) rfl rfl ?aP (fun _ hk => hk.elim) ?aF HR.out HB.out HB.out.size HJ.out ?_; (case aP => exact rfl); (case aF => exact (fun _ _ => trivial)); intro v1 w4 ho hb hg hat; rw [← upTo_succ] at ho; clear HR; clear HB; have HR := Aside0.mk ho; have HB := Aside0.mk hb; clear ho hb hg hat))
      go_roundg (n - (j + 1))
      case measure => omega
      case rel => exact ⟨j + 1, rfl, by first | rfl | go_num, by omega, Nat.le_refl _, HR, HB⟩
    · have c1 : decide ((j : Int) < (n : Int)) = false := by simp; omega
      obtain rfl : j = n := by omega
      obtain ⟨g2, cap, hv, hg0, hg1, _⟩ := Kd.R_form HR.out (by rw [upTo_length]; exact HP.out)
      rw [upTo_length] at hv
      subst hv
      have hcap : j ≤ cap := by
        obtain ⟨A', c', e', hc', _⟩ := Kd.R_reads HR.out
        injection e' with _ _ e3
        rw [e3, ← upTo_length j]
        exact hc'
      have hb2 : w.heap.size < W.heap.size := by have := HS.out; omega
      have hb3 : w.heap.size + 1 < W.heap.size := by have := HS.out; omega
      have hgW := HL.out.lt
      have k2 : wr.cell? ⟨w.heap.size, 0, none⟩ = some (.complex .f64 s t) := (HB.out.cell (p := ⟨w.heap.size, 0, none⟩) hb2).trans H2.out
      have k3 : wr.cell? ⟨w.heap.size + 1, 0, none⟩ = some (.slice (some ⟨g, 0, none⟩) j c) := (HB.out.cell (p := ⟨w.heap.size + 1, 0, none⟩) hb3).trans H3.out
      have hLr : SpotsAt wr g j X Y A B := ⟨Nat.lt_of_lt_of_le hgW HB.out.size, fun i hi => (HB.out.cell (p := ⟨g, i, none⟩) hgW).trans (HL.out.cell i hi), HL.out.spot⟩
      have hsrt := slices_SortStableFunc.small (enF j) (cfS o1 o2 A B) _ g2 cap (Array.ofFn (id : Fin j → Fin j)) wr (sweep_cmp (c := c) hLr HO.out k2 k3 (by omega) (by omega) (by omega) _) (sweep_row HR.out hg1) (by rw [Array.size_ofFn]; exact HN.out)
      rw [Array.size_ofFn] at hsrt
      have CS := Aside0.mk hsrt
      have HG := Aside0.mk (And.intro hg0 hcap)
      have HW2 := Aside0.mk hg1
      clear hsrt hLr k2 k3 hgW hb2 hb3 hg0 hg1
      go_wp2_with (first | (go_at_call 20; refine CS.out.mono ?_; rintro e w1 ⟨rfl, hS⟩; have S1 := Aside0.mk hS; clear hS))
      go_ret
      have hS := S1.out
      have hc : ∀ i, i < j → w1.cell? ⟨g2, i, none⟩ = some (enF j (swept o1 o2 A B j)[i]!) := by
        intro i hi
        have := SW.c1 hS (sweep_row HR.out HW2.out) (by rw [Array.size_ofFn]; exact swept_size o1 o2 A B j) i (by show i < (swept o1 o2 A B j).size; rw [swept_size]; exact hi)
        rw [Nat.zero_add] at this
        exact this
      refine ⟨g2, cap, rfl, HG.out.2, Nat.le_trans (Nat.le_trans (Nat.le_of_lt (show w.heap.size < W.heap.size by have := HS.out; omega)) HG.out.1) (Nat.le_refl _), hc, ?_⟩
      have h1 : Below w.heap.size w wr := HBW.out.trans (HB.out.mono HBW.out.size)
      exact h1.trans (sw_below hS (Nat.le_trans HBW.out.size HG.out.1) (Nat.le_trans HBW.out.size HB.out.size))
end Go.Proofs.Ytajblfmabokgkaa.P
