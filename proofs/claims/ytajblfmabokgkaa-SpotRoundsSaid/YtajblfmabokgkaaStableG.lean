/- The stable sort as plain functions: the merge merges. -/
import Derived.Test.YtajblfmabokgkaaStableF
namespace Go.StableF
open Go.Sort
set_option linter.unusedVariables false
set_option linter.unusedSimpArgs false
set_option linter.unusedSectionVars false
variable {α : Type} [I : Inhabited α]
variable {lt : α → α → Bool}

theorem asym (hS : SWO lt) {x y : α} (h : lt x y = true) : lt y x = false := SWO.asymmA hS h
/-- x ≤ y < z gives x < z's converse denied. -/
theorem le_lt (hS : SWO lt) {x y z : α} (h : lt y x = false) (h2 : lt y z = true) : lt x z = true := by
  cases hq : lt x z with
  | true => rfl
  | false => have := hS.ntrans _ _ _ h hq; rw [this] at h2; cases h2
theorem lt_le (hS : SWO lt) {x y z : α} (h : lt x y = true) (h2 : lt z y = false) : lt x z = true := by
  cases hq : lt x z with
  | true => rfl
  | false => have := hS.ntrans _ _ _ hq h2; rw [this] at h; cases h
theorem getp {d : Array α} {x y : Nat} (h : x = y) : d[x]! = d[y]! := by rw [h]

/-- The three searches cut where they should. -/
theorem one_cut (hS : SWO lt) (d : Array α) (a m b : Nat) (hmb : m ≤ b) (h2 : SortedIn lt m b d) :
    m ≤ bs (pOne lt d a) m b ∧ bs (pOne lt d a) m b ≤ b ∧ (∀ x, m ≤ x → x < bs (pOne lt d a) m b → lt d[x]! d[a]! = true) ∧ (∀ x, bs (pOne lt d a) m b ≤ x → x < b → lt d[x]! d[a]! = false) :=
  bs_spec (pOne lt d a) m b hmb (fun x y hx hxy hy hp => le_lt hS (h2 x y hx hxy hy) hp)
theorem two_cut (hS : SWO lt) (d : Array α) (a m : Nat) (ham : a ≤ m) (h1 : SortedIn lt a m d) :
    a ≤ bs (pTwo lt d m) a m ∧ bs (pTwo lt d m) a m ≤ m ∧ (∀ x, a ≤ x → x < bs (pTwo lt d m) a m → lt d[m]! d[x]! = false) ∧ (∀ x, bs (pTwo lt d m) a m ≤ x → x < m → lt d[m]! d[x]! = true) := by
  obtain ⟨p, q, r, s⟩ := bs_spec (pTwo lt d m) a m ham (fun x y hx hxy hy hp => by
    simp only [pTwo, Bool.not_eq_true'] at hp ⊢
    exact hS.ntrans _ _ _ hp (h1 x y hx hxy hy))
  exact ⟨p, q, fun x hx hy => by have := r x hx hy; simpa [pTwo] using this, fun x hx hy => by have := s x hx hy; simpa [pTwo] using this⟩

theorem lo_hi (a m b : Nat) (ham : a < m) (hmb : m < b) :
    a ≤ lo a m b ∧ lo a m b ≤ hi a m b ∧ hi a m b ≤ m ∧ m ≤ (a + b) / 2 + m - hi a m b ∧ (a + b) / 2 + m - lo a m b ≤ b ∧ hi a m b ≤ (a + b) / 2 ∧
    (lo a m b = a ∨ (a + b) / 2 + m - lo a m b = b) ∧ (hi a m b = m ∨ (a + b) / 2 + m - hi a m b = m) := by
  unfold lo hi
  by_cases h : (a + b) / 2 < m
  · rw [if_pos h, if_pos h]; omega
  · rw [if_neg h, if_neg h]; omega

theorem start_bounds (d : Array α) (a m b : Nat) (ham : a < m) (hmb : m < b) :
    lo a m b ≤ start lt d a m b ∧ start lt d a m b ≤ hi a m b := bs_le _ _ _ (lo_hi a m b ham hmb).2.1

structure Cut (lt : α → α → Bool) (d : Array α) (a m b s e : Nat) : Prop where
  as : a ≤ s
  sm : s ≤ m
  me : m ≤ e
  eb : e ≤ b
  mid : s + e = (a + b) / 2 + m
  c1 : ∀ x y, a ≤ x → x < s → e ≤ y → y < b → lt d[y]! d[x]! = false
  c2 : ∀ x y, s ≤ x → x < m → m ≤ y → y < e → lt d[x]! d[y]! = false

theorem cut (hS : SWO lt) (d : Array α) (a m b : Nat) (ham : a < m) (hmb : m < b) (h1 : SortedIn lt a m d) (h2 : SortedIn lt m b d) :
    Cut lt d a m b (start lt d a m b) (stop lt d a m b) := by
  obtain ⟨l1, l2, l3, l4, l5, l6, l7, l8⟩ := lo_hi a m b ham hmb
  obtain ⟨p, q, r, s⟩ := bs_spec (pThr lt d ((a + b) / 2 + m - 1)) (lo a m b) (hi a m b) l2 (fun x y hx hxy hy hp => by
    simp only [pThr, Bool.not_eq_true'] at hp ⊢
    have A := h1 x y (by omega) hxy (by omega)
    have B := h2 ((a + b) / 2 + m - 1 - y) ((a + b) / 2 + m - 1 - x) (by omega) (by omega) (by omega)
    exact hS.ntrans _ _ _ (hS.ntrans _ _ _ B hp) A)
  have r : ∀ x, lo a m b ≤ x → x < start lt d a m b → lt d[(a + b) / 2 + m - 1 - x]! d[x]! = false := fun x hx hy => by have := r x hx hy; simpa [pThr] using this
  have s : ∀ x, start lt d a m b ≤ x → x < hi a m b → lt d[(a + b) / 2 + m - 1 - x]! d[x]! = true := fun x hx hy => by have := s x hx hy; simpa [pThr] using this
  have p : lo a m b ≤ start lt d a m b := p
  have q : start lt d a m b ≤ hi a m b := q
  have he : stop lt d a m b = (a + b) / 2 + m - start lt d a m b := rfl
  refine ⟨by omega, by omega, by omega, by omega, by omega, fun x y hx hxs hy hyb => ?_, fun x y hx hxm hy hye => ?_⟩
  · have hlo : lo a m b < start lt d a m b := by omega
    have R := r (start lt d a m b - 1) (by omega) (by omega)
    have e1 : (a + b) / 2 + m - 1 - (start lt d a m b - 1) = stop lt d a m b := by omega
    rw [e1] at R
    have A : lt d[start lt d a m b - 1]! d[x]! = false := by
      by_cases hc : x = start lt d a m b - 1
      · rw [hc]; exact hS.irrefl _
      · exact h1 _ _ hx (by omega) (by omega)
    have B : lt d[y]! d[stop lt d a m b]! = false := by
      by_cases hc : y = stop lt d a m b
      · rw [hc]; exact hS.irrefl _
      · exact h2 _ _ (by omega) (by omega) (by omega)
    exact hS.ntrans _ _ _ (hS.ntrans _ _ _ B R) A
  · have hhi : start lt d a m b < hi a m b := by omega
    have R := asym hS (s (start lt d a m b) (Nat.le_refl _) hhi)
    have e1 : (a + b) / 2 + m - 1 - start lt d a m b = stop lt d a m b - 1 := by omega
    rw [e1] at R
    have A : lt d[x]! d[start lt d a m b]! = false := by
      by_cases hc : x = start lt d a m b
      · rw [hc]; exact hS.irrefl _
      · exact h1 _ _ (by omega) (by omega) (by omega)
    have B : lt d[stop lt d a m b - 1]! d[y]! = false := by
      by_cases hc : y = stop lt d a m b - 1
      · rw [hc]; exact hS.irrefl _
      · exact h2 _ _ (by omega) (by omega) (by omega)
    exact hS.ntrans _ _ _ (hS.ntrans _ _ _ A R) B

theorem rotd_size (d : Array α) (a m b : Nat) : (rotd lt d a m b).size = d.size := by
  unfold rotd; split
  · exact rotL_size _ _ _ _
  · rfl
theorem rotd_get (d : Array α) (a m b : Nat) (C : Cut lt d a m b (start lt d a m b) (stop lt d a m b)) (hb : b ≤ d.size) (x : Nat) :
    (rotd lt d a m b)[x]! = if start lt d a m b ≤ x ∧ x < (a + b) / 2 then d[x + (m - start lt d a m b)]! else
      if (a + b) / 2 ≤ x ∧ x < stop lt d a m b then d[x - (stop lt d a m b - m)]! else d[x]! := by
  have := C.as; have := C.sm; have := C.me; have := C.eb; have := C.mid
  unfold rotd
  generalize start lt d a m b = s at *
  generalize stop lt d a m b = e at *
  by_cases h : s < m ∧ m < e
  · rw [if_pos h, rotL_get _ _ _ _ (by omega) (by omega) (by omega) (by omega)]
    by_cases c1 : s ≤ x ∧ x < (a + b) / 2
    · rw [if_pos (by omega), if_pos c1]
    rw [if_neg (by omega), if_neg c1]
    by_cases c2 : (a + b) / 2 ≤ x ∧ x < e
    · rw [if_pos (by omega), if_pos c2]
    rw [if_neg (by omega), if_neg c2]
  · rw [if_neg h]
    by_cases c1 : s ≤ x ∧ x < (a + b) / 2
    · rw [if_pos c1]; exact getp (by omega)
    rw [if_neg c1]
    by_cases c2 : (a + b) / 2 ≤ x ∧ x < e
    · rw [if_pos c2]; exact getp (by omega)
    rw [if_neg c2]
theorem rotd_perm (d : Array α) (a m b : Nat) (C : Cut lt d a m b (start lt d a m b) (stop lt d a m b)) (hb : b ≤ d.size) : PermIn a b d (rotd lt d a m b) := by
  have := C.as; have := C.sm; have := C.me; have := C.eb; have := C.mid
  unfold rotd
  split
  · exact rotL_perm _ _ _ _ _ _ (by omega) (by omega) hb
  · exact permIn_refl _ _ _

/-- What the rotation leaves: two runs in each half, and no one of the right half below one of the left half. -/
structure Halves (lt : α → α → Bool) (d : Array α) (a s q e b : Nat) : Prop where
  r1 : SortedIn lt a s d
  r2 : SortedIn lt s q d
  r3 : SortedIn lt q e d
  r4 : SortedIn lt e b d
  c : ∀ x y, a ≤ x → x < q → q ≤ y → y < b → lt d[y]! d[x]! = false

theorem halves (hS : SWO lt) (d : Array α) (a m b : Nat) (h1 : SortedIn lt a m d) (h2 : SortedIn lt m b d) (hb : b ≤ d.size)
    (C : Cut lt d a m b (start lt d a m b) (stop lt d a m b)) : Halves lt (rotd lt d a m b) a (start lt d a m b) ((a + b) / 2) (stop lt d a m b) b := by
  have G := rotd_get d a m b C hb
  obtain ⟨h3, h4, h5, h6, h7, c1, c2⟩ := C
  generalize rotd lt d a m b = r at G
  generalize start lt d a m b = s at *
  generalize stop lt d a m b = e at *
  have g1 : ∀ x, x < s → r[x]! = d[x]! := fun x hx => by rw [G, if_neg (by omega), if_neg (by omega)]
  have g2 : ∀ x, s ≤ x → x < (a + b) / 2 → r[x]! = d[x + (m - s)]! := fun x hx hy => by rw [G, if_pos ⟨hx, hy⟩]
  have g3 : ∀ x, (a + b) / 2 ≤ x → x < e → r[x]! = d[x - (e - m)]! := fun x hx hy => by rw [G, if_neg (by omega), if_pos ⟨hx, hy⟩]
  have g4 : ∀ x, e ≤ x → r[x]! = d[x]! := fun x hx => by rw [G, if_neg (by omega), if_neg (by omega)]
  refine ⟨fun i j hi hij hj => ?_, fun i j hi hij hj => ?_, fun i j hi hij hj => ?_, fun i j hi hij hj => ?_, fun x y hx hxq hy hyb => ?_⟩
  · rw [g1 _ (by omega), g1 _ (by omega)]; exact h1 _ _ hi hij (by omega)
  · rw [g2 _ (by omega) hj, g2 _ (by omega) (by omega)]; exact h2 _ _ (by omega) (by omega) (by omega)
  · rw [g3 _ (by omega) hj, g3 _ (by omega) (by omega)]; exact h1 _ _ (by omega) (by omega) (by omega)
  · rw [g4 _ (by omega), g4 _ (by omega)]; exact h2 _ _ (by omega) hij hj
  · by_cases k1 : x < s
    · rw [g1 _ k1]
      by_cases k2 : y < e
      · rw [g3 _ hy k2]; exact h1 _ _ hx (by omega) (by omega)
      · rw [g4 _ (by omega)]; exact c1 _ _ hx k1 (by omega) hyb
    · rw [g2 _ (by omega) hxq]
      by_cases k2 : y < e
      · rw [g3 _ hy k2]; exact c2 _ _ (by omega) (by omega) (by omega) (by omega)
      · rw [g4 _ (by omega)]; exact h2 _ _ (by omega) (by omega) hyb

theorem sorted_frame {d d' : Array α} {a b A B : Nat} (h : SortedIn lt a b d) (P : PermIn A B d d') (hd : b ≤ A ∨ B ≤ a) : SortedIn lt a b d' := by
  intro i j hi hij hj
  rw [P.2.1 i (by omega), P.2.1 j (by omega)]; exact h i j hi hij hj

theorem all_frame {d d' : Array α} {A B : Nat} {p : α → Prop} (P : PermIn A B d d') (hB : B ≤ d.size) {a b : Nat} (hA : a ≤ A) (hb : B ≤ b) (h : ∀ x, a ≤ x → x < b → p d[x]!) : ∀ x, a ≤ x → x < b → p d'[x]! := by
  intro x hx hy
  by_cases hc : A ≤ x ∧ x < B
  · exact permIn_all d d' A B p hB P (fun i hi hj => h i (by omega) (by omega)) x hc.1 hc.2
  · rw [P.2.1 x (by omega)]; exact h x hx hy

theorem cross_left {d d' : Array α} {A B q b : Nat} (P : PermIn A B d d') (hB : B ≤ d.size) (hBq : B ≤ q) {a : Nat} (hA : a ≤ A)
    (h : ∀ x y, a ≤ x → x < q → q ≤ y → y < b → lt d[y]! d[x]! = false) : ∀ x y, a ≤ x → x < q → q ≤ y → y < b → lt d'[y]! d'[x]! = false := by
  intro x y hx hxq hy hyb
  rw [P.2.1 y (by omega)]
  exact all_frame (p := fun v => lt d[y]! v = false) P hB hA hBq (fun x hx hxq => h x y hx hxq hy hyb) x hx hxq
theorem cross_right {d d' : Array α} {A B q b : Nat} (P : PermIn A B d d') (hB : B ≤ d.size) (hBb : B ≤ b) {a : Nat} (hA : q ≤ A)
    (h : ∀ x y, a ≤ x → x < q → q ≤ y → y < b → lt d[y]! d[x]! = false) : ∀ x y, a ≤ x → x < q → q ≤ y → y < b → lt d'[y]! d'[x]! = false := by
  intro x y hx hxq hy hyb
  rw [P.2.1 x (by omega)]
  exact all_frame (p := fun v => lt v d[x]! = false) P hB hA hBb (fun y hy hyb => h x y hx hxq hy hyb) y hy hyb

theorem symF_holds (hS : SWO lt) : ∀ (N : Nat) (d : Array α) (a m b : Nat), b - a ≤ N → a < m → m < b → b ≤ d.size → SortedIn lt a m d → SortedIn lt m b d →
    PermIn a b d (symF lt d a m b) ∧ SortedIn lt a b (symF lt d a m b) := by
  intro N
  induction N with
  | zero => intro d a m b h1 h2 h3; omega
  | succ N ih =>
    intro d a m b hN ham hmb hb h1 h2
    rw [symF]
    by_cases k1 : m - a = 1
    · rw [if_pos k1]
      obtain ⟨p, q, r, s⟩ := one_cut hS d a m b (by omega) h2
      generalize bs (pOne lt d a) m b = i at *
      refine ⟨shU_perm _ _ _ _ _ (Nat.le_refl _) (by omega) hb, fun x y hx hxy hy => ?_⟩
      have G := shU_get a d (i - 1 - a) (by omega)
      rw [G, G]
      by_cases e1 : x < i - 1
      · rw [if_pos (c := a ≤ x ∧ x < a + (i - 1 - a)) (by omega)]
        by_cases e2 : y < i - 1
        · rw [if_pos (by omega)]; exact h2 _ _ (by omega) (by omega) (by omega)
        · rw [if_neg (by omega)]
          by_cases e3 : y = i - 1
          · rw [if_pos (by omega)]; exact asym hS (r _ (by omega) (by omega))
          · rw [if_neg (by omega)]; exact h2 _ _ (by omega) (by omega) (by omega)
      · rw [if_neg (c := a ≤ y ∧ y < a + (i - 1 - a)) (by omega), if_neg (c := y = a + (i - 1 - a)) (by omega), if_neg (by omega)]
        by_cases e3 : x = i - 1
        · rw [if_pos (by omega)]; exact s _ (by omega) hy
        · rw [if_neg (by omega)]; exact h2 _ _ (by omega) (by omega) (by omega)
    rw [if_neg k1]
    by_cases k2 : b - m = 1
    · rw [if_pos k2]
      obtain ⟨p, q, r, s⟩ := two_cut hS d a m (by omega) h1
      generalize bs (pTwo lt d m) a m = i at *
      refine ⟨shD_perm _ _ _ _ _ (by omega) hmb hb, fun x y hx hxy hy => ?_⟩
      have G := shD_get m d (m - i) (by omega) (by omega)
      have ei : m - (m - i) = i := by omega
      rw [ei] at G
      rw [G, G]
      by_cases e1 : x < i
      · rw [if_neg (c := i < x ∧ x ≤ m) (by omega), if_neg (c := x = i) (by omega)]
        by_cases e2 : i < y
        · rw [if_pos (by omega)]; exact h1 _ _ (by omega) (by omega) (by omega)
        · rw [if_neg (by omega)]
          by_cases e3 : y = i
          · rw [if_pos (by omega)]; exact r _ (by omega) (by omega)
          · rw [if_neg (by omega)]; exact h1 _ _ (by omega) (by omega) (by omega)
      · rw [if_pos (c := i < y ∧ y ≤ m) (by omega)]
        by_cases e3 : x = i
        · rw [if_neg (by omega), if_pos (by omega)]; exact asym hS (s _ (by omega) (by omega))
        · rw [if_pos (by omega)]; exact h1 _ _ (by omega) (by omega) (by omega)
    rw [if_neg k2]
    have C := cut hS d a m b ham hmb h1 h2
    have H := halves hS d a m b h1 h2 hb C
    have P := rotd_perm d a m b C hb
    have hs : (rotd lt d a m b).size = d.size := rotd_size d a m b
    have q1 := C.as; have q2 := C.sm; have q3 := C.me; have q4 := C.eb; have q5 := C.mid
    clear C
    generalize rotd lt d a m b = r at *
    generalize start lt d a m b = s at *
    generalize stop lt d a m b = e at *
    have eq : s + e = (a + b) / 2 + m := q5
    have hq1 : a ≤ (a + b) / 2 := by omega
    have hq2 : (a + b) / 2 ≤ b := by omega
    have hq3 : a < (a + b) / 2 := by omega
    have hq4 : (a + b) / 2 < b := by omega
    clear k1 k2
    obtain ⟨H1, H2, H3, H4, H5⟩ := H
    have L : ∃ r', (if hl : a < s ∧ s < (a + b) / 2 then symF lt r a s ((a + b) / 2) else r) = r' ∧ PermIn a ((a + b) / 2) r r' ∧ SortedIn lt a ((a + b) / 2) r' := by
      refine ⟨_, rfl, ?_⟩
      by_cases hl : a < s ∧ s < (a + b) / 2
      · rw [dif_pos hl]
        exact ih r a s ((a + b) / 2) (by omega) hl.1 hl.2 (by omega) H1 H2
      · rw [dif_neg hl]
        refine ⟨permIn_refl _ _ _, ?_⟩
        by_cases he : a < s
        · have : s = (a + b) / 2 := by omega
          rw [← this]; exact H1
        · have : a = s := by omega
          rw [this] at H2 ⊢; rw [this] at hl; rw [← this] at H2 ⊢; exact H2
    obtain ⟨r', e', P', S'⟩ := L
    rw [e']
    have hs' : r'.size = r.size := P'.1
    have T3 := sorted_frame H3 P' (Or.inr (Nat.le_refl _))
    have T4 := sorted_frame H4 P' (Or.inr (by omega))
    have T5 := cross_left P' (by omega) (Nat.le_refl _) (Nat.le_refl _) H5
    have R : ∃ r'', (if hr : (a + b) / 2 < e ∧ e < b then symF lt r' ((a + b) / 2) e b else r') = r'' ∧ PermIn ((a + b) / 2) b r' r'' ∧ SortedIn lt ((a + b) / 2) b r'' := by
      refine ⟨_, rfl, ?_⟩
      by_cases hr : (a + b) / 2 < e ∧ e < b
      · rw [dif_pos hr]
        exact ih r' _ e b (by omega) hr.1 hr.2 (by omega) T3 T4
      · rw [dif_neg hr]
        refine ⟨permIn_refl _ _ _, ?_⟩
        by_cases he : e < b
        · have hx : (a + b) / 2 = e := by omega
          rw [hx]; exact T4
        · have hx : e = b := by omega
          rw [hx] at T3; exact T3
    obtain ⟨r'', e'', P'', S''⟩ := R
    rw [e'']
    have U5 := cross_right P'' (by omega) (Nat.le_refl _) (Nat.le_refl _) T5
    have U2 := sorted_frame S' P'' (Or.inl (Nat.le_refl _))
    refine ⟨permIn_trans _ _ _ _ _ P (permIn_trans _ _ _ _ _ (permIn_mono _ _ _ _ _ _ (Nat.le_refl _) hq2 (by omega) P') (permIn_mono _ _ _ _ _ _ hq1 (Nat.le_refl _) (by omega) P'')), fun x y hx hxy hy => ?_⟩
    by_cases cx : (a + b) / 2 ≤ x
    · exact S'' _ _ cx hxy hy
    · by_cases cy : (a + b) / 2 ≤ y
      · exact U5 x y hx (by omega) cy hy
      · exact U2 _ _ hx hxy (by omega)
end Go.StableF
