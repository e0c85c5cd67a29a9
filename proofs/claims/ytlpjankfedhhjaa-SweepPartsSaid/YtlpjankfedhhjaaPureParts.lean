/- The parts of a list: what the program makes and what the document makes are the same. -/
import Derived.Test.YtlpjankfedhhjaaP7
namespace Go.Proofs.Ytlpjankfedhhjaa.P
open Go Go.Proofs.YtlpjankfedhhjaaR
open Go.RowKit Go.Proofs.YtlpjankfedhhjaaW.PrintWords Go.Proofs.YtlpjankfedhhjaaW.PrintLast Go.Proofs.YtlpjankfedhhjaaW.PrintMore
set_option linter.unusedVariables false
theorem wrap_sm {x : Int} (h0 : -1000000 ≤ x) (h1 : x ≤ 1000000) : wrap64 x = x := by unfold wrap64; omega
/-- where part i of m begins in a list of n -/
def fr (n m i : Nat) : Nat := i * (n / m) + min i (n % m)
def sz (n m i : Nat) : Nat := n / m + (if i < n % m then 1 else 0)
theorem fr_zero (n m : Nat) : fr n m 0 = 0 := by simp [fr]
theorem fr_succ (n m i : Nat) : fr n m (i + 1) = fr n m i + sz n m i := by
  unfold fr sz
  rw [Nat.add_mul, Nat.one_mul]
  split
  · rw [Nat.min_eq_left (by omega), Nat.min_eq_left (by omega)]; omega
  · rw [Nat.min_eq_right (by omega), Nat.min_eq_right (by omega)]; omega
theorem fr_mono (n m : Nat) : ∀ d i, fr n m i ≤ fr n m (i + d) := by
  intro d
  induction d with
  | zero => intro i; exact Nat.le_refl _
  | succ d ih => intro i; rw [show i + (d + 1) = (i + d) + 1 by omega, fr_succ]; have := ih i; omega
theorem fr_end (n m : Nat) (hm : 0 < m) : fr n m m = n := by
  unfold fr
  rw [Nat.min_eq_right (Nat.le_of_lt (Nat.mod_lt _ hm))]
  exact Nat.div_add_mod n m
theorem fr_le (n m i : Nat) (hm : 0 < m) (hi : i ≤ m) : fr n m i ≤ n := by
  have := fr_mono n m (m - i) i
  rw [show i + (m - i) = m by omega, fr_end n m hm] at this
  exact this
theorem fr_next (n m i : Nat) (hi : i < m) : (n - fr n m i + m - i - 1) / (m - i) = sz n m i := by
  have hm : 0 < m := by omega
  have hr := Nat.mod_lt n hm
  have hdm := Nat.div_add_mod n m
  have key : n - fr n m i = (n / m) * (m - i) + (n % m - min i (n % m)) := by
    unfold fr
    have e : m * (n / m) = i * (n / m) + (n / m) * (m - i) := by
      rw [Nat.mul_comm (n / m) (m - i), ← Nat.add_mul, show i + (m - i) = m by omega]
    omega
  rw [key]
  have hmi : 0 < m - i := by omega
  unfold sz
  by_cases c : i < n % m
  · rw [if_pos c, Nat.min_eq_left (by omega)]
    have e : n / m * (m - i) + (n % m - i) + m - i - 1 = (m - i) * (n / m + 1) + (n % m - i - 1) := by
      rw [Nat.mul_add, Nat.mul_one, Nat.mul_comm (m - i) (n / m)]; omega
    have q0 : (n % m - i - 1) / (m - i) = 0 := Nat.div_eq_of_lt (by omega)
    rw [e, Nat.mul_add_div hmi, q0, Nat.add_zero]
  · rw [if_neg c, Nat.min_eq_right (by omega)]
    have e : n / m * (m - i) + (n % m - n % m) + m - i - 1 = (m - i) * (n / m) + (m - i - 1) := by
      rw [Nat.mul_comm (m - i) (n / m)]; omega
    have q0 : (m - i - 1) / (m - i) = 0 := Nat.div_eq_of_lt (by omega)
    rw [e, Nat.mul_add_div hmi, q0]
def seg (l : List Int) (m i : Nat) : List Int := (l.take (fr l.length m (i + 1))).drop (fr l.length m i)
def sg (l : List Int) (m : Nat) : Nat → Nat → List (List Int)
  | 0, _ => []
  | d + 1, i => seg l m i :: sg l m d (i + 1)
theorem sg_len (l : List Int) (m : Nat) : ∀ d i, (sg l m d i).length = d := by
  intro d
  induction d with
  | zero => intro i; rfl
  | succ d ih => intro i; simp [sg, ih]
theorem sg_at (l : List Int) (m : Nat) : ∀ d i j, j < d → (sg l m d i)[j]? = some (seg l m (i + j)) := by
  intro d
  induction d with
  | zero => intro i j h; omega
  | succ d ih =>
    intro i j h
    cases j with
    | zero => simp [sg]
    | succ j => simp only [sg, List.getElem?_cons_succ]; rw [ih (i + 1) j (by omega)]; congr 2; omega
theorem seg_len (l : List Int) (m i : Nat) (hi : i < m) : (seg l m i).length = sz l.length m i := by
  unfold seg
  have := fr_le l.length m (i + 1) (by omega) (by omega)
  rw [List.length_drop, List.length_take, Nat.min_eq_left this, fr_succ]; omega
theorem seg_app (l : List Int) (m i : Nat) (hi : i < m) : l.take (fr l.length m i) ++ seg l m i = l.take (fr l.length m (i + 1)) := by
  unfold seg
  have h := List.take_append_drop (fr l.length m i) (l.take (fr l.length m (i + 1)))
  rw [List.take_take, Nat.min_eq_left (by rw [fr_succ]; omega)] at h
  exact h
theorem parts_loop (l : List Int) (m : Nat) (hm0 : 0 < m) (hm : m ≤ 100) (hl : l.length ≤ 100) : ∀ (d k i : Nat) (P : List (List Int)), i + d = m → P.length = i → d < k →
    sweep_Parts.l0 k l (m : Int) (P ++ List.replicate d []) (fr l.length m i : Int) (m : Int) (i : Int) = some (P ++ sg l m d i) := by
  intro d
  induction d with
  | zero =>
    intro k i P h hP hk
    obtain ⟨k, rfl⟩ : ∃ j, k = j + 1 := ⟨k - 1, by omega⟩
    rw [sweep_Parts.l0, if_neg (by omega)]
    rfl
  | succ d ih =>
    intro k i P h hP hk
    obtain ⟨k, rfl⟩ : ∃ j, k = j + 1 := ⟨k - 1, by omega⟩
    have h1 := fr_le l.length m i hm0 (by omega)
    have h2 := fr_le l.length m (i + 1) hm0 (by omega)
    have hq : l.length / m ≤ 100 := Nat.le_trans (Nat.div_le_self _ _) hl
    have eq : ((l.length : Int) / (m : Int)) = ((l.length / m : Nat) : Int) := (Int.natCast_ediv _ _).symm
    have er : ((l.length : Int) % (m : Int)) = ((l.length % m : Nat) : Int) := (Int.natCast_emod _ _).symm
    have hset : ∀ x : List Int, (P ++ List.replicate (d + 1) ([] : List Int)).set i x = (P ++ [x]) ++ List.replicate d [] := by
      intro x
      rw [List.replicate_succ, List.set_append_right _ _ (by omega), hP, Nat.sub_self, List.set_cons_zero, List.append_assoc]; rfl
    have hlen : ((P ++ List.replicate (d + 1) ([] : List Int)).length : Int) = (m : Int) := by
      rw [List.length_append, List.length_replicate]; omega
    have fin := ih k (i + 1) (P ++ [seg l m i]) (by omega) (by rw [List.length_append, hP]; rfl) (by omega)
    have hsg : P ++ sg l m (d + 1) i = (P ++ [seg l m i]) ++ sg l m d (i + 1) := by rw [List.append_assoc]; rfl
    have hclone : ∀ x : List Int, x.length ≤ 100 → slices_Clone_int_int.f x = some x := by
      intro x hx; unfold slices_Clone_int_int.f; rw [if_pos (by omega)]
    have hsl : (seg l m i).length ≤ 100 := by unfold seg; rw [List.length_drop, List.length_take]; omega
    have hstep : ∀ t : Int, t = (fr l.length m (i + 1) : Int) → (if 0 ≤ (fr l.length m i : Int) then (if (fr l.length m i : Int) ≤ t then (if t ≤ (l.length : Int) then ((slices_Clone_int_int.f ((l.take t.toNat).drop (fr l.length m i : Int).toNat)).bind fun t105 => (if 0 ≤ (i : Int) then (if (i : Int) < ((P ++ List.replicate (d + 1) ([] : List Int)).length : Int) then (sweep_Parts.l0 k l (m : Int) ((P ++ List.replicate (d + 1) ([] : List Int)).set (i : Int).toNat t105) t (m : Int) (wrap64 ((i : Int) + 1))) else (none)) else (none))) else (none)) else (none)) else (none)) = some (P ++ sg l m (d + 1) i) := by
      intro t ht
      subst ht
      have hs := fr_succ l.length m i
      rw [if_pos (by omega), if_pos (by omega), if_pos (by omega), Int.toNat_natCast, Int.toNat_natCast]
      have e : (l.take (fr l.length m (i + 1))).drop (fr l.length m i) = seg l m i := rfl
      rw [e, hclone _ hsl]
      simp only [Option.bind_some]
      rw [if_pos (by omega), if_pos (by rw [hlen]; omega), Int.toNat_natCast, hset, wrap_sm (by omega) (by omega), hsg]
      exact fin
    rw [sweep_Parts.l0, if_pos (by omega), if_neg (by omega), eq, er]
    have hs := fr_succ l.length m i
    unfold sz at hs
    by_cases c : i < l.length % m
    · rw [if_pos c] at hs
      rw [if_pos (by omega)]
      refine hstep _ ?_
      rw [wrap_sm (x := ((l.length / m : Nat) : Int)) (by omega) (by omega), wrap_sm (x := ((l.length / m : Nat) : Int) + 1) (by omega) (by omega), wrap_sm (by omega) (by omega), hs]
      omega
    · rw [if_neg c] at hs
      rw [if_neg (by omega)]
      refine hstep _ ?_
      rw [wrap_sm (x := ((l.length / m : Nat) : Int)) (by omega) (by omega), wrap_sm (by omega) (by omega), hs]
      omega
theorem parts_is (l : List Int) (a : Int) (m : Nat) (hma : mx a 1 = (m : Int)) (hm0 : 0 < m) (hm : m ≤ 100) (hl : l.length ≤ 100) (k : Nat) (hk : 200 < k) : sweep_Parts.f k l a = some (sg l m m 0) := by
  unfold sweep_Parts.f
  rw [hma, if_pos (by omega), if_pos (by omega), Int.toNat_natCast]
  simp only [Option.bind_some, List.length_replicate]
  have := parts_loop l m hm0 hm hl m k 0 [] (by omega) rfl (by omega)
  rw [fr_zero] at this
  exact this
theorem w1_is (m i : Nat) (hm : m ≤ 100) (hi : i < m) : wrap64 ((m : Int) - (i : Int)) = ((m - i : Nat) : Int) := by
  rw [wrap_sm (by omega) (by omega)]; omega
theorem w2_is (L F m i : Nat) (hL : L ≤ 100) (hF : F ≤ L) (hm : m ≤ 100) (hi : i < m) : wrap64 ((wrap64 ((wrap64 ((wrap64 ((L : Int) - (F : Int))) + (m : Int))) - (i : Int))) - 1) = ((L - F + m - i - 1 : Nat) : Int) := by
  rw [wrap_sm (x := (L : Int) - (F : Int)) (by omega) (by omega), wrap_sm (x := (L : Int) - (F : Int) + (m : Int)) (by omega) (by omega), wrap_sm (x := (L : Int) - (F : Int) + (m : Int) - (i : Int)) (by omega) (by omega), wrap_sm (by omega) (by omega)]
  omega
theorem w4_is (a b c : Nat) (ha : a ≤ 100) (hb : b ≤ 100) (hc : c = a + b) : wrap64 ((a : Int) + wrap64 (b : Int)) = (c : Int) := by
  rw [wrap_sm (x := (b : Int)) (by omega) (by omega), wrap_sm (by omega) (by omega), hc]; omega
theorem refParts_step (k : Nat) (l : List Int) (x1 x6 x7 d n tt : Int) (P : List (List Int)) (h1 : x7 < x1) (h2 : wrap64 (x1 - x7) = d) (h3 : ¬ d = 0) (h4 : wrap64 ((wrap64 ((wrap64 ((wrap64 ((l.length : Int) - x6)) + x1)) - x7)) - 1) = n)
    (h5 : wrap64 (x6 + wrap64 (Int.tdiv n d)) = tt) (h6 : 0 ≤ x6) (h7 : x6 ≤ tt) (h8 : tt ≤ (l.length : Int)) (h9 : ([] : List Int).length + ((l.take tt.toNat).drop x6.toNat).length < 17592186044416) (h10 : P.length < 5864062014805) :
    jitneyref17_Parts.l0 (k + 1) l x1 P x6 x7 = jitneyref17_Parts.l0 k l x1 (P ++ [(l.take tt.toNat).drop x6.toNat]) tt (wrap64 (x7 + 1)) := by
  rw [jitneyref17_Parts.l0, if_pos h1, h2, if_neg h3, h4, h5, Option.bind_some, if_pos h6, if_pos h7, if_pos h8, if_pos h9, if_pos h10, List.nil_append]
theorem refParts_loop (l : List Int) (m : Nat) (hm0 : 0 < m) (hm : m ≤ 100) (hl : l.length ≤ 100) : ∀ (d k i : Nat) (P : List (List Int)), i + d = m → P.length = i → d < k →
    jitneyref17_Parts.l0 k l (m : Int) P (fr l.length m i : Int) (i : Int) = some (P ++ sg l m d i) := by
  intro d
  induction d with
  | zero =>
    intro k i P h hP hk
    obtain ⟨k, rfl⟩ : ∃ j, k = j + 1 := ⟨k - 1, by omega⟩
    rw [jitneyref17_Parts.l0, if_neg (by omega)]
    simp [sg]
  | succ d ih =>
    intro k i P h hP hk
    obtain ⟨k, rfl⟩ : ∃ j, k = j + 1 := ⟨k - 1, by omega⟩
    have h1 := fr_le l.length m i hm0 (by omega)
    have h2 := fr_le l.length m (i + 1) hm0 (by omega)
    have hs := fr_succ l.length m i
    have fin := ih k (i + 1) (P ++ [seg l m i]) (by omega) (by rw [List.length_append, hP]; rfl) (by omega)
    have hsg : P ++ sg l m (d + 1) i = (P ++ [seg l m i]) ++ sg l m d (i + 1) := by rw [List.append_assoc]; rfl
    have hszl : sz l.length m i ≤ 100 := by omega
    have c1 : (i : Int) < (m : Int) := by omega
    have c2 : ¬ ((m - i : Nat) : Int) = 0 := by omega
    have c3 : (0 : Int) ≤ (fr l.length m i : Int) := by omega
    have c4 : (fr l.length m i : Int) ≤ (fr l.length m (i + 1) : Int) := by omega
    have c5 : (fr l.length m (i + 1) : Int) ≤ (l.length : Int) := by omega
    have hPl : P.length < 5864062014805 := by omega
    have c6 : wrap64 ((i : Int) + 1) = ((i + 1 : Nat) : Int) := by rw [wrap_sm (by omega) (by omega)]; omega
    have hsl := seg_len l m i (by omega)
    have c7 : ([] : List Int).length + (seg l m i).length < 17592186044416 := by simp only [List.length_nil]; omega
    have hn := fr_next l.length m i (by omega)
    have w1 := w1_is m i hm (by omega)
    have w2 := w2_is l.length (fr l.length m i) m i hl h1 hm (by omega)
    have w3 : Int.tdiv ((l.length - fr l.length m i + m - i - 1 : Nat) : Int) ((m - i : Nat) : Int) = (sz l.length m i : Int) := by
      rw [← hn]; exact (Int.ofNat_tdiv _ _).symm
    have w4 := w4_is (fr l.length m i) (sz l.length m i) (fr l.length m (i + 1)) (Nat.le_trans h1 hl) hszl hs
    have w5 := w4
    rw [← w3] at w5
    have e : (l.take ((fr l.length m (i + 1) : Nat) : Int).toNat).drop ((fr l.length m i : Nat) : Int).toNat = seg l m i := by rw [Int.toNat_natCast, Int.toNat_natCast]; rfl
    rw [refParts_step k l _ _ _ _ _ _ P c1 w1 c2 w2 w5 c3 c4 c5 (by rw [e]; exact c7) hPl, e, c6, hsg]
    exact fin
theorem refParts_is (l : List Int) (a : Int) (m : Nat) (hma : mx a 1 = (m : Int)) (hm0 : 0 < m) (hm : m ≤ 100) (hl : l.length ≤ 100) (k : Nat) (hk : 200 < k) : jitneyref17_Parts.f k l a = some (sg l m m 0) := by
  obtain ⟨k, rfl⟩ : ∃ j, k = j + 1 := ⟨k - 1, by omega⟩
  have hj : jitneyref17_Parts.j0 (k + 1) l (m : Int) = some (sg l m m 0) := by
    have := refParts_loop l m hm0 hm hl m k 0 [] (by omega) rfl (by omega)
    rw [fr_zero] at this
    rw [jitneyref17_Parts.j0]
    exact this
  unfold jitneyref17_Parts.f
  unfold mx at hma
  by_cases c : a < 1
  · rw [if_pos c] at hma ⊢
    rw [hma]; exact hj
  · rw [if_neg c] at hma ⊢
    rw [hma]; exact hj
theorem sameInts_loop (l : List Int) (hl : l.length ≤ 1000) : ∀ (d k i : Nat), i + d = l.length → d < k → jitneyref01_SameInts.l0 k l l (i : Int) = some true := by
  intro d
  induction d with
  | zero =>
    intro k i h hk
    obtain ⟨k, rfl⟩ : ∃ j, k = j + 1 := ⟨k - 1, by omega⟩
    rw [jitneyref01_SameInts.l0, if_neg (by omega)]
  | succ d ih =>
    intro k i h hk
    obtain ⟨k, rfl⟩ : ∃ j, k = j + 1 := ⟨k - 1, by omega⟩
    rw [jitneyref01_SameInts.l0, if_pos (by omega), if_pos (by omega), if_pos (by omega), if_pos rfl, wrap_sm (by omega) (by omega)]
    exact ih k (i + 1) (by omega) (by omega)
theorem sameInts_is (l : List Int) (hl : l.length ≤ 1000) (k : Nat) (hk : l.length < k) : jitneyref01_SameInts.f k l l = some true := by
  unfold jitneyref01_SameInts.f
  rw [if_pos rfl]
  exact sameInts_loop l hl l.length k 0 (by omega) hk
theorem sameRows_loop (ls : List (List Int)) (hl : ls.length ≤ 1000) (hb : ∀ x ∈ ls, x.length ≤ 1000) : ∀ (d k i : Nat), i + d = ls.length → d + 1001 < k → jitneyref01_SameRows.l0 k ls ls (i : Int) = some true := by
  intro d
  induction d with
  | zero =>
    intro k i h hk
    obtain ⟨k, rfl⟩ : ∃ j, k = j + 1 := ⟨k - 1, by omega⟩
    rw [jitneyref01_SameRows.l0, if_neg (by omega)]
  | succ d ih =>
    intro k i h hk
    obtain ⟨k, rfl⟩ : ∃ j, k = j + 1 := ⟨k - 1, by omega⟩
    have hx : (rd_L1 ls (i : Int)).length ≤ 1000 := by
      unfold rd_L1
      rw [Int.toNat_natCast, List.getD_eq_getElem?_getD, List.getElem?_eq_getElem (by omega)]
      exact hb _ (List.getElem_mem _)
    rw [jitneyref01_SameRows.l0, if_pos (by omega), if_pos (by omega), if_pos (by omega), sameInts_is _ hx k (by omega)]
    simp only [Option.bind_some, if_true]
    rw [wrap_sm (by omega) (by omega)]
    exact ih k (i + 1) (by omega) (by omega)
theorem sameRows_is (ls : List (List Int)) (hl : ls.length ≤ 1000) (hb : ∀ x ∈ ls, x.length ≤ 1000) (k : Nat) (hk : 2100 < k) : jitneyref01_SameRows.f k ls ls = some true := by
  unfold jitneyref01_SameRows.f
  rw [if_pos rfl]
  exact sameRows_loop ls hl hb ls.length k 0 (by omega) (by omega)
theorem sg_mem (l : List Int) (m : Nat) : ∀ d i, ∀ x ∈ sg l m d i, x.length ≤ l.length := by
  intro d
  induction d with
  | zero => intro i x hx; simp [sg] at hx
  | succ d ih =>
    intro i x hx
    simp only [sg, List.mem_cons] at hx
    rcases hx with rfl | hx
    · unfold seg; rw [List.length_drop, List.length_take]; omega
    · exact ih _ x hx
theorem rd_sg (l : List Int) (m i : Nat) (hi : i < m) : rd_L1 (sg l m m 0) (i : Int) = seg l m i := by
  unfold rd_L1
  rw [Int.toNat_natCast, List.getD_eq_getElem?_getD, sg_at l m m 0 i hi, Nat.zero_add]; rfl
theorem law_loop (l : List Int) (a : Int) (m : Nat) (hma : mx a 1 = (m : Int)) (hm0 : 0 < m) (hm : m ≤ 100) (hl : l.length ≤ 100) : ∀ (d k i : Nat), i + d = m → d + 3000 < k →
    jitneylaw17_SweepParts.l0 k l a (sg l m m 0) (l.take (fr l.length m i)) (sg l m m 0) (m : Int) (i : Int) = some true := by
  have hsl : (sg l m m 0).length = m := sg_len l m m 0
  intro d
  induction d with
  | zero =>
    intro k i h hk
    obtain ⟨k, rfl⟩ : ∃ j, k = j + 1 := ⟨k - 1, by omega⟩
    obtain rfl : i = m := by omega
    rw [jitneylaw17_SweepParts.l0, if_neg (by omega), hsl, hma, if_pos rfl, fr_end l.length i hm0, List.take_length, sameInts_is l (by omega) k (by omega)]
    simp only [Option.bind_some, if_true]
    rw [refParts_is l a i hma hm0 hm hl k (by omega)]
    simp only [Option.bind_some]
    rw [sameRows_is (sg l i i 0) (by rw [hsl]; omega) (fun x hx => by have := sg_mem l i i 0 x hx; omega) k (by omega)]
    rfl
  | succ d ih =>
    intro k i h hk
    obtain ⟨k, rfl⟩ : ∃ j, k = j + 1 := ⟨k - 1, by omega⟩
    have h0 : ((0 : Nat) : Int) = 0 := rfl
    have e0 := rd_sg l m 0 hm0
    rw [h0] at e0
    have ei := rd_sg l m i (by omega)
    have l0 := seg_len l m 0 hm0
    have li := seg_len l m i (by omega)
    have hle : sz l.length m i ≤ sz l.length m 0 ∧ sz l.length m 0 ≤ sz l.length m i + 1 := by
      unfold sz
      constructor
      · split
        · rw [if_pos (by omega)]; omega
        · omega
      · split <;> split <;> omega
    have hb : sz l.length m 0 ≤ 100 := by rw [← l0]; have := sg_mem l m m 0 (seg l m 0) (by cases m with | zero => omega | succ m => simp [sg]); omega
    have ht : (l.take (fr l.length m i)).length ≤ 100 := by rw [List.length_take]; omega
    rw [jitneylaw17_SweepParts.l0, if_pos (by omega), if_pos (by omega), hsl, if_pos (by omega), ei, e0, l0, li, if_pos (by omega), if_pos (by omega), if_neg (by omega), wrap_sm (x := (sz l.length m i : Int) + 1) (by omega) (by omega), if_neg (by omega), seg_app l m i (by omega), wrap_sm (by omega) (by omega)]
    exact ih k (i + 1) (by omega) (by omega)
theorem sweepParts_law (l : List Int) (a : Int) : ∃ k, jitneylaw17_SweepParts.f k l a = some true := by
  refine ⟨6000, ?_⟩
  unfold jitneylaw17_SweepParts.f jitneylaw17_alive.f
  simp only [Option.bind_some, if_true]
  have ej : ∀ b : Bool, b = true → jitneylaw17_SweepParts.j0 6000 l a b = some true := by
    intro b hb
    rw [show (6000 : Nat) = 5999 + 1 from rfl, jitneylaw17_SweepParts.j0, if_pos hb]
  by_cases c1 : (l.length : Int) > 100
  · rw [if_pos c1]; exact ej _ rfl
  · rw [if_neg c1]
    by_cases c2 : a > 100
    · rw [decide_eq_true c2]; exact ej _ rfl
    · rw [decide_eq_false c2, show (6000 : Nat) = 5999 + 1 from rfl, jitneylaw17_SweepParts.j0, if_neg (by decide)]
      obtain ⟨m, hma⟩ : ∃ m : Nat, mx a 1 = (m : Int) := ⟨(mx a 1).toNat, by unfold mx; split <;> omega⟩
      have hm : 0 < m ∧ m ≤ 100 := by unfold mx at hma; split at hma <;> omega
      rw [parts_is l a m hma hm.1 hm.2 (by omega) 5999 (by decide)]
      simp only [Option.bind_some]
      have := law_loop l a m hma hm.1 hm.2 (by omega) m 5999 0 (by omega) (by omega)
      rw [fr_zero, List.take_zero] at this
      rw [sg_len]
      exact this
theorem sweepParts_row (l : List Int) (a : Int) (_ : ∀ x ∈ l, (Lit.int .i64 x).wf = true) (_ : l.length * Try.prog.bytesOf 3 ≤ reachBytes) (_ : (Lit.int .i64 a).wf = true) : ∃ k, jitneylaw17_SweepParts.f k l a = some true := sweepParts_law l a
end Go.Proofs.Ytlpjankfedhhjaa.P
