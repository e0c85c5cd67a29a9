/- The document's loop over a decimal tells what the program tells. -/
import Derived.Test.YtfhpppibiemhkaaDoorRead
namespace Go.Proofs.YtfhpppibiemhkaaDoor.P
open Go Go.Proofs.YtfhpppibiemhkaaDoorR
open Go.RowKit Go.Proofs.YtfhpppibiemhkaaDoorW.PrintWords Go.Proofs.YtfhpppibiemhkaaDoorW.PrintLast Go.Proofs.YtfhpppibiemhkaaDoorW.PrintMore
def refEnd (s : Nat) (b : Bool) (v w : Nat) (p : Option Nat) : Int × Int :=
  if w < 1 ∨ w > 13 ∨ p = some 0 ∨ p.getD 0 > s then (0, 21) else told b (v * 10 ^ (s - p.getD 0))
def refL (s : Nat) (b : Bool) : List UInt8 → Nat → Nat → Option Nat → Int × Int
  | [], v, w, p => refEnd s b v w p
  | x :: t, v, w, none => if x = 46 then refL s b t v w (some 0) else if isDig x = true then refL s b t (10 * v + (x.toNat - 48)) (w + 1) none else (0, 21)
  | x :: t, v, w, some p => if isDig x = true then refL s b t (10 * v + (x.toNat - 48)) w (some (p + 1)) else (0, 21)
def pI : Option Nat → Int
  | none => -1
  | some p => (p : Int)
def sat (v : Nat) : Int := if v > 2000000000000000 then 2000000000000000 else (v : Int)
theorem sat_step (v d : Nat) (hd : d ≤ 9) : wrap64 (wrap64 (10 * sat v) + (d : Int)) = 10 * sat v + d := by
  unfold sat
  split
  · rw [wrap_id (x := 10 * 2000000000000000) (by omega) (by omega), wrap_id (by omega) (by omega)]
  · rw [wrap_id (x := 10 * (v : Int)) (by omega) (by omega), wrap_id (by omega) (by omega)]
theorem sat_ten (v : Nat) : wrap64 (10 * sat v) = 10 * sat v := by
  unfold sat
  split <;> rw [wrap_id (by omega) (by omega)]
theorem sat_over (v d : Nat) (hd : d ≤ 9) : (10 * sat v + (d : Int) > 2000000000000000 → sat (10 * v + d) = 2000000000000000 ∧ decide (10 * v + d > 2000000000000000) = true) ∧ (¬ 10 * sat v + (d : Int) > 2000000000000000 → sat (10 * v + d) = 10 * sat v + d ∧ decide (10 * v + d > 2000000000000000) = decide (v > 2000000000000000)) := by
  unfold sat
  by_cases c : v > 2000000000000000
  · rw [if_pos c, if_pos (by omega)]
    refine ⟨fun _ => ⟨rfl, decide_eq_true (by omega)⟩, fun h => absurd h (by omega)⟩
  · rw [if_neg c]
    by_cases c2 : 10 * v + d > 2000000000000000
    · rw [if_pos c2]
      exact ⟨fun _ => ⟨rfl, decide_eq_true c2⟩, fun h => absurd h (by omega)⟩
    · rw [if_neg c2]
      exact ⟨fun h => absurd h (by omega), fun _ => ⟨by push_cast; rfl, by rw [decide_eq_false c2, decide_eq_false c]⟩⟩
theorem ref_l1 (s : Nat) (hs : s ≤ 6) (b : Bool) : ∀ (d k i v : Nat), i + d = s → d < k → jitneyref03_Read.l1 k (s : Int) b (sat v) (decide (v > 2000000000000000)) (i : Int) = some (told b (v * 10 ^ d)) := by
  intro d
  induction d with
  | zero =>
    intro k i v h hk
    obtain ⟨k, rfl⟩ : ∃ m, k = m + 1 := ⟨k - 1, by omega⟩
    rw [jitneyref03_Read.l1, if_neg (by omega), Nat.pow_zero, Nat.mul_one]
    unfold told sat
    by_cases c : v > 2000000000000000
    · rw [if_pos c, decide_eq_true c, if_pos (show v > 1099511627776 by omega)]
      cases b <;> rfl
    · rw [if_neg c, decide_eq_false c, wrap_id (x := -(v : Int)) (by omega) (by omega)]
      cases b
      · rw [if_neg (by decide), if_neg (by decide), if_neg (by omega)]
        by_cases c2 : v > 1099511627776
        · rw [if_pos (by omega), if_pos c2]
        · rw [if_neg (by omega), if_neg c2]; rfl
      · rw [if_pos rfl, if_neg (by decide)]
        by_cases c2 : v > 1099511627776
        · rw [if_pos (by omega), if_pos c2]
        · rw [if_neg (by omega), if_neg (show ¬ -(v : Int) > 1099511627776 by omega), if_neg c2]; rfl
  | succ d ih =>
    intro k i v h hk
    obtain ⟨k, rfl⟩ : ∃ m, k = m + 1 := ⟨k - 1, by omega⟩
    obtain ⟨o1, o2⟩ := sat_over v 0 (by omega)
    simp only [Nat.add_zero, Int.natCast_zero, Int.add_zero] at o1 o2
    rw [jitneyref03_Read.l1, if_pos (by omega), sat_ten, wrap_nat (by omega)]
    have e : v * 10 ^ (d + 1) = (10 * v) * 10 ^ d := by rw [Nat.pow_succ]; rw [Nat.mul_comm 10 v, Nat.mul_assoc, Nat.mul_comm (10 ^ d) 10]
    rw [e, ← ih k (i + 1) (10 * v) (by omega) (by omega)]
    by_cases c : 10 * sat v > 2000000000000000
    · rw [if_pos c, (o1 c).1, (o1 c).2]
    · rw [if_neg c, (o2 c).1, (o2 c).2]
theorem ref_j6 (s : Nat) (hs : s ≤ 6) (b : Bool) (k v : Nat) (p : Option Nat) (hk : 10 ≤ k) (h0 : p ≠ some 0) (hp : p.getD 0 ≤ s) :
    jitneyref03_Read.j6 k (s : Int) b (sat v) (decide (v > 2000000000000000)) (pI p) false = some (told b (v * 10 ^ (s - p.getD 0))) := by
  obtain ⟨k, rfl⟩ : ∃ m, k = m + 2 := ⟨k - 2, by omega⟩
  rw [jitneyref03_Read.j6, if_neg (by decide)]
  cases p with
  | none =>
    rw [if_pos (by decide), jitneyref03_Read.j7]
    exact ref_l1 s hs b s k 0 v (by omega) (by omega)
  | some q =>
    have hq : ¬ (pI (some q) < 0) := by show ¬ ((q : Int) < 0); omega
    have hq2 : q ≤ s := hp
    rw [if_neg hq, jitneyref03_Read.j7]
    exact ref_l1 s hs b (s - q) k q v (by omega) (by omega)
theorem ref_end (s : Nat) (hs : s ≤ 6) (b : Bool) (k v w : Nat) (p : Option Nat) (hk : 10 ≤ k) :
    (if (w : Int) < 1 then (jitneyref03_Read.j6 k (s : Int) b (sat v) (decide (v > 2000000000000000)) (pI p) true) else (if (w : Int) > 13 then (jitneyref03_Read.j6 k (s : Int) b (sat v) (decide (v > 2000000000000000)) (pI p) true) else (if pI p = 0 then (jitneyref03_Read.j6 k (s : Int) b (sat v) (decide (v > 2000000000000000)) (pI p) true) else (jitneyref03_Read.j6 k (s : Int) b (sat v) (decide (v > 2000000000000000)) (pI p) (decide (pI p > (s : Int))))))) = some (refEnd s b v w p) := by
  have ht : jitneyref03_Read.j6 k (s : Int) b (sat v) (decide (v > 2000000000000000)) (pI p) true = some (0, 21) := by
    obtain ⟨k, rfl⟩ : ∃ m, k = m + 1 := ⟨k - 1, by omega⟩
    rw [jitneyref03_Read.j6, if_pos rfl]
  rw [ht]
  unfold refEnd
  have hp0 : pI p = 0 ↔ p = some 0 := by
    cases p with
    | none => simp [pI]
    | some q => simp [pI]
  have hps : pI p > (s : Int) ↔ p.getD 0 > s := by
    cases p with
    | none => simp [pI]
    | some q => simp [pI]
  by_cases c1 : w < 1
  · rw [if_pos (by omega), if_pos (.inl c1)]
  · rw [if_neg (by omega)]
    by_cases c2 : w > 13
    · rw [if_pos (by omega), if_pos (.inr (.inl c2))]
    · rw [if_neg (by omega)]
      by_cases c3 : p = some 0
      · rw [if_pos (hp0.2 c3), if_pos (.inr (.inr (.inl c3)))]
      · rw [if_neg (fun h => c3 (hp0.1 h))]
        by_cases c4 : p.getD 0 > s
        · rw [decide_eq_true (hps.2 c4), ht, if_pos (.inr (.inr (.inr c4)))]
        · rw [decide_eq_false (fun h => c4 (hps.1 h)), if_neg (by rintro (h | h | h | h) <;> first | exact c1 h | exact c2 h | exact c3 h | exact c4 h)]
          exact ref_j6 s hs b k v p hk c3 (by omega)
theorem ref_l0 (a : ByteArray) (ha : a.size ≤ 1000000) (s : Nat) (hs : s ≤ 6) (b : Bool) : ∀ (d k i v w : Nat) (p : Option Nat), i + d = a.size → 3 * d + 20 ≤ k → w ≤ i → p.getD 0 ≤ i → jitneyref03_Read.l0 k a (s : Int) (i : Int) b (sat v) (decide (v > 2000000000000000)) (w : Int) (pI p) = some (refL s b (a.data.toList.drop i) v w p) := by
  intro d
  induction d with
  | zero =>
    intro k i v w p h hk hw hp
    obtain ⟨k, rfl⟩ : ∃ m, k = m + 1 := ⟨k - 1, by omega⟩
    rw [jitneyref03_Read.l0, if_neg (by omega), drop_end a i (by omega), refL, ref_end s hs b k v w p (by omega)]
  | succ d ih =>
    intro k i v w p h hk hw hp
    obtain ⟨k, rfl⟩ : ∃ m, k = m + 3 := ⟨k - 3, by omega⟩
    obtain ⟨x, hx, hb⟩ := bt_drop a i (by omega)
    rw [jitneyref03_Read.l0, if_pos (by omega), if_pos (by omega), hb, hx, wrap_nat (by omega)]
    -- the digits' arm, the same for both
    have hdig : ∀ p : Option Nat, p.getD 0 ≤ i → jitneyref03_Read.j4 (k + 2) a (s : Int) ((i + 1 : Nat) : Int) b (sat v) (decide (v > 2000000000000000)) (w : Int) (pI p) (x.toNat : Int) false = some (if isDig x = true then refL s b (a.data.toList.drop (i + 1)) (10 * v + (x.toNat - 48)) (if p = none then w + 1 else w) (p.map (· + 1)) else (0, 21)) := by
      intro p hp
      rw [jitneyref03_Read.j4, if_neg (by decide)]
      by_cases c1 : (x.toNat : Int) < 48
      · have e : isDig x = false := decide_eq_false (by omega)
        rw [if_pos c1, jitneyref03_Read.j5, if_pos rfl, e, if_neg (by decide)]
      · rw [if_neg c1]
        by_cases c2 : (x.toNat : Int) > 57
        · have e : isDig x = false := decide_eq_false (by omega)
          rw [decide_eq_true c2, jitneyref03_Read.j5, if_pos rfl, e, if_neg (by decide)]
        · have e : isDig x = true := decide_eq_true (by omega)
          rw [decide_eq_false c2, jitneyref03_Read.j5, if_neg (by decide), e, if_pos rfl]
          have hd : ((x.toNat : Int) - 48) % 256 = ((x.toNat - 48 : Nat) : Int) := by omega
          rw [hd, sat_step v (x.toNat - 48) (by omega)]
          obtain ⟨o1, o2⟩ := sat_over v (x.toNat - 48) (by omega)
          cases p with
          | none =>
            rw [if_neg (show ¬ pI none ≥ 0 by decide), if_pos rfl]
            have := ih k (i + 1) (10 * v + (x.toNat - 48)) (w + 1) none (by omega) (by omega) (by omega) (by omega)
            rw [Option.map_none, ← this, wrap_nat (by omega)]
            by_cases c : 10 * sat v + ((x.toNat - 48 : Nat) : Int) > 2000000000000000
            · rw [if_pos c, (o1 c).1, (o1 c).2]
            · rw [if_neg c, (o2 c).1, (o2 c).2]
          | some q =>
            have hq : q ≤ i := hp
            have hqi : pI (some q) = (q : Int) := rfl
            have hne : (if (some q : Option Nat) = none then w + 1 else w) = w := if_neg (by simp)
            rw [hqi, if_pos (show (q : Int) ≥ 0 by omega), hne]
            have := ih k (i + 1) (10 * v + (x.toNat - 48)) w (some (q + 1)) (by omega) (by omega) (by omega) (by show q + 1 ≤ i + 1; omega)
            rw [Option.map_some, ← this, wrap_nat (by omega)]
            have hqi2 : pI (some (q + 1)) = ((q + 1 : Nat) : Int) := rfl
            rw [hqi2]
            by_cases c : 10 * sat v + ((x.toNat - 48 : Nat) : Int) > 2000000000000000
            · rw [if_pos c, (o1 c).1, (o1 c).2]
            · rw [if_neg c, (o2 c).1, (o2 c).2]
    cases p with
    | none =>
      rw [refL]
      by_cases c : x = 46
      · have hc : (x.toNat : Int) = 46 := by rw [c]; rfl
        rw [if_pos hc, if_pos c, decide_eq_true (show pI none < 0 by decide), jitneyref03_Read.j4, if_pos rfl]
        exact ih (k + 1) (i + 1) v w (some 0) (by omega) (by omega) (by omega) (by show 0 ≤ i + 1; omega)
      · have hc : ¬ (x.toNat : Int) = 46 := by
          intro h
          apply c
          apply UInt8.toNat_inj.1
          have : x.toNat = 46 := by omega
          rw [this]; rfl
        rw [if_neg hc, if_neg c, hdig none hp]
        rfl
    | some q =>
      rw [refL]
      by_cases c : x = 46
      · have hc : (x.toNat : Int) = 46 := by rw [c]; rfl
        have hqn : ¬ (pI (some q) < 0) := by show ¬ ((q : Int) < 0); omega
        rw [if_pos hc, decide_eq_false hqn, hdig (some q) hp]
        rfl
      · have hc : ¬ (x.toNat : Int) = 46 := by
          intro h
          apply c
          apply UInt8.toNat_inj.1
          have : x.toNat = 46 := by omega
          rw [this]; rfl
        rw [if_neg hc, hdig (some q) hp]
        rfl
theorem refL_some (s : Nat) (b : Bool) : ∀ (r : List UInt8) (v w p : Nat), refL s b r v w (some p) = if r.all isDig = true then refEnd s b (v * 10 ^ r.length + val r) w (some (p + r.length)) else (0, 21) := by
  intro r
  induction r with
  | nil => intro v w p; rw [refL, List.all_nil, if_pos rfl]; simp [val]
  | cons x t ih =>
    intro v w p
    rw [refL, List.all_cons]
    cases hx : isDig x
    · rfl
    · rw [if_pos rfl, ih, Bool.true_and]
      have e : val (x :: t) = (x.toNat - 48) * 10 ^ t.length + val t := by
        show (x :: t).foldl _ 0 = _
        rw [List.foldl_cons, val_cons_from]; simp
      have e2 : (10 * v + (x.toNat - 48)) * 10 ^ t.length + val t = v * 10 ^ (x :: t).length + val (x :: t) := by
        rw [e, List.length_cons, Nat.pow_succ, Nat.add_mul, Nat.mul_comm 10 v, Nat.mul_assoc, Nat.mul_comm 10 (10 ^ t.length)]
        omega
      rw [e2, List.length_cons, show p + 1 + t.length = p + (t.length + 1) by omega]
theorem isDig46 : isDig 46 = false := by decide
theorem refL_none (s : Nat) (b : Bool) : ∀ (r : List UInt8) (v w : Nat), refL s b r v w none = if (spt r).1.all isDig = true then (match (spt r).2 with | none => refEnd s b (v * 10 ^ (spt r).1.length + val (spt r).1) (w + (spt r).1.length) none | some f => refL s b f (v * 10 ^ (spt r).1.length + val (spt r).1) (w + (spt r).1.length) (some 0)) else (0, 21) := by
  intro r
  induction r with
  | nil => intro v w; simp [refL, spt, val]
  | cons x t ih =>
    intro v w
    rw [refL]
    by_cases c : x = 46
    · rw [if_pos c]
      simp [spt, c, val]
    · rw [if_neg c]
      have hs : spt (x :: t) = (x :: (spt t).1, (spt t).2) := by rw [spt, if_neg c]
      rw [hs]
      show _ = if (x :: (spt t).1).all isDig = true then _ else _
      rw [List.all_cons]
      cases hx : isDig x
      · rfl
      · rw [if_pos rfl, ih, Bool.true_and]
        generalize (spt t).1 = u
        have e : val (x :: u) = (x.toNat - 48) * 10 ^ u.length + val u := by
          show (x :: u).foldl _ 0 = _
          rw [List.foldl_cons, val_cons_from]; simp
        have e2 : (10 * v + (x.toNat - 48)) * 10 ^ u.length + val u = v * 10 ^ (x :: u).length + val (x :: u) := by
          rw [e, List.length_cons, Nat.pow_succ, Nat.add_mul, Nat.mul_comm 10 v, Nat.mul_assoc, Nat.mul_comm 10 (10 ^ u.length)]
          omega
        simp only
        rw [e2, List.length_cons, show w + 1 + u.length = w + (u.length + 1) by omega]
theorem okd_true {l : List UInt8} {m : Nat} (h : l.all isDig = true) (c : 1 ≤ l.length ∧ l.length ≤ m) : okd l m = true := by
  unfold okd; rw [h, decide_eq_true c.1, decide_eq_true c.2]; rfl
theorem okd_false {l : List UInt8} {m : Nat} (c : ¬ (l.all isDig = true ∧ 1 ≤ l.length ∧ l.length ≤ m)) : okd l m = false := by
  cases h : okd l m with
  | false => rfl
  | true => exact absurd (okd_all h) c
theorem refL_read (s : Nat) (l : List UInt8) : refL s (neg l) (body l) 0 0 none = if (okd (spt (body l)).1 13 && okp (spt (body l)).2 s) = true then told (neg l) (num l s) else (0, 21) := by
  rw [refL_none]
  unfold num
  generalize neg l = b
  generalize spt (body l) = p
  obtain ⟨w, f⟩ := p
  simp only [Nat.zero_mul, Nat.zero_add]
  cases hw : w.all isDig
  · rw [okd_false (l := w) (m := 13) (by rw [hw]; simp)]; rfl
  · rw [if_pos rfl]
    cases f with
    | none =>
      show refEnd s b (val w) w.length none = if (okd w 13 && okp none s) = true then told b (val w * 10 ^ s + val [] * 10 ^ (s - 0)) else (0, 21)
      rw [show okp none s = true from rfl, Bool.and_true]
      unfold refEnd
      by_cases c : 1 ≤ w.length ∧ w.length ≤ 13
      · rw [okd_true hw c, if_pos rfl, if_neg (by rintro (h | h | h | h); · omega
                                                  · omega
                                                  · cases h
                                                  · exact absurd h (Nat.not_lt_zero _))]
        simp [val]
      · have hc : w.length < 1 ∨ w.length > 13 ∨ (none : Option Nat) = some 0 ∨ (none : Option Nat).getD 0 > s := by
          by_cases h : w.length < 1
          · exact .inl h
          · exact .inr (.inl (by omega))
        rw [okd_false (fun h => c h.2), if_pos hc]; rfl
    | some f =>
      show refL s b f (val w) w.length (some 0) = if (okd w 13 && okp (some f) s) = true then told b (val w * 10 ^ s + val f * 10 ^ (s - f.length)) else (0, 21)
      rw [show okp (some f) s = okd f s from rfl, refL_some]
      cases hf : f.all isDig
      · rw [okd_false (l := f) (m := s) (by rw [hf]; simp), Bool.and_false]; rfl
      · rw [if_pos rfl]
        unfold refEnd
        have e1 : (some (0 + f.length) : Option Nat).getD 0 = f.length := by simp
        have e2 : (some (0 + f.length) : Option Nat) = some 0 ↔ f.length = 0 := by simp
        rw [e1]
        by_cases c : (1 ≤ w.length ∧ w.length ≤ 13) ∧ (1 ≤ f.length ∧ f.length ≤ s)
        · rw [if_neg (by rw [e2]; omega), okd_true hw c.1, okd_true hf c.2, if_pos (by rfl), Nat.add_mul, Nat.mul_assoc, ← Nat.pow_add, show f.length + (s - f.length) = s by omega]
        · rw [if_pos (by rw [e2]; omega)]
          by_cases c1 : 1 ≤ w.length ∧ w.length ≤ 13
          · rw [okd_false (l := f) (m := s) (fun h => c ⟨c1, h.2⟩), Bool.and_false, if_neg (by decide)]
          · rw [okd_false (l := w) (m := 13) (fun h => c1 h.2), Bool.false_and, if_neg (by decide)]
theorem refRead_is (k : Nat) (a : ByteArray) (scale : Int) (ha : a.size ≤ 1000000) (hk : 3 * a.size + 30 < k) : jitneyref03_Read.f k a scale = some (readL a.data.toList scale) := by
  unfold jitneyref03_Read.f
  obtain ⟨k, rfl⟩ : ∃ m, k = m + 3 := ⟨k - 3, by omega⟩
  unfold readL
  by_cases c0 : scale < 0
  · rw [if_pos c0, if_pos (.inl c0), jitneyref03_Read.j0, if_pos rfl]
  · rw [if_neg c0]
    by_cases c1 : scale > 6
    · rw [decide_eq_true c1, if_pos (.inr c1), jitneyref03_Read.j0, if_pos rfl]
    · rw [decide_eq_false c1, if_neg (by omega), jitneyref03_Read.j0, if_neg (by decide)]
      obtain ⟨s, rfl⟩ : ∃ s : Nat, scale = s := ⟨scale.toNat, by omega⟩
      rw [Int.toNat_natCast, ← refL_read s a.data.toList]
      have hs0 : sat 0 = 0 := rfl
      have hd0 : decide (0 > 2000000000000000) = false := rfl
      have hsz := Lib.size_eq a
      by_cases cz : (a.size : Int) > 0
      · rw [if_pos cz, if_pos cz]
        obtain ⟨x, hx, hb⟩ := bt_drop a 0 (by omega)
        have hb0 : bt a 0 = (x.toNat : Int) := hb
        rw [List.drop_zero] at hx
        have hn : (bt a 0 == 45) = neg a.data.toList := by
          rw [hb0, hx]
          unfold neg
          rw [List.head?_cons]
          by_cases c : x = 45
          · subst c; rfl
          · have h1 : ¬ (x.toNat : Int) = 45 := by
              intro h
              apply c
              apply UInt8.toNat_inj.1
              have : x.toNat = 45 := by omega
              rw [this]; rfl
            rw [beq_eq_false_iff_ne.2 h1]
            symm
            exact beq_eq_false_iff_ne.2 (fun h => c (Option.some.inj h))
        rw [hn, jitneyref03_Read.j1]
        unfold body
        cases hg : neg a.data.toList
        · rw [if_neg (by decide), if_neg (by decide), jitneyref03_Read.j2]
          have := ref_l0 a ha s (by omega) false a.size k 0 0 0 none (by omega) (by omega) (Nat.le_refl _) (Nat.le_refl _)
          rw [List.drop_zero] at this
          exact this
        · rw [if_pos rfl, if_pos rfl, jitneyref03_Read.j2]
          have := ref_l0 a ha s (by omega) true (a.size - 1) k 1 0 0 none (by omega) (by omega) (by omega) (Nat.zero_le _)
          rw [List.drop_one] at this
          exact this
      · have hl : a.data.toList = [] := List.length_eq_zero_iff.1 (by omega)
        rw [if_neg cz, jitneyref03_Read.j1, if_neg (by decide), jitneyref03_Read.j2]
        have := ref_l0 a ha s (by omega) false 0 k 0 0 0 none (by omega) (by omega) (Nat.le_refl _) (Nat.le_refl _)
        rw [List.drop_zero] at this
        rw [hl] at this ⊢
        exact this
end Go.Proofs.YtfhpppibiemhkaaDoor.P
