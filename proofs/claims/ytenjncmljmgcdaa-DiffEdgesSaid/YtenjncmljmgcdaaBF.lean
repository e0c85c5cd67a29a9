/- Least sums of ways: the rounds of the search, and what they leave. Plain facts. -/
import Derived.Test.YtenjncmljmgcdaaP0
import Derived.Test.YtenjncmljmgcdaaHelp
namespace Go.Proofs.Ytenjncmljmgcdaa.P
set_option linter.unusedVariables false
/-- A way from u to v by the edges l, and its sum. -/
def Way (es : List S42) : Int → List Nat → Int → Int → Prop
  | u, [], v, s => u = v ∧ s = 0
  | u, i :: l, v, s => ∃ e, es[i]? = some e ∧ e.f0 = u ∧ Way es e.f1 l v (s - e.f2)
theorem Way.append {es : List S42} : ∀ {l1 : List Nat} {l2 : List Nat} {u v s : Int}, Way es u (l1 ++ l2) v s ↔ ∃ y s1, Way es u l1 y s1 ∧ Way es y l2 v (s - s1)
  | [], l2, u, v, s => by
    constructor
    · intro h
      exact ⟨u, 0, ⟨rfl, rfl⟩, by rw [Int.sub_zero]; exact h⟩
    · rintro ⟨y, s1, ⟨rfl, rfl⟩, h⟩
      rw [Int.sub_zero] at h
      exact h
  | i :: l1, l2, u, v, s => by
    constructor
    · rintro ⟨e, h1, h2, h3⟩
      obtain ⟨y, s1, h4, h5⟩ := Way.append.1 h3
      refine ⟨y, s1 + e.f2, ⟨e, h1, h2, ?_⟩, ?_⟩
      · rw [show s1 + e.f2 - e.f2 = s1 by omega]; exact h4
      · rw [show s - (s1 + e.f2) = s - e.f2 - s1 by omega]; exact h5
    · rintro ⟨y, s1, ⟨e, h1, h2, h4⟩, h5⟩
      refine ⟨e, h1, h2, Way.append.2 ⟨y, s1 - e.f2, h4, ?_⟩⟩
      rw [show s - e.f2 - (s1 - e.f2) = s - s1 by omega]
      exact h5
theorem Way.one {es : List S42} {i : Nat} {e : S42} (h : es[i]? = some e) : Way es e.f0 [i] e.f1 e.f2 := ⟨e, h, rfl, rfl, by omega⟩
theorem Way.snoc {es : List S42} {u v s : Int} {l : List Nat} {i : Nat} {e : S42} (h : Way es u l v s) (he : es[i]? = some e) (hv : e.f0 = v) : Way es u (l ++ [i]) e.f1 (s + e.f2) := by
  refine Way.append.2 ⟨v, s, h, ?_⟩
  subst hv
  rw [show s + e.f2 - s = e.f2 by omega]
  exact Way.one he
theorem Way.snoc_inv {es : List S42} {u v s : Int} {l : List Nat} {i : Nat} (h : Way es u (l ++ [i]) v s) : ∃ e, es[i]? = some e ∧ e.f1 = v ∧ Way es u l e.f0 (s - e.f2) := by
  obtain ⟨y, s1, h1, e, h2, rfl, h3, h4⟩ := Way.append.1 h
  refine ⟨e, h2, h3, ?_⟩
  rw [show s - e.f2 = s1 by omega]
  exact h1
theorem Way.trans {es : List S42} {u v x s t : Int} {l1 l2 : List Nat} (h : Way es u l1 v s) (g : Way es v l2 x t) : Way es u (l1 ++ l2) x (s + t) :=
  Way.append.2 ⟨v, s, h, by rw [show s + t - s = t by omega]; exact g⟩
/-- All edges lie within n, and no weight is too great. -/
def RightE (es : List S42) (n : Int) : Prop := ∀ e ∈ es, 0 ≤ e.f0 ∧ e.f0 < n ∧ 0 ≤ e.f1 ∧ e.f1 < n ∧ -2199023255552 ≤ e.f2 ∧ e.f2 ≤ 2199023255552
theorem Way.low {es : List S42} {n : Int} (hR : RightE es n) : ∀ {l : List Nat} {u v s : Int}, Way es u l v s → -(2199023255552 * (l.length : Int)) ≤ s
  | [], u, v, s, h => by obtain ⟨_, rfl⟩ := h; simp
  | i :: l, u, v, s, h => by
    obtain ⟨e, h1, _, h3⟩ := h
    have := Way.low hR h3
    have := hR e (List.mem_of_getElem? h1)
    rw [List.length_cons]
    omega
theorem Way.inn {es : List S42} {n : Int} (hR : RightE es n) : ∀ {l : List Nat} {u v s : Int}, Way es u l v s → 0 ≤ u → u < n → 0 ≤ v ∧ v < n
  | [], u, v, s, h, h0, h1 => by obtain ⟨rfl, _⟩ := h; exact ⟨h0, h1⟩
  | i :: l, u, v, s, h, h0, h1 => by
    obtain ⟨e, he, _, h3⟩ := h
    have := hR e (List.mem_of_getElem? he)
    exact Way.inn hR h3 (by omega) (by omega)
/-- Each edge holds of the distances. -/
def Fix (es : List S42) (d : Int → Int) : Prop := ∀ e ∈ es, d e.f0 = 1152921504606846976 ∨ d e.f1 ≤ d e.f0 + e.f2
def Bd (B : Int) (d : Int → Int) : Prop := ∀ v, d v = 1152921504606846976 ∨ (-B ≤ d v ∧ d v ≤ B)
theorem Way.fix {es : List S42} {n B : Int} {d : Int → Int} (hR : RightE es n) (hF : Fix es d) (hB : Bd B d) (hb : B + 2199023255552 < 1152921504606846976) :
    ∀ {l : List Nat} {u v s : Int}, Way es u l v s → d u ≠ 1152921504606846976 → d v ≠ 1152921504606846976 ∧ d v ≤ d u + s
  | [], u, v, s, h, hu => by obtain ⟨rfl, rfl⟩ := h; exact ⟨hu, by omega⟩
  | i :: l, u, v, s, h, hu => by
    obtain ⟨e, h1, rfl, h3⟩ := h
    have he := List.mem_of_getElem? h1
    have hr := hR e he
    have h4 := (hF e he).resolve_left hu
    have h5 := (hB e.f0).resolve_left hu
    obtain ⟨h6, h7⟩ := Way.fix hR hF hB hb h3 (by omega)
    exact ⟨h6, by omega⟩
def put (f : Int → Int) (v x : Int) : Int → Int := fun y => if y = v then x else f y
theorem put_same (f : Int → Int) (v x : Int) : put f v x v = x := by unfold put; rw [if_pos rfl]
theorem put_ne (f : Int → Int) {v y : Int} (x : Int) (h : y ≠ v) : put f v x y = f y := by unfold put; rw [if_neg h]
structure Sta where
  d : Int → Int
  b : Int → Int
  last : Int
def relax (i : Nat) (e : S42) (s : Sta) : Sta := if s.d e.f0 = 1152921504606846976 ∨ s.d e.f1 ≤ s.d e.f0 + e.f2 then s else ⟨put s.d e.f1 (s.d e.f0 + e.f2), put s.b e.f1 i, e.f1⟩
def rnd : List S42 → Nat → Sta → Sta
  | [], _, s => s
  | e :: r, i, s => rnd r (i + 1) (relax i e s)
theorem relax_cases (i : Nat) (e : S42) (s : Sta) : (relax i e s = s ∧ (s.d e.f0 = 1152921504606846976 ∨ s.d e.f1 ≤ s.d e.f0 + e.f2)) ∨
    (relax i e s = ⟨put s.d e.f1 (s.d e.f0 + e.f2), put s.b e.f1 i, e.f1⟩ ∧ s.d e.f0 ≠ 1152921504606846976 ∧ s.d e.f0 + e.f2 < s.d e.f1) := by
  unfold relax
  by_cases h : s.d e.f0 = 1152921504606846976 ∨ s.d e.f1 ≤ s.d e.f0 + e.f2
  · exact .inl ⟨if_pos h, h⟩
  · exact .inr ⟨if_neg h, fun hc => h (.inl hc), by have := fun hc => h (.inr hc); omega⟩
theorem relax_le (i : Nat) (e : S42) (s : Sta) (v : Int) : (relax i e s).d v ≤ s.d v := by
  rcases relax_cases i e s with ⟨h, _⟩ | ⟨h, _, h2⟩
  · rw [h]; exact Int.le_refl _
  · rw [h]
    show put s.d e.f1 (s.d e.f0 + e.f2) v ≤ s.d v
    by_cases hv : v = e.f1
    · subst hv; rw [put_same]; omega
    · rw [put_ne _ _ hv]; exact Int.le_refl _
theorem rnd_le : ∀ (r : List S42) (i : Nat) (s : Sta) (v : Int), (rnd r i s).d v ≤ s.d v
  | [], i, s, v => Int.le_refl _
  | e :: r, i, s, v => Int.le_trans (rnd_le r (i + 1) (relax i e s) v) (relax_le i e s v)
theorem rnd_last : ∀ (r : List S42) (i : Nat) (s : Sta), (rnd r i s = s ∧ Fix r s.d) ∨ (∃ e ∈ r, (rnd r i s).last = e.f1 ∧ (rnd r i s).d e.f1 < s.d e.f1)
  | [], i, s => .inl ⟨rfl, fun e h => by cases h⟩
  | e :: r, i, s => by
    unfold rnd
    rcases relax_cases i e s with ⟨h, h1⟩ | ⟨h, _, h2⟩
    · rw [h]
      rcases rnd_last r (i + 1) s with ⟨h3, h4⟩ | ⟨e2, h3, h4⟩
      · refine .inl ⟨h3, fun e' he' => ?_⟩
        rcases List.mem_cons.1 he' with rfl | he'
        · exact h1
        · exact h4 e' he'
      · exact .inr ⟨e2, List.mem_cons_of_mem _ h3, h4⟩
    · right
      rcases rnd_last r (i + 1) (relax i e s) with ⟨h3, h4⟩ | ⟨e2, h3, h4, h5⟩
      · refine ⟨e, List.mem_cons_self, ?_⟩
        rw [h3, h]
        exact ⟨rfl, by show put s.d e.f1 (s.d e.f0 + e.f2) e.f1 < s.d e.f1; rw [put_same]; exact h2⟩
      · exact ⟨e2, List.mem_cons_of_mem _ h3, h4, Int.lt_of_lt_of_le h5 (relax_le i e s _)⟩
/-- The edge by which a number was come to. -/
def eb (es : List S42) (b : Int → Int) (v : Int) : Option S42 := if b v < 0 then none else es[(b v).toNat]?
/-- k steps back: where they lead, and the sum. -/
def pw (es : List S42) (b : Int → Int) : Nat → Int → Option (Int × Int)
  | 0, v => some (v, 0)
  | k + 1, v => match pw es b k v with
    | none => none
    | some (y, x) => match eb es b y with
      | none => none
      | some e => some (e.f0, x + e.f2)
theorem pw_succ {es : List S42} {b : Int → Int} {k : Nat} {v y x : Int} (h : pw es b (k + 1) v = some (y, x)) : ∃ y0 x0 e, pw es b k v = some (y0, x0) ∧ eb es b y0 = some e ∧ y = e.f0 ∧ x = x0 + e.f2 := by
  unfold pw at h
  split at h
  · cases h
  · rename_i y0 x0 h0
    split at h
    · cases h
    · rename_i e he
      cases h
      exact ⟨y0, x0, e, h0, he, rfl, rfl⟩
theorem pw_next {es : List S42} {b : Int → Int} {k : Nat} {v y x : Int} {e : S42} (h : pw es b k v = some (y, x)) (he : eb es b y = some e) : pw es b (k + 1) v = some (e.f0, x + e.f2) := by
  unfold pw
  rw [h]
  show (match eb es b y with | none => none | some e => some (e.f0, x + e.f2)) = _
  rw [he]
/-- What a round keeps. -/
structure Inv (es : List S42) (F : Int) (B : Int) (s : Sta) : Prop where
  bd : Bd B s.d
  way : ∀ v, s.d v ≠ 1152921504606846976 → ∃ l, Way es F l v (s.d v)
  par : ∀ v, s.b v = -1 ∨ ∃ (i : Nat) (e : S42), s.b v = i ∧ es[i]? = some e ∧ e.f1 = v ∧ s.d e.f0 ≠ 1152921504606846976 ∧ s.d v ≠ 1152921504606846976 ∧ s.d e.f0 + e.f2 ≤ s.d v
  root : ∀ v, s.b v = -1 → s.d v = if v = F then 0 else 1152921504606846976
  neg : ∀ k v x, pw es s.b (k + 1) v = some (v, x) → x < 0
theorem eb_of {es : List S42} {b : Int → Int} {v : Int} {i : Nat} {e : S42} (h : b v = i) (he : es[i]? = some e) : eb es b v = some e := by
  unfold eb
  rw [h, if_neg (by omega), Int.toNat_natCast]
  exact he
theorem Inv.edge {es : List S42} {F B : Int} {s : Sta} (h : Inv es F B s) {v : Int} {e : S42} (he : eb es s.b v = some e) : ∃ i : Nat, s.b v = i ∧ es[i]? = some e ∧ e.f1 = v ∧ s.d e.f0 ≠ 1152921504606846976 ∧ s.d v ≠ 1152921504606846976 ∧ s.d e.f0 + e.f2 ≤ s.d v := by
  rcases h.par v with h1 | ⟨i, e', h1, h2, h3⟩
  · unfold eb at he
    rw [h1] at he
    cases he
  · rw [eb_of h1 h2] at he
    cases he
    exact ⟨i, h1, h2, h3⟩
theorem pw_le {es : List S42} {b : Int → Int} {d : Int → Int} (hp : ∀ v e, eb es b v = some e → d e.f0 + e.f2 ≤ d v) : ∀ (k : Nat) {v y x : Int}, pw es b k v = some (y, x) → d y + x ≤ d v
  | 0, v, y, x, h => by cases h; omega
  | k + 1, v, y, x, h => by
    obtain ⟨y0, x0, e, h0, he, rfl, rfl⟩ := pw_succ h
    have := pw_le hp k h0
    have := hp _ _ he
    omega
theorem eb_put_same {es : List S42} {b : Int → Int} {v : Int} {i : Nat} {e : S42} (he : es[i]? = some e) : eb es (put b v i) v = some e := eb_of (put_same b v i) he
theorem eb_put_ne {es : List S42} {b : Int → Int} {v y : Int} (x : Int) (h : y ≠ v) : eb es (put b v x) y = eb es b y := by unfold eb; rw [put_ne _ _ h]
theorem pw_put {es : List S42} {b d : Int → Int} {i : Nat} {e : S42} (hp : ∀ v e, eb es b v = some e → d e.f0 + e.f2 ≤ d v) (he : es[i]? = some e) (hd : d e.f0 + e.f2 < d e.f1) :
    ∀ (k : Nat) {v y x : Int}, pw es (put b e.f1 i) k v = some (y, x) → (pw es b k v = some (y, x)) ∨ d y + x < d v
  | 0, v, y, x, h => .inl h
  | k + 1, v, y, x, h => by
    obtain ⟨y0, x0, e0, h0, he0, rfl, rfl⟩ := pw_succ h
    have ih := pw_put hp he hd k h0
    by_cases hy : y0 = e.f1
    · subst hy
      rw [eb_put_same he] at he0
      cases he0
      right
      rcases ih with h1 | h1
      · have := pw_le hp k h1
        omega
      · omega
    · rw [eb_put_ne _ hy] at he0
      rcases ih with h1 | h1
      · exact .inl (pw_next h1 he0)
      · have := hp _ _ he0
        exact .inr (by omega)
theorem relax_inv {es : List S42} {n F B : Int} {s : Sta} {i : Nat} {e : S42} (hR : RightE es n) (hB : B + 2199023255552 < 1152921504606846976) (he : es[i]? = some e) (h : Inv es F B s) : Inv es F (B + 2199023255552) (relax i e s) := by
  have hr := hR e (List.mem_of_getElem? he)
  rcases relax_cases i e s with ⟨h1, _⟩ | ⟨h1, h2, h3⟩
  · rw [h1]
    refine ⟨fun v => ?_, h.way, h.par, h.root, h.neg⟩
    rcases h.bd v with h | h
    · exact .inl h
    · exact .inr (by omega)
  · rw [h1]
    have hu := (h.bd e.f0).resolve_left h2
    have hne : s.d e.f0 + e.f2 ≠ 1152921504606846976 := by omega
    have hle : ∀ v, put s.d e.f1 (s.d e.f0 + e.f2) v ≤ s.d v := fun v => by
      have := relax_le i e s v
      rw [h1] at this
      exact this
    have hnf : ∀ v, s.d v ≠ 1152921504606846976 → put s.d e.f1 (s.d e.f0 + e.f2) v ≠ 1152921504606846976 := fun v hv => by
      by_cases hc : v = e.f1
      · subst hc; rw [put_same]; exact hne
      · rw [put_ne _ _ hc]; exact hv
    refine ⟨fun v => ?_, fun v hv => ?_, fun v => ?_, fun v hv => ?_, fun k v x hx => ?_⟩
    · show put s.d e.f1 (s.d e.f0 + e.f2) v = _ ∨ _ ≤ put s.d e.f1 (s.d e.f0 + e.f2) v ∧ put s.d e.f1 (s.d e.f0 + e.f2) v ≤ _
      by_cases hc : v = e.f1
      · subst hc; rw [put_same]; exact .inr (by omega)
      · rw [put_ne _ _ hc]
        rcases h.bd v with h | h
        · exact .inl h
        · exact .inr (by omega)
    · show ∃ l, Way es F l v (put s.d e.f1 (s.d e.f0 + e.f2) v)
      by_cases hc : v = e.f1
      · subst hc
        rw [put_same]
        obtain ⟨l, hl⟩ := h.way _ h2
        exact ⟨_, hl.snoc he rfl⟩
      · rw [put_ne _ _ hc]
        exact h.way v (by have : put s.d e.f1 (s.d e.f0 + e.f2) v ≠ _ := hv; rw [put_ne _ _ hc] at this; exact this)
    · show put s.b e.f1 i v = -1 ∨ ∃ (j : Nat) (e' : S42), put s.b e.f1 i v = j ∧ es[j]? = some e' ∧ e'.f1 = v ∧ put s.d e.f1 (s.d e.f0 + e.f2) e'.f0 ≠ _ ∧ put s.d e.f1 (s.d e.f0 + e.f2) v ≠ _ ∧ put s.d e.f1 (s.d e.f0 + e.f2) e'.f0 + e'.f2 ≤ put s.d e.f1 (s.d e.f0 + e.f2) v
      by_cases hc : v = e.f1
      · subst hc
        refine .inr ⟨i, e, put_same _ _ _, he, rfl, hnf _ h2, ?_, ?_⟩
        · rw [put_same]; exact hne
        · have := hle e.f0
          rw [put_same]
          omega
      · rw [put_ne _ _ hc, put_ne _ _ hc]
        rcases h.par v with h4 | ⟨j, e', h4, h5, h6, h7, h8, h9⟩
        · exact .inl h4
        · exact .inr ⟨j, e', h4, h5, h6, hnf _ h7, h8, Int.le_trans (Int.add_le_add_right (hle _) _) h9⟩
    · show put s.d e.f1 (s.d e.f0 + e.f2) v = _
      have hv' : put s.b e.f1 i v = -1 := hv
      have hc : v ≠ e.f1 := by
        rintro rfl
        rw [put_same] at hv'
        omega
      rw [put_ne _ _ hc] at hv' ⊢
      exact h.root v hv'
    · have hp : ∀ v e, eb es s.b v = some e → s.d e.f0 + e.f2 ≤ s.d v := fun v e he => by
        obtain ⟨_, _, _, _, _, _, h9⟩ := h.edge he
        exact h9
      rcases pw_put hp he h3 (k + 1) hx with h4 | h4
      · exact h.neg k v x h4
      · omega
theorem rnd_inv {es : List S42} {n F : Int} (hR : RightE es n) : ∀ (r : List S42) (i : Nat) (B : Int) (s : Sta), (∀ j e, r[j]? = some e → es[i + j]? = some e) → B + 2199023255552 * (r.length : Int) < 1152921504606846976 → Inv es F B s → Inv es F (B + 2199023255552 * (r.length : Int)) (rnd r i s)
  | [], i, B, s, hr, hB, h => by
    rw [List.length_nil, show B + 2199023255552 * ((0 : Nat) : Int) = B by omega]
    exact h
  | e :: r, i, B, s, hr, hB, h => by
    rw [List.length_cons] at hB ⊢
    have h1 := relax_inv (i := i) hR (by omega) (hr 0 e rfl) h
    have h2 := rnd_inv hR r (i + 1) (B + 2199023255552) (relax i e s) (fun j e' hj => by rw [show i + 1 + j = i + (j + 1) by omega]; exact hr (j + 1) e' hj) (by omega) h1
    rw [show B + 2199023255552 * ((r.length + 1 : Nat) : Int) = B + 2199023255552 + 2199023255552 * (r.length : Int) by omega]
    exact h2
/-- All ways of at most r edges are no nearer. -/
def Comp (es : List S42) (F : Int) (r : Nat) (s : Sta) : Prop := ∀ v l x, Way es F l v x → l.length ≤ r → s.d v ≤ x
def CompR (es : List S42) (F : Int) (r i : Nat) (s : Sta) : Prop := Comp es F r s ∧ ∀ l x j e, Way es F l e.f0 x → l.length ≤ r → es[j]? = some e → j < i → s.d e.f1 ≤ x + e.f2
theorem relax_comp {es : List S42} {n F B : Int} {r i : Nat} {s : Sta} {e : S42} (hR : RightE es n) (hB : B + 2199023255552 < 1152921504606846976) (hbd : Bd B s.d) (hx : ∀ l x v, Way es F l v x → l.length ≤ r → x < 1152921504606846976) (he : es[i]? = some e) (h : CompR es F r i s) : CompR es F r (i + 1) (relax i e s) := by
  refine ⟨fun v l x hw hl => Int.le_trans (relax_le i e s v) (h.1 v l x hw hl), fun l x j e' hw hl hj hlt => ?_⟩
  by_cases hji : j = i
  · subst hji
    rw [he] at hj
    cases hj
    have h1 := h.1 _ l x hw hl
    have h2 := hx l x _ hw hl
    rcases relax_cases j e s with ⟨h3, h4⟩ | ⟨h3, h4, h5⟩
    · rw [h3]
      rcases h4 with h4 | h4 <;> omega
    · rw [h3]
      show put s.d e.f1 (s.d e.f0 + e.f2) e.f1 ≤ _
      rw [put_same]
      omega
  · exact Int.le_trans (relax_le i e s _) (h.2 l x j e' hw hl hj (by omega))
end Go.Proofs.Ytenjncmljmgcdaa.P
/- The search as a whole: it ends at distances where each edge holds, or at a ring whose sum is below 0. Plain facts. -/
namespace Go.Proofs.Ytenjncmljmgcdaa.P
open Go.Proofs.YtenjncmljmgcdaaR
set_option linter.unusedVariables false
theorem Way.high {es : List S42} {n : Int} (hR : RightE es n) : ∀ {l : List Nat} {u v s : Int}, Way es u l v s → s ≤ 2199023255552 * (l.length : Int)
  | [], u, v, s, h => by obtain ⟨_, rfl⟩ := h; simp
  | i :: l, u, v, s, h => by
    obtain ⟨e, h1, _, h3⟩ := h
    have := Way.high hR h3
    have := hR e (List.mem_of_getElem? h1)
    rw [List.length_cons]
    omega
theorem relax_bd {n B : Int} {i : Nat} {e : S42} {s : Sta} (he : -2199023255552 ≤ e.f2 ∧ e.f2 ≤ 2199023255552) (h : Bd B s.d) : Bd (B + 2199023255552) (relax i e s).d := by
  intro v
  rcases relax_cases i e s with ⟨h1, _⟩ | ⟨h1, h2, _⟩
  · rw [h1]
    rcases h v with h | h
    · exact .inl h
    · exact .inr (by omega)
  · rw [h1]
    have hu := (h e.f0).resolve_left h2
    show put s.d e.f1 (s.d e.f0 + e.f2) v = _ ∨ _ ≤ put s.d e.f1 (s.d e.f0 + e.f2) v ∧ put s.d e.f1 (s.d e.f0 + e.f2) v ≤ _
    by_cases hc : v = e.f1
    · subst hc; rw [put_same]; exact .inr (by omega)
    · rw [put_ne _ _ hc]
      rcases h v with h | h
      · exact .inl h
      · exact .inr (by omega)
theorem rnd_comp {es : List S42} {n F : Int} {r : Nat} (hR : RightE es n) (hr : 2199023255552 * (r : Int) < 1152921504606846976) : ∀ (q : List S42) (i : Nat) (B : Int) (s : Sta), (∀ j e, q[j]? = some e → es[i + j]? = some e) → B + 2199023255552 * (q.length : Int) < 1152921504606846976 → Bd B s.d → CompR es F r i s → CompR es F r (i + q.length) (rnd q i s)
  | [], i, B, s, hq, hB, hb, h => h
  | e :: q, i, B, s, hq, hB, hb, h => by
    rw [List.length_cons] at hB ⊢
    have he := hq 0 e rfl
    have h1 := relax_comp (i := i) hR (by omega) hb (fun l x v hw hl => by
      have := Way.high hR hw
      omega) he h
    have h2 := rnd_comp hR hr q (i + 1) (B + 2199023255552) (relax i e s) (fun j e' hj => by rw [show i + 1 + j = i + (j + 1) by omega]; exact hq (j + 1) e' hj) (by omega) (relax_bd (n := n) (hR e (List.mem_of_getElem? he)).2.2.2.2 hb) h1
    rw [show i + (q.length + 1) = i + 1 + q.length by omega]
    exact h2
theorem comp_next {es : List S42} {F : Int} {r : Nat} {s : Sta} (h : CompR es F r es.length s) : Comp es F (r + 1) s := by
  intro v l x hw hl
  by_cases hc : l.length ≤ r
  · exact h.1 v l x hw hc
  · have hne : l ≠ [] := by
      intro h0
      rw [h0] at hc
      simp at hc
    obtain ⟨l', i, rfl⟩ : ∃ l' i, l = l' ++ [i] := ⟨l.dropLast, l.getLast hne, (List.dropLast_concat_getLast hne).symm⟩
    obtain ⟨e, he, rfl, hw'⟩ := hw.snoc_inv
    have hlt : i < es.length := (List.getElem?_eq_some_iff.1 he).1
    have := h.2 l' (x - e.f2) i e hw' (by rw [List.length_append, List.length_singleton] at hl; omega) he hlt
    omega
/-- So many numbers within n are not all apart. -/
theorem nodup_le : ∀ (n : Nat) (l : List Int), l.Nodup → (∀ x ∈ l, 0 ≤ x ∧ x < n) → l.length ≤ n
  | 0, l, h, hb => by
    cases l with
    | nil => exact Nat.le_refl _
    | cons x l => have := hb x List.mem_cons_self; omega
  | n + 1, l, h, hb => by
    have h1 := nodup_le n (l.erase (n : Int)) (h.erase _) (fun x hx => by
      have h2 := hb x (List.mem_of_mem_erase hx)
      have h3 : x ≠ (n : Int) := by
        rintro rfl
        exact (h.not_mem_erase) hx
      omega)
    have h4 : l.length ≤ (l.erase (n : Int)).length + 1 := by
      rw [List.length_erase]
      split <;> omega
    omega
theorem pigeon (n : Nat) (f : Nat → Int) (hf : ∀ k, k ≤ n → 0 ≤ f k ∧ f k < n) : ∃ i j, i < j ∧ j ≤ n ∧ f i = f j := by
  refine Classical.byContradiction fun hc => ?_
  have hnd : ((List.range (n + 1)).map f).Nodup := by
    refine List.pairwise_map.2 ?_
    refine List.Pairwise.imp_of_mem (R := fun a b => a < b) (fun {a b} ha hb hab he => hc ⟨a, b, hab, by have := List.mem_range.1 hb; omega, he⟩) List.pairwise_lt_range
  have := nodup_le n _ hnd (fun x hx => by
    obtain ⟨k, hk, rfl⟩ := List.mem_map.1 hx
    exact hf k (by have := List.mem_range.1 hk; omega))
  simp at this
  omega
/-- Steps back, one after the other. -/
theorem pw_add {es : List S42} {b : Int → Int} {i : Nat} {v y x : Int} (h : pw es b i v = some (y, x)) : ∀ (k : Nat), pw es b (i + k) v = (pw es b k y).map fun p => (p.1, x + p.2)
  | 0 => by
    show pw es b i v = _
    rw [h]
    show some (y, x) = some (y, x + 0)
    rw [Int.add_zero]
  | k + 1 => by
    have ih := pw_add h k
    show pw es b (i + k + 1) v = _
    unfold pw
    rw [ih]
    cases hk : pw es b k y with
    | none => rfl
    | some p =>
      obtain ⟨z, t⟩ := p
      show (match eb es b z with | none => none | some e => some (e.f0, x + t + e.f2)) = _
      cases he : eb es b z with
      | none => simp [he]
      | some e => simp [he, Int.add_assoc]
theorem pw_pre {es : List S42} {b : Int → Int} {v : Int} : ∀ (k : Nat) {p : Int × Int}, pw es b k v = some p → ∀ j, j ≤ k → ∃ q, pw es b j v = some q
  | 0, p, h, j, hj => by
    have h0 : j = 0 := by omega
    subst h0
    exact ⟨_, h⟩
  | k + 1, p, h, j, hj => by
    by_cases hc : j = k + 1
    · subst hc; exact ⟨p, h⟩
    · obtain ⟨y, x⟩ := p
      obtain ⟨y0, x0, e, h0, _⟩ := pw_succ h
      exact pw_pre k h0 j (by omega)
theorem pw_inn {es : List S42} {b : Int → Int} {n : Int} (hR : RightE es n) : ∀ (k : Nat) {v y x : Int}, 0 ≤ v → v < n → pw es b k v = some (y, x) → 0 ≤ y ∧ y < n
  | 0, v, y, x, h0, h1, h => by cases h; exact ⟨h0, h1⟩
  | k + 1, v, y, x, h0, h1, h => by
    obtain ⟨y0, x0, e, _, he, rfl, _⟩ := pw_succ h
    unfold eb at he
    split at he
    · cases he
    · have := hR e (List.mem_of_getElem? he)
      omega
/-- n steps back within n numbers end on a ring. -/
theorem ring {es : List S42} {b : Int → Int} {n : Nat} {v z x : Int} (hR : RightE es n) (h0 : 0 ≤ v) (h1 : v < n) (h : pw es b n v = some (z, x)) : ∃ p s, 1 ≤ p ∧ p ≤ n ∧ pw es b p z = some (z, s) := by
  have hall := fun j hj => pw_pre n h j hj
  obtain ⟨i, j, hij, hjn, he⟩ := pigeon n (fun k => match pw es b k v with | some q => q.1 | none => 0) (fun k hk => by
    obtain ⟨⟨y, s⟩, hq⟩ := hall k hk
    show 0 ≤ (match pw es b k v with | some q => q.1 | none => 0) ∧ (match pw es b k v with | some q => q.1 | none => 0) < (n : Int)
    rw [hq]
    exact pw_inn hR k h0 h1 hq)
  obtain ⟨⟨y, s1⟩, hi⟩ := hall i (by omega)
  obtain ⟨⟨y', s2⟩, hj⟩ := hall j hjn
  have he' : y = y' := by
    have e := he
    simp only [hi, hj] at e
    exact e
  subst he'
  -- from y, j - i steps lead back
  have hp := pw_add hi (j - i)
  rw [show i + (j - i) = j by omega, hj] at hp
  have hq := pw_add hj (n - j)
  rw [show j + (n - j) = n by omega, h] at hq
  cases hp2 : pw es b (j - i) y with
  | none => rw [hp2] at hp; cases hp
  | some q =>
    obtain ⟨y2, t⟩ := q
    rw [hp2] at hp
    have : y = y2 := by simpa using congrArg (fun o => (o.map Prod.fst)) hp
    subst this
    cases hq2 : pw es b (n - j) y with
    | none => rw [hq2] at hq; cases hq
    | some q =>
      obtain ⟨z2, t2⟩ := q
      rw [hq2] at hq
      have : z = z2 := by simpa using congrArg (fun o => (o.map Prod.fst)) hq
      subst this
      -- (n - j) + (j - i) steps from y, told twice
      have r1 := pw_add hq2 (j - i)
      have r2 := pw_add hp2 (n - j)
      rw [hq2] at r2
      rw [Nat.add_comm, r2] at r1
      cases hz : pw es b (j - i) z with
      | none => rw [hz] at r1; cases r1
      | some q =>
        obtain ⟨z3, t3⟩ := q
        rw [hz] at r1
        have : z = z3 := by simpa using congrArg (fun o => (o.map Prod.fst)) r1
        subst this
        exact ⟨j - i, t3, by omega, by omega, hz⟩
/-- What a chain back keeps. -/
theorem Inv.chain {es : List S42} {F B : Int} {s : Sta} (h : Inv es F B s) : ∀ (k : Nat) {v y x : Int}, pw es s.b k v = some (y, x) → s.d v ≠ 1152921504606846976 → s.d y ≠ 1152921504606846976 ∧ s.d y + x ≤ s.d v ∧ ∃ l : List Nat, l.length = k ∧ Way es y l v x
  | 0, v, y, x, hk, hv => by cases hk; exact ⟨hv, by omega, [], rfl, rfl, rfl⟩
  | k + 1, v, y, x, hk, hv => by
    obtain ⟨y0, x0, e, h0, he, rfl, rfl⟩ := pw_succ hk
    obtain ⟨h1, h2, l, h3, h4⟩ := h.chain k h0 hv
    obtain ⟨i, g1, g2, g3, g4, g5, g6⟩ := h.edge he
    subst g3
    refine ⟨g4, by omega, i :: l, by rw [List.length_cons, h3], e, g2, rfl, ?_⟩
    rw [show x0 + e.f2 - e.f2 = x0 by omega]
    exact h4
/-- Nearer than all short ways: the chain back has no end. -/
theorem Inv.no_end {es : List S42} {F B : Int} {s : Sta} {n : Nat} (h : Inv es F B s) {v : Int} (hv : s.d v ≠ 1152921504606846976) (hs : ∀ l x, Way es F l v x → l.length < n → s.d v < x) : ∀ k, k ≤ n → ∃ q, pw es s.b k v = some q
  | 0, _ => ⟨_, rfl⟩
  | k + 1, hk => by
    obtain ⟨⟨y, x⟩, hq⟩ := h.no_end hv hs k (by omega)
    obtain ⟨h1, h2, l, h3, h4⟩ := h.chain k hq hv
    rcases h.par y with h5 | ⟨i, e, h5, h6, _⟩
    · have h7 := h.root y h5
      by_cases hc : y = F
      · subst hc
        rw [if_pos rfl] at h7
        have := hs l x h4 (by omega)
        omega
      · rw [if_neg hc] at h7
        exact absurd h7 h1
    · exact ⟨_, pw_next hq (eb_of h5 h6)⟩
end Go.Proofs.Ytenjncmljmgcdaa.P
/- The search as a whole, and what it ends at. Plain facts. -/
namespace Go.Proofs.Ytenjncmljmgcdaa.P
open Go.Proofs.YtenjncmljmgcdaaR
set_option linter.unusedVariables false
/-- A number that is nearer than any way without a ring can be. -/
def low (d : Int → Int) (n : Nat) : Int := firstAt (fun i => decide (d (i : Int) < -(2199023255552 * (n : Int)))) n
theorem firstAt_cases (b : Nat → Bool) (n : Nat) : (∃ k : Nat, k < n ∧ b k = true ∧ firstAt b n = k) ∨ firstAt b n = -1 := by
  unfold firstAt
  cases h : (List.range n).find? b with
  | none => exact .inr rfl
  | some k =>
    have h1 := List.find?_some h
    have h2 := List.mem_range.1 (List.mem_of_find?_eq_some h)
    exact .inl ⟨k, h2, h1, rfl⟩
inductive Res where
  | ok (d b : Int → Int)
  | cyc (b : Int → Int) (v : Int)
def slv (es : List S42) (n : Nat) : Nat → Sta → Res
  | 0, s => .cyc s.b s.last
  | k + 1, s =>
    if (rnd es 0 ⟨s.d, s.b, -1⟩).last = -1 then .ok (rnd es 0 ⟨s.d, s.b, -1⟩).d (rnd es 0 ⟨s.d, s.b, -1⟩).b
    else if low (rnd es 0 ⟨s.d, s.b, -1⟩).d n = -1 then slv es n k (rnd es 0 ⟨s.d, s.b, -1⟩)
    else .cyc (rnd es 0 ⟨s.d, s.b, -1⟩).b (low (rnd es 0 ⟨s.d, s.b, -1⟩).d n)
def start (F : Int) : Sta := ⟨fun v => if v = F then 0 else 1152921504606846976, fun _ => -1, F⟩
/-- What the search promises. -/
def Ends (es : List S42) (n : Nat) (F : Int) : Res → Prop
  | .ok d b => ∃ B l, B + 2199023255552 < 1152921504606846976 ∧ Inv es F B ⟨d, b, l⟩ ∧ Fix es d ∧ d F ≤ 0
  | .cyc b v => ∃ B d l, Inv es F B ⟨d, b, l⟩ ∧ 0 ≤ v ∧ v < n ∧ d v ≠ 1152921504606846976 ∧ ∀ k, k ≤ n → ∃ q, pw es b k v = some q
theorem inv_last {es : List S42} {F B : Int} {s : Sta} (h : Inv es F B s) (l : Int) : Inv es F B ⟨s.d, s.b, l⟩ := ⟨h.bd, h.way, h.par, h.root, h.neg⟩
theorem slv_ends {es : List S42} {n : Nat} {F : Int} (hR : RightE es n) (hn : n ≤ 100000) (hcap : 2199023255552 * ((n * es.length : Nat) : Int) + 2199023255552 < 1152921504606846976) :
    ∀ (k r : Nat) (s : Sta), r + k = n → Inv es F (2199023255552 * ((r * es.length : Nat) : Int)) s → Comp es F r s → s.d F ≤ 0 →
      (r = 0 → 0 < k) → (0 < r → 0 ≤ s.last ∧ s.last < n ∧ s.d s.last ≠ 1152921504606846976 ∧ ∀ l x, Way es F l s.last x → l.length < r → s.d s.last < x) → Ends es n F (slv es n k s)
  | 0, r, s, hk, hI, hC, hF, h0, hL => by
    obtain ⟨h1, h2, h3, h4⟩ := hL (by
      rcases Nat.eq_zero_or_pos r with h | h
      · exact absurd (h0 h) (by omega)
      · exact h)
    obtain rfl : r = n := by omega
    exact ⟨_, s.d, s.last, hI, h1, h2, h3, hI.no_end h3 h4⟩
  | k + 1, r, s, hk, hI, hC, hF, h0, hL => by
    have hrm : (r + 1) * es.length ≤ n * es.length := Nat.mul_le_mul_right _ (by omega)
    have hadd : 2199023255552 * ((r * es.length : Nat) : Int) + 2199023255552 * (es.length : Int) = 2199023255552 * (((r + 1) * es.length : Nat) : Int) := by
      rw [Nat.add_mul, Nat.one_mul]
      omega
    have hcap2 : 2199023255552 * (((r + 1) * es.length : Nat) : Int) + 2199023255552 < 1152921504606846976 := by omega
    have hq : ∀ (j : Nat) (e : S42), es[j]? = some e → es[0 + j]? = some e := fun j e h => by rw [Nat.zero_add]; exact h
    have hI1 := rnd_inv hR es 0 _ ⟨s.d, s.b, -1⟩ hq (by rw [hadd]; omega) (inv_last hI (-1))
    rw [hadd] at hI1
    have hC1 := rnd_comp hR (r := r) (by omega) es 0 _ ⟨s.d, s.b, -1⟩ hq (by rw [hadd]; omega) hI.bd ⟨hC, fun l x j e _ _ _ hj => absurd hj (Nat.not_lt_zero _)⟩
    rw [Nat.zero_add] at hC1
    have hC2 := comp_next hC1
    have hF1 : (rnd es 0 ⟨s.d, s.b, -1⟩).d F ≤ 0 := Int.le_trans (rnd_le es 0 ⟨s.d, s.b, -1⟩ F) hF
    have hlast := rnd_last es 0 ⟨s.d, s.b, -1⟩
    unfold slv
    generalize rnd es 0 ⟨s.d, s.b, -1⟩ = t at *
    rcases hlast with ⟨ht, hfix⟩ | ⟨e, he, hl, hd⟩
    · subst ht
      rw [if_pos rfl]
      exact ⟨_, _, hcap2, hI1, hfix, hF⟩
    · have hr := hR e he
      have hl0 : t.last ≠ -1 := by omega
      have hd' : t.d e.f1 < s.d e.f1 := hd
      have hdf : t.d e.f1 ≠ 1152921504606846976 := by
        rcases hI.bd e.f1 with h | h <;> omega
      rw [if_neg hl0]
      by_cases hlow : low t.d n = -1
      · rw [if_pos hlow]
        refine slv_ends hR hn hcap k (r + 1) t (by omega) hI1 hC2 hF1 (fun h => absurd h (Nat.succ_ne_zero _)) (fun _ => ?_)
        rw [hl]
        refine ⟨hr.2.2.1, hr.2.2.2.1, hdf, fun l x hw hlen => ?_⟩
        have := hC _ l x hw (by omega)
        omega
      · rw [if_neg hlow]
        unfold low at hlow ⊢
        rcases firstAt_cases (fun i => decide (t.d (i : Int) < -(2199023255552 * (n : Int)))) n with ⟨v, h1, h2, h3⟩ | h3
        · rw [h3]
          have h4 : t.d (v : Int) < -(2199023255552 * (n : Int)) := of_decide_eq_true h2
          have h5 : t.d (v : Int) ≠ 1152921504606846976 := by omega
          refine ⟨_, t.d, t.last, hI1, by omega, by omega, h5, hI1.no_end h5 (fun l x hw hlen => ?_)⟩
          have := Way.low hR hw
          omega
        · exact absurd h3 hlow
theorem start_inv {es : List S42} {F : Int} : Inv es F 0 (start F) := by
  refine ⟨fun v => ?_, fun v hv => ?_, fun v => .inl rfl, fun v _ => rfl, fun k v x h => ?_⟩
  · show (if v = F then (0 : Int) else 1152921504606846976) = _ ∨ _ ≤ (if v = F then (0 : Int) else 1152921504606846976) ∧ (if v = F then (0 : Int) else 1152921504606846976) ≤ _
    by_cases h : v = F
    · rw [if_pos h]; exact .inr ⟨by omega, by omega⟩
    · rw [if_neg h]; exact .inl rfl
  · have hv' : (if v = F then (0 : Int) else 1152921504606846976) ≠ 1152921504606846976 := hv
    by_cases h : v = F
    · subst h
      refine ⟨[], rfl, ?_⟩
      show (if v = v then (0 : Int) else 1152921504606846976) = 0
      rw [if_pos rfl]
    · rw [if_neg h] at hv'
      exact absurd rfl hv'
  · obtain ⟨y0, x0, e, _, he, _⟩ := pw_succ h
    unfold eb at he
    have : (start F).b y0 = -1 := rfl
    rw [this, if_pos (by decide)] at he
    cases he
/-- The whole search. -/
def solveR (es : List S42) (n : Nat) (F : Int) : Res := slv es n n (start F)
theorem solve_ends {es : List S42} {n : Nat} {F : Int} (hR : RightE es n) (h0 : 0 < n) (hn : n ≤ 100000) (hcap : 2199023255552 * ((n * es.length : Nat) : Int) + 2199023255552 < 1152921504606846976) : Ends es n F (solveR es n F) := by
  refine slv_ends hR hn hcap n 0 (start F) (by omega) ?_ ?_ ?_ (fun _ => h0) (fun h => absurd h (Nat.lt_irrefl 0))
  · rw [Nat.zero_mul]
    exact start_inv
  · intro v l x hw hl
    have : l = [] := List.length_eq_zero_iff.1 (by omega)
    subst this
    obtain ⟨rfl, rfl⟩ := hw
    show (if F = F then (0 : Int) else 1152921504606846976) ≤ 0
    rw [if_pos rfl]
    exact Int.le_refl 0
  · show (if F = F then (0 : Int) else 1152921504606846976) ≤ 0
    rw [if_pos rfl]
    exact Int.le_refl 0
/-- Distances: each is a way's sum, and no way is nearer. -/
structure Dist (es : List S42) (F : Int) (d : Int → Int) : Prop where
  way : ∀ v, d v ≠ 1152921504606846976 → ∃ l, Way es F l v (d v)
  least : ∀ l v x, Way es F l v x → d v ≠ 1152921504606846976 ∧ d v ≤ x
theorem Dist.one {es : List S42} {F : Int} {d d' : Int → Int} (h : Dist es F d) (g : Dist es F d') (v : Int) : d v = d' v := by
  by_cases h1 : d v = 1152921504606846976
  · by_cases h2 : d' v = 1152921504606846976
    · rw [h1, h2]
    · obtain ⟨l, hl⟩ := g.way v h2
      exact absurd h1 (h.least l v _ hl).1
  · obtain ⟨l, hl⟩ := h.way v h1
    obtain ⟨h2, h3⟩ := g.least l v _ hl
    obtain ⟨l', hl'⟩ := g.way v h2
    have := (h.least l' v _ hl').2
    omega
theorem dist_of_fix {es : List S42} {n B F : Int} {d : Int → Int} (hR : RightE es n) (hb : B + 2199023255552 < 1152921504606846976) (hB : Bd B d) (hF : Fix es d) (h0 : d F ≤ 0) (hw : ∀ v, d v ≠ 1152921504606846976 → ∃ l, Way es F l v (d v)) : Dist es F d := by
  refine ⟨hw, fun l v x h => ?_⟩
  obtain ⟨h1, h2⟩ := Way.fix hR hF hB hb h (by omega)
  exact ⟨h1, by omega⟩
/-- Where distances are told, no ring that can be reached is below 0. -/
theorem Dist.no_ring {es : List S42} {F : Int} {d : Int → Int} (h : Dist es F d) {u : Int} {l0 l : List Nat} {x s : Int} (hr : Way es F l0 u x) (hc : Way es u l u s) : 0 ≤ s := by
  obtain ⟨h1, _⟩ := h.least l0 u x hr
  obtain ⟨l1, h2⟩ := h.way u h1
  have := (h.least _ u _ (h2.trans hc)).2
  omega
theorem Dist.root {es : List S42} {F : Int} {d : Int → Int} (h : Dist es F d) : d F = 0 := by
  obtain ⟨h1, h2⟩ := h.least [] F 0 ⟨rfl, rfl⟩
  obtain ⟨l, hl⟩ := h.way F h1
  have := h.no_ring (l0 := []) (x := 0) ⟨rfl, rfl⟩ hl
  omega
/-- A ring that the search tells: its chain is a way, and below 0. -/
theorem ring_way {es : List S42} {n : Nat} {F B : Int} {d b : Int → Int} {last v : Int} (hR : RightE es n) (hI : Inv es F B ⟨d, b, last⟩) (hv0 : 0 ≤ v) (hv1 : v < n) (hd : d v ≠ 1152921504606846976) (hall : ∀ k, k ≤ n → ∃ q, pw es b k v = some q) :
    ∃ z x p s, pw es b n v = some (z, x) ∧ 1 ≤ p ∧ p ≤ n ∧ pw es b p z = some (z, s) ∧ s < 0 ∧ d z ≠ 1152921504606846976 ∧ ∃ l, Way es F l z (d z) := by
  obtain ⟨⟨z, x⟩, hz⟩ := hall n (Nat.le_refl _)
  obtain ⟨p, s, h1, h2, h3⟩ := ring hR hv0 hv1 hz
  obtain ⟨g1, _, _⟩ := hI.chain n hz hd
  obtain ⟨q, rfl⟩ : ∃ q, p = q + 1 := ⟨p - 1, by omega⟩
  exact ⟨z, x, q + 1, s, hz, h1, h2, h3, hI.neg q z s h3, g1, hI.way z g1⟩
end Go.Proofs.Ytenjncmljmgcdaa.P
