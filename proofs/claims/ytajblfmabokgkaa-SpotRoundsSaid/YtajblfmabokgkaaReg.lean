/- A region that draws its order, told operation by operation: whatever the order, each operation meets its own promise. -/
import Derived.Orders
import Derived.Calls
import Derived.Below
namespace Go.Proofs.YtajblfmabokgkaaR
open Go Go.RowKit
def upd {α : Type} (f : Nat → α) (i : Nat) (v : α) : Nat → α := fun j => if j = i then v else f j
theorem upd_same {α : Type} (f : Nat → α) (i : Nat) (v : α) : upd f i v i = v := by simp [upd]
theorem upd_ne {α : Type} (f : Nat → α) {i j : Nat} (v : α) (h : j ≠ i) : upd f i v j = f j := by simp [upd, h]

/-- The operations of E have come up, with the values vs: the frame, and the world. -/
structure RInv (a0 : Act) (ops : Array Oper) (S : (Nat → Bool) → (Nat → Value) → World → Prop) (E : Nat → Bool) (vs : Nat → Value) (a : Act) (w : World) : Prop where
  defers : a.defers = a0.defers
  size : a.tmps.size = a0.tmps.size
  slot : ∀ i o d, ops[i]? = some o → o.dst = some d → E i = true → d < a0.tmps.size → a.tmps[d]? = some (vs i)
  other : ∀ d, (∀ i o, ops[i]? = some o → o.dst = some d → E i = false) → a.tmps[d]? = a0.tmps[d]?
  closed : ∀ i o, ops[i]? = some o → E i = true → (o.after.all fun e => !Region.binds .any e || E e.on) = true
  world : S E vs w

section
variable {P : Program} {ops : Array Oper} {Q : Exit → Act → World → Prop} {a0 : Act} {S : (Nat → Bool) → (Nat → Value) → World → Prop}

theorem RInv.tmp {E : Nat → Bool} {vs : Nat → Value} {a : Act} {w : World} (h : RInv a0 ops S E vs a w) {i : Nat} {o : Oper} {d : Nat} (ho : ops[i]? = some o) (hd : o.dst = some d) (hE : E i = true) (hs : d < a0.tmps.size) : a.eval (.tmp d) = vs i := by
  have := h.slot i o d ho hd hE hs
  simp [Act.eval, Array.getD_eq_getD_getElem?, this]
theorem RInv.out {E : Nat → Bool} {vs : Nat → Value} {a : Act} {w : World} (h : RInv a0 ops S E vs a w) {d : Nat} (hd : ∀ i o, ops[i]? = some o → o.dst = some d → E i = false) : a.eval (.tmp d) = a0.eval (.tmp d) := by
  have := h.other d hd
  simp [Act.eval, Array.getD_eq_getD_getElem?, this]

def DstUniq (ops : Array Oper) : Prop := ∀ (i j : Nat) (oi oj : Oper) (d : Tmp), ops[i]? = some oi → ops[j]? = some oj → oi.dst = some d → oj.dst = some d → i = j
def Back (ops : Array Oper) : Prop := ∀ (i : Nat) (o : Oper), ops[i]? = some o → ∀ e ∈ o.after, Region.binds .any e = true → e.on < i
def uniqB : List Oper → Bool
  | [] => true
  | o :: l => (match o.dst with | some d => l.all fun p => !(p.dst == some d) | none => true) && uniqB l
def backB : Nat → List Oper → Bool
  | _, [] => true
  | i, o :: l => (o.after.toList.all fun e => !Region.binds .any e || Nat.blt e.on i) && backB (i + 1) l
theorem uniqB_at : ∀ (l : List Oper), uniqB l = true → ∀ (i j : Nat) (oi oj : Oper) (d : Tmp), i < j → l[i]? = some oi → l[j]? = some oj → oi.dst = some d → oj.dst = some d → False := by
  intro l
  induction l with
  | nil => intro _ i j oi oj d _ h; simp at h
  | cons o l ih =>
    intro hb i j oi oj d hlt hi hj hdi hdj
    unfold uniqB at hb
    rw [Bool.and_eq_true] at hb
    obtain ⟨h1, h2⟩ := hb
    cases j with
    | zero => omega
    | succ j =>
      rw [List.getElem?_cons_succ] at hj
      cases i with
      | zero =>
        rw [List.getElem?_cons_zero] at hi
        cases hi
        rw [hdi] at h1
        simp only [List.all_eq_true] at h1
        have := h1 oj (List.mem_of_getElem? hj)
        rw [hdj] at this
        simp at this
      | succ i =>
        rw [List.getElem?_cons_succ] at hi
        exact ih h2 i j oi oj d (by omega) hi hj hdi hdj
theorem backB_at : ∀ (l : List Oper) (n : Nat), backB n l = true → ∀ (i : Nat) (o : Oper), l[i]? = some o → ∀ e ∈ o.after.toList, Region.binds .any e = true → e.on < n + i := by
  intro l
  induction l with
  | nil => intro n _ i o h; simp at h
  | cons o l ih =>
    intro n hb i oi hi e he hbi
    unfold backB at hb
    rw [Bool.and_eq_true] at hb
    obtain ⟨h1, h2⟩ := hb
    cases i with
    | zero =>
      rw [List.getElem?_cons_zero] at hi
      cases hi
      simp only [List.all_eq_true] at h1
      have := h1 e he
      rw [hbi, Bool.not_true, Bool.false_or, Nat.blt_eq] at this
      omega
    | succ i =>
      rw [List.getElem?_cons_succ] at hi
      have := ih (n + 1) h2 i oi hi e he hbi
      omega
/-- What is asked of a region's text: no slot is written twice, and each edge leads back. -/
def regOk (ops : Array Oper) : Bool := uniqB ops.toList && backB 0 ops.toList
theorem regOk_uniq {ops : Array Oper} (h : regOk ops = true) : DstUniq ops := by
  unfold regOk at h
  rw [Bool.and_eq_true] at h
  intro i j oi oj d hi hj hdi hdj
  rw [← Array.getElem?_toList] at hi hj
  rcases Nat.lt_trichotomy i j with hlt | hlt | hlt
  · exact (uniqB_at _ h.1 i j oi oj d hlt hi hj hdi hdj).elim
  · exact hlt
  · exact (uniqB_at _ h.1 j i oj oi d hlt hj hi hdj hdi).elim
theorem regOk_back {ops : Array Oper} (h : regOk ops = true) : Back ops := by
  unfold regOk at h
  rw [Bool.and_eq_true] at h
  intro i o hi e he hbi
  rw [← Array.getElem?_toList] at hi
  have := backB_at _ 0 h.2 i o hi e (by simpa using he) hbi
  omega

/-- What one operation owes. -/
def Owes (P : Program) (ops : Array Oper) (Q : Exit → Act → World → Prop) (a0 : Act) (S : (Nat → Bool) → (Nat → Value) → World → Prop) (i : Nat) (o : Oper) : Prop :=
  ∀ E vs a w, RInv a0 ops S E vs a w → E i = false → (o.after.all fun e => !Region.binds .any e || E e.on) = true →
    (Region.wanted o (yielded ops a.tmps) = true → o.wp P a w (fun a' w' => ∃ v, a' = a.put o.dst v ∧ S (upd E i true) (upd vs i v) w') Q) ∧
    (Region.wanted o (yielded ops a.tmps) = false → S (upd E i true) (upd vs i undef) w)

theorem RInv.step (hdst : DstUniq ops)
    {E : Nat → Bool} {vs : Nat → Value} {a : Act} {w w' : World} (h : RInv a0 ops S E vs a w) {i : Nat} {o : Oper} (ho : ops[i]? = some o) (hE : E i = false)
    (hp : (o.after.all fun e => !Region.binds .any e || E e.on) = true) {v : Value} (hS : S (upd E i true) (upd vs i v) w') :
    RInv a0 ops S (upd E i true) (upd vs i v) (a.put o.dst v) w' := by
  refine ⟨?_, ?_, ?_, ?_, ?_, hS⟩
  · cases hd : o.dst <;> simp [Act.put, h.defers]
  · cases hd : o.dst <;> simp [Act.put, h.size]
  · intro j oj d hj hd hEj hlt
    by_cases e : j = i
    · subst e
      rw [ho] at hj
      cases hj
      simp [Act.put, hd, upd_same, h.size, hlt]
    · rw [upd_ne _ _ e] at hEj
      rw [upd_ne _ _ e]
      have hne : o.dst ≠ some d := fun hc => e (hdst j i oj o d hj ho hd hc)
      have := h.slot j oj d hj hd hEj hlt
      cases hd' : o.dst with
      | none => simpa [Act.put, hd'] using this
      | some d' =>
        have : d' ≠ d := fun hc => hne (by rw [hd', hc])
        simp only [Act.put]
        rw [Array.getElem?_setIfInBounds_ne this]
        assumption
  · intro d hd
    have hne : o.dst ≠ some d := fun hc => by
      have := hd i o ho hc
      rw [upd_same] at this
      exact absurd this (by simp)
    have h2 := h.other d (fun j oj hj hdj => by
      have h3 := hd j oj hj hdj
      by_cases e : j = i
      · subst e; rw [upd_same] at h3; exact absurd h3 (by simp)
      · rwa [upd_ne _ _ e] at h3)
    cases hd' : o.dst with
    | none => simpa [Act.put, hd'] using h2
    | some d' =>
      have : d' ≠ d := fun hc => hne (by rw [hd', hc])
      simp only [Act.put]
      rw [Array.getElem?_setIfInBounds_ne this]
      exact h2
  · intro j oj hj hEj
    have up : ∀ (A : Array Edge), (A.all fun e => !Region.binds .any e || E e.on) = true → (A.all fun e => !Region.binds .any e || upd E i true e.on) = true := by
      intro A hA
      rw [Array.all_eq_true] at hA ⊢
      intro k hk
      have := hA k hk
      simp only [Bool.or_eq_true] at this ⊢
      rcases this with this | this
      · exact .inl this
      · refine .inr ?_
        by_cases e : A[k].on = i
        · rw [e, upd_same]
        · rw [upd_ne _ _ e]; exact this
    by_cases e : j = i
    · subst e
      rw [ho] at hj
      cases hj
      exact up _ hp
    · rw [upd_ne _ _ e] at hEj
      exact up _ (h.closed j oj hj hEj)

theorem wpAny_owes (hdst : DstUniq ops)
    (hback : Back ops)
    (howes : ∀ i o, ops[i]? = some o → Owes P ops Q a0 S i o)
    (hend : ∀ E vs a w, RInv a0 ops S E vs a w → (∀ i, i < ops.size → E i = true) → Q .normal a w) :
    ∀ (fuel : Nat) (listed : Array Bool) (vs : Nat → Value) (a : Act) (w : World), listed.size = ops.size → (listed.toList.countP (! ·)) = fuel →
      RInv a0 ops S (fun i => listed.getD i false) vs a w → wpAny P .any ops Q fuel listed a w := by
  have hready : ∀ listed : Array Bool, listed.size = ops.size → Region.ready .any ops listed = [] → ∀ i, i < ops.size → listed.getD i false = true := by
    intro listed hl hr i
    induction i using Nat.strongRecOn with
    | _ i ih =>
      intro hi
      cases hb : listed.getD i false with
      | true => rfl
      | false =>
        exfalso
        have : i ∈ Region.ready .any ops listed := by
          unfold Region.ready
          rw [List.mem_filter]
          refine ⟨List.mem_range.2 hi, ?_⟩
          have h1 : ops[i]? = some ops[i] := Array.getElem?_eq_getElem hi
          have h2 : listed.getD i true = false := by
            have : i < listed.size := by omega
            simp [Array.getD, this] at hb ⊢
            exact hb
          rw [h1, h2]
          simp only [Bool.not_false, Bool.true_and, Option.map_some, Option.getD_some]
          rw [Array.all_eq_true]
          intro k hk
          cases hbi : Region.binds .any (ops[i].after[k]) with
          | false => simp
          | true =>
            have h3 := hback i _ h1 (ops[i].after[k]) (Array.getElem_mem hk) hbi
            rw [ih _ h3 (by omega)]
            simp
        rw [hr] at this
        cases this
  intro fuel
  induction fuel with
  | zero =>
    intro listed vs a w hl hc hI
    have hall : ∀ i, i < ops.size → listed.getD i false = true := by
      intro i hi
      have h0 := List.countP_eq_zero.1 hc
      have hi' : i < listed.size := by omega
      have := h0 listed[i] (by simp)
      simpa [Array.getD, hi'] using this
    refine ⟨?_, hend _ vs a w hI hall⟩
    unfold Region.ready
    rw [List.filter_eq_nil_iff]
    intro i hi
    have hi' := List.mem_range.1 hi
    have := hall i hi'
    have hlt : i < listed.size := by omega
    simp [Array.getD, hlt] at this
    simp [Array.getD, hlt, this]
  | succ fuel ih =>
    intro listed vs a w hl hc hI
    refine ⟨fun hr => hend _ vs a w hI (hready listed hl hr), ?_⟩
    intro i hi
    unfold Region.ready at hi
    obtain ⟨hi0, hi1⟩ := List.mem_filter.1 hi
    have hi' := List.mem_range.1 hi0
    have hlt : i < listed.size := by omega
    have ho : ops[i]? = some ops[i] := Array.getElem?_eq_getElem hi'
    rw [ho] at hi1
    simp only [Option.map_some, Option.getD_some, Bool.and_eq_true] at hi1
    obtain ⟨hi1, hi2⟩ := hi1
    have hE : listed.getD i false = false := by
      simp [Array.getD, hlt] at hi1 ⊢
      exact hi1
    have hI' : ∀ v w', S (upd (fun i => listed.getD i false) i true) (upd vs i v) w' → wpAny P .any ops Q fuel (listed.setIfInBounds i true) (a.put ops[i].dst v) w' := by
      intro v w' hS
      have hE' : (fun j => (listed.setIfInBounds i true).getD j false) = upd (fun i => listed.getD i false) i true := by
        funext j
        by_cases e : j = i
        · subst e; simp [upd_same, Array.getD, hlt]
        · rw [upd_ne _ _ e]
          have e' : i ≠ j := fun h => e h.symm
          simp only [Array.getD_eq_getD_getElem?]
          rw [Array.getElem?_setIfInBounds_ne e']
      refine ih _ (upd vs i v) _ w' (by simp [hl]) ?_ (hE' ▸ hI.step hdst ho hE hi2 hS)
      have hx : listed[i] = false := by simpa [Array.getD, hlt] using hE
      rw [Array.toList_setIfInBounds, List.countP_set (by simpa using hlt)]
      simp [hx, hc]
    unfold wpOp
    rw [ho]
    obtain ⟨hw, hn⟩ := howes i _ ho _ vs a w hI hE hi2
    show if Region.wanted ops[i] (yielded ops a.tmps) = true then _ else _
    split
    · rename_i h
      exact .inl (Oper.wp_mono (fun a' w' ⟨v, ha, hS⟩ => ha ▸ hI' v w' hS) (hw h))
    · rename_i h
      exact hI' undef w (hn (by simpa using h))

/-- A region that draws its order: each operation owes its own promise, and nothing else. -/
theorem wp_region_owes {id : Nat} {w : World} (hm : P.follows .mixedOrders = true)
    (hdst : DstUniq ops)
    (hback : Back ops) (vs : Nat → Value)
    (hS : S (fun _ => false) vs { w with drawn := w.drawn + 1 })
    (howes : ∀ i o, ops[i]? = some o → Owes P ops Q a0 S i o)
    (hend : ∀ E vs a w, RInv a0 ops S E vs a w → (∀ i, i < ops.size → E i = true) → Q .normal a w) : (Code.region id ops true).wp P Q a0 w := by
  refine wp_region_any hm (wpAny_owes (a0 := a0) (S := S) hdst hback howes hend ops.size _ vs a0 _ (by simp) (by simp [Array.toList_replicate, List.countP_replicate]) ?_)
  have hE : (fun i => (Array.replicate ops.size false).getD i false) = fun _ => false := by
    funext i
    simp only [Array.getD_eq_getD_getElem?, Array.getElem?_replicate]
    split <;> rfl
  rw [hE]
  exact ⟨rfl, rfl, fun _ _ _ _ _ h => absurd h (by simp), fun _ _ => rfl, fun _ _ _ h => absurd h (by simp), hS⟩

/-! The same, with a promise for each operation's value, and one for the world. -/
def SB (Φ : List (Value → World → Prop)) (W : (Nat → Bool) → (Nat → Value) → World → Prop) (E : Nat → Bool) (vs : Nat → Value) (w : World) : Prop :=
  (∀ i, E i = true → (Φ.getD i fun _ _ => True) (vs i) w) ∧ W E vs w
variable {Φ : List (Value → World → Prop)} {W : (Nat → Bool) → (Nat → Value) → World → Prop}
theorem RInv.phi {E : Nat → Bool} {vs : Nat → Value} {a : Act} {w : World} (h : RInv a0 ops (SB Φ W) E vs a w) (j : Nat) {o : Oper} {d : Nat} (ho : ops[j]? = some o) (hd : o.dst = some d) (hE : E j = true) (hs : Nat.blt d a0.tmps.size = true) :
    (Φ.getD j fun _ _ => True) (a.eval (.tmp d)) w := by
  rw [h.tmp ho hd hE (by rw [Nat.blt_eq] at hs; exact hs)]
  exact h.world.1 j hE
def noDstB (d : Nat) : List Oper → Bool
  | [] => true
  | o :: l => (match o.dst with | some e => !(Nat.beq e d) | none => true) && noDstB d l
theorem noDstB_at (d : Nat) : ∀ (l : List Oper), noDstB d l = true → ∀ (i : Nat) (o : Oper), l[i]? = some o → o.dst ≠ some d := by
  intro l
  induction l with
  | nil => intro _ i o h; simp at h
  | cons o l ih =>
    intro hb i oi hi
    unfold noDstB at hb
    rw [Bool.and_eq_true] at hb
    obtain ⟨h1, h2⟩ := hb
    cases i with
    | zero =>
      rw [List.getElem?_cons_zero] at hi
      cases hi
      intro hc
      rw [hc] at h1
      simp at h1
    | succ i =>
      rw [List.getElem?_cons_succ] at hi
      exact ih h2 i oi hi
theorem RInv.outer {E : Nat → Bool} {vs : Nat → Value} {a : Act} {w : World} (h : RInv a0 ops S E vs a w) {d : Nat} {v : Value} (hd : noDstB d ops.toList = true) (hv : a0.eval (.tmp d) = v) : a.eval (.tmp d) = v :=
  (h.out fun i o ho hc => absurd hc (noDstB_at d _ hd i o (by rw [Array.getElem?_toList]; exact ho))).trans hv
/-- A slot that the region writes, later. -/
theorem RInv.later {E : Nat → Bool} {vs : Nat → Value} {a : Act} {w : World} (hu : DstUniq ops) (h : RInv a0 ops S E vs a w) {d k : Nat} {o : Oper} {v : Value} (hk : ops[k]? = some o) (hd : o.dst = some d) (hE : E k = false) (hv : a0.eval (.tmp d) = v) : a.eval (.tmp d) = v :=
  (h.out fun i oi hi hc => by rw [hu i k oi o d hi hk hc hd]; exact hE).trans hv
def hasPred (o : Oper) (j : Nat) : Bool := o.after.toList.any fun e => Region.binds .any e && Nat.beq e.on j
theorem pred_of {o : Oper} {E : Nat → Bool} (hp : (o.after.all fun e => !Region.binds .any e || E e.on) = true) (j : Nat) (h : hasPred o j = true) : E j = true := by
  unfold hasPred at h
  rw [List.any_eq_true] at h
  obtain ⟨e, he, h⟩ := h
  rw [← Array.all_toList, List.all_eq_true] at hp
  have := hp e he
  rw [Bool.and_eq_true] at h
  obtain ⟨h1, h2⟩ := h
  rw [h1] at this
  rw [Nat.beq_eq] at h2
  rw [h2] at this
  simpa using this
theorem RInv.notYet {E : Nat → Bool} {vs : Nat → Value} {a : Act} {w : World} (h : RInv a0 ops S E vs a w) {i : Nat} (hE : E i = false) (k : Nat) {o : Oper} (ho : ops[k]? = some o) (hp : hasPred o i = true) : E k = false := by
  cases hk : E k with
  | false => rfl
  | true =>
    have := pred_of (h.closed k o ho hk) i hp
    rw [hE] at this
    exact absurd this (by simp)
theorem SB.step {E : Nat → Bool} {vs : Nat → Value} {w w' : World} {i : Nat} {v : Value} (h : SB Φ W E vs w) (hi : (Φ.getD i fun _ _ => True) v w') (hE : E i = false)
    (hs : ∀ j v', j ≠ i → (Φ.getD j fun _ _ => True) v' w → (Φ.getD j fun _ _ => True) v' w') (hW : W (upd E i true) (upd vs i v) w') : SB Φ W (upd E i true) (upd vs i v) w' := by
  refine ⟨fun j hj => ?_, hW⟩
  by_cases e : j = i
  · subst e
    rw [upd_same]
    exact hi
  · rw [upd_ne _ _ e] at hj ⊢
    exact hs j _ e (h.1 j hj)
/-- An operation that comes up with a value, and leaves the world alone. -/
theorem owes_val {i : Nat} {o : Oper} (hg : o.guard = none) (hW : ∀ E vs v w, E i = false → W E vs w → W (upd E i true) (upd vs i v) w)
    (h : ∀ E vs a w, RInv a0 ops (SB Φ W) E vs a w → E i = false → (o.after.all fun e => !Region.binds .any e || E e.on) = true → ∃ v, (execOp a.eval o).run P w = .ok (.value v) w ∧ (Φ.getD i fun _ _ => True) v w) :
    Owes P ops Q a0 (SB Φ W) i o := by
  intro E vs a w hI hE hp
  obtain ⟨v, hr, hv⟩ := h E vs a w hI hE hp
  refine ⟨fun _ => ?_, fun hn => ?_⟩
  · unfold Oper.wp
    rw [hr]
    exact ⟨v, rfl, hI.world.step hv hE (fun _ _ _ hj => hj) (hW E vs v w hE hI.world.2)⟩
  · unfold Region.wanted at hn
    rw [hg] at hn
    exact absurd hn (by simp)
/-- The same behind a guard that says yes. -/
theorem owes_valG {i : Nat} {o : Oper} (hW : ∀ E vs v w, E i = false → W E vs w → W (upd E i true) (upd vs i v) w)
    (h : ∀ E vs a w, RInv a0 ops (SB Φ W) E vs a w → E i = false → (o.after.all fun e => !Region.binds .any e || E e.on) = true → Region.wanted o (yielded ops a.tmps) = true ∧ ∃ v, (execOp a.eval o).run P w = .ok (.value v) w ∧ (Φ.getD i fun _ _ => True) v w) :
    Owes P ops Q a0 (SB Φ W) i o := by
  intro E vs a w hI hE hp
  obtain ⟨hw, v, hr, hv⟩ := h E vs a w hI hE hp
  refine ⟨fun _ => ?_, fun hn => absurd (hw.symm.trans hn) (by simp)⟩
  unfold Oper.wp
  rw [hr]
  exact ⟨v, rfl, hI.world.step hv hE (fun _ _ _ hj => hj) (hW E vs v w hE hI.world.2)⟩
/-- Any operation that runs on by itself (a value, or nothing) and turns the world. -/
theorem owes_world {i : Nat} {o : Oper} (hg : o.guard = none)
    (h : ∀ E vs a w, RInv a0 ops (SB Φ W) E vs a w → E i = false → (o.after.all fun e => !Region.binds .any e || E e.on) = true → ∃ v w', ((execOp a.eval o).run P w = .ok (.value v) w' ∨ v = undef ∧ (execOp a.eval o).run P w = .ok .skip w') ∧ (Φ.getD i fun _ _ => True) v w' ∧
      (∀ j v', j ≠ i → (Φ.getD j fun _ _ => True) v' w → (Φ.getD j fun _ _ => True) v' w') ∧ W (upd E i true) (upd vs i v) w') :
    Owes P ops Q a0 (SB Φ W) i o := by
  intro E vs a w hI hE hp
  obtain ⟨v, w', hr, hv, hs, hW⟩ := h E vs a w hI hE hp
  refine ⟨fun _ => ?_, fun hn => ?_⟩
  · unfold Oper.wp
    rcases hr with hr | ⟨rfl, hr⟩
    · rw [hr]
      exact ⟨v, rfl, hI.world.step hv hE hs hW⟩
    · rw [hr]
      exact ⟨undef, rfl, hI.world.step hv hE hs hW⟩
  · unfold Region.wanted at hn
    rw [hg] at hn
    exact absurd hn (by simp)
def phiC (C : List Value) : List (Value → World → Prop) := C.map fun c v _ => v = c
theorem phiC_stable (C : List Value) (j : Nat) (v : Value) {w : World} (w' : World) (h : ((phiC C).getD j fun _ _ => True) v w) : ((phiC C).getD j fun _ _ => True) v w' := by
  unfold phiC at *
  simp only [List.getD_eq_getElem?_getD, List.getElem?_map] at *
  revert h
  cases C[j]? <;> simp
def OwesList (P : Program) (ops : Array Oper) (Q : Exit → Act → World → Prop) (a0 : Act) (S : (Nat → Bool) → (Nat → Value) → World → Prop) : Nat → List Oper → Prop
  | _, [] => True
  | i, o :: l => Owes P ops Q a0 S i o ∧ OwesList P ops Q a0 S (i + 1) l
theorem OwesList.at {l : List Oper} : ∀ {n : Nat}, OwesList P ops Q a0 S n l → ∀ (i : Nat) (o : Oper), l[i]? = some o → Owes P ops Q a0 S (n + i) o := by
  induction l with
  | nil => intro n _ i o h; simp at h
  | cons o l ih =>
    intro n h i oi hi
    cases i with
    | zero =>
      rw [List.getElem?_cons_zero] at hi
      cases hi
      exact h.1
    | succ i =>
      rw [List.getElem?_cons_succ] at hi
      have := ih h.2 i oi hi
      rwa [show n + 1 + i = n + (i + 1) by omega] at this
/-- The region, its operations' promises in a list. -/
theorem wp_region_told {id : Nat} {w : World} (Φ : List (Value → World → Prop)) (W : (Nat → Bool) → (Nat → Value) → World → Prop) (hm : P.follows .mixedOrders = true) (hok : regOk ops = true)
    (hW : W (fun _ => false) (fun _ => undef) { w with drawn := w.drawn + 1 })
    (howes : OwesList P ops Q a0 (SB Φ W) 0 ops.toList)
    (hend : ∀ E vs a w, RInv a0 ops (SB Φ W) E vs a w → (∀ i, i < ops.size → E i = true) → Q .normal a w) : (Code.region id ops true).wp P Q a0 w :=
  wp_region_owes hm (regOk_uniq hok) (regOk_back hok) (fun _ => undef) ⟨fun _ h => absurd h (by simp), hW⟩
    (fun i o hi => by
      have := howes.at i o (by rw [Array.getElem?_toList]; exact hi)
      rwa [Nat.zero_add] at this) hend

/-- The frame behind the region. -/
def putsFrom (vs : Nat → Value) : Nat → List Oper → Array Value → Array Value
  | _, [], t => t
  | i, o :: l, t => putsFrom vs (i + 1) l (match o.dst with | some d => t.setIfInBounds d (vs i) | none => t)
theorem putsFrom_size (vs : Nat → Value) : ∀ (l : List Oper) (i : Nat) (t : Array Value), (putsFrom vs i l t).size = t.size := by
  intro l
  induction l with
  | nil => intro i t; rfl
  | cons o l ih =>
    intro i t
    unfold putsFrom
    rw [ih]
    cases o.dst <;> simp
theorem putsFrom_other (vs : Nat → Value) (d : Nat) : ∀ (l : List Oper) (i : Nat) (t : Array Value), (∀ (j : Nat) (o : Oper), l[j]? = some o → o.dst ≠ some d) → (putsFrom vs i l t)[d]? = t[d]? := by
  intro l
  induction l with
  | nil => intro i t _; rfl
  | cons o l ih =>
    intro i t h
    unfold putsFrom
    rw [ih _ _ (fun j oj hj => h (j + 1) oj (by rw [List.getElem?_cons_succ]; exact hj))]
    have h0 := h 0 o (by simp)
    cases hd : o.dst with
    | none => rfl
    | some e =>
      have : e ≠ d := fun hc => h0 (by rw [hd, hc])
      simp only
      rw [Array.getElem?_setIfInBounds_ne this]
theorem putsFrom_at (vs : Nat → Value) (d : Nat) : ∀ (l : List Oper) (i : Nat) (t : Array Value) (k : Nat) (o : Oper), l[k]? = some o → o.dst = some d → (∀ (j : Nat) (oj : Oper), l[j]? = some oj → oj.dst = some d → j = k) → d < t.size → (putsFrom vs i l t)[d]? = some (vs (i + k)) := by
  intro l
  induction l with
  | nil => intro i t k o h; simp at h
  | cons p l ih =>
    intro i t k o hk hd hu hlt
    unfold putsFrom
    cases k with
    | zero =>
      rw [List.getElem?_cons_zero] at hk
      cases hk
      rw [putsFrom_other]
      · simp [hd, hlt]
      · intro j oj hj hc
        have := hu (j + 1) oj (by rw [List.getElem?_cons_succ]; exact hj) hc
        omega
    | succ k =>
      rw [List.getElem?_cons_succ] at hk
      rw [ih (i + 1) _ k o hk hd (fun j oj hj hc => by
        have := hu (j + 1) oj (by rw [List.getElem?_cons_succ]; exact hj) hc
        omega) (by cases p.dst <;> simpa using hlt)]
      rw [show i + 1 + k = i + (k + 1) by omega]
theorem RInv.frame {E : Nat → Bool} {vs : Nat → Value} {a : Act} {w : World} (h : RInv a0 ops S E vs a w) (hok : regOk ops = true) (hall : ∀ i, i < ops.size → E i = true) :
    a = { tmps := putsFrom vs 0 ops.toList a0.tmps, defers := a0.defers } := by
  have hu := regOk_uniq hok
  obtain ⟨tmps, defers⟩ := a
  have h1 : tmps = putsFrom vs 0 ops.toList a0.tmps := by
    apply Array.ext_getElem?
    intro d
    by_cases hd : ∃ (i : Nat) (o : Oper), ops[i]? = some o ∧ o.dst = some d
    · obtain ⟨i, o, ho, hd⟩ := hd
      by_cases hlt : d < a0.tmps.size
      · rw [h.slot i o d ho hd (hall i (Array.getElem?_eq_some_iff.1 ho).1) hlt]
        rw [putsFrom_at vs d _ 0 _ i o (by rw [Array.getElem?_toList]; exact ho) hd (fun j oj hj hc => hu j i oj o d (by rw [← Array.getElem?_toList]; exact hj) ho hc hd) hlt, Nat.zero_add]
      · have hs := h.size
        rw [Array.getElem?_eq_none (by simp only at hs; omega), Array.getElem?_eq_none (by rw [putsFrom_size]; omega)]
    · rw [putsFrom_other vs d _ 0 _ (fun j oj hj hc => hd ⟨j, oj, by rw [← Array.getElem?_toList]; exact hj, hc⟩)]
      exact h.other d (fun i o ho hc => absurd ⟨i, o, ho, hc⟩ hd)
  have h2 := h.defers
  simp only at h2
  rw [h1, h2]

/-! Regions that read, make memory, and call what makes memory: what is known of each value lives on. -/
def RowAt (w : World) (g : Nat) (cs : List Value) : Prop := ∀ (i : Nat) (v : Value), cs[i]? = some v → w.cell? ⟨g, i, none⟩ = some v
theorem cell_below {w w1 : World} (h : Below w.heap.size w w1) {a : Addr} {v : Value} (hc : w.cell? a = some v) : w1.cell? a = some v := (h.cell (World.block_lt_of_cell? w a hc)).trans hc
theorem RowAt.below {w w1 : World} {g : Nat} {cs : List Value} (h : RowAt w g cs) (hb : Below w.heap.size w w1) : RowAt w1 g cs := fun i v hv => cell_below hb (h i v hv)
structure PV where
  holds : Value → World → Prop
  below : ∀ {v : Value} {w w1 : World}, holds v w → Below w.heap.size w w1 → holds v w1
def PV.val (c : Value) : PV := ⟨fun v _ => v = c, fun h _ => h⟩
def PV.row (n : Nat) (cs : List Value) : PV := ⟨fun v w => ∃ g c, v = .slice (some ⟨g, 0, none⟩) n c ∧ n ≤ c ∧ RowAt w g cs, fun ⟨g, c, e, hc, hr⟩ hb => ⟨g, c, e, hc, hr.below hb⟩⟩
def PV.cellOf (_ : Nat) (cs : List Value) (off : Nat) : PV := ⟨fun v w => ∃ g, v = .pointer (some ⟨g, off, none⟩) ∧ RowAt w g cs, fun ⟨g, e, hr⟩ hb => ⟨g, e, hr.below hb⟩⟩
def PV.any : PV := ⟨fun _ _ => True, fun _ _ => trivial⟩
def phiP (L : List PV) : List (Value → World → Prop) := L.map PV.holds
theorem phiP_at (L : List PV) (j : Nat) (v : Value) (w : World) : ((phiP L).getD j fun _ _ => True) v w ↔ (L.getD j .any).holds v w := by
  unfold phiP
  simp only [List.getD_eq_getElem?_getD, List.getElem?_map]
  cases L[j]? <;> simp [PV.any]
def SBP (L : List PV) (w0 : World) : (Nat → Bool) → (Nat → Value) → World → Prop := SB (phiP L) (fun _ _ w => Below w0.heap.size w0 w)
variable {L : List PV} {w0 : World}
theorem RInv.pv {E : Nat → Bool} {vs : Nat → Value} {a : Act} {w : World} (h : RInv a0 ops (SBP L w0) E vs a w) (j : Nat) {o : Oper} {d : Nat} (ho : ops[j]? = some o) (hd : o.dst = some d) (hE : E j = true) (hs : Nat.blt d a0.tmps.size = true) :
    (L.getD j .any).holds (a.eval (.tmp d)) w := (phiP_at _ _ _ _).1 (RInv.phi h j ho hd hE hs)
theorem wanted_of {E : Nat → Bool} {vs : Nat → Value} {a : Act} {w : World} (h : RInv a0 ops S E vs a w) {o : Oper} (j : Nat) {b : Bool} (hg : o.guard = some (j, b)) {oj : Oper} {d : Nat} (ho : ops[j]? = some oj) (hd : oj.dst = some d)
    (hs : Nat.blt d a0.tmps.size = true) (hv : a.eval (.tmp d) = .bool b) : Region.wanted o (yielded ops a.tmps) = true := by
  unfold Region.wanted
  rw [hg]
  rw [Nat.blt_eq] at hs
  have hlt : d < a.tmps.size := by rw [h.size]; exact hs
  have h1 : a.tmps[d]? = some (.bool b) := by
    rw [Array.getElem?_eq_getElem hlt]
    simpa [Act.eval, Array.getD, hlt] using hv
  simp [yielded, ho, hd, h1]
theorem SBP.step {E : Nat → Bool} {vs : Nat → Value} {w w' : World} {i : Nat} {v : Value} (h : SBP L w0 E vs w) (hE : E i = false) (hi : (L.getD i .any).holds v w') (hb : Below w.heap.size w w') : SBP L w0 (upd E i true) (upd vs i v) w' :=
  SB.step h ((phiP_at _ _ _ _).2 hi) hE (fun _ _ _ hj => (phiP_at _ _ _ _).2 ((L.getD _ .any).below ((phiP_at _ _ _ _).1 hj) hb))
    (h.2.trans ⟨hb.os, hb.tape, hb.output, hb.size, fun k hk => hb.block k (Nat.lt_of_lt_of_le hk h.2.size)⟩)
/-- An operation that runs by itself. -/
theorem owes_pv {i : Nat} {o : Oper}
    (h : ∀ E vs a w, RInv a0 ops (SBP L w0) E vs a w → E i = false → (o.after.all fun e => !Region.binds .any e || E e.on) = true →
      Region.wanted o (yielded ops a.tmps) = true ∧ ∃ v w', (execOp a.eval o).run P w = .ok (.value v) w' ∧ Below w.heap.size w w' ∧ (L.getD i .any).holds v w') :
    Owes P ops Q a0 (SBP L w0) i o := by
  intro E vs a w hI hE hp
  obtain ⟨hw, v, w', hr, hb, hv⟩ := h E vs a w hI hE hp
  refine ⟨fun _ => ?_, fun hn => absurd (hw.symm.trans hn) (by simp)⟩
  unfold Oper.wp
  rw [hr]
  exact ⟨v, rfl, SBP.step hI.world hE hv hb⟩
/-- One that leaves the world alone. -/
theorem owes_pv0 {i : Nat} {o : Oper}
    (h : ∀ E vs a w, RInv a0 ops (SBP L w0) E vs a w → E i = false → (o.after.all fun e => !Region.binds .any e || E e.on) = true →
      Region.wanted o (yielded ops a.tmps) = true ∧ ∃ v, (execOp a.eval o).run P w = .ok (.value v) w ∧ (L.getD i .any).holds v w) :
    Owes P ops Q a0 (SBP L w0) i o :=
  owes_pv fun E vs a w hI hE hp => by
    obtain ⟨hw, v, hr, hv⟩ := h E vs a w hI hE hp
    exact ⟨hw, v, w, hr, Below.refl _ _, hv⟩
/-- A call. -/
theorem owes_pvc {i : Nat} {o : Oper}
    (h : ∀ E vs a w, RInv a0 ops (SBP L w0) E vs a w → E i = false → (o.after.all fun e => !Region.binds .any e || E e.on) = true →
      Region.wanted o (yielded ops a.tmps) = true ∧ ∃ f args, (execOp a.eval o).run P w = .ok (.enter f args) w ∧ Calls P f args w fun e w' => ∃ v, e = .returned v ∧ Below w.heap.size w w' ∧ (L.getD i .any).holds v w') :
    Owes P ops Q a0 (SBP L w0) i o := by
  intro E vs a w hI hE hp
  obtain ⟨hw, f, args, hr, hc⟩ := h E vs a w hI hE hp
  refine ⟨fun _ => ?_, fun hn => absurd (hw.symm.trans hn) (by simp)⟩
  unfold Oper.wp
  rw [hr]
  refine Calls.mono hc ?_
  rintro e w' ⟨v, rfl, hb, hv⟩
  exact ⟨v, rfl, SBP.step hI.world hE hv hb⟩
theorem wp_region_pv {id : Nat} {w : World} (L : List PV) (hm : P.follows .mixedOrders = true) (hok : regOk ops = true)
    (howes : OwesList P ops Q a0 (SBP L w) 0 ops.toList)
    (hend : ∀ E vs a w1, RInv a0 ops (SBP L w) E vs a w1 → (∀ i, i < ops.size → E i = true) → Q .normal a w1) : (Code.region id ops true).wp P Q a0 w :=
  wp_region_told (phiP L) (fun _ _ w1 => Below w.heap.size w w1) hm hok ⟨rfl, rfl, rfl, Nat.le_refl _, fun _ _ => rfl⟩ howes hend

/-! A variable that is made, and written, inside such a region. -/
def BoxIn (w0 : World) (ia st : Nat) (z c : Array Value) (t : TypeId) (E : Nat → Bool) (vs : Nat → Value) (w : World) : Prop :=
  E ia = true → ∃ g, vs ia = .pointer (some ⟨g, 0, none⟩) ∧ w0.heap.size ≤ g ∧ w.heap[g]? = some (.cells (if E st = true then c else z) t (0, 0))
theorem BoxIn.other {w0 : World} {ia st : Nat} {z c : Array Value} {t : TypeId} {E : Nat → Bool} {vs : Nat → Value} {w w1 : World} (h : BoxIn w0 ia st z c t E vs w) (hb : Below w.heap.size w w1) {j : Nat} (ha : ia ≠ j) (hs : st ≠ j) (v : Value) :
    BoxIn w0 ia st z c t (upd E j true) (upd vs j v) w1 := by
  intro hE
  rw [upd_ne _ _ ha] at hE
  obtain ⟨g, e, hg, hh⟩ := h hE
  refine ⟨g, by rw [upd_ne _ _ ha]; exact e, hg, ?_⟩
  rw [upd_ne _ _ hs]
  exact (hb.block g (Array.getElem?_eq_some_iff.1 hh).1).trans hh
theorem BoxIn.made {w0 : World} {ia st : Nat} {z c : Array Value} {t : TypeId} {E : Nat → Bool} {vs : Nat → Value} {w : World} (hw : w0.heap.size ≤ w.heap.size) (hs : E st = false) (hne : st ≠ ia) :
    BoxIn w0 ia st z c t (upd E ia true) (upd vs ia (.pointer (some ⟨w.heap.size, 0, none⟩))) (w.alloc (.cells z t (0, 0))) := by
  intro _
  refine ⟨w.heap.size, upd_same _ _ _, hw, ?_⟩
  rw [upd_ne _ _ hne, hs, if_neg (by decide)]
  show (w.heap.push _)[w.heap.size]? = _
  simp
theorem BoxIn.put1 {w0 : World} {ia st : Nat} {z c : Array Value} {t : TypeId} {E : Nat → Bool} {vs : Nat → Value} {w1 : World} {g : Nat} (he : vs ia = .pointer (some ⟨g, 0, none⟩)) (hg : w0.heap.size ≤ g) (hne : ia ≠ st)
    (hh : w1.heap[g]? = some (.cells c t (0, 0))) (v : Value) : BoxIn w0 ia st z c t (upd E st true) (upd vs st v) w1 := by
  intro _
  refine ⟨g, by rw [upd_ne _ _ hne]; exact he, hg, ?_⟩
  rw [upd_same, if_pos rfl]
  exact hh
def phiO (C : List (Option Value)) : List (Value → World → Prop) := C.map fun o v _ => match o with | some c => v = c | none => True
theorem phiO_stable (C : List (Option Value)) (j : Nat) (v : Value) {w : World} (w' : World) (h : ((phiO C).getD j fun _ _ => True) v w) : ((phiO C).getD j fun _ _ => True) v w' := by
  unfold phiO at *
  simp only [List.getD_eq_getElem?_getD, List.getElem?_map] at *
  revert h
  cases C[j]? <;> simp
/-- A call, the promises of the world open. -/
theorem owes_callS {Φ : List (Value → World → Prop)} {W : (Nat → Bool) → (Nat → Value) → World → Prop} {i : Nat} {o : Oper}
    (h : ∀ E vs a w, RInv a0 ops (SB Φ W) E vs a w → E i = false → (o.after.all fun e => !Region.binds .any e || E e.on) = true →
      Region.wanted o (yielded ops a.tmps) = true ∧ ∃ f args, (execOp a.eval o).run P w = .ok (.enter f args) w ∧ Calls P f args w fun e w' => ∃ v, e = .returned v ∧ (Φ.getD i fun _ _ => True) v w' ∧
        (∀ j v', j ≠ i → (Φ.getD j fun _ _ => True) v' w → (Φ.getD j fun _ _ => True) v' w') ∧ W (upd E i true) (upd vs i v) w') :
    Owes P ops Q a0 (SB Φ W) i o := by
  intro E vs a w hI hE hp
  obtain ⟨hw, f, args, hr, hc⟩ := h E vs a w hI hE hp
  refine ⟨fun _ => ?_, fun hn => absurd (hw.symm.trans hn) (by simp)⟩
  unfold Oper.wp
  rw [hr]
  refine Calls.mono hc ?_
  rintro e w' ⟨v, rfl, hv, hs, hW⟩
  exact ⟨v, rfl, hI.world.step hv hE hs hW⟩
/-- An operation that is passed by. -/
theorem owes_pvs {L : List PV} {w0 : World} {i : Nat} {o : Oper}
    (h : ∀ E vs a w, RInv a0 ops (SBP L w0) E vs a w → E i = false → (o.after.all fun e => !Region.binds .any e || E e.on) = true →
      Region.wanted o (yielded ops a.tmps) = false ∧ (L.getD i .any).holds undef w) :
    Owes P ops Q a0 (SBP L w0) i o := by
  intro E vs a w hI hE hp
  obtain ⟨hw, hv⟩ := h E vs a w hI hE hp
  exact ⟨fun hn => absurd (hw.symm.trans hn) (by simp), fun _ => SBP.step hI.world hE hv (Below.refl _ _)⟩
theorem unwanted_of {S : (Nat → Bool) → (Nat → Value) → World → Prop} {E : Nat → Bool} {vs : Nat → Value} {a : Act} {w : World} (h : RInv a0 ops S E vs a w) {o : Oper} (j : Nat) {b : Bool} (hg : o.guard = some (j, b)) {oj : Oper} {d : Nat} (ho : ops[j]? = some oj) (hd : oj.dst = some d)
    (hs : Nat.blt d a0.tmps.size = true) {v : Value} (hv : a.eval (.tmp d) = v) (hne : ∀ c, v = .bool c → c ≠ b) : Region.wanted o (yielded ops a.tmps) = false := by
  unfold Region.wanted
  rw [hg]
  rw [Nat.blt_eq] at hs
  have hlt : d < a.tmps.size := by rw [h.size]; exact hs
  have h1 : a.tmps[d]? = some v := by
    rw [Array.getElem?_eq_getElem hlt]
    simpa [Act.eval, Array.getD, hlt] using hv
  simp only [yielded, ho, Option.bind_some, hd, h1]
  cases v <;> simp
  rename_i c
  exact hne c rfl
end
end Go.Proofs.YtajblfmabokgkaaR
