/- A region that draws its order, by an invariant over the operations that are done. No conditions. -/
import Derived.Orders
import Derived.OrdersIn
import Derived.WalkKit
namespace Go.Proofs.Ytbdmkgdgbpfhpaa
set_option linter.unusedVariables false
open Go

/-- what a frame holds, where the operations D are done and gave V -/
structure AV (ops : Array Oper) (a0 : Act) (V : Nat → Value) (D : Nat → Bool) (a : Act) : Prop where
  val : ∀ i o d, ops[i]? = some o → o.dst = some d → D i = true → a.tmps[d]? = some (V i)
  old : ∀ t, (∀ i o, ops[i]? = some o → D i = true → o.dst ≠ some t) → a.tmps[t]? = a0.tmps[t]?
  size : a.tmps.size = a0.tmps.size
  defers : a.defers = a0.defers
def updV (V : Nat → Value) (i : Nat) (v : Value) : Nat → Value := fun j => if j = i then v else V j
def updD (D : Nat → Bool) (i : Nat) : Nat → Bool := fun j => if j = i then true else D j
/-- whatever is done, so is what it comes after -/
def Closed (ops : Array Oper) (D : Nat → Bool) : Prop := ∀ (j : Nat) (o : Oper), ops[j]? = some o → D j = true → ∀ e ∈ o.after, Region.binds .any e = true → D e.on = true
/-- each operation has a slot of its own, and comes after earlier ones alone -/
def regOk (ops : Array Oper) (n : Nat) : Bool :=
  (List.range ops.size).all fun i => match ops[i]? with
    | none => true
    | some o => (o.after.toList.all fun e => decide (e.on < i)) && (match o.dst with
      | none => true
      | some d => decide (d < n) && (List.range ops.size).all fun j => j == i || (match ops[j]? with | some o' => o'.dst != some d | none => true))
theorem regOk_at {ops : Array Oper} {n : Nat} (h : regOk ops n = true) {i : Nat} {o : Oper} (ho : ops[i]? = some o) : (∀ e ∈ o.after, e.on < i) ∧ ∀ d, o.dst = some d → d < n ∧ ∀ j o', ops[j]? = some o' → o'.dst = some d → j = i := by
  unfold regOk at h
  rw [List.all_eq_true] at h
  have hi := h i (List.mem_range.2 (Array.getElem?_eq_some_iff.1 ho).1)
  rw [ho] at hi
  simp only [Bool.and_eq_true, List.all_eq_true, decide_eq_true_eq] at hi
  refine ⟨fun e he => hi.1 e (by simpa using he), fun d hd => ?_⟩
  have h2 := hi.2
  rw [hd] at h2
  simp only [Bool.and_eq_true, List.all_eq_true, decide_eq_true_eq] at h2
  refine ⟨h2.1, fun j o' ho' hd' => ?_⟩
  have h3 := h2.2 j (List.mem_range.2 (Array.getElem?_eq_some_iff.1 ho').1)
  rw [ho'] at h3
  simp only [hd'] at h3
  simpa using h3
theorem AV.put {ops : Array Oper} {a0 a : Act} {V : Nat → Value} {D : Nat → Bool} (h : AV ops a0 V D a) (hk : regOk ops a0.tmps.size = true) {i : Nat} {o : Oper} (ho : ops[i]? = some o) (v : Value) : AV ops a0 (updV V i v) (updD D i) (a.put o.dst v) := by
  obtain ⟨_, hd⟩ := regOk_at hk ho
  cases hdst : o.dst with
  | none =>
    refine ⟨fun j oj d hj hjd hD => ?_, fun t ht => ?_, h.size, h.defers⟩
    · have hne : j ≠ i := fun e => by subst e; rw [ho] at hj; cases hj; rw [hdst] at hjd; cases hjd
      have := h.val j oj d hj hjd (by simpa [updD, hne] using hD)
      simpa [Act.put, updV, hne] using this
    · refine h.old t fun j oj hj hD => ht j oj hj ?_
      unfold updD; split <;> simp_all
  | some d0 =>
    obtain ⟨hlt, huniq⟩ := hd d0 hdst
    refine ⟨fun j oj d hj hjd hD => ?_, fun t ht => ?_, by simp [Act.put, h.size], h.defers⟩
    · by_cases hne : j = i
      · subst hne
        rw [ho] at hj; cases hj
        rw [hdst] at hjd; cases hjd
        simp [Act.put, updV, h.size, hlt]
      · have := h.val j oj d hj hjd (by simpa [updD, hne] using hD)
        have hdd : d0 ≠ d := fun e => hne (huniq j oj hj (by rw [hjd, e]))
        simp only [Act.put, updV, hne, if_false]
        rw [Array.getElem?_setIfInBounds_ne hdd]
        exact this
    · have h1 : d0 ≠ t := fun e => ht i o ho (by simp [updD]) (by rw [hdst, e])
      simp only [Act.put]
      rw [Array.getElem?_setIfInBounds_ne h1]
      refine h.old t fun j oj hj hD => ht j oj hj ?_
      unfold updD; split <;> simp_all
theorem AV.ev {ops : Array Oper} {a0 a : Act} {V : Nat → Value} {D : Nat → Bool} (h : AV ops a0 V D a) (i : Nat) {o : Oper} {d : Nat} (ho : ops[i]? = some o) (hd : o.dst = some d) (hD : D i = true) : a.eval (.tmp d) = V i := by
  have := h.val i o d ho hd hD
  simp [Act.eval, this]
theorem AV.evOld {ops : Array Oper} {a0 a : Act} {V : Nat → Value} {D : Nat → Bool} (h : AV ops a0 V D a) (t : Nat) (ht : (List.range ops.size).all (fun i => match ops[i]? with | some o => o.dst != some t | none => true) = true) : a.eval (.tmp t) = a0.eval (.tmp t) := by
  have := h.old t fun i o ho _ e => by
    rw [List.all_eq_true] at ht
    have := ht i (List.mem_range.2 (Array.getElem?_eq_some_iff.1 ho).1)
    rw [ho] at this
    simp only [e] at this
    simp at this
  simp only [Act.eval, Array.getD_eq_getD_getElem?]
  rw [this]
theorem AV.oldAt {ops : Array Oper} {a0 a : Act} {V : Nat → Value} {D : Nat → Bool} (h : AV ops a0 V D a) (t : Nat) (ht : (List.range ops.size).all (fun i => match ops[i]? with | some o => o.dst != some t | none => true) = true) : a.tmps[t]? = a0.tmps[t]? :=
  h.old t fun i o ho _ e => by
    rw [List.all_eq_true] at ht
    have := ht i (List.mem_range.2 (Array.getElem?_eq_some_iff.1 ho).1)
    rw [ho] at this
    simp only [e] at this
    simp at this
theorem Closed.not {ops : Array Oper} {D : Nat → Bool} (h : Closed ops D) {i j : Nat} {o : Oper} (hD : D i = false) (ho : ops[j]? = some o) (e : Edge) (he : e ∈ o.after) (hb : Region.binds .any e = true) (hi : e.on = i) : D j = false := by
  cases hj : D j with
  | false => rfl
  | true => have := h j o ho hj e he hb; rw [hi, hD] at this; cases this
/-- what is to be shown of one operation -/
def StepIn (F : Fence) (n : Nat) (P : Program) (ops : Array Oper) (Q : Exit → Act → World → Prop) (a0 : Act) (WS : (Nat → Value) → (Nat → Bool) → World → Prop) (i : Nat) (o : Oper) : Prop :=
  ∀ V D a w, D i = false → (∀ e ∈ o.after, Region.binds .any e = true → D e.on = true) → Closed ops D → AV ops a0 V D a → WS V D w →
    if Region.wanted o (yielded ops a.tmps) = true then o.wpIn F n P a w (fun a' w' => ∃ v, a' = a.put o.dst v ∧ WS (updV V i v) (updD D i) w') Q else (∀ f, o.about P w a.eval = some f → F.fn f) ∧ WS (updV V i undef) (updD D i) w
def StepOut (P : Program) (ops : Array Oper) (Q : Exit → Act → World → Prop) (a0 : Act) (WS : (Nat → Value) → (Nat → Bool) → World → Prop) (i : Nat) (o : Oper) : Prop :=
  ∀ V D a w, D i = false → (∀ e ∈ o.after, Region.binds .any e = true → D e.on = true) → Closed ops D → AV ops a0 V D a → WS V D w →
    if Region.wanted o (yielded ops a.tmps) = true then o.wp P a w (fun a' w' => ∃ v, a' = a.put o.dst v ∧ WS (updV V i v) (updD D i) w') Q else WS (updV V i undef) (updD D i) w
def Dof (listed : Array Bool) : Nat → Bool := fun i => listed.getD i false
theorem Dof_set {listed : Array Bool} {i : Nat} (h : i < listed.size) : Dof (listed.setIfInBounds i true) = updD (Dof listed) i := by
  funext j
  unfold Dof updD
  by_cases hj : j = i
  · subst hj; simp [h]
  · rw [if_neg hj, getD_set_ne false (Ne.symm hj)]
theorem ready_nil {ops : Array Oper} {n : Nat} (hk : regOk ops n = true) {listed : Array Bool} (hs : listed.size = ops.size) (h : Region.ready .any ops listed = []) : ∀ i, i < ops.size → Dof listed i = true := by
  intro i
  induction i using Nat.strongRecOn with
  | _ i ih =>
    intro hi
    by_cases hD : Dof listed i = true
    · exact hD
    · exfalso
      have hm : i ∈ Region.ready .any ops listed := by
        rw [mem_ready]
        refine ⟨?_, ops[i], Array.getElem?_eq_getElem hi, fun e he hb => ?_⟩
        · unfold Dof at hD
          have hlt : i < listed.size := by omega
          simp [hlt] at hD ⊢
          exact hD
        · exact ih e.on ((regOk_at hk (Array.getElem?_eq_getElem hi)).1 e he) (by have := (regOk_at hk (Array.getElem?_eq_getElem hi)).1 e he; omega)
      rw [h] at hm; cases hm
theorem closed_set {ops : Array Oper} {D : Nat → Bool} (h : Closed ops D) {i : Nat} {o : Oper} (ho : ops[i]? = some o) (hd : ∀ e ∈ o.after, Region.binds .any e = true → D e.on = true) : Closed ops (updD D i) := by
  intro j oj hj hD e he hb
  unfold updD
  split
  · rfl
  · by_cases hji : j = i
    · subst hji; rw [ho] at hj; cases hj; exact hd e he hb
    · exact h j oj hj (by simpa [updD, hji] using hD) e he hb
def undone (listed : Array Bool) : Nat := listed.toList.countP (fun b => !b)
theorem undone_set {listed : Array Bool} {i : Nat} (h : listed.getD i true = false) : undone (listed.setIfInBounds i true) + 1 = undone listed := by
  have hlt : i < listed.size := by
    rcases Nat.lt_or_ge i listed.size with h' | h'
    · exact h'
    · simp [Array.getElem?_eq_none h'] at h
  unfold undone
  obtain ⟨l⟩ := listed
  simp only [List.setIfInBounds_toArray]
  simp only [List.size_toArray] at hlt
  have hli : l[i] = false := by simpa [hlt] using h
  clear h
  induction l generalizing i with
  | nil => simp at hlt
  | cons b l ih =>
    cases i with
    | zero => simp at hli; subst hli; simp
    | succ i =>
      have := ih (i := i) (by simpa using hlt) (by simpa using hli)
      simp only [List.set_cons_succ, List.countP_cons] at this ⊢
      omega
theorem all_of_undone {listed : Array Bool} (h : undone listed = 0) : ∀ i, listed.getD i true = true := by
  intro i
  unfold undone at h
  rw [List.countP_eq_zero] at h
  rcases Nat.lt_or_ge i listed.size with h' | h'
  · have := h listed[i] (by simp)
    simpa [h'] using this
  · simp [Array.getElem?_eq_none h']
theorem ready_none {md : Region.Mode} {ops : Array Oper} {listed : Array Bool} (h : undone listed = 0) : Region.ready md ops listed = [] := by
  rw [List.eq_nil_iff_forall_not_mem]
  intro i hi
  have := (mem_ready.1 hi).1
  rw [all_of_undone h i] at this
  cases this
theorem wpAnyIn_inv {F : Fence} {n : Nat} {P : Program} {ops : Array Oper} {Q : Exit → Act → World → Prop} {a0 : Act} {WS : (Nat → Value) → (Nat → Bool) → World → Prop} (hk : regOk ops a0.tmps.size = true)
    (hstep : ∀ i o, ops[i]? = some o → StepIn F n P ops Q a0 WS i o)
    (hend : ∀ V a w, AV ops a0 V (fun i => decide (i < ops.size)) a → WS V (fun i => decide (i < ops.size)) w → Q .normal a w) :
    ∀ (fuel : Nat) (listed : Array Bool) (V : Nat → Value) (a : Act) (w : World), undone listed ≤ fuel → listed.size = ops.size → Closed ops (Dof listed) → AV ops a0 V (Dof listed) a → WS V (Dof listed) w → wpAnyIn F n P .any ops Q fuel listed a w := by
  have fin : ∀ (listed : Array Bool) (V : Nat → Value) (a : Act) (w : World), listed.size = ops.size → AV ops a0 V (Dof listed) a → WS V (Dof listed) w → Region.ready .any ops listed = [] → Q .normal a w := by
    intro listed V a w hs hav hws hr
    have hD : Dof listed = fun i => decide (i < ops.size) := by
      funext i
      by_cases hi : i < ops.size
      · rw [ready_nil hk hs hr i hi]; simp [hi]
      · unfold Dof; simp [hi, Array.getElem?_eq_none (show listed.size ≤ i by omega)]
    rw [hD] at hav hws
    exact hend V a w hav hws
  intro fuel
  induction fuel with
  | zero =>
    intro listed V a w hu hs hc hav hws
    have hr := ready_none (md := .any) (ops := ops) (show undone listed = 0 by omega)
    exact ⟨hr, fin listed V a w hs hav hws hr⟩
  | succ fuel ih =>
    intro listed V a w hu hs hc hav hws
    refine ⟨fun hr => fin listed V a w hs hav hws hr, fun i hi => ?_⟩
    obtain ⟨h0, o, ho, hall⟩ := mem_ready.1 hi
    have hlt : i < listed.size := by rw [hs]; exact (Array.getElem?_eq_some_iff.1 ho).1
    have hD0 : Dof listed i = false := by unfold Dof; simp [hlt] at h0 ⊢; exact h0
    have h := hstep i o ho V (Dof listed) a w hD0 hall hc hav hws
    have next : ∀ v w', WS (updV V i v) (updD (Dof listed) i) w' → wpAnyIn F n P .any ops Q fuel (listed.setIfInBounds i true) (a.put o.dst v) w' := fun v w' hw' => by
      refine ih _ (updV V i v) _ w' (by have := undone_set h0; omega) (by simp [hs]) ?_ ?_ ?_
      · rw [Dof_set hlt]; exact closed_set hc ho hall
      · rw [Dof_set hlt]; exact hav.put hk ho v
      · rw [Dof_set hlt]; exact hw'
    unfold wpOpIn
    rw [ho]
    simp only
    split
    · rename_i hw
      rw [if_pos hw] at h
      exact Oper.wpIn_mono (fun a' w' ⟨v, e, hw'⟩ => by rw [e]; exact next v w' hw') h
    · rename_i hw
      rw [if_neg hw] at h
      exact ⟨h.1, next undef w h.2⟩
theorem wpAny_inv {P : Program} {ops : Array Oper} {Q : Exit → Act → World → Prop} {a0 : Act} {WS : (Nat → Value) → (Nat → Bool) → World → Prop} (hk : regOk ops a0.tmps.size = true)
    (hstep : ∀ i o, ops[i]? = some o → StepOut P ops Q a0 WS i o)
    (hend : ∀ V a w, AV ops a0 V (fun i => decide (i < ops.size)) a → WS V (fun i => decide (i < ops.size)) w → Q .normal a w) :
    ∀ (fuel : Nat) (listed : Array Bool) (V : Nat → Value) (a : Act) (w : World), undone listed ≤ fuel → listed.size = ops.size → Closed ops (Dof listed) → AV ops a0 V (Dof listed) a → WS V (Dof listed) w → wpAny P .any ops Q fuel listed a w := by
  have fin : ∀ (listed : Array Bool) (V : Nat → Value) (a : Act) (w : World), listed.size = ops.size → AV ops a0 V (Dof listed) a → WS V (Dof listed) w → Region.ready .any ops listed = [] → Q .normal a w := by
    intro listed V a w hs hav hws hr
    have hD : Dof listed = fun i => decide (i < ops.size) := by
      funext i
      by_cases hi : i < ops.size
      · rw [ready_nil hk hs hr i hi]; simp [hi]
      · unfold Dof; simp [hi, Array.getElem?_eq_none (show listed.size ≤ i by omega)]
    rw [hD] at hav hws
    exact hend V a w hav hws
  intro fuel
  induction fuel with
  | zero =>
    intro listed V a w hu hs hc hav hws
    have hr := ready_none (md := .any) (ops := ops) (show undone listed = 0 by omega)
    exact ⟨hr, fin listed V a w hs hav hws hr⟩
  | succ fuel ih =>
    intro listed V a w hu hs hc hav hws
    refine ⟨fun hr => fin listed V a w hs hav hws hr, fun i hi => ?_⟩
    obtain ⟨h0, o, ho, hall⟩ := mem_ready.1 hi
    have hlt : i < listed.size := by rw [hs]; exact (Array.getElem?_eq_some_iff.1 ho).1
    have hD0 : Dof listed i = false := by unfold Dof; simp [hlt] at h0 ⊢; exact h0
    have h := hstep i o ho V (Dof listed) a w hD0 hall hc hav hws
    have next : ∀ v w', WS (updV V i v) (updD (Dof listed) i) w' → wpAny P .any ops Q fuel (listed.setIfInBounds i true) (a.put o.dst v) w' := fun v w' hw' => by
      refine ih _ (updV V i v) _ w' (by have := undone_set h0; omega) (by simp [hs]) ?_ ?_ ?_
      · rw [Dof_set hlt]; exact closed_set hc ho hall
      · rw [Dof_set hlt]; exact hav.put hk ho v
      · rw [Dof_set hlt]; exact hw'
    unfold wpOp
    rw [ho]
    simp only
    split
    · rename_i hw
      rw [if_pos hw] at h
      exact .inl (Oper.wp_mono (fun a' w' ⟨v, e, hw'⟩ => by rw [e]; exact next v w' hw') h)
    · rename_i hw
      rw [if_neg hw] at h
      exact next undef w h
def AllFrom (R : Nat → Oper → Prop) : Nat → List Oper → Prop
  | _, [] => True
  | k, o :: r => R k o ∧ AllFrom R (k + 1) r
theorem AllFrom.at {R : Nat → Oper → Prop} {k : Nat} {l : List Oper} (h : AllFrom R k l) {i : Nat} {o : Oper} (ho : l[i]? = some o) : R (k + i) o := by
  induction l generalizing k i with
  | nil => simp at ho
  | cons x l ih =>
    cases i with
    | zero => simp at ho; subst ho; exact h.1
    | succ i =>
      have := ih h.2 (i := i) (by simpa using ho)
      rwa [show k + 1 + i = k + (i + 1) by omega] at this
theorem wpIn_region_inv {F : Fence} {n : Nat} {P : Program} {id : Nat} {l : List Oper} {Q : Exit → Act → World → Prop} {a0 : Act} {w : World} (hm : P.follows .mixedOrders = true) (WS : (Nat → Value) → (Nat → Bool) → World → Prop) (hk : regOk l.toArray a0.tmps.size = true)
    (h0 : WS (fun _ => undef) (fun _ => false) w.drew) (hstep : AllFrom (StepIn F n P l.toArray Q a0 WS) 0 l)
    (hend : ∀ V a w, AV l.toArray a0 V (fun i => decide (i < l.length)) a → WS V (fun i => decide (i < l.length)) w → Q .normal a w) : (Code.region id l.toArray true).wpIn F n P Q a0 w := by
  have hD : Dof (Array.replicate l.toArray.size false) = fun _ => false := by
    funext i; unfold Dof; by_cases hi : i < l.length <;> simp [hi]
  refine wpIn_region_any hm (wpAnyIn_inv hk (fun i o ho => ?_) (fun V a w hav hws => hend V a w (by simpa using hav) (by simpa using hws)) _ _ (fun _ => undef) a0 _ ?_ (by simp) ?_ ?_ ?_)
  · have := hstep.at (i := i) (o := o) (by simpa using ho)
    rwa [Nat.zero_add] at this
  · unfold undone; exact Nat.le_trans List.countP_le_length (by simp)
  · rw [hD]; intro j o _ h; cases h
  · rw [hD]; exact ⟨fun _ _ _ _ _ h => (by cases h), fun _ _ => rfl, rfl, rfl⟩
  · rw [hD]; exact h0
theorem wp_region_inv {P : Program} {id : Nat} {l : List Oper} {Q : Exit → Act → World → Prop} {a0 : Act} {w : World} (hm : P.follows .mixedOrders = true) (WS : (Nat → Value) → (Nat → Bool) → World → Prop) (hk : regOk l.toArray a0.tmps.size = true)
    (h0 : WS (fun _ => undef) (fun _ => false) w.drew) (hstep : AllFrom (StepOut P l.toArray Q a0 WS) 0 l)
    (hend : ∀ V a w, AV l.toArray a0 V (fun i => decide (i < l.length)) a → WS V (fun i => decide (i < l.length)) w → Q .normal a w) : (Code.region id l.toArray true).wp P Q a0 w := by
  have hD : Dof (Array.replicate l.toArray.size false) = fun _ => false := by
    funext i; unfold Dof; by_cases hi : i < l.length <;> simp [hi]
  refine wp_region_any hm (wpAny_inv hk (fun i o ho => ?_) (fun V a w hav hws => hend V a w (by simpa using hav) (by simpa using hws)) _ _ (fun _ => undef) a0 _ ?_ (by simp) ?_ ?_ ?_)
  · have := hstep.at (i := i) (o := o) (by simpa using ho)
    rwa [Nat.zero_add] at this
  · unfold undone; exact Nat.le_trans List.countP_le_length (by simp)
  · rw [hD]; intro j o _ h; cases h
  · rw [hD]; exact ⟨fun _ _ _ _ _ h => (by cases h), fun _ _ => rfl, rfl, rfl⟩
  · rw [hD]; exact h0
theorem AV.as {ops : Array Oper} {a0 a : Act} {V V' : Nat → Value} {D : Nat → Bool} (h : AV ops a0 V D a) (hv : ∀ i, D i = true → V i = V' i) : AV ops a0 V' D a :=
  ⟨fun i o d ho hd hD => by rw [← hv i hD]; exact h.val i o d ho hd hD, h.old, h.size, h.defers⟩
/-- where each operation gives one value, whatever the order -/
def StepInS (F : Fence) (n : Nat) (P : Program) (ops : Array Oper) (Q : Exit → Act → World → Prop) (a0 : Act) (Vs : Nat → Value) (WS : (Nat → Bool) → World → Prop) (i : Nat) (o : Oper) : Prop :=
  ∀ D a w, D i = false → (∀ e ∈ o.after, Region.binds .any e = true → D e.on = true) → Closed ops D → AV ops a0 Vs D a → WS D w →
    Region.wanted o (yielded ops a.tmps) = true ∧ o.uponIn F n P a (fun a' w' => a' = a.put o.dst (Vs i) ∧ WS (updD D i) w') Q ((o.semAt F.round a.eval).run P w)
def StepOutS (P : Program) (ops : Array Oper) (Q : Exit → Act → World → Prop) (a0 : Act) (Vs : Nat → Value) (WS : (Nat → Bool) → World → Prop) (i : Nat) (o : Oper) : Prop :=
  ∀ D a w, D i = false → (∀ e ∈ o.after, Region.binds .any e = true → D e.on = true) → Closed ops D → AV ops a0 Vs D a → WS D w →
    Region.wanted o (yielded ops a.tmps) = true ∧ o.wp P a w (fun a' w' => a' = a.put o.dst (Vs i) ∧ WS (updD D i) w') Q
theorem AllFrom.imp {R R' : Nat → Oper → Prop} (h : ∀ i o, R i o → R' i o) : ∀ {k : Nat} {l : List Oper}, AllFrom R k l → AllFrom R' k l
  | _, [], _ => trivial
  | _, _ :: _, ⟨a, b⟩ => ⟨h _ _ a, AllFrom.imp h b⟩
theorem updV_as {V Vs : Nat → Value} {D : Nat → Bool} {i : Nat} (h : ∀ j, D j = true → V j = Vs j) : ∀ j, updD D i j = true → updV V i (Vs i) j = Vs j := by
  intro j hj
  unfold updV
  by_cases hji : j = i
  · rw [if_pos hji, hji]
  · rw [if_neg hji]; exact h j (by simpa [updD, hji] using hj)
theorem wpIn_region_st {n : Nat} {P : Program} {id r : Nat} {l : List Oper} {Q : Exit → Act → World → Prop} {a0 : Act} {w : World} (hm : P.follows .mixedOrders = true) (Vs : Nat → Value) (WS : (Nat → Bool) → World → Prop) (hk : regOk l.toArray a0.tmps.size = true)
    (h0 : WS (fun _ => false) w.drew) (hstep : AllFrom (StepInS (Fence.wide.inRound r) n P l.toArray Q a0 Vs WS) 0 l)
    (hend : ∀ a w, AV l.toArray a0 Vs (fun i => decide (i < l.length)) a → WS (fun i => decide (i < l.length)) w → Q .normal a w) : (Code.region id l.toArray true).wpIn (Fence.wide.inRound r) n P Q a0 w := by
  refine wpIn_region_inv hm (fun V D w => (∀ i, D i = true → V i = Vs i) ∧ WS D w) hk ⟨fun _ h => (by cases h), h0⟩ (AllFrom.imp (fun i o h => ?_) hstep) (fun V a w hav hws => hend a w (hav.as hws.1) hws.2)
  intro V D a w hD hd hc hav hws
  obtain ⟨h1, h2⟩ := h D a w hD hd hc (hav.as hws.1) hws.2
  rw [if_pos h1]
  exact Oper.wpIn_mono (fun a' w' ⟨e, hw'⟩ => ⟨Vs i, e, updV_as hws.1, hw'⟩) ⟨fun _ _ => trivial, h2⟩
theorem wp_region_st {P : Program} {id : Nat} {l : List Oper} {Q : Exit → Act → World → Prop} {a0 : Act} {w : World} (hm : P.follows .mixedOrders = true) (Vs : Nat → Value) (WS : (Nat → Bool) → World → Prop) (hk : regOk l.toArray a0.tmps.size = true)
    (h0 : WS (fun _ => false) w.drew) (hstep : AllFrom (StepOutS P l.toArray Q a0 Vs WS) 0 l)
    (hend : ∀ a w, AV l.toArray a0 Vs (fun i => decide (i < l.length)) a → WS (fun i => decide (i < l.length)) w → Q .normal a w) : (Code.region id l.toArray true).wp P Q a0 w := by
  refine wp_region_inv hm (fun V D w => (∀ i, D i = true → V i = Vs i) ∧ WS D w) hk ⟨fun _ h => (by cases h), h0⟩ (AllFrom.imp (fun i o h => ?_) hstep) (fun V a w hav hws => hend a w (hav.as hws.1) hws.2)
  intro V D a w hD hd hc hav hws
  obtain ⟨h1, h2⟩ := h D a w hD hd hc (hav.as hws.1) hws.2
  rw [if_pos h1]
  exact Oper.wp_mono (fun a' w' ⟨e, hw'⟩ => ⟨Vs i, e, updV_as hws.1, hw'⟩) h2
theorem AV.uniq {ops : Array Oper} {a0 a b : Act} {V : Nat → Value} {D : Nat → Bool} (h : AV ops a0 V D a) (k : AV ops a0 V D b) : a = b := by
  have ht : a.tmps = b.tmps := by
    apply Array.ext_getElem?
    intro t
    by_cases hx : ∃ i o, ops[i]? = some o ∧ D i = true ∧ o.dst = some t
    · obtain ⟨i, o, ho, hD, hd⟩ := hx
      rw [h.val i o t ho hd hD, k.val i o t ho hd hD]
    · rw [h.old t fun i o ho hD hd => hx ⟨i, o, ho, hD, hd⟩, k.old t fun i o ho hD hd => hx ⟨i, o, ho, hD, hd⟩]
  have hd := h.defers.trans k.defers.symm
  cases a; cases b
  simp only at ht hd
  rw [ht, hd]
def putAll (V : Nat → Value) : Nat → List Oper → Act → Act
  | _, [], a => a
  | k, o :: r, a => putAll V (k + 1) r (a.put o.dst (V k))
theorem putAll_snoc (V : Nat → Value) (o : Oper) : ∀ (l : List Oper) (k : Nat) (a : Act), putAll V k (l ++ [o]) a = (putAll V k l a).put o.dst (V (k + l.length))
  | [], _, _ => rfl
  | x :: l, k, a => by
    rw [List.cons_append, putAll, putAll, putAll_snoc V o l, List.length_cons, show k + 1 + l.length = k + (l.length + 1) by omega]
theorem AV.final {l : List Oper} {a0 a : Act} {V : Nat → Value} (hk : regOk l.toArray a0.tmps.size = true) (h : AV l.toArray a0 V (fun i => decide (i < l.length)) a) : a = putAll V 0 l a0 := by
  have hp : ∀ k, k ≤ l.length → AV l.toArray a0 V (fun i => decide (i < k)) (putAll V 0 (l.take k) a0) := by
    intro k
    induction k with
    | zero => intro _; exact ⟨fun i o d _ _ hD => by simp at hD, fun t _ => rfl, rfl, rfl⟩
    | succ k ih =>
      intro hk'
      have hlt : k < l.length := by omega
      have h1 := (ih (by omega)).put hk (i := k) (o := l[k]) (by simp [hlt]) (V k)
      rw [List.take_succ_eq_append_getElem hlt, putAll_snoc, List.length_take, Nat.min_eq_left (by omega), Nat.zero_add]
      have e1 : updV V k (V k) = V := by funext j; unfold updV; split <;> simp_all
      have e2 : updD (fun i => decide (i < k)) k = fun i => decide (i < k + 1) := by
        funext j
        unfold updD
        by_cases hj : j = k
        · simp [hj]
        · rw [if_neg hj]; congr 1; simp; omega
      rw [e1, e2] at h1
      exact h1
  have := hp l.length (Nat.le_refl _)
  rw [List.take_length] at this
  exact h.uniq this
end Go.Proofs.Ytbdmkgdgbpfhpaa

