/- The rules of the small separation logic: what each operation needs of the frame and the heap, and what it leaves. Its conditions: none. -/
import Derived.Test.YtljjplndcbekfaaDoorCore
import Derived.OrdersHeld
import Derived.Defers
namespace Go.Proofs.YtljjplndcbekfaaDoor
namespace SL
variable {P : Program} {Q : Exit → Act → World → Prop} {dfs : List Deferred} {n : Nat} {ρ : Env} {H : List HP} {K : Act → World → Prop}

/-- an operation that only yields a value, in whatever world bears H -/
def OpQ (P : Program) (dfs : List Deferred) (n : Nat) (ρ : Env) (H : List HP) (o : Oper) (v : Value) : Prop := ∀ a w, Agree dfs n ρ a → Sat w H → (execOp a.eval o).run P w = .ok (.value v) w
/-- an operation, then K -/
def OpL (P : Program) (Q : Exit → Act → World → Prop) (dfs : List Deferred) (n : Nat) (ρ : Env) (H : List HP) (o : Oper) (K : Act → World → Prop) : Prop :=
  ∀ a w, Agree dfs n ρ a → Sat w H → o.wp P a w K Q ∨ (o.asks P a w ∧ LetsOut Q)

/-! ### plain regions -/
theorem reg {id : Nat} {l : List Oper} (h : St dfs n ρ H (wpList P l.toArray Q l)) : St dfs n ρ H ((Code.region id l.toArray false).wp P Q) :=
  fun a w A s => wp_region_lit (h a w A s)
theorem r_nil {ops : Array Oper} (h : St dfs n ρ H (Q .normal)) : St dfs n ρ H (wpList P ops Q []) := h
theorem r_q {ops : Array Oper} {rest : List Oper} {d : Nat} {op : Op} {ty : TypeId} {pos : String} {af : Array Edge} {v : Value}
    (h : OpQ P dfs n ρ H ⟨some d, op, ty, pos, af, none⟩ v) (k : St dfs n ((d, v) :: ρ) H (wpList P ops Q rest)) (hd : d < n := by decide) :
    St dfs n ρ H (wpList P ops Q (⟨some d, op, ty, pos, af, none⟩ :: rest)) := fun a w A s => by
  unfold wpList
  rw [if_pos (by rfl)]
  left
  show Oper.upon _ _ _ _ _ _
  rw [h a w A s]
  exact k _ _ (A.put hd v) s
theorem r_q0 {ops : Array Oper} {rest : List Oper} {op : Op} {ty : TypeId} {pos : String} {af : Array Edge} {v : Value}
    (h : OpQ P dfs n ρ H ⟨none, op, ty, pos, af, none⟩ v) (k : St dfs n ρ H (wpList P ops Q rest)) :
    St dfs n ρ H (wpList P ops Q (⟨none, op, ty, pos, af, none⟩ :: rest)) := fun a w A s => by
  unfold wpList
  rw [if_pos (by rfl)]
  left
  show Oper.upon _ _ _ _ _ _
  rw [h a w A s]
  exact k _ _ (A.put_none v) s
theorem r_l {ops : Array Oper} {rest : List Oper} {d : Option Tmp} {op : Op} {ty : TypeId} {pos : String} {af : Array Edge}
    (h : OpL P Q dfs n ρ H ⟨d, op, ty, pos, af, none⟩ (wpList P ops Q rest)) : St dfs n ρ H (wpList P ops Q (⟨d, op, ty, pos, af, none⟩ :: rest)) := fun a w A s => by
  unfold wpList
  rw [if_pos (by rfl)]
  exact h a w A s
/-- a guarded operation: the guard's temporary holds b -/
theorem yielded_of {ops : Array Oper} {j t : Nat} {b : Bool} {a : Act} (A : Agree dfs n ρ a) (hj : (ops[j]?).bind (·.dst) = some t) (hv : ρ.get t = some (.bool b)) : yielded ops a.tmps j = some b := by
  have h := A.get t _ hv
  unfold yielded
  rw [hj]
  simp only [Option.bind_some]
  by_cases ht : t < a.tmps.size
  · rw [Array.getD_eq_getD_getElem?, Array.getElem?_eq_getElem ht] at h
    rw [Array.getElem?_eq_getElem ht]
    simp at h
    rw [h]
  · rw [Array.getD_eq_getD_getElem?, Array.getElem?_eq_none (by omega)] at h
    simp [undef] at h
theorem r_yes {ops : Array Oper} {rest : List Oper} {d : Option Tmp} {op : Op} {ty : TypeId} {pos : String} {af : Array Edge} {j t : Nat} {b : Bool}
    (h : OpL P Q dfs n ρ H ⟨d, op, ty, pos, af, some (j, b)⟩ (wpList P ops Q rest)) (hj : (ops[j]?).bind (·.dst) = some t := by rfl) (hv : ρ.get t = some (.bool b) := by rfl) :
    St dfs n ρ H (wpList P ops Q (⟨d, op, ty, pos, af, some (j, b)⟩ :: rest)) := fun a w A s => by
  unfold wpList
  rw [if_pos (by simp [Region.wanted, yielded_of A hj hv])]
  exact h a w A s
theorem r_no {ops : Array Oper} {rest : List Oper} {d : Nat} {op : Op} {ty : TypeId} {pos : String} {af : Array Edge} {j t : Nat} {b c : Bool}
    (k : St dfs n ((d, undef) :: ρ) H (wpList P ops Q rest)) (hj : (ops[j]?).bind (·.dst) = some t := by rfl) (hv : ρ.get t = some (.bool c) := by rfl) (hne : (c == b) = false := by rfl) (hd : d < n := by decide) :
    St dfs n ρ H (wpList P ops Q (⟨some d, op, ty, pos, af, some (j, b)⟩ :: rest)) := fun a w A s => by
  unfold wpList
  rw [if_neg (by simp [Region.wanted, yielded_of A hj hv]; simpa using hne)]
  exact k _ _ (A.put hd undef) s
theorem r_yq {ops : Array Oper} {rest : List Oper} {d : Nat} {op : Op} {ty : TypeId} {pos : String} {af : Array Edge} {j t : Nat} {b : Bool} {v : Value}
    (h : OpQ P dfs n ρ H ⟨some d, op, ty, pos, af, some (j, b)⟩ v) (k : St dfs n ((d, v) :: ρ) H (wpList P ops Q rest)) (hj : (ops[j]?).bind (·.dst) = some t := by rfl) (hv : ρ.get t = some (.bool b) := by rfl) (hd : d < n := by decide) :
    St dfs n ρ H (wpList P ops Q (⟨some d, op, ty, pos, af, some (j, b)⟩ :: rest)) := fun a w A s => by
  unfold wpList
  rw [if_pos (by simp [Region.wanted, yielded_of A hj hv])]
  left
  show Oper.upon _ _ _ _ _ _
  rw [h a w A s]
  exact k _ _ (A.put hd v) s
/-- a quiet operation as any -/
theorem l_q {d : Nat} {op : Op} {ty : TypeId} {pos : String} {af : Array Edge} {g : Option (Nat × Bool)} {v : Value}
    (h : OpQ P dfs n ρ H ⟨some d, op, ty, pos, af, g⟩ v) (k : St dfs n ((d, v) :: ρ) H K) (hd : d < n := by decide) : OpL P Q dfs n ρ H ⟨some d, op, ty, pos, af, g⟩ K := fun a w A s => by
  left
  show Oper.upon _ _ _ _ _ _
  rw [h a w A s]
  exact k _ _ (A.put hd v) s
/-- what an operation that changes the world comes to -/
theorem OpL.run {d : Nat} {op : Op} {ty : TypeId} {pos : String} {af : Array Edge} {g : Option (Nat × Bool)}
    (h : ∀ a w, Agree dfs n ρ a → Sat w H → ∃ v w' H', (execOp a.eval ⟨some d, op, ty, pos, af, g⟩).run P w = .ok (.value v) w' ∧ Sat w' H' ∧ St dfs n ((d, v) :: ρ) H' K) (hd : d < n) : OpL P Q dfs n ρ H ⟨some d, op, ty, pos, af, g⟩ K := fun a w A s => by
  obtain ⟨v, w', H', e, s', k⟩ := h a w A s
  left
  show Oper.upon _ _ _ _ _ _
  rw [e]
  exact k _ _ (A.put hd v) s'
theorem OpL.run0 {op : Op} {ty : TypeId} {pos : String} {af : Array Edge} {g : Option (Nat × Bool)}
    (h : ∀ a w, Agree dfs n ρ a → Sat w H → ∃ w' H', ((∃ v, (execOp a.eval ⟨none, op, ty, pos, af, g⟩).run P w = .ok (.value v) w') ∨ (execOp a.eval ⟨none, op, ty, pos, af, g⟩).run P w = .ok .skip w') ∧ Sat w' H' ∧ St dfs n ρ H' K) : OpL P Q dfs n ρ H ⟨none, op, ty, pos, af, g⟩ K := fun a w A s => by
  obtain ⟨w', H', e, s', k⟩ := h a w A s
  left
  show Oper.upon _ _ _ _ _ _
  rcases e with ⟨v, e⟩ | e <;> rw [e]
  · exact k _ _ (A.put_none v) s'
  · exact k _ _ (A.put_none undef) s'

/-! ### regions that draw their order -/
/-- what Q says of a panic does not hang on the temporaries -/
def PanicOk (d : Option Tmp) (Q : Exit → Act → World → Prop) : Prop := ∀ c a v w, Q (.panic c) (Act.put a d v) w → Q (.panic c) a w
theorem PanicOk.then {d : Option Tmp} (h : PanicOk d Q) : PanicOk d (Exit.then K Q) := fun c a v w => h c a v w
theorem PanicOk.block {d : Option Tmp} {id : Nat} (h : PanicOk d Q) : PanicOk d (Exit.inBlock id Q) := fun c a v w => h c a v w
theorem PanicOk.scope {d : Option Tmp} (h : PanicOk d Q) : PanicOk d (Exit.noGoto Q) := fun c a v w => h c a v w
theorem PanicOk.body {d : Option Tmp} {fn : Func} {R : Ending → World → Prop} : PanicOk d (bodyPost P fn R) := fun _ _ _ _ ⟨h, r⟩ => ⟨by cases d <;> exact h, r⟩

/-- whatever order is picked from here on; S holds behind each operation -/
def wpG (P : Program) (ops : Array Oper) (Q : Exit → Act → World → Prop) (S : Array Bool → World → Prop) : Nat → Array Bool → Act → World → Prop
  | 0, listed, a, w => Region.ready .any ops listed = [] ∧ Q .normal a w
  | fuel + 1, listed, a, w =>
    (Region.ready .any ops listed = [] → Q .normal a w) ∧
    ∀ i ∈ Region.ready .any ops listed, wpOp P ops Q i (fun a' w' => S (listed.setIfInBounds i true) w' ∧ wpG P ops Q S fuel (listed.setIfInBounds i true) a' w') a w
theorem wpG_any {ops : Array Oper} {S : Array Bool → World → Prop} : ∀ (fuel : Nat) (listed : Array Bool) (a : Act) (w : World), wpG P ops Q S fuel listed a w → wpAny P .any ops Q fuel listed a w
  | 0, _, _, _, h => h
  | fuel + 1, _, _, _, h => ⟨h.1, fun i hi => wpOp_mono (fun a' w' h' => wpG_any fuel _ a' w' h'.2) (h.2 i hi)⟩
/-- until operation m (which waits for the others) has come up, L is borne -/
def SL_ (L : List HP) (m : Nat) (listed : Array Bool) (w : World) : Prop := listed.getD m false = true ∨ Sat w L
/-- operation m waits for operation i, or is none -/
def waits (ops : Array Oper) (m i : Nat) : Bool := match ops[m]? with
  | none => true
  | some o => o.after.any fun e => Region.binds .any e && e.on == i
theorem wpG_first {ops : Array Oper} {L : List HP} {m i : Nat} {oi : Oper} {v : Value} (hi : ops[i]? = some oi) (hsel : ∀ (j : Nat) (o : Oper) cs b, ops[j]? = some o → o.op ≠ .select cs b)
    (hQ : PanicOk oi.dst Q) (hw : waits ops m i = true) (him : i ≠ m) :
    ∀ (fuel : Nat) (listed : Array Bool) (a : Act) (w : World),
      (∀ j oj, ops[j]? = some oj → j ≠ i → listed.getD j true = false → (∀ e ∈ oj.after, Region.binds .any e = true → e.on ≠ i) → oi.apart ops oj = true) →
      i ∈ Region.ready .any ops listed → YieldsIf P ops (fun w => Sat w L) oi v a → Sat w L → listed.getD m false = false →
      wpG P ops Q (SL_ L m) fuel (listed.setIfInBounds i true) (a.put oi.dst v) w → wpG P ops Q (SL_ L m) (fuel + 1) listed a w := by
  intro fuel
  induction fuel with
  | zero =>
    intro listed a w _ hr hy hS _ H
    refine ⟨fun h => (by rw [h] at hr; cases hr), fun j hj => ?_⟩
    by_cases hji : j = i
    · subst hji; exact hy.wpOp hi hS ⟨.inr hS, H⟩
    · have := ready_mono hj hji
      rw [H.1] at this
      cases this
  | succ fuel ih =>
    intro listed a w hfree hr hy hS hm H
    refine ⟨fun h => (by rw [h] at hr; cases hr), fun j hj => ?_⟩
    by_cases hji : j = i
    · subst hji; exact hy.wpOp hi hS ⟨.inr hS, H⟩
    · have h1 := H.2 j (ready_mono hj hji)
      obtain ⟨hjun, oj, hoj, hall⟩ := mem_ready.1 hj
      have hnot : ∀ e ∈ oj.after, Region.binds .any e = true → e.on ≠ i := fun e he hb heq => by
        have h1 := hall e he hb
        have h0 := (mem_ready.1 hr).1
        rw [heq] at h1
        rcases Nat.lt_or_ge i listed.size with h' | h'
        · simp [h'] at h0 h1; rw [h0] at h1; cases h1
        · simp [Array.getElem?_eq_none h'] at h1
      have hjm : j ≠ m := fun e => by
        subst e
        unfold waits at hw
        rw [hoj] at hw
        simp only [Array.any_eq_true, Bool.and_eq_true, beq_iff_eq] at hw
        obtain ⟨k, hk, hb, he⟩ := hw
        exact hnot _ (Array.getElem_mem hk) hb he
      have h2 := wpOp_putIf hoj (hfree j oj hoj hji hjun hnot) (fun cs b => hsel i oi cs b hi) (fun cs b => hsel j oj cs b hoj) (fun c a w => hQ c a v w) hy h1
      have hfree' : ∀ k ok, ops[k]? = some ok → k ≠ i → (listed.setIfInBounds j true).getD k true = false →
          (∀ e ∈ ok.after, Region.binds .any e = true → e.on ≠ i) → oi.apart ops ok = true := fun k ok hk hki hun hno => by
        refine hfree k ok hk hki ?_ hno
        by_cases hjk : j = k
        · subst hjk; exact hjun
        · rw [getD_set_ne true hjk] at hun; exact hun
      refine wpOp_mono (fun a' w' h3 => ?_) h2
      obtain ⟨h4, h5, h6⟩ := h3
      rw [Array.setIfInBounds_comm _ _ (Ne.symm hji)] at h5 h6
      have hm' : (listed.setIfInBounds j true).getD m false = false := by rw [getD_set_ne false hjm]; exact hm
      have hS' : Sat w' L := by
        rcases h5 with h5 | h5
        · rw [getD_set_ne false him, hm'] at h5; cases h5
        · exact h5
      exact ⟨.inr hS', ih (listed.setIfInBounds j true) a' w' hfree' (ready_mono hr (Ne.symm hji)) h4 hS' hm' h6⟩

theorem dreg {id N : Nat} {ops : Array Oper} (L : List HP) (m : Nat) (h : St dfs n ρ H (wpG P ops Q (SL_ L m) N (Array.replicate N false)))
    (hm : P.follows .mixedOrders = true) (hN : ops.size = N) : St dfs n ρ H ((Code.region id ops true).wp P Q) :=
  fun a w A s => wp_region_any hm (wpG_any _ _ _ _ (by rw [hN]; exact h a _ A (s.same rfl)))
section
variable {ops : Array Oper} {L : List HP} {fuel m : Nat} {listed : Array Bool}
theorem d_q {d : Nat} {op : Op} {ty : TypeId} {pos : String} {af : Array Edge} {v : Value} (i : Nat)
    (hi : ops[i]? = some ⟨some d, op, ty, pos, af, none⟩) (h : OpQ P dfs n ρ L ⟨some d, op, ty, pos, af, none⟩ v) (hL : ∀ w, Sat w H → Sat w L) (hQ : PanicOk (some d) Q)
    (hb : (Region.noSelect ops && Region.free .any ops listed i && (Region.ready .any ops listed).contains i && waits ops m i && !(i == m) && !(listed.getD m false)) = true)
    (k : St dfs n ((d, v) :: ρ) H (wpG P ops Q (SL_ L m) fuel (listed.setIfInBounds i true))) (hd : d < n := by decide) :
    St dfs n ρ H (wpG P ops Q (SL_ L m) (fuel + 1) listed) := fun a w A s => by
  simp only [Bool.and_eq_true, Bool.not_eq_true', beq_eq_false_iff_ne] at hb
  obtain ⟨⟨⟨⟨⟨hs, hf⟩, hr⟩, hw⟩, him⟩, hm⟩ := hb
  exact wpG_first hi (Region.noSelect_spec hs) hQ hw him fuel listed a w (Region.free_spec hi hf) (by simpa using hr) (.inl ⟨rfl, fun w' s' => h a w' A s'⟩) (hL w s) hm (k _ _ (A.put hd v) s)
/-- a guarded quiet operation: the guard says yes; no -/
theorem d_qy {d : Nat} {op : Op} {ty : TypeId} {pos : String} {af : Array Edge} {v : Value} {j t : Nat} {b : Bool} (i : Nat)
    (hi : ops[i]? = some ⟨some d, op, ty, pos, af, some (j, b)⟩) (h : OpQ P dfs n ρ L ⟨some d, op, ty, pos, af, some (j, b)⟩ v) (hL : ∀ w, Sat w H → Sat w L) (hQ : PanicOk (some d) Q)
    (hb : (Region.noSelect ops && Region.free .any ops listed i && (Region.ready .any ops listed).contains i && waits ops m i && !(i == m) && !(listed.getD m false)) = true)
    (k : St dfs n ((d, v) :: ρ) H (wpG P ops Q (SL_ L m) fuel (listed.setIfInBounds i true))) (hj : (ops[j]?).bind (·.dst) = some t := by rfl) (hv : ρ.get t = some (.bool b) := by rfl) (hd : d < n := by decide) :
    St dfs n ρ H (wpG P ops Q (SL_ L m) (fuel + 1) listed) := fun a w A s => by
  simp only [Bool.and_eq_true, Bool.not_eq_true', beq_eq_false_iff_ne] at hb
  obtain ⟨⟨⟨⟨⟨hs, hf⟩, hr⟩, hw⟩, him⟩, hm⟩ := hb
  exact wpG_first hi (Region.noSelect_spec hs) hQ hw him fuel listed a w (Region.free_spec hi hf) (by simpa using hr) (.inl ⟨by simp [Region.wanted, yielded_of A hj hv], fun w' s' => h a w' A s'⟩) (hL w s) hm (k _ _ (A.put hd v) s)
theorem d_qn {d : Nat} {op : Op} {ty : TypeId} {pos : String} {af : Array Edge} {j t : Nat} {b c : Bool} (i : Nat)
    (hi : ops[i]? = some ⟨some d, op, ty, pos, af, some (j, b)⟩) (hL : ∀ w, Sat w H → Sat w L) (hQ : PanicOk (some d) Q)
    (hb : (Region.noSelect ops && Region.free .any ops listed i && (Region.ready .any ops listed).contains i && waits ops m i && !(i == m) && !(listed.getD m false)) = true)
    (k : St dfs n ((d, undef) :: ρ) H (wpG P ops Q (SL_ L m) fuel (listed.setIfInBounds i true))) (hj : (ops[j]?).bind (·.dst) = some t := by rfl) (hv : ρ.get t = some (.bool c) := by rfl) (hne : (c == b) = false := by rfl) (hd : d < n := by decide) :
    St dfs n ρ H (wpG P ops Q (SL_ L m) (fuel + 1) listed) := fun a w A s => by
  simp only [Bool.and_eq_true, Bool.not_eq_true', beq_eq_false_iff_ne] at hb
  obtain ⟨⟨⟨⟨⟨hs, hf⟩, hr⟩, hw⟩, him⟩, hm⟩ := hb
  exact wpG_first hi (Region.noSelect_spec hs) hQ hw him fuel listed a w (Region.free_spec hi hf) (by simpa using hr) (.inr ⟨by simp [Region.wanted, yielded_of A hj hv]; simpa using hne, rfl⟩) (hL w s) hm (k _ _ (A.put hd undef) s)
theorem d_all {S : Array Bool → World → Prop} {rs : List Nat} (hr : Region.ready .any ops listed = rs) (hne : rs ≠ [])
    (h : ∀ i ∈ rs, St dfs n ρ H (wpOp P ops Q i (fun a' w' => S (listed.setIfInBounds i true) w' ∧ wpG P ops Q S fuel (listed.setIfInBounds i true) a' w'))) : St dfs n ρ H (wpG P ops Q S (fuel + 1) listed) :=
  fun a w A s => ⟨fun h0 => absurd (hr ▸ h0) hne, hr ▸ fun i hi => h i hi a w A s⟩
theorem d_op {o : Oper} {i : Nat} (hi : ops[i]? = some o) (hg : o.guard = none) (k : OpL P Q dfs n ρ H o K) : St dfs n ρ H (wpOp P ops Q i K) := fun a w A s => by
  unfold wpOp
  rw [hi]
  simp only
  rw [if_pos (by simp [Region.wanted, hg])]
  exact k a w A s
/-- the one operation that may come up -/
theorem d_l {o : Oper} (i : Nat) (hr : Region.ready .any ops listed = [i]) (hi : ops[i]? = some o) (hg : o.guard = none)
    (k : OpL P Q dfs n ρ H o (fun a w => SL_ L m (listed.setIfInBounds i true) w ∧ wpG P ops Q (SL_ L m) fuel (listed.setIfInBounds i true) a w)) :
    St dfs n ρ H (wpG P ops Q (SL_ L m) (fuel + 1) listed) := d_all hr (by simp) (fun j hj => by
    simp only [List.mem_singleton] at hj
    subst hj
    exact d_op hi hg k)
theorem d_two {o o' : Oper} (i j : Nat) (hr : Region.ready .any ops listed = [i, j]) (hi : ops[i]? = some o) (hg : o.guard = none) (hj : ops[j]? = some o') (hg' : o'.guard = none)
    (k : OpL P Q dfs n ρ H o (fun a w => SL_ L m (listed.setIfInBounds i true) w ∧ wpG P ops Q (SL_ L m) fuel (listed.setIfInBounds i true) a w))
    (k' : OpL P Q dfs n ρ H o' (fun a w => SL_ L m (listed.setIfInBounds j true) w ∧ wpG P ops Q (SL_ L m) fuel (listed.setIfInBounds j true) a w)) :
    St dfs n ρ H (wpG P ops Q (SL_ L m) (fuel + 1) listed) := d_all hr (by simp) (fun q hq => by
    simp only [List.mem_cons, List.mem_nil_iff, or_false] at hq
    rcases hq with rfl | rfl
    · exact d_op hi hg k
    · exact d_op hj hg' k')
/-- behind an operation of the tail -/
theorem d_tail (k : St dfs n ρ H K) (hm : listed.getD m false = true) : St dfs n ρ H (fun a w => SL_ L m listed w ∧ K a w) := fun a w A s => ⟨.inl hm, k a w A s⟩
theorem d_head (hL : ∀ w, Sat w H → Sat w L) (k : St dfs n ρ H K) : St dfs n ρ H (fun a w => SL_ L m listed w ∧ K a w) := fun a w A s => ⟨.inr (hL w s), k a w A s⟩
theorem d_nil {S : Array Bool → World → Prop} (hr : Region.ready .any ops listed = []) (k : St dfs n ρ H (Q .normal)) : St dfs n ρ H (wpG P ops Q S fuel listed) := fun a w A s => by
  cases fuel with
  | zero => exact ⟨hr, k a w A s⟩
  | succ f => exact ⟨fun _ => k a w A s, by rw [hr]; simp⟩
end

/-! ### code -/
theorem c_seq {x y : Code} (h : St dfs n ρ H (x.wp P (Exit.then (y.wp P Q) Q))) : St dfs n ρ H ((Code.seq x y).wp P Q) := fun a w A s => wp_seq (h a w A s)
theorem c_skip (h : St dfs n ρ H (Q .normal)) : St dfs n ρ H (Code.skip.wp P Q) := fun a w A s => wp_skip (h a w A s)
theorem c_label {l : Nat} (h : St dfs n ρ H (Q .normal)) : St dfs n ρ H ((Code.label l).wp P Q) := fun a w A s => wp_label (h a w A s)
theorem c_ret (h : St dfs n ρ H (Q .ret)) : St dfs n ρ H (Code.ret.wp P Q) := fun a w A s => wp_ret (h a w A s)
theorem c_exit {id : Nat} (h : St dfs n ρ H (Q (.exit id))) : St dfs n ρ H ((Code.exit id).wp P Q) := fun a w A s => wp_exit (h a w A s)
theorem c_block {id : Nat} {c : Code} (h : St dfs n ρ H (c.wp P (Exit.inBlock id Q))) : St dfs n ρ H ((Code.block id c).wp P Q) := fun a w A s => wp_block (h a w A s)
theorem c_scope {c : Code} (h : St dfs n ρ H (c.wp P (Exit.noGoto Q))) : St dfs n ρ H ((Code.scope c).wp P Q) := fun a w A s => wp_scope_straight (h a w A s)
theorem c_cond {c : Operand} {x y : Code} {t : Bool} (hc : evl ρ c = some (.bool t)) (h : t = true → St dfs n ρ H (x.wp P Q)) (h' : t = false → St dfs n ρ H (y.wp P Q)) : St dfs n ρ H ((Code.cond c x y).wp P Q) :=
  fun a w A s => wp_cond_split (A.eval hc) (fun e => h e a w A s) (fun e => h' e a w A s)
theorem c_true {c : Operand} {x y : Code} (h : St dfs n ρ H (x.wp P Q)) (hc : evl ρ c = some (.bool true) := by rfl) : St dfs n ρ H ((Code.cond c x y).wp P Q) := fun a w A s => wp_cond_true (A.eval hc) (h a w A s)
theorem c_false {c : Operand} {x y : Code} (h : St dfs n ρ H (y.wp P Q)) (hc : evl ρ c = some (.bool false) := by rfl) : St dfs n ρ H ((Code.cond c x y).wp P Q) := fun a w A s => wp_cond_false (A.eval hc) (h a w A s)
/-- what stands behind -/
theorem e_then (h : St dfs n ρ H K) : St dfs n ρ H (Exit.then K Q .normal) := h
theorem e_thenr (h : St dfs n ρ H (Q .ret)) : St dfs n ρ H (Exit.then K Q .ret) := h
theorem e_thenx {id : Nat} (h : St dfs n ρ H (Q (.exit id))) : St dfs n ρ H (Exit.then K Q (.exit id)) := h
theorem e_blockn {id : Nat} (h : St dfs n ρ H (Q .normal)) : St dfs n ρ H (Exit.inBlock id Q .normal) := h
theorem e_blockr {id : Nat} (h : St dfs n ρ H (Q .ret)) : St dfs n ρ H (Exit.inBlock id Q .ret) := h
theorem e_block {id : Nat} (h : St dfs n ρ H (Q .normal)) : St dfs n ρ H (Exit.inBlock id Q (.exit id)) := fun a w A s => by unfold Exit.inBlock; simp only [if_true]; exact h a w A s
theorem e_blockx {id i : Nat} (h : St dfs n ρ H (Q (.exit i))) (hne : i ≠ id := by decide) : St dfs n ρ H (Exit.inBlock id Q (.exit i)) := fun a w A s => by unfold Exit.inBlock; simp only [hne, if_false]; exact h a w A s
theorem e_scopen (h : St dfs n ρ H (Q .normal)) : St dfs n ρ H (Exit.noGoto Q .normal) := h
theorem e_scoper (h : St dfs n ρ H (Q .ret)) : St dfs n ρ H (Exit.noGoto Q .ret) := h
theorem e_scopex {id : Nat} (h : St dfs n ρ H (Q (.exit id))) : St dfs n ρ H (Exit.noGoto Q (.exit id)) := h

/-! ### weaker states, loops -/
/-- from H one has G -/
inductive Conv : List HP → List HP → Prop
  | refl {l} : Conv l l
  | cons {A l l' G} (h : Take A l l') (h' : Conv l' G) : Conv l (A :: G)
  | drop {A l G} (h : Conv l G) : Conv (A :: l) G
  | nil {l} : Conv l []
theorem Conv.mk {H G : List HP} (c : Conv H G) : ∃ X, H.Perm (G ++ X) := by
  induction c with
  | refl => exact ⟨[], by simp⟩
  | cons h _ ih => obtain ⟨X, p⟩ := ih; exact ⟨X, h.perm.trans (p.cons _)⟩
  | @drop A _ G _ ih => obtain ⟨X, p⟩ := ih; exact ⟨A :: X, (p.cons A).trans (List.perm_middle.symm)⟩
  | nil => exact ⟨_, by simp; exact .refl _⟩
theorem Conv.sat {H G : List HP} {w : World} (c : Conv H G) (s : Sat w H) : Sat w G := by
  obtain ⟨X, p⟩ := c.mk
  exact (s.perm (p.trans List.perm_append_comm)).drop
/-- the frame ρ holds what ρ' says -/
def Env.Has (ρ : Env) : Env → Prop
  | [] => True
  | (t, v) :: l => ρ.get t = some v ∧ Env.Has ρ l
theorem Env.Has.get {ρ : Env} : ∀ {ρ' : Env}, ρ.Has ρ' → ∀ t v, ρ'.get t = some v → ρ.get t = some v
  | [], _, t, v, e => by cases e
  | (k, u) :: l, ⟨h, h'⟩, t, v, e => by
    simp only [Env.get] at e
    split at e
    · rename_i hb
      cases e
      rw [← Nat.eq_of_beq_eq_true hb]
      exact h
    · exact Env.Has.get h' t v e
theorem St.weak {ρ' : Env} {H' : List HP} (k : St dfs n ρ' H' K) (hρ : ρ.Has ρ') (hH : ∀ w, Sat w H → Sat w H') : St dfs n ρ H K := fun a w A s => k a w (A.mono hρ.get) (hH w s)
theorem St.conv {H' : List HP} (k : St dfs n ρ H' K) (hH : ∀ w, Sat w H → Sat w H') : St dfs n ρ H K := fun a w A s => k a w A (hH w s)
theorem St.pure {φ : Prop} (hφ : ∀ w, Sat w H → φ) (k : φ → St dfs n ρ H K) : St dfs n ρ H K := fun a w A s => k (hφ w s) a w A s
theorem St.open_ex {α : Type} {f : α → HP} (k : ∀ x, St dfs n ρ (f x :: H) K) : St dfs n ρ (ex f :: H) K := fun a w A s => let ⟨x, s'⟩ := s.ex; k x a w A s'
theorem St.open_wth {φ : Prop} {L : List HP} (k : φ → St dfs n ρ (L ++ H) K) : St dfs n ρ (wth φ L :: H) K := fun a w A s => let ⟨x, s'⟩ := s.wth; k x a w A s'
theorem St.front {A : HP} {H' : List HP} (t : Take A H H') (k : St dfs n ρ (A :: H') K) : St dfs n ρ H K := fun a w Ag s => k a w Ag (s.perm t.perm)

/-- the loop's head: for every x of α -/
def Back {α : Type} (dfs : List Deferred) (n : Nat) (φ : α → Prop) (E : α → Env) (L : α → List HP) (μ : α → Nat) (m : Nat) (a : Act) (w : World) : Prop := ∃ x, φ x ∧ μ x < m ∧ Agree dfs n (E x) a ∧ Sat w (L x)
theorem c_loop {α : Type} {c : Code} (φ : α → Prop) (E : α → Env) (L : α → List HP) (μ : α → Nat) (x₀ : α) (h₀ : φ x₀) (hρ : ρ.Has (E x₀)) (hH : ∀ w, Sat w H → Sat w (L x₀))
    (round : ∀ x, φ x → St dfs n (E x) (L x) (c.wp P (Exit.then (Back dfs n φ E L μ (μ x)) Q))) : St dfs n ρ H ((Code.loop c).wp P Q) := fun a w A s => by
  refine wp_loop_ghost (fun m a w => ∃ x, φ x ∧ μ x = m ∧ Agree dfs n (E x) a ∧ Sat w (L x)) (μ x₀) ⟨x₀, h₀, rfl, A.mono hρ.get, hH w s⟩ ?_
  rintro m a w ⟨x, hx, rfl, A, s⟩
  refine wp_mono (round x hx a w A s) ?_
  intro e a' w' hq
  cases e with
  | normal => obtain ⟨y, hy, hlt, A', s'⟩ := hq; exact ⟨μ y, hlt, y, hy, rfl, A', s'⟩
  | exit id => exact hq
  | goto l => exact hq
  | ret => exact hq
  | panic ch => exact hq
  | outgrown => exact hq
theorem c_back {α : Type} {φ : α → Prop} {E : α → Env} {L : α → List HP} {μ : α → Nat} {m : Nat} (x : α) (hx : φ x) (hm : μ x < m) (hρ : ρ.Has (E x)) (hH : ∀ w, Sat w H → Sat w (L x)) : St dfs n ρ H (Back dfs n φ E L μ m) :=
  fun _ w A s => ⟨x, hx, hm, A.mono hρ.get, hH w s⟩

/-! ### functions -/
/-- A contract: from `pre F` (whatever F stands beside) the call comes to a value v x and the heap l x F, for some x of which φ holds. -/
def Ct (P : Program) (f : FuncId) (args : Array Value) (pre : List HP → List HP) {α : Type} (φ : α → Prop) (v : α → Value) (l : α → List HP → List HP) : Prop :=
  ∀ (F : List HP) (w : World) (K : Ending → World → Prop), Sat w (pre F) → (∀ x, φ x → ∀ w', Sat w' (l x F) → K (.returned (v x)) w') → Calls P f args w K
def envOf : Nat → List Value → Env
  | _, [] => []
  | i, v :: l => (i, v) :: envOf (i + 1) l
theorem envOf_get : ∀ (l : List Value) (i t : Nat) (v : Value), (envOf i l).get t = some v → i ≤ t ∧ l[t - i]? = some v
  | [], _, _, _, h => by cases h
  | u :: l, i, t, v, h => by
    simp only [envOf, Env.get] at h
    split at h
    · rename_i hb
      have := Nat.eq_of_beq_eq_true hb
      subst this
      cases h
      simp
    · rename_i hb
      obtain ⟨h1, h2⟩ := envOf_get l (i + 1) t v h
      refine ⟨by omega, ?_⟩
      rw [show t - i = (t - (i + 1)) + 1 by omega]
      simpa using h2
theorem agree_enter {args : List Value} {m : Nat} (hn : args.length ≤ m) : Agree [] m (envOf 0 args) { tmps := args.toArray ++ Array.replicate (m - args.toArray.size) undef, defers := [] } where
  defers := rfl
  size := by simp; omega
  get t v h := by
    obtain ⟨_, h2⟩ := envOf_get args 0 t v h
    simp only [Nat.sub_zero] at h2
    have hlt := (List.getElem?_eq_some_iff.1 h2).1
    rw [Array.getD_eq_getD_getElem?, Array.getElem?_append_left (by simpa using hlt)]
    simp [h2]
theorem Ct.of {f : FuncId} {fn : Func} {c : Code} {args : List Value} {pre : List HP → List HP} {α : Type} {φ : α → Prop} {v : α → Value} {l : α → List HP → List HP} (hf : P.funcs[f]? = some fn) (hb : fn.body = some c) (hm : fn.ntmps = n) (hn : args.length ≤ n)
    (h : ∀ (F : List HP) (K : Ending → World → Prop), (∀ x, φ x → ∀ w', Sat w' (l x F) → K (.returned (v x)) w') → St [] n (envOf 0 args) (pre F) (c.wp P (bodyPost P fn K))) :
    Ct P f args.toArray pre φ v l := fun F w K s hp => calls_of_wp hf hb (h F K hp _ w (by rw [← hm]; exact agree_enter (by rw [hm]; exact hn)) s)

theorem ret1 {fn : Func} {R : Ending → World → Prop} {t : Tmp} {v : Value} (h : ∀ w, Sat w H → R (.returned v) w) (hr : fn.results = #[.tmp t] := by rfl) (hv : ρ.get t = some v := by rfl) : St [] n ρ H (bodyPost P fn R .ret) :=
  fun a w A s => ⟨A.defers, v, by rw [results_tmp hr, A.get t v hv], h w s⟩
theorem ret2 {fn : Func} {R : Ending → World → Prop} {t t' : Tmp} {v v' : Value} (h : ∀ w, Sat w H → R (.returned (.tuple #[v, v'])) w) (hr : fn.results = #[.tmp t, .tmp t'] := by rfl) (hv : ρ.get t = some v := by rfl) (hv' : ρ.get t' = some v' := by rfl) :
    St [] n ρ H (bodyPost P fn R .ret) := fun a w A s => ⟨A.defers, _, by rw [results_tmp2 hr, A.get t v hv, A.get t' v' hv'], h w s⟩
theorem ret3 {fn : Func} {R : Ending → World → Prop} {t t' t'' : Tmp} {v v' v'' : Value} (h : ∀ w, Sat w H → R (.returned (.tuple #[v, v', v''])) w) (hr : fn.results = #[.tmp t, .tmp t', .tmp t''] := by rfl) (hv : ρ.get t = some v := by rfl) (hv' : ρ.get t' = some v' := by rfl) (hv'' : ρ.get t'' = some v'' := by rfl) :
    St [] n ρ H (bodyPost P fn R .ret) := fun a w A s => ⟨A.defers, .tuple #[v, v', v''], by rw [← A.get t v hv, ← A.get t' v' hv', ← A.get t'' v'' hv'']; simp [results, hr], h w s⟩
theorem ret0 {fn : Func} {R : Ending → World → Prop} {e : Exit} (h : ∀ w, Sat w H → R (.returned (.tuple #[])) w) (hr : fn.results = #[] := by rfl) (he : e = .normal ∨ e = .ret := by simp) : St [] n ρ H (bodyPost P fn R e) :=
  fun a w A s => by rcases he with rfl | rfl <;> exact ⟨A.defers, _, results_none hr _ _ _, h w s⟩

theorem LetsOut.then (h : LetsOut Q) : LetsOut (Exit.then K Q) := h
theorem LetsOut.block {id : Nat} (h : LetsOut Q) : LetsOut (Exit.inBlock id Q) := h
theorem LetsOut.scope (h : LetsOut Q) : LetsOut (Exit.noGoto Q) := h
theorem LetsOut.bodyD {fn : Func} {R : Ending → World → Prop} (h : ∀ w, R .outgrown w) : LetsOut (bodyPostD P fn R) := ⟨⟨#[], []⟩, default, h _⟩
theorem LetsOut.body {fn : Func} {R : Ending → World → Prop} (h : ∀ w, R .outgrown w) : LetsOut (bodyPost P fn R) := ⟨⟨#[], []⟩, default, h _⟩

def evls (ρ : Env) : List Operand → Option (List Value)
  | [] => some []
  | x :: l => match evl ρ x, evls ρ l with
    | some v, some vs => some (v :: vs)
    | _, _ => none
theorem Agree.evals {a : Act} (A : Agree dfs n ρ a) : ∀ {xs : List Operand} {vs : List Value}, evls ρ xs = some vs → xs.map a.eval = vs
  | [], vs, h => by cases h; rfl
  | x :: l, vs, h => by
    simp only [evls] at h
    split at h
    · rename_i h1 h2
      cases h
      rw [List.map_cons, A.eval h1, A.evals h2]
    · cases h
theorem Agree.evala {a : Act} (A : Agree dfs n ρ a) {xs : List Operand} {vs : List Value} (h : evls ρ xs = some vs) : xs.toArray.map a.eval = vs.toArray := by
  rw [List.map_toArray, A.evals h]

/-- H is G, in another order -/
inductive Pk : List HP → List HP → Prop
  | refl {l} : Pk l l
  | cons {A l l' G} (h : Take A l l') (h' : Pk l' G) : Pk l (A :: G)
theorem Pk.perm {l l' : List HP} (h : Pk l l') : l.Perm l' := by
  induction h with
  | refl => exact .refl _
  | cons h _ ih => exact h.perm.trans (ih.cons _)
theorem Pk.sat {l l' : List HP} {w : World} (h : Pk l l') (s : Sat w l) : Sat w l' := s.perm h.perm

section
variable {f : FuncId} {args : Array Value} {pre : List HP → List HP} {F : List HP} {α : Type} {φ : α → Prop} {v : α → Value} {l : α → List HP → List HP}
theorem upon_call {o : Oper} {a : Act} {w : World} (hs : Ct P f args pre φ v l) (hp : Pk H (pre F)) (s : Sat w H)
    (k : ∀ x, φ x → ∀ w', Sat w' (l x F) → K (a.put o.dst (v x)) w') (e : (execOp a.eval o).run P w = .ok (.enter f args) w) : o.wp P a w K Q := by
  show Oper.upon _ _ _ _ _ _
  rw [e]
  exact hs F w _ (hp.sat s) k

/-- the call of a function of the program: its operands' values, its contract, what it takes of the heap -/
theorem l_call {d : Nat} {xs : List Operand} {at_ : Array TypeId} {ty : TypeId} {pos : String} {af : Array Edge} {gd : Option (Nat × Bool)} {vs : List Value}
    (hc : ∀ args w, (callFunc f args).run P w = .ok (.enter f args) w) (hx : evls ρ xs = some vs) (hs : Ct P f vs.toArray pre φ v l)
    (k : ∀ x, φ x → St dfs n ((d, v x) :: ρ) (l x F) K) (hd : d < n := by decide) (hp : Pk H (pre F) := by repeat (first | with_reducible exact Pk.refl | (apply Pk.cons; · first | ((repeat (first | with_reducible exact Take.head | apply Take.tail)); done) | ((repeat (first | exact Take.head | apply Take.tail)); done)))) :
    OpL P Q dfs n ρ H ⟨some d, .call ⟨.value (.func f), xs.toArray, at_⟩, ty, pos, af, gd⟩ K := fun a w A s => by
  left
  refine upon_call hs hp s (fun x hx w' s' => k x hx _ _ (A.put hd _) s') ?_
  have := A.evala hx
  simp only [execOp, resolve, Act.eval, Deferred.ofValue, Sem.run_bind, pure, Sem.run, Result.andThen_ok, invoke]
  rw [this]
  simpa using hc vs.toArray w
theorem l_call0 {xs : List Operand} {at_ : Array TypeId} {ty : TypeId} {pos : String} {af : Array Edge} {gd : Option (Nat × Bool)} {vs : List Value}
    (hc : ∀ args w, (callFunc f args).run P w = .ok (.enter f args) w) (hx : evls ρ xs = some vs) (hs : Ct P f vs.toArray pre φ v l)
    (k : ∀ x, φ x → St dfs n ρ (l x F) K) (hp : Pk H (pre F) := by repeat (first | with_reducible exact Pk.refl | (apply Pk.cons; · first | ((repeat (first | with_reducible exact Take.head | apply Take.tail)); done) | ((repeat (first | exact Take.head | apply Take.tail)); done)))) :
    OpL P Q dfs n ρ H ⟨none, .call ⟨.value (.func f), xs.toArray, at_⟩, ty, pos, af, gd⟩ K := fun a w A s => by
  left
  refine upon_call hs hp s (fun x hx w' s' => k x hx _ _ (A.put_none _) s') ?_
  have := A.evala hx
  simp only [execOp, resolve, Act.eval, Deferred.ofValue, Sem.run_bind, pure, Sem.run, Result.andThen_ok, invoke]
  rw [this]
  simpa using hc vs.toArray w
/-- the call of a function value -/
theorem l_callv {g : Operand} {first cap : List Value} {d : Nat} {xs : List Operand} {at_ : Array TypeId} {ty : TypeId} {pos : String} {af : Array Edge} {gd : Option (Nat × Bool)} {vs : List Value}
    (hc : ∀ args w, (callFunc f args).run P w = .ok (.enter f args) w) (hg : evl ρ g = some (.func (.func f) first.toArray cap.toArray)) (hx : evls ρ xs = some vs) (hs : Ct P f (first ++ vs ++ cap).toArray pre φ v l)
    (k : ∀ x, φ x → St dfs n ((d, v x) :: ρ) (l x F) K) (hd : d < n := by decide) (hp : Pk H (pre F) := by repeat (first | with_reducible exact Pk.refl | (apply Pk.cons; · first | ((repeat (first | with_reducible exact Take.head | apply Take.tail)); done) | ((repeat (first | exact Take.head | apply Take.tail)); done)))) :
    OpL P Q dfs n ρ H ⟨some d, .call ⟨.value g, xs.toArray, at_⟩, ty, pos, af, gd⟩ K := fun a w A s => by
  left
  refine upon_call hs hp s (fun x hx w' s' => k x hx _ _ (A.put hd _) s') ?_
  have := A.evala hx
  simp only [execOp, resolve, A.eval hg, Deferred.ofValue, Sem.run_bind, pure, Sem.run, Result.andThen_ok, invoke]
  rw [this]
  have := hc (first ++ vs ++ cap).toArray w
  simpa using this
end

theorem cf_of {f : FuncId} {fn : Func} (hf : P.funcs[f]? = some fn) (hb : fn.body.isNone = false) (hn : (fn.name == "runtime.NumGoroutine") = false) (args : Array Value) (w : World) : (callFunc f args).run P w = .ok (.enter f args) w := by
  have h1 : fn.name ≠ "runtime.NumGoroutine" := by simpa using hn
  have h2 : fn.body ≠ none := fun e => by rw [e] at hb; cases hb
  simp [callFunc, hf, h1, h2]
/-! ### tests -/
theorem Agree.bool {a : Act} {t : Nat} {b c : Bool} (A : Agree dfs n ρ a) (hv : ρ.get t = some (.bool b)) (e : b = c) : Agree dfs n ((t, .bool c) :: ρ) a where
  defers := A.defers
  size := A.size
  get u v h := by
    simp only [Env.get] at h
    split at h
    · rename_i hb
      cases h
      rw [← Nat.eq_of_beq_eq_true hb, A.get t _ hv, e]
    · exact A.get u v h
/-- a test's two ways -/
theorem b_dec {t : Nat} {p : Prop} [Decidable p] (hv : ρ.get t = some (.bool (decide p))) (h : p → St dfs n ((t, .bool true) :: ρ) H K) (h' : ¬ p → St dfs n ((t, .bool false) :: ρ) H K) : St dfs n ρ H K := fun a w A s => by
  by_cases hp : p
  · exact h hp a w (A.bool hv (decide_eq_true hp)) s
  · exact h' hp a w (A.bool hv (decide_eq_false hp)) s
theorem b_bool {t : Nat} {b : Bool} (hv : ρ.get t = some (.bool b)) (h : b = true → St dfs n ((t, .bool true) :: ρ) H K) (h' : b = false → St dfs n ((t, .bool false) :: ρ) H K) : St dfs n ρ H K := fun a w A s => by
  cases hb : b
  · exact h' hb a w (A.bool hv hb) s
  · exact h hb a w (A.bool hv hb) s
theorem b_is {t : Nat} {b : Bool} (c : Bool) (hv : ρ.get t = some (.bool b)) (e : b = c) (h : St dfs n ((t, .bool c) :: ρ) H K) : St dfs n ρ H K := fun a w A s => h a w (A.bool hv e) s
theorem c_dec {c : Operand} {x y : Code} {p : Prop} [Decidable p] (hc : evl ρ c = some (.bool (decide p))) (h : p → St dfs n ρ H (x.wp P Q)) (h' : ¬ p → St dfs n ρ H (y.wp P Q)) : St dfs n ρ H ((Code.cond c x y).wp P Q) :=
  c_cond hc (fun e => h (of_decide_eq_true e)) (fun e => h' (of_decide_eq_false e))
end SL
end Go.Proofs.YtljjplndcbekfaaDoor
