/- The rules of the small separation logic, continued: deferred calls of a function that comes to its end. Its conditions: none. -/
import Derived.Test.YtljjplndcbekfaaDoorRules7
import Derived.Recover
namespace Go.Proofs.YtljjplndcbekfaaDoor
namespace SL
variable {P : Program} {Q : Exit → Act → World → Prop} {dfs : List Deferred} {n : Nat} {ρ : Env} {H : List HP} {K : Act → World → Prop}
variable {d : Option Tmp} {ty t u : TypeId} {pos : String} {af : Array Edge} {g : Option (Nat × Bool)} {x y z : Operand}
theorem r_defer {ops : Array Oper} {rest : List Oper} {f : Operand} {fv : FuncId} {cap vs : List Value} {xs : List Operand} {at_ : Array TypeId}
    (k : St ({ target := .fn (.func fv) cap.toArray, args := vs.toArray } :: dfs) n ρ H (wpList P ops Q rest)) (hf : evl ρ f = some (.func (.func fv) #[] cap.toArray) := by rfl) (hx : evls ρ xs = some vs := by rfl) :
    St dfs n ρ H (wpList P ops Q (⟨none, .defer ⟨.value f, xs.toArray, at_⟩, ty, pos, af, none⟩ :: rest)) := fun a w A s => by
  unfold wpList
  rw [if_pos (by simp [Region.wanted])]
  left
  show Oper.upon _ _ _ _ _ _
  have e : (execOp a.eval ⟨none, .defer ⟨.value f, xs.toArray, at_⟩, ty, pos, af, none⟩).run P w = .ok (.defer { target := .fn (.func fv) cap.toArray, args := vs.toArray }) w := by
    simp only [execOp, resolve, A.eval hf, A.evala hx, Deferred.ofValue]
    simp
  rw [e]
  exact k _ _ ⟨by show _ :: a.defers = _; rw [A.defers], A.size, A.get⟩ s
/-- a function with deferred calls -/
theorem Ct.ofd {f : FuncId} {fn : Func} {c : Code} {args : List Value} {pre : List HP → List HP} {α : Type} {φ : α → Prop} {v : α → Value} {l : α → List HP → List HP} (hf : P.funcs[f]? = some fn) (hb : fn.body = some c) (hm : fn.ntmps = n) (hn : args.length ≤ n)
    (h : ∀ (F : List HP) (K : Ending → World → Prop), (∀ x, φ x → ∀ w', Sat w' (l x F) → K (.returned (v x)) w') → St [] n (envOf 0 args) (pre F) (c.wp P (bodyPostD P fn K))) :
    Ct P f args.toArray pre φ v l := fun F w K s hp => calls_of_wp_defers hf hb (h F K hp _ w (by rw [← hm]; exact agree_enter (by rw [hm]; exact hn)) s)
/-- a function that is called as a deferred one: the mode of the frame beneath stays -/
def CtD (P : Program) (f : FuncId) (args : Array Value) (um : FrameMode) (pre : List HP → List HP) (l : List HP → List HP) : Prop :=
  ∀ (F : List HP) (w : World) (K : Ending → FrameMode → World → Prop), Sat w (pre F) → (∀ v w', Sat w' (l F) → K (.returned v) um w') → CallsD P f args um w K
theorem CtD.of {f : FuncId} {fn : Func} {c : Code} {args : List Value} {um : FrameMode} {pre l : List HP → List HP} (hf : P.funcs[f]? = some fn) (hb : fn.body = some c) (hm : fn.ntmps = n) (hn : args.length ≤ n)
    (h : ∀ (F : List HP) (K : Ending → World → Prop), (∀ v w', Sat w' (l F) → K (.returned v) w') → St [] n (envOf 0 args) (pre F) (c.wp P (bodyPost P fn K))) :
    CtD P f args.toArray um pre l := fun F w K s hp =>
  (callsD_of_wp hf hb (u := um) (h F (fun e w' => K e um w') hp _ w (by rw [← hm]; exact agree_enter (by rw [hm]; exact hn)) s)).mono fun _ _ _ ⟨hu, hk⟩ => by subst hu; exact hk
theorem leaves_ct {fn : Func} {tmps : Array Value} {R : Ending → World → Prop} {fv : FuncId} {cap dargs : List Value} {ds : List Deferred} {w : World} {F : List HP} {pre l : List HP → List HP}
    (hi : ∀ args w, (callFunc fv args).run P w = .ok (.enter fv args) w) (h : CtD P fv (dargs ++ cap).toArray .returning pre l) (s : Sat w (pre F)) (k : ∀ w', Sat w' (l F) → Leaves P fn tmps R ds .returning w') :
    Leaves P fn tmps R ({ target := .fn (.func fv) cap.toArray, args := dargs.toArray } :: ds) .returning w :=
  leaves_cons (f := fv) (args := (dargs ++ cap).toArray) (by simp) (by simp [invoke, hi]) (h F w _ s fun v w' s' => k w' s')
theorem Leaves.congr {fn : Func} {tmps tmps' : Array Value} {R : Ending → World → Prop} (h : ∀ w, (results fn tmps).run P w = (results fn tmps').run P w) : ∀ (ds : List Deferred) (m : FrameMode) (w : World), Leaves P fn tmps R ds m w → Leaves P fn tmps' R ds m w
  | [], .returning, w, hl => by
    unfold Leaves at hl ⊢
    rw [← h]; exact hl
  | [], .panicking _, _, hl => by unfold Leaves at hl ⊢; exact hl
  | [], .run, _, hl => by unfold Leaves at hl; exact hl.elim
  | d :: ds, m, w, hl => by
    unfold Leaves at hl ⊢
    obtain ⟨h1, fv, cap, f, args, h2, h3, h4⟩ := hl
    refine ⟨h1, fv, cap, f, args, h2, h3, h4.mono fun e u' w' hr => ?_⟩
    cases e with
    | returned v => exact Leaves.congr h ds _ w' hr
    | panicked c => exact Leaves.congr h ds _ w' hr
    | outgrown => exact hr
theorem PanicOk.bodyD {d : Nat} {fn : Func} {R : Ending → World → Prop} (h : ∀ a : Act, ∀ v w, (results fn (a.put (some d) v).tmps).run P w = (results fn a.tmps).run P w) : PanicOk (some d) (bodyPostD P fn R) :=
  fun c a v w hl => Leaves.congr (h a v) _ _ _ hl
end SL
end Go.Proofs.YtljjplndcbekfaaDoor
