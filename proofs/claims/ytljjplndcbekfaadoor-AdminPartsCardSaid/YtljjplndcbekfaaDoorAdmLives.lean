/- Contracts: a line that is a command's with a name, the statements' example. Its conditions: none. -/
import Derived.Test.YtljjplndcbekfaaDoorAdmP3
namespace Go.Proofs.YtljjplndcbekfaaDoor
open SL A Go.RowKit
set_option maxRecDepth 100000
set_option maxHeartbeats 4000000
theorem m_must (so : Bool) (e : Int) (h : so = true) : Ct Tryd.prog 28 #[.bool so, .int .i64 e] (fun F => F) (fun _ : Unit => True) (fun _ => .tuple #[]) (fun _ F => F) := by
  refine Ct.of (args := [.bool so, .int .i64 e]) Tryd.func28 rfl Tryd.ntmps28 (Nat.le_of_ble_eq_true rfl) ?_
  intro F K hp
  refine c_seq ?_
  refine reg ?_
  refine r_q Q_move ?_
  refine r_q Q_not ?_
  refine r_nil ?_
  refine e_then ?_
  refine c_false ?_ (by first | rfl | exact congrArg (fun b => some (Value.bool b)) (by first | exact decide_eq_false (by omega) | simp_all))
  refine c_skip ?_
  exact ret0 (fun w s => hp () trivial w (Conv.sat (by repeat (first | with_reducible exact Conv.refl | exact Conv.nil | (apply Conv.cons; · first | ((repeat (first | with_reducible exact Take.head | apply Take.tail)); done) | ((repeat (first | exact Take.head | apply Take.tail)); done)) | refine Conv.drop ?_)) s))

theorem c_caught (p : Addr) (w : World) : CallsD Tryd.prog 27 #[.pointer (some p)] .returning w fun e u' w' => e = .returned (.tuple #[]) ∧ u' = .returning ∧ w' = w := by
  have hq := fun w => run_neq_nil_nil_at (P := Tryd.prog) (w := w) 20 (by kernel_rfl)
  refine callsD_of_wpS Tryd.func27 rfl fun c₀ cs hu => ?_
  apply wpS_seq
  apply wpS_region
  simp [wpOpsS, go_sem, recoverD, hu, Tryd.ntmps27, Exit.thenS]
  apply wpS_seq
  apply wpS_region
  simp [wpOpsS, go_sem, Exit.thenS, hq]
  refine wpS_cond (t := false) (by simp [Act.eval, Array.replicate]) ?_
  simp only [Bool.false_eq_true, if_false]
  refine wpS_of_wp (wp_skip ?_)
  cases c₀
  simp_all [bodyPostS, results, Tryd.results27]
theorem d_caught (b : Nat) : CtD Tryd.prog 27 #[pt b] .returning (fun F => F) (fun F => F) := fun F w K s hp => (c_caught ⟨b, 0, none⟩ w).mono fun e u' w' ⟨h1, h2, h3⟩ => by subst h1; subst h2; subst h3; exact hp _ w' s
theorem d_parse1 (b b' : Nat) : CtD Tryd.prog 26 #[pt b, pt b'] .returning (fun F => cl b [.int .i64 0] 34 :: F) (fun F => cl b [.int .i64 0] 34 :: F) := by
  refine CtD.of (args := [pt b, pt b']) Tryd.func26 rfl Tryd.ntmps26 (Nat.le_of_ble_eq_true rfl) ?_
  intro F K hp
  refine c_seq ?_
  refine reg ?_
  refine r_q (Q_load pl_34) ?_
  refine r_q Q_neq ?_
  refine r_nil ?_
  refine e_then ?_
  refine c_false ?_ (by first | rfl | exact congrArg (fun b => some (Value.bool b)) (by first | exact decide_eq_false (by omega) | simp_all))
  refine c_skip ?_
  exact ret0 (fun w s => hp _ w s)

theorem leave_parse {fn : Func} {n : Nat} {ρ : Env} {H F : List HP} {K : Ending → World → Prop} {x y : Value} {b2 b3 : Nat} (hr : fn.results = #[.cell 2 33, .cell 3 34]) (h2 : ρ.get 2 = some (pt b2)) (h3 : ρ.get 3 = some (pt b3)) (hS : ∀ w, Sat w H → Sat w (cl b3 [.int .i64 0] 34 :: cl b2 [x, y] 33 :: F)) 
    (hp : ∀ w', Sat w' F → K (.returned (.tuple #[.agg #[x, y], .int .i64 0])) w') : St [{ target := .fn (.func 27) [].toArray, args := [pt b3].toArray }, { target := .fn (.func 26) [pt b3, pt b2].toArray, args := [].toArray }] n ρ H (bodyPostD Tryd.prog fn K .ret) := by
  intro a w A s
  show Leaves _ _ _ _ a.defers .returning w
  rw [A.defers]
  refine leaves_ct cf_27 (d_caught b3) (hS w s) fun w1 s1 => ?_
  refine leaves_ct (F := cl b2 [x, y] 33 :: F) cf_26 (d_parse1 b3 b2) s1 fun w2 s2 => ?_
  refine ⟨.tuple #[.agg #[x, y], .int .i64 0], ?_, hp w2 s2.tail.tail⟩
  have e2 : a.tmps[2]?.getD undef = pt b2 := by rw [← Array.getD_eq_getD_getElem?]; exact A.get 2 _ h2
  have e3 : a.tmps[3]?.getD undef = pt b3 := by rw [← Array.getD_eq_getD_getElem?]; exact A.get 3 _ h3
  have hc := s2.cell .head 0
  have hl := loadCells_run (P := Tryd.prog) s2 (.tail .head) 2 0 0 #[] (by simp)
  simp only [results, hr]
  simp [e2, e3, asAddr, loadVar, (ag_33 w2).1, (ag_33 w2).2, pl_34 w2, loadCells, hl, load, Sem.run, hc]
theorem m_parse {gh : World} (line v nm : B) (k : Int) (hl : line.length ≤ 400) (hw : words line = [v, nm]) (hk : Lib.idxOfS (verbsL.map bs) (bs v) = k) (h0 : 0 ≤ k) (h1 : k < 4) (hn : nameOk nm) : Ct Tryd.prog 11 #[.string (bs line)] (fun F => G gh :: F) (fun _ : Unit => True) (fun _ => .tuple #[.agg #[.int .i64 k, .string (bs nm)], .int .i64 0]) (fun _ F => G gh :: F) := by
  refine Ct.ofd (args := [.string (bs line)]) Tryd.func11 rfl Tryd.ntmps11 (Nat.le_of_ble_eq_true rfl) ?_
  intro F K hp
  have hz := bs_size line
  have hnl : nm.length ≤ 4000000000 := Nat.le_trans hn.2.1 (by decide)
  refine c_seq ?_
  refine reg ?_
  refine r_l (L_al zr_33 (fun b2 => ?_))
  refine r_l (L_al zr_34 (fun b3 => ?_))
  refine r_nil ?_
  refine e_then ?_
  refine c_seq ?_
  refine reg ?_
  refine r_q Q_makeFunc ?_
  refine r_defer (cap := [pt b3, pt b2]) ?_
  refine r_nil ?_
  refine e_then ?_
  refine c_seq ?_
  refine reg ?_
  refine r_defer (cap := []) ?_
  refine r_nil ?_
  refine e_then ?_
  refine c_seq ?_
  refine reg ?_
  refine r_q Q_move ?_
  refine r_q (Q_lens Tryd.underlying9) ?_
  refine r_q Q_leq ?_
  refine r_l (l_call cf_28 rfl (m_must _ _ (decide_eq_true (by omega))) ?_)
  intro _ _
  refine r_nil ?_
  refine e_then ?_
  refine c_seq ?_
  refine reg ?_
  refine r_q Q_move ?_
  refine r_l (l_call cf_19 rfl (k_split line [v, nm] 2 (by omega) hw rfl) ?_)
  intro bk _
  refine r_q Q_assign ?_
  refine r_nil ?_
  refine e_then ?_
  refine c_seq ?_
  refine dreg (N := 7) [cl bk (rowS [v, nm]) 9] 5 ?_ mixed rfl
  refine d_q 1 rfl Q_move (fun _ s => Conv.sat (by repeat (first | with_reducible exact Conv.refl | exact Conv.nil | (apply Conv.cons; · first | ((repeat (first | with_reducible exact Take.head | apply Take.tail)); done) | ((repeat (first | exact Take.head | apply Take.tail)); done)) | refine Conv.drop ?_)) s) (by repeat (first | exact PanicOk.body | exact PanicOk.bodyD (by intros; simp [results, Act.put]) | refine PanicOk.then ?_ | refine PanicOk.block ?_ | refine PanicOk.scope ?_)) (by kernel_rfl) ?_
  first | refine d_q 2 rfl (Q_indexl Tryd.underlying42 sz_9) (fun _ s => Conv.sat (by repeat (first | with_reducible exact Conv.refl | exact Conv.nil | (apply Conv.cons; · first | ((repeat (first | with_reducible exact Take.head | apply Take.tail)); done) | ((repeat (first | exact Take.head | apply Take.tail)); done)) | refine Conv.drop ?_)) s) (by repeat (first | exact PanicOk.body | exact PanicOk.bodyD (by intros; simp [results, Act.put]) | refine PanicOk.then ?_ | refine PanicOk.block ?_ | refine PanicOk.scope ?_)) (by kernel_rfl) ?_ | refine d_q 2 rfl (Q_idxT' Tryd.underlying42 sz_9) (fun _ s => Conv.sat (by repeat (first | with_reducible exact Conv.refl | exact Conv.nil | (apply Conv.cons; · first | ((repeat (first | with_reducible exact Take.head | apply Take.tail)); done) | ((repeat (first | exact Take.head | apply Take.tail)); done)) | refine Conv.drop ?_)) s) (by repeat (first | exact PanicOk.body | exact PanicOk.bodyD (by intros; simp [results, Act.put]) | refine PanicOk.then ?_ | refine PanicOk.block ?_ | refine PanicOk.scope ?_)) (by kernel_rfl) ?_
  first | refine d_q 3 rfl (Q_load pl_9) (fun _ s => Conv.sat (by repeat (first | with_reducible exact Conv.refl | exact Conv.nil | (apply Conv.cons; · first | ((repeat (first | with_reducible exact Take.head | apply Take.tail)); done) | ((repeat (first | exact Take.head | apply Take.tail)); done)) | refine Conv.drop ?_)) s) (by repeat (first | exact PanicOk.body | exact PanicOk.bodyD (by intros; simp [results, Act.put]) | refine PanicOk.then ?_ | refine PanicOk.block ?_ | refine PanicOk.scope ?_)) (by kernel_rfl) ?_ | refine d_q 3 rfl (Q_ldT' pl_9) (fun _ s => Conv.sat (by repeat (first | with_reducible exact Conv.refl | exact Conv.nil | (apply Conv.cons; · first | ((repeat (first | with_reducible exact Take.head | apply Take.tail)); done) | ((repeat (first | exact Take.head | apply Take.tail)); done)) | refine Conv.drop ?_)) s) (by repeat (first | exact PanicOk.body | exact PanicOk.bodyD (by intros; simp [results, Act.put]) | refine PanicOk.then ?_ | refine PanicOk.block ?_ | refine PanicOk.scope ?_)) (by kernel_rfl) ?_ | refine d_q 3 rfl (Q_ldTf' pl_9) (fun _ s => Conv.sat (by repeat (first | with_reducible exact Conv.refl | exact Conv.nil | (apply Conv.cons; · first | ((repeat (first | with_reducible exact Take.head | apply Take.tail)); done) | ((repeat (first | exact Take.head | apply Take.tail)); done)) | refine Conv.drop ?_)) s) (by repeat (first | exact PanicOk.body | exact PanicOk.bodyD (by intros; simp [results, Act.put]) | refine PanicOk.then ?_ | refine PanicOk.block ?_ | refine PanicOk.scope ?_)) (by kernel_rfl) ?_
  refine d_l 0 (by kernel_rfl) rfl rfl ?_
  refine (l_call cf_30 rfl (m_verbs ) ?_)
  intro b _
  refine d_head (fun _ s => Conv.sat (by repeat (first | with_reducible exact Conv.refl | exact Conv.nil | (apply Conv.cons; · first | ((repeat (first | with_reducible exact Take.head | apply Take.tail)); done) | ((repeat (first | exact Take.head | apply Take.tail)); done)) | refine Conv.drop ?_)) s) ?_
  refine d_l 4 (by kernel_rfl) rfl rfl ?_
  refine (l_call cf_29 rfl (k_index _ _ verbsL 6 v rfl (by decide)) ?_)
  intro _ _
  rw [hk]
  refine d_head (fun _ s => Conv.sat (by repeat (first | with_reducible exact Conv.refl | exact Conv.nil | (apply Conv.cons; · first | ((repeat (first | with_reducible exact Take.head | apply Take.tail)); done) | ((repeat (first | exact Take.head | apply Take.tail)); done)) | refine Conv.drop ?_)) s) ?_
  refine d_l 5 (by kernel_rfl) rfl rfl ?_
  first | refine l_q fa_33_0 ?_ | refine l_q (Q_faT' (k := 0) (j := 0) Tryd.underlying33 rfl rfl (by kernel_rfl)) ?_
  refine d_tail ?_ (by kernel_rfl)
  refine d_l 6 (by kernel_rfl) rfl rfl ?_
  refine (L_store sz_3 ?_)
  refine d_tail ?_ (by kernel_rfl)
  refine d_nil (by kernel_rfl) ?_
  refine e_then ?_
  refine c_seq ?_
  refine reg ?_
  first | refine r_q fa_33_0 ?_ | refine r_q (Q_faT' (k := 0) (j := 0) Tryd.underlying33 rfl rfl (by kernel_rfl)) ?_
  first | refine r_q (Q_load pl_3) ?_ | refine r_q (Q_ldT' pl_3) ?_ | refine r_q (Q_ldTf' pl_3) ?_
  refine r_q Q_geq ?_
  refine r_l (l_call cf_28 rfl (m_must _ _ (decide_eq_true (by omega))) ?_)
  intro _ _
  refine r_nil ?_
  refine e_then ?_
  refine c_seq ?_
  refine c_seq ?_
  refine reg ?_
  first | refine r_q fa_33_0 ?_ | refine r_q (Q_faT' (k := 0) (j := 0) Tryd.underlying33 rfl rfl (by kernel_rfl)) ?_
  first | refine r_q (Q_load pl_3) ?_ | refine r_q (Q_ldT' pl_3) ?_ | refine r_q (Q_ldTf' pl_3) ?_
  refine r_l (l_call cf_31 rfl (m_bare _) ?_)
  intro _ _
  refine r_nil ?_
  refine e_then ?_
  refine c_false ?_ (by first | rfl | exact congrArg (fun b => some (Value.bool b)) (by first | exact decide_eq_false (by omega) | simp_all))
  refine c_skip ?_
  refine e_then ?_
  refine c_seq ?_
  refine reg ?_
  refine r_q Q_move ?_
  refine r_q (Q_lenl Tryd.underlying42) ?_
  refine r_q Q_eql ?_
  refine r_l (l_call cf_28 rfl (m_must _ _ (decide_eq_true (by omega))) ?_)
  intro _ _
  refine r_nil ?_
  refine e_then ?_
  refine c_seq ?_
  refine reg ?_
  refine r_q Q_move ?_
  first | refine r_q (Q_indexl Tryd.underlying42 sz_9) ?_ | refine r_q (Q_idxT' Tryd.underlying42 sz_9) ?_
  refine r_q (Q_load pl_9 (vs := rowS [v, nm]) (v := .string (bs nm)) (hv := rfl)) ?_
  refine r_l (l_call cf_20 rfl (m_name nm hnl) ?_)
  intro _ _
  refine r_l (l_call cf_28 rfl (m_must _ _ (decide_eq_true (by omega))) ?_)
  intro _ _
  refine r_nil ?_
  refine e_then ?_
  refine c_seq ?_
  refine reg ?_
  refine r_q Q_move ?_
  first | refine r_q (Q_indexl Tryd.underlying42 sz_9) ?_ | refine r_q (Q_idxT' Tryd.underlying42 sz_9) ?_
  refine r_q (Q_load pl_9 (vs := rowS [v, nm]) (v := .string (bs nm)) (hv := rfl)) ?_
  first | refine r_q fa_33_1 ?_ | refine r_q (Q_faT' (k := 1) (j := 0) Tryd.underlying33 rfl rfl (by kernel_rfl)) ?_
  refine r_l (L_store sz_9 ?_)
  refine r_nil ?_
  refine e_then ?_
  refine c_seq ?_
  refine reg ?_
  first | refine r_q (Q_loada ag_33) ?_ | refine r_q (Q_ldTa' ag_33) ?_
  refine r_l (L_storea sz_33 ?_)
  refine r_l (L_store sz_34 ?_)
  refine r_nil ?_
  refine e_then ?_
  refine c_ret ?_
  exact leave_parse (b2 := b2) (b3 := b3) (x := .int .i64 k) (y := .string (bs nm)) rfl rfl rfl (fun _ s => Conv.sat (by repeat (first | with_reducible exact Conv.refl | exact Conv.nil | (apply Conv.cons; · first | ((repeat (first | with_reducible exact Take.head | apply Take.tail)); done) | ((repeat (first | exact Take.head | apply Take.tail)); done)) | refine Conv.drop ?_)) s) (fun w s => hp () trivial w s)
theorem m_print   : Ct Tryd.prog 12 #[.agg #[.int .i64 4, .string ⟨#[]⟩]] (fun F => F) (fun _ : Unit => True) (fun _ => .tuple #[.string (bs [115, 116, 97, 116, 117, 115]), .int .i64 0]) (fun _ F => F) := by
  refine Ct.of (args := [.agg #[.int .i64 4, .string ⟨#[]⟩]]) Tryd.func12 rfl Tryd.ntmps12 (Nat.le_of_ble_eq_true rfl) ?_
  intro F K hp
  refine c_seq ?_
  refine reg ?_
  refine r_l (L_boxa (fun b1 => ?_))
  refine r_q Q_assign ?_
  refine r_q Q_assign ?_
  refine r_nil ?_
  refine e_then ?_
  refine c_seq ?_
  refine c_block ?_
  refine c_seq ?_
  refine reg ?_
  first | refine r_q fa_33_0 ?_ | refine r_q (Q_faT' (k := 0) (j := 0) Tryd.underlying33 rfl rfl (by kernel_rfl)) ?_
  first | refine r_q (Q_load pl_3) ?_ | refine r_q (Q_ldT' pl_3) ?_ | refine r_q (Q_ldTf' pl_3) ?_
  refine r_q Q_lss ?_
  refine r_q Q_move ?_
  refine b_is (t := 8) false rfl (by first | rfl | exact decide_eq_false (by omega) | simp_all) ?_
  first | refine r_yq fa_33_0 ?_ | refine r_yq (Q_faT' (k := 0) (j := 0) Tryd.underlying33 rfl rfl (by kernel_rfl)) ?_
  first | refine r_yq (Q_load pl_3) ?_ | refine r_yq (Q_ldT' pl_3) ?_ | refine r_yq (Q_ldTf' pl_3) ?_
  refine r_yq Q_gtr ?_
  refine r_q Q_pickF ?_
  refine r_q Q_move ?_
  refine b_is (t := 13) false rfl (by first | rfl | exact decide_eq_false (by omega) | simp_all) ?_
  first | refine r_yq fa_33_0 ?_ | refine r_yq (Q_faT' (k := 0) (j := 0) Tryd.underlying33 rfl rfl (by kernel_rfl)) ?_
  first | refine r_yq (Q_load pl_3) ?_ | refine r_yq (Q_ldT' pl_3) ?_ | refine r_yq (Q_ldTf' pl_3) ?_
  refine r_yes (l_call cf_31 rfl (m_bare _) ?_)
  intro _ _
  refine r_yq Q_move ?_
  refine b_is (t := 17) true rfl (by first | rfl | exact decide_eq_true (by omega) | simp_all) ?_
  first | refine r_yq fa_33_1 ?_ | refine r_yq (Q_faT' (k := 1) (j := 0) Tryd.underlying33 rfl rfl (by kernel_rfl)) ?_
  first | refine r_yq (Q_load pl_9) ?_ | refine r_yq (Q_ldT' pl_9) ?_ | refine r_yq (Q_ldTf' pl_9) ?_
  refine r_yq Q_neqs ?_
  refine r_yq Q_pickT ?_
  refine r_q Q_pickF ?_
  refine r_q Q_assign ?_
  refine r_nil ?_
  refine e_then ?_
  refine c_false ?_ (by first | rfl | exact congrArg (fun b => some (Value.bool b)) (by first | exact decide_eq_false (by omega) | simp_all))
  refine c_seq ?_
  refine reg ?_
  first | refine r_q fa_33_0 ?_ | refine r_q (Q_faT' (k := 0) (j := 0) Tryd.underlying33 rfl rfl (by kernel_rfl)) ?_
  first | refine r_q (Q_load pl_3) ?_ | refine r_q (Q_ldT' pl_3) ?_ | refine r_q (Q_ldTf' pl_3) ?_
  refine r_l (l_call cf_31 rfl (m_bare _) ?_)
  intro _ _
  refine r_q Q_assign ?_
  refine r_nil ?_
  refine e_then ?_
  refine c_true ?_ (by first | rfl | exact congrArg (fun b => some (Value.bool b)) (by first | exact decide_eq_true (by omega) | simp_all))
  refine c_seq ?_
  refine dreg (N := 7) [cl b1 [.int .i64 4, .string ⟨#[]⟩] 33] 5 ?_ mixed rfl
  first | refine d_q 1 rfl fa_33_0 (fun _ s => Conv.sat (by repeat (first | with_reducible exact Conv.refl | exact Conv.nil | (apply Conv.cons; · first | ((repeat (first | with_reducible exact Take.head | apply Take.tail)); done) | ((repeat (first | exact Take.head | apply Take.tail)); done)) | refine Conv.drop ?_)) s) (by repeat (first | exact PanicOk.body | exact PanicOk.bodyD (by intros; simp [results, Act.put]) | refine PanicOk.then ?_ | refine PanicOk.block ?_ | refine PanicOk.scope ?_)) (by kernel_rfl) ?_ | refine d_q 1 rfl (Q_faT' (k := 0) (j := 0) Tryd.underlying33 rfl rfl (by kernel_rfl)) (fun _ s => Conv.sat (by repeat (first | with_reducible exact Conv.refl | exact Conv.nil | (apply Conv.cons; · first | ((repeat (first | with_reducible exact Take.head | apply Take.tail)); done) | ((repeat (first | exact Take.head | apply Take.tail)); done)) | refine Conv.drop ?_)) s) (by repeat (first | exact PanicOk.body | exact PanicOk.bodyD (by intros; simp [results, Act.put]) | refine PanicOk.then ?_ | refine PanicOk.block ?_ | refine PanicOk.scope ?_)) (by kernel_rfl) ?_
  first | refine d_q 2 rfl (Q_load pl_3) (fun _ s => Conv.sat (by repeat (first | with_reducible exact Conv.refl | exact Conv.nil | (apply Conv.cons; · first | ((repeat (first | with_reducible exact Take.head | apply Take.tail)); done) | ((repeat (first | exact Take.head | apply Take.tail)); done)) | refine Conv.drop ?_)) s) (by repeat (first | exact PanicOk.body | exact PanicOk.bodyD (by intros; simp [results, Act.put]) | refine PanicOk.then ?_ | refine PanicOk.block ?_ | refine PanicOk.scope ?_)) (by kernel_rfl) ?_ | refine d_q 2 rfl (Q_ldT' pl_3) (fun _ s => Conv.sat (by repeat (first | with_reducible exact Conv.refl | exact Conv.nil | (apply Conv.cons; · first | ((repeat (first | with_reducible exact Take.head | apply Take.tail)); done) | ((repeat (first | exact Take.head | apply Take.tail)); done)) | refine Conv.drop ?_)) s) (by repeat (first | exact PanicOk.body | exact PanicOk.bodyD (by intros; simp [results, Act.put]) | refine PanicOk.then ?_ | refine PanicOk.block ?_ | refine PanicOk.scope ?_)) (by kernel_rfl) ?_ | refine d_q 2 rfl (Q_ldTf' pl_3) (fun _ s => Conv.sat (by repeat (first | with_reducible exact Conv.refl | exact Conv.nil | (apply Conv.cons; · first | ((repeat (first | with_reducible exact Take.head | apply Take.tail)); done) | ((repeat (first | exact Take.head | apply Take.tail)); done)) | refine Conv.drop ?_)) s) (by repeat (first | exact PanicOk.body | exact PanicOk.bodyD (by intros; simp [results, Act.put]) | refine PanicOk.then ?_ | refine PanicOk.block ?_ | refine PanicOk.scope ?_)) (by kernel_rfl) ?_
  refine d_l 0 (by kernel_rfl) rfl rfl ?_
  refine (l_call cf_30 rfl (m_verbs ) ?_)
  intro b _
  refine d_head (fun _ s => Conv.sat (by repeat (first | with_reducible exact Conv.refl | exact Conv.nil | (apply Conv.cons; · first | ((repeat (first | with_reducible exact Take.head | apply Take.tail)); done) | ((repeat (first | exact Take.head | apply Take.tail)); done)) | refine Conv.drop ?_)) s) ?_
  first | refine d_q 3 rfl (Q_indexl Tryd.underlying42 sz_9) (fun _ s => Conv.sat (by repeat (first | with_reducible exact Conv.refl | exact Conv.nil | (apply Conv.cons; · first | ((repeat (first | with_reducible exact Take.head | apply Take.tail)); done) | ((repeat (first | exact Take.head | apply Take.tail)); done)) | refine Conv.drop ?_)) s) (by repeat (first | exact PanicOk.body | exact PanicOk.bodyD (by intros; simp [results, Act.put]) | refine PanicOk.then ?_ | refine PanicOk.block ?_ | refine PanicOk.scope ?_)) (by kernel_rfl) ?_ | refine d_q 3 rfl (Q_idxT' Tryd.underlying42 sz_9) (fun _ s => Conv.sat (by repeat (first | with_reducible exact Conv.refl | exact Conv.nil | (apply Conv.cons; · first | ((repeat (first | with_reducible exact Take.head | apply Take.tail)); done) | ((repeat (first | exact Take.head | apply Take.tail)); done)) | refine Conv.drop ?_)) s) (by repeat (first | exact PanicOk.body | exact PanicOk.bodyD (by intros; simp [results, Act.put]) | refine PanicOk.then ?_ | refine PanicOk.block ?_ | refine PanicOk.scope ?_)) (by kernel_rfl) ?_
  refine d_l 4 (by kernel_rfl) rfl rfl ?_
  refine l_q (Q_load pl_9 (vs := rowS verbsL) (v := .string (bs [115, 116, 97, 116, 117, 115])) (hv := rfl)) ?_
  refine d_head (fun _ s => Conv.sat (by repeat (first | with_reducible exact Conv.refl | exact Conv.nil | (apply Conv.cons; · first | ((repeat (first | with_reducible exact Take.head | apply Take.tail)); done) | ((repeat (first | exact Take.head | apply Take.tail)); done)) | refine Conv.drop ?_)) s) ?_
  refine d_l 5 (by kernel_rfl) rfl rfl ?_
  refine l_q Q_assign ?_
  refine d_tail ?_ (by kernel_rfl)
  refine d_l 6 (by kernel_rfl) rfl rfl ?_
  refine l_q Q_assign ?_
  refine d_tail ?_ (by kernel_rfl)
  refine d_nil (by kernel_rfl) ?_
  refine e_then ?_
  refine c_ret ?_
  refine e_blockr ?_
  refine e_thenr ?_
  exact ret2 (fun w s => hp () trivial w (Conv.sat (by repeat (first | with_reducible exact Conv.refl | exact Conv.nil | (apply Conv.cons; · first | ((repeat (first | with_reducible exact Take.head | apply Take.tail)); done) | ((repeat (first | exact Take.head | apply Take.tail)); done)) | refine Conv.drop ?_)) s))
theorem m_answer   : Ct Tryd.prog 13 #[.int .i64 (0)] (fun F => F) (fun _ : Unit => True) (fun _ => .string (bs [111, 107])) (fun _ F => F) := by
  refine Ct.of (args := [.int .i64 (0)]) Tryd.func13 rfl Tryd.ntmps13 (Nat.le_of_ble_eq_true rfl) ?_
  intro F K hp
  refine c_seq ?_
  refine reg ?_
  refine r_q Q_assign ?_
  refine r_nil ?_
  refine e_then ?_
  refine c_seq ?_
  refine reg ?_
  refine r_q (Q_build (bd_53_0_1_2_3_4_5_6_7_8_9_10_11_12_13 _ _ _ _ _ _ _ _ _ _ _ _ _ _)) ?_
  refine r_l (L_al zr_53 (fun b3 => ?_))
  refine r_l (L_storea sz_53 ?_)
  refine r_nil ?_
  refine e_then ?_
  refine c_seq ?_
  refine c_seq ?_
  refine reg ?_
  refine r_q Q_move ?_
  refine r_q Q_lss ?_
  refine r_q Q_move ?_
  refine b_is (t := 7) false rfl (by first | rfl | exact decide_eq_false (by omega) | simp_all) ?_
  refine r_yq Q_move ?_
  refine r_yq Q_geq ?_
  refine r_q Q_pickF ?_
  refine r_nil ?_
  refine e_then ?_
  refine c_false ?_ (by first | rfl | exact congrArg (fun b => some (Value.bool b)) (by first | exact decide_eq_false (by omega) | simp_all))
  refine c_skip ?_
  refine e_then ?_
  refine c_seq ?_
  refine reg ?_
  refine r_q Q_move ?_
  refine r_q (Q_indexa Tryd.underlying53 sz_9) ?_
  refine r_q (Q_load pl_9) ?_
  refine r_q Q_assign ?_
  refine r_nil ?_
  refine e_then ?_
  refine c_ret ?_
  exact ret1 (fun w s => hp () trivial w (Conv.sat (by repeat (first | with_reducible exact Conv.refl | exact Conv.nil | (apply Conv.cons; · first | ((repeat (first | with_reducible exact Take.head | apply Take.tail)); done) | ((repeat (first | exact Take.head | apply Take.tail)); done)) | refine Conv.drop ?_)) s))
theorem m_lives {gh : World}   : Ct Tryd.prog 5 #[] (fun F => G gh :: F) (fun _ : Unit => True) (fun _ => .bool true) (fun _ F => G gh :: F) := by
  refine Ct.of (args := []) Tryd.func5 rfl Tryd.ntmps5 (Nat.le_of_ble_eq_true rfl) ?_
  intro F K hp
  refine c_seq ?_
  refine reg ?_
  refine r_q Q_assign ?_
  refine r_nil ?_
  refine e_then ?_
  refine c_seq ?_
  refine reg ?_
  refine r_l (l_call cf_11 rfl (m_parse [100, 114, 97, 105, 110, 32, 100, 98, 45, 49] [100, 114, 97, 105, 110] [100, 98, 45, 49] 0 (by decide) (by decide) (by decide +kernel) (by decide) (by decide) (by decide)) ?_)
  intro _ _
  refine r_q Q_move ?_
  refine r_q Q_extract ?_
  refine r_q Q_extract ?_
  refine r_l (L_al zr_33 (fun b1 => ?_))
  refine r_l (L_storea sz_33 ?_)
  refine r_q Q_assign ?_
  refine r_nil ?_
  refine e_then ?_
  refine c_seq ?_
  refine reg ?_
  refine r_q (Q_build (bd_33_0 _)) ?_
  refine r_l (l_call cf_12 rfl (m_print) ?_)
  intro _ _
  refine r_q Q_move ?_
  refine r_q Q_extract ?_
  refine r_q Q_extract ?_
  refine r_q Q_assign ?_
  refine r_q Q_assign ?_
  refine r_nil ?_
  refine e_then ?_
  refine c_seq ?_
  refine reg ?_
  refine r_q fa_33_0 ?_
  refine r_q (Q_load pl_3) ?_
  refine r_q Q_eql ?_
  refine r_q Q_move ?_
  refine b_is (t := 17) true rfl (by first | rfl | exact decide_eq_true (by omega) | simp_all) ?_
  refine r_yq fa_33_1 ?_
  refine r_yq (Q_load pl_9) ?_
  refine r_yq Q_eqls ?_
  refine r_q Q_pickT ?_
  refine r_q Q_move ?_
  refine b_is (t := 22) true rfl (by first | rfl | exact decide_eq_true (by omega) | simp_all) ?_
  refine r_yq Q_move ?_
  refine r_yq Q_eql ?_
  refine r_q Q_pickT ?_
  refine r_q Q_move ?_
  refine b_is (t := 26) true rfl (by first | rfl | exact decide_eq_true (by omega) | simp_all) ?_
  refine r_yq Q_move ?_
  refine r_yq Q_eqls ?_
  refine r_q Q_pickT ?_
  refine r_q Q_move ?_
  refine b_is (t := 30) true rfl (by first | rfl | exact decide_eq_true (by omega) | simp_all) ?_
  refine r_yq Q_move ?_
  refine r_yq Q_eql ?_
  refine r_q Q_pickT ?_
  refine r_q Q_move ?_
  refine b_is (t := 34) true rfl (by first | rfl | exact decide_eq_true (by omega) | simp_all) ?_
  refine r_yes (l_call cf_13 rfl (m_answer) ?_)
  intro _ _
  refine r_yq Q_eqls ?_
  refine r_q Q_pickT ?_
  refine r_q Q_assign ?_
  refine r_nil ?_
  refine e_then ?_
  refine c_ret ?_
  exact ret1 (fun w s => hp () trivial w (Conv.sat (by repeat (first | with_reducible exact Conv.refl | exact Conv.nil | (apply Conv.cons; · first | ((repeat (first | with_reducible exact Take.head | apply Take.tail)); done) | ((repeat (first | exact Take.head | apply Take.tail)); done)) | refine Conv.drop ?_)) s))
end Go.Proofs.YtljjplndcbekfaaDoor
