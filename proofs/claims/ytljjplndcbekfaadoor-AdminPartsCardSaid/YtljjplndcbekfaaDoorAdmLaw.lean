/- The two statements about a host's line: whatever the input, the law's function returns true. Its conditions: the library's variables lie as its text lays them. -/
import Derived.Test.YtljjplndcbekfaaDoorAdmLives
namespace Go.Proofs.YtljjplndcbekfaaDoor
open SL A Go.RowKit
set_option maxRecDepth 100000
set_option maxHeartbeats 8000000

theorem cut_take (s : B) (n : Nat) (m : Int) (hm : m = n) : (bs s).extract 0 (min (((bs s).size : Nat) : Int) m).toNat = bs (s.take n) := by
  subst hm
  have e : (min (((bs s).size : Nat) : Int) (n : Int)).toNat = min s.length n := by rw [bs_size]; omega
  rw [e, ← bs_data ((bs s).extract 0 (min s.length n))]
  congr 1
  rw [ByteArray.data_extract, Array.toList_extract, List.extract_eq_take_drop, data_bs]
  simp only [List.drop_zero, Nat.sub_zero]
  rw [Nat.min_comm, ← List.take_take, List.take_length]
theorem w_rows {gh : World} (name : B) (s a b c : Int) (ha : -9223372036854775808 ≤ a ∧ a ≤ 9223372036854775807) (hb : -9223372036854775808 ≤ b ∧ b ≤ 9223372036854775807) (hc : -9223372036854775808 ≤ c ∧ c ≤ 9223372036854775807) : Ct Tryd.prog 3 #[.string (bs name), .int .i64 s, .agg #[.int .i64 a, .int .i64 b, .int .i64 c]] (fun F => G gh :: F) (fun _ : Unit => True) (fun _ => .bool true) (fun _ F => G gh :: F) := by
  refine Ct.of (args := [.string (bs name), .int .i64 s, .agg #[.int .i64 a, .int .i64 b, .int .i64 c]]) Tryd.func3 rfl Tryd.ntmps3 (Nat.le_of_ble_eq_true rfl) ?_
  intro F K hp
  have hcut := cut_take name 30 30 rfl
  obtain ⟨nm, hnm⟩ : ∃ nm, nm = name.take 30 := ⟨_, rfl⟩
  rw [← hnm] at hcut
  have hnl : nm.length ≤ 1000 := by rw [hnm]; simp; omega
  obtain ⟨r, hr⟩ : ∃ r, r = rowT nm s a b c := ⟨_, rfl⟩
  have hrl : r.length ≤ 4000000000 := by rw [hr]; exact Nat.le_trans (row_len nm s a b c hnl ha hb hc) (by decide)
  have hrow : (parts r).isSome = true → pa r = nm ∧ pl r = [a, b, c] := by rw [hr]; exact rows_is
  refine c_seq ?_
  refine reg ?_
  refine r_l (L_boxa (fun b5 => ?_))
  refine r_q Q_assign ?_
  refine r_nil ?_
  refine e_then ?_
  refine c_seq ?_
  refine c_seq ?_
  refine reg ?_
  refine r_l (l_call cf_5 rfl (m_lives) ?_)
  intro _ _
  refine r_q Q_not ?_
  refine r_nil ?_
  refine e_then ?_
  refine c_false ?_ (by first | rfl | exact congrArg (fun b => some (Value.bool b)) (by first | exact decide_eq_false (by omega) | simp_all))
  refine c_skip ?_
  refine e_then ?_
  refine c_seq ?_
  refine reg ?_
  refine r_q Q_move ?_
  refine r_q Q_move ?_
  refine r_q (Q_lens Tryd.underlying9) ?_
  refine r_q Q_min ?_
  refine r_q (Q_slices0 Tryd.underlying9) ?_
  refine r_q Q_assign ?_
  refine r_nil ?_
  refine e_then ?_
  refine c_seq ?_
  rw [hcut]
  refine reg ?_
  refine r_q Q_move ?_
  refine r_q Q_move ?_
  refine r_q (Q_indexa Tryd.underlying22 sz_3) ?_
  first | refine r_q (Q_load pl_3) ?_ | refine r_q (Q_ldT' pl_3) ?_ | refine r_q (Q_ldTf' pl_3) ?_
  refine r_q (Q_indexa Tryd.underlying22 sz_3) ?_
  first | refine r_q (Q_load pl_3) ?_ | refine r_q (Q_ldT' pl_3) ?_ | refine r_q (Q_ldTf' pl_3) ?_
  refine r_q (Q_indexa Tryd.underlying22 sz_3) ?_
  first | refine r_q (Q_load pl_3) ?_ | refine r_q (Q_ldT' pl_3) ?_ | refine r_q (Q_ldTf' pl_3) ?_
  refine r_l (l_call cf_6 rfl (m_row nm s a b c hnl ha hb hc) ?_)
  intro _ _
  rw [← hr]
  refine r_q Q_assign ?_
  refine r_nil ?_
  refine e_then ?_
  refine c_seq ?_
  refine c_seq ?_
  refine reg ?_
  refine r_q Q_move ?_
  refine r_q Q_move ?_
  refine r_q Q_move ?_
  first | refine r_q (Q_loada ag_22) ?_ | refine r_q (Q_ldTa' ag_22) ?_
  refine r_l (l_call cf_7 rfl (f_row nm s a b c hnl ha hb hc) ?_)
  intro _ _
  rw [← hr]
  refine r_q Q_neqs ?_
  refine r_nil ?_
  refine e_then ?_
  refine c_false ?_ (by first | rfl | exact congrArg (fun b => some (Value.bool b)) (by first | exact decide_eq_false (by omega) | simp_all))
  refine c_skip ?_
  refine e_then ?_
  refine c_seq ?_
  refine reg ?_
  refine r_q Q_move ?_
  refine r_l (l_call cf_8 rfl (m_parts r hrl) ?_)
  rintro ⟨xa, xc⟩ _
  dsimp only
  refine r_q Q_move ?_
  refine r_q Q_extract ?_
  refine r_q Q_extract ?_
  refine r_q Q_extract ?_
  refine r_q Q_extract ?_
  refine r_q Q_assign ?_
  refine r_q Q_assign ?_
  refine r_q Q_assign ?_
  refine r_q Q_assign ?_
  refine r_nil ?_
  refine e_then ?_
  refine c_seq ?_
  refine reg ?_
  refine r_q Q_move ?_
  refine r_l (l_call cf_9 rfl (f_parts r hrl) ?_)
  rintro ⟨ya, yc⟩ _
  dsimp only
  refine r_q Q_move ?_
  refine r_q Q_extract ?_
  refine r_q Q_extract ?_
  refine r_q Q_extract ?_
  refine r_q Q_extract ?_
  refine r_q Q_assign ?_
  refine r_q Q_assign ?_
  refine r_q Q_assign ?_
  refine r_q Q_assign ?_
  refine r_nil ?_
  refine e_then ?_
  refine c_seq ?_
  refine dreg (N := 52) [cl b5 [.int .i64 a, .int .i64 b, .int .i64 c] 22, SlT eI xa xc (pl r), SlT eI ya yc (pl r)] 51 ?_ mixed rfl
  refine d_q 0 rfl Q_move (fun _ s => Conv.sat (by repeat (first | with_reducible exact Conv.refl | exact Conv.nil | (apply Conv.cons; · first | ((repeat (first | with_reducible exact Take.head | apply Take.tail)); done) | ((repeat (first | exact Take.head | apply Take.tail)); done)) | refine Conv.drop ?_)) s) (by repeat (first | exact PanicOk.body | exact PanicOk.bodyD (by intros; simp [results, Act.put]) | refine PanicOk.then ?_ | refine PanicOk.block ?_ | refine PanicOk.scope ?_)) (by kernel_rfl) ?_
  refine d_q 1 rfl Q_move (fun _ s => Conv.sat (by repeat (first | with_reducible exact Conv.refl | exact Conv.nil | (apply Conv.cons; · first | ((repeat (first | with_reducible exact Take.head | apply Take.tail)); done) | ((repeat (first | exact Take.head | apply Take.tail)); done)) | refine Conv.drop ?_)) s) (by repeat (first | exact PanicOk.body | exact PanicOk.bodyD (by intros; simp [results, Act.put]) | refine PanicOk.then ?_ | refine PanicOk.block ?_ | refine PanicOk.scope ?_)) (by kernel_rfl) ?_
  refine d_q 2 rfl Q_eqls (fun _ s => Conv.sat (by repeat (first | with_reducible exact Conv.refl | exact Conv.nil | (apply Conv.cons; · first | ((repeat (first | with_reducible exact Take.head | apply Take.tail)); done) | ((repeat (first | exact Take.head | apply Take.tail)); done)) | refine Conv.drop ?_)) s) (by repeat (first | exact PanicOk.body | exact PanicOk.bodyD (by intros; simp [results, Act.put]) | refine PanicOk.then ?_ | refine PanicOk.block ?_ | refine PanicOk.scope ?_)) (by kernel_rfl) ?_
  refine d_q 3 rfl Q_move (fun _ s => Conv.sat (by repeat (first | with_reducible exact Conv.refl | exact Conv.nil | (apply Conv.cons; · first | ((repeat (first | with_reducible exact Take.head | apply Take.tail)); done) | ((repeat (first | exact Take.head | apply Take.tail)); done)) | refine Conv.drop ?_)) s) (by repeat (first | exact PanicOk.body | exact PanicOk.bodyD (by intros; simp [results, Act.put]) | refine PanicOk.then ?_ | refine PanicOk.block ?_ | refine PanicOk.scope ?_)) (by kernel_rfl) ?_
  refine b_is (t := 55) true rfl (by first | rfl | exact decide_eq_true (by omega) | simp_all) ?_
  refine d_qy 4 rfl Q_move (fun _ s => Conv.sat (by repeat (first | with_reducible exact Conv.refl | exact Conv.nil | (apply Conv.cons; · first | ((repeat (first | with_reducible exact Take.head | apply Take.tail)); done) | ((repeat (first | exact Take.head | apply Take.tail)); done)) | refine Conv.drop ?_)) s) (by repeat (first | exact PanicOk.body | exact PanicOk.bodyD (by intros; simp [results, Act.put]) | refine PanicOk.then ?_ | refine PanicOk.block ?_ | refine PanicOk.scope ?_)) (by kernel_rfl) ?_
  refine d_qy 5 rfl Q_move (fun _ s => Conv.sat (by repeat (first | with_reducible exact Conv.refl | exact Conv.nil | (apply Conv.cons; · first | ((repeat (first | with_reducible exact Take.head | apply Take.tail)); done) | ((repeat (first | exact Take.head | apply Take.tail)); done)) | refine Conv.drop ?_)) s) (by repeat (first | exact PanicOk.body | exact PanicOk.bodyD (by intros; simp [results, Act.put]) | refine PanicOk.then ?_ | refine PanicOk.block ?_ | refine PanicOk.scope ?_)) (by kernel_rfl) ?_
  refine d_qy 6 rfl Q_eqls (fun _ s => Conv.sat (by repeat (first | with_reducible exact Conv.refl | exact Conv.nil | (apply Conv.cons; · first | ((repeat (first | with_reducible exact Take.head | apply Take.tail)); done) | ((repeat (first | exact Take.head | apply Take.tail)); done)) | refine Conv.drop ?_)) s) (by repeat (first | exact PanicOk.body | exact PanicOk.bodyD (by intros; simp [results, Act.put]) | refine PanicOk.then ?_ | refine PanicOk.block ?_ | refine PanicOk.scope ?_)) (by kernel_rfl) ?_
  refine d_q 7 rfl Q_pickT (fun _ s => Conv.sat (by repeat (first | with_reducible exact Conv.refl | exact Conv.nil | (apply Conv.cons; · first | ((repeat (first | with_reducible exact Take.head | apply Take.tail)); done) | ((repeat (first | exact Take.head | apply Take.tail)); done)) | refine Conv.drop ?_)) s) (by repeat (first | exact PanicOk.body | exact PanicOk.bodyD (by intros; simp [results, Act.put]) | refine PanicOk.then ?_ | refine PanicOk.block ?_ | refine PanicOk.scope ?_)) (by kernel_rfl) ?_
  refine d_q 8 rfl Q_move (fun _ s => Conv.sat (by repeat (first | with_reducible exact Conv.refl | exact Conv.nil | (apply Conv.cons; · first | ((repeat (first | with_reducible exact Take.head | apply Take.tail)); done) | ((repeat (first | exact Take.head | apply Take.tail)); done)) | refine Conv.drop ?_)) s) (by repeat (first | exact PanicOk.body | exact PanicOk.bodyD (by intros; simp [results, Act.put]) | refine PanicOk.then ?_ | refine PanicOk.block ?_ | refine PanicOk.scope ?_)) (by kernel_rfl) ?_
  refine b_is (t := 60) true rfl (by first | rfl | exact decide_eq_true (by omega) | simp_all) ?_
  refine d_qy 9 rfl Q_move (fun _ s => Conv.sat (by repeat (first | with_reducible exact Conv.refl | exact Conv.nil | (apply Conv.cons; · first | ((repeat (first | with_reducible exact Take.head | apply Take.tail)); done) | ((repeat (first | exact Take.head | apply Take.tail)); done)) | refine Conv.drop ?_)) s) (by repeat (first | exact PanicOk.body | exact PanicOk.bodyD (by intros; simp [results, Act.put]) | refine PanicOk.then ?_ | refine PanicOk.block ?_ | refine PanicOk.scope ?_)) (by kernel_rfl) ?_
  refine d_qy 10 rfl Q_move (fun _ s => Conv.sat (by repeat (first | with_reducible exact Conv.refl | exact Conv.nil | (apply Conv.cons; · first | ((repeat (first | with_reducible exact Take.head | apply Take.tail)); done) | ((repeat (first | exact Take.head | apply Take.tail)); done)) | refine Conv.drop ?_)) s) (by repeat (first | exact PanicOk.body | exact PanicOk.bodyD (by intros; simp [results, Act.put]) | refine PanicOk.then ?_ | refine PanicOk.block ?_ | refine PanicOk.scope ?_)) (by kernel_rfl) ?_
  refine d_ly 11 (by kernel_rfl) rfl ?_
  refine (l_call cf_10 rfl (f_same xa ya xc yc xc yc (pl r) (pl r) (Nat.le_trans (pl_len r) (by decide))) ?_)
  intro _ _
  refine d_head (fun _ s => Conv.sat (by repeat (first | with_reducible exact Conv.refl | exact Conv.nil | (apply Conv.cons; · first | ((repeat (first | with_reducible exact Take.head | apply Take.tail)); done) | ((repeat (first | exact Take.head | apply Take.tail)); done)) | refine Conv.drop ?_)) s) ?_
  refine d_q 12 rfl Q_pickT (fun _ s => Conv.sat (by repeat (first | with_reducible exact Conv.refl | exact Conv.nil | (apply Conv.cons; · first | ((repeat (first | with_reducible exact Take.head | apply Take.tail)); done) | ((repeat (first | exact Take.head | apply Take.tail)); done)) | refine Conv.drop ?_)) s) (by repeat (first | exact PanicOk.body | exact PanicOk.bodyD (by intros; simp [results, Act.put]) | refine PanicOk.then ?_ | refine PanicOk.block ?_ | refine PanicOk.scope ?_)) (by kernel_rfl) ?_
  refine d_q 13 rfl Q_move (fun _ s => Conv.sat (by repeat (first | with_reducible exact Conv.refl | exact Conv.nil | (apply Conv.cons; · first | ((repeat (first | with_reducible exact Take.head | apply Take.tail)); done) | ((repeat (first | exact Take.head | apply Take.tail)); done)) | refine Conv.drop ?_)) s) (by repeat (first | exact PanicOk.body | exact PanicOk.bodyD (by intros; simp [results, Act.put]) | refine PanicOk.then ?_ | refine PanicOk.block ?_ | refine PanicOk.scope ?_)) (by kernel_rfl) ?_
  refine b_is (t := 65) true rfl (by first | rfl | exact decide_eq_true (by omega) | simp_all) ?_
  refine d_qy 14 rfl Q_move (fun _ s => Conv.sat (by repeat (first | with_reducible exact Conv.refl | exact Conv.nil | (apply Conv.cons; · first | ((repeat (first | with_reducible exact Take.head | apply Take.tail)); done) | ((repeat (first | exact Take.head | apply Take.tail)); done)) | refine Conv.drop ?_)) s) (by repeat (first | exact PanicOk.body | exact PanicOk.bodyD (by intros; simp [results, Act.put]) | refine PanicOk.then ?_ | refine PanicOk.block ?_ | refine PanicOk.scope ?_)) (by kernel_rfl) ?_
  refine d_qy 15 rfl Q_move (fun _ s => Conv.sat (by repeat (first | with_reducible exact Conv.refl | exact Conv.nil | (apply Conv.cons; · first | ((repeat (first | with_reducible exact Take.head | apply Take.tail)); done) | ((repeat (first | exact Take.head | apply Take.tail)); done)) | refine Conv.drop ?_)) s) (by repeat (first | exact PanicOk.body | exact PanicOk.bodyD (by intros; simp [results, Act.put]) | refine PanicOk.then ?_ | refine PanicOk.block ?_ | refine PanicOk.scope ?_)) (by kernel_rfl) ?_
  refine d_qy 16 rfl (Q_eqb Tryd.underlying4) (fun _ s => Conv.sat (by repeat (first | with_reducible exact Conv.refl | exact Conv.nil | (apply Conv.cons; · first | ((repeat (first | with_reducible exact Take.head | apply Take.tail)); done) | ((repeat (first | exact Take.head | apply Take.tail)); done)) | refine Conv.drop ?_)) s) (by repeat (first | exact PanicOk.body | exact PanicOk.bodyD (by intros; simp [results, Act.put]) | refine PanicOk.then ?_ | refine PanicOk.block ?_ | refine PanicOk.scope ?_)) (by kernel_rfl) ?_
  refine d_q 17 rfl Q_pickT (fun _ s => Conv.sat (by repeat (first | with_reducible exact Conv.refl | exact Conv.nil | (apply Conv.cons; · first | ((repeat (first | with_reducible exact Take.head | apply Take.tail)); done) | ((repeat (first | exact Take.head | apply Take.tail)); done)) | refine Conv.drop ?_)) s) (by repeat (first | exact PanicOk.body | exact PanicOk.bodyD (by intros; simp [results, Act.put]) | refine PanicOk.then ?_ | refine PanicOk.block ?_ | refine PanicOk.scope ?_)) (by kernel_rfl) ?_
  refine d_q 18 rfl Q_move (fun _ s => Conv.sat (by repeat (first | with_reducible exact Conv.refl | exact Conv.nil | (apply Conv.cons; · first | ((repeat (first | with_reducible exact Take.head | apply Take.tail)); done) | ((repeat (first | exact Take.head | apply Take.tail)); done)) | refine Conv.drop ?_)) s) (by repeat (first | exact PanicOk.body | exact PanicOk.bodyD (by intros; simp [results, Act.put]) | refine PanicOk.then ?_ | refine PanicOk.block ?_ | refine PanicOk.scope ?_)) (by kernel_rfl) ?_
  refine b_is (t := 70) true rfl (by first | rfl | exact decide_eq_true (by omega) | simp_all) ?_
  refine d_qy 19 rfl Q_move (fun _ s => Conv.sat (by repeat (first | with_reducible exact Conv.refl | exact Conv.nil | (apply Conv.cons; · first | ((repeat (first | with_reducible exact Take.head | apply Take.tail)); done) | ((repeat (first | exact Take.head | apply Take.tail)); done)) | refine Conv.drop ?_)) s) (by repeat (first | exact PanicOk.body | exact PanicOk.bodyD (by intros; simp [results, Act.put]) | refine PanicOk.then ?_ | refine PanicOk.block ?_ | refine PanicOk.scope ?_)) (by kernel_rfl) ?_
  refine d_qy 20 rfl Q_not (fun _ s => Conv.sat (by repeat (first | with_reducible exact Conv.refl | exact Conv.nil | (apply Conv.cons; · first | ((repeat (first | with_reducible exact Take.head | apply Take.tail)); done) | ((repeat (first | exact Take.head | apply Take.tail)); done)) | refine Conv.drop ?_)) s) (by repeat (first | exact PanicOk.body | exact PanicOk.bodyD (by intros; simp [results, Act.put]) | refine PanicOk.then ?_ | refine PanicOk.block ?_ | refine PanicOk.scope ?_)) (by kernel_rfl) ?_
  refine d_qy 21 rfl Q_move (fun _ s => Conv.sat (by repeat (first | with_reducible exact Conv.refl | exact Conv.nil | (apply Conv.cons; · first | ((repeat (first | with_reducible exact Take.head | apply Take.tail)); done) | ((repeat (first | exact Take.head | apply Take.tail)); done)) | refine Conv.drop ?_)) s) (by repeat (first | exact PanicOk.body | exact PanicOk.bodyD (by intros; simp [results, Act.put]) | refine PanicOk.then ?_ | refine PanicOk.block ?_ | refine PanicOk.scope ?_)) (by kernel_rfl) ?_
  first | refine b_dec (t := 73) rfl (fun hc1 => ?_) (fun hc1 => ?_) | refine b_ndec (t := 73) rfl (fun hc1 => ?_) (fun hc1 => ?_) | refine b_bool (t := 73) rfl (fun hc1 => ?_) (fun hc1 => ?_)
  · refine d_qn 22 rfl (fun _ s => Conv.sat (by repeat (first | with_reducible exact Conv.refl | exact Conv.nil | (apply Conv.cons; · first | ((repeat (first | with_reducible exact Take.head | apply Take.tail)); done) | ((repeat (first | exact Take.head | apply Take.tail)); done)) | refine Conv.drop ?_)) s) (by repeat (first | exact PanicOk.body | exact PanicOk.bodyD (by intros; simp [results, Act.put]) | refine PanicOk.then ?_ | refine PanicOk.block ?_ | refine PanicOk.scope ?_)) (by kernel_rfl) ?_
    refine d_qn 23 rfl (fun _ s => Conv.sat (by repeat (first | with_reducible exact Conv.refl | exact Conv.nil | (apply Conv.cons; · first | ((repeat (first | with_reducible exact Take.head | apply Take.tail)); done) | ((repeat (first | exact Take.head | apply Take.tail)); done)) | refine Conv.drop ?_)) s) (by repeat (first | exact PanicOk.body | exact PanicOk.bodyD (by intros; simp [results, Act.put]) | refine PanicOk.then ?_ | refine PanicOk.block ?_ | refine PanicOk.scope ?_)) (by kernel_rfl) ?_
    refine d_qn 24 rfl (fun _ s => Conv.sat (by repeat (first | with_reducible exact Conv.refl | exact Conv.nil | (apply Conv.cons; · first | ((repeat (first | with_reducible exact Take.head | apply Take.tail)); done) | ((repeat (first | exact Take.head | apply Take.tail)); done)) | refine Conv.drop ?_)) s) (by repeat (first | exact PanicOk.body | exact PanicOk.bodyD (by intros; simp [results, Act.put]) | refine PanicOk.then ?_ | refine PanicOk.block ?_ | refine PanicOk.scope ?_)) (by kernel_rfl) ?_
    refine d_qn 25 rfl (fun _ s => Conv.sat (by repeat (first | with_reducible exact Conv.refl | exact Conv.nil | (apply Conv.cons; · first | ((repeat (first | with_reducible exact Take.head | apply Take.tail)); done) | ((repeat (first | exact Take.head | apply Take.tail)); done)) | refine Conv.drop ?_)) s) (by repeat (first | exact PanicOk.body | exact PanicOk.bodyD (by intros; simp [results, Act.put]) | refine PanicOk.then ?_ | refine PanicOk.block ?_ | refine PanicOk.scope ?_)) (by kernel_rfl) ?_
    refine d_qu 26 rfl (fun _ s => Conv.sat (by repeat (first | with_reducible exact Conv.refl | exact Conv.nil | (apply Conv.cons; · first | ((repeat (first | with_reducible exact Take.head | apply Take.tail)); done) | ((repeat (first | exact Take.head | apply Take.tail)); done)) | refine Conv.drop ?_)) s) (by repeat (first | exact PanicOk.body | exact PanicOk.bodyD (by intros; simp [results, Act.put]) | refine PanicOk.then ?_ | refine PanicOk.block ?_ | refine PanicOk.scope ?_)) (by kernel_rfl) ?_
    refine d_qu 27 rfl (fun _ s => Conv.sat (by repeat (first | with_reducible exact Conv.refl | exact Conv.nil | (apply Conv.cons; · first | ((repeat (first | with_reducible exact Take.head | apply Take.tail)); done) | ((repeat (first | exact Take.head | apply Take.tail)); done)) | refine Conv.drop ?_)) s) (by repeat (first | exact PanicOk.body | exact PanicOk.bodyD (by intros; simp [results, Act.put]) | refine PanicOk.then ?_ | refine PanicOk.block ?_ | refine PanicOk.scope ?_)) (by kernel_rfl) ?_
    refine d_qu 28 rfl (fun _ s => Conv.sat (by repeat (first | with_reducible exact Conv.refl | exact Conv.nil | (apply Conv.cons; · first | ((repeat (first | with_reducible exact Take.head | apply Take.tail)); done) | ((repeat (first | exact Take.head | apply Take.tail)); done)) | refine Conv.drop ?_)) s) (by repeat (first | exact PanicOk.body | exact PanicOk.bodyD (by intros; simp [results, Act.put]) | refine PanicOk.then ?_ | refine PanicOk.block ?_ | refine PanicOk.scope ?_)) (by kernel_rfl) ?_
    refine d_qu 29 rfl (fun _ s => Conv.sat (by repeat (first | with_reducible exact Conv.refl | exact Conv.nil | (apply Conv.cons; · first | ((repeat (first | with_reducible exact Take.head | apply Take.tail)); done) | ((repeat (first | exact Take.head | apply Take.tail)); done)) | refine Conv.drop ?_)) s) (by repeat (first | exact PanicOk.body | exact PanicOk.bodyD (by intros; simp [results, Act.put]) | refine PanicOk.then ?_ | refine PanicOk.block ?_ | refine PanicOk.scope ?_)) (by kernel_rfl) ?_
    refine d_qu 30 rfl (fun _ s => Conv.sat (by repeat (first | with_reducible exact Conv.refl | exact Conv.nil | (apply Conv.cons; · first | ((repeat (first | with_reducible exact Take.head | apply Take.tail)); done) | ((repeat (first | exact Take.head | apply Take.tail)); done)) | refine Conv.drop ?_)) s) (by repeat (first | exact PanicOk.body | exact PanicOk.bodyD (by intros; simp [results, Act.put]) | refine PanicOk.then ?_ | refine PanicOk.block ?_ | refine PanicOk.scope ?_)) (by kernel_rfl) ?_
    refine d_qu 31 rfl (fun _ s => Conv.sat (by repeat (first | with_reducible exact Conv.refl | exact Conv.nil | (apply Conv.cons; · first | ((repeat (first | with_reducible exact Take.head | apply Take.tail)); done) | ((repeat (first | exact Take.head | apply Take.tail)); done)) | refine Conv.drop ?_)) s) (by repeat (first | exact PanicOk.body | exact PanicOk.bodyD (by intros; simp [results, Act.put]) | refine PanicOk.then ?_ | refine PanicOk.block ?_ | refine PanicOk.scope ?_)) (by kernel_rfl) ?_
    refine d_qn 32 rfl (fun _ s => Conv.sat (by repeat (first | with_reducible exact Conv.refl | exact Conv.nil | (apply Conv.cons; · first | ((repeat (first | with_reducible exact Take.head | apply Take.tail)); done) | ((repeat (first | exact Take.head | apply Take.tail)); done)) | refine Conv.drop ?_)) s) (by repeat (first | exact PanicOk.body | exact PanicOk.bodyD (by intros; simp [results, Act.put]) | refine PanicOk.then ?_ | refine PanicOk.block ?_ | refine PanicOk.scope ?_)) (by kernel_rfl) ?_
    refine d_qn 33 rfl (fun _ s => Conv.sat (by repeat (first | with_reducible exact Conv.refl | exact Conv.nil | (apply Conv.cons; · first | ((repeat (first | with_reducible exact Take.head | apply Take.tail)); done) | ((repeat (first | exact Take.head | apply Take.tail)); done)) | refine Conv.drop ?_)) s) (by repeat (first | exact PanicOk.body | exact PanicOk.bodyD (by intros; simp [results, Act.put]) | refine PanicOk.then ?_ | refine PanicOk.block ?_ | refine PanicOk.scope ?_)) (by kernel_rfl) ?_
    refine d_qu 34 rfl (fun _ s => Conv.sat (by repeat (first | with_reducible exact Conv.refl | exact Conv.nil | (apply Conv.cons; · first | ((repeat (first | with_reducible exact Take.head | apply Take.tail)); done) | ((repeat (first | exact Take.head | apply Take.tail)); done)) | refine Conv.drop ?_)) s) (by repeat (first | exact PanicOk.body | exact PanicOk.bodyD (by intros; simp [results, Act.put]) | refine PanicOk.then ?_ | refine PanicOk.block ?_ | refine PanicOk.scope ?_)) (by kernel_rfl) ?_
    refine d_qu 35 rfl (fun _ s => Conv.sat (by repeat (first | with_reducible exact Conv.refl | exact Conv.nil | (apply Conv.cons; · first | ((repeat (first | with_reducible exact Take.head | apply Take.tail)); done) | ((repeat (first | exact Take.head | apply Take.tail)); done)) | refine Conv.drop ?_)) s) (by repeat (first | exact PanicOk.body | exact PanicOk.bodyD (by intros; simp [results, Act.put]) | refine PanicOk.then ?_ | refine PanicOk.block ?_ | refine PanicOk.scope ?_)) (by kernel_rfl) ?_
    refine d_qu 36 rfl (fun _ s => Conv.sat (by repeat (first | with_reducible exact Conv.refl | exact Conv.nil | (apply Conv.cons; · first | ((repeat (first | with_reducible exact Take.head | apply Take.tail)); done) | ((repeat (first | exact Take.head | apply Take.tail)); done)) | refine Conv.drop ?_)) s) (by repeat (first | exact PanicOk.body | exact PanicOk.bodyD (by intros; simp [results, Act.put]) | refine PanicOk.then ?_ | refine PanicOk.block ?_ | refine PanicOk.scope ?_)) (by kernel_rfl) ?_
    refine d_qu 37 rfl (fun _ s => Conv.sat (by repeat (first | with_reducible exact Conv.refl | exact Conv.nil | (apply Conv.cons; · first | ((repeat (first | with_reducible exact Take.head | apply Take.tail)); done) | ((repeat (first | exact Take.head | apply Take.tail)); done)) | refine Conv.drop ?_)) s) (by repeat (first | exact PanicOk.body | exact PanicOk.bodyD (by intros; simp [results, Act.put]) | refine PanicOk.then ?_ | refine PanicOk.block ?_ | refine PanicOk.scope ?_)) (by kernel_rfl) ?_
    refine d_qu 38 rfl (fun _ s => Conv.sat (by repeat (first | with_reducible exact Conv.refl | exact Conv.nil | (apply Conv.cons; · first | ((repeat (first | with_reducible exact Take.head | apply Take.tail)); done) | ((repeat (first | exact Take.head | apply Take.tail)); done)) | refine Conv.drop ?_)) s) (by repeat (first | exact PanicOk.body | exact PanicOk.bodyD (by intros; simp [results, Act.put]) | refine PanicOk.then ?_ | refine PanicOk.block ?_ | refine PanicOk.scope ?_)) (by kernel_rfl) ?_
    refine d_qu 39 rfl (fun _ s => Conv.sat (by repeat (first | with_reducible exact Conv.refl | exact Conv.nil | (apply Conv.cons; · first | ((repeat (first | with_reducible exact Take.head | apply Take.tail)); done) | ((repeat (first | exact Take.head | apply Take.tail)); done)) | refine Conv.drop ?_)) s) (by repeat (first | exact PanicOk.body | exact PanicOk.bodyD (by intros; simp [results, Act.put]) | refine PanicOk.then ?_ | refine PanicOk.block ?_ | refine PanicOk.scope ?_)) (by kernel_rfl) ?_
    refine d_qn 40 rfl (fun _ s => Conv.sat (by repeat (first | with_reducible exact Conv.refl | exact Conv.nil | (apply Conv.cons; · first | ((repeat (first | with_reducible exact Take.head | apply Take.tail)); done) | ((repeat (first | exact Take.head | apply Take.tail)); done)) | refine Conv.drop ?_)) s) (by repeat (first | exact PanicOk.body | exact PanicOk.bodyD (by intros; simp [results, Act.put]) | refine PanicOk.then ?_ | refine PanicOk.block ?_ | refine PanicOk.scope ?_)) (by kernel_rfl) ?_
    refine d_qn 41 rfl (fun _ s => Conv.sat (by repeat (first | with_reducible exact Conv.refl | exact Conv.nil | (apply Conv.cons; · first | ((repeat (first | with_reducible exact Take.head | apply Take.tail)); done) | ((repeat (first | exact Take.head | apply Take.tail)); done)) | refine Conv.drop ?_)) s) (by repeat (first | exact PanicOk.body | exact PanicOk.bodyD (by intros; simp [results, Act.put]) | refine PanicOk.then ?_ | refine PanicOk.block ?_ | refine PanicOk.scope ?_)) (by kernel_rfl) ?_
    refine d_qu 42 rfl (fun _ s => Conv.sat (by repeat (first | with_reducible exact Conv.refl | exact Conv.nil | (apply Conv.cons; · first | ((repeat (first | with_reducible exact Take.head | apply Take.tail)); done) | ((repeat (first | exact Take.head | apply Take.tail)); done)) | refine Conv.drop ?_)) s) (by repeat (first | exact PanicOk.body | exact PanicOk.bodyD (by intros; simp [results, Act.put]) | refine PanicOk.then ?_ | refine PanicOk.block ?_ | refine PanicOk.scope ?_)) (by kernel_rfl) ?_
    refine d_qu 43 rfl (fun _ s => Conv.sat (by repeat (first | with_reducible exact Conv.refl | exact Conv.nil | (apply Conv.cons; · first | ((repeat (first | with_reducible exact Take.head | apply Take.tail)); done) | ((repeat (first | exact Take.head | apply Take.tail)); done)) | refine Conv.drop ?_)) s) (by repeat (first | exact PanicOk.body | exact PanicOk.bodyD (by intros; simp [results, Act.put]) | refine PanicOk.then ?_ | refine PanicOk.block ?_ | refine PanicOk.scope ?_)) (by kernel_rfl) ?_
    refine d_qu 44 rfl (fun _ s => Conv.sat (by repeat (first | with_reducible exact Conv.refl | exact Conv.nil | (apply Conv.cons; · first | ((repeat (first | with_reducible exact Take.head | apply Take.tail)); done) | ((repeat (first | exact Take.head | apply Take.tail)); done)) | refine Conv.drop ?_)) s) (by repeat (first | exact PanicOk.body | exact PanicOk.bodyD (by intros; simp [results, Act.put]) | refine PanicOk.then ?_ | refine PanicOk.block ?_ | refine PanicOk.scope ?_)) (by kernel_rfl) ?_
    refine d_qu 45 rfl (fun _ s => Conv.sat (by repeat (first | with_reducible exact Conv.refl | exact Conv.nil | (apply Conv.cons; · first | ((repeat (first | with_reducible exact Take.head | apply Take.tail)); done) | ((repeat (first | exact Take.head | apply Take.tail)); done)) | refine Conv.drop ?_)) s) (by repeat (first | exact PanicOk.body | exact PanicOk.bodyD (by intros; simp [results, Act.put]) | refine PanicOk.then ?_ | refine PanicOk.block ?_ | refine PanicOk.scope ?_)) (by kernel_rfl) ?_
    refine d_qu 46 rfl (fun _ s => Conv.sat (by repeat (first | with_reducible exact Conv.refl | exact Conv.nil | (apply Conv.cons; · first | ((repeat (first | with_reducible exact Take.head | apply Take.tail)); done) | ((repeat (first | exact Take.head | apply Take.tail)); done)) | refine Conv.drop ?_)) s) (by repeat (first | exact PanicOk.body | exact PanicOk.bodyD (by intros; simp [results, Act.put]) | refine PanicOk.then ?_ | refine PanicOk.block ?_ | refine PanicOk.scope ?_)) (by kernel_rfl) ?_
    refine d_qu 47 rfl (fun _ s => Conv.sat (by repeat (first | with_reducible exact Conv.refl | exact Conv.nil | (apply Conv.cons; · first | ((repeat (first | with_reducible exact Take.head | apply Take.tail)); done) | ((repeat (first | exact Take.head | apply Take.tail)); done)) | refine Conv.drop ?_)) s) (by repeat (first | exact PanicOk.body | exact PanicOk.bodyD (by intros; simp [results, Act.put]) | refine PanicOk.then ?_ | refine PanicOk.block ?_ | refine PanicOk.scope ?_)) (by kernel_rfl) ?_
    refine d_qn 48 rfl (fun _ s => Conv.sat (by repeat (first | with_reducible exact Conv.refl | exact Conv.nil | (apply Conv.cons; · first | ((repeat (first | with_reducible exact Take.head | apply Take.tail)); done) | ((repeat (first | exact Take.head | apply Take.tail)); done)) | refine Conv.drop ?_)) s) (by repeat (first | exact PanicOk.body | exact PanicOk.bodyD (by intros; simp [results, Act.put]) | refine PanicOk.then ?_ | refine PanicOk.block ?_ | refine PanicOk.scope ?_)) (by kernel_rfl) ?_
    refine d_qy 49 rfl Q_pickT (fun _ s => Conv.sat (by repeat (first | with_reducible exact Conv.refl | exact Conv.nil | (apply Conv.cons; · first | ((repeat (first | with_reducible exact Take.head | apply Take.tail)); done) | ((repeat (first | exact Take.head | apply Take.tail)); done)) | refine Conv.drop ?_)) s) (by repeat (first | exact PanicOk.body | exact PanicOk.bodyD (by intros; simp [results, Act.put]) | refine PanicOk.then ?_ | refine PanicOk.block ?_ | refine PanicOk.scope ?_)) (by kernel_rfl) ?_
    refine d_q 50 rfl Q_pickT (fun _ s => Conv.sat (by repeat (first | with_reducible exact Conv.refl | exact Conv.nil | (apply Conv.cons; · first | ((repeat (first | with_reducible exact Take.head | apply Take.tail)); done) | ((repeat (first | exact Take.head | apply Take.tail)); done)) | refine Conv.drop ?_)) s) (by repeat (first | exact PanicOk.body | exact PanicOk.bodyD (by intros; simp [results, Act.put]) | refine PanicOk.then ?_ | refine PanicOk.block ?_ | refine PanicOk.scope ?_)) (by kernel_rfl) ?_
    refine d_l 51 (by kernel_rfl) rfl rfl ?_
    refine l_q Q_assign ?_
    refine d_tail ?_ (by kernel_rfl)
    refine d_nil (by kernel_rfl) ?_
    refine e_then ?_
    refine c_ret ?_
    exact ret1 (fun w s => hp () trivial w (Conv.sat (by repeat (first | with_reducible exact Conv.refl | exact Conv.nil | (apply Conv.cons; · first | ((repeat (first | with_reducible exact Take.head | apply Take.tail)); done) | ((repeat (first | exact Take.head | apply Take.tail)); done)) | refine Conv.drop ?_)) s))
  · obtain ⟨hpa, hpl⟩ := hrow (by have := (by assumption : (!(parts r).isSome) = false); simpa using this)
    have hl3 : (pl r).length = 3 := by rw [hpl]; rfl
    have hl0 : (pl r)[0]? = some a := by rw [hpl]; rfl
    have hl1 : (pl r)[1]? = some b := by rw [hpl]; rfl
    have hl2 : (pl r)[2]? = some c := by rw [hpl]; rfl
    refine d_qy 22 rfl Q_move (fun _ s => Conv.sat (by repeat (first | with_reducible exact Conv.refl | exact Conv.nil | (apply Conv.cons; · first | ((repeat (first | with_reducible exact Take.head | apply Take.tail)); done) | ((repeat (first | exact Take.head | apply Take.tail)); done)) | refine Conv.drop ?_)) s) (by repeat (first | exact PanicOk.body | exact PanicOk.bodyD (by intros; simp [results, Act.put]) | refine PanicOk.then ?_ | refine PanicOk.block ?_ | refine PanicOk.scope ?_)) (by kernel_rfl) ?_
    refine d_qy 23 rfl Q_move (fun _ s => Conv.sat (by repeat (first | with_reducible exact Conv.refl | exact Conv.nil | (apply Conv.cons; · first | ((repeat (first | with_reducible exact Take.head | apply Take.tail)); done) | ((repeat (first | exact Take.head | apply Take.tail)); done)) | refine Conv.drop ?_)) s) (by repeat (first | exact PanicOk.body | exact PanicOk.bodyD (by intros; simp [results, Act.put]) | refine PanicOk.then ?_ | refine PanicOk.block ?_ | refine PanicOk.scope ?_)) (by kernel_rfl) ?_
    refine d_qy 24 rfl Q_eqls (fun _ s => Conv.sat (by repeat (first | with_reducible exact Conv.refl | exact Conv.nil | (apply Conv.cons; · first | ((repeat (first | with_reducible exact Take.head | apply Take.tail)); done) | ((repeat (first | exact Take.head | apply Take.tail)); done)) | refine Conv.drop ?_)) s) (by repeat (first | exact PanicOk.body | exact PanicOk.bodyD (by intros; simp [results, Act.put]) | refine PanicOk.then ?_ | refine PanicOk.block ?_ | refine PanicOk.scope ?_)) (by kernel_rfl) ?_
    refine d_qy 25 rfl Q_move (fun _ s => Conv.sat (by repeat (first | with_reducible exact Conv.refl | exact Conv.nil | (apply Conv.cons; · first | ((repeat (first | with_reducible exact Take.head | apply Take.tail)); done) | ((repeat (first | exact Take.head | apply Take.tail)); done)) | refine Conv.drop ?_)) s) (by repeat (first | exact PanicOk.body | exact PanicOk.bodyD (by intros; simp [results, Act.put]) | refine PanicOk.then ?_ | refine PanicOk.block ?_ | refine PanicOk.scope ?_)) (by kernel_rfl) ?_
    refine b_is (t := 77) true rfl (by first | rfl | exact decide_eq_true (by omega) | simp_all) ?_
    refine d_qy 26 rfl Q_move (fun _ s => Conv.sat (by repeat (first | with_reducible exact Conv.refl | exact Conv.nil | (apply Conv.cons; · first | ((repeat (first | with_reducible exact Take.head | apply Take.tail)); done) | ((repeat (first | exact Take.head | apply Take.tail)); done)) | refine Conv.drop ?_)) s) (by repeat (first | exact PanicOk.body | exact PanicOk.bodyD (by intros; simp [results, Act.put]) | refine PanicOk.then ?_ | refine PanicOk.block ?_ | refine PanicOk.scope ?_)) (by kernel_rfl) ?_
    first | refine d_qy 27 rfl (Q_indexl Tryd.underlying26 sz_3) (fun _ s => Conv.sat (by repeat (first | with_reducible exact Conv.refl | exact Conv.nil | (apply Conv.cons; · first | ((repeat (first | with_reducible exact Take.head | apply Take.tail)); done) | ((repeat (first | exact Take.head | apply Take.tail)); done)) | refine Conv.drop ?_)) s) (by repeat (first | exact PanicOk.body | exact PanicOk.bodyD (by intros; simp [results, Act.put]) | refine PanicOk.then ?_ | refine PanicOk.block ?_ | refine PanicOk.scope ?_)) (by kernel_rfl) ?_ | refine d_qy 27 rfl (Q_idxT' Tryd.underlying26 sz_3) (fun _ s => Conv.sat (by repeat (first | with_reducible exact Conv.refl | exact Conv.nil | (apply Conv.cons; · first | ((repeat (first | with_reducible exact Take.head | apply Take.tail)); done) | ((repeat (first | exact Take.head | apply Take.tail)); done)) | refine Conv.drop ?_)) s) (by repeat (first | exact PanicOk.body | exact PanicOk.bodyD (by intros; simp [results, Act.put]) | refine PanicOk.then ?_ | refine PanicOk.block ?_ | refine PanicOk.scope ?_)) (by kernel_rfl) ?_
    first | refine d_qy 28 rfl (Q_load pl_3) (fun _ s => Conv.sat (by repeat (first | with_reducible exact Conv.refl | exact Conv.nil | (apply Conv.cons; · first | ((repeat (first | with_reducible exact Take.head | apply Take.tail)); done) | ((repeat (first | exact Take.head | apply Take.tail)); done)) | refine Conv.drop ?_)) s) (by repeat (first | exact PanicOk.body | exact PanicOk.bodyD (by intros; simp [results, Act.put]) | refine PanicOk.then ?_ | refine PanicOk.block ?_ | refine PanicOk.scope ?_)) (by kernel_rfl) ?_ | refine d_qy 28 rfl (Q_ldT' pl_3) (fun _ s => Conv.sat (by repeat (first | with_reducible exact Conv.refl | exact Conv.nil | (apply Conv.cons; · first | ((repeat (first | with_reducible exact Take.head | apply Take.tail)); done) | ((repeat (first | exact Take.head | apply Take.tail)); done)) | refine Conv.drop ?_)) s) (by repeat (first | exact PanicOk.body | exact PanicOk.bodyD (by intros; simp [results, Act.put]) | refine PanicOk.then ?_ | refine PanicOk.block ?_ | refine PanicOk.scope ?_)) (by kernel_rfl) ?_ | refine d_qy 28 rfl (Q_ldTf' pl_3) (fun _ s => Conv.sat (by repeat (first | with_reducible exact Conv.refl | exact Conv.nil | (apply Conv.cons; · first | ((repeat (first | with_reducible exact Take.head | apply Take.tail)); done) | ((repeat (first | exact Take.head | apply Take.tail)); done)) | refine Conv.drop ?_)) s) (by repeat (first | exact PanicOk.body | exact PanicOk.bodyD (by intros; simp [results, Act.put]) | refine PanicOk.then ?_ | refine PanicOk.block ?_ | refine PanicOk.scope ?_)) (by kernel_rfl) ?_
    refine d_qy 29 rfl (Q_indexa Tryd.underlying22 sz_3) (fun _ s => Conv.sat (by repeat (first | with_reducible exact Conv.refl | exact Conv.nil | (apply Conv.cons; · first | ((repeat (first | with_reducible exact Take.head | apply Take.tail)); done) | ((repeat (first | exact Take.head | apply Take.tail)); done)) | refine Conv.drop ?_)) s) (by repeat (first | exact PanicOk.body | exact PanicOk.bodyD (by intros; simp [results, Act.put]) | refine PanicOk.then ?_ | refine PanicOk.block ?_ | refine PanicOk.scope ?_)) (by kernel_rfl) ?_
    first | refine d_qy 30 rfl (Q_load pl_3) (fun _ s => Conv.sat (by repeat (first | with_reducible exact Conv.refl | exact Conv.nil | (apply Conv.cons; · first | ((repeat (first | with_reducible exact Take.head | apply Take.tail)); done) | ((repeat (first | exact Take.head | apply Take.tail)); done)) | refine Conv.drop ?_)) s) (by repeat (first | exact PanicOk.body | exact PanicOk.bodyD (by intros; simp [results, Act.put]) | refine PanicOk.then ?_ | refine PanicOk.block ?_ | refine PanicOk.scope ?_)) (by kernel_rfl) ?_ | refine d_qy 30 rfl (Q_ldT' pl_3) (fun _ s => Conv.sat (by repeat (first | with_reducible exact Conv.refl | exact Conv.nil | (apply Conv.cons; · first | ((repeat (first | with_reducible exact Take.head | apply Take.tail)); done) | ((repeat (first | exact Take.head | apply Take.tail)); done)) | refine Conv.drop ?_)) s) (by repeat (first | exact PanicOk.body | exact PanicOk.bodyD (by intros; simp [results, Act.put]) | refine PanicOk.then ?_ | refine PanicOk.block ?_ | refine PanicOk.scope ?_)) (by kernel_rfl) ?_ | refine d_qy 30 rfl (Q_ldTf' pl_3) (fun _ s => Conv.sat (by repeat (first | with_reducible exact Conv.refl | exact Conv.nil | (apply Conv.cons; · first | ((repeat (first | with_reducible exact Take.head | apply Take.tail)); done) | ((repeat (first | exact Take.head | apply Take.tail)); done)) | refine Conv.drop ?_)) s) (by repeat (first | exact PanicOk.body | exact PanicOk.bodyD (by intros; simp [results, Act.put]) | refine PanicOk.then ?_ | refine PanicOk.block ?_ | refine PanicOk.scope ?_)) (by kernel_rfl) ?_
    refine d_qy 31 rfl Q_eql (fun _ s => Conv.sat (by repeat (first | with_reducible exact Conv.refl | exact Conv.nil | (apply Conv.cons; · first | ((repeat (first | with_reducible exact Take.head | apply Take.tail)); done) | ((repeat (first | exact Take.head | apply Take.tail)); done)) | refine Conv.drop ?_)) s) (by repeat (first | exact PanicOk.body | exact PanicOk.bodyD (by intros; simp [results, Act.put]) | refine PanicOk.then ?_ | refine PanicOk.block ?_ | refine PanicOk.scope ?_)) (by kernel_rfl) ?_
    refine d_qy 32 rfl Q_pickT (fun _ s => Conv.sat (by repeat (first | with_reducible exact Conv.refl | exact Conv.nil | (apply Conv.cons; · first | ((repeat (first | with_reducible exact Take.head | apply Take.tail)); done) | ((repeat (first | exact Take.head | apply Take.tail)); done)) | refine Conv.drop ?_)) s) (by repeat (first | exact PanicOk.body | exact PanicOk.bodyD (by intros; simp [results, Act.put]) | refine PanicOk.then ?_ | refine PanicOk.block ?_ | refine PanicOk.scope ?_)) (by kernel_rfl) ?_
    refine d_qy 33 rfl Q_move (fun _ s => Conv.sat (by repeat (first | with_reducible exact Conv.refl | exact Conv.nil | (apply Conv.cons; · first | ((repeat (first | with_reducible exact Take.head | apply Take.tail)); done) | ((repeat (first | exact Take.head | apply Take.tail)); done)) | refine Conv.drop ?_)) s) (by repeat (first | exact PanicOk.body | exact PanicOk.bodyD (by intros; simp [results, Act.put]) | refine PanicOk.then ?_ | refine PanicOk.block ?_ | refine PanicOk.scope ?_)) (by kernel_rfl) ?_
    refine b_is (t := 85) true rfl (by first | rfl | exact decide_eq_true (by omega) | simp_all) ?_
    refine d_qy 34 rfl Q_move (fun _ s => Conv.sat (by repeat (first | with_reducible exact Conv.refl | exact Conv.nil | (apply Conv.cons; · first | ((repeat (first | with_reducible exact Take.head | apply Take.tail)); done) | ((repeat (first | exact Take.head | apply Take.tail)); done)) | refine Conv.drop ?_)) s) (by repeat (first | exact PanicOk.body | exact PanicOk.bodyD (by intros; simp [results, Act.put]) | refine PanicOk.then ?_ | refine PanicOk.block ?_ | refine PanicOk.scope ?_)) (by kernel_rfl) ?_
    first | refine d_qy 35 rfl (Q_indexl Tryd.underlying26 sz_3) (fun _ s => Conv.sat (by repeat (first | with_reducible exact Conv.refl | exact Conv.nil | (apply Conv.cons; · first | ((repeat (first | with_reducible exact Take.head | apply Take.tail)); done) | ((repeat (first | exact Take.head | apply Take.tail)); done)) | refine Conv.drop ?_)) s) (by repeat (first | exact PanicOk.body | exact PanicOk.bodyD (by intros; simp [results, Act.put]) | refine PanicOk.then ?_ | refine PanicOk.block ?_ | refine PanicOk.scope ?_)) (by kernel_rfl) ?_ | refine d_qy 35 rfl (Q_idxT' Tryd.underlying26 sz_3) (fun _ s => Conv.sat (by repeat (first | with_reducible exact Conv.refl | exact Conv.nil | (apply Conv.cons; · first | ((repeat (first | with_reducible exact Take.head | apply Take.tail)); done) | ((repeat (first | exact Take.head | apply Take.tail)); done)) | refine Conv.drop ?_)) s) (by repeat (first | exact PanicOk.body | exact PanicOk.bodyD (by intros; simp [results, Act.put]) | refine PanicOk.then ?_ | refine PanicOk.block ?_ | refine PanicOk.scope ?_)) (by kernel_rfl) ?_
    first | refine d_qy 36 rfl (Q_load pl_3) (fun _ s => Conv.sat (by repeat (first | with_reducible exact Conv.refl | exact Conv.nil | (apply Conv.cons; · first | ((repeat (first | with_reducible exact Take.head | apply Take.tail)); done) | ((repeat (first | exact Take.head | apply Take.tail)); done)) | refine Conv.drop ?_)) s) (by repeat (first | exact PanicOk.body | exact PanicOk.bodyD (by intros; simp [results, Act.put]) | refine PanicOk.then ?_ | refine PanicOk.block ?_ | refine PanicOk.scope ?_)) (by kernel_rfl) ?_ | refine d_qy 36 rfl (Q_ldT' pl_3) (fun _ s => Conv.sat (by repeat (first | with_reducible exact Conv.refl | exact Conv.nil | (apply Conv.cons; · first | ((repeat (first | with_reducible exact Take.head | apply Take.tail)); done) | ((repeat (first | exact Take.head | apply Take.tail)); done)) | refine Conv.drop ?_)) s) (by repeat (first | exact PanicOk.body | exact PanicOk.bodyD (by intros; simp [results, Act.put]) | refine PanicOk.then ?_ | refine PanicOk.block ?_ | refine PanicOk.scope ?_)) (by kernel_rfl) ?_ | refine d_qy 36 rfl (Q_ldTf' pl_3) (fun _ s => Conv.sat (by repeat (first | with_reducible exact Conv.refl | exact Conv.nil | (apply Conv.cons; · first | ((repeat (first | with_reducible exact Take.head | apply Take.tail)); done) | ((repeat (first | exact Take.head | apply Take.tail)); done)) | refine Conv.drop ?_)) s) (by repeat (first | exact PanicOk.body | exact PanicOk.bodyD (by intros; simp [results, Act.put]) | refine PanicOk.then ?_ | refine PanicOk.block ?_ | refine PanicOk.scope ?_)) (by kernel_rfl) ?_
    refine d_qy 37 rfl (Q_indexa Tryd.underlying22 sz_3) (fun _ s => Conv.sat (by repeat (first | with_reducible exact Conv.refl | exact Conv.nil | (apply Conv.cons; · first | ((repeat (first | with_reducible exact Take.head | apply Take.tail)); done) | ((repeat (first | exact Take.head | apply Take.tail)); done)) | refine Conv.drop ?_)) s) (by repeat (first | exact PanicOk.body | exact PanicOk.bodyD (by intros; simp [results, Act.put]) | refine PanicOk.then ?_ | refine PanicOk.block ?_ | refine PanicOk.scope ?_)) (by kernel_rfl) ?_
    first | refine d_qy 38 rfl (Q_load pl_3) (fun _ s => Conv.sat (by repeat (first | with_reducible exact Conv.refl | exact Conv.nil | (apply Conv.cons; · first | ((repeat (first | with_reducible exact Take.head | apply Take.tail)); done) | ((repeat (first | exact Take.head | apply Take.tail)); done)) | refine Conv.drop ?_)) s) (by repeat (first | exact PanicOk.body | exact PanicOk.bodyD (by intros; simp [results, Act.put]) | refine PanicOk.then ?_ | refine PanicOk.block ?_ | refine PanicOk.scope ?_)) (by kernel_rfl) ?_ | refine d_qy 38 rfl (Q_ldT' pl_3) (fun _ s => Conv.sat (by repeat (first | with_reducible exact Conv.refl | exact Conv.nil | (apply Conv.cons; · first | ((repeat (first | with_reducible exact Take.head | apply Take.tail)); done) | ((repeat (first | exact Take.head | apply Take.tail)); done)) | refine Conv.drop ?_)) s) (by repeat (first | exact PanicOk.body | exact PanicOk.bodyD (by intros; simp [results, Act.put]) | refine PanicOk.then ?_ | refine PanicOk.block ?_ | refine PanicOk.scope ?_)) (by kernel_rfl) ?_ | refine d_qy 38 rfl (Q_ldTf' pl_3) (fun _ s => Conv.sat (by repeat (first | with_reducible exact Conv.refl | exact Conv.nil | (apply Conv.cons; · first | ((repeat (first | with_reducible exact Take.head | apply Take.tail)); done) | ((repeat (first | exact Take.head | apply Take.tail)); done)) | refine Conv.drop ?_)) s) (by repeat (first | exact PanicOk.body | exact PanicOk.bodyD (by intros; simp [results, Act.put]) | refine PanicOk.then ?_ | refine PanicOk.block ?_ | refine PanicOk.scope ?_)) (by kernel_rfl) ?_
    refine d_qy 39 rfl Q_eql (fun _ s => Conv.sat (by repeat (first | with_reducible exact Conv.refl | exact Conv.nil | (apply Conv.cons; · first | ((repeat (first | with_reducible exact Take.head | apply Take.tail)); done) | ((repeat (first | exact Take.head | apply Take.tail)); done)) | refine Conv.drop ?_)) s) (by repeat (first | exact PanicOk.body | exact PanicOk.bodyD (by intros; simp [results, Act.put]) | refine PanicOk.then ?_ | refine PanicOk.block ?_ | refine PanicOk.scope ?_)) (by kernel_rfl) ?_
    refine d_qy 40 rfl Q_pickT (fun _ s => Conv.sat (by repeat (first | with_reducible exact Conv.refl | exact Conv.nil | (apply Conv.cons; · first | ((repeat (first | with_reducible exact Take.head | apply Take.tail)); done) | ((repeat (first | exact Take.head | apply Take.tail)); done)) | refine Conv.drop ?_)) s) (by repeat (first | exact PanicOk.body | exact PanicOk.bodyD (by intros; simp [results, Act.put]) | refine PanicOk.then ?_ | refine PanicOk.block ?_ | refine PanicOk.scope ?_)) (by kernel_rfl) ?_
    refine d_qy 41 rfl Q_move (fun _ s => Conv.sat (by repeat (first | with_reducible exact Conv.refl | exact Conv.nil | (apply Conv.cons; · first | ((repeat (first | with_reducible exact Take.head | apply Take.tail)); done) | ((repeat (first | exact Take.head | apply Take.tail)); done)) | refine Conv.drop ?_)) s) (by repeat (first | exact PanicOk.body | exact PanicOk.bodyD (by intros; simp [results, Act.put]) | refine PanicOk.then ?_ | refine PanicOk.block ?_ | refine PanicOk.scope ?_)) (by kernel_rfl) ?_
    refine b_is (t := 93) true rfl (by first | rfl | exact decide_eq_true (by omega) | simp_all) ?_
    refine d_qy 42 rfl Q_move (fun _ s => Conv.sat (by repeat (first | with_reducible exact Conv.refl | exact Conv.nil | (apply Conv.cons; · first | ((repeat (first | with_reducible exact Take.head | apply Take.tail)); done) | ((repeat (first | exact Take.head | apply Take.tail)); done)) | refine Conv.drop ?_)) s) (by repeat (first | exact PanicOk.body | exact PanicOk.bodyD (by intros; simp [results, Act.put]) | refine PanicOk.then ?_ | refine PanicOk.block ?_ | refine PanicOk.scope ?_)) (by kernel_rfl) ?_
    first | refine d_qy 43 rfl (Q_indexl Tryd.underlying26 sz_3) (fun _ s => Conv.sat (by repeat (first | with_reducible exact Conv.refl | exact Conv.nil | (apply Conv.cons; · first | ((repeat (first | with_reducible exact Take.head | apply Take.tail)); done) | ((repeat (first | exact Take.head | apply Take.tail)); done)) | refine Conv.drop ?_)) s) (by repeat (first | exact PanicOk.body | exact PanicOk.bodyD (by intros; simp [results, Act.put]) | refine PanicOk.then ?_ | refine PanicOk.block ?_ | refine PanicOk.scope ?_)) (by kernel_rfl) ?_ | refine d_qy 43 rfl (Q_idxT' Tryd.underlying26 sz_3) (fun _ s => Conv.sat (by repeat (first | with_reducible exact Conv.refl | exact Conv.nil | (apply Conv.cons; · first | ((repeat (first | with_reducible exact Take.head | apply Take.tail)); done) | ((repeat (first | exact Take.head | apply Take.tail)); done)) | refine Conv.drop ?_)) s) (by repeat (first | exact PanicOk.body | exact PanicOk.bodyD (by intros; simp [results, Act.put]) | refine PanicOk.then ?_ | refine PanicOk.block ?_ | refine PanicOk.scope ?_)) (by kernel_rfl) ?_
    first | refine d_qy 44 rfl (Q_load pl_3) (fun _ s => Conv.sat (by repeat (first | with_reducible exact Conv.refl | exact Conv.nil | (apply Conv.cons; · first | ((repeat (first | with_reducible exact Take.head | apply Take.tail)); done) | ((repeat (first | exact Take.head | apply Take.tail)); done)) | refine Conv.drop ?_)) s) (by repeat (first | exact PanicOk.body | exact PanicOk.bodyD (by intros; simp [results, Act.put]) | refine PanicOk.then ?_ | refine PanicOk.block ?_ | refine PanicOk.scope ?_)) (by kernel_rfl) ?_ | refine d_qy 44 rfl (Q_ldT' pl_3) (fun _ s => Conv.sat (by repeat (first | with_reducible exact Conv.refl | exact Conv.nil | (apply Conv.cons; · first | ((repeat (first | with_reducible exact Take.head | apply Take.tail)); done) | ((repeat (first | exact Take.head | apply Take.tail)); done)) | refine Conv.drop ?_)) s) (by repeat (first | exact PanicOk.body | exact PanicOk.bodyD (by intros; simp [results, Act.put]) | refine PanicOk.then ?_ | refine PanicOk.block ?_ | refine PanicOk.scope ?_)) (by kernel_rfl) ?_ | refine d_qy 44 rfl (Q_ldTf' pl_3) (fun _ s => Conv.sat (by repeat (first | with_reducible exact Conv.refl | exact Conv.nil | (apply Conv.cons; · first | ((repeat (first | with_reducible exact Take.head | apply Take.tail)); done) | ((repeat (first | exact Take.head | apply Take.tail)); done)) | refine Conv.drop ?_)) s) (by repeat (first | exact PanicOk.body | exact PanicOk.bodyD (by intros; simp [results, Act.put]) | refine PanicOk.then ?_ | refine PanicOk.block ?_ | refine PanicOk.scope ?_)) (by kernel_rfl) ?_
    refine d_qy 45 rfl (Q_indexa Tryd.underlying22 sz_3) (fun _ s => Conv.sat (by repeat (first | with_reducible exact Conv.refl | exact Conv.nil | (apply Conv.cons; · first | ((repeat (first | with_reducible exact Take.head | apply Take.tail)); done) | ((repeat (first | exact Take.head | apply Take.tail)); done)) | refine Conv.drop ?_)) s) (by repeat (first | exact PanicOk.body | exact PanicOk.bodyD (by intros; simp [results, Act.put]) | refine PanicOk.then ?_ | refine PanicOk.block ?_ | refine PanicOk.scope ?_)) (by kernel_rfl) ?_
    first | refine d_qy 46 rfl (Q_load pl_3) (fun _ s => Conv.sat (by repeat (first | with_reducible exact Conv.refl | exact Conv.nil | (apply Conv.cons; · first | ((repeat (first | with_reducible exact Take.head | apply Take.tail)); done) | ((repeat (first | exact Take.head | apply Take.tail)); done)) | refine Conv.drop ?_)) s) (by repeat (first | exact PanicOk.body | exact PanicOk.bodyD (by intros; simp [results, Act.put]) | refine PanicOk.then ?_ | refine PanicOk.block ?_ | refine PanicOk.scope ?_)) (by kernel_rfl) ?_ | refine d_qy 46 rfl (Q_ldT' pl_3) (fun _ s => Conv.sat (by repeat (first | with_reducible exact Conv.refl | exact Conv.nil | (apply Conv.cons; · first | ((repeat (first | with_reducible exact Take.head | apply Take.tail)); done) | ((repeat (first | exact Take.head | apply Take.tail)); done)) | refine Conv.drop ?_)) s) (by repeat (first | exact PanicOk.body | exact PanicOk.bodyD (by intros; simp [results, Act.put]) | refine PanicOk.then ?_ | refine PanicOk.block ?_ | refine PanicOk.scope ?_)) (by kernel_rfl) ?_ | refine d_qy 46 rfl (Q_ldTf' pl_3) (fun _ s => Conv.sat (by repeat (first | with_reducible exact Conv.refl | exact Conv.nil | (apply Conv.cons; · first | ((repeat (first | with_reducible exact Take.head | apply Take.tail)); done) | ((repeat (first | exact Take.head | apply Take.tail)); done)) | refine Conv.drop ?_)) s) (by repeat (first | exact PanicOk.body | exact PanicOk.bodyD (by intros; simp [results, Act.put]) | refine PanicOk.then ?_ | refine PanicOk.block ?_ | refine PanicOk.scope ?_)) (by kernel_rfl) ?_
    refine d_qy 47 rfl Q_eql (fun _ s => Conv.sat (by repeat (first | with_reducible exact Conv.refl | exact Conv.nil | (apply Conv.cons; · first | ((repeat (first | with_reducible exact Take.head | apply Take.tail)); done) | ((repeat (first | exact Take.head | apply Take.tail)); done)) | refine Conv.drop ?_)) s) (by repeat (first | exact PanicOk.body | exact PanicOk.bodyD (by intros; simp [results, Act.put]) | refine PanicOk.then ?_ | refine PanicOk.block ?_ | refine PanicOk.scope ?_)) (by kernel_rfl) ?_
    refine d_qy 48 rfl Q_pickT (fun _ s => Conv.sat (by repeat (first | with_reducible exact Conv.refl | exact Conv.nil | (apply Conv.cons; · first | ((repeat (first | with_reducible exact Take.head | apply Take.tail)); done) | ((repeat (first | exact Take.head | apply Take.tail)); done)) | refine Conv.drop ?_)) s) (by repeat (first | exact PanicOk.body | exact PanicOk.bodyD (by intros; simp [results, Act.put]) | refine PanicOk.then ?_ | refine PanicOk.block ?_ | refine PanicOk.scope ?_)) (by kernel_rfl) ?_
    refine d_qy 49 rfl Q_pickF (fun _ s => Conv.sat (by repeat (first | with_reducible exact Conv.refl | exact Conv.nil | (apply Conv.cons; · first | ((repeat (first | with_reducible exact Take.head | apply Take.tail)); done) | ((repeat (first | exact Take.head | apply Take.tail)); done)) | refine Conv.drop ?_)) s) (by repeat (first | exact PanicOk.body | exact PanicOk.bodyD (by intros; simp [results, Act.put]) | refine PanicOk.then ?_ | refine PanicOk.block ?_ | refine PanicOk.scope ?_)) (by kernel_rfl) ?_
    refine d_q 50 rfl Q_pickT (fun _ s => Conv.sat (by repeat (first | with_reducible exact Conv.refl | exact Conv.nil | (apply Conv.cons; · first | ((repeat (first | with_reducible exact Take.head | apply Take.tail)); done) | ((repeat (first | exact Take.head | apply Take.tail)); done)) | refine Conv.drop ?_)) s) (by repeat (first | exact PanicOk.body | exact PanicOk.bodyD (by intros; simp [results, Act.put]) | refine PanicOk.then ?_ | refine PanicOk.block ?_ | refine PanicOk.scope ?_)) (by kernel_rfl) ?_
    refine d_l 51 (by kernel_rfl) rfl rfl ?_
    refine l_q Q_assign ?_
    refine d_tail ?_ (by kernel_rfl)
    refine d_nil (by kernel_rfl) ?_
    refine e_then ?_
    refine c_ret ?_
    exact ret1 (v := .bool (decide (c = c))) (fun w s' => by rw [decide_eq_true (show c = c from rfl)]; exact hp () trivial w (Conv.sat (by repeat (first | with_reducible exact Conv.refl | exact Conv.nil | (apply Conv.cons; · first | ((repeat (first | with_reducible exact Take.head | apply Take.tail)); done) | ((repeat (first | exact Take.head | apply Take.tail)); done)) | refine Conv.drop ?_)) s'))
theorem sz_lit (a : Array UInt8) : (ByteArray.mk a).size = a.size := rfl
theorem h_eq {b : B} {j : Nat} (hj : j < 4) : bs (rowT [104] j 0 0 0) = ⟨#[104, 32]⟩ ++ bs b ++ ⟨#[32, 48, 32, 48, 32, 48]⟩ ↔ sname j = b := by
  rw [← row_h hj]
  have e : (⟨#[104, 32]⟩ : ByteArray) ++ bs b ++ ⟨#[32, 48, 32, 48, 32, 48]⟩ = bs ([104, 32] ++ b ++ [32, 48, 32, 48, 32, 48]) := by
    rw [← bs_app, ← bs_app]; rfl
  rw [e]
  exact ⟨fun h => bs_inj h, fun h => by rw [h]⟩

theorem w_parts {gh : World} (s : B)  : Ct Tryd.prog 4 #[.string (bs s)] (fun F => G gh :: F) (fun _ : Unit => True) (fun _ => .bool true) (fun _ F => G gh :: F) := by
  refine Ct.of (args := [.string (bs s)]) Tryd.func4 rfl Tryd.ntmps4 (Nat.le_of_ble_eq_true rfl) ?_
  intro F K hp
  have hcut := cut_take s 100 100 rfl
  obtain ⟨r, hr⟩ : ∃ r, r = s.take 100 := ⟨_, rfl⟩
  rw [← hr] at hcut
  have hrl : r.length ≤ 100 := by rw [hr]; simp; omega
  have hbl := Nat.le_trans (pb_len r) hrl
  have hrl' : r.length ≤ 4000000000 := Nat.le_trans hrl (by decide)
  refine c_seq ?_
  refine reg ?_
  refine r_q Q_assign ?_
  refine r_nil ?_
  refine e_then ?_
  refine c_seq ?_
  refine c_seq ?_
  refine reg ?_
  refine r_l (l_call cf_5 rfl (m_lives) ?_)
  intro _ _
  refine r_q Q_not ?_
  refine r_nil ?_
  refine e_then ?_
  refine c_false ?_ (by first | rfl | exact congrArg (fun b => some (Value.bool b)) (by first | exact decide_eq_false (by omega) | simp_all))
  refine c_skip ?_
  refine e_then ?_
  refine c_seq ?_
  refine reg ?_
  refine r_q Q_move ?_
  refine r_q Q_move ?_
  refine r_q (Q_lens Tryd.underlying9) ?_
  refine r_q Q_min ?_
  refine r_q (Q_slices0 Tryd.underlying9) ?_
  refine r_q Q_assign ?_
  refine r_nil ?_
  refine e_then ?_
  refine c_seq ?_
  rw [hcut]
  refine reg ?_
  refine r_q Q_move ?_
  refine r_l (l_call cf_8 rfl (m_parts r hrl') ?_)
  rintro ⟨xa, xc⟩ _
  dsimp only
  refine r_q Q_move ?_
  refine r_q Q_extract ?_
  refine r_q Q_extract ?_
  refine r_q Q_extract ?_
  refine r_q Q_extract ?_
  refine r_q Q_assign ?_
  refine r_q Q_assign ?_
  refine r_q Q_assign ?_
  refine r_q Q_assign ?_
  refine r_nil ?_
  refine e_then ?_
  refine c_seq ?_
  refine reg ?_
  refine r_q Q_move ?_
  refine r_l (l_call cf_9 rfl (f_parts r hrl') ?_)
  rintro ⟨ya, yc⟩ _
  dsimp only
  refine r_q Q_move ?_
  refine r_q Q_extract ?_
  refine r_q Q_extract ?_
  refine r_q Q_extract ?_
  refine r_q Q_extract ?_
  refine r_q Q_assign ?_
  refine r_q Q_assign ?_
  refine r_q Q_assign ?_
  refine r_q Q_assign ?_
  refine r_nil ?_
  refine e_then ?_
  refine c_seq ?_
  refine c_seq ?_
  refine reg ?_
  refine r_q Q_move ?_
  refine r_q Q_move ?_
  refine r_q Q_neqs ?_
  refine r_q Q_move ?_
  refine b_is (t := 37) false rfl (by first | rfl | exact decide_eq_false (by omega) | simp_all) ?_
  refine r_yq Q_move ?_
  refine r_yq Q_move ?_
  refine r_yq Q_neqs ?_
  refine r_q Q_pickF ?_
  refine r_q Q_move ?_
  refine b_is (t := 42) false rfl (by first | rfl | exact decide_eq_false (by omega) | simp_all) ?_
  refine r_yq Q_move ?_
  refine r_yq Q_move ?_
  refine r_yes (l_call cf_10 rfl (f_same xa ya xc yc xc yc (pl r) (pl r) (Nat.le_trans (pl_len r) (by decide))) ?_)
  intro _ _
  refine r_yq Q_not ?_
  refine r_q Q_pickF ?_
  refine r_q Q_move ?_
  refine b_is (t := 48) false rfl (by first | rfl | exact decide_eq_false (by omega) | simp_all) ?_
  refine r_yq Q_move ?_
  refine r_yq Q_move ?_
  refine r_yq (Q_neb Tryd.underlying4) ?_
  refine r_q Q_pickF ?_
  refine r_nil ?_
  refine e_then ?_
  refine c_false ?_ (by first | rfl | exact congrArg (fun b => some (Value.bool b)) (by first | exact decide_eq_false (by omega) | simp_all))
  refine c_skip ?_
  refine e_then ?_
  refine c_seq ?_
  refine reg ?_
  refine r_q Q_assign ?_
  refine r_nil ?_
  refine e_then ?_
  refine c_seq ?_
  refine c_seq ?_
  refine reg ?_
  refine r_q Q_assign ?_
  refine r_nil ?_
  refine e_then ?_
  refine c_block ?_
  refine c_loop (α := Nat × Int) (fun u => u.1 ≤ 4 ∧ KV (pb r) u.1 u.2) (fun u => [(0, .string (bs r)), (3, .string (bs (pa r))), (4, .string (bs (pb r))), (5, .slice xa (pl r).length xc), (6, .bool (parts r).isSome), (2, .bool false), (11, .int .i64 u.2), (12, .int .i64 (u.1 : Nat))]) (fun _ => SlT eI xa xc (pl r) :: G gh :: F) (fun u => 4 - u.1) (0, -1) ⟨Nat.zero_le _, .inl ⟨rfl, fun j hj => absurd hj (Nat.not_lt_zero j)⟩⟩ ⟨rfl, rfl, rfl, rfl, rfl, rfl, rfl, rfl, trivial⟩ (fun _ s => Conv.sat (by repeat (first | with_reducible exact Conv.refl | exact Conv.nil | (apply Conv.cons; · first | ((repeat (first | with_reducible exact Take.head | apply Take.tail)); done) | ((repeat (first | exact Take.head | apply Take.tail)); done)) | refine Conv.drop ?_)) s) ?_
  rintro ⟨k, kv⟩ ⟨hk, hkv⟩
  dsimp only at hk hkv ⊢
  refine c_seq ?_
  refine c_seq ?_
  refine reg ?_
  refine r_q Q_move ?_
  refine r_q Q_lss ?_
  refine r_nil ?_
  refine e_then ?_
  first | refine c_dec rfl (fun hc1 => ?_) (fun hc1 => ?_) | refine c_ndec rfl (fun hc1 => ?_) (fun hc1 => ?_) | refine c_cond rfl (fun hc1 => ?_) (fun hc1 => ?_)
  · refine c_skip ?_
    refine e_then ?_
    refine c_seq ?_
    refine c_block ?_
    refine c_seq ?_
    refine reg ?_
    refine r_q Q_move ?_
    refine r_q (Q_build (bd_22_0_1_2 _ _ _)) ?_
    refine r_l (l_call cf_7 rfl (f_row [104] k 0 0 0 (by decide) (by decide) (by decide) (by decide)) ?_)
    intro _ _
    refine r_q Q_move ?_
    refine r_q (Q_adds (hs := by first | omega | (simp only [ByteArray.size_append, bs_size, sz_lit, List.size_toArray, List.length_cons, List.length_nil]; omega))) ?_
    refine r_q (Q_adds (hs := by first | omega | (simp only [ByteArray.size_append, bs_size, sz_lit, List.size_toArray, List.length_cons, List.length_nil]; omega))) ?_
    refine r_q Q_eqls ?_
    refine r_nil ?_
    refine e_then ?_
    first | refine c_dec rfl (fun hc2 => ?_) (fun hc2 => ?_) | refine c_ndec rfl (fun hc2 => ?_) (fun hc2 => ?_) | refine c_cond rfl (fun hc2 => ?_) (fun hc2 => ?_)
    · refine reg ?_
      refine r_q Q_move ?_
      refine r_q Q_assign ?_
      refine r_nil ?_
      refine e_blockn ?_
      refine e_then ?_
      refine reg ?_
      refine r_q Q_move ?_
      refine r_q Q_addn ?_
      refine r_q Q_assign ?_
      refine r_nil ?_
      refine e_then ?_
      exact c_back (k + 1, (k : Int)) ⟨by dsimp only; omega, hkv.yes ((h_eq (by omega)).1 (by assumption))⟩ (by dsimp only; omega) ⟨rfl, rfl, rfl, rfl, rfl, rfl, rfl, rfl, trivial⟩ (fun _ s => Conv.sat (by repeat (first | with_reducible exact Conv.refl | exact Conv.nil | (apply Conv.cons; · first | ((repeat (first | with_reducible exact Take.head | apply Take.tail)); done) | ((repeat (first | exact Take.head | apply Take.tail)); done)) | refine Conv.drop ?_)) s)
    · refine c_skip ?_
      refine e_blockn ?_
      refine e_then ?_
      refine reg ?_
      refine r_q Q_move ?_
      refine r_q Q_addn ?_
      refine r_q Q_assign ?_
      refine r_nil ?_
      refine e_then ?_
      exact c_back (k + 1, kv) ⟨by dsimp only; omega, hkv.no (fun e => absurd ((h_eq (by omega)).2 e) (by assumption))⟩ (by dsimp only; omega) ⟨rfl, rfl, rfl, rfl, rfl, rfl, rfl, rfl, trivial⟩ (fun _ s => Conv.sat (by repeat (first | with_reducible exact Conv.refl | exact Conv.nil | (apply Conv.cons; · first | ((repeat (first | with_reducible exact Take.head | apply Take.tail)); done) | ((repeat (first | exact Take.head | apply Take.tail)); done)) | refine Conv.drop ?_)) s)
  · refine c_exit ?_
    refine e_thenx ?_
    refine e_thenx ?_
    refine e_block ?_
    refine e_then ?_
    refine c_seq ?_
    refine dreg (N := 19) [SlT eI xa xc (pl r)] 18 ?_ mixed rfl
    refine d_q 0 rfl Q_move (fun _ s => Conv.sat (by repeat (first | with_reducible exact Conv.refl | exact Conv.nil | (apply Conv.cons; · first | ((repeat (first | with_reducible exact Take.head | apply Take.tail)); done) | ((repeat (first | exact Take.head | apply Take.tail)); done)) | refine Conv.drop ?_)) s) (by repeat (first | exact PanicOk.body | exact PanicOk.bodyD (by intros; simp [results, Act.put]) | refine PanicOk.then ?_ | refine PanicOk.block ?_ | refine PanicOk.scope ?_)) (by kernel_rfl) ?_
    refine d_q 1 rfl Q_not (fun _ s => Conv.sat (by repeat (first | with_reducible exact Conv.refl | exact Conv.nil | (apply Conv.cons; · first | ((repeat (first | with_reducible exact Take.head | apply Take.tail)); done) | ((repeat (first | exact Take.head | apply Take.tail)); done)) | refine Conv.drop ?_)) s) (by repeat (first | exact PanicOk.body | exact PanicOk.bodyD (by intros; simp [results, Act.put]) | refine PanicOk.then ?_ | refine PanicOk.block ?_ | refine PanicOk.scope ?_)) (by kernel_rfl) ?_
    refine d_q 2 rfl Q_move (fun _ s => Conv.sat (by repeat (first | with_reducible exact Conv.refl | exact Conv.nil | (apply Conv.cons; · first | ((repeat (first | with_reducible exact Take.head | apply Take.tail)); done) | ((repeat (first | exact Take.head | apply Take.tail)); done)) | refine Conv.drop ?_)) s) (by repeat (first | exact PanicOk.body | exact PanicOk.bodyD (by intros; simp [results, Act.put]) | refine PanicOk.then ?_ | refine PanicOk.block ?_ | refine PanicOk.scope ?_)) (by kernel_rfl) ?_
    first | refine b_dec (t := 67) rfl (fun hc3 => ?_) (fun hc3 => ?_) | refine b_ndec (t := 67) rfl (fun hc3 => ?_) (fun hc3 => ?_) | refine b_bool (t := 67) rfl (fun hc3 => ?_) (fun hc3 => ?_)
    · refine d_qn 3 rfl (fun _ s => Conv.sat (by repeat (first | with_reducible exact Conv.refl | exact Conv.nil | (apply Conv.cons; · first | ((repeat (first | with_reducible exact Take.head | apply Take.tail)); done) | ((repeat (first | exact Take.head | apply Take.tail)); done)) | refine Conv.drop ?_)) s) (by repeat (first | exact PanicOk.body | exact PanicOk.bodyD (by intros; simp [results, Act.put]) | refine PanicOk.then ?_ | refine PanicOk.block ?_ | refine PanicOk.scope ?_)) (by kernel_rfl) ?_
      refine d_qn 4 rfl (fun _ s => Conv.sat (by repeat (first | with_reducible exact Conv.refl | exact Conv.nil | (apply Conv.cons; · first | ((repeat (first | with_reducible exact Take.head | apply Take.tail)); done) | ((repeat (first | exact Take.head | apply Take.tail)); done)) | refine Conv.drop ?_)) s) (by repeat (first | exact PanicOk.body | exact PanicOk.bodyD (by intros; simp [results, Act.put]) | refine PanicOk.then ?_ | refine PanicOk.block ?_ | refine PanicOk.scope ?_)) (by kernel_rfl) ?_
      refine d_qn 5 rfl (fun _ s => Conv.sat (by repeat (first | with_reducible exact Conv.refl | exact Conv.nil | (apply Conv.cons; · first | ((repeat (first | with_reducible exact Take.head | apply Take.tail)); done) | ((repeat (first | exact Take.head | apply Take.tail)); done)) | refine Conv.drop ?_)) s) (by repeat (first | exact PanicOk.body | exact PanicOk.bodyD (by intros; simp [results, Act.put]) | refine PanicOk.then ?_ | refine PanicOk.block ?_ | refine PanicOk.scope ?_)) (by kernel_rfl) ?_
      refine d_qn 6 rfl (fun _ s => Conv.sat (by repeat (first | with_reducible exact Conv.refl | exact Conv.nil | (apply Conv.cons; · first | ((repeat (first | with_reducible exact Take.head | apply Take.tail)); done) | ((repeat (first | exact Take.head | apply Take.tail)); done)) | refine Conv.drop ?_)) s) (by repeat (first | exact PanicOk.body | exact PanicOk.bodyD (by intros; simp [results, Act.put]) | refine PanicOk.then ?_ | refine PanicOk.block ?_ | refine PanicOk.scope ?_)) (by kernel_rfl) ?_
      refine d_qn 7 rfl (fun _ s => Conv.sat (by repeat (first | with_reducible exact Conv.refl | exact Conv.nil | (apply Conv.cons; · first | ((repeat (first | with_reducible exact Take.head | apply Take.tail)); done) | ((repeat (first | exact Take.head | apply Take.tail)); done)) | refine Conv.drop ?_)) s) (by repeat (first | exact PanicOk.body | exact PanicOk.bodyD (by intros; simp [results, Act.put]) | refine PanicOk.then ?_ | refine PanicOk.block ?_ | refine PanicOk.scope ?_)) (by kernel_rfl) ?_
      refine d_qn 8 rfl (fun _ s => Conv.sat (by repeat (first | with_reducible exact Conv.refl | exact Conv.nil | (apply Conv.cons; · first | ((repeat (first | with_reducible exact Take.head | apply Take.tail)); done) | ((repeat (first | exact Take.head | apply Take.tail)); done)) | refine Conv.drop ?_)) s) (by repeat (first | exact PanicOk.body | exact PanicOk.bodyD (by intros; simp [results, Act.put]) | refine PanicOk.then ?_ | refine PanicOk.block ?_ | refine PanicOk.scope ?_)) (by kernel_rfl) ?_
      refine d_qn 9 rfl (fun _ s => Conv.sat (by repeat (first | with_reducible exact Conv.refl | exact Conv.nil | (apply Conv.cons; · first | ((repeat (first | with_reducible exact Take.head | apply Take.tail)); done) | ((repeat (first | exact Take.head | apply Take.tail)); done)) | refine Conv.drop ?_)) s) (by repeat (first | exact PanicOk.body | exact PanicOk.bodyD (by intros; simp [results, Act.put]) | refine PanicOk.then ?_ | refine PanicOk.block ?_ | refine PanicOk.scope ?_)) (by kernel_rfl) ?_
      refine d_qn 10 rfl (fun _ s => Conv.sat (by repeat (first | with_reducible exact Conv.refl | exact Conv.nil | (apply Conv.cons; · first | ((repeat (first | with_reducible exact Take.head | apply Take.tail)); done) | ((repeat (first | exact Take.head | apply Take.tail)); done)) | refine Conv.drop ?_)) s) (by repeat (first | exact PanicOk.body | exact PanicOk.bodyD (by intros; simp [results, Act.put]) | refine PanicOk.then ?_ | refine PanicOk.block ?_ | refine PanicOk.scope ?_)) (by kernel_rfl) ?_
      refine d_qn 11 rfl (fun _ s => Conv.sat (by repeat (first | with_reducible exact Conv.refl | exact Conv.nil | (apply Conv.cons; · first | ((repeat (first | with_reducible exact Take.head | apply Take.tail)); done) | ((repeat (first | exact Take.head | apply Take.tail)); done)) | refine Conv.drop ?_)) s) (by repeat (first | exact PanicOk.body | exact PanicOk.bodyD (by intros; simp [results, Act.put]) | refine PanicOk.then ?_ | refine PanicOk.block ?_ | refine PanicOk.scope ?_)) (by kernel_rfl) ?_
      refine d_qn 12 rfl (fun _ s => Conv.sat (by repeat (first | with_reducible exact Conv.refl | exact Conv.nil | (apply Conv.cons; · first | ((repeat (first | with_reducible exact Take.head | apply Take.tail)); done) | ((repeat (first | exact Take.head | apply Take.tail)); done)) | refine Conv.drop ?_)) s) (by repeat (first | exact PanicOk.body | exact PanicOk.bodyD (by intros; simp [results, Act.put]) | refine PanicOk.then ?_ | refine PanicOk.block ?_ | refine PanicOk.scope ?_)) (by kernel_rfl) ?_
      refine d_qn 13 rfl (fun _ s => Conv.sat (by repeat (first | with_reducible exact Conv.refl | exact Conv.nil | (apply Conv.cons; · first | ((repeat (first | with_reducible exact Take.head | apply Take.tail)); done) | ((repeat (first | exact Take.head | apply Take.tail)); done)) | refine Conv.drop ?_)) s) (by repeat (first | exact PanicOk.body | exact PanicOk.bodyD (by intros; simp [results, Act.put]) | refine PanicOk.then ?_ | refine PanicOk.block ?_ | refine PanicOk.scope ?_)) (by kernel_rfl) ?_
      refine d_qn 14 rfl (fun _ s => Conv.sat (by repeat (first | with_reducible exact Conv.refl | exact Conv.nil | (apply Conv.cons; · first | ((repeat (first | with_reducible exact Take.head | apply Take.tail)); done) | ((repeat (first | exact Take.head | apply Take.tail)); done)) | refine Conv.drop ?_)) s) (by repeat (first | exact PanicOk.body | exact PanicOk.bodyD (by intros; simp [results, Act.put]) | refine PanicOk.then ?_ | refine PanicOk.block ?_ | refine PanicOk.scope ?_)) (by kernel_rfl) ?_
      refine d_qn 15 rfl (fun _ s => Conv.sat (by repeat (first | with_reducible exact Conv.refl | exact Conv.nil | (apply Conv.cons; · first | ((repeat (first | with_reducible exact Take.head | apply Take.tail)); done) | ((repeat (first | exact Take.head | apply Take.tail)); done)) | refine Conv.drop ?_)) s) (by repeat (first | exact PanicOk.body | exact PanicOk.bodyD (by intros; simp [results, Act.put]) | refine PanicOk.then ?_ | refine PanicOk.block ?_ | refine PanicOk.scope ?_)) (by kernel_rfl) ?_
      refine d_qn 16 rfl (fun _ s => Conv.sat (by repeat (first | with_reducible exact Conv.refl | exact Conv.nil | (apply Conv.cons; · first | ((repeat (first | with_reducible exact Take.head | apply Take.tail)); done) | ((repeat (first | exact Take.head | apply Take.tail)); done)) | refine Conv.drop ?_)) s) (by repeat (first | exact PanicOk.body | exact PanicOk.bodyD (by intros; simp [results, Act.put]) | refine PanicOk.then ?_ | refine PanicOk.block ?_ | refine PanicOk.scope ?_)) (by kernel_rfl) ?_
      refine d_q 17 rfl Q_pickT (fun _ s => Conv.sat (by repeat (first | with_reducible exact Conv.refl | exact Conv.nil | (apply Conv.cons; · first | ((repeat (first | with_reducible exact Take.head | apply Take.tail)); done) | ((repeat (first | exact Take.head | apply Take.tail)); done)) | refine Conv.drop ?_)) s) (by repeat (first | exact PanicOk.body | exact PanicOk.bodyD (by intros; simp [results, Act.put]) | refine PanicOk.then ?_ | refine PanicOk.block ?_ | refine PanicOk.scope ?_)) (by kernel_rfl) ?_
      refine d_l 18 (by kernel_rfl) rfl rfl ?_
      refine l_q Q_assign ?_
      refine d_tail ?_ (by kernel_rfl)
      refine d_nil (by kernel_rfl) ?_
      refine e_then ?_
      refine c_ret ?_
      exact ret1 (fun w s => hp () trivial w (Conv.sat (by repeat (first | with_reducible exact Conv.refl | exact Conv.nil | (apply Conv.cons; · first | ((repeat (first | with_reducible exact Take.head | apply Take.tail)); done) | ((repeat (first | exact Take.head | apply Take.tail)); done)) | refine Conv.drop ?_)) s))
    · obtain ⟨pi, pj, pk, hpl, hna, hst, hbi, hbj, hbk, hsr⟩ := parts_is (s := r) (by have := (by assumption : (!(parts r).isSome) = false); simpa using this)
      have hl3 : (pl r).length = 3 := by rw [hpl]; rfl
      have hl0 : (pl r)[0]? = some pi := by rw [hpl]; rfl
      have hl1 : (pl r)[1]? = some pj := by rw [hpl]; rfl
      have hl2 : (pl r)[2]? = some pk := by rw [hpl]; rfl
      refine d_qy 3 rfl Q_move (fun _ s => Conv.sat (by repeat (first | with_reducible exact Conv.refl | exact Conv.nil | (apply Conv.cons; · first | ((repeat (first | with_reducible exact Take.head | apply Take.tail)); done) | ((repeat (first | exact Take.head | apply Take.tail)); done)) | refine Conv.drop ?_)) s) (by repeat (first | exact PanicOk.body | exact PanicOk.bodyD (by intros; simp [results, Act.put]) | refine PanicOk.then ?_ | refine PanicOk.block ?_ | refine PanicOk.scope ?_)) (by kernel_rfl) ?_
      refine d_qy 4 rfl Q_move (fun _ s => Conv.sat (by repeat (first | with_reducible exact Conv.refl | exact Conv.nil | (apply Conv.cons; · first | ((repeat (first | with_reducible exact Take.head | apply Take.tail)); done) | ((repeat (first | exact Take.head | apply Take.tail)); done)) | refine Conv.drop ?_)) s) (by repeat (first | exact PanicOk.body | exact PanicOk.bodyD (by intros; simp [results, Act.put]) | refine PanicOk.then ?_ | refine PanicOk.block ?_ | refine PanicOk.scope ?_)) (by kernel_rfl) ?_
      refine d_qy 5 rfl Q_move (fun _ s => Conv.sat (by repeat (first | with_reducible exact Conv.refl | exact Conv.nil | (apply Conv.cons; · first | ((repeat (first | with_reducible exact Take.head | apply Take.tail)); done) | ((repeat (first | exact Take.head | apply Take.tail)); done)) | refine Conv.drop ?_)) s) (by repeat (first | exact PanicOk.body | exact PanicOk.bodyD (by intros; simp [results, Act.put]) | refine PanicOk.then ?_ | refine PanicOk.block ?_ | refine PanicOk.scope ?_)) (by kernel_rfl) ?_
      first | refine d_qy 6 rfl (Q_indexl Tryd.underlying26 sz_3) (fun _ s => Conv.sat (by repeat (first | with_reducible exact Conv.refl | exact Conv.nil | (apply Conv.cons; · first | ((repeat (first | with_reducible exact Take.head | apply Take.tail)); done) | ((repeat (first | exact Take.head | apply Take.tail)); done)) | refine Conv.drop ?_)) s) (by repeat (first | exact PanicOk.body | exact PanicOk.bodyD (by intros; simp [results, Act.put]) | refine PanicOk.then ?_ | refine PanicOk.block ?_ | refine PanicOk.scope ?_)) (by kernel_rfl) ?_ | refine d_qy 6 rfl (Q_idxT' Tryd.underlying26 sz_3) (fun _ s => Conv.sat (by repeat (first | with_reducible exact Conv.refl | exact Conv.nil | (apply Conv.cons; · first | ((repeat (first | with_reducible exact Take.head | apply Take.tail)); done) | ((repeat (first | exact Take.head | apply Take.tail)); done)) | refine Conv.drop ?_)) s) (by repeat (first | exact PanicOk.body | exact PanicOk.bodyD (by intros; simp [results, Act.put]) | refine PanicOk.then ?_ | refine PanicOk.block ?_ | refine PanicOk.scope ?_)) (by kernel_rfl) ?_
      first | refine d_qy 7 rfl (Q_load pl_3) (fun _ s => Conv.sat (by repeat (first | with_reducible exact Conv.refl | exact Conv.nil | (apply Conv.cons; · first | ((repeat (first | with_reducible exact Take.head | apply Take.tail)); done) | ((repeat (first | exact Take.head | apply Take.tail)); done)) | refine Conv.drop ?_)) s) (by repeat (first | exact PanicOk.body | exact PanicOk.bodyD (by intros; simp [results, Act.put]) | refine PanicOk.then ?_ | refine PanicOk.block ?_ | refine PanicOk.scope ?_)) (by kernel_rfl) ?_ | refine d_qy 7 rfl (Q_ldT' pl_3) (fun _ s => Conv.sat (by repeat (first | with_reducible exact Conv.refl | exact Conv.nil | (apply Conv.cons; · first | ((repeat (first | with_reducible exact Take.head | apply Take.tail)); done) | ((repeat (first | exact Take.head | apply Take.tail)); done)) | refine Conv.drop ?_)) s) (by repeat (first | exact PanicOk.body | exact PanicOk.bodyD (by intros; simp [results, Act.put]) | refine PanicOk.then ?_ | refine PanicOk.block ?_ | refine PanicOk.scope ?_)) (by kernel_rfl) ?_ | refine d_qy 7 rfl (Q_ldTf' pl_3) (fun _ s => Conv.sat (by repeat (first | with_reducible exact Conv.refl | exact Conv.nil | (apply Conv.cons; · first | ((repeat (first | with_reducible exact Take.head | apply Take.tail)); done) | ((repeat (first | exact Take.head | apply Take.tail)); done)) | refine Conv.drop ?_)) s) (by repeat (first | exact PanicOk.body | exact PanicOk.bodyD (by intros; simp [results, Act.put]) | refine PanicOk.then ?_ | refine PanicOk.block ?_ | refine PanicOk.scope ?_)) (by kernel_rfl) ?_
      refine d_qy 8 rfl Q_move (fun _ s => Conv.sat (by repeat (first | with_reducible exact Conv.refl | exact Conv.nil | (apply Conv.cons; · first | ((repeat (first | with_reducible exact Take.head | apply Take.tail)); done) | ((repeat (first | exact Take.head | apply Take.tail)); done)) | refine Conv.drop ?_)) s) (by repeat (first | exact PanicOk.body | exact PanicOk.bodyD (by intros; simp [results, Act.put]) | refine PanicOk.then ?_ | refine PanicOk.block ?_ | refine PanicOk.scope ?_)) (by kernel_rfl) ?_
      first | refine d_qy 9 rfl (Q_indexl Tryd.underlying26 sz_3) (fun _ s => Conv.sat (by repeat (first | with_reducible exact Conv.refl | exact Conv.nil | (apply Conv.cons; · first | ((repeat (first | with_reducible exact Take.head | apply Take.tail)); done) | ((repeat (first | exact Take.head | apply Take.tail)); done)) | refine Conv.drop ?_)) s) (by repeat (first | exact PanicOk.body | exact PanicOk.bodyD (by intros; simp [results, Act.put]) | refine PanicOk.then ?_ | refine PanicOk.block ?_ | refine PanicOk.scope ?_)) (by kernel_rfl) ?_ | refine d_qy 9 rfl (Q_idxT' Tryd.underlying26 sz_3) (fun _ s => Conv.sat (by repeat (first | with_reducible exact Conv.refl | exact Conv.nil | (apply Conv.cons; · first | ((repeat (first | with_reducible exact Take.head | apply Take.tail)); done) | ((repeat (first | exact Take.head | apply Take.tail)); done)) | refine Conv.drop ?_)) s) (by repeat (first | exact PanicOk.body | exact PanicOk.bodyD (by intros; simp [results, Act.put]) | refine PanicOk.then ?_ | refine PanicOk.block ?_ | refine PanicOk.scope ?_)) (by kernel_rfl) ?_
      first | refine d_qy 10 rfl (Q_load pl_3) (fun _ s => Conv.sat (by repeat (first | with_reducible exact Conv.refl | exact Conv.nil | (apply Conv.cons; · first | ((repeat (first | with_reducible exact Take.head | apply Take.tail)); done) | ((repeat (first | exact Take.head | apply Take.tail)); done)) | refine Conv.drop ?_)) s) (by repeat (first | exact PanicOk.body | exact PanicOk.bodyD (by intros; simp [results, Act.put]) | refine PanicOk.then ?_ | refine PanicOk.block ?_ | refine PanicOk.scope ?_)) (by kernel_rfl) ?_ | refine d_qy 10 rfl (Q_ldT' pl_3) (fun _ s => Conv.sat (by repeat (first | with_reducible exact Conv.refl | exact Conv.nil | (apply Conv.cons; · first | ((repeat (first | with_reducible exact Take.head | apply Take.tail)); done) | ((repeat (first | exact Take.head | apply Take.tail)); done)) | refine Conv.drop ?_)) s) (by repeat (first | exact PanicOk.body | exact PanicOk.bodyD (by intros; simp [results, Act.put]) | refine PanicOk.then ?_ | refine PanicOk.block ?_ | refine PanicOk.scope ?_)) (by kernel_rfl) ?_ | refine d_qy 10 rfl (Q_ldTf' pl_3) (fun _ s => Conv.sat (by repeat (first | with_reducible exact Conv.refl | exact Conv.nil | (apply Conv.cons; · first | ((repeat (first | with_reducible exact Take.head | apply Take.tail)); done) | ((repeat (first | exact Take.head | apply Take.tail)); done)) | refine Conv.drop ?_)) s) (by repeat (first | exact PanicOk.body | exact PanicOk.bodyD (by intros; simp [results, Act.put]) | refine PanicOk.then ?_ | refine PanicOk.block ?_ | refine PanicOk.scope ?_)) (by kernel_rfl) ?_
      refine d_qy 11 rfl Q_move (fun _ s => Conv.sat (by repeat (first | with_reducible exact Conv.refl | exact Conv.nil | (apply Conv.cons; · first | ((repeat (first | with_reducible exact Take.head | apply Take.tail)); done) | ((repeat (first | exact Take.head | apply Take.tail)); done)) | refine Conv.drop ?_)) s) (by repeat (first | exact PanicOk.body | exact PanicOk.bodyD (by intros; simp [results, Act.put]) | refine PanicOk.then ?_ | refine PanicOk.block ?_ | refine PanicOk.scope ?_)) (by kernel_rfl) ?_
      first | refine d_qy 12 rfl (Q_indexl Tryd.underlying26 sz_3) (fun _ s => Conv.sat (by repeat (first | with_reducible exact Conv.refl | exact Conv.nil | (apply Conv.cons; · first | ((repeat (first | with_reducible exact Take.head | apply Take.tail)); done) | ((repeat (first | exact Take.head | apply Take.tail)); done)) | refine Conv.drop ?_)) s) (by repeat (first | exact PanicOk.body | exact PanicOk.bodyD (by intros; simp [results, Act.put]) | refine PanicOk.then ?_ | refine PanicOk.block ?_ | refine PanicOk.scope ?_)) (by kernel_rfl) ?_ | refine d_qy 12 rfl (Q_idxT' Tryd.underlying26 sz_3) (fun _ s => Conv.sat (by repeat (first | with_reducible exact Conv.refl | exact Conv.nil | (apply Conv.cons; · first | ((repeat (first | with_reducible exact Take.head | apply Take.tail)); done) | ((repeat (first | exact Take.head | apply Take.tail)); done)) | refine Conv.drop ?_)) s) (by repeat (first | exact PanicOk.body | exact PanicOk.bodyD (by intros; simp [results, Act.put]) | refine PanicOk.then ?_ | refine PanicOk.block ?_ | refine PanicOk.scope ?_)) (by kernel_rfl) ?_
      first | refine d_qy 13 rfl (Q_load pl_3) (fun _ s => Conv.sat (by repeat (first | with_reducible exact Conv.refl | exact Conv.nil | (apply Conv.cons; · first | ((repeat (first | with_reducible exact Take.head | apply Take.tail)); done) | ((repeat (first | exact Take.head | apply Take.tail)); done)) | refine Conv.drop ?_)) s) (by repeat (first | exact PanicOk.body | exact PanicOk.bodyD (by intros; simp [results, Act.put]) | refine PanicOk.then ?_ | refine PanicOk.block ?_ | refine PanicOk.scope ?_)) (by kernel_rfl) ?_ | refine d_qy 13 rfl (Q_ldT' pl_3) (fun _ s => Conv.sat (by repeat (first | with_reducible exact Conv.refl | exact Conv.nil | (apply Conv.cons; · first | ((repeat (first | with_reducible exact Take.head | apply Take.tail)); done) | ((repeat (first | exact Take.head | apply Take.tail)); done)) | refine Conv.drop ?_)) s) (by repeat (first | exact PanicOk.body | exact PanicOk.bodyD (by intros; simp [results, Act.put]) | refine PanicOk.then ?_ | refine PanicOk.block ?_ | refine PanicOk.scope ?_)) (by kernel_rfl) ?_ | refine d_qy 13 rfl (Q_ldTf' pl_3) (fun _ s => Conv.sat (by repeat (first | with_reducible exact Conv.refl | exact Conv.nil | (apply Conv.cons; · first | ((repeat (first | with_reducible exact Take.head | apply Take.tail)); done) | ((repeat (first | exact Take.head | apply Take.tail)); done)) | refine Conv.drop ?_)) s) (by repeat (first | exact PanicOk.body | exact PanicOk.bodyD (by intros; simp [results, Act.put]) | refine PanicOk.then ?_ | refine PanicOk.block ?_ | refine PanicOk.scope ?_)) (by kernel_rfl) ?_
      refine d_qy 15 rfl Q_move (fun _ s => Conv.sat (by repeat (first | with_reducible exact Conv.refl | exact Conv.nil | (apply Conv.cons; · first | ((repeat (first | with_reducible exact Take.head | apply Take.tail)); done) | ((repeat (first | exact Take.head | apply Take.tail)); done)) | refine Conv.drop ?_)) s) (by repeat (first | exact PanicOk.body | exact PanicOk.bodyD (by intros; simp [results, Act.put]) | refine PanicOk.then ?_ | refine PanicOk.block ?_ | refine PanicOk.scope ?_)) (by kernel_rfl) ?_
      refine d_ly 14 (by kernel_rfl) rfl ?_
      refine (l_call cf_6 rfl (m_row (pa r) kv pi pj pk (Nat.le_trans hna.2.1 (by decide)) hbi hbj hbk) ?_)
      intro _ _
      refine d_head (fun _ s => Conv.sat (by repeat (first | with_reducible exact Conv.refl | exact Conv.nil | (apply Conv.cons; · first | ((repeat (first | with_reducible exact Take.head | apply Take.tail)); done) | ((repeat (first | exact Take.head | apply Take.tail)); done)) | refine Conv.drop ?_)) s) ?_
      refine d_qy 16 rfl Q_eqls (fun _ s => Conv.sat (by repeat (first | with_reducible exact Conv.refl | exact Conv.nil | (apply Conv.cons; · first | ((repeat (first | with_reducible exact Take.head | apply Take.tail)); done) | ((repeat (first | exact Take.head | apply Take.tail)); done)) | refine Conv.drop ?_)) s) (by repeat (first | exact PanicOk.body | exact PanicOk.bodyD (by intros; simp [results, Act.put]) | refine PanicOk.then ?_ | refine PanicOk.block ?_ | refine PanicOk.scope ?_)) (by kernel_rfl) ?_
      refine d_q 17 rfl Q_pickF (fun _ s => Conv.sat (by repeat (first | with_reducible exact Conv.refl | exact Conv.nil | (apply Conv.cons; · first | ((repeat (first | with_reducible exact Take.head | apply Take.tail)); done) | ((repeat (first | exact Take.head | apply Take.tail)); done)) | refine Conv.drop ?_)) s) (by repeat (first | exact PanicOk.body | exact PanicOk.bodyD (by intros; simp [results, Act.put]) | refine PanicOk.then ?_ | refine PanicOk.block ?_ | refine PanicOk.scope ?_)) (by kernel_rfl) ?_
      refine d_l 18 (by kernel_rfl) rfl rfl ?_
      refine l_q Q_assign ?_
      refine d_tail ?_ (by kernel_rfl)
      refine d_nil (by kernel_rfl) ?_
      refine e_then ?_
      refine c_ret ?_
      have hk4 : k = 4 := by omega
      subst hk4
      have he : bs (rowT (pa r) kv pi pj pk) = bs r := by
        have hw := hkv.word hst
        conv => rhs; rw [hsr]
        unfold rowT
        rw [hw]
      exact ret1 (v := .bool (decide (bs (rowT (pa r) kv pi pj pk) = bs r))) (fun w s' => by rw [decide_eq_true he]; exact hp () trivial w (Conv.sat (by repeat (first | with_reducible exact Conv.refl | exact Conv.nil | (apply Conv.cons; · first | ((repeat (first | with_reducible exact Take.head | apply Take.tail)); done) | ((repeat (first | exact Take.head | apply Take.tail)); done)) | refine Conv.drop ?_)) s'))
end Go.Proofs.YtljjplndcbekfaaDoor
