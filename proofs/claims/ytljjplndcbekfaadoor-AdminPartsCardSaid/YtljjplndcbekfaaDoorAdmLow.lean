/- Contracts of the admin layer's small functions and of the document's. Its conditions: none. -/
import Derived.Test.YtljjplndcbekfaaDoorAdmRep
namespace Go.Proofs.YtljjplndcbekfaaDoor
open SL A Go.RowKit
set_option maxRecDepth 100000



theorem m_bare (v : Int)  : Ct Tryd.prog 31 #[.int .i64 v] (fun F => F) (fun _ : Unit => True) (fun _ => .bool (decide (4 ≤ v))) (fun _ F => F) := by
  refine Ct.of (args := [.int .i64 v]) Tryd.func31 rfl Tryd.ntmps31 (Nat.le_of_ble_eq_true rfl) ?_
  intro F K hp
  refine c_seq ?_
  refine reg ?_
  refine r_q Q_assign ?_
  refine r_nil ?_
  refine e_then ?_
  refine c_seq ?_
  refine reg ?_
  refine r_q Q_move ?_
  refine r_q Q_geq ?_
  refine r_q Q_assign ?_
  refine r_nil ?_
  refine e_then ?_
  refine c_ret ?_
  exact ret1 (fun w s => hp () trivial w (Conv.sat (by repeat (first | with_reducible exact Conv.refl | exact Conv.nil | (apply Conv.cons; · first | ((repeat (first | with_reducible exact Take.head | apply Take.tail)); done) | ((repeat (first | exact Take.head | apply Take.tail)); done)) | refine Conv.drop ?_)) s))
theorem m_verbs   : Ct Tryd.prog 30 #[] (fun F => F) (fun _ : Nat => True) (fun b => .slice (some ⟨b, 0, none⟩) 6 6) (fun b F => cl b (rowS verbsL) 9 :: F) := by
  refine Ct.of (args := []) Tryd.func30 rfl Tryd.ntmps30 (Nat.le_of_ble_eq_true rfl) ?_
  intro F K hp
  refine c_seq ?_
  refine reg ?_
  refine r_q Q_assign ?_
  refine r_nil ?_
  refine e_then ?_
  refine c_seq ?_
  refine reg ?_
  refine r_l (L_buildSlice (bs_42_6_0_1_2_3_4_5 _ _ _ _ _ _) (fun b1 => ?_))
  refine r_q Q_assign ?_
  refine r_nil ?_
  refine e_then ?_
  refine c_ret ?_
  exact ret1 (fun w s => hp b1 trivial w (Conv.sat (by repeat (first | with_reducible exact Conv.refl | exact Conv.nil | (apply Conv.cons; · first | ((repeat (first | with_reducible exact Take.head | apply Take.tail)); done) | ((repeat (first | exact Take.head | apply Take.tail)); done)) | refine Conv.drop ?_)) s))
theorem m_names   : Ct Tryd.prog 32 #[] (fun F => F) (fun _ : Nat => True) (fun b => .slice (some ⟨b, 0, none⟩) 4 4) (fun b F => cl b (rowS states) 9 :: F) := by
  refine Ct.of (args := []) Tryd.func32 rfl Tryd.ntmps32 (Nat.le_of_ble_eq_true rfl) ?_
  intro F K hp
  refine c_seq ?_
  refine reg ?_
  refine r_q Q_assign ?_
  refine r_nil ?_
  refine e_then ?_
  refine c_seq ?_
  refine reg ?_
  refine r_l (L_buildSlice (bs_42_4_0_1_2_3 _ _ _ _) (fun b1 => ?_))
  refine r_q Q_assign ?_
  refine r_nil ?_
  refine e_then ?_
  refine c_ret ?_
  exact ret1 (fun w s => hp b1 trivial w (Conv.sat (by repeat (first | with_reducible exact Conv.refl | exact Conv.nil | (apply Conv.cons; · first | ((repeat (first | with_reducible exact Take.head | apply Take.tail)); done) | ((repeat (first | exact Take.head | apply Take.tail)); done)) | refine Conv.drop ?_)) s))
theorem m_sname (n : Int)  : Ct Tryd.prog 14 #[.int .i64 n] (fun F => F) (fun _ : Unit => True) (fun _ => .string (bs (sname n))) (fun _ F => F) := by
  refine Ct.of (args := [.int .i64 n]) Tryd.func14 rfl Tryd.ntmps14 (Nat.le_of_ble_eq_true rfl) ?_
  intro F K hp
  by_cases hy : n < 0 ∨ 4 ≤ n
  · have hv : sname n = [] := by rw [sname, if_pos hy]
    refine c_seq ?_
    refine reg ?_
    refine r_q Q_assign ?_
    refine r_nil ?_
    refine e_then ?_
    refine c_seq ?_
    refine c_seq ?_
    refine reg ?_
    refine r_q Q_move ?_
    refine r_q Q_lss ?_
    refine r_q Q_move ?_
    first | refine b_dec (t := 5) rfl (fun hc1 => ?_) (fun hc1 => ?_) | refine b_ndec (t := 5) rfl (fun hc1 => ?_) (fun hc1 => ?_) | refine b_bool (t := 5) rfl (fun hc1 => ?_) (fun hc1 => ?_)
    · refine r_no ?_
      refine r_no ?_
      refine r_q Q_pickT ?_
      refine r_nil ?_
      refine e_then ?_
      refine c_true ?_
      refine c_seq ?_
      refine reg ?_
      refine r_q Q_assign ?_
      refine r_nil ?_
      refine e_then ?_
      refine c_ret ?_
      refine e_thenr ?_
      refine ret1 (fun w s => ?_)
      have hq := hp () trivial w
      simp only [hv] at hq
      exact hq (Conv.sat (by repeat (first | with_reducible exact Conv.refl | exact Conv.nil | (apply Conv.cons; · first | ((repeat (first | with_reducible exact Take.head | apply Take.tail)); done) | ((repeat (first | exact Take.head | apply Take.tail)); done)) | refine Conv.drop ?_)) s)
    · refine r_yq Q_move ?_
      refine r_yq Q_geq ?_
      refine r_q Q_pickF ?_
      refine r_nil ?_
      refine e_then ?_
      first | refine c_dec rfl (fun hc2 => ?_) (fun hc2 => ?_) | refine c_ndec rfl (fun hc2 => ?_) (fun hc2 => ?_) | refine c_cond rfl (fun hc2 => ?_) (fun hc2 => ?_)
      · refine c_seq ?_
        refine reg ?_
        refine r_q Q_assign ?_
        refine r_nil ?_
        refine e_then ?_
        refine c_ret ?_
        refine e_thenr ?_
        refine ret1 (fun w s => ?_)
        have hq := hp () trivial w
        simp only [hv] at hq
        exact hq (Conv.sat (by repeat (first | with_reducible exact Conv.refl | exact Conv.nil | (apply Conv.cons; · first | ((repeat (first | with_reducible exact Take.head | apply Take.tail)); done) | ((repeat (first | exact Take.head | apply Take.tail)); done)) | refine Conv.drop ?_)) s)
      · exfalso; first | omega | simp_all
  · have hv : sname n = states.getD n.toNat [] := by rw [sname, if_neg hy]
    have hl : states.length = 4 := rfl
    refine c_seq ?_
    refine reg ?_
    refine r_q Q_assign ?_
    refine r_nil ?_
    refine e_then ?_
    refine c_seq ?_
    refine c_seq ?_
    refine reg ?_
    refine r_q Q_move ?_
    refine r_q Q_lss ?_
    refine r_q Q_move ?_
    refine b_is (t := 5) false rfl (by first | rfl | exact decide_eq_false (by omega) | simp_all) ?_
    refine r_yq Q_move ?_
    refine r_yq Q_geq ?_
    refine r_q Q_pickF ?_
    refine r_nil ?_
    refine e_then ?_
    refine c_false ?_ (by first | rfl | exact congrArg (fun b => some (Value.bool b)) (by first | exact decide_eq_false (by omega) | simp_all))
    refine c_skip ?_
    refine e_then ?_
    refine c_seq ?_
    refine reg ?_
    refine r_l (l_call cf_32 rfl (m_names ) ?_)
    intro bn _
    refine r_q Q_move ?_
    first | refine r_q (Q_indexl Tryd.underlying42 sz_9) ?_ | refine r_q (Q_idxT' Tryd.underlying42 sz_9) ?_
    refine r_q (Q_load pl_9 (hH := (by repeat (first | exact Take.head | apply Take.tail))) (hv := rowS_get states n.toNat (by omega))) ?_
    refine r_q Q_assign ?_
    refine r_nil ?_
    refine e_then ?_
    refine c_ret ?_
    refine ret1 (fun w s => ?_)
    have hq := hp () trivial w
    simp only [hv] at hq
    exact hq (Conv.sat (by repeat (first | with_reducible exact Conv.refl | exact Conv.nil | (apply Conv.cons; · first | ((repeat (first | with_reducible exact Take.head | apply Take.tail)); done) | ((repeat (first | exact Take.head | apply Take.tail)); done)) | refine Conv.drop ?_)) s)
theorem f_sname (n : Int)  : Ct Tryd.prog 17 #[.int .i64 n] (fun F => F) (fun _ : Unit => True) (fun _ => .string (bs (sname n))) (fun _ F => F) := by
  refine Ct.of (args := [.int .i64 n]) Tryd.func17 rfl Tryd.ntmps17 (Nat.le_of_ble_eq_true rfl) ?_
  intro F K hp
  by_cases hy : n < 0 ∨ 4 ≤ n
  · have hv : sname n = [] := by rw [sname, if_pos hy]
    refine c_seq ?_
    refine reg ?_
    refine r_q Q_assign ?_
    refine r_nil ?_
    refine e_then ?_
    refine c_seq ?_
    refine c_seq ?_
    refine reg ?_
    refine r_q Q_move ?_
    refine r_q Q_lss ?_
    refine r_q Q_move ?_
    first | refine b_dec (t := 5) rfl (fun hc1 => ?_) (fun hc1 => ?_) | refine b_ndec (t := 5) rfl (fun hc1 => ?_) (fun hc1 => ?_) | refine b_bool (t := 5) rfl (fun hc1 => ?_) (fun hc1 => ?_)
    · refine r_no ?_
      refine r_no ?_
      refine r_q Q_pickT ?_
      refine r_nil ?_
      refine e_then ?_
      refine c_true ?_
      refine c_seq ?_
      refine reg ?_
      refine r_q Q_assign ?_
      refine r_nil ?_
      refine e_then ?_
      refine c_ret ?_
      refine e_thenr ?_
      refine ret1 (fun w s => ?_)
      have hq := hp () trivial w
      simp only [hv] at hq
      exact hq (Conv.sat (by repeat (first | with_reducible exact Conv.refl | exact Conv.nil | (apply Conv.cons; · first | ((repeat (first | with_reducible exact Take.head | apply Take.tail)); done) | ((repeat (first | exact Take.head | apply Take.tail)); done)) | refine Conv.drop ?_)) s)
    · refine r_yq Q_move ?_
      refine r_yq Q_gtr ?_
      refine r_q Q_pickF ?_
      refine r_nil ?_
      refine e_then ?_
      first | refine c_dec rfl (fun hc2 => ?_) (fun hc2 => ?_) | refine c_ndec rfl (fun hc2 => ?_) (fun hc2 => ?_) | refine c_cond rfl (fun hc2 => ?_) (fun hc2 => ?_)
      · refine c_seq ?_
        refine reg ?_
        refine r_q Q_assign ?_
        refine r_nil ?_
        refine e_then ?_
        refine c_ret ?_
        refine e_thenr ?_
        refine ret1 (fun w s => ?_)
        have hq := hp () trivial w
        simp only [hv] at hq
        exact hq (Conv.sat (by repeat (first | with_reducible exact Conv.refl | exact Conv.nil | (apply Conv.cons; · first | ((repeat (first | with_reducible exact Take.head | apply Take.tail)); done) | ((repeat (first | exact Take.head | apply Take.tail)); done)) | refine Conv.drop ?_)) s)
      · exfalso; first | omega | simp_all
  · have hv : sname n = states.getD n.toNat [] := by rw [sname, if_neg hy]
    have hl : states.length = 4 := rfl
    refine c_seq ?_
    refine reg ?_
    refine r_q Q_assign ?_
    refine r_nil ?_
    refine e_then ?_
    refine c_seq ?_
    refine c_seq ?_
    refine reg ?_
    refine r_q Q_move ?_
    refine r_q Q_lss ?_
    refine r_q Q_move ?_
    refine b_is (t := 5) false rfl (by first | rfl | exact decide_eq_false (by omega) | simp_all) ?_
    refine r_yq Q_move ?_
    refine r_yq Q_gtr ?_
    refine r_q Q_pickF ?_
    refine r_nil ?_
    refine e_then ?_
    refine c_false ?_ (by first | rfl | exact congrArg (fun b => some (Value.bool b)) (by first | exact decide_eq_false (by omega) | simp_all))
    refine c_skip ?_
    refine e_then ?_
    refine c_seq ?_
    refine reg ?_
    refine r_l (L_buildSlice (bs_42_4_0_1_2_3 _ _ _ _) (fun b9 => ?_))
    refine r_q Q_move ?_
    first | refine r_q (Q_indexl Tryd.underlying42 sz_9) ?_ | refine r_q (Q_idxT' Tryd.underlying42 sz_9) ?_
    refine r_q (Q_load pl_9 (hH := (by repeat (first | exact Take.head | apply Take.tail))) (hv := rowS_get states n.toNat (by omega))) ?_
    refine r_q Q_assign ?_
    refine r_nil ?_
    refine e_then ?_
    refine c_ret ?_
    refine ret1 (fun w s => ?_)
    have hq := hp () trivial w
    simp only [hv] at hq
    exact hq (Conv.sat (by repeat (first | with_reducible exact Conv.refl | exact Conv.nil | (apply Conv.cons; · first | ((repeat (first | with_reducible exact Take.head | apply Take.tail)); done) | ((repeat (first | exact Take.head | apply Take.tail)); done)) | refine Conv.drop ?_)) s)
theorem m_row {gh : World} (name : B) (s a b c : Int) (hn : name.length ≤ 1000) (ha : -9223372036854775808 ≤ a ∧ a ≤ 9223372036854775807) (hb : -9223372036854775808 ≤ b ∧ b ≤ 9223372036854775807) (hc : -9223372036854775808 ≤ c ∧ c ≤ 9223372036854775807) : Ct Tryd.prog 6 #[.string (bs name), .int .i64 s, .int .i64 a, .int .i64 b, .int .i64 c] (fun F => G gh :: F) (fun _ : Unit => True) (fun _ => .string (bs (rowT name s a b c))) (fun _ F => G gh :: F) := by
  refine Ct.of (args := [.string (bs name), .int .i64 s, .int .i64 a, .int .i64 b, .int .i64 c]) Tryd.func6 rfl Tryd.ntmps6 (Nat.le_of_ble_eq_true rfl) ?_
  intro F K hp
  have hj := row_join name s a b c
  have hl := row_len name s a b c hn ha hb hc
  by_cases hy : sname s = []
  · have hw : word s = [63] := by rw [word, if_pos hy]
    rw [hw] at hj
    refine c_seq ?_
    refine reg ?_
    refine r_q Q_assign ?_
    refine r_nil ?_
    refine e_then ?_
    refine c_seq ?_
    refine reg ?_
    refine r_q Q_move ?_
    refine r_l (l_call cf_14 rfl (m_sname _) ?_)
    intro _ _
    refine r_q Q_assign ?_
    refine r_nil ?_
    refine e_then ?_
    refine c_seq ?_
    refine c_seq ?_
    refine reg ?_
    refine r_q Q_move ?_
    refine r_q Q_eqls ?_
    refine r_nil ?_
    refine e_then ?_
    refine c_true ?_ (by first | rfl | exact congrArg (fun b => some (Value.bool b)) (by first | exact decide_eq_true (by omega) | simp_all))
    refine reg ?_
    refine r_q Q_assign ?_
    refine r_nil ?_
    refine e_then ?_
    refine c_seq ?_
    refine reg ?_
    refine r_q Q_move ?_
    refine r_q Q_move ?_
    refine r_q Q_move ?_
    refine r_l (l_call cf_16 rfl (k_itoa _ (by omega) (by omega)) ?_)
    intro _ _
    refine r_q Q_move ?_
    refine r_l (l_call cf_16 rfl (k_itoa _ (by omega) (by omega)) ?_)
    intro _ _
    refine r_q Q_move ?_
    refine r_l (l_call cf_16 rfl (k_itoa _ (by omega) (by omega)) ?_)
    intro _ _
    refine r_l (L_buildSlice (bs_42_5_0_1_2_3_4 _ _ _ _ _) (fun b24 => ?_))
    refine r_l (l_call cf_15 rfl (k_join _ _ [name, [63], Lib.itoa a, Lib.itoa b, Lib.itoa c] 5 rfl (by decide) (by decide) (by rw [hj]; omega)) ?_)
    intro _ _
    refine r_q Q_assign ?_
    refine r_nil ?_
    refine e_then ?_
    refine c_ret ?_
    refine ret1 (fun w s => ?_)
    have hq := hp () trivial w
    simp only [← hj] at hq
    exact hq (Conv.sat (by repeat (first | with_reducible exact Conv.refl | exact Conv.nil | (apply Conv.cons; · first | ((repeat (first | with_reducible exact Take.head | apply Take.tail)); done) | ((repeat (first | exact Take.head | apply Take.tail)); done)) | refine Conv.drop ?_)) s)
  · have hw : word s = sname s := by rw [word, if_neg hy]
    rw [hw] at hj
    refine c_seq ?_
    refine reg ?_
    refine r_q Q_assign ?_
    refine r_nil ?_
    refine e_then ?_
    refine c_seq ?_
    refine reg ?_
    refine r_q Q_move ?_
    refine r_l (l_call cf_14 rfl (m_sname _) ?_)
    intro _ _
    refine r_q Q_assign ?_
    refine r_nil ?_
    refine e_then ?_
    refine c_seq ?_
    refine c_seq ?_
    refine reg ?_
    refine r_q Q_move ?_
    refine r_q Q_eqls ?_
    refine r_nil ?_
    refine e_then ?_
    refine c_false ?_ (by first | rfl | exact congrArg (fun b => some (Value.bool b)) (by first | exact decide_eq_false (by omega) | simp_all))
    refine c_skip ?_
    refine e_then ?_
    refine c_seq ?_
    refine reg ?_
    refine r_q Q_move ?_
    refine r_q Q_move ?_
    refine r_q Q_move ?_
    refine r_l (l_call cf_16 rfl (k_itoa _ (by omega) (by omega)) ?_)
    intro _ _
    refine r_q Q_move ?_
    refine r_l (l_call cf_16 rfl (k_itoa _ (by omega) (by omega)) ?_)
    intro _ _
    refine r_q Q_move ?_
    refine r_l (l_call cf_16 rfl (k_itoa _ (by omega) (by omega)) ?_)
    intro _ _
    refine r_l (L_buildSlice (bs_42_5_0_1_2_3_4 _ _ _ _ _) (fun b24 => ?_))
    refine r_l (l_call cf_15 rfl (k_join _ _ [name, sname s, Lib.itoa a, Lib.itoa b, Lib.itoa c] 5 rfl (by decide) (by decide) (by rw [hj]; omega)) ?_)
    intro _ _
    refine r_q Q_assign ?_
    refine r_nil ?_
    refine e_then ?_
    refine c_ret ?_
    refine ret1 (fun w s => ?_)
    have hq := hp () trivial w
    simp only [← hj] at hq
    exact hq (Conv.sat (by repeat (first | with_reducible exact Conv.refl | exact Conv.nil | (apply Conv.cons; · first | ((repeat (first | with_reducible exact Take.head | apply Take.tail)); done) | ((repeat (first | exact Take.head | apply Take.tail)); done)) | refine Conv.drop ?_)) s)
theorem f_digits_pos (n : Int) (h0 : 0 ≤ n) (h1 : n ≤ 9223372036854775807) : Ct Tryd.prog 18 #[.int .i64 n] (fun F => F) (fun _ : Unit => True) (fun _ => .string (bs (Lib.itoa n))) (fun _ F => F) := by
  refine Ct.of (args := [.int .i64 n]) Tryd.func18 rfl Tryd.ntmps18 (Nat.le_of_ble_eq_true rfl) ?_
  intro F K hp
  have hl := Lib.itoa_length_le (n / 10) (by omega) (by omega)
  refine c_seq ?_
  refine reg ?_
  refine r_q Q_assign ?_
  refine r_nil ?_
  refine e_then ?_
  refine c_seq ?_
  refine c_seq ?_
  refine reg ?_
  refine r_q Q_move ?_
  refine r_q Q_lss ?_
  refine r_nil ?_
  refine e_then ?_
  refine c_false ?_ (by first | rfl | exact congrArg (fun b => some (Value.bool b)) (by first | exact decide_eq_false (by omega) | simp_all))
  refine c_skip ?_
  refine e_then ?_
  refine c_seq ?_
  refine c_seq ?_
  refine reg ?_
  refine r_q Q_move ?_
  refine r_q Q_lss ?_
  refine r_nil ?_
  refine e_then ?_
  first | refine c_dec rfl (fun hc1 => ?_) (fun hc1 => ?_) | refine c_ndec rfl (fun hc1 => ?_) (fun hc1 => ?_) | refine c_cond rfl (fun hc1 => ?_) (fun hc1 => ?_)
  · refine c_seq ?_
    refine reg ?_
    refine r_q Q_move ?_
    refine r_q Q_move ?_
    refine r_q Q_addn ?_
    refine r_q (Q_slices Tryd.underlying9 (h2 := by show _ ≤ ((10 : Nat) : Int); omega)) ?_
    refine r_q Q_assign ?_
    refine r_nil ?_
    refine e_then ?_
    refine c_ret ?_
    refine e_thenr ?_
    refine ret1 (fun w s => ?_)
    have hq := hp () trivial w (Conv.sat (by repeat (first | with_reducible exact Conv.refl | exact Conv.nil | (apply Conv.cons; · first | ((repeat (first | with_reducible exact Take.head | apply Take.tail)); done) | ((repeat (first | exact Take.head | apply Take.tail)); done)) | refine Conv.drop ?_)) s)
    have he : (ByteArray.mk #[48, 49, 50, 51, 52, 53, 54, 55, 56, 57]).extract n.toNat (n + 1).toNat = bs (Lib.itoa n) := by
      rw [itoa_small n h0 hc1, digit_piece n h0 hc1]
    rw [← he] at hq
    exact hq
  · refine c_skip ?_
    refine e_then ?_
    refine c_seq ?_
    refine dreg (N := 11) [] 10 ?_ mixed rfl
    refine d_q 0 rfl Q_move (fun _ _ => trivial) (by repeat (first | exact PanicOk.body | exact PanicOk.bodyD (by intros; simp [results, Act.put]) | refine PanicOk.then ?_ | refine PanicOk.block ?_ | refine PanicOk.scope ?_)) (by kernel_rfl) ?_
    refine d_q 1 rfl Q_quon (fun _ _ => trivial) (by repeat (first | exact PanicOk.body | exact PanicOk.bodyD (by intros; simp [results, Act.put]) | refine PanicOk.then ?_ | refine PanicOk.block ?_ | refine PanicOk.scope ?_)) (by kernel_rfl) ?_
    refine d_q 3 rfl Q_move (fun _ _ => trivial) (by repeat (first | exact PanicOk.body | exact PanicOk.bodyD (by intros; simp [results, Act.put]) | refine PanicOk.then ?_ | refine PanicOk.block ?_ | refine PanicOk.scope ?_)) (by kernel_rfl) ?_
    refine d_q 4 rfl Q_remn (fun _ _ => trivial) (by repeat (first | exact PanicOk.body | exact PanicOk.bodyD (by intros; simp [results, Act.put]) | refine PanicOk.then ?_ | refine PanicOk.block ?_ | refine PanicOk.scope ?_)) (by kernel_rfl) ?_
    refine d_q 5 rfl Q_move (fun _ _ => trivial) (by repeat (first | exact PanicOk.body | exact PanicOk.bodyD (by intros; simp [results, Act.put]) | refine PanicOk.then ?_ | refine PanicOk.block ?_ | refine PanicOk.scope ?_)) (by kernel_rfl) ?_
    refine d_q 6 rfl Q_remn (fun _ _ => trivial) (by repeat (first | exact PanicOk.body | exact PanicOk.bodyD (by intros; simp [results, Act.put]) | refine PanicOk.then ?_ | refine PanicOk.block ?_ | refine PanicOk.scope ?_)) (by kernel_rfl) ?_
    refine d_q 7 rfl Q_addn (fun _ _ => trivial) (by repeat (first | exact PanicOk.body | exact PanicOk.bodyD (by intros; simp [results, Act.put]) | refine PanicOk.then ?_ | refine PanicOk.block ?_ | refine PanicOk.scope ?_)) (by kernel_rfl) ?_
    refine d_q 8 rfl (Q_slices Tryd.underlying9 (h2 := by show _ ≤ ((10 : Nat) : Int); omega)) (fun _ _ => trivial) (by repeat (first | exact PanicOk.body | exact PanicOk.bodyD (by intros; simp [results, Act.put]) | refine PanicOk.then ?_ | refine PanicOk.block ?_ | refine PanicOk.scope ?_)) (by kernel_rfl) ?_
    refine d_l 2 (by kernel_rfl) rfl rfl ?_
    refine (l_call cf_18 rfl (f_digits_pos (n / 10) (by omega) (by omega)) ?_)
    intro _ _
    refine d_head (fun _ _ => trivial) ?_
    refine d_q 9 rfl (Q_adds (hs := by rw [digit_piece (n % 10) (by omega) (by omega), bs_size, bs_size]; simp only [List.length_cons, List.length_nil]; omega)) (fun _ _ => trivial) (by repeat (first | exact PanicOk.body | exact PanicOk.bodyD (by intros; simp [results, Act.put]) | refine PanicOk.then ?_ | refine PanicOk.block ?_ | refine PanicOk.scope ?_)) (by kernel_rfl) ?_
    refine d_l 10 (by kernel_rfl) rfl rfl ?_
    refine l_q Q_assign ?_
    refine d_tail ?_ (by kernel_rfl)
    refine d_nil (by kernel_rfl) ?_
    refine e_then ?_
    refine c_ret ?_
    refine ret1 (fun w s => ?_)
    have hq := hp () trivial w (Conv.sat (by repeat (first | with_reducible exact Conv.refl | exact Conv.nil | (apply Conv.cons; · first | ((repeat (first | with_reducible exact Take.head | apply Take.tail)); done) | ((repeat (first | exact Take.head | apply Take.tail)); done)) | refine Conv.drop ?_)) s)
    have he : bs (Lib.itoa (n / 10)) ++ (ByteArray.mk #[48, 49, 50, 51, 52, 53, 54, 55, 56, 57]).extract (n % 10).toNat (n % 10 + 1).toNat = bs (Lib.itoa n) := by
      rw [itoa_step n (by omega), digit_piece (n % 10) (by omega) (by omega), bs_app]
    rw [← he] at hq
    exact hq
  termination_by n.toNat
  decreasing_by omega
theorem f_digits (n : Int) (h0 : -9223372036854775808 ≤ n) (h1 : n ≤ 9223372036854775807) : Ct Tryd.prog 18 #[.int .i64 n] (fun F => F) (fun _ : Unit => True) (fun _ => .string (bs (Lib.itoa n))) (fun _ F => F) := by
  by_cases hs : 0 ≤ n
  · exact f_digits_pos n hs h1
  refine Ct.of (args := [.int .i64 n]) Tryd.func18 rfl Tryd.ntmps18 (Nat.le_of_ble_eq_true rfl) ?_
  intro F K hp
  refine c_seq ?_
  refine reg ?_
  refine r_q Q_assign ?_
  refine r_nil ?_
  refine e_then ?_
  refine c_seq ?_
  refine c_seq ?_
  refine reg ?_
  refine r_q Q_move ?_
  refine r_q Q_lss ?_
  refine r_nil ?_
  refine e_then ?_
  refine c_true ?_ (by first | rfl | exact congrArg (fun b => some (Value.bool b)) (by first | exact decide_eq_true (by omega) | simp_all))
  refine c_seq ?_
  refine c_seq ?_
  refine reg ?_
  refine r_q Q_move ?_
  refine r_q Q_lss ?_
  refine r_nil ?_
  refine e_then ?_
  first | refine c_dec rfl (fun hc1 => ?_) (fun hc1 => ?_) | refine c_ndec rfl (fun hc1 => ?_) (fun hc1 => ?_) | refine c_cond rfl (fun hc1 => ?_) (fun hc1 => ?_)
  · refine c_seq ?_
    refine reg ?_
    refine r_q Q_assign ?_
    refine r_nil ?_
    refine e_then ?_
    refine c_ret ?_
    refine e_thenr ?_
    refine e_thenr ?_
    refine ret1 (fun w s => ?_)
    have hq := hp () trivial w (Conv.sat (by repeat (first | with_reducible exact Conv.refl | exact Conv.nil | (apply Conv.cons; · first | ((repeat (first | with_reducible exact Take.head | apply Take.tail)); done) | ((repeat (first | exact Take.head | apply Take.tail)); done)) | refine Conv.drop ?_)) s)
    have he : (ByteArray.mk #[45, 57, 50, 50, 51, 51, 55, 50, 48, 51, 54, 56, 53, 52, 55, 55, 53, 56, 48, 56]) = bs (Lib.itoa n) := by
      obtain rfl : n = -9223372036854775808 := by omega
      decide +kernel
    rw [← he] at hq
    exact hq
  · refine c_skip ?_
    refine e_then ?_
    refine c_seq ?_
    refine reg ?_
    refine r_q Q_move ?_
    refine r_q (Q_negn) ?_
    refine r_l (l_call cf_18 rfl (f_digits_pos (-n) (by omega) (by omega)) ?_)
    intro _ _
    have hl := Lib.itoa_length_le (-n) (by omega) (by omega)
    refine r_q (Q_adds (hs := by rw [bs_size]; show 1 + _ ≤ _; omega)) ?_
    refine r_q Q_assign ?_
    refine r_nil ?_
    refine e_then ?_
    refine c_ret ?_
    refine e_thenr ?_
    refine ret1 (fun w s => ?_)
    have hq := hp () trivial w (Conv.sat (by repeat (first | with_reducible exact Conv.refl | exact Conv.nil | (apply Conv.cons; · first | ((repeat (first | with_reducible exact Take.head | apply Take.tail)); done) | ((repeat (first | exact Take.head | apply Take.tail)); done)) | refine Conv.drop ?_)) s)
    have he : (ByteArray.mk #[45]) ++ bs (Lib.itoa (-n)) = bs (Lib.itoa n) := by
      rw [itoa_minus n (by omega)]
      exact bs_app [45] _
    rw [← he] at hq
    exact hq
end Go.Proofs.YtljjplndcbekfaaDoor
