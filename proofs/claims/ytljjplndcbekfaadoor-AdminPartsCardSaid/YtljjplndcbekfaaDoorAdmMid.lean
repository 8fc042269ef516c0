/- Contracts of the document's row, words, names; of the program's tests of names and states. Its conditions: none. -/
import Derived.Test.YtljjplndcbekfaaDoorAdmLow
namespace Go.Proofs.YtljjplndcbekfaaDoor
open SL A Go.RowKit
set_option maxRecDepth 100000

theorem sz_mk (a : Array UInt8) : (ByteArray.mk a).size = a.size := rfl
theorem row_eq (name : B) (s a b c : Int) : bs name ++ ⟨#[32]⟩ ++ bs (word s) ++ ⟨#[32]⟩ ++ bs (Lib.itoa a) ++ ⟨#[32]⟩ ++ bs (Lib.itoa b) ++ ⟨#[32]⟩ ++ bs (Lib.itoa c) = bs (rowT name s a b c) := by
  have e : (⟨#[32]⟩ : ByteArray) = bs [32] := rfl
  simp [e, bs_app, rowT]
theorem f_row (name : B) (s a b c : Int) (hn : name.length ≤ 1000) (ha : -9223372036854775808 ≤ a ∧ a ≤ 9223372036854775807) (hb : -9223372036854775808 ≤ b ∧ b ≤ 9223372036854775807) (hc : -9223372036854775808 ≤ c ∧ c ≤ 9223372036854775807) : Ct Tryd.prog 7 #[.string (bs name), .int .i64 s, .agg #[.int .i64 a, .int .i64 b, .int .i64 c]] (fun F => F) (fun _ : Unit => True) (fun _ => .string (bs (rowT name s a b c))) (fun _ F => F) := by
  refine Ct.of (args := [.string (bs name), .int .i64 s, .agg #[.int .i64 a, .int .i64 b, .int .i64 c]]) Tryd.func7 rfl Tryd.ntmps7 (Nat.le_of_ble_eq_true rfl) ?_
  intro F K hp
  have h0 := word_len s
  have h1 := Lib.itoa_length_le a ha.1 ha.2
  have h2 := Lib.itoa_length_le b hb.1 hb.2
  have h3 := Lib.itoa_length_le c hc.1 hc.2
  have hq0 := row_eq name s a b c
  by_cases hy : sname s = []
  · have hw : word s = [63] := by rw [word, if_pos hy]
    rw [hw] at h0 hq0
    refine c_seq ?_
    refine reg ?_
    refine r_l (L_boxa (fun b5 => ?_))
    refine r_q Q_assign ?_
    refine r_nil ?_
    refine e_then ?_
    refine c_seq ?_
    refine reg ?_
    refine r_q Q_move ?_
    refine r_l (l_call cf_17 rfl (f_sname _) ?_)
    intro _ _
    refine r_q Q_assign ?_
    refine r_nil ?_
    refine e_then ?_
    refine c_seq ?_
    refine c_seq ?_
    refine reg ?_
    refine r_q Q_move ?_
    refine r_q Q_eqls ?_
    refine r_nil ?_
    refine e_then ?_
    refine c_true ?_ (by first | rfl | exact congrArg (fun b => some (Value.bool b)) (by first | exact decide_eq_true (by omega) | simp_all))
    refine reg ?_
    refine r_q Q_assign ?_
    refine r_nil ?_
    refine e_then ?_
    refine c_seq ?_
    refine dreg (N := 20) [cl b5 [.int .i64 a, .int .i64 b, .int .i64 c] 22] 19 ?_ mixed rfl
    refine d_q 0 rfl Q_move (fun _ s => Conv.sat (by repeat (first | with_reducible exact Conv.refl | exact Conv.nil | (apply Conv.cons; · first | ((repeat (first | with_reducible exact Take.head | apply Take.tail)); done) | ((repeat (first | exact Take.head | apply Take.tail)); done)) | refine Conv.drop ?_)) s) (by repeat (first | exact PanicOk.body | exact PanicOk.bodyD (by intros; simp [results, Act.put]) | refine PanicOk.then ?_ | refine PanicOk.block ?_ | refine PanicOk.scope ?_)) (by kernel_rfl) ?_
    refine d_q 1 rfl (Q_adds (hs := by first | omega | (simp only [ByteArray.size_append, bs_size, sz_mk, List.size_toArray, List.length_cons, List.length_nil]; omega))) (fun _ s => Conv.sat (by repeat (first | with_reducible exact Conv.refl | exact Conv.nil | (apply Conv.cons; · first | ((repeat (first | with_reducible exact Take.head | apply Take.tail)); done) | ((repeat (first | exact Take.head | apply Take.tail)); done)) | refine Conv.drop ?_)) s) (by repeat (first | exact PanicOk.body | exact PanicOk.bodyD (by intros; simp [results, Act.put]) | refine PanicOk.then ?_ | refine PanicOk.block ?_ | refine PanicOk.scope ?_)) (by kernel_rfl) ?_
    refine d_q 2 rfl Q_move (fun _ s => Conv.sat (by repeat (first | with_reducible exact Conv.refl | exact Conv.nil | (apply Conv.cons; · first | ((repeat (first | with_reducible exact Take.head | apply Take.tail)); done) | ((repeat (first | exact Take.head | apply Take.tail)); done)) | refine Conv.drop ?_)) s) (by repeat (first | exact PanicOk.body | exact PanicOk.bodyD (by intros; simp [results, Act.put]) | refine PanicOk.then ?_ | refine PanicOk.block ?_ | refine PanicOk.scope ?_)) (by kernel_rfl) ?_
    refine d_q 3 rfl (Q_adds (hs := by first | omega | (simp only [ByteArray.size_append, bs_size, sz_mk, List.size_toArray, List.length_cons, List.length_nil]; omega))) (fun _ s => Conv.sat (by repeat (first | with_reducible exact Conv.refl | exact Conv.nil | (apply Conv.cons; · first | ((repeat (first | with_reducible exact Take.head | apply Take.tail)); done) | ((repeat (first | exact Take.head | apply Take.tail)); done)) | refine Conv.drop ?_)) s) (by repeat (first | exact PanicOk.body | exact PanicOk.bodyD (by intros; simp [results, Act.put]) | refine PanicOk.then ?_ | refine PanicOk.block ?_ | refine PanicOk.scope ?_)) (by kernel_rfl) ?_
    refine d_q 4 rfl (Q_adds (hs := by first | omega | (simp only [ByteArray.size_append, bs_size, sz_mk, List.size_toArray, List.length_cons, List.length_nil]; omega))) (fun _ s => Conv.sat (by repeat (first | with_reducible exact Conv.refl | exact Conv.nil | (apply Conv.cons; · first | ((repeat (first | with_reducible exact Take.head | apply Take.tail)); done) | ((repeat (first | exact Take.head | apply Take.tail)); done)) | refine Conv.drop ?_)) s) (by repeat (first | exact PanicOk.body | exact PanicOk.bodyD (by intros; simp [results, Act.put]) | refine PanicOk.then ?_ | refine PanicOk.block ?_ | refine PanicOk.scope ?_)) (by kernel_rfl) ?_
    refine d_q 5 rfl (Q_indexa Tryd.underlying22 sz_3) (fun _ s => Conv.sat (by repeat (first | with_reducible exact Conv.refl | exact Conv.nil | (apply Conv.cons; · first | ((repeat (first | with_reducible exact Take.head | apply Take.tail)); done) | ((repeat (first | exact Take.head | apply Take.tail)); done)) | refine Conv.drop ?_)) s) (by repeat (first | exact PanicOk.body | exact PanicOk.bodyD (by intros; simp [results, Act.put]) | refine PanicOk.then ?_ | refine PanicOk.block ?_ | refine PanicOk.scope ?_)) (by kernel_rfl) ?_
    refine d_q 6 rfl (Q_load pl_3) (fun _ s => Conv.sat (by repeat (first | with_reducible exact Conv.refl | exact Conv.nil | (apply Conv.cons; · first | ((repeat (first | with_reducible exact Take.head | apply Take.tail)); done) | ((repeat (first | exact Take.head | apply Take.tail)); done)) | refine Conv.drop ?_)) s) (by repeat (first | exact PanicOk.body | exact PanicOk.bodyD (by intros; simp [results, Act.put]) | refine PanicOk.then ?_ | refine PanicOk.block ?_ | refine PanicOk.scope ?_)) (by kernel_rfl) ?_
    refine d_q 10 rfl (Q_indexa Tryd.underlying22 sz_3) (fun _ s => Conv.sat (by repeat (first | with_reducible exact Conv.refl | exact Conv.nil | (apply Conv.cons; · first | ((repeat (first | with_reducible exact Take.head | apply Take.tail)); done) | ((repeat (first | exact Take.head | apply Take.tail)); done)) | refine Conv.drop ?_)) s) (by repeat (first | exact PanicOk.body | exact PanicOk.bodyD (by intros; simp [results, Act.put]) | refine PanicOk.then ?_ | refine PanicOk.block ?_ | refine PanicOk.scope ?_)) (by kernel_rfl) ?_
    refine d_q 11 rfl (Q_load pl_3) (fun _ s => Conv.sat (by repeat (first | with_reducible exact Conv.refl | exact Conv.nil | (apply Conv.cons; · first | ((repeat (first | with_reducible exact Take.head | apply Take.tail)); done) | ((repeat (first | exact Take.head | apply Take.tail)); done)) | refine Conv.drop ?_)) s) (by repeat (first | exact PanicOk.body | exact PanicOk.bodyD (by intros; simp [results, Act.put]) | refine PanicOk.then ?_ | refine PanicOk.block ?_ | refine PanicOk.scope ?_)) (by kernel_rfl) ?_
    refine d_q 15 rfl (Q_indexa Tryd.underlying22 sz_3) (fun _ s => Conv.sat (by repeat (first | with_reducible exact Conv.refl | exact Conv.nil | (apply Conv.cons; · first | ((repeat (first | with_reducible exact Take.head | apply Take.tail)); done) | ((repeat (first | exact Take.head | apply Take.tail)); done)) | refine Conv.drop ?_)) s) (by repeat (first | exact PanicOk.body | exact PanicOk.bodyD (by intros; simp [results, Act.put]) | refine PanicOk.then ?_ | refine PanicOk.block ?_ | refine PanicOk.scope ?_)) (by kernel_rfl) ?_
    refine d_q 16 rfl (Q_load pl_3) (fun _ s => Conv.sat (by repeat (first | with_reducible exact Conv.refl | exact Conv.nil | (apply Conv.cons; · first | ((repeat (first | with_reducible exact Take.head | apply Take.tail)); done) | ((repeat (first | exact Take.head | apply Take.tail)); done)) | refine Conv.drop ?_)) s) (by repeat (first | exact PanicOk.body | exact PanicOk.bodyD (by intros; simp [results, Act.put]) | refine PanicOk.then ?_ | refine PanicOk.block ?_ | refine PanicOk.scope ?_)) (by kernel_rfl) ?_
    refine d_l 7 (by kernel_rfl) rfl rfl ?_
    refine (l_call cf_18 rfl (f_digits _ (by omega) (by omega)) ?_)
    intro _ _
    refine d_head (fun _ s => Conv.sat (by repeat (first | with_reducible exact Conv.refl | exact Conv.nil | (apply Conv.cons; · first | ((repeat (first | with_reducible exact Take.head | apply Take.tail)); done) | ((repeat (first | exact Take.head | apply Take.tail)); done)) | refine Conv.drop ?_)) s) ?_
    refine d_q 8 rfl (Q_adds (hs := by first | omega | (simp only [ByteArray.size_append, bs_size, sz_mk, List.size_toArray, List.length_cons, List.length_nil]; omega))) (fun _ s => Conv.sat (by repeat (first | with_reducible exact Conv.refl | exact Conv.nil | (apply Conv.cons; · first | ((repeat (first | with_reducible exact Take.head | apply Take.tail)); done) | ((repeat (first | exact Take.head | apply Take.tail)); done)) | refine Conv.drop ?_)) s) (by repeat (first | exact PanicOk.body | exact PanicOk.bodyD (by intros; simp [results, Act.put]) | refine PanicOk.then ?_ | refine PanicOk.block ?_ | refine PanicOk.scope ?_)) (by kernel_rfl) ?_
    refine d_q 9 rfl (Q_adds (hs := by first | omega | (simp only [ByteArray.size_append, bs_size, sz_mk, List.size_toArray, List.length_cons, List.length_nil]; omega))) (fun _ s => Conv.sat (by repeat (first | with_reducible exact Conv.refl | exact Conv.nil | (apply Conv.cons; · first | ((repeat (first | with_reducible exact Take.head | apply Take.tail)); done) | ((repeat (first | exact Take.head | apply Take.tail)); done)) | refine Conv.drop ?_)) s) (by repeat (first | exact PanicOk.body | exact PanicOk.bodyD (by intros; simp [results, Act.put]) | refine PanicOk.then ?_ | refine PanicOk.block ?_ | refine PanicOk.scope ?_)) (by kernel_rfl) ?_
    refine d_l 12 (by kernel_rfl) rfl rfl ?_
    refine (l_call cf_18 rfl (f_digits _ (by omega) (by omega)) ?_)
    intro _ _
    refine d_head (fun _ s => Conv.sat (by repeat (first | with_reducible exact Conv.refl | exact Conv.nil | (apply Conv.cons; · first | ((repeat (first | with_reducible exact Take.head | apply Take.tail)); done) | ((repeat (first | exact Take.head | apply Take.tail)); done)) | refine Conv.drop ?_)) s) ?_
    refine d_q 13 rfl (Q_adds (hs := by first | omega | (simp only [ByteArray.size_append, bs_size, sz_mk, List.size_toArray, List.length_cons, List.length_nil]; omega))) (fun _ s => Conv.sat (by repeat (first | with_reducible exact Conv.refl | exact Conv.nil | (apply Conv.cons; · first | ((repeat (first | with_reducible exact Take.head | apply Take.tail)); done) | ((repeat (first | exact Take.head | apply Take.tail)); done)) | refine Conv.drop ?_)) s) (by repeat (first | exact PanicOk.body | exact PanicOk.bodyD (by intros; simp [results, Act.put]) | refine PanicOk.then ?_ | refine PanicOk.block ?_ | refine PanicOk.scope ?_)) (by kernel_rfl) ?_
    refine d_q 14 rfl (Q_adds (hs := by first | omega | (simp only [ByteArray.size_append, bs_size, sz_mk, List.size_toArray, List.length_cons, List.length_nil]; omega))) (fun _ s => Conv.sat (by repeat (first | with_reducible exact Conv.refl | exact Conv.nil | (apply Conv.cons; · first | ((repeat (first | with_reducible exact Take.head | apply Take.tail)); done) | ((repeat (first | exact Take.head | apply Take.tail)); done)) | refine Conv.drop ?_)) s) (by repeat (first | exact PanicOk.body | exact PanicOk.bodyD (by intros; simp [results, Act.put]) | refine PanicOk.then ?_ | refine PanicOk.block ?_ | refine PanicOk.scope ?_)) (by kernel_rfl) ?_
    refine d_l 17 (by kernel_rfl) rfl rfl ?_
    refine (l_call cf_18 rfl (f_digits _ (by omega) (by omega)) ?_)
    intro _ _
    refine d_head (fun _ s => Conv.sat (by repeat (first | with_reducible exact Conv.refl | exact Conv.nil | (apply Conv.cons; · first | ((repeat (first | with_reducible exact Take.head | apply Take.tail)); done) | ((repeat (first | exact Take.head | apply Take.tail)); done)) | refine Conv.drop ?_)) s) ?_
    refine d_q 18 rfl (Q_adds (hs := by first | omega | (simp only [ByteArray.size_append, bs_size, sz_mk, List.size_toArray, List.length_cons, List.length_nil]; omega))) (fun _ s => Conv.sat (by repeat (first | with_reducible exact Conv.refl | exact Conv.nil | (apply Conv.cons; · first | ((repeat (first | with_reducible exact Take.head | apply Take.tail)); done) | ((repeat (first | exact Take.head | apply Take.tail)); done)) | refine Conv.drop ?_)) s) (by repeat (first | exact PanicOk.body | exact PanicOk.bodyD (by intros; simp [results, Act.put]) | refine PanicOk.then ?_ | refine PanicOk.block ?_ | refine PanicOk.scope ?_)) (by kernel_rfl) ?_
    refine d_l 19 (by kernel_rfl) rfl rfl ?_
    refine l_q Q_assign ?_
    refine d_tail ?_ (by kernel_rfl)
    refine d_nil (by kernel_rfl) ?_
    refine e_then ?_
    refine c_ret ?_
    refine ret1 (fun w s => ?_)
    have hq := hp () trivial w
    simp only [← hq0] at hq
    exact hq (Conv.sat (by repeat (first | with_reducible exact Conv.refl | exact Conv.nil | (apply Conv.cons; · first | ((repeat (first | with_reducible exact Take.head | apply Take.tail)); done) | ((repeat (first | exact Take.head | apply Take.tail)); done)) | refine Conv.drop ?_)) s)
  · have hw : word s = sname s := by rw [word, if_neg hy]
    rw [hw] at h0 hq0
    refine c_seq ?_
    refine reg ?_
    refine r_l (L_boxa (fun b5 => ?_))
    refine r_q Q_assign ?_
    refine r_nil ?_
    refine e_then ?_
    refine c_seq ?_
    refine reg ?_
    refine r_q Q_move ?_
    refine r_l (l_call cf_17 rfl (f_sname _) ?_)
    intro _ _
    refine r_q Q_assign ?_
    refine r_nil ?_
    refine e_then ?_
    refine c_seq ?_
    refine c_seq ?_
    refine reg ?_
    refine r_q Q_move ?_
    refine r_q Q_eqls ?_
    refine r_nil ?_
    refine e_then ?_
    refine c_false ?_ (by first | rfl | exact congrArg (fun b => some (Value.bool b)) (by first | exact decide_eq_false (by omega) | simp_all))
    refine c_skip ?_
    refine e_then ?_
    refine c_seq ?_
    refine dreg (N := 20) [cl b5 [.int .i64 a, .int .i64 b, .int .i64 c] 22] 19 ?_ mixed rfl
    refine d_q 0 rfl Q_move (fun _ s => Conv.sat (by repeat (first | with_reducible exact Conv.refl | exact Conv.nil | (apply Conv.cons; · first | ((repeat (first | with_reducible exact Take.head | apply Take.tail)); done) | ((repeat (first | exact Take.head | apply Take.tail)); done)) | refine Conv.drop ?_)) s) (by repeat (first | exact PanicOk.body | exact PanicOk.bodyD (by intros; simp [results, Act.put]) | refine PanicOk.then ?_ | refine PanicOk.block ?_ | refine PanicOk.scope ?_)) (by kernel_rfl) ?_
    refine d_q 1 rfl (Q_adds (hs := by first | omega | (simp only [ByteArray.size_append, bs_size, sz_mk, List.size_toArray, List.length_cons, List.length_nil]; omega))) (fun _ s => Conv.sat (by repeat (first | with_reducible exact Conv.refl | exact Conv.nil | (apply Conv.cons; · first | ((repeat (first | with_reducible exact Take.head | apply Take.tail)); done) | ((repeat (first | exact Take.head | apply Take.tail)); done)) | refine Conv.drop ?_)) s) (by repeat (first | exact PanicOk.body | exact PanicOk.bodyD (by intros; simp [results, Act.put]) | refine PanicOk.then ?_ | refine PanicOk.block ?_ | refine PanicOk.scope ?_)) (by kernel_rfl) ?_
    refine d_q 2 rfl Q_move (fun _ s => Conv.sat (by repeat (first | with_reducible exact Conv.refl | exact Conv.nil | (apply Conv.cons; · first | ((repeat (first | with_reducible exact Take.head | apply Take.tail)); done) | ((repeat (first | exact Take.head | apply Take.tail)); done)) | refine Conv.drop ?_)) s) (by repeat (first | exact PanicOk.body | exact PanicOk.bodyD (by intros; simp [results, Act.put]) | refine PanicOk.then ?_ | refine PanicOk.block ?_ | refine PanicOk.scope ?_)) (by kernel_rfl) ?_
    refine d_q 3 rfl (Q_adds (hs := by first | omega | (simp only [ByteArray.size_append, bs_size, sz_mk, List.size_toArray, List.length_cons, List.length_nil]; omega))) (fun _ s => Conv.sat (by repeat (first | with_reducible exact Conv.refl | exact Conv.nil | (apply Conv.cons; · first | ((repeat (first | with_reducible exact Take.head | apply Take.tail)); done) | ((repeat (first | exact Take.head | apply Take.tail)); done)) | refine Conv.drop ?_)) s) (by repeat (first | exact PanicOk.body | exact PanicOk.bodyD (by intros; simp [results, Act.put]) | refine PanicOk.then ?_ | refine PanicOk.block ?_ | refine PanicOk.scope ?_)) (by kernel_rfl) ?_
    refine d_q 4 rfl (Q_adds (hs := by first | omega | (simp only [ByteArray.size_append, bs_size, sz_mk, List.size_toArray, List.length_cons, List.length_nil]; omega))) (fun _ s => Conv.sat (by repeat (first | with_reducible exact Conv.refl | exact Conv.nil | (apply Conv.cons; · first | ((repeat (first | with_reducible exact Take.head | apply Take.tail)); done) | ((repeat (first | exact Take.head | apply Take.tail)); done)) | refine Conv.drop ?_)) s) (by repeat (first | exact PanicOk.body | exact PanicOk.bodyD (by intros; simp [results, Act.put]) | refine PanicOk.then ?_ | refine PanicOk.block ?_ | refine PanicOk.scope ?_)) (by kernel_rfl) ?_
    refine d_q 5 rfl (Q_indexa Tryd.underlying22 sz_3) (fun _ s => Conv.sat (by repeat (first | with_reducible exact Conv.refl | exact Conv.nil | (apply Conv.cons; · first | ((repeat (first | with_reducible exact Take.head | apply Take.tail)); done) | ((repeat (first | exact Take.head | apply Take.tail)); done)) | refine Conv.drop ?_)) s) (by repeat (first | exact PanicOk.body | exact PanicOk.bodyD (by intros; simp [results, Act.put]) | refine PanicOk.then ?_ | refine PanicOk.block ?_ | refine PanicOk.scope ?_)) (by kernel_rfl) ?_
    refine d_q 6 rfl (Q_load pl_3) (fun _ s => Conv.sat (by repeat (first | with_reducible exact Conv.refl | exact Conv.nil | (apply Conv.cons; · first | ((repeat (first | with_reducible exact Take.head | apply Take.tail)); done) | ((repeat (first | exact Take.head | apply Take.tail)); done)) | refine Conv.drop ?_)) s) (by repeat (first | exact PanicOk.body | exact PanicOk.bodyD (by intros; simp [results, Act.put]) | refine PanicOk.then ?_ | refine PanicOk.block ?_ | refine PanicOk.scope ?_)) (by kernel_rfl) ?_
    refine d_q 10 rfl (Q_indexa Tryd.underlying22 sz_3) (fun _ s => Conv.sat (by repeat (first | with_reducible exact Conv.refl | exact Conv.nil | (apply Conv.cons; · first | ((repeat (first | with_reducible exact Take.head | apply Take.tail)); done) | ((repeat (first | exact Take.head | apply Take.tail)); done)) | refine Conv.drop ?_)) s) (by repeat (first | exact PanicOk.body | exact PanicOk.bodyD (by intros; simp [results, Act.put]) | refine PanicOk.then ?_ | refine PanicOk.block ?_ | refine PanicOk.scope ?_)) (by kernel_rfl) ?_
    refine d_q 11 rfl (Q_load pl_3) (fun _ s => Conv.sat (by repeat (first | with_reducible exact Conv.refl | exact Conv.nil | (apply Conv.cons; · first | ((repeat (first | with_reducible exact Take.head | apply Take.tail)); done) | ((repeat (first | exact Take.head | apply Take.tail)); done)) | refine Conv.drop ?_)) s) (by repeat (first | exact PanicOk.body | exact PanicOk.bodyD (by intros; simp [results, Act.put]) | refine PanicOk.then ?_ | refine PanicOk.block ?_ | refine PanicOk.scope ?_)) (by kernel_rfl) ?_
    refine d_q 15 rfl (Q_indexa Tryd.underlying22 sz_3) (fun _ s => Conv.sat (by repeat (first | with_reducible exact Conv.refl | exact Conv.nil | (apply Conv.cons; · first | ((repeat (first | with_reducible exact Take.head | apply Take.tail)); done) | ((repeat (first | exact Take.head | apply Take.tail)); done)) | refine Conv.drop ?_)) s) (by repeat (first | exact PanicOk.body | exact PanicOk.bodyD (by intros; simp [results, Act.put]) | refine PanicOk.then ?_ | refine PanicOk.block ?_ | refine PanicOk.scope ?_)) (by kernel_rfl) ?_
    refine d_q 16 rfl (Q_load pl_3) (fun _ s => Conv.sat (by repeat (first | with_reducible exact Conv.refl | exact Conv.nil | (apply Conv.cons; · first | ((repeat (first | with_reducible exact Take.head | apply Take.tail)); done) | ((repeat (first | exact Take.head | apply Take.tail)); done)) | refine Conv.drop ?_)) s) (by repeat (first | exact PanicOk.body | exact PanicOk.bodyD (by intros; simp [results, Act.put]) | refine PanicOk.then ?_ | refine PanicOk.block ?_ | refine PanicOk.scope ?_)) (by kernel_rfl) ?_
    refine d_l 7 (by kernel_rfl) rfl rfl ?_
    refine (l_call cf_18 rfl (f_digits _ (by omega) (by omega)) ?_)
    intro _ _
    refine d_head (fun _ s => Conv.sat (by repeat (first | with_reducible exact Conv.refl | exact Conv.nil | (apply Conv.cons; · first | ((repeat (first | with_reducible exact Take.head | apply Take.tail)); done) | ((repeat (first | exact Take.head | apply Take.tail)); done)) | refine Conv.drop ?_)) s) ?_
    refine d_q 8 rfl (Q_adds (hs := by first | omega | (simp only [ByteArray.size_append, bs_size, sz_mk, List.size_toArray, List.length_cons, List.length_nil]; omega))) (fun _ s => Conv.sat (by repeat (first | with_reducible exact Conv.refl | exact Conv.nil | (apply Conv.cons; · first | ((repeat (first | with_reducible exact Take.head | apply Take.tail)); done) | ((repeat (first | exact Take.head | apply Take.tail)); done)) | refine Conv.drop ?_)) s) (by repeat (first | exact PanicOk.body | exact PanicOk.bodyD (by intros; simp [results, Act.put]) | refine PanicOk.then ?_ | refine PanicOk.block ?_ | refine PanicOk.scope ?_)) (by kernel_rfl) ?_
    refine d_q 9 rfl (Q_adds (hs := by first | omega | (simp only [ByteArray.size_append, bs_size, sz_mk, List.size_toArray, List.length_cons, List.length_nil]; omega))) (fun _ s => Conv.sat (by repeat (first | with_reducible exact Conv.refl | exact Conv.nil | (apply Conv.cons; · first | ((repeat (first | with_reducible exact Take.head | apply Take.tail)); done) | ((repeat (first | exact Take.head | apply Take.tail)); done)) | refine Conv.drop ?_)) s) (by repeat (first | exact PanicOk.body | exact PanicOk.bodyD (by intros; simp [results, Act.put]) | refine PanicOk.then ?_ | refine PanicOk.block ?_ | refine PanicOk.scope ?_)) (by kernel_rfl) ?_
    refine d_l 12 (by kernel_rfl) rfl rfl ?_
    refine (l_call cf_18 rfl (f_digits _ (by omega) (by omega)) ?_)
    intro _ _
    refine d_head (fun _ s => Conv.sat (by repeat (first | with_reducible exact Conv.refl | exact Conv.nil | (apply Conv.cons; · first | ((repeat (first | with_reducible exact Take.head | apply Take.tail)); done) | ((repeat (first | exact Take.head | apply Take.tail)); done)) | refine Conv.drop ?_)) s) ?_
    refine d_q 13 rfl (Q_adds (hs := by first | omega | (simp only [ByteArray.size_append, bs_size, sz_mk, List.size_toArray, List.length_cons, List.length_nil]; omega))) (fun _ s => Conv.sat (by repeat (first | with_reducible exact Conv.refl | exact Conv.nil | (apply Conv.cons; · first | ((repeat (first | with_reducible exact Take.head | apply Take.tail)); done) | ((repeat (first | exact Take.head | apply Take.tail)); done)) | refine Conv.drop ?_)) s) (by repeat (first | exact PanicOk.body | exact PanicOk.bodyD (by intros; simp [results, Act.put]) | refine PanicOk.then ?_ | refine PanicOk.block ?_ | refine PanicOk.scope ?_)) (by kernel_rfl) ?_
    refine d_q 14 rfl (Q_adds (hs := by first | omega | (simp only [ByteArray.size_append, bs_size, sz_mk, List.size_toArray, List.length_cons, List.length_nil]; omega))) (fun _ s => Conv.sat (by repeat (first | with_reducible exact Conv.refl | exact Conv.nil | (apply Conv.cons; · first | ((repeat (first | with_reducible exact Take.head | apply Take.tail)); done) | ((repeat (first | exact Take.head | apply Take.tail)); done)) | refine Conv.drop ?_)) s) (by repeat (first | exact PanicOk.body | exact PanicOk.bodyD (by intros; simp [results, Act.put]) | refine PanicOk.then ?_ | refine PanicOk.block ?_ | refine PanicOk.scope ?_)) (by kernel_rfl) ?_
    refine d_l 17 (by kernel_rfl) rfl rfl ?_
    refine (l_call cf_18 rfl (f_digits _ (by omega) (by omega)) ?_)
    intro _ _
    refine d_head (fun _ s => Conv.sat (by repeat (first | with_reducible exact Conv.refl | exact Conv.nil | (apply Conv.cons; · first | ((repeat (first | with_reducible exact Take.head | apply Take.tail)); done) | ((repeat (first | exact Take.head | apply Take.tail)); done)) | refine Conv.drop ?_)) s) ?_
    refine d_q 18 rfl (Q_adds (hs := by first | omega | (simp only [ByteArray.size_append, bs_size, sz_mk, List.size_toArray, List.length_cons, List.length_nil]; omega))) (fun _ s => Conv.sat (by repeat (first | with_reducible exact Conv.refl | exact Conv.nil | (apply Conv.cons; · first | ((repeat (first | with_reducible exact Take.head | apply Take.tail)); done) | ((repeat (first | exact Take.head | apply Take.tail)); done)) | refine Conv.drop ?_)) s) (by repeat (first | exact PanicOk.body | exact PanicOk.bodyD (by intros; simp [results, Act.put]) | refine PanicOk.then ?_ | refine PanicOk.block ?_ | refine PanicOk.scope ?_)) (by kernel_rfl) ?_
    refine d_l 19 (by kernel_rfl) rfl rfl ?_
    refine l_q Q_assign ?_
    refine d_tail ?_ (by kernel_rfl)
    refine d_nil (by kernel_rfl) ?_
    refine e_then ?_
    refine c_ret ?_
    refine ret1 (fun w s => ?_)
    have hq := hp () trivial w
    simp only [← hq0] at hq
    exact hq (Conv.sat (by repeat (first | with_reducible exact Conv.refl | exact Conv.nil | (apply Conv.cons; · first | ((repeat (first | with_reducible exact Take.head | apply Take.tail)); done) | ((repeat (first | exact Take.head | apply Take.tail)); done)) | refine Conv.drop ?_)) s)
theorem f_name (s : B) (hs : s.length ≤ 4000000000) : Ct Tryd.prog 24 #[.string (bs s)] (fun F => F) (fun _ : Unit => True) (fun _ => .bool (decide (nameOk s))) (fun _ F => F) := by
  refine Ct.of (args := [.string (bs s)]) Tryd.func24 rfl Tryd.ntmps24 (Nat.le_of_ble_eq_true rfl) ?_
  intro F K hp
  have hz := bs_size s
  refine c_seq ?_
  refine reg ?_
  refine r_q Q_assign ?_
  refine r_nil ?_
  refine e_then ?_
  refine c_seq ?_
  refine c_seq ?_
  refine reg ?_
  refine r_q Q_assign ?_
  refine r_nil ?_
  refine e_then ?_
  refine c_block ?_
  refine c_loop (α := Nat) (fun k => k ≤ s.length ∧ ∀ c ∈ s.take k, okc c) (fun k => [(0, .string (bs s)), (3, .int .i64 (k : Nat)), (2, .bool false)]) (fun _ => F) (fun k => s.length - k) 0 ⟨Nat.zero_le _, by simp⟩ ⟨rfl, rfl, rfl, trivial⟩ (fun _ s => s) ?_
  rintro k ⟨hk, hok⟩
  refine c_seq ?_
  refine c_seq ?_
  refine reg ?_
  refine r_q Q_move ?_
  refine r_q Q_move ?_
  refine r_q (Q_lens Tryd.underlying9) ?_
  refine r_q Q_lss ?_
  refine r_nil ?_
  refine e_then ?_
  first | refine c_dec rfl (fun hc1 => ?_) (fun hc1 => ?_) | refine c_ndec rfl (fun hc1 => ?_) (fun hc1 => ?_) | refine c_cond rfl (fun hc1 => ?_) (fun hc1 => ?_)
  · refine c_skip ?_
    refine e_then ?_
    refine c_seq ?_
    refine c_block ?_
    refine c_seq ?_
    obtain ⟨c, hc⟩ := at_lt (l := s) (i := k) (by omega)
    refine reg ?_
    refine r_q Q_move ?_
    refine r_q Q_move ?_
    refine r_q (Q_indexb Tryd.underlying9 hc) ?_
    refine r_q Q_assign ?_
    refine r_nil ?_
    refine e_then ?_
    refine c_seq ?_
    refine reg ?_
    refine r_q Q_move ?_
    refine r_q Q_geq ?_
    refine r_q Q_move ?_
    first | refine b_dec (t := 16) rfl (fun hc2 => ?_) (fun hc2 => ?_) | refine b_ndec (t := 16) rfl (fun hc2 => ?_) (fun hc2 => ?_) | refine b_bool (t := 16) rfl (fun hc2 => ?_) (fun hc2 => ?_)
    · refine r_yq Q_move ?_
      refine r_yq Q_leq ?_
      refine r_q Q_pickT ?_
      refine r_q Q_move ?_
      first | refine b_dec (t := 20) rfl (fun hc3 => ?_) (fun hc3 => ?_) | refine b_ndec (t := 20) rfl (fun hc3 => ?_) (fun hc3 => ?_) | refine b_bool (t := 20) rfl (fun hc3 => ?_) (fun hc3 => ?_)
      · refine r_no ?_
        refine r_no ?_
        refine r_no ?_
        refine r_nu ?_
        refine r_nu ?_
        refine r_no ?_
        refine r_q Q_pickT ?_
        refine r_q Q_move ?_
        refine r_no ?_
        refine r_no ?_
        refine r_q Q_pickT ?_
        refine r_q Q_move ?_
        refine r_no ?_
        refine r_no ?_
        refine r_q Q_pickT ?_
        refine r_q Q_not ?_
        refine r_nil ?_
        refine e_then ?_
        refine c_false ?_
        refine c_skip ?_
        refine e_blockn ?_
        refine e_then ?_
        refine reg ?_
        refine r_q Q_move ?_
        refine r_q Q_addn ?_
        refine r_q Q_assign ?_
        refine r_nil ?_
        refine e_then ?_
        exact c_back (k + 1) ⟨by omega, name_step hc hok (by unfold okc; omega)⟩ (by omega) ⟨rfl, rfl, rfl, trivial⟩ (fun _ s => s)
      · refine r_yq Q_move ?_
        refine r_yq Q_geq ?_
        refine r_yq Q_move ?_
        first | refine b_dec (t := 23) rfl (fun hc4 => ?_) (fun hc4 => ?_) | refine b_ndec (t := 23) rfl (fun hc4 => ?_) (fun hc4 => ?_) | refine b_bool (t := 23) rfl (fun hc4 => ?_) (fun hc4 => ?_)
        · refine r_yq Q_move ?_
          refine r_yq Q_leq ?_
          refine r_yq Q_pickT ?_
          refine r_q Q_pickF ?_
          refine r_q Q_move ?_
          first | refine b_dec (t := 28) rfl (fun hc5 => ?_) (fun hc5 => ?_) | refine b_ndec (t := 28) rfl (fun hc5 => ?_) (fun hc5 => ?_) | refine b_bool (t := 28) rfl (fun hc5 => ?_) (fun hc5 => ?_)
          · refine r_no ?_
            refine r_no ?_
            refine r_q Q_pickT ?_
            refine r_q Q_move ?_
            refine r_no ?_
            refine r_no ?_
            refine r_q Q_pickT ?_
            refine r_q Q_not ?_
            refine r_nil ?_
            refine e_then ?_
            refine c_false ?_
            refine c_skip ?_
            refine e_blockn ?_
            refine e_then ?_
            refine reg ?_
            refine r_q Q_move ?_
            refine r_q Q_addn ?_
            refine r_q Q_assign ?_
            refine r_nil ?_
            refine e_then ?_
            exact c_back (k + 1) ⟨by omega, name_step hc hok (by unfold okc; omega)⟩ (by omega) ⟨rfl, rfl, rfl, trivial⟩ (fun _ s => s)
          · refine r_yq Q_move ?_
            refine r_yq Q_eql ?_
            refine r_q Q_pickF ?_
            refine r_q Q_move ?_
            first | refine b_dec (t := 32) rfl (fun hc6 => ?_) (fun hc6 => ?_) | refine b_ndec (t := 32) rfl (fun hc6 => ?_) (fun hc6 => ?_) | refine b_bool (t := 32) rfl (fun hc6 => ?_) (fun hc6 => ?_)
            · refine r_no ?_
              refine r_no ?_
              refine r_q Q_pickT ?_
              refine r_q Q_not ?_
              refine r_nil ?_
              refine e_then ?_
              refine c_false ?_
              refine c_skip ?_
              refine e_blockn ?_
              refine e_then ?_
              refine reg ?_
              refine r_q Q_move ?_
              refine r_q Q_addn ?_
              refine r_q Q_assign ?_
              refine r_nil ?_
              refine e_then ?_
              exact c_back (k + 1) ⟨by omega, name_step hc hok (by unfold okc; omega)⟩ (by omega) ⟨rfl, rfl, rfl, trivial⟩ (fun _ s => s)
            · refine r_yq Q_move ?_
              refine r_yq Q_eql ?_
              refine r_q Q_pickF ?_
              refine r_q Q_not ?_
              refine r_nil ?_
              refine e_then ?_
              first | refine c_dec rfl (fun hc7 => ?_) (fun hc7 => ?_) | refine c_ndec rfl (fun hc7 => ?_) (fun hc7 => ?_) | refine c_cond rfl (fun hc7 => ?_) (fun hc7 => ?_)
              · refine c_seq ?_
                refine reg ?_
                refine r_q Q_assign ?_
                refine r_nil ?_
                refine e_then ?_
                refine c_ret ?_
                refine e_blockr ?_
                refine e_thenr ?_
                refine e_thenr ?_
                refine e_blockr ?_
                refine e_thenr ?_
                first
                  | exact ret1 (v := .bool false) (fun w s' => by have hq := hp () trivial w s'; rwa [decide_eq_false (fun h => by have h2 := h.2.2 c (List.mem_of_getElem? hc); unfold okc at h2; omega)] at hq)
                  | exact ret1 (v := .bool false) (fun w s' => by have hq := hp () trivial w s'; rwa [decide_eq_false (fun h => by have h2 := h.1; have h3 := h.2.1; omega)] at hq)
                  | exact ret1 (fun w s' => by have hq := hp () trivial w s'; rwa [show decide (nameOk s) = decide (((bs s).size : Int) ≤ 16) from decide_eq_decide.2 ⟨fun h => by have := h.2.1; omega, fun h => ⟨by omega, by omega, hall⟩⟩] at hq)
              · refine c_skip ?_
                refine e_blockn ?_
                refine e_then ?_
                refine reg ?_
                refine r_q Q_move ?_
                refine r_q Q_addn ?_
                refine r_q Q_assign ?_
                refine r_nil ?_
                refine e_then ?_
                exact c_back (k + 1) ⟨by omega, name_step hc hok (by unfold okc; omega)⟩ (by omega) ⟨rfl, rfl, rfl, trivial⟩ (fun _ s => s)
        · refine r_no ?_
          refine r_no ?_
          refine r_yq Q_pickF ?_
          refine r_q Q_pickF ?_
          refine r_q Q_move ?_
          refine r_yq Q_move ?_
          refine r_yq Q_eql ?_
          refine r_q Q_pickF ?_
          refine r_q Q_move ?_
          first | refine b_dec (t := 32) rfl (fun hc8 => ?_) (fun hc8 => ?_) | refine b_ndec (t := 32) rfl (fun hc8 => ?_) (fun hc8 => ?_) | refine b_bool (t := 32) rfl (fun hc8 => ?_) (fun hc8 => ?_)
          · refine r_no ?_
            refine r_no ?_
            refine r_q Q_pickT ?_
            refine r_q Q_not ?_
            refine r_nil ?_
            refine e_then ?_
            refine c_false ?_
            refine c_skip ?_
            refine e_blockn ?_
            refine e_then ?_
            refine reg ?_
            refine r_q Q_move ?_
            refine r_q Q_addn ?_
            refine r_q Q_assign ?_
            refine r_nil ?_
            refine e_then ?_
            exact c_back (k + 1) ⟨by omega, name_step hc hok (by unfold okc; omega)⟩ (by omega) ⟨rfl, rfl, rfl, trivial⟩ (fun _ s => s)
          · refine r_yq Q_move ?_
            refine r_yq Q_eql ?_
            refine r_q Q_pickF ?_
            refine r_q Q_not ?_
            refine r_nil ?_
            refine e_then ?_
            first | refine c_dec rfl (fun hc9 => ?_) (fun hc9 => ?_) | refine c_ndec rfl (fun hc9 => ?_) (fun hc9 => ?_) | refine c_cond rfl (fun hc9 => ?_) (fun hc9 => ?_)
            · refine c_seq ?_
              refine reg ?_
              refine r_q Q_assign ?_
              refine r_nil ?_
              refine e_then ?_
              refine c_ret ?_
              refine e_blockr ?_
              refine e_thenr ?_
              refine e_thenr ?_
              refine e_blockr ?_
              refine e_thenr ?_
              first
                | exact ret1 (v := .bool false) (fun w s' => by have hq := hp () trivial w s'; rwa [decide_eq_false (fun h => by have h2 := h.2.2 c (List.mem_of_getElem? hc); unfold okc at h2; omega)] at hq)
                | exact ret1 (v := .bool false) (fun w s' => by have hq := hp () trivial w s'; rwa [decide_eq_false (fun h => by have h2 := h.1; have h3 := h.2.1; omega)] at hq)
                | exact ret1 (fun w s' => by have hq := hp () trivial w s'; rwa [show decide (nameOk s) = decide (((bs s).size : Int) ≤ 16) from decide_eq_decide.2 ⟨fun h => by have := h.2.1; omega, fun h => ⟨by omega, by omega, hall⟩⟩] at hq)
            · refine c_skip ?_
              refine e_blockn ?_
              refine e_then ?_
              refine reg ?_
              refine r_q Q_move ?_
              refine r_q Q_addn ?_
              refine r_q Q_assign ?_
              refine r_nil ?_
              refine e_then ?_
              exact c_back (k + 1) ⟨by omega, name_step hc hok (by unfold okc; omega)⟩ (by omega) ⟨rfl, rfl, rfl, trivial⟩ (fun _ s => s)
    · refine r_no ?_
      refine r_no ?_
      refine r_q Q_pickF ?_
      refine r_q Q_move ?_
      refine r_yq Q_move ?_
      refine r_yq Q_geq ?_
      refine r_yq Q_move ?_
      first | refine b_dec (t := 23) rfl (fun hc10 => ?_) (fun hc10 => ?_) | refine b_ndec (t := 23) rfl (fun hc10 => ?_) (fun hc10 => ?_) | refine b_bool (t := 23) rfl (fun hc10 => ?_) (fun hc10 => ?_)
      · refine r_yq Q_move ?_
        refine r_yq Q_leq ?_
        refine r_yq Q_pickT ?_
        refine r_q Q_pickF ?_
        refine r_q Q_move ?_
        first | refine b_dec (t := 28) rfl (fun hc11 => ?_) (fun hc11 => ?_) | refine b_ndec (t := 28) rfl (fun hc11 => ?_) (fun hc11 => ?_) | refine b_bool (t := 28) rfl (fun hc11 => ?_) (fun hc11 => ?_)
        · refine r_no ?_
          refine r_no ?_
          refine r_q Q_pickT ?_
          refine r_q Q_move ?_
          refine r_no ?_
          refine r_no ?_
          refine r_q Q_pickT ?_
          refine r_q Q_not ?_
          refine r_nil ?_
          refine e_then ?_
          refine c_false ?_
          refine c_skip ?_
          refine e_blockn ?_
          refine e_then ?_
          refine reg ?_
          refine r_q Q_move ?_
          refine r_q Q_addn ?_
          refine r_q Q_assign ?_
          refine r_nil ?_
          refine e_then ?_
          exact c_back (k + 1) ⟨by omega, name_step hc hok (by unfold okc; omega)⟩ (by omega) ⟨rfl, rfl, rfl, trivial⟩ (fun _ s => s)
        · refine r_yq Q_move ?_
          refine r_yq Q_eql ?_
          refine r_q Q_pickF ?_
          refine r_q Q_move ?_
          first | refine b_dec (t := 32) rfl (fun hc12 => ?_) (fun hc12 => ?_) | refine b_ndec (t := 32) rfl (fun hc12 => ?_) (fun hc12 => ?_) | refine b_bool (t := 32) rfl (fun hc12 => ?_) (fun hc12 => ?_)
          · refine r_no ?_
            refine r_no ?_
            refine r_q Q_pickT ?_
            refine r_q Q_not ?_
            refine r_nil ?_
            refine e_then ?_
            refine c_false ?_
            refine c_skip ?_
            refine e_blockn ?_
            refine e_then ?_
            refine reg ?_
            refine r_q Q_move ?_
            refine r_q Q_addn ?_
            refine r_q Q_assign ?_
            refine r_nil ?_
            refine e_then ?_
            exact c_back (k + 1) ⟨by omega, name_step hc hok (by unfold okc; omega)⟩ (by omega) ⟨rfl, rfl, rfl, trivial⟩ (fun _ s => s)
          · refine r_yq Q_move ?_
            refine r_yq Q_eql ?_
            refine r_q Q_pickF ?_
            refine r_q Q_not ?_
            refine r_nil ?_
            refine e_then ?_
            first | refine c_dec rfl (fun hc13 => ?_) (fun hc13 => ?_) | refine c_ndec rfl (fun hc13 => ?_) (fun hc13 => ?_) | refine c_cond rfl (fun hc13 => ?_) (fun hc13 => ?_)
            · refine c_seq ?_
              refine reg ?_
              refine r_q Q_assign ?_
              refine r_nil ?_
              refine e_then ?_
              refine c_ret ?_
              refine e_blockr ?_
              refine e_thenr ?_
              refine e_thenr ?_
              refine e_blockr ?_
              refine e_thenr ?_
              first
                | exact ret1 (v := .bool false) (fun w s' => by have hq := hp () trivial w s'; rwa [decide_eq_false (fun h => by have h2 := h.2.2 c (List.mem_of_getElem? hc); unfold okc at h2; omega)] at hq)
                | exact ret1 (v := .bool false) (fun w s' => by have hq := hp () trivial w s'; rwa [decide_eq_false (fun h => by have h2 := h.1; have h3 := h.2.1; omega)] at hq)
                | exact ret1 (fun w s' => by have hq := hp () trivial w s'; rwa [show decide (nameOk s) = decide (((bs s).size : Int) ≤ 16) from decide_eq_decide.2 ⟨fun h => by have := h.2.1; omega, fun h => ⟨by omega, by omega, hall⟩⟩] at hq)
            · refine c_skip ?_
              refine e_blockn ?_
              refine e_then ?_
              refine reg ?_
              refine r_q Q_move ?_
              refine r_q Q_addn ?_
              refine r_q Q_assign ?_
              refine r_nil ?_
              refine e_then ?_
              exact c_back (k + 1) ⟨by omega, name_step hc hok (by unfold okc; omega)⟩ (by omega) ⟨rfl, rfl, rfl, trivial⟩ (fun _ s => s)
      · refine r_no ?_
        refine r_no ?_
        refine r_yq Q_pickF ?_
        refine r_q Q_pickF ?_
        refine r_q Q_move ?_
        refine r_yq Q_move ?_
        refine r_yq Q_eql ?_
        refine r_q Q_pickF ?_
        refine r_q Q_move ?_
        first | refine b_dec (t := 32) rfl (fun hc14 => ?_) (fun hc14 => ?_) | refine b_ndec (t := 32) rfl (fun hc14 => ?_) (fun hc14 => ?_) | refine b_bool (t := 32) rfl (fun hc14 => ?_) (fun hc14 => ?_)
        · refine r_no ?_
          refine r_no ?_
          refine r_q Q_pickT ?_
          refine r_q Q_not ?_
          refine r_nil ?_
          refine e_then ?_
          refine c_false ?_
          refine c_skip ?_
          refine e_blockn ?_
          refine e_then ?_
          refine reg ?_
          refine r_q Q_move ?_
          refine r_q Q_addn ?_
          refine r_q Q_assign ?_
          refine r_nil ?_
          refine e_then ?_
          exact c_back (k + 1) ⟨by omega, name_step hc hok (by unfold okc; omega)⟩ (by omega) ⟨rfl, rfl, rfl, trivial⟩ (fun _ s => s)
        · refine r_yq Q_move ?_
          refine r_yq Q_eql ?_
          refine r_q Q_pickF ?_
          refine r_q Q_not ?_
          refine r_nil ?_
          refine e_then ?_
          first | refine c_dec rfl (fun hc15 => ?_) (fun hc15 => ?_) | refine c_ndec rfl (fun hc15 => ?_) (fun hc15 => ?_) | refine c_cond rfl (fun hc15 => ?_) (fun hc15 => ?_)
          · refine c_seq ?_
            refine reg ?_
            refine r_q Q_assign ?_
            refine r_nil ?_
            refine e_then ?_
            refine c_ret ?_
            refine e_blockr ?_
            refine e_thenr ?_
            refine e_thenr ?_
            refine e_blockr ?_
            refine e_thenr ?_
            first
              | exact ret1 (v := .bool false) (fun w s' => by have hq := hp () trivial w s'; rwa [decide_eq_false (fun h => by have h2 := h.2.2 c (List.mem_of_getElem? hc); unfold okc at h2; omega)] at hq)
              | exact ret1 (v := .bool false) (fun w s' => by have hq := hp () trivial w s'; rwa [decide_eq_false (fun h => by have h2 := h.1; have h3 := h.2.1; omega)] at hq)
              | exact ret1 (fun w s' => by have hq := hp () trivial w s'; rwa [show decide (nameOk s) = decide (((bs s).size : Int) ≤ 16) from decide_eq_decide.2 ⟨fun h => by have := h.2.1; omega, fun h => ⟨by omega, by omega, hall⟩⟩] at hq)
          · refine c_skip ?_
            refine e_blockn ?_
            refine e_then ?_
            refine reg ?_
            refine r_q Q_move ?_
            refine r_q Q_addn ?_
            refine r_q Q_assign ?_
            refine r_nil ?_
            refine e_then ?_
            exact c_back (k + 1) ⟨by omega, name_step hc hok (by unfold okc; omega)⟩ (by omega) ⟨rfl, rfl, rfl, trivial⟩ (fun _ s => s)
  · refine c_exit ?_
    refine e_thenx ?_
    refine e_thenx ?_
    refine e_block ?_
    refine e_then ?_
    refine c_seq ?_
    have hall : ∀ c ∈ s, okc c := by
      rw [List.take_of_length_le (by omega)] at hok
      exact hok
    refine reg ?_
    refine r_q Q_move ?_
    refine r_q (Q_lens Tryd.underlying9) ?_
    refine r_q Q_geq ?_
    refine r_q Q_move ?_
    first | refine b_dec (t := 40) rfl (fun hc16 => ?_) (fun hc16 => ?_) | refine b_ndec (t := 40) rfl (fun hc16 => ?_) (fun hc16 => ?_) | refine b_bool (t := 40) rfl (fun hc16 => ?_) (fun hc16 => ?_)
    · refine r_yq Q_move ?_
      refine r_yq (Q_lens Tryd.underlying9) ?_
      refine r_yq Q_leq ?_
      refine r_q Q_pickT ?_
      refine r_q Q_assign ?_
      refine r_nil ?_
      refine e_then ?_
      refine c_ret ?_
      first
        | exact ret1 (v := .bool false) (fun w s' => by have hq := hp () trivial w s'; rwa [decide_eq_false (fun h => by have h2 := h.2.2 c (List.mem_of_getElem? hc); unfold okc at h2; omega)] at hq)
        | exact ret1 (v := .bool false) (fun w s' => by have hq := hp () trivial w s'; rwa [decide_eq_false (fun h => by have h2 := h.1; have h3 := h.2.1; omega)] at hq)
        | exact ret1 (fun w s' => by have hq := hp () trivial w s'; rwa [show decide (nameOk s) = decide (((bs s).size : Int) ≤ 16) from decide_eq_decide.2 ⟨fun h => by have := h.2.1; omega, fun h => ⟨by omega, by omega, hall⟩⟩] at hq)
    · refine r_no ?_
      refine r_no ?_
      refine r_no ?_
      refine r_q Q_pickF ?_
      refine r_q Q_assign ?_
      refine r_nil ?_
      refine e_then ?_
      refine c_ret ?_
      first
        | exact ret1 (v := .bool false) (fun w s' => by have hq := hp () trivial w s'; rwa [decide_eq_false (fun h => by have h2 := h.2.2 c (List.mem_of_getElem? hc); unfold okc at h2; omega)] at hq)
        | exact ret1 (v := .bool false) (fun w s' => by have hq := hp () trivial w s'; rwa [decide_eq_false (fun h => by have h2 := h.1; have h3 := h.2.1; omega)] at hq)
        | exact ret1 (fun w s' => by have hq := hp () trivial w s'; rwa [show decide (nameOk s) = decide (((bs s).size : Int) ≤ 16) from decide_eq_decide.2 ⟨fun h => by have := h.2.1; omega, fun h => ⟨by omega, by omega, hall⟩⟩] at hq)
theorem f_same (a b : Option Addr) (ca cb ca' cb' : Nat) (la lb : List Int) (hs : la.length ≤ 4000000000) : Ct Tryd.prog 10 #[.slice a la.length ca', .slice b lb.length cb'] (fun F => SlT eI a ca la :: SlT eI b cb lb :: F) (fun _ : Unit => True) (fun _ => .bool (decide (la = lb))) (fun _ F => SlT eI a ca la :: SlT eI b cb lb :: F) := by
  refine Ct.of (args := [.slice a la.length ca', .slice b lb.length cb']) Tryd.func10 rfl Tryd.ntmps10 (Nat.le_of_ble_eq_true rfl) ?_
  intro F K hp
  refine c_seq ?_
  refine reg ?_
  refine r_q Q_assign ?_
  refine r_nil ?_
  refine e_then ?_
  refine c_seq ?_
  refine c_seq ?_
  refine reg ?_
  refine r_q Q_move ?_
  refine r_q (Q_lenl Tryd.underlying26) ?_
  refine r_q Q_move ?_
  refine r_q (Q_lenl Tryd.underlying26) ?_
  refine r_q Q_neq ?_
  refine r_nil ?_
  refine e_then ?_
  first | refine c_dec rfl (fun hc1 => ?_) (fun hc1 => ?_) | refine c_ndec rfl (fun hc1 => ?_) (fun hc1 => ?_) | refine c_cond rfl (fun hc1 => ?_) (fun hc1 => ?_)
  · refine c_seq ?_
    refine reg ?_
    refine r_q Q_assign ?_
    refine r_nil ?_
    refine e_then ?_
    refine c_ret ?_
    refine e_thenr ?_
    exact ret1 (v := .bool false) (fun w s' => by have hq := hp () trivial w s'; rwa [decide_eq_false (fun h => by subst h; exact hc1 rfl)] at hq)
  · refine c_skip ?_
    refine e_then ?_
    refine c_seq ?_
    refine c_seq ?_
    refine reg ?_
    refine r_q Q_assign ?_
    refine r_nil ?_
    refine e_then ?_
    refine c_block ?_
    refine c_loop (α := Nat) (fun k => k ≤ la.length ∧ la.take k = lb.take k) (fun k => [(0, .slice a la.length ca'), (1, .slice b lb.length cb'), (5, .int .i64 (k : Nat)), (4, .bool false)]) (fun _ => SlT eI a ca la :: SlT eI b cb lb :: F) (fun k => la.length - k) 0 ⟨Nat.zero_le _, by simp⟩ ⟨rfl, rfl, rfl, rfl, trivial⟩ (fun _ s => s) ?_
    rintro k ⟨hk, hok⟩
    refine c_seq ?_
    refine c_seq ?_
    refine reg ?_
    refine r_q Q_move ?_
    refine r_q Q_move ?_
    refine r_q (Q_lenl Tryd.underlying26) ?_
    refine r_q Q_lss ?_
    refine r_nil ?_
    refine e_then ?_
    first | refine c_dec rfl (fun hc2 => ?_) (fun hc2 => ?_) | refine c_ndec rfl (fun hc2 => ?_) (fun hc2 => ?_) | refine c_cond rfl (fun hc2 => ?_) (fun hc2 => ?_)
    · refine c_skip ?_
      refine e_then ?_
      refine c_seq ?_
      refine c_block ?_
      refine c_seq ?_
      obtain ⟨x, hx⟩ := at_lt (l := la) (i := k) (by omega)
      obtain ⟨y, hy⟩ := at_lt (l := lb) (i := k) (by omega)
      refine dreg (N := 9) [SlT eI a ca la, SlT eI b cb lb] 9 ?_ mixed rfl
      refine d_q 0 rfl Q_move (fun _ s => Conv.sat (by repeat (first | with_reducible exact Conv.refl | exact Conv.nil | (apply Conv.cons; · first | ((repeat (first | with_reducible exact Take.head | apply Take.tail)); done) | ((repeat (first | exact Take.head | apply Take.tail)); done)) | refine Conv.drop ?_)) s) (by repeat (first | exact PanicOk.body | exact PanicOk.bodyD (by intros; simp [results, Act.put]) | refine PanicOk.then ?_ | refine PanicOk.block ?_ | refine PanicOk.scope ?_)) (by kernel_rfl) ?_
      refine d_q 1 rfl Q_move (fun _ s => Conv.sat (by repeat (first | with_reducible exact Conv.refl | exact Conv.nil | (apply Conv.cons; · first | ((repeat (first | with_reducible exact Take.head | apply Take.tail)); done) | ((repeat (first | exact Take.head | apply Take.tail)); done)) | refine Conv.drop ?_)) s) (by repeat (first | exact PanicOk.body | exact PanicOk.bodyD (by intros; simp [results, Act.put]) | refine PanicOk.then ?_ | refine PanicOk.block ?_ | refine PanicOk.scope ?_)) (by kernel_rfl) ?_
      first | refine d_q 2 rfl (Q_indexl Tryd.underlying26 sz_3) (fun _ s => Conv.sat (by repeat (first | with_reducible exact Conv.refl | exact Conv.nil | (apply Conv.cons; · first | ((repeat (first | with_reducible exact Take.head | apply Take.tail)); done) | ((repeat (first | exact Take.head | apply Take.tail)); done)) | refine Conv.drop ?_)) s) (by repeat (first | exact PanicOk.body | exact PanicOk.bodyD (by intros; simp [results, Act.put]) | refine PanicOk.then ?_ | refine PanicOk.block ?_ | refine PanicOk.scope ?_)) (by kernel_rfl) ?_ | refine d_q 2 rfl (Q_idxT' Tryd.underlying26 sz_3) (fun _ s => Conv.sat (by repeat (first | with_reducible exact Conv.refl | exact Conv.nil | (apply Conv.cons; · first | ((repeat (first | with_reducible exact Take.head | apply Take.tail)); done) | ((repeat (first | exact Take.head | apply Take.tail)); done)) | refine Conv.drop ?_)) s) (by repeat (first | exact PanicOk.body | exact PanicOk.bodyD (by intros; simp [results, Act.put]) | refine PanicOk.then ?_ | refine PanicOk.block ?_ | refine PanicOk.scope ?_)) (by kernel_rfl) ?_
      first | refine d_q 3 rfl (Q_load pl_3) (fun _ s => Conv.sat (by repeat (first | with_reducible exact Conv.refl | exact Conv.nil | (apply Conv.cons; · first | ((repeat (first | with_reducible exact Take.head | apply Take.tail)); done) | ((repeat (first | exact Take.head | apply Take.tail)); done)) | refine Conv.drop ?_)) s) (by repeat (first | exact PanicOk.body | exact PanicOk.bodyD (by intros; simp [results, Act.put]) | refine PanicOk.then ?_ | refine PanicOk.block ?_ | refine PanicOk.scope ?_)) (by kernel_rfl) ?_ | refine d_q 3 rfl (Q_ldT' pl_3) (fun _ s => Conv.sat (by repeat (first | with_reducible exact Conv.refl | exact Conv.nil | (apply Conv.cons; · first | ((repeat (first | with_reducible exact Take.head | apply Take.tail)); done) | ((repeat (first | exact Take.head | apply Take.tail)); done)) | refine Conv.drop ?_)) s) (by repeat (first | exact PanicOk.body | exact PanicOk.bodyD (by intros; simp [results, Act.put]) | refine PanicOk.then ?_ | refine PanicOk.block ?_ | refine PanicOk.scope ?_)) (by kernel_rfl) ?_ | refine d_q 3 rfl (Q_ldTf' pl_3) (fun _ s => Conv.sat (by repeat (first | with_reducible exact Conv.refl | exact Conv.nil | (apply Conv.cons; · first | ((repeat (first | with_reducible exact Take.head | apply Take.tail)); done) | ((repeat (first | exact Take.head | apply Take.tail)); done)) | refine Conv.drop ?_)) s) (by repeat (first | exact PanicOk.body | exact PanicOk.bodyD (by intros; simp [results, Act.put]) | refine PanicOk.then ?_ | refine PanicOk.block ?_ | refine PanicOk.scope ?_)) (by kernel_rfl) ?_
      refine d_q 4 rfl Q_move (fun _ s => Conv.sat (by repeat (first | with_reducible exact Conv.refl | exact Conv.nil | (apply Conv.cons; · first | ((repeat (first | with_reducible exact Take.head | apply Take.tail)); done) | ((repeat (first | exact Take.head | apply Take.tail)); done)) | refine Conv.drop ?_)) s) (by repeat (first | exact PanicOk.body | exact PanicOk.bodyD (by intros; simp [results, Act.put]) | refine PanicOk.then ?_ | refine PanicOk.block ?_ | refine PanicOk.scope ?_)) (by kernel_rfl) ?_
      refine d_q 5 rfl Q_move (fun _ s => Conv.sat (by repeat (first | with_reducible exact Conv.refl | exact Conv.nil | (apply Conv.cons; · first | ((repeat (first | with_reducible exact Take.head | apply Take.tail)); done) | ((repeat (first | exact Take.head | apply Take.tail)); done)) | refine Conv.drop ?_)) s) (by repeat (first | exact PanicOk.body | exact PanicOk.bodyD (by intros; simp [results, Act.put]) | refine PanicOk.then ?_ | refine PanicOk.block ?_ | refine PanicOk.scope ?_)) (by kernel_rfl) ?_
      first | refine d_q 6 rfl (Q_indexl Tryd.underlying26 sz_3) (fun _ s => Conv.sat (by repeat (first | with_reducible exact Conv.refl | exact Conv.nil | (apply Conv.cons; · first | ((repeat (first | with_reducible exact Take.head | apply Take.tail)); done) | ((repeat (first | exact Take.head | apply Take.tail)); done)) | refine Conv.drop ?_)) s) (by repeat (first | exact PanicOk.body | exact PanicOk.bodyD (by intros; simp [results, Act.put]) | refine PanicOk.then ?_ | refine PanicOk.block ?_ | refine PanicOk.scope ?_)) (by kernel_rfl) ?_ | refine d_q 6 rfl (Q_idxT' Tryd.underlying26 sz_3) (fun _ s => Conv.sat (by repeat (first | with_reducible exact Conv.refl | exact Conv.nil | (apply Conv.cons; · first | ((repeat (first | with_reducible exact Take.head | apply Take.tail)); done) | ((repeat (first | exact Take.head | apply Take.tail)); done)) | refine Conv.drop ?_)) s) (by repeat (first | exact PanicOk.body | exact PanicOk.bodyD (by intros; simp [results, Act.put]) | refine PanicOk.then ?_ | refine PanicOk.block ?_ | refine PanicOk.scope ?_)) (by kernel_rfl) ?_
      first | refine d_q 7 rfl (Q_load pl_3) (fun _ s => Conv.sat (by repeat (first | with_reducible exact Conv.refl | exact Conv.nil | (apply Conv.cons; · first | ((repeat (first | with_reducible exact Take.head | apply Take.tail)); done) | ((repeat (first | exact Take.head | apply Take.tail)); done)) | refine Conv.drop ?_)) s) (by repeat (first | exact PanicOk.body | exact PanicOk.bodyD (by intros; simp [results, Act.put]) | refine PanicOk.then ?_ | refine PanicOk.block ?_ | refine PanicOk.scope ?_)) (by kernel_rfl) ?_ | refine d_q 7 rfl (Q_ldT' pl_3) (fun _ s => Conv.sat (by repeat (first | with_reducible exact Conv.refl | exact Conv.nil | (apply Conv.cons; · first | ((repeat (first | with_reducible exact Take.head | apply Take.tail)); done) | ((repeat (first | exact Take.head | apply Take.tail)); done)) | refine Conv.drop ?_)) s) (by repeat (first | exact PanicOk.body | exact PanicOk.bodyD (by intros; simp [results, Act.put]) | refine PanicOk.then ?_ | refine PanicOk.block ?_ | refine PanicOk.scope ?_)) (by kernel_rfl) ?_ | refine d_q 7 rfl (Q_ldTf' pl_3) (fun _ s => Conv.sat (by repeat (first | with_reducible exact Conv.refl | exact Conv.nil | (apply Conv.cons; · first | ((repeat (first | with_reducible exact Take.head | apply Take.tail)); done) | ((repeat (first | exact Take.head | apply Take.tail)); done)) | refine Conv.drop ?_)) s) (by repeat (first | exact PanicOk.body | exact PanicOk.bodyD (by intros; simp [results, Act.put]) | refine PanicOk.then ?_ | refine PanicOk.block ?_ | refine PanicOk.scope ?_)) (by kernel_rfl) ?_
      refine d_q 8 rfl Q_neq (fun _ s => Conv.sat (by repeat (first | with_reducible exact Conv.refl | exact Conv.nil | (apply Conv.cons; · first | ((repeat (first | with_reducible exact Take.head | apply Take.tail)); done) | ((repeat (first | exact Take.head | apply Take.tail)); done)) | refine Conv.drop ?_)) s) (by repeat (first | exact PanicOk.body | exact PanicOk.bodyD (by intros; simp [results, Act.put]) | refine PanicOk.then ?_ | refine PanicOk.block ?_ | refine PanicOk.scope ?_)) (by kernel_rfl) ?_
      refine d_nil (by kernel_rfl) ?_
      refine e_then ?_
      first | refine c_dec rfl (fun hc3 => ?_) (fun hc3 => ?_) | refine c_ndec rfl (fun hc3 => ?_) (fun hc3 => ?_) | refine c_cond rfl (fun hc3 => ?_) (fun hc3 => ?_)
      · refine c_seq ?_
        refine reg ?_
        refine r_q Q_assign ?_
        refine r_nil ?_
        refine e_then ?_
        refine c_ret ?_
        refine e_blockr ?_
        refine e_thenr ?_
        refine e_thenr ?_
        refine e_blockr ?_
        refine e_thenr ?_
        exact ret1 (v := .bool false) (fun w s' => by have hq := hp () trivial w s'; rwa [decide_eq_false (fun h => by subst h; rw [hx] at hy; cases hy; exact hc3 rfl)] at hq)
      · refine c_skip ?_
        refine e_blockn ?_
        refine e_then ?_
        refine reg ?_
        refine r_q Q_move ?_
        refine r_q Q_addn ?_
        refine r_q Q_assign ?_
        refine r_nil ?_
        refine e_then ?_
        obtain rfl : x = y := by omega
        exact c_back (k + 1) ⟨by omega, take_same hok hx hy⟩ (by omega) ⟨rfl, rfl, rfl, rfl, trivial⟩ (fun _ s => s)
    · refine c_exit ?_
      refine e_thenx ?_
      refine e_thenx ?_
      refine e_block ?_
      refine e_then ?_
      refine c_seq ?_
      refine reg ?_
      refine r_q Q_assign ?_
      refine r_nil ?_
      refine e_then ?_
      refine c_ret ?_
      exact ret1 (v := .bool true) (fun w s' => by have hq := hp () trivial w s'; rwa [decide_eq_true (by rw [List.take_of_length_le (by omega), List.take_of_length_le (by omega)] at hok; exact hok)] at hq)
theorem m_of (x : B)  : Ct Tryd.prog 21 #[.string (bs x)] (fun F => F) (fun _ : Unit => True) (fun _ => .tuple #[.int .i64 (max (Lib.idxOfS (states.map bs) (bs x)) 0), .bool (decide (x ∈ states))]) (fun _ F => F) := by
  refine Ct.of (args := [.string (bs x)]) Tryd.func21 rfl Tryd.ntmps21 (Nat.le_of_ble_eq_true rfl) ?_
  intro F K hp
  have hm := idx_mem x states
  refine c_seq ?_
  refine reg ?_
  refine r_q Q_assign ?_
  refine r_q Q_assign ?_
  refine r_nil ?_
  refine e_then ?_
  refine c_seq ?_
  refine reg ?_
  refine r_l (l_call cf_32 rfl (m_names ) ?_)
  intro bn _
  refine r_q Q_move ?_
  refine r_l (l_call cf_29 rfl (k_index _ _ states 4 x rfl (by decide)) ?_)
  intro _ _
  refine r_q Q_assign ?_
  refine r_nil ?_
  refine e_then ?_
  refine c_seq ?_
  refine reg ?_
  refine r_q Q_move ?_
  refine r_q Q_max ?_
  refine r_q Q_move ?_
  refine r_q Q_geq ?_
  refine r_q Q_assign ?_
  refine r_q Q_assign ?_
  refine r_nil ?_
  refine e_then ?_
  refine c_ret ?_
  exact ret2 (fun w s' => by have hq := hp () trivial w (Conv.sat (by repeat (first | with_reducible exact Conv.refl | exact Conv.nil | (apply Conv.cons; · first | ((repeat (first | with_reducible exact Take.head | apply Take.tail)); done) | ((repeat (first | exact Take.head | apply Take.tail)); done)) | refine Conv.drop ?_)) s'); rwa [← hm] at hq)
end Go.Proofs.YtljjplndcbekfaaDoor
