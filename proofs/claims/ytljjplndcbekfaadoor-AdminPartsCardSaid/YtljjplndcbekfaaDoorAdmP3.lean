/- Contracts: the parts of a host's line, the document's. Its conditions: none. -/
import Derived.Test.YtljjplndcbekfaaDoorAdmP2
namespace Go.Proofs.YtljjplndcbekfaaDoor
open SL A Go.RowKit
set_option maxRecDepth 100000
set_option maxHeartbeats 4000000
theorem f_words5 (s : B) (ws : List B) (n : Nat) (hs : s.length ≤ 4000000000) (hw : words s = ws) (hn : ws.length = n) : Ct Tryd.prog 23 #[.string (bs s)] (fun F => F) (fun _ : Option Addr × Nat => True) (fun x => .slice x.1 n x.2) (fun x F => SlT eS x.1 x.2 ws :: F) := by
  subst hw; subst hn
  exact f_words s hs
theorem st_first (b : B) : decide ((⟨b.toArray⟩ : ByteArray) = ⟨#[63]⟩) = true ↔ (b = [63] ∨ ∃ i : Nat, i < 0 ∧ sname i = b) := by
  rw [decide_eq_true_iff]
  constructor
  · intro h; exact .inl (bs_inj (a := b) (b := [63]) h)
  · rintro (h | ⟨i, hi, _⟩)
    · rw [h]
    · omega
theorem st_step {b : B} {k : Nat} {st : Bool} (h : st = true ↔ (b = [63] ∨ ∃ i : Nat, i < k ∧ sname i = b)) (hst : st = false) : decide (bs (sname k) = (⟨b.toArray⟩ : ByteArray)) = true ↔ (b = [63] ∨ ∃ i : Nat, i < k + 1 ∧ sname i = b) := by
  rw [decide_eq_true_iff]
  constructor
  · intro e; exact .inr ⟨k, by omega, bs_inj (b := b) e⟩
  · rintro (e | ⟨i, hi, e⟩)
    · rw [hst] at h; exact absurd (h.2 (.inl e)) (by simp)
    · by_cases hik : i = k
      · subst hik; rw [e]; rfl
      · rw [hst] at h; exact absurd (h.2 (.inr ⟨i, by omega, e⟩)) (by simp)
theorem st_yes {b : B} {k : Nat} {st : Bool} (h : st = true ↔ (b = [63] ∨ ∃ i : Nat, i < k ∧ sname i = b)) (hst : st = true) : true = true ↔ (b = [63] ∨ ∃ i : Nat, i < k + 1 ∧ sname i = b) :=
  ⟨fun _ => (h.1 hst).imp_right fun ⟨i, hi, e⟩ => ⟨i, by omega, e⟩, fun _ => rfl⟩
theorem st_last (b : B) : (b = [63] ∨ ∃ i : Nat, i < 4 ∧ sname i = b) ↔ isState b := by
  unfold isState
  constructor
  · rintro (h | ⟨i, hi, h⟩)
    · exact .inl h
    · refine .inr ?_
      subst h
      obtain rfl | rfl | rfl | rfl : i = 0 ∨ i = 1 ∨ i = 2 ∨ i = 3 := by omega
      all_goals decide
  · rintro (h | h)
    · exact .inl h
    · simp only [states, List.mem_cons, List.not_mem_nil, or_false] at h
      rcases h with rfl | rfl | rfl | rfl
      · exact .inr ⟨0, by decide, rfl⟩
      · exact .inr ⟨1, by decide, rfl⟩
      · exact .inr ⟨2, by decide, rfl⟩
      · exact .inr ⟨3, by decide, rfl⟩
theorem may_step {a wd : B} {xs : List B} {may : Bool} (h : may = true ↔ (nameOk a ∧ ∀ w ∈ xs, (num w).isSome)) (hm : may = true) : (num wd).isSome = true ↔ (nameOk a ∧ ∀ w ∈ xs ++ [wd], (num w).isSome) := by
  constructor
  · intro e
    refine ⟨(h.1 hm).1, fun w hw => ?_⟩
    rcases List.mem_append.1 hw with hw | hw
    · exact (h.1 hm).2 w hw
    · rw [List.mem_singleton.1 hw]; exact e
  · intro e; exact e.2 wd (by simp)
theorem may_no {a wd : B} {xs : List B} {may : Bool} (h : may = true ↔ (nameOk a ∧ ∀ w ∈ xs, (num w).isSome)) (hm : may = false) : false = true ↔ (nameOk a ∧ ∀ w ∈ xs ++ [wd], (num w).isSome) := by
  rw [← hm, h]
  constructor
  · intro e; rw [h.2 e] at hm; cases hm
  · intro e; exact ⟨e.1, fun w hw => e.2 w (by simp [hw])⟩
theorem f_parts (s : B) (hs : s.length ≤ 4000000000) : Ct Tryd.prog 9 #[.string (bs s)] (fun F => F) (fun _ : Option Addr × Nat => True) (fun x => .tuple #[.string (bs (pa s)), .string (bs (pb s)), .slice x.1 (pl s).length x.2, .bool (parts s).isSome]) (fun x F => SlT eI x.1 x.2 (pl s) :: F) := by
  refine Ct.of (args := [.string (bs s)]) Tryd.func9 rfl Tryd.ntmps9 (Nat.le_of_ble_eq_true rfl) ?_
  intro F K hp
  rcases words5 s with ⟨a, b, x, y, z, hw⟩ | ⟨hne, hno⟩
  · have hla : a.length ≤ 4000000000 := Nat.le_trans (words_le (by rw [hw]; simp)) hs
    have hlw : ∀ w ∈ [x, y, z], w.length ≤ 4000000000 := fun w h => Nat.le_trans (words_le (by rw [hw]; simp at h ⊢; rcases h with h | h | h <;> simp [h])) hs
    refine c_seq ?_
    refine reg ?_
    refine r_q Q_assign ?_
    refine r_q Q_assign ?_
    refine r_q Q_assign ?_
    refine r_q Q_assign ?_
    refine r_nil ?_
    refine e_then ?_
    refine c_seq ?_
    refine reg ?_
    refine r_q Q_move ?_
    refine r_l (l_call cf_23 rfl (f_words5 s [a, b, x, y, z] 5 hs hw rfl) ?_)
    rintro ⟨wa, wc⟩ _
    dsimp only
    refine r_q Q_assign ?_
    refine r_nil ?_
    refine e_then ?_
    refine c_seq ?_
    refine c_seq ?_
    refine reg ?_
    refine r_q Q_move ?_
    refine r_q (Q_lenl Tryd.underlying42) ?_
    refine r_q Q_neq ?_
    refine r_nil ?_
    refine e_then ?_
    refine c_false ?_ (by first | rfl | exact congrArg (fun b => some (Value.bool b)) (by first | exact decide_eq_false (by omega) | simp_all))
    refine c_skip ?_
    refine e_then ?_
    refine c_seq ?_
    refine reg ?_
    refine r_q Q_move ?_
    refine r_q (Q_idxT' (l := [a, b, x, y, z]) Tryd.underlying42 sz_9 (h1 := by show _ < ((5 : Nat) : Int); decide)) ?_
    first | refine r_q (Q_load pl_9) ?_ | refine r_q (Q_ldT' pl_9) ?_ | refine r_q (Q_ldTf' pl_9) ?_
    refine r_l (l_call cf_24 rfl (f_name a hla) ?_)
    intro _ _
    refine r_q Q_assign ?_
    refine r_nil ?_
    refine e_then ?_
    refine c_seq ?_
    refine reg ?_
    refine r_q Q_move ?_
    refine r_q (Q_idxT' (l := [a, b, x, y, z]) Tryd.underlying42 sz_9 (h1 := by show _ < ((5 : Nat) : Int); decide)) ?_
    first | refine r_q (Q_load pl_9) ?_ | refine r_q (Q_ldT' pl_9) ?_ | refine r_q (Q_ldTf' pl_9) ?_
    refine r_q Q_eqls ?_
    refine r_q Q_assign ?_
    refine r_nil ?_
    refine e_then ?_
    refine c_seq ?_
    refine c_seq ?_
    refine reg ?_
    refine r_q Q_assign ?_
    refine r_nil ?_
    refine e_then ?_
    refine c_block ?_
    refine c_loop (α := Nat × Bool) (fun u => u.1 ≤ 4 ∧ (u.2 = true ↔ (b = [63] ∨ ∃ i : Nat, i < u.1 ∧ sname i = b))) (fun u => [(2, .string ⟨#[]⟩), (3, .string ⟨#[]⟩), (4, .slice none 0 0), (5, .bool false), (6, .slice wa 5 wc), (7, .bool (decide (nameOk a))), (8, .bool u.2), (9, .int .i64 (u.1 : Nat))]) (fun u => SlT eS wa wc [a, b, x, y, z] :: F) (fun u => 4 - u.1) (0, _) ⟨Nat.zero_le _, st_first b⟩ ⟨rfl, rfl, rfl, rfl, rfl, rfl, rfl, rfl, trivial⟩ (fun _ s => s) ?_
    rintro ⟨k, st⟩ ⟨hk, hst⟩
    dsimp only at hk hst ⊢
    refine c_seq ?_
    refine c_seq ?_
    refine reg ?_
    refine r_q Q_move ?_
    refine r_q Q_lss ?_
    refine r_nil ?_
    refine e_then ?_
    first | refine c_dec rfl (fun hc1 => ?_) (fun hc1 => ?_) | refine c_ndec rfl (fun hc1 => ?_) (fun hc1 => ?_) | refine c_cond rfl (fun hc1 => ?_) (fun hc1 => ?_)
    · refine c_skip ?_
      refine e_then ?_
      refine c_seq ?_
      refine c_block ?_
      refine dreg (N := 10) [SlT eS wa wc [a, b, x, y, z]] 9 ?_ mixed rfl
      refine d_q 0 rfl Q_move (fun _ s => Conv.sat (by repeat (first | with_reducible exact Conv.refl | exact Conv.nil | (apply Conv.cons; · first | ((repeat (first | with_reducible exact Take.head | apply Take.tail)); done) | ((repeat (first | exact Take.head | apply Take.tail)); done)) | refine Conv.drop ?_)) s) (by repeat (first | exact PanicOk.body | exact PanicOk.bodyD (by intros; simp [results, Act.put]) | refine PanicOk.then ?_ | refine PanicOk.block ?_ | refine PanicOk.scope ?_)) (by kernel_rfl) ?_
      refine d_q 1 rfl Q_move (fun _ s => Conv.sat (by repeat (first | with_reducible exact Conv.refl | exact Conv.nil | (apply Conv.cons; · first | ((repeat (first | with_reducible exact Take.head | apply Take.tail)); done) | ((repeat (first | exact Take.head | apply Take.tail)); done)) | refine Conv.drop ?_)) s) (by repeat (first | exact PanicOk.body | exact PanicOk.bodyD (by intros; simp [results, Act.put]) | refine PanicOk.then ?_ | refine PanicOk.block ?_ | refine PanicOk.scope ?_)) (by kernel_rfl) ?_
      first | refine b_dec (t := 32) rfl (fun hc2 => ?_) (fun hc2 => ?_) | refine b_ndec (t := 32) rfl (fun hc2 => ?_) (fun hc2 => ?_) | refine b_bool (t := 32) rfl (fun hc2 => ?_) (fun hc2 => ?_)
      · refine d_qn 2 rfl (fun _ s => Conv.sat (by repeat (first | with_reducible exact Conv.refl | exact Conv.nil | (apply Conv.cons; · first | ((repeat (first | with_reducible exact Take.head | apply Take.tail)); done) | ((repeat (first | exact Take.head | apply Take.tail)); done)) | refine Conv.drop ?_)) s) (by repeat (first | exact PanicOk.body | exact PanicOk.bodyD (by intros; simp [results, Act.put]) | refine PanicOk.then ?_ | refine PanicOk.block ?_ | refine PanicOk.scope ?_)) (by kernel_rfl) ?_
        refine d_qn 3 rfl (fun _ s => Conv.sat (by repeat (first | with_reducible exact Conv.refl | exact Conv.nil | (apply Conv.cons; · first | ((repeat (first | with_reducible exact Take.head | apply Take.tail)); done) | ((repeat (first | exact Take.head | apply Take.tail)); done)) | refine Conv.drop ?_)) s) (by repeat (first | exact PanicOk.body | exact PanicOk.bodyD (by intros; simp [results, Act.put]) | refine PanicOk.then ?_ | refine PanicOk.block ?_ | refine PanicOk.scope ?_)) (by kernel_rfl) ?_
        refine d_qn 4 rfl (fun _ s => Conv.sat (by repeat (first | with_reducible exact Conv.refl | exact Conv.nil | (apply Conv.cons; · first | ((repeat (first | with_reducible exact Take.head | apply Take.tail)); done) | ((repeat (first | exact Take.head | apply Take.tail)); done)) | refine Conv.drop ?_)) s) (by repeat (first | exact PanicOk.body | exact PanicOk.bodyD (by intros; simp [results, Act.put]) | refine PanicOk.then ?_ | refine PanicOk.block ?_ | refine PanicOk.scope ?_)) (by kernel_rfl) ?_
        refine d_qn 5 rfl (fun _ s => Conv.sat (by repeat (first | with_reducible exact Conv.refl | exact Conv.nil | (apply Conv.cons; · first | ((repeat (first | with_reducible exact Take.head | apply Take.tail)); done) | ((repeat (first | exact Take.head | apply Take.tail)); done)) | refine Conv.drop ?_)) s) (by repeat (first | exact PanicOk.body | exact PanicOk.bodyD (by intros; simp [results, Act.put]) | refine PanicOk.then ?_ | refine PanicOk.block ?_ | refine PanicOk.scope ?_)) (by kernel_rfl) ?_
        refine d_qn 6 rfl (fun _ s => Conv.sat (by repeat (first | with_reducible exact Conv.refl | exact Conv.nil | (apply Conv.cons; · first | ((repeat (first | with_reducible exact Take.head | apply Take.tail)); done) | ((repeat (first | exact Take.head | apply Take.tail)); done)) | refine Conv.drop ?_)) s) (by repeat (first | exact PanicOk.body | exact PanicOk.bodyD (by intros; simp [results, Act.put]) | refine PanicOk.then ?_ | refine PanicOk.block ?_ | refine PanicOk.scope ?_)) (by kernel_rfl) ?_
        refine d_qn 7 rfl (fun _ s => Conv.sat (by repeat (first | with_reducible exact Conv.refl | exact Conv.nil | (apply Conv.cons; · first | ((repeat (first | with_reducible exact Take.head | apply Take.tail)); done) | ((repeat (first | exact Take.head | apply Take.tail)); done)) | refine Conv.drop ?_)) s) (by repeat (first | exact PanicOk.body | exact PanicOk.bodyD (by intros; simp [results, Act.put]) | refine PanicOk.then ?_ | refine PanicOk.block ?_ | refine PanicOk.scope ?_)) (by kernel_rfl) ?_
        refine d_q 8 rfl Q_pickT (fun _ s => Conv.sat (by repeat (first | with_reducible exact Conv.refl | exact Conv.nil | (apply Conv.cons; · first | ((repeat (first | with_reducible exact Take.head | apply Take.tail)); done) | ((repeat (first | exact Take.head | apply Take.tail)); done)) | refine Conv.drop ?_)) s) (by repeat (first | exact PanicOk.body | exact PanicOk.bodyD (by intros; simp [results, Act.put]) | refine PanicOk.then ?_ | refine PanicOk.block ?_ | refine PanicOk.scope ?_)) (by kernel_rfl) ?_
        refine d_l 9 (by kernel_rfl) rfl rfl ?_
        refine l_q Q_assign ?_
        refine d_tail ?_ (by kernel_rfl)
        refine d_nil (by kernel_rfl) ?_
        refine e_blockn ?_
        refine e_then ?_
        refine reg ?_
        refine r_q Q_move ?_
        refine r_q Q_addn ?_
        refine r_q Q_assign ?_
        refine r_nil ?_
        refine e_then ?_
        exact c_back (k + 1, true) ⟨by dsimp only; omega, st_yes hst (by assumption)⟩ (by dsimp only; omega) ⟨rfl, rfl, rfl, rfl, rfl, rfl, rfl, rfl, trivial⟩ (fun _ s => s)
      · refine d_qy 2 rfl Q_move (fun _ s => Conv.sat (by repeat (first | with_reducible exact Conv.refl | exact Conv.nil | (apply Conv.cons; · first | ((repeat (first | with_reducible exact Take.head | apply Take.tail)); done) | ((repeat (first | exact Take.head | apply Take.tail)); done)) | refine Conv.drop ?_)) s) (by repeat (first | exact PanicOk.body | exact PanicOk.bodyD (by intros; simp [results, Act.put]) | refine PanicOk.then ?_ | refine PanicOk.block ?_ | refine PanicOk.scope ?_)) (by kernel_rfl) ?_
        refine d_qy 4 rfl Q_move (fun _ s => Conv.sat (by repeat (first | with_reducible exact Conv.refl | exact Conv.nil | (apply Conv.cons; · first | ((repeat (first | with_reducible exact Take.head | apply Take.tail)); done) | ((repeat (first | exact Take.head | apply Take.tail)); done)) | refine Conv.drop ?_)) s) (by repeat (first | exact PanicOk.body | exact PanicOk.bodyD (by intros; simp [results, Act.put]) | refine PanicOk.then ?_ | refine PanicOk.block ?_ | refine PanicOk.scope ?_)) (by kernel_rfl) ?_
        refine d_qy 5 rfl (Q_idxT' (l := [a, b, x, y, z]) Tryd.underlying42 sz_9 (h1 := by show _ < ((5 : Nat) : Int); decide)) (fun _ s => Conv.sat (by repeat (first | with_reducible exact Conv.refl | exact Conv.nil | (apply Conv.cons; · first | ((repeat (first | with_reducible exact Take.head | apply Take.tail)); done) | ((repeat (first | exact Take.head | apply Take.tail)); done)) | refine Conv.drop ?_)) s) (by repeat (first | exact PanicOk.body | exact PanicOk.bodyD (by intros; simp [results, Act.put]) | refine PanicOk.then ?_ | refine PanicOk.block ?_ | refine PanicOk.scope ?_)) (by kernel_rfl) ?_
        first | refine d_qy 6 rfl (Q_load pl_9) (fun _ s => Conv.sat (by repeat (first | with_reducible exact Conv.refl | exact Conv.nil | (apply Conv.cons; · first | ((repeat (first | with_reducible exact Take.head | apply Take.tail)); done) | ((repeat (first | exact Take.head | apply Take.tail)); done)) | refine Conv.drop ?_)) s) (by repeat (first | exact PanicOk.body | exact PanicOk.bodyD (by intros; simp [results, Act.put]) | refine PanicOk.then ?_ | refine PanicOk.block ?_ | refine PanicOk.scope ?_)) (by kernel_rfl) ?_ | refine d_qy 6 rfl (Q_ldT' pl_9) (fun _ s => Conv.sat (by repeat (first | with_reducible exact Conv.refl | exact Conv.nil | (apply Conv.cons; · first | ((repeat (first | with_reducible exact Take.head | apply Take.tail)); done) | ((repeat (first | exact Take.head | apply Take.tail)); done)) | refine Conv.drop ?_)) s) (by repeat (first | exact PanicOk.body | exact PanicOk.bodyD (by intros; simp [results, Act.put]) | refine PanicOk.then ?_ | refine PanicOk.block ?_ | refine PanicOk.scope ?_)) (by kernel_rfl) ?_ | refine d_qy 6 rfl (Q_ldTf' pl_9) (fun _ s => Conv.sat (by repeat (first | with_reducible exact Conv.refl | exact Conv.nil | (apply Conv.cons; · first | ((repeat (first | with_reducible exact Take.head | apply Take.tail)); done) | ((repeat (first | exact Take.head | apply Take.tail)); done)) | refine Conv.drop ?_)) s) (by repeat (first | exact PanicOk.body | exact PanicOk.bodyD (by intros; simp [results, Act.put]) | refine PanicOk.then ?_ | refine PanicOk.block ?_ | refine PanicOk.scope ?_)) (by kernel_rfl) ?_
        refine d_ly 3 (by kernel_rfl) rfl ?_
        refine (l_call cf_17 rfl (f_sname _) ?_)
        intro _ _
        refine d_head (fun _ s => Conv.sat (by repeat (first | with_reducible exact Conv.refl | exact Conv.nil | (apply Conv.cons; · first | ((repeat (first | with_reducible exact Take.head | apply Take.tail)); done) | ((repeat (first | exact Take.head | apply Take.tail)); done)) | refine Conv.drop ?_)) s) ?_
        refine d_qy 7 rfl Q_eqls (fun _ s => Conv.sat (by repeat (first | with_reducible exact Conv.refl | exact Conv.nil | (apply Conv.cons; · first | ((repeat (first | with_reducible exact Take.head | apply Take.tail)); done) | ((repeat (first | exact Take.head | apply Take.tail)); done)) | refine Conv.drop ?_)) s) (by repeat (first | exact PanicOk.body | exact PanicOk.bodyD (by intros; simp [results, Act.put]) | refine PanicOk.then ?_ | refine PanicOk.block ?_ | refine PanicOk.scope ?_)) (by kernel_rfl) ?_
        refine d_q 8 rfl Q_pickF (fun _ s => Conv.sat (by repeat (first | with_reducible exact Conv.refl | exact Conv.nil | (apply Conv.cons; · first | ((repeat (first | with_reducible exact Take.head | apply Take.tail)); done) | ((repeat (first | exact Take.head | apply Take.tail)); done)) | refine Conv.drop ?_)) s) (by repeat (first | exact PanicOk.body | exact PanicOk.bodyD (by intros; simp [results, Act.put]) | refine PanicOk.then ?_ | refine PanicOk.block ?_ | refine PanicOk.scope ?_)) (by kernel_rfl) ?_
        refine d_l 9 (by kernel_rfl) rfl rfl ?_
        refine l_q Q_assign ?_
        refine d_tail ?_ (by kernel_rfl)
        refine d_nil (by kernel_rfl) ?_
        refine e_blockn ?_
        refine e_then ?_
        refine reg ?_
        refine r_q Q_move ?_
        refine r_q Q_addn ?_
        refine r_q Q_assign ?_
        refine r_nil ?_
        refine e_then ?_
        exact c_back (k + 1, _) ⟨by dsimp only; omega, st_step hst (by assumption)⟩ (by dsimp only; omega) ⟨rfl, rfl, rfl, rfl, rfl, rfl, rfl, rfl, trivial⟩ (fun _ s => s)
    · refine c_exit ?_
      refine e_thenx ?_
      refine e_thenx ?_
      refine e_block ?_
      refine e_then ?_
      refine c_seq ?_
      refine reg ?_
      refine r_q Q_assign ?_
      refine r_nil ?_
      refine e_then ?_
      refine c_seq ?_
      refine c_seq ?_
      refine St.nilS eI ?_
      refine reg ?_
      refine r_q Q_assign ?_
      refine r_nil ?_
      refine e_then ?_
      refine c_block ?_
      have hk4 : k = 4 := by omega
      subst hk4
      rw [st_last] at hst
      refine c_loop (α := Nat × Bool × List Int × Option Addr × Nat) (fun u => u.1 ≤ 3 ∧ Ok3 u.2.2.1 ([x, y, z].take u.1) ∧ (u.2.1 = true ↔ (nameOk a ∧ ∀ w ∈ [x, y, z].take u.1, (num w).isSome))) (fun u => [(2, .string ⟨#[]⟩), (3, .string ⟨#[]⟩), (4, .slice none 0 0), (5, .bool false), (6, .slice wa 5 wc), (7, .bool u.2.1), (8, .bool st), (10, .slice u.2.2.2.1 u.2.2.1.length u.2.2.2.2), (11, .int .i64 ((2 + u.1 : Nat) : Int))]) (fun u => SlT eI u.2.2.2.1 u.2.2.2.2 u.2.2.1 :: SlT eS wa wc [a, b, x, y, z] :: F) (fun u => 3 - u.1) (0, decide (nameOk a), [], none, 0) ⟨Nat.zero_le _, Ok3.nil, by simp⟩ ⟨rfl, rfl, rfl, rfl, rfl, rfl, rfl, rfl, rfl, trivial⟩ (fun _ s => s) ?_
      rintro ⟨k, may, l, ad, ca⟩ ⟨hk, hok, hmay⟩
      dsimp only at hk hok hmay ⊢
      have hl5 : l.length ≤ 3 := by rw [hok.1]; simp; omega
      refine c_seq ?_
      refine c_seq ?_
      refine reg ?_
      refine r_q Q_move ?_
      refine r_q Q_lss ?_
      refine r_nil ?_
      refine e_then ?_
      first | refine c_dec rfl (fun hc3 => ?_) (fun hc3 => ?_) | refine c_ndec rfl (fun hc3 => ?_) (fun hc3 => ?_) | refine c_cond rfl (fun hc3 => ?_) (fun hc3 => ?_)
      · refine c_skip ?_
        refine e_then ?_
        refine c_seq ?_
        refine c_block ?_
        refine c_seq ?_
        obtain ⟨wd, hwd⟩ := at_lt (l := [x, y, z]) (i := k) (by show k < 3; omega)
        have hwd2 : [a, b, x, y, z][2 + k]? = some wd := by rw [Nat.add_comm]; exact hwd
        refine reg ?_
        refine r_q Q_move ?_
        refine r_q Q_move ?_
        refine r_q (Q_idxT' (l := [a, b, x, y, z]) Tryd.underlying42 sz_9 (h1 := by show _ < ((5 : Nat) : Int); omega)) ?_
        refine r_q (Q_ldT' pl_9 (hi := hwd2)) ?_
        refine r_l (l_call cf_25 rfl (f_number wd (hlw wd (List.mem_of_getElem? hwd))) ?_)
        intro nn hnn
        refine r_q Q_move ?_
        refine r_q Q_extract ?_
        refine r_q Q_extract ?_
        refine r_q Q_assign ?_
        refine r_q Q_assign ?_
        refine r_nil ?_
        refine e_then ?_
        refine c_seq ?_
        refine reg ?_
        refine r_q Q_move ?_
        refine r_q Q_move ?_
        first | refine b_dec (t := 53) rfl (fun hc4 => ?_) (fun hc4 => ?_) | refine b_ndec (t := 53) rfl (fun hc4 => ?_) (fun hc4 => ?_) | refine b_bool (t := 53) rfl (fun hc4 => ?_) (fun hc4 => ?_)
        · refine r_yq Q_move ?_
          refine r_q Q_pickT ?_
          refine r_q Q_assign ?_
          refine r_nil ?_
          refine e_then ?_
          refine reg ?_
          refine r_q Q_move ?_
          refine r_q Q_move ?_
          refine r_l (L_buildSlice (bs_26_1_0 _) (fun b58 => ?_))
          refine r_l (L_append' (l₂ := [_]) (hB := by show (_ + _) * 8 ≤ _; simp only [List.length_cons, List.length_nil]; omega) eI_ok Tryd.underlying26 (fun a59 c59 => ?_))
          refine r_q Q_assign ?_
          refine r_nil ?_
          refine e_blockn ?_
          refine e_then ?_
          refine reg ?_
          refine r_q Q_move ?_
          refine r_q Q_addn ?_
          refine r_q Q_assign ?_
          refine r_nil ?_
          refine e_then ?_
          have htk : [x, y, z].take (k + 1) = [x, y, z].take k ++ [wd] := by rw [List.take_add_one, hwd]; rfl
          exact c_back (k + 1, _, l ++ [nn], a59, c59) ⟨by dsimp only; omega, by rw [htk]; exact hok.snoc hnn, by rw [htk]; exact may_step hmay (by assumption)⟩ (by dsimp only; omega) ⟨rfl, rfl, rfl, rfl, rfl, rfl, rfl, rfl, congrArg (fun z => some (Value.int .i64 z)) (by omega), trivial⟩ (fun _ s => Conv.sat (by repeat (first | with_reducible exact Conv.refl | exact Conv.nil | (apply Conv.cons; · first | ((repeat (first | with_reducible exact Take.head | apply Take.tail)); done) | ((repeat (first | exact Take.head | apply Take.tail)); done)) | refine Conv.drop ?_)) s)
        · refine r_no ?_
          refine r_q Q_pickF ?_
          refine r_q Q_assign ?_
          refine r_nil ?_
          refine e_then ?_
          refine reg ?_
          refine r_q Q_move ?_
          refine r_q Q_move ?_
          refine r_l (L_buildSlice (bs_26_1_0 _) (fun b58 => ?_))
          refine r_l (L_append' (l₂ := [_]) (hB := by show (_ + _) * 8 ≤ _; simp only [List.length_cons, List.length_nil]; omega) eI_ok Tryd.underlying26 (fun a59 c59 => ?_))
          refine r_q Q_assign ?_
          refine r_nil ?_
          refine e_blockn ?_
          refine e_then ?_
          refine reg ?_
          refine r_q Q_move ?_
          refine r_q Q_addn ?_
          refine r_q Q_assign ?_
          refine r_nil ?_
          refine e_then ?_
          have htk : [x, y, z].take (k + 1) = [x, y, z].take k ++ [wd] := by rw [List.take_add_one, hwd]; rfl
          exact c_back (k + 1, false, l ++ [nn], a59, c59) ⟨by dsimp only; omega, by rw [htk]; exact hok.snoc hnn, by rw [htk]; exact may_no hmay (by assumption)⟩ (by dsimp only; omega) ⟨rfl, rfl, rfl, rfl, rfl, rfl, rfl, rfl, congrArg (fun z => some (Value.int .i64 z)) (by omega), trivial⟩ (fun _ s => Conv.sat (by repeat (first | with_reducible exact Conv.refl | exact Conv.nil | (apply Conv.cons; · first | ((repeat (first | with_reducible exact Take.head | apply Take.tail)); done) | ((repeat (first | exact Take.head | apply Take.tail)); done)) | refine Conv.drop ?_)) s)
      · refine c_exit ?_
        refine e_thenx ?_
        refine e_thenx ?_
        refine e_block ?_
        refine e_then ?_
        refine c_seq ?_
        refine c_seq ?_
        refine reg ?_
        refine r_q Q_move ?_
        refine r_q Q_not ?_
        refine r_q Q_move ?_
        first | refine b_dec (t := 62) rfl (fun hc5 => ?_) (fun hc5 => ?_) | refine b_ndec (t := 62) rfl (fun hc5 => ?_) (fun hc5 => ?_) | refine b_bool (t := 62) rfl (fun hc5 => ?_) (fun hc5 => ?_)
        · refine r_no ?_
          refine r_no ?_
          refine r_q Q_pickT ?_
          refine r_nil ?_
          refine e_then ?_
          refine c_true ?_
          refine c_seq ?_
          refine reg ?_
          refine r_q Q_assign ?_
          refine r_q Q_assign ?_
          refine r_q Q_assign ?_
          refine r_q Q_assign ?_
          refine r_nil ?_
          refine e_then ?_
          refine c_ret ?_
          refine e_thenr ?_
          have hk3 : k = 3 := by omega
          subst hk3
          first
            | exact ret4 (fun w s' => no_parts hp (parts_no hw (fun h => absurd (hmay.2 ⟨h.1, by simp [h.2.2]⟩) (by simp_all))) (Conv.sat (by repeat (first | with_reducible exact Conv.refl | exact Conv.nil | (apply Conv.cons; · first | ((repeat (first | with_reducible exact Take.head | apply Take.tail)); done) | ((repeat (first | exact Take.head | apply Take.tail)); done)) | refine Conv.drop ?_)) s'))
            | exact ret4 (fun w s' => no_parts hp (parts_no hw (fun h => absurd (hst.2 h.2.1) (by simp_all))) (Conv.sat (by repeat (first | with_reducible exact Conv.refl | exact Conv.nil | (apply Conv.cons; · first | ((repeat (first | with_reducible exact Take.head | apply Take.tail)); done) | ((repeat (first | exact Take.head | apply Take.tail)); done)) | refine Conv.drop ?_)) s'))
            | exact ret4 (fun w s' => yes_parts hp (parts_yes hw (have hm := hmay.1 (by simp_all); ⟨hm.1, hst.1 (by simp_all), hm.2 x (by simp), hm.2 y (by simp), hm.2 z (by simp)⟩) hok) (Conv.sat (by repeat (first | with_reducible exact Conv.refl | exact Conv.nil | (apply Conv.cons; · first | ((repeat (first | with_reducible exact Take.head | apply Take.tail)); done) | ((repeat (first | exact Take.head | apply Take.tail)); done)) | refine Conv.drop ?_)) s'))
        · refine r_yq Q_move ?_
          refine r_yq Q_not ?_
          refine r_q Q_pickF ?_
          refine r_nil ?_
          refine e_then ?_
          first | refine c_dec rfl (fun hc6 => ?_) (fun hc6 => ?_) | refine c_ndec rfl (fun hc6 => ?_) (fun hc6 => ?_) | refine c_cond rfl (fun hc6 => ?_) (fun hc6 => ?_)
          · refine c_seq ?_
            refine reg ?_
            refine r_q Q_assign ?_
            refine r_q Q_assign ?_
            refine r_q Q_assign ?_
            refine r_q Q_assign ?_
            refine r_nil ?_
            refine e_then ?_
            refine c_ret ?_
            refine e_thenr ?_
            have hk3 : k = 3 := by omega
            subst hk3
            first
              | exact ret4 (fun w s' => no_parts hp (parts_no hw (fun h => absurd (hmay.2 ⟨h.1, by simp [h.2.2]⟩) (by simp_all))) (Conv.sat (by repeat (first | with_reducible exact Conv.refl | exact Conv.nil | (apply Conv.cons; · first | ((repeat (first | with_reducible exact Take.head | apply Take.tail)); done) | ((repeat (first | exact Take.head | apply Take.tail)); done)) | refine Conv.drop ?_)) s'))
              | exact ret4 (fun w s' => no_parts hp (parts_no hw (fun h => absurd (hst.2 h.2.1) (by simp_all))) (Conv.sat (by repeat (first | with_reducible exact Conv.refl | exact Conv.nil | (apply Conv.cons; · first | ((repeat (first | with_reducible exact Take.head | apply Take.tail)); done) | ((repeat (first | exact Take.head | apply Take.tail)); done)) | refine Conv.drop ?_)) s'))
              | exact ret4 (fun w s' => yes_parts hp (parts_yes hw (have hm := hmay.1 (by simp_all); ⟨hm.1, hst.1 (by simp_all), hm.2 x (by simp), hm.2 y (by simp), hm.2 z (by simp)⟩) hok) (Conv.sat (by repeat (first | with_reducible exact Conv.refl | exact Conv.nil | (apply Conv.cons; · first | ((repeat (first | with_reducible exact Take.head | apply Take.tail)); done) | ((repeat (first | exact Take.head | apply Take.tail)); done)) | refine Conv.drop ?_)) s'))
          · refine c_skip ?_
            refine e_then ?_
            refine c_seq ?_
            refine dreg (N := 11) [SlT eS wa wc [a, b, x, y, z]] 9 ?_ mixed rfl
            refine d_q 0 rfl Q_move (fun _ s => Conv.sat (by repeat (first | with_reducible exact Conv.refl | exact Conv.nil | (apply Conv.cons; · first | ((repeat (first | with_reducible exact Take.head | apply Take.tail)); done) | ((repeat (first | exact Take.head | apply Take.tail)); done)) | refine Conv.drop ?_)) s) (by repeat (first | exact PanicOk.body | exact PanicOk.bodyD (by intros; simp [results, Act.put]) | refine PanicOk.then ?_ | refine PanicOk.block ?_ | refine PanicOk.scope ?_)) (by kernel_rfl) ?_
            refine d_q 1 rfl (Q_idxT' (l := [a, b, x, y, z]) Tryd.underlying42 sz_9 (h1 := by show _ < ((5 : Nat) : Int); decide)) (fun _ s => Conv.sat (by repeat (first | with_reducible exact Conv.refl | exact Conv.nil | (apply Conv.cons; · first | ((repeat (first | with_reducible exact Take.head | apply Take.tail)); done) | ((repeat (first | exact Take.head | apply Take.tail)); done)) | refine Conv.drop ?_)) s) (by repeat (first | exact PanicOk.body | exact PanicOk.bodyD (by intros; simp [results, Act.put]) | refine PanicOk.then ?_ | refine PanicOk.block ?_ | refine PanicOk.scope ?_)) (by kernel_rfl) ?_
            first | refine d_q 2 rfl (Q_load pl_9) (fun _ s => Conv.sat (by repeat (first | with_reducible exact Conv.refl | exact Conv.nil | (apply Conv.cons; · first | ((repeat (first | with_reducible exact Take.head | apply Take.tail)); done) | ((repeat (first | exact Take.head | apply Take.tail)); done)) | refine Conv.drop ?_)) s) (by repeat (first | exact PanicOk.body | exact PanicOk.bodyD (by intros; simp [results, Act.put]) | refine PanicOk.then ?_ | refine PanicOk.block ?_ | refine PanicOk.scope ?_)) (by kernel_rfl) ?_ | refine d_q 2 rfl (Q_ldT' pl_9) (fun _ s => Conv.sat (by repeat (first | with_reducible exact Conv.refl | exact Conv.nil | (apply Conv.cons; · first | ((repeat (first | with_reducible exact Take.head | apply Take.tail)); done) | ((repeat (first | exact Take.head | apply Take.tail)); done)) | refine Conv.drop ?_)) s) (by repeat (first | exact PanicOk.body | exact PanicOk.bodyD (by intros; simp [results, Act.put]) | refine PanicOk.then ?_ | refine PanicOk.block ?_ | refine PanicOk.scope ?_)) (by kernel_rfl) ?_ | refine d_q 2 rfl (Q_ldTf' pl_9) (fun _ s => Conv.sat (by repeat (first | with_reducible exact Conv.refl | exact Conv.nil | (apply Conv.cons; · first | ((repeat (first | with_reducible exact Take.head | apply Take.tail)); done) | ((repeat (first | exact Take.head | apply Take.tail)); done)) | refine Conv.drop ?_)) s) (by repeat (first | exact PanicOk.body | exact PanicOk.bodyD (by intros; simp [results, Act.put]) | refine PanicOk.then ?_ | refine PanicOk.block ?_ | refine PanicOk.scope ?_)) (by kernel_rfl) ?_
            refine d_q 3 rfl Q_move (fun _ s => Conv.sat (by repeat (first | with_reducible exact Conv.refl | exact Conv.nil | (apply Conv.cons; · first | ((repeat (first | with_reducible exact Take.head | apply Take.tail)); done) | ((repeat (first | exact Take.head | apply Take.tail)); done)) | refine Conv.drop ?_)) s) (by repeat (first | exact PanicOk.body | exact PanicOk.bodyD (by intros; simp [results, Act.put]) | refine PanicOk.then ?_ | refine PanicOk.block ?_ | refine PanicOk.scope ?_)) (by kernel_rfl) ?_
            refine d_q 4 rfl (Q_idxT' (l := [a, b, x, y, z]) Tryd.underlying42 sz_9 (h1 := by show _ < ((5 : Nat) : Int); decide)) (fun _ s => Conv.sat (by repeat (first | with_reducible exact Conv.refl | exact Conv.nil | (apply Conv.cons; · first | ((repeat (first | with_reducible exact Take.head | apply Take.tail)); done) | ((repeat (first | exact Take.head | apply Take.tail)); done)) | refine Conv.drop ?_)) s) (by repeat (first | exact PanicOk.body | exact PanicOk.bodyD (by intros; simp [results, Act.put]) | refine PanicOk.then ?_ | refine PanicOk.block ?_ | refine PanicOk.scope ?_)) (by kernel_rfl) ?_
            first | refine d_q 5 rfl (Q_load pl_9) (fun _ s => Conv.sat (by repeat (first | with_reducible exact Conv.refl | exact Conv.nil | (apply Conv.cons; · first | ((repeat (first | with_reducible exact Take.head | apply Take.tail)); done) | ((repeat (first | exact Take.head | apply Take.tail)); done)) | refine Conv.drop ?_)) s) (by repeat (first | exact PanicOk.body | exact PanicOk.bodyD (by intros; simp [results, Act.put]) | refine PanicOk.then ?_ | refine PanicOk.block ?_ | refine PanicOk.scope ?_)) (by kernel_rfl) ?_ | refine d_q 5 rfl (Q_ldT' pl_9) (fun _ s => Conv.sat (by repeat (first | with_reducible exact Conv.refl | exact Conv.nil | (apply Conv.cons; · first | ((repeat (first | with_reducible exact Take.head | apply Take.tail)); done) | ((repeat (first | exact Take.head | apply Take.tail)); done)) | refine Conv.drop ?_)) s) (by repeat (first | exact PanicOk.body | exact PanicOk.bodyD (by intros; simp [results, Act.put]) | refine PanicOk.then ?_ | refine PanicOk.block ?_ | refine PanicOk.scope ?_)) (by kernel_rfl) ?_ | refine d_q 5 rfl (Q_ldTf' pl_9) (fun _ s => Conv.sat (by repeat (first | with_reducible exact Conv.refl | exact Conv.nil | (apply Conv.cons; · first | ((repeat (first | with_reducible exact Take.head | apply Take.tail)); done) | ((repeat (first | exact Take.head | apply Take.tail)); done)) | refine Conv.drop ?_)) s) (by repeat (first | exact PanicOk.body | exact PanicOk.bodyD (by intros; simp [results, Act.put]) | refine PanicOk.then ?_ | refine PanicOk.block ?_ | refine PanicOk.scope ?_)) (by kernel_rfl) ?_
            refine d_q 6 rfl Q_move (fun _ s => Conv.sat (by repeat (first | with_reducible exact Conv.refl | exact Conv.nil | (apply Conv.cons; · first | ((repeat (first | with_reducible exact Take.head | apply Take.tail)); done) | ((repeat (first | exact Take.head | apply Take.tail)); done)) | refine Conv.drop ?_)) s) (by repeat (first | exact PanicOk.body | exact PanicOk.bodyD (by intros; simp [results, Act.put]) | refine PanicOk.then ?_ | refine PanicOk.block ?_ | refine PanicOk.scope ?_)) (by kernel_rfl) ?_
            refine d_q 7 rfl Q_assign (fun _ s => Conv.sat (by repeat (first | with_reducible exact Conv.refl | exact Conv.nil | (apply Conv.cons; · first | ((repeat (first | with_reducible exact Take.head | apply Take.tail)); done) | ((repeat (first | exact Take.head | apply Take.tail)); done)) | refine Conv.drop ?_)) s) (by repeat (first | exact PanicOk.body | exact PanicOk.bodyD (by intros; simp [results, Act.put]) | refine PanicOk.then ?_ | refine PanicOk.block ?_ | refine PanicOk.scope ?_)) (by kernel_rfl) ?_
            refine d_q 8 rfl Q_assign (fun _ s => Conv.sat (by repeat (first | with_reducible exact Conv.refl | exact Conv.nil | (apply Conv.cons; · first | ((repeat (first | with_reducible exact Take.head | apply Take.tail)); done) | ((repeat (first | exact Take.head | apply Take.tail)); done)) | refine Conv.drop ?_)) s) (by repeat (first | exact PanicOk.body | exact PanicOk.bodyD (by intros; simp [results, Act.put]) | refine PanicOk.then ?_ | refine PanicOk.block ?_ | refine PanicOk.scope ?_)) (by kernel_rfl) ?_
            refine d_l 9 (by kernel_rfl) rfl rfl ?_
            refine l_q Q_assign ?_
            refine d_tail ?_ (by kernel_rfl)
            refine d_l 10 (by kernel_rfl) rfl rfl ?_
            refine l_q Q_assign ?_
            refine d_tail ?_ (by kernel_rfl)
            refine d_nil (by kernel_rfl) ?_
            refine e_then ?_
            refine c_ret ?_
            have hk3 : k = 3 := by omega
            subst hk3
            first
              | exact ret4 (fun w s' => no_parts hp (parts_no hw (fun h => absurd (hmay.2 ⟨h.1, by simp [h.2.2]⟩) (by simp_all))) (Conv.sat (by repeat (first | with_reducible exact Conv.refl | exact Conv.nil | (apply Conv.cons; · first | ((repeat (first | with_reducible exact Take.head | apply Take.tail)); done) | ((repeat (first | exact Take.head | apply Take.tail)); done)) | refine Conv.drop ?_)) s'))
              | exact ret4 (fun w s' => no_parts hp (parts_no hw (fun h => absurd (hst.2 h.2.1) (by simp_all))) (Conv.sat (by repeat (first | with_reducible exact Conv.refl | exact Conv.nil | (apply Conv.cons; · first | ((repeat (first | with_reducible exact Take.head | apply Take.tail)); done) | ((repeat (first | exact Take.head | apply Take.tail)); done)) | refine Conv.drop ?_)) s'))
              | exact ret4 (fun w s' => yes_parts hp (parts_yes hw (have hm := hmay.1 (by simp_all); ⟨hm.1, hst.1 (by simp_all), hm.2 x (by simp), hm.2 y (by simp), hm.2 z (by simp)⟩) hok) (Conv.sat (by repeat (first | with_reducible exact Conv.refl | exact Conv.nil | (apply Conv.cons; · first | ((repeat (first | with_reducible exact Take.head | apply Take.tail)); done) | ((repeat (first | exact Take.head | apply Take.tail)); done)) | refine Conv.drop ?_)) s'))
  · refine c_seq ?_
    refine reg ?_
    refine r_q Q_assign ?_
    refine r_q Q_assign ?_
    refine r_q Q_assign ?_
    refine r_q Q_assign ?_
    refine r_nil ?_
    refine e_then ?_
    refine c_seq ?_
    refine reg ?_
    refine r_q Q_move ?_
    refine r_l (l_call cf_23 rfl (f_words5 s (words s) _ hs rfl rfl) ?_)
    rintro ⟨wa, wc⟩ _
    dsimp only
    refine r_q Q_assign ?_
    refine r_nil ?_
    refine e_then ?_
    refine c_seq ?_
    refine c_seq ?_
    refine reg ?_
    refine r_q Q_move ?_
    refine r_q (Q_lenl Tryd.underlying42) ?_
    refine r_q Q_neq ?_
    refine r_nil ?_
    refine e_then ?_
    refine c_true ?_ (by first | rfl | exact congrArg (fun b => some (Value.bool b)) (by first | exact decide_eq_true (by omega) | simp_all))
    refine c_seq ?_
    refine reg ?_
    refine r_q Q_assign ?_
    refine r_q Q_assign ?_
    refine r_q Q_assign ?_
    refine r_q Q_assign ?_
    refine r_nil ?_
    refine e_then ?_
    refine c_ret ?_
    refine e_thenr ?_
    exact ret4 (fun w s' => no_parts hp hno (Conv.sat (by repeat (first | with_reducible exact Conv.refl | exact Conv.nil | (apply Conv.cons; · first | ((repeat (first | with_reducible exact Take.head | apply Take.tail)); done) | ((repeat (first | exact Take.head | apply Take.tail)); done)) | refine Conv.drop ?_)) s'))
end Go.Proofs.YtljjplndcbekfaaDoor
