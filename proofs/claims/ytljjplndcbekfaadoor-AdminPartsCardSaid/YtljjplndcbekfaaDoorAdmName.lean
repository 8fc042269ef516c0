/- Contracts: a rune that is no letter of the alphabet is not found in it; names. Its conditions: none. -/
import Derived.Test.YtljjplndcbekfaaDoorAdmMid
namespace Go.Proofs.YtljjplndcbekfaaDoor
open SL A Go.RowKit
set_option maxRecDepth 100000
def alph : B := [97, 98, 99, 100, 101, 102, 103, 104, 105, 106, 107, 108, 109, 110, 111, 112, 113, 114, 115, 116, 117, 118, 119, 120, 121, 122, 48, 49, 50, 51, 52, 53, 54, 55, 56, 57, 46, 45]
theorem alph_size : (bs alph).size = 38 := rfl
theorem alph_low : ∀ b ∈ (bs alph).data.toList, b.toNat < 128 := by decide
theorem alph_dec : ∀ k : Nat, k < 38 → (Utf8.decode (bs alph) k).1 < 128 ∧ (Utf8.decode (bs alph) k).2 = 1 := by decide +kernel
theorem k_valid (r : Int) : Ct Tryd.prog 66 #[.int .i32 r] (fun F => F) (fun _ : Unit => True) (fun _ => .bool (Lib.validRune r)) (fun _ F => F) :=
  Ct.keeps fun _ w _ => (Tryd.utf8_ValidRune r w).mono fun _ _ ⟨he, hw⟩ => ⟨(), trivial, he, by subst hw; exact ⟨rfl, rfl⟩, fun _ _ h => hw ▸ h⟩
theorem k_ibyte (s : ByteArray) (c : Int) : Ct Tryd.prog 65 #[.string s, .int .u8 c] (fun F => F) (fun _ : Unit => True) (fun _ => .int .i64 (Lib.indexByte s.data.toList c.toNat.toUInt8)) (fun _ F => F) :=
  Ct.keeps fun _ w _ => (Tryd.strings_IndexByte s c w).mono fun _ _ ⟨he, hw⟩ => ⟨(), trivial, he, by subst hw; exact ⟨rfl, rfl⟩, fun _ _ h => hw ▸ h⟩
theorem ib_none {l : B} {c : UInt8} (h : ∀ b ∈ l, b ≠ c) : Lib.indexByte l c = -1 := by
  induction l with
  | nil => rfl
  | cons b l ih =>
    have h1 : (b == c) = false := by simpa using h b (by simp)
    simp [Lib.indexByte, h1, ih (fun b hb => h b (by simp [hb]))]
theorem k_ibyte_hi (s : ByteArray) (c : Int) (h : ∀ b ∈ s.data.toList, b.toNat < 128) (hc : 128 ≤ c) (hc' : c < 256) : Ct Tryd.prog 65 #[.string s, .int .u8 c] (fun F => F) (fun _ : Unit => True) (fun _ => .int .i64 (-1)) (fun _ F => F) := by
  have h1 := k_ibyte s c
  rw [ib_none (fun b hb e => by
    have h2 := h b hb
    rw [e] at h2
    have h3 : (c.toNat.toUInt8).toNat = c.toNat := by simp; omega
    omega)] at h1
  exact h1

theorem enc_last {r : Int} (hv : Lib.validRune r = true) (h : 128 ≤ r) : 2 ≤ (Utf8.encode r).size ∧ (Utf8.encode r).size ≤ 4 ∧ 128 ≤ ((Utf8.encode r)[((((Utf8.encode r).size : Int) - 1).toNat)]!).toNat := by
  have hv' : Utf8.valid r = true := by rw [validRune_eq]; exact hv
  obtain ⟨h1, h2, h3⟩ := encode_facts r hv' h
  refine ⟨h1, h2, ?_⟩
  have e : (((Utf8.encode r).size : Int) - 1).toNat = (Utf8.encode r).size - 1 := by omega
  rw [e, getElem!_pos _ _ (by omega)]
  exact h3 _
theorem alph_at {k : Nat} (h : k < 38) : ((bs alph)[k]!).toNat < 128 := by
  rw [getElem!_pos _ _ (by rw [alph_size]; exact h)]
  refine alph_low _ ?_
  exact Array.getElem_mem_toList (xs := (bs alph).data) (by show k < 38; exact h)
theorem k_irune (r : Int) (h0 : 128 ≤ r) (h1 : r ≤ 1114111) : Ct Tryd.prog 50 #[.string (bs alph), .int .i32 r] (fun F => F) (fun _ : Unit => True) (fun _ => .int .i64 (-1)) (fun _ F => F) := by
  refine Ct.of (args := [.string (bs alph), .int .i32 r]) Tryd.func50 rfl Tryd.ntmps50 (Nat.le_of_ble_eq_true rfl) ?_
  intro F K hp
  have ha := alph_size
  refine c_seq ?_
  refine reg ?_
  refine r_q Q_assign ?_
  refine r_nil ?_
  refine e_then ?_
  refine c_block ?_
  refine c_seq ?_
  refine reg ?_
  refine r_q Q_move ?_
  refine r_q Q_leq ?_
  refine r_q Q_move ?_
  refine b_is (t := 163) true rfl (by first | rfl | exact decide_eq_true (by omega) | simp_all) ?_
  refine r_yq Q_move ?_
  refine r_yq Q_lss ?_
  refine r_q Q_pickT ?_
  refine r_q Q_assign ?_
  refine r_nil ?_
  refine e_then ?_
  refine c_false ?_ (by first | rfl | exact congrArg (fun b => some (Value.bool b)) (by first | exact decide_eq_false (by omega) | simp_all))
  refine c_seq ?_
  refine reg ?_
  refine r_q Q_move ?_
  refine r_q Q_eql ?_
  refine r_q Q_assign ?_
  refine r_nil ?_
  refine e_then ?_
  first | refine c_dec rfl (fun hc1 => ?_) (fun hc1 => ?_) | refine c_ndec rfl (fun hc1 => ?_) (fun hc1 => ?_) | refine c_cond rfl (fun hc1 => ?_) (fun hc1 => ?_)
  · refine c_seq ?_
    refine c_seq ?_
    have hrv := hc1
    refine reg ?_
    refine r_q Q_move ?_
    refine r_l (L_range Tryd.underlying9 (fun b => ?_))
    refine r_nil ?_
    refine e_then ?_
    refine c_block ?_
    refine c_loop (α := Nat) (fun k => k ≤ 38) (fun k => [(1, .int .i32 r), (175, pt b), (4, .int .i64 0)]) (fun k => ob b (.stringIter (bs alph) k) :: F) (fun k => 38 - k) 0 (Nat.zero_le _) ⟨rfl, rfl, rfl, trivial⟩ (fun _ s => s) ?_
    rintro k hk
    refine c_seq ?_
    by_cases hp' : k < 38
    · obtain ⟨hd1, hd2⟩ := alph_dec k hp'
      refine reg ?_
      refine r_l (L_next (pos' := k) (s := bs alph) ?_ (by show k < 38; exact hp'))
      refine r_q Q_extract ?_
      refine r_nil ?_
      refine e_then ?_
      refine c_seq ?_
      refine c_true ?_ (by first | rfl | exact congrArg (fun b => some (Value.bool b)) (by first | exact decide_eq_true (by omega) | simp_all))
      refine c_skip ?_
      refine e_then ?_
      refine c_block ?_
      refine c_seq ?_
      refine reg ?_
      refine r_q Q_extract ?_
      refine r_q Q_extract ?_
      refine r_q Q_assign ?_
      refine r_q Q_assign ?_
      refine r_nil ?_
      refine e_then ?_
      refine c_seq ?_
      refine reg ?_
      refine r_q Q_move ?_
      refine r_q Q_eql ?_
      refine r_nil ?_
      refine e_then ?_
      refine c_false ?_ (by first | rfl | exact congrArg (fun b => some (Value.bool b)) (by first | exact decide_eq_false (by omega) | simp_all))
      refine c_skip ?_
      refine e_blockn ?_
      refine e_then ?_
      exact c_back (k + 1) hp' (by omega) ⟨rfl, rfl, rfl, trivial⟩ (fun _ s => by rw [hd2] at s; exact s)
    · refine reg ?_
      refine r_l (L_next0 (pos' := k) (s := bs alph) ?_ (by show ¬ k < 38; exact hp'))
      refine r_q Q_extract ?_
      refine r_nil ?_
      refine e_then ?_
      refine c_seq ?_
      refine c_false ?_ (by first | rfl | exact congrArg (fun b => some (Value.bool b)) (by first | exact decide_eq_false (by omega) | simp_all))
      refine c_exit ?_
      refine e_thenx ?_
      refine e_thenx ?_
      refine e_block ?_
      refine e_then ?_
      refine c_seq ?_
      refine reg ?_
      refine r_q Q_assign ?_
      refine r_nil ?_
      refine e_then ?_
      refine c_ret ?_
      refine e_blockr ?_
      exact ret1 (fun w s => hp () trivial w (Conv.sat (by repeat (first | with_reducible exact Conv.refl | exact Conv.nil | (apply Conv.cons; · first | ((repeat (first | with_reducible exact Take.head | apply Take.tail)); done) | ((repeat (first | exact Take.head | apply Take.tail)); done)) | refine Conv.drop ?_)) s))
  · refine c_seq ?_
    refine reg ?_
    refine r_q Q_move ?_
    refine r_l (l_call cf_66 rfl (k_valid _) ?_)
    intro _ _
    refine r_q Q_not ?_
    refine r_q Q_assign ?_
    refine r_nil ?_
    refine e_then ?_
    first | refine c_dec rfl (fun hc2 => ?_) (fun hc2 => ?_) | refine c_ndec rfl (fun hc2 => ?_) (fun hc2 => ?_) | refine c_cond rfl (fun hc2 => ?_) (fun hc2 => ?_)
    · refine c_seq ?_
      refine reg ?_
      refine r_q Q_assign ?_
      refine r_nil ?_
      refine e_then ?_
      refine c_ret ?_
      refine e_blockr ?_
      exact ret1 (fun w s => hp () trivial w (Conv.sat (by repeat (first | with_reducible exact Conv.refl | exact Conv.nil | (apply Conv.cons; · first | ((repeat (first | with_reducible exact Take.head | apply Take.tail)); done) | ((repeat (first | exact Take.head | apply Take.tail)); done)) | refine Conv.drop ?_)) s))
    · refine c_scope ?_
      refine c_seq ?_
      have hval : Lib.validRune r = true := by first | exact decide_eq_true hc2 | simpa using hc2
      obtain ⟨hs1, hs2, hs3⟩ := enc_last hval h0
      have hal := alph_at (k := (((Utf8.encode r).size : Int) - 1).toNat) (by omega)
      have hb := ((Utf8.encode r)[((((Utf8.encode r).size : Int) - 1).toNat)]!).toNat_lt
      refine reg ?_
      refine r_q Q_move ?_
      refine r_q (Q_convrs (by rw [Tryd.underlying21]; rfl) Tryd.underlying9) ?_
      refine r_q Q_assign ?_
      refine r_nil ?_
      refine e_then ?_
      refine c_seq ?_
      refine reg ?_
      refine r_q Q_move ?_
      refine r_q (Q_lens Tryd.underlying9) ?_
      refine r_q Q_subn ?_
      refine r_q Q_assign ?_
      refine r_nil ?_
      refine e_then ?_
      refine c_seq ?_
      refine reg ?_
      refine r_q Q_move ?_
      refine r_q Q_assign ?_
      refine r_nil ?_
      refine e_then ?_
      refine c_seq ?_
      refine reg ?_
      refine r_q Q_assign ?_
      refine r_nil ?_
      refine e_then ?_
      refine c_seq ?_
      refine c_block ?_
      refine c_loop (α := Unit) (fun _ => True) (fun _ => [(0, .string (bs alph)), (1, .int .i32 r), (7, .string (Utf8.encode r)), (8, .int .i64 (((Utf8.encode r).size : Int) - 1)), (9, .int .i64 (((Utf8.encode r).size : Int) - 1)), (4, .int .i64 0)]) (fun _ => F) (fun _ => 0) () trivial ⟨rfl, rfl, rfl, rfl, rfl, rfl, trivial⟩ (fun _ s => s) ?_
      rintro ⟨⟩ _
      refine c_seq ?_
      refine c_seq ?_
      refine reg ?_
      refine r_q Q_move ?_
      refine r_q Q_move ?_
      refine r_q (Q_lens Tryd.underlying9) ?_
      refine r_q Q_lss ?_
      refine r_nil ?_
      refine e_then ?_
      refine c_true ?_ (by first | rfl | exact congrArg (fun b => some (Value.bool b)) (by first | exact decide_eq_true (by omega) | simp_all))
      refine c_skip ?_
      refine e_then ?_
      refine c_block ?_
      refine c_scope ?_
      refine c_seq ?_
      refine c_seq ?_
      refine dreg (N := 7) [] 7 ?_ mixed rfl
      refine d_q 0 rfl Q_move (fun _ _ => trivial) (by repeat (first | exact PanicOk.body | exact PanicOk.bodyD (by intros; simp [results, Act.put]) | refine PanicOk.then ?_ | refine PanicOk.block ?_ | refine PanicOk.scope ?_)) (by kernel_rfl) ?_
      refine d_q 1 rfl Q_move (fun _ _ => trivial) (by repeat (first | exact PanicOk.body | exact PanicOk.bodyD (by intros; simp [results, Act.put]) | refine PanicOk.then ?_ | refine PanicOk.block ?_ | refine PanicOk.scope ?_)) (by kernel_rfl) ?_
      refine d_q 2 rfl (Q_indexs Tryd.underlying9) (fun _ _ => trivial) (by repeat (first | exact PanicOk.body | exact PanicOk.bodyD (by intros; simp [results, Act.put]) | refine PanicOk.then ?_ | refine PanicOk.block ?_ | refine PanicOk.scope ?_)) (by kernel_rfl) ?_
      refine d_q 3 rfl Q_move (fun _ _ => trivial) (by repeat (first | exact PanicOk.body | exact PanicOk.bodyD (by intros; simp [results, Act.put]) | refine PanicOk.then ?_ | refine PanicOk.block ?_ | refine PanicOk.scope ?_)) (by kernel_rfl) ?_
      refine d_q 4 rfl Q_move (fun _ _ => trivial) (by repeat (first | exact PanicOk.body | exact PanicOk.bodyD (by intros; simp [results, Act.put]) | refine PanicOk.then ?_ | refine PanicOk.block ?_ | refine PanicOk.scope ?_)) (by kernel_rfl) ?_
      refine d_q 5 rfl (Q_indexs Tryd.underlying9) (fun _ _ => trivial) (by repeat (first | exact PanicOk.body | exact PanicOk.bodyD (by intros; simp [results, Act.put]) | refine PanicOk.then ?_ | refine PanicOk.block ?_ | refine PanicOk.scope ?_)) (by kernel_rfl) ?_
      refine d_q 6 rfl Q_neq (fun _ _ => trivial) (by repeat (first | exact PanicOk.body | exact PanicOk.bodyD (by intros; simp [results, Act.put]) | refine PanicOk.then ?_ | refine PanicOk.block ?_ | refine PanicOk.scope ?_)) (by kernel_rfl) ?_
      refine d_nil (by kernel_rfl) ?_
      refine e_then ?_
      refine c_true ?_ (by first | rfl | exact congrArg (fun b => some (Value.bool b)) (by first | exact decide_eq_true (by omega) | simp_all))
      refine c_seq ?_
      refine dreg (N := 9) [] 8 ?_ mixed rfl
      refine d_q 0 rfl Q_move (fun _ _ => trivial) (by repeat (first | exact PanicOk.body | exact PanicOk.bodyD (by intros; simp [results, Act.put]) | refine PanicOk.then ?_ | refine PanicOk.block ?_ | refine PanicOk.scope ?_)) (by kernel_rfl) ?_
      refine d_q 1 rfl Q_move (fun _ _ => trivial) (by repeat (first | exact PanicOk.body | exact PanicOk.bodyD (by intros; simp [results, Act.put]) | refine PanicOk.then ?_ | refine PanicOk.block ?_ | refine PanicOk.scope ?_)) (by kernel_rfl) ?_
      refine d_q 2 rfl Q_addn (fun _ _ => trivial) (by repeat (first | exact PanicOk.body | exact PanicOk.bodyD (by intros; simp [results, Act.put]) | refine PanicOk.then ?_ | refine PanicOk.block ?_ | refine PanicOk.scope ?_)) (by kernel_rfl) ?_
      refine d_q 3 rfl (Q_slices1 Tryd.underlying9) (fun _ _ => trivial) (by repeat (first | exact PanicOk.body | exact PanicOk.bodyD (by intros; simp [results, Act.put]) | refine PanicOk.then ?_ | refine PanicOk.block ?_ | refine PanicOk.scope ?_)) (by kernel_rfl) ?_
      refine d_q 4 rfl Q_move (fun _ _ => trivial) (by repeat (first | exact PanicOk.body | exact PanicOk.bodyD (by intros; simp [results, Act.put]) | refine PanicOk.then ?_ | refine PanicOk.block ?_ | refine PanicOk.scope ?_)) (by kernel_rfl) ?_
      refine d_q 5 rfl Q_move (fun _ _ => trivial) (by repeat (first | exact PanicOk.body | exact PanicOk.bodyD (by intros; simp [results, Act.put]) | refine PanicOk.then ?_ | refine PanicOk.block ?_ | refine PanicOk.scope ?_)) (by kernel_rfl) ?_
      refine d_q 6 rfl (Q_indexs Tryd.underlying9) (fun _ _ => trivial) (by repeat (first | exact PanicOk.body | exact PanicOk.bodyD (by intros; simp [results, Act.put]) | refine PanicOk.then ?_ | refine PanicOk.block ?_ | refine PanicOk.scope ?_)) (by kernel_rfl) ?_
      refine d_l 7 (by kernel_rfl) rfl rfl ?_
      refine (l_call cf_65 rfl (k_ibyte_hi _ _ (fun b hb => alph_low b (mem_extract hb)) (by omega) (by omega)) ?_)
      intro _ _
      refine d_head (fun _ _ => trivial) ?_
      refine d_l 8 (by kernel_rfl) rfl rfl ?_
      refine l_q Q_assign ?_
      refine d_tail ?_ (by kernel_rfl)
      refine d_nil (by kernel_rfl) ?_
      refine e_then ?_
      refine c_seq ?_
      refine c_seq ?_
      refine reg ?_
      refine r_q Q_move ?_
      refine r_q Q_lss ?_
      refine r_nil ?_
      refine e_then ?_
      first | refine c_dec rfl (fun hc3 => ?_) (fun hc3 => ?_) | refine c_ndec rfl (fun hc3 => ?_) (fun hc3 => ?_) | refine c_cond rfl (fun hc3 => ?_) (fun hc3 => ?_)
      · refine c_seq ?_
        refine reg ?_
        refine r_q Q_assign ?_
        refine r_nil ?_
        refine e_then ?_
        refine c_ret ?_
        refine e_thenr ?_
        refine e_thenr ?_
        refine e_scoper ?_
        refine e_blockr ?_
        refine e_thenr ?_
        refine e_blockr ?_
        refine e_thenr ?_
        refine e_scoper ?_
        refine e_blockr ?_
        exact ret1 (fun w s => hp () trivial w (Conv.sat (by repeat (first | with_reducible exact Conv.refl | exact Conv.nil | (apply Conv.cons; · first | ((repeat (first | with_reducible exact Take.head | apply Take.tail)); done) | ((repeat (first | exact Take.head | apply Take.tail)); done)) | refine Conv.drop ?_)) s))
      · exfalso; first | omega | simp_all
def okr (r : Int) : Prop := (97 ≤ r ∧ r ≤ 122) ∨ (48 ≤ r ∧ r ≤ 57) ∨ r = 46 ∨ r = 45
instance (r : Int) : Decidable (okr r) := by unfold okr; infer_instance
theorem alph_has : ∀ k : Nat, k < 128 → decide (0 ≤ Lib.indexByte alph k.toUInt8) = decide (okr k) := by decide +kernel
theorem okr_hi {r : Int} (h : 128 ≤ r) : ¬ okr r := by unfold okr; omega
theorem k_crune (r : Int) (h0 : 0 ≤ r) (h1 : r ≤ 1114111) : Ct Tryd.prog 40 #[.string (bs alph), .int .i32 r] (fun F => F) (fun _ : Unit => True) (fun _ => .bool (decide (okr r))) (fun _ F => F) := by
  by_cases h128 : r < 128
  · have hh := alph_has r.toNat (by omega)
    rw [show ((r.toNat : Nat) : Int) = r by omega] at hh
    exact Ct.keeps fun _ w _ => (Tryd.strings_ContainsRune_ascii (bs alph) r w h0 h128).mono fun _ _ ⟨he, hw⟩ => ⟨(), trivial, by rw [he, ← hh]; rfl, by subst hw; exact ⟨rfl, rfl⟩, fun _ _ h => hw ▸ h⟩
  refine Ct.of (args := [.string (bs alph), .int .i32 r]) Tryd.func40 rfl Tryd.ntmps40 (Nat.le_of_ble_eq_true rfl) ?_
  intro F K hp
  refine c_seq ?_
  refine reg ?_
  refine r_q Q_assign ?_
  refine r_nil ?_
  refine e_then ?_
  refine c_seq ?_
  refine reg ?_
  refine r_q Q_move ?_
  refine r_q Q_move ?_
  refine r_l (l_call cf_50 rfl (k_irune r (by omega) h1) ?_)
  intro _ _
  refine r_q Q_geq ?_
  refine r_q Q_assign ?_
  refine r_nil ?_
  refine e_then ?_
  refine c_ret ?_
  exact ret1 (v := .bool false) (fun w s' => by have hq := hp () trivial w s'; rwa [decide_eq_false (okr_hi (by omega))] at hq)
theorem m_pred (r : Int) (h0 : 0 ≤ r) (h1 : r ≤ 1114111) : Ct Tryd.prog 39 #[.int .i32 r] (fun F => F) (fun _ : Unit => True) (fun _ => .bool (!decide (okr r))) (fun _ F => F) := by
  refine Ct.of (args := [.int .i32 r]) Tryd.func39 rfl Tryd.ntmps39 (Nat.le_of_ble_eq_true rfl) ?_
  intro F K hp
  refine c_seq ?_
  refine reg ?_
  refine r_q Q_assign ?_
  refine r_nil ?_
  refine e_then ?_
  refine c_seq ?_
  refine reg ?_
  refine r_q Q_move ?_
  refine r_l (l_call cf_40 rfl (k_crune _ (by omega) (by omega)) ?_)
  intro _ _
  refine r_q Q_not ?_
  refine r_q Q_assign ?_
  refine r_nil ?_
  refine e_then ?_
  refine c_ret ?_
  exact ret1 (fun w s => hp () trivial w (Conv.sat (by repeat (first | with_reducible exact Conv.refl | exact Conv.nil | (apply Conv.cons; · first | ((repeat (first | with_reducible exact Take.head | apply Take.tail)); done) | ((repeat (first | exact Take.head | apply Take.tail)); done)) | refine Conv.drop ?_)) s))
theorem dec_low {s : B} {k : Nat} {c : UInt8} (h : s[k]? = some c) (hc : c.toNat < 128) : Utf8.decode (bs s) k = (c.toNat, 1) := by
  obtain ⟨hi, he⟩ := List.getElem?_eq_some_iff.1 h
  have e : (bs s)[k]'(by rw [bs_size]; exact hi) = c := by rw [← bs_at h, getElem!_pos]
  have := decode_ascii (bs s) k (by rw [bs_size]; exact hi) (by rw [e]; exact hc)
  rw [this, e]
theorem dec_high {s : B} {k : Nat} {c : UInt8} (h : s[k]? = some c) (hc : ¬ c.toNat < 128) : 128 ≤ (Utf8.decode (bs s) k).1 := by
  obtain ⟨hi, he⟩ := List.getElem?_eq_some_iff.1 h
  have e : (bs s)[k]'(by rw [bs_size]; exact hi) = c := by rw [← bs_at h, getElem!_pos]
  exact (decode_high (bs s) k (by rw [bs_size]; exact hi) (by rw [e]; omega)).1
theorem dec_max (s : ByteArray) (k : Nat) : (Utf8.decode s k).1 ≤ 1114111 := by
  have hb : ∀ j, (s.get! (k + j)).toNat < 256 := fun j => (s.get! (k + j)).toNat_lt
  have h0 := hb 0; have h1 := hb 1; have h2 := hb 2; have h3 := hb 3
  simp only [Utf8.decode]
  repeat' split
  all_goals simp_all [Utf8.runeError, Utf8.valid]
  all_goals omega
theorem dec_ok {s : B} {k : Nat} {c : UInt8} (h : s[k]? = some c) : (okr (Utf8.decode (bs s) k).1 → okc c ∧ (Utf8.decode (bs s) k).2 = 1) ∧ (¬ okr (Utf8.decode (bs s) k).1 → ¬ okc c) := by
  by_cases hc : c.toNat < 128
  · rw [dec_low h hc]
    refine ⟨fun h => ⟨?_, rfl⟩, fun h h' => h ?_⟩
    · unfold okr at h; unfold okc; omega
    · unfold okc at h'; unfold okr; omega
  · have := dec_high h hc
    exact ⟨fun h => absurd h (okr_hi (by omega)), fun _ h' => by unfold okc at h'; omega⟩
theorem k_ifunc (s : B)  : Ct Tryd.prog 64 #[.string (bs s), .func (.func 39) #[] #[], .bool true] (fun F => F) (fun n : Int => (0 ≤ n ↔ ∃ c ∈ s, ¬ okc c)) (fun n => .int .i64 n) (fun n F => F) := by
  refine Ct.of (args := [.string (bs s), .func (.func 39) #[] #[], .bool true]) Tryd.func64 rfl Tryd.ntmps64 (Nat.le_of_ble_eq_true rfl) ?_
  intro F K hp
  have hz := bs_size s
  refine c_seq ?_
  refine reg ?_
  refine r_q Q_assign ?_
  refine r_nil ?_
  refine e_then ?_
  refine c_seq ?_
  refine c_seq ?_
  refine reg ?_
  refine r_q Q_move ?_
  refine r_l (L_range Tryd.underlying9 (fun b => ?_))
  refine r_nil ?_
  refine e_then ?_
  refine c_block ?_
  refine c_loop (α := Nat) (fun k => k ≤ s.length ∧ ∀ c ∈ s.take k, okc c) (fun k => [(0, .string (bs s)), (1, .func (.func 39) #[] #[]), (2, .bool true), (10, pt b), (6, .int .i64 0)]) (fun k => ob b (.stringIter (bs s) k) :: F) (fun k => s.length - k) 0 ⟨Nat.zero_le _, by simp⟩ ⟨rfl, rfl, rfl, rfl, rfl, trivial⟩ (fun _ s => s) ?_
  rintro k ⟨hk, hok⟩
  refine c_seq ?_
  by_cases hk' : k < s.length
  · obtain ⟨c, hc⟩ := at_lt hk'
    have hd := dec_ok hc
    refine reg ?_
    refine r_l (L_next (pos' := k) (s := bs s) ?_ (by rw [bs_size]; exact hk'))
    refine r_q Q_extract ?_
    refine r_nil ?_
    refine e_then ?_
    refine c_seq ?_
    refine c_true ?_ (by first | rfl | exact congrArg (fun b => some (Value.bool b)) (by first | exact decide_eq_true (by omega) | simp_all))
    refine c_skip ?_
    refine e_then ?_
    refine c_block ?_
    refine c_seq ?_
    refine reg ?_
    refine r_q Q_extract ?_
    refine r_q Q_extract ?_
    refine r_q Q_assign ?_
    refine r_q Q_assign ?_
    refine r_nil ?_
    refine e_then ?_
    refine c_seq ?_
    refine reg ?_
    refine r_q Q_move ?_
    refine r_q Q_move ?_
    refine r_l (l_callv (first := []) (cap := []) cf_39 rfl rfl (m_pred _ (Int.natCast_nonneg _) (Int.ofNat_le.2 (dec_max _ _))) ?_)
    intro _ _
    refine r_q Q_move ?_
    refine r_q (Q_eqb Tryd.underlying4) ?_
    refine r_nil ?_
    refine e_then ?_
    first | refine c_dec rfl (fun hc1 => ?_) (fun hc1 => ?_) | refine c_ndec rfl (fun hc1 => ?_) (fun hc1 => ?_) | refine c_cond rfl (fun hc1 => ?_) (fun hc1 => ?_)
    · refine c_seq ?_
      refine reg ?_
      refine r_q Q_move ?_
      refine r_q Q_assign ?_
      refine r_nil ?_
      refine e_then ?_
      refine c_ret ?_
      refine e_blockr ?_
      refine e_thenr ?_
      refine e_blockr ?_
      refine e_thenr ?_
      exact ret1 (fun w s' => hp _ ⟨fun _ => ⟨c, List.mem_of_getElem? hc, hd.2 (by simpa using hc1)⟩, fun _ => Int.natCast_nonneg _⟩ w s'.tail)
    · refine c_skip ?_
      refine e_blockn ?_
      refine e_then ?_
      have hr : okr (Utf8.decode (bs s) k).1 := by simpa using hc1
      exact c_back (k + 1) ⟨hk', name_step hc hok (hd.1 hr).1⟩ (by omega) ⟨rfl, rfl, rfl, rfl, rfl, trivial⟩ (fun _ s => by rw [(hd.1 hr).2] at s; exact s)
  · refine reg ?_
    refine r_l (L_next0 (pos' := k) (s := bs s) ?_ (by rw [bs_size]; exact hk'))
    refine r_q Q_extract ?_
    refine r_nil ?_
    refine e_then ?_
    refine c_seq ?_
    refine c_false ?_ (by first | rfl | exact congrArg (fun b => some (Value.bool b)) (by first | exact decide_eq_false (by omega) | simp_all))
    refine c_exit ?_
    refine e_thenx ?_
    refine e_thenx ?_
    refine e_block ?_
    refine e_then ?_
    refine c_seq ?_
    refine reg ?_
    refine r_q Q_assign ?_
    refine r_nil ?_
    refine e_then ?_
    refine c_ret ?_
    exact ret1 (fun w s' => hp (-1) ⟨fun h => absurd h (by decide), fun ⟨c, h1, h2⟩ => absurd (hok c (by rw [List.take_of_length_le (by omega)]; exact h1)) h2⟩ w s'.tail)
theorem k_ifn (s : B)  : Ct Tryd.prog 49 #[.string (bs s), .func (.func 39) #[] #[]] (fun F => F) (fun n : Int => (0 ≤ n ↔ ∃ c ∈ s, ¬ okc c)) (fun n => .int .i64 n) (fun n F => F) := by
  refine Ct.of (args := [.string (bs s), .func (.func 39) #[] #[]]) Tryd.func49 rfl Tryd.ntmps49 (Nat.le_of_ble_eq_true rfl) ?_
  intro F K hp
  refine c_seq ?_
  refine reg ?_
  refine r_q Q_assign ?_
  refine r_nil ?_
  refine e_then ?_
  refine c_seq ?_
  refine reg ?_
  refine r_q Q_move ?_
  refine r_q Q_move ?_
  refine r_l (l_call cf_64 rfl (k_ifunc s) ?_)
  intro nn hn
  refine r_q Q_assign ?_
  refine r_nil ?_
  refine e_then ?_
  refine c_ret ?_
  exact ret1 (fun w s' => hp nn hn w s')
theorem k_cfn (s : B)  : Ct Tryd.prog 38 #[.string (bs s), .func (.func 39) #[] #[]] (fun F => F) (fun _ : Unit => True) (fun _ => .bool (decide (∃ c ∈ s, ¬ okc c))) (fun _ F => F) := by
  refine Ct.of (args := [.string (bs s), .func (.func 39) #[] #[]]) Tryd.func38 rfl Tryd.ntmps38 (Nat.le_of_ble_eq_true rfl) ?_
  intro F K hp
  refine c_seq ?_
  refine reg ?_
  refine r_q Q_assign ?_
  refine r_nil ?_
  refine e_then ?_
  refine c_seq ?_
  refine reg ?_
  refine r_q Q_move ?_
  refine r_q Q_move ?_
  refine r_l (l_call cf_49 rfl (k_ifn s) ?_)
  intro nn hn
  refine r_q Q_geq ?_
  refine r_q Q_assign ?_
  refine r_nil ?_
  refine e_then ?_
  refine c_ret ?_
  exact ret1 (v := .bool (decide (0 ≤ nn))) (fun w s' => by have hq := hp () trivial w s'; rwa [← show decide (0 ≤ nn) = decide (∃ c ∈ s, ¬ okc c) from decide_eq_decide.2 hn] at hq)
theorem m_name (s : B) (hs : s.length ≤ 4000000000) : Ct Tryd.prog 20 #[.string (bs s)] (fun F => F) (fun _ : Unit => True) (fun _ => .bool (decide (nameOk s))) (fun _ F => F) := by
  refine Ct.of (args := [.string (bs s)]) Tryd.func20 rfl Tryd.ntmps20 (Nat.le_of_ble_eq_true rfl) ?_
  intro F K hp
  have hz := bs_size s
  have hnil := bs_eq_nil s
  refine c_seq ?_
  refine reg ?_
  refine r_q Q_assign ?_
  refine r_nil ?_
  refine e_then ?_
  refine c_seq ?_
  refine reg ?_
  refine r_q Q_move ?_
  refine r_q Q_neqs ?_
  refine r_q Q_move ?_
  first | refine b_dec (t := 5) rfl (fun hc1 => ?_) (fun hc1 => ?_) | refine b_ndec (t := 5) rfl (fun hc1 => ?_) (fun hc1 => ?_) | refine b_bool (t := 5) rfl (fun hc1 => ?_) (fun hc1 => ?_)
  · refine r_yq Q_move ?_
    refine r_yq (Q_lens Tryd.underlying9) ?_
    refine r_yq Q_leq ?_
    refine r_q Q_pickT ?_
    refine r_q Q_move ?_
    first | refine b_dec (t := 10) rfl (fun hc2 => ?_) (fun hc2 => ?_) | refine b_ndec (t := 10) rfl (fun hc2 => ?_) (fun hc2 => ?_) | refine b_bool (t := 10) rfl (fun hc2 => ?_) (fun hc2 => ?_)
    · refine r_yq Q_move ?_
      refine r_yes (l_call cf_38 rfl (k_cfn s) ?_)
      intro _ _
      refine r_yq Q_not ?_
      refine r_q Q_pickT ?_
      refine r_q Q_assign ?_
      refine r_nil ?_
      refine e_then ?_
      refine c_ret ?_
      first
        | exact ret1 (v := .bool false) (fun w s' => by have hq := hp () trivial w s'; rwa [decide_eq_false (fun h => by have h2 := h.1; exact hc1 (fun e => by rw [hnil.1 e] at h2; simp at h2))] at hq)
        | exact ret1 (v := .bool false) (fun w s' => by have hq := hp () trivial w s'; rwa [decide_eq_false (fun h => by have h2 := h.2.1; omega)] at hq)
        | exact ret1 (fun w s' => by have hq := hp () trivial w s'; rwa [show decide (nameOk s) = !decide (∃ c ∈ s, ¬ okc c) by
            have h1 : 1 ≤ s.length := by
              cases s with
              | nil => exact absurd (hnil.2 rfl) hc1
              | cons _ _ => simp
            have h2 : s.length ≤ 16 := by omega
            by_cases he : ∃ c ∈ s, ¬ okc c
            · rw [decide_eq_true he]; exact decide_eq_false (fun h => by obtain ⟨c, hc, hn⟩ := he; exact hn (h.2.2 c hc))
            · rw [decide_eq_false he]; exact decide_eq_true ⟨h1, h2, fun c hc => Classical.byContradiction fun hn => he ⟨c, hc, hn⟩⟩] at hq)
    · refine r_no ?_
      refine r_no ?_
      refine r_no ?_
      refine r_q Q_pickF ?_
      refine r_q Q_assign ?_
      refine r_nil ?_
      refine e_then ?_
      refine c_ret ?_
      first
        | exact ret1 (v := .bool false) (fun w s' => by have hq := hp () trivial w s'; rwa [decide_eq_false (fun h => by have h2 := h.1; exact hc1 (fun e => by rw [hnil.1 e] at h2; simp at h2))] at hq)
        | exact ret1 (v := .bool false) (fun w s' => by have hq := hp () trivial w s'; rwa [decide_eq_false (fun h => by have h2 := h.2.1; omega)] at hq)
        | exact ret1 (fun w s' => by have hq := hp () trivial w s'; rwa [show decide (nameOk s) = !decide (∃ c ∈ s, ¬ okc c) by
            have h1 : 1 ≤ s.length := by
              cases s with
              | nil => exact absurd (hnil.2 rfl) hc1
              | cons _ _ => simp
            have h2 : s.length ≤ 16 := by omega
            by_cases he : ∃ c ∈ s, ¬ okc c
            · rw [decide_eq_true he]; exact decide_eq_false (fun h => by obtain ⟨c, hc, hn⟩ := he; exact hn (h.2.2 c hc))
            · rw [decide_eq_false he]; exact decide_eq_true ⟨h1, h2, fun c hc => Classical.byContradiction fun hn => he ⟨c, hc, hn⟩⟩] at hq)
  · refine r_no ?_
    refine r_no ?_
    refine r_no ?_
    refine r_q Q_pickF ?_
    refine r_q Q_move ?_
    refine r_no ?_
    refine r_no ?_
    refine r_no ?_
    refine r_q Q_pickF ?_
    refine r_q Q_assign ?_
    refine r_nil ?_
    refine e_then ?_
    refine c_ret ?_
    first
      | exact ret1 (v := .bool false) (fun w s' => by have hq := hp () trivial w s'; rwa [decide_eq_false (fun h => by have h2 := h.1; exact hc1 (fun e => by rw [hnil.1 e] at h2; simp at h2))] at hq)
      | exact ret1 (v := .bool false) (fun w s' => by have hq := hp () trivial w s'; rwa [decide_eq_false (fun h => by have h2 := h.2.1; omega)] at hq)
      | exact ret1 (fun w s' => by have hq := hp () trivial w s'; rwa [show decide (nameOk s) = !decide (∃ c ∈ s, ¬ okc c) by
          have h1 : 1 ≤ s.length := by
            cases s with
            | nil => exact absurd (hnil.2 rfl) hc1
            | cons _ _ => simp
          have h2 : s.length ≤ 16 := by omega
          by_cases he : ∃ c ∈ s, ¬ okc c
          · rw [decide_eq_true he]; exact decide_eq_false (fun h => by obtain ⟨c, hc, hn⟩ := he; exact hn (h.2.2 c hc))
          · rw [decide_eq_false he]; exact decide_eq_true ⟨h1, h2, fun c hc => Classical.byContradiction fun hn => he ⟨c, hc, hn⟩⟩] at hq)
end Go.Proofs.YtljjplndcbekfaaDoor
