/- Contracts: words, numbers, parts. Its conditions: none. -/
import Derived.Test.YtljjplndcbekfaaDoorAdmName
namespace Go.Proofs.YtljjplndcbekfaaDoor
open SL A Go.RowKit
set_option maxRecDepth 100000
theorem f_words (s : B) (hs : s.length ≤ 4000000000) : Ct Tryd.prog 23 #[.string (bs s)] (fun F => F) (fun _ : Option Addr × Nat => True) (fun x => .slice x.1 (words s).length x.2) (fun x F => SlT eS x.1 x.2 (words s) :: F) := by
  refine Ct.of (args := [.string (bs s)]) Tryd.func23 rfl Tryd.ntmps23 (Nat.le_of_ble_eq_true rfl) ?_
  intro F K hp
  have hz := bs_size s
  refine c_seq ?_
  refine reg ?_
  refine r_q Q_assign ?_
  refine r_nil ?_
  refine e_then ?_
  refine c_seq ?_
  refine reg ?_
  refine r_q Q_assign ?_
  refine r_nil ?_
  refine e_then ?_
  refine c_seq ?_
  refine reg ?_
  refine r_q Q_assign ?_
  refine r_nil ?_
  refine e_then ?_
  refine c_seq ?_
  refine c_seq ?_
  refine reg ?_
  refine r_q Q_assign ?_
  refine r_nil ?_
  refine e_then ?_
  refine c_block ?_
  refine St.nilS eS ?_
  refine c_loop (α := Nat × List B × B × Option Addr × Nat) (fun x => x.1 ≤ s.length ∧ x.2.1 ++ wr x.2.2.1 (s.drop x.1) = words s ∧ x.2.2.1.length ≤ x.1 ∧ x.2.1.length ≤ x.1) (fun x => [(0, .string (bs s)), (2, .slice none 0 0), (3, .slice x.2.2.2.1 x.2.1.length x.2.2.2.2), (4, .string (bs x.2.2.1)), (5, .int .i64 (x.1 : Nat))]) (fun x => SlT eS x.2.2.2.1 x.2.2.2.2 x.2.1 :: F) (fun x => s.length - x.1) (0, [], [], none, 0) ⟨Nat.zero_le _, rfl, Nat.zero_le _, Nat.zero_le _⟩ ⟨rfl, rfl, rfl, rfl, rfl, trivial⟩ (fun _ s => s) ?_
  rintro ⟨k, o, wd, a, ca⟩ ⟨hk, hw, hl, hol⟩
  dsimp only at hk hw hl hol ⊢
  refine c_seq ?_
  refine c_seq ?_
  refine reg ?_
  refine r_q Q_move ?_
  refine r_q Q_move ?_
  refine r_q (Q_lens Tryd.underlying9) ?_
  refine r_q Q_lss ?_
  refine r_nil ?_
  refine e_then ?_
  first | refine c_dec rfl (fun hc1 => ?_) (fun hc1 => ?_) | refine c_ndec rfl (fun hc1 => ?_) (fun hc1 => ?_) | refine c_cond rfl (fun hc1 => ?_) (fun hc1 => ?_)
  · refine c_skip ?_
    refine e_then ?_
    refine c_seq ?_
    refine c_block ?_
    refine c_seq ?_
    obtain ⟨c, hc⟩ := at_lt (l := s) (i := k) (by omega)
    refine reg ?_
    refine r_q Q_move ?_
    refine r_q Q_move ?_
    refine r_q (Q_indexb Tryd.underlying9 hc) ?_
    refine r_q Q_eql ?_
    refine r_nil ?_
    refine e_then ?_
    first | refine c_dec rfl (fun hc2 => ?_) (fun hc2 => ?_) | refine c_ndec rfl (fun hc2 => ?_) (fun hc2 => ?_) | refine c_cond rfl (fun hc2 => ?_) (fun hc2 => ?_)
    · refine c_seq ?_
      refine reg ?_
      refine r_q Q_move ?_
      refine r_q Q_move ?_
      refine r_l (L_buildSlice (bs_42_1_0 _) (fun b18 => ?_))
      refine r_l (L_append' (l₂ := [_]) (hB := by show (_ + _) * 16 ≤ _; simp only [List.length_cons, List.length_nil]; omega) eS_ok Tryd.underlying42 (fun a19 c19 => ?_))
      refine r_q Q_assign ?_
      refine r_nil ?_
      refine e_then ?_
      refine reg ?_
      refine r_q Q_assign ?_
      refine r_nil ?_
      refine e_blockn ?_
      refine e_then ?_
      refine reg ?_
      refine r_q Q_move ?_
      refine r_q Q_addn ?_
      refine r_q Q_assign ?_
      refine r_nil ?_
      refine e_then ?_
      have h32 : c = 32 := by
        have : c.toNat = 32 := by omega
        exact UInt8.toNat_inj.1 this
      rw [wr_step hc, if_pos h32] at hw
      exact c_back (k + 1, o ++ [wd], [], a19, c19) ⟨by dsimp only; omega, by simpa using hw, Nat.zero_le _, by simp; omega⟩ (by dsimp only; omega) ⟨rfl, rfl, rfl, rfl, rfl, trivial⟩ (fun _ s => s)
    · refine reg ?_
      refine r_q Q_move ?_
      refine r_q Q_move ?_
      refine r_q Q_move ?_
      refine r_q Q_move ?_
      refine r_q Q_addn ?_
      refine r_q (Q_slices Tryd.underlying9) ?_
      refine r_q (Q_adds (hs := by have e : ((k : Int)).toNat = k := rfl; have e' : ((k : Int) + 1).toNat = k + 1 := rfl; rw [e, e', bs_piece hc, bs_size, bs_size]; simp only [List.length_cons, List.length_nil]; omega)) ?_
      refine r_q Q_assign ?_
      refine r_nil ?_
      refine e_blockn ?_
      refine e_then ?_
      refine reg ?_
      refine r_q Q_move ?_
      refine r_q Q_addn ?_
      refine r_q Q_assign ?_
      refine r_nil ?_
      refine e_then ?_
      have h32 : ¬ c = 32 := fun e => by subst e; exact hc2 rfl
      rw [wr_step hc, if_neg h32] at hw
      have e0 : bs wd ++ (bs s).extract ((k : Int)).toNat ((k : Int) + 1).toNat = bs (wd ++ [c]) := by
        have e : ((k : Int)).toNat = k := rfl
        have e' : ((k : Int) + 1).toNat = k + 1 := rfl
        rw [e, e', bs_piece hc, bs_app]
      rw [e0]
      exact c_back (k + 1, o, wd ++ [c], a, ca) ⟨by dsimp only; omega, hw, by simp; omega, by dsimp only; omega⟩ (by dsimp only; omega) ⟨rfl, rfl, rfl, rfl, rfl, trivial⟩ (fun _ s => s)
  · refine c_exit ?_
    refine e_thenx ?_
    refine e_thenx ?_
    refine e_block ?_
    refine e_then ?_
    refine c_seq ?_
    refine reg ?_
    refine r_q Q_move ?_
    refine r_q Q_move ?_
    refine r_l (L_buildSlice (bs_42_1_0 _) (fun b29 => ?_))
    refine r_l (L_append' (l₂ := [_]) (hB := by show (_ + _) * 16 ≤ _; simp only [List.length_cons, List.length_nil]; omega) eS_ok Tryd.underlying42 (fun a30 c30 => ?_))
    refine r_q Q_assign ?_
    refine r_nil ?_
    refine e_then ?_
    refine c_ret ?_
    have e : o ++ [wd] = words s := by
      rw [List.drop_eq_nil_of_le (by omega)] at hw
      exact hw
    exact ret1 (fun w s' => by have hq := hp (a30, c30) trivial w; rw [← e] at hq; exact hq s')
end Go.Proofs.YtljjplndcbekfaaDoor
