/- Contracts: numbers and parts. Its conditions: none. -/
import Derived.Test.YtljjplndcbekfaaDoorAdmWords
import Derived.Test.YtljjplndcbekfaaDoorAdmNum
namespace Go.Proofs.YtljjplndcbekfaaDoor
open SL A Go.RowKit
set_option maxRecDepth 100000
theorem w64_range {s : B} {n : Int} (h : numP s n) : -9223372036854775808 ≤ n ∧ n ≤ 9223372036854775807 := Lib.atoiAll_bounds (atoi_num h)

theorem m_number {gh : World} (s : B) (hs : s.length ≤ 4000000000) : Ct Tryd.prog 22 #[.string (bs s)] (fun F => G gh :: F) (fun n : Int => ∀ m, num s = some m → n = m) (fun n => .tuple #[.int .i64 n, .bool (num s).isSome]) (fun n F => G gh :: F) := by
  refine Ct.of (args := [.string (bs s)]) Tryd.func22 rfl Tryd.ntmps22 (Nat.le_of_ble_eq_true rfl) ?_
  intro F K hp
  have hz := bs_size s
  have ht := bs_size (Lib.trimPrefix s [45])
  refine c_seq ?_
  refine reg ?_
  refine r_q Q_assign ?_
  refine r_q Q_assign ?_
  refine r_nil ?_
  refine e_then ?_
  refine c_seq ?_
  refine reg ?_
  refine r_q Q_move ?_
  refine r_l (l_call cf_41 rfl (k_atoi s (by omega)) ?_)
  rintro ⟨v, ev⟩ hx
  dsimp only at hx ⊢
  refine r_q Q_move ?_
  refine r_q Q_extract ?_
  refine r_q Q_extract ?_
  refine r_q Q_assign ?_
  refine r_q Q_assign ?_
  refine r_nil ?_
  refine e_then ?_
  refine c_seq ?_
  rcases hx with ⟨rfl, hok, hv1, hv2⟩ | ⟨⟨ea, eb, rfl⟩, hno⟩
  · refine reg ?_
    refine r_q Q_move ?_
    refine r_q Q_move ?_
    refine r_q (Q_eqin if_60) ?_
    refine r_q Q_move ?_
    refine b_is (t := 14) true rfl (by first | rfl | exact decide_eq_true (by omega) | simp_all) ?_
    refine r_yq Q_move ?_
    refine r_yes (l_call cf_16 rfl (k_itoa _ (by omega) (by omega)) ?_)
    intro _ _
    refine r_yq Q_move ?_
    refine r_yq Q_eqls ?_
    refine r_q Q_pickT ?_
    refine r_q Q_move ?_
    first | refine b_dec (t := 20) rfl (fun hc1 => ?_) (fun hc1 => ?_) | refine b_ndec (t := 20) rfl (fun hc1 => ?_) (fun hc1 => ?_) | refine b_bool (t := 20) rfl (fun hc1 => ?_) (fun hc1 => ?_)
    · refine r_yq Q_move ?_
      refine r_yes (l_call cf_42 rfl (k_trim _ [45]) ?_)
      intro _ _
      refine r_yq (Q_lens Tryd.underlying9) ?_
      refine r_yq Q_leq ?_
      refine r_q Q_pickT ?_
      refine r_q Q_assign ?_
      refine r_q Q_assign ?_
      refine r_nil ?_
      refine e_then ?_
      refine c_ret ?_
      have he : Lib.itoa v = s := bs_inj hc1
      exact ret2 (fun w s' => by
        have hq := hp v (fun m hm => itoa_inj (he.trans (num_some hm).1.symm)) w s'
        rwa [show (num s).isSome = decide (((bs (Lib.trimPrefix s [45])).size : Int) ≤ 9) by
          by_cases h9 : (Lib.trimPrefix s [45]).length ≤ 9
          · rw [num_of ⟨he, h9⟩]; exact (decide_eq_true (by omega)).symm
          · cases hn : num s with
            | none => exact (decide_eq_false (by omega)).symm
            | some m => exact absurd (num_some hn).2 h9] at hq)
    · refine r_no ?_
      refine r_no ?_
      refine r_no ?_
      refine r_no ?_
      refine r_q Q_pickF ?_
      refine r_q Q_assign ?_
      refine r_q Q_assign ?_
      refine r_nil ?_
      refine e_then ?_
      refine c_ret ?_
      have hn : num s = none := by
        cases hn : num s with
        | none => rfl
        | some m =>
          have h1 := num_some hn
          rw [atoi_num h1] at hok
          cases hok
          exact absurd (congrArg bs h1.1) hc1
      exact ret2 (v' := .bool false) (fun w s' => by
        have hq := hp v (fun m hm => by rw [hn] at hm; cases hm) w s'
        rwa [hn] at hq)
  · refine reg ?_
    refine r_q Q_move ?_
    refine r_q Q_move ?_
    refine r_q (Q_eqin if_60) ?_
    refine r_q Q_move ?_
    refine b_is (t := 14) false rfl (by first | rfl | exact decide_eq_false (by omega) | simp_all) ?_
    refine r_no ?_
    refine r_no ?_
    refine r_no ?_
    refine r_no ?_
    refine r_q Q_pickF ?_
    refine r_q Q_move ?_
    refine r_no ?_
    refine r_no ?_
    refine r_no ?_
    refine r_no ?_
    refine r_q Q_pickF ?_
    refine r_q Q_assign ?_
    refine r_q Q_assign ?_
    refine r_nil ?_
    refine e_then ?_
    refine c_ret ?_
    have hn : num s = none := by
      cases hn : num s with
      | none => rfl
      | some m => exact absurd (atoi_num (num_some hn)) (hno m)
    exact ret2 (v' := .bool false) (fun w s' => by
      have hq := hp v (fun m hm => by rw [hn] at hm; cases hm) w s'
      rwa [hn] at hq)
theorem body_len (s : B) : (body s).length = s.length - (if neg s then 1 else 0) := by
  unfold body; split <;> simp
theorem neg_at {s : B} : neg s ↔ ∃ c, s[0]? = some c ∧ c.toNat = 45 := by
  unfold neg
  cases s with
  | nil => simp
  | cons c s =>
    simp
    constructor
    · rintro rfl; rfl
    · intro h; exact UInt8.toNat_inj.1 h
theorem dv_take {l : B} {j : Nat} {c : UInt8} (h : l[j]? = some c) : dv (l.take (j + 1)) = dv (l.take j) * 10 + (c.toNat - 48) := by
  rw [List.take_add_one, h]; exact dv_snoc _ _
theorem dv_small {l : B} {j : Nat} (hj : j ≤ 10) (h : ∀ c ∈ l.take j, isD c) : dv (l.take j) < 10000000000 :=
  Nat.lt_of_lt_of_le (dv_lt _ _ rfl h) (Nat.le_trans (Nat.pow_le_pow_right (by decide) (List.length_take_le j l)) (Nat.pow_le_pow_right (n := 10) (by decide) hj))
theorem num_bad {s : B} {c : UInt8} {j : Nat} (h : (body s)[j]? = some c) (hc : ¬ isD c) : num s = none := by
  cases hn : num s with
  | none => rfl
  | some m => exact absurd (num_isD (num_some hn).1 c (List.mem_of_getElem? h)) hc
theorem num_long {s : B} (h : ¬ (body s).length ≤ 9) : num s = none := by
  cases hn : num s with
  | none => rfl
  | some m => exact absurd (by rw [← trim_body]; exact (num_some hn).2) h
theorem num_is {s : B} (h : (body s).length ≤ 9) : (num s).isSome = decide (bs (Lib.itoa (sgn s (dv (body s)))) = bs s) := by
  cases hn : num s with
  | none => exact (decide_eq_false (fun e => by rw [num_of ⟨bs_inj e, by rw [trim_body]; exact h⟩] at hn; cases hn)).symm
  | some m =>
    have h1 := num_some hn
    exact (decide_eq_true (by rw [← num_val h1.1, h1.1])).symm
theorem num_eq {s : B} : ∀ m, num s = some m → sgn s (dv (body s)) = m := fun m h => (num_val (num_some h).1).symm
theorem f_number (s : B) (hs : s.length ≤ 4000000000) : Ct Tryd.prog 25 #[.string (bs s)] (fun F => F) (fun n : Int => ∀ m, num s = some m → n = m) (fun n => .tuple #[.int .i64 n, .bool (num s).isSome]) (fun n F => F) := by
  refine Ct.of (args := [.string (bs s)]) Tryd.func25 rfl Tryd.ntmps25 (Nat.le_of_ble_eq_true rfl) ?_
  intro F K hp
  have hz := bs_size s
  have hbl := body_len s
  by_cases hy : neg s
  · have hna := @neg_at s
    rw [if_pos hy] at hbl
    have hby : body s = s.drop 1 := by unfold body; rw [if_pos hy]
    obtain ⟨c0, hc0, hc45⟩ := hna.1 hy
    have hpos := (List.getElem?_eq_some_iff.1 hc0).1
    refine c_seq ?_
    refine reg ?_
    refine r_q Q_assign ?_
    refine r_q Q_assign ?_
    refine r_nil ?_
    refine e_then ?_
    refine c_seq ?_
    refine reg ?_
    refine r_q Q_assign ?_
    refine r_nil ?_
    refine e_then ?_
    refine c_seq ?_
    refine reg ?_
    refine r_q Q_assign ?_
    refine r_nil ?_
    refine e_then ?_
    refine c_seq ?_
    refine c_seq ?_
    
    refine reg ?_
    refine r_q Q_move ?_
    refine r_q (Q_lens Tryd.underlying9) ?_
    refine r_q Q_gtr ?_
    refine r_q Q_move ?_
    refine b_is (t := 10) true rfl (by first | rfl | exact decide_eq_true (by omega) | simp_all) ?_
    refine r_yq Q_move ?_
    refine r_yq (Q_indexb (i := 0) Tryd.underlying9 hc0) ?_
    refine r_yq Q_eql ?_
    refine r_q Q_pickT ?_
    refine r_nil ?_
    refine e_then ?_
    refine c_true ?_ (by first | rfl | exact congrArg (fun b => some (Value.bool b)) (by first | exact decide_eq_true (by omega) | simp_all))
    refine reg ?_
    refine r_q Q_assign ?_
    refine r_nil ?_
    refine e_then ?_
    refine c_seq ?_
    refine c_seq ?_
    refine reg ?_
    refine r_q Q_move ?_
    refine r_q Q_assign ?_
    refine r_nil ?_
    refine e_then ?_
    refine c_block ?_
    refine c_loop (α := Nat) (fun j => 1 + j ≤ s.length ∧ j ≤ 10 ∧ ∀ c ∈ (body s).take j, isD c) (fun j => [(0, .string (bs s)), (2, .int .i64 0), (3, .bool false), (4, .int .i64 (dv ((body s).take j) : Nat)), (5, .int .i64 1), (6, .int .i64 ((1 + j : Nat) : Int))]) (fun _ => F) (fun j => s.length - j) 0 ⟨by omega, Nat.zero_le _, by simp⟩ ⟨rfl, rfl, rfl, rfl, rfl, rfl, trivial⟩ (fun _ s => s) ?_
    rintro j ⟨hj0, hj, hok⟩
    refine c_seq ?_
    refine c_seq ?_
    refine reg ?_
    refine r_q Q_move ?_
    refine r_q Q_move ?_
    refine r_q (Q_lens Tryd.underlying9) ?_
    refine r_q Q_lss ?_
    refine r_q Q_move ?_
    first | refine b_dec (t := 20) rfl (fun hc1 => ?_) (fun hc1 => ?_) | refine b_ndec (t := 20) rfl (fun hc1 => ?_) (fun hc1 => ?_) | refine b_bool (t := 20) rfl (fun hc1 => ?_) (fun hc1 => ?_)
    · refine r_yq Q_move ?_
      refine r_yq Q_move ?_
      refine r_yq Q_addn ?_
      refine r_yq Q_lss ?_
      refine r_q Q_pickT ?_
      refine r_nil ?_
      refine e_then ?_
      first | refine c_dec rfl (fun hc2 => ?_) (fun hc2 => ?_) | refine c_ndec rfl (fun hc2 => ?_) (fun hc2 => ?_) | refine c_cond rfl (fun hc2 => ?_) (fun hc2 => ?_)
      · refine c_skip ?_
        refine e_then ?_
        refine c_seq ?_
        refine c_block ?_
        refine c_seq ?_
        refine c_seq ?_
        obtain ⟨c, hc⟩ := at_lt (l := s) (i := 1 + j) (by omega)
        have hcb : (body s)[j]? = some c := by rw [hby, List.getElem?_drop]; exact hc
        have hsm := dv_small hj hok
        refine reg ?_
        refine r_q Q_move ?_
        refine r_q Q_move ?_
        refine r_q (Q_indexb Tryd.underlying9 hc) ?_
        refine r_q Q_lss ?_
        refine r_q Q_move ?_
        first | refine b_dec (t := 32) rfl (fun hc3 => ?_) (fun hc3 => ?_) | refine b_ndec (t := 32) rfl (fun hc3 => ?_) (fun hc3 => ?_) | refine b_bool (t := 32) rfl (fun hc3 => ?_) (fun hc3 => ?_)
        · refine r_no ?_
          refine r_no ?_
          refine r_no ?_
          refine r_no ?_
          refine r_q Q_pickT ?_
          refine r_nil ?_
          refine e_then ?_
          refine c_true ?_
          refine c_seq ?_
          refine reg ?_
          refine r_q Q_assign ?_
          refine r_q Q_assign ?_
          refine r_nil ?_
          refine e_then ?_
          refine c_ret ?_
          refine e_thenr ?_
          refine e_blockr ?_
          refine e_thenr ?_
          refine e_thenr ?_
          refine e_blockr ?_
          refine e_thenr ?_
          first
            | (exfalso; omega)
            | (have hn := num_bad hcb (by unfold isD; omega)
               exact ret2 (v := .int .i64 0) (v' := .bool false) (fun w s' => by
                 have hq := hp 0 (fun m hm => by rw [hn] at hm; cases hm) w s'
                 rwa [hn] at hq))
            | (have hn := num_long (s := s) (by omega)
               exact ret2 (v' := .bool false) (fun w s' => by
                 have hq := hp (-((dv ((body s).take j) : Nat) : Int)) (fun m hm => by rw [hn] at hm; cases hm) w s'
                 rwa [hn] at hq))
            | (have hn := num_is (s := s) (by omega)
               have ht : (body s).take j = body s := List.take_of_length_le (by omega)
               have hg : sgn s (dv (body s)) = _ := if_pos hy
               rw [ht]
               rw [hg] at hn
               exact ret2 (fun w s' => by
                 have hq := hp (sgn s (dv (body s))) num_eq w s'
                 rw [hg] at hq
                 rwa [hn] at hq))
        · refine r_yq Q_move ?_
          refine r_yq Q_move ?_
          refine r_yq (Q_indexb Tryd.underlying9 hc) ?_
          refine r_yq Q_gtr ?_
          refine r_q Q_pickF ?_
          refine r_nil ?_
          refine e_then ?_
          first | refine c_dec rfl (fun hc4 => ?_) (fun hc4 => ?_) | refine c_ndec rfl (fun hc4 => ?_) (fun hc4 => ?_) | refine c_cond rfl (fun hc4 => ?_) (fun hc4 => ?_)
          · refine c_seq ?_
            refine reg ?_
            refine r_q Q_assign ?_
            refine r_q Q_assign ?_
            refine r_nil ?_
            refine e_then ?_
            refine c_ret ?_
            refine e_thenr ?_
            refine e_blockr ?_
            refine e_thenr ?_
            refine e_thenr ?_
            refine e_blockr ?_
            refine e_thenr ?_
            first
              | (exfalso; omega)
              | (have hn := num_bad hcb (by unfold isD; omega)
                 exact ret2 (v := .int .i64 0) (v' := .bool false) (fun w s' => by
                   have hq := hp 0 (fun m hm => by rw [hn] at hm; cases hm) w s'
                   rwa [hn] at hq))
              | (have hn := num_long (s := s) (by omega)
                 exact ret2 (v' := .bool false) (fun w s' => by
                   have hq := hp (-((dv ((body s).take j) : Nat) : Int)) (fun m hm => by rw [hn] at hm; cases hm) w s'
                   rwa [hn] at hq))
              | (have hn := num_is (s := s) (by omega)
                 have ht : (body s).take j = body s := List.take_of_length_le (by omega)
                 have hg : sgn s (dv (body s)) = _ := if_pos hy
                 rw [ht]
                 rw [hg] at hn
                 exact ret2 (fun w s' => by
                   have hq := hp (sgn s (dv (body s))) num_eq w s'
                   rw [hg] at hq
                   rwa [hn] at hq))
          · refine c_skip ?_
            refine e_then ?_
            refine reg ?_
            refine r_q Q_move ?_
            refine r_q Q_muln ?_
            refine r_q Q_move ?_
            refine r_q Q_move ?_
            refine r_q (Q_indexb Tryd.underlying9 hc) ?_
            refine r_q Q_sub8 ?_
            refine r_q (Q_conv64 Tryd.underlying5 Tryd.underlying3) ?_
            refine r_q Q_addn ?_
            refine r_q Q_assign ?_
            refine r_nil ?_
            refine e_blockn ?_
            refine e_then ?_
            refine reg ?_
            refine r_q Q_move ?_
            refine r_q Q_addn ?_
            refine r_q Q_assign ?_
            refine r_nil ?_
            refine e_then ?_
            have hdt := dv_take hcb
            exact c_back (j + 1) ⟨by omega, by omega, name_step hcb hok (by unfold isD; omega)⟩ (by omega) ⟨rfl, rfl, rfl, congrArg (fun z => some (Value.int .i64 z)) (by omega), rfl, congrArg (fun z => some (Value.int .i64 z)) (by omega), trivial⟩ (fun _ s => s)
      · refine c_exit ?_
        refine e_thenx ?_
        refine e_thenx ?_
        refine e_block ?_
        refine e_then ?_
        refine c_seq ?_
        refine c_seq ?_
        refine reg ?_
        refine r_q Q_move ?_
        refine r_q Q_eql ?_
        refine r_nil ?_
        refine e_then ?_
        first | refine c_dec rfl (fun hc5 => ?_) (fun hc5 => ?_) | refine c_ndec rfl (fun hc5 => ?_) (fun hc5 => ?_) | refine c_cond rfl (fun hc5 => ?_) (fun hc5 => ?_)
        · refine reg ?_
          refine r_q Q_move ?_
          have hsm := dv_small hj hok
          refine r_q Q_negn ?_
          refine r_q Q_assign ?_
          refine r_nil ?_
          refine e_then ?_
          refine c_seq ?_
          refine reg ?_
          refine r_q Q_move ?_
          refine r_q Q_move ?_
          refine r_q (Q_lens Tryd.underlying9) ?_
          refine r_q Q_move ?_
          refine r_q Q_subn ?_
          refine r_q Q_leq ?_
          refine r_q Q_move ?_
          first | refine b_dec (t := 56) rfl (fun hc6 => ?_) (fun hc6 => ?_) | refine b_ndec (t := 56) rfl (fun hc6 => ?_) (fun hc6 => ?_) | refine b_bool (t := 56) rfl (fun hc6 => ?_) (fun hc6 => ?_)
          · refine r_yq Q_move ?_
            have hsm := dv_small hj hok
            refine r_yes (l_call cf_18 rfl (f_digits _ (by omega) (by omega)) ?_)
            intro _ _
            refine r_yq Q_move ?_
            refine r_yq Q_eqls ?_
            refine r_q Q_pickT ?_
            refine r_q Q_assign ?_
            refine r_q Q_assign ?_
            refine r_nil ?_
            refine e_then ?_
            refine c_ret ?_
            first
              | (exfalso; omega)
              | (have hn := num_bad hcb (by unfold isD; omega)
                 exact ret2 (v := .int .i64 0) (v' := .bool false) (fun w s' => by
                   have hq := hp 0 (fun m hm => by rw [hn] at hm; cases hm) w s'
                   rwa [hn] at hq))
              | (have hn := num_long (s := s) (by omega)
                 exact ret2 (v' := .bool false) (fun w s' => by
                   have hq := hp (-((dv ((body s).take j) : Nat) : Int)) (fun m hm => by rw [hn] at hm; cases hm) w s'
                   rwa [hn] at hq))
              | (have hn := num_is (s := s) (by omega)
                 have ht : (body s).take j = body s := List.take_of_length_le (by omega)
                 have hg : sgn s (dv (body s)) = _ := if_pos hy
                 rw [ht]
                 rw [hg] at hn
                 exact ret2 (fun w s' => by
                   have hq := hp (sgn s (dv (body s))) num_eq w s'
                   rw [hg] at hq
                   rwa [hn] at hq))
          · refine r_no ?_
            refine r_no ?_
            refine r_no ?_
            refine r_no ?_
            refine r_q Q_pickF ?_
            refine r_q Q_assign ?_
            refine r_q Q_assign ?_
            refine r_nil ?_
            refine e_then ?_
            refine c_ret ?_
            first
              | (exfalso; omega)
              | (have hn := num_bad hcb (by unfold isD; omega)
                 exact ret2 (v := .int .i64 0) (v' := .bool false) (fun w s' => by
                   have hq := hp 0 (fun m hm => by rw [hn] at hm; cases hm) w s'
                   rwa [hn] at hq))
              | (have hn := num_long (s := s) (by omega)
                 exact ret2 (v' := .bool false) (fun w s' => by
                   have hq := hp (-((dv ((body s).take j) : Nat) : Int)) (fun m hm => by rw [hn] at hm; cases hm) w s'
                   rwa [hn] at hq))
              | (have hn := num_is (s := s) (by omega)
                 have ht : (body s).take j = body s := List.take_of_length_le (by omega)
                 have hg : sgn s (dv (body s)) = _ := if_pos hy
                 rw [ht]
                 rw [hg] at hn
                 exact ret2 (fun w s' => by
                   have hq := hp (sgn s (dv (body s))) num_eq w s'
                   rw [hg] at hq
                   rwa [hn] at hq))
        · refine c_skip ?_
          refine e_then ?_
          refine c_seq ?_
          refine reg ?_
          refine r_q Q_move ?_
          refine r_q Q_move ?_
          refine r_q (Q_lens Tryd.underlying9) ?_
          refine r_q Q_move ?_
          refine r_q Q_subn ?_
          refine r_q Q_leq ?_
          refine r_q Q_move ?_
          first | refine b_dec (t := 56) rfl (fun hc7 => ?_) (fun hc7 => ?_) | refine b_ndec (t := 56) rfl (fun hc7 => ?_) (fun hc7 => ?_) | refine b_bool (t := 56) rfl (fun hc7 => ?_) (fun hc7 => ?_)
          · refine r_yq Q_move ?_
            have hsm := dv_small hj hok
            refine r_yes (l_call cf_18 rfl (f_digits _ (by omega) (by omega)) ?_)
            intro _ _
            refine r_yq Q_move ?_
            refine r_yq Q_eqls ?_
            refine r_q Q_pickT ?_
            refine r_q Q_assign ?_
            refine r_q Q_assign ?_
            refine r_nil ?_
            refine e_then ?_
            refine c_ret ?_
            first
              | (exfalso; omega)
              | (have hn := num_bad hcb (by unfold isD; omega)
                 exact ret2 (v := .int .i64 0) (v' := .bool false) (fun w s' => by
                   have hq := hp 0 (fun m hm => by rw [hn] at hm; cases hm) w s'
                   rwa [hn] at hq))
              | (have hn := num_long (s := s) (by omega)
                 exact ret2 (v' := .bool false) (fun w s' => by
                   have hq := hp (-((dv ((body s).take j) : Nat) : Int)) (fun m hm => by rw [hn] at hm; cases hm) w s'
                   rwa [hn] at hq))
              | (have hn := num_is (s := s) (by omega)
                 have ht : (body s).take j = body s := List.take_of_length_le (by omega)
                 have hg : sgn s (dv (body s)) = _ := if_pos hy
                 rw [ht]
                 rw [hg] at hn
                 exact ret2 (fun w s' => by
                   have hq := hp (sgn s (dv (body s))) num_eq w s'
                   rw [hg] at hq
                   rwa [hn] at hq))
          · refine r_no ?_
            refine r_no ?_
            refine r_no ?_
            refine r_no ?_
            refine r_q Q_pickF ?_
            refine r_q Q_assign ?_
            refine r_q Q_assign ?_
            refine r_nil ?_
            refine e_then ?_
            refine c_ret ?_
            first
              | (exfalso; omega)
              | (have hn := num_bad hcb (by unfold isD; omega)
                 exact ret2 (v := .int .i64 0) (v' := .bool false) (fun w s' => by
                   have hq := hp 0 (fun m hm => by rw [hn] at hm; cases hm) w s'
                   rwa [hn] at hq))
              | (have hn := num_long (s := s) (by omega)
                 exact ret2 (v' := .bool false) (fun w s' => by
                   have hq := hp (-((dv ((body s).take j) : Nat) : Int)) (fun m hm => by rw [hn] at hm; cases hm) w s'
                   rwa [hn] at hq))
              | (have hn := num_is (s := s) (by omega)
                 have ht : (body s).take j = body s := List.take_of_length_le (by omega)
                 have hg : sgn s (dv (body s)) = _ := if_pos hy
                 rw [ht]
                 rw [hg] at hn
                 exact ret2 (fun w s' => by
                   have hq := hp (sgn s (dv (body s))) num_eq w s'
                   rw [hg] at hq
                   rwa [hn] at hq))
    · refine r_no ?_
      refine r_no ?_
      refine r_no ?_
      refine r_no ?_
      refine r_q Q_pickF ?_
      refine r_nil ?_
      refine e_then ?_
      refine c_false ?_
      refine c_exit ?_
      refine e_thenx ?_
      refine e_thenx ?_
      refine e_block ?_
      refine e_then ?_
      refine c_seq ?_
      refine c_seq ?_
      refine reg ?_
      refine r_q Q_move ?_
      refine r_q Q_eql ?_
      refine r_nil ?_
      refine e_then ?_
      first | refine c_dec rfl (fun hc8 => ?_) (fun hc8 => ?_) | refine c_ndec rfl (fun hc8 => ?_) (fun hc8 => ?_) | refine c_cond rfl (fun hc8 => ?_) (fun hc8 => ?_)
      · refine reg ?_
        refine r_q Q_move ?_
        have hsm := dv_small hj hok
        refine r_q Q_negn ?_
        refine r_q Q_assign ?_
        refine r_nil ?_
        refine e_then ?_
        refine c_seq ?_
        refine reg ?_
        refine r_q Q_move ?_
        refine r_q Q_move ?_
        refine r_q (Q_lens Tryd.underlying9) ?_
        refine r_q Q_move ?_
        refine r_q Q_subn ?_
        refine r_q Q_leq ?_
        refine r_q Q_move ?_
        first | refine b_dec (t := 56) rfl (fun hc9 => ?_) (fun hc9 => ?_) | refine b_ndec (t := 56) rfl (fun hc9 => ?_) (fun hc9 => ?_) | refine b_bool (t := 56) rfl (fun hc9 => ?_) (fun hc9 => ?_)
        · refine r_yq Q_move ?_
          have hsm := dv_small hj hok
          refine r_yes (l_call cf_18 rfl (f_digits _ (by omega) (by omega)) ?_)
          intro _ _
          refine r_yq Q_move ?_
          refine r_yq Q_eqls ?_
          refine r_q Q_pickT ?_
          refine r_q Q_assign ?_
          refine r_q Q_assign ?_
          refine r_nil ?_
          refine e_then ?_
          refine c_ret ?_
          first
            | (exfalso; omega)
            | (have hn := num_bad hcb (by unfold isD; omega)
               exact ret2 (v := .int .i64 0) (v' := .bool false) (fun w s' => by
                 have hq := hp 0 (fun m hm => by rw [hn] at hm; cases hm) w s'
                 rwa [hn] at hq))
            | (have hn := num_long (s := s) (by omega)
               exact ret2 (v' := .bool false) (fun w s' => by
                 have hq := hp (-((dv ((body s).take j) : Nat) : Int)) (fun m hm => by rw [hn] at hm; cases hm) w s'
                 rwa [hn] at hq))
            | (have hn := num_is (s := s) (by omega)
               have ht : (body s).take j = body s := List.take_of_length_le (by omega)
               have hg : sgn s (dv (body s)) = _ := if_pos hy
               rw [ht]
               rw [hg] at hn
               exact ret2 (fun w s' => by
                 have hq := hp (sgn s (dv (body s))) num_eq w s'
                 rw [hg] at hq
                 rwa [hn] at hq))
        · refine r_no ?_
          refine r_no ?_
          refine r_no ?_
          refine r_no ?_
          refine r_q Q_pickF ?_
          refine r_q Q_assign ?_
          refine r_q Q_assign ?_
          refine r_nil ?_
          refine e_then ?_
          refine c_ret ?_
          first
            | (exfalso; omega)
            | (have hn := num_bad hcb (by unfold isD; omega)
               exact ret2 (v := .int .i64 0) (v' := .bool false) (fun w s' => by
                 have hq := hp 0 (fun m hm => by rw [hn] at hm; cases hm) w s'
                 rwa [hn] at hq))
            | (have hn := num_long (s := s) (by omega)
               exact ret2 (v' := .bool false) (fun w s' => by
                 have hq := hp (-((dv ((body s).take j) : Nat) : Int)) (fun m hm => by rw [hn] at hm; cases hm) w s'
                 rwa [hn] at hq))
            | (have hn := num_is (s := s) (by omega)
               have ht : (body s).take j = body s := List.take_of_length_le (by omega)
               have hg : sgn s (dv (body s)) = _ := if_pos hy
               rw [ht]
               rw [hg] at hn
               exact ret2 (fun w s' => by
                 have hq := hp (sgn s (dv (body s))) num_eq w s'
                 rw [hg] at hq
                 rwa [hn] at hq))
      · refine c_skip ?_
        refine e_then ?_
        refine c_seq ?_
        refine reg ?_
        refine r_q Q_move ?_
        refine r_q Q_move ?_
        refine r_q (Q_lens Tryd.underlying9) ?_
        refine r_q Q_move ?_
        refine r_q Q_subn ?_
        refine r_q Q_leq ?_
        refine r_q Q_move ?_
        first | refine b_dec (t := 56) rfl (fun hc10 => ?_) (fun hc10 => ?_) | refine b_ndec (t := 56) rfl (fun hc10 => ?_) (fun hc10 => ?_) | refine b_bool (t := 56) rfl (fun hc10 => ?_) (fun hc10 => ?_)
        · refine r_yq Q_move ?_
          have hsm := dv_small hj hok
          refine r_yes (l_call cf_18 rfl (f_digits _ (by omega) (by omega)) ?_)
          intro _ _
          refine r_yq Q_move ?_
          refine r_yq Q_eqls ?_
          refine r_q Q_pickT ?_
          refine r_q Q_assign ?_
          refine r_q Q_assign ?_
          refine r_nil ?_
          refine e_then ?_
          refine c_ret ?_
          first
            | (exfalso; omega)
            | (have hn := num_bad hcb (by unfold isD; omega)
               exact ret2 (v := .int .i64 0) (v' := .bool false) (fun w s' => by
                 have hq := hp 0 (fun m hm => by rw [hn] at hm; cases hm) w s'
                 rwa [hn] at hq))
            | (have hn := num_long (s := s) (by omega)
               exact ret2 (v' := .bool false) (fun w s' => by
                 have hq := hp (-((dv ((body s).take j) : Nat) : Int)) (fun m hm => by rw [hn] at hm; cases hm) w s'
                 rwa [hn] at hq))
            | (have hn := num_is (s := s) (by omega)
               have ht : (body s).take j = body s := List.take_of_length_le (by omega)
               have hg : sgn s (dv (body s)) = _ := if_pos hy
               rw [ht]
               rw [hg] at hn
               exact ret2 (fun w s' => by
                 have hq := hp (sgn s (dv (body s))) num_eq w s'
                 rw [hg] at hq
                 rwa [hn] at hq))
        · refine r_no ?_
          refine r_no ?_
          refine r_no ?_
          refine r_no ?_
          refine r_q Q_pickF ?_
          refine r_q Q_assign ?_
          refine r_q Q_assign ?_
          refine r_nil ?_
          refine e_then ?_
          refine c_ret ?_
          first
            | (exfalso; omega)
            | (have hn := num_bad hcb (by unfold isD; omega)
               exact ret2 (v := .int .i64 0) (v' := .bool false) (fun w s' => by
                 have hq := hp 0 (fun m hm => by rw [hn] at hm; cases hm) w s'
                 rwa [hn] at hq))
            | (have hn := num_long (s := s) (by omega)
               exact ret2 (v' := .bool false) (fun w s' => by
                 have hq := hp (-((dv ((body s).take j) : Nat) : Int)) (fun m hm => by rw [hn] at hm; cases hm) w s'
                 rwa [hn] at hq))
            | (have hn := num_is (s := s) (by omega)
               have ht : (body s).take j = body s := List.take_of_length_le (by omega)
               have hg : sgn s (dv (body s)) = _ := if_pos hy
               rw [ht]
               rw [hg] at hn
               exact ret2 (fun w s' => by
                 have hq := hp (sgn s (dv (body s))) num_eq w s'
                 rw [hg] at hq
                 rwa [hn] at hq))
  · have hna := @neg_at s
    rw [if_neg hy] at hbl
    rw [Nat.sub_zero] at hbl
    have hby : body s = s.drop 0 := by unfold body; rw [if_neg hy]; simp
    refine c_seq ?_
    refine reg ?_
    refine r_q Q_assign ?_
    refine r_q Q_assign ?_
    refine r_nil ?_
    refine e_then ?_
    refine c_seq ?_
    refine reg ?_
    refine r_q Q_assign ?_
    refine r_nil ?_
    refine e_then ?_
    refine c_seq ?_
    refine reg ?_
    refine r_q Q_assign ?_
    refine r_nil ?_
    refine e_then ?_
    refine c_seq ?_
    refine c_seq ?_
    obtain ⟨c0, hc0⟩ : ∃ c0 : UInt8, 0 < s.length → s[0]? = some c0 := by
      cases s with
      | nil => exact ⟨0, fun h => absurd h (Nat.lt_irrefl 0)⟩
      | cons c s => exact ⟨c, fun _ => rfl⟩
    refine reg ?_
    refine r_q Q_move ?_
    refine r_q (Q_lens Tryd.underlying9) ?_
    refine r_q Q_gtr ?_
    refine r_q Q_move ?_
    first | refine b_dec (t := 10) rfl (fun hc1 => ?_) (fun hc1 => ?_) | refine b_ndec (t := 10) rfl (fun hc1 => ?_) (fun hc1 => ?_) | refine b_bool (t := 10) rfl (fun hc1 => ?_) (fun hc1 => ?_)
    · refine r_yq Q_move ?_
      have hc0' := hc0 (by omega)
      have hc45 : c0.toNat ≠ 45 := fun e => hy (hna.2 ⟨c0, hc0', e⟩)
      refine r_yq (Q_indexb (i := 0) Tryd.underlying9 hc0') ?_
      refine r_yq Q_eql ?_
      refine r_q Q_pickT ?_
      refine r_nil ?_
      refine e_then ?_
      refine c_false ?_ (by first | rfl | exact congrArg (fun b => some (Value.bool b)) (by first | exact decide_eq_false (by omega) | simp_all))
      refine c_skip ?_
      refine e_then ?_
      refine c_seq ?_
      refine c_seq ?_
      refine reg ?_
      refine r_q Q_move ?_
      refine r_q Q_assign ?_
      refine r_nil ?_
      refine e_then ?_
      refine c_block ?_
      refine c_loop (α := Nat) (fun j => 0 + j ≤ s.length ∧ j ≤ 10 ∧ ∀ c ∈ (body s).take j, isD c) (fun j => [(0, .string (bs s)), (2, .int .i64 0), (3, .bool false), (4, .int .i64 (dv ((body s).take j) : Nat)), (5, .int .i64 0), (6, .int .i64 ((0 + j : Nat) : Int))]) (fun _ => F) (fun j => s.length - j) 0 ⟨by omega, Nat.zero_le _, by simp⟩ ⟨rfl, rfl, rfl, rfl, rfl, rfl, trivial⟩ (fun _ s => s) ?_
      rintro j ⟨hj0, hj, hok⟩
      refine c_seq ?_
      refine c_seq ?_
      refine reg ?_
      refine r_q Q_move ?_
      refine r_q Q_move ?_
      refine r_q (Q_lens Tryd.underlying9) ?_
      refine r_q Q_lss ?_
      refine r_q Q_move ?_
      first | refine b_dec (t := 20) rfl (fun hc2 => ?_) (fun hc2 => ?_) | refine b_ndec (t := 20) rfl (fun hc2 => ?_) (fun hc2 => ?_) | refine b_bool (t := 20) rfl (fun hc2 => ?_) (fun hc2 => ?_)
      · refine r_yq Q_move ?_
        refine r_yq Q_move ?_
        refine r_yq Q_addn ?_
        refine r_yq Q_lss ?_
        refine r_q Q_pickT ?_
        refine r_nil ?_
        refine e_then ?_
        first | refine c_dec rfl (fun hc3 => ?_) (fun hc3 => ?_) | refine c_ndec rfl (fun hc3 => ?_) (fun hc3 => ?_) | refine c_cond rfl (fun hc3 => ?_) (fun hc3 => ?_)
        · refine c_skip ?_
          refine e_then ?_
          refine c_seq ?_
          refine c_block ?_
          refine c_seq ?_
          refine c_seq ?_
          obtain ⟨c, hc⟩ := at_lt (l := s) (i := 0 + j) (by omega)
          have hcb : (body s)[j]? = some c := by rw [hby, List.getElem?_drop]; exact hc
          have hsm := dv_small hj hok
          refine reg ?_
          refine r_q Q_move ?_
          refine r_q Q_move ?_
          refine r_q (Q_indexb Tryd.underlying9 hc) ?_
          refine r_q Q_lss ?_
          refine r_q Q_move ?_
          first | refine b_dec (t := 32) rfl (fun hc4 => ?_) (fun hc4 => ?_) | refine b_ndec (t := 32) rfl (fun hc4 => ?_) (fun hc4 => ?_) | refine b_bool (t := 32) rfl (fun hc4 => ?_) (fun hc4 => ?_)
          · refine r_no ?_
            refine r_no ?_
            refine r_no ?_
            refine r_no ?_
            refine r_q Q_pickT ?_
            refine r_nil ?_
            refine e_then ?_
            refine c_true ?_
            refine c_seq ?_
            refine reg ?_
            refine r_q Q_assign ?_
            refine r_q Q_assign ?_
            refine r_nil ?_
            refine e_then ?_
            refine c_ret ?_
            refine e_thenr ?_
            refine e_blockr ?_
            refine e_thenr ?_
            refine e_thenr ?_
            refine e_blockr ?_
            refine e_thenr ?_
            first
              | (exfalso; omega)
              | (have hn := num_bad hcb (by unfold isD; omega)
                 exact ret2 (v := .int .i64 0) (v' := .bool false) (fun w s' => by
                   have hq := hp 0 (fun m hm => by rw [hn] at hm; cases hm) w s'
                   rwa [hn] at hq))
              | (have hn := num_long (s := s) (by omega)
                 exact ret2 (v' := .bool false) (fun w s' => by
                   have hq := hp ((dv ((body s).take j) : Nat) : Int) (fun m hm => by rw [hn] at hm; cases hm) w s'
                   rwa [hn] at hq))
              | (have hn := num_is (s := s) (by omega)
                 have ht : (body s).take j = body s := List.take_of_length_le (by omega)
                 have hg : sgn s (dv (body s)) = _ := if_neg hy
                 rw [ht]
                 rw [hg] at hn
                 exact ret2 (fun w s' => by
                   have hq := hp (sgn s (dv (body s))) num_eq w s'
                   rw [hg] at hq
                   rwa [hn] at hq))
          · refine r_yq Q_move ?_
            refine r_yq Q_move ?_
            refine r_yq (Q_indexb Tryd.underlying9 hc) ?_
            refine r_yq Q_gtr ?_
            refine r_q Q_pickF ?_
            refine r_nil ?_
            refine e_then ?_
            first | refine c_dec rfl (fun hc5 => ?_) (fun hc5 => ?_) | refine c_ndec rfl (fun hc5 => ?_) (fun hc5 => ?_) | refine c_cond rfl (fun hc5 => ?_) (fun hc5 => ?_)
            · refine c_seq ?_
              refine reg ?_
              refine r_q Q_assign ?_
              refine r_q Q_assign ?_
              refine r_nil ?_
              refine e_then ?_
              refine c_ret ?_
              refine e_thenr ?_
              refine e_blockr ?_
              refine e_thenr ?_
              refine e_thenr ?_
              refine e_blockr ?_
              refine e_thenr ?_
              first
                | (exfalso; omega)
                | (have hn := num_bad hcb (by unfold isD; omega)
                   exact ret2 (v := .int .i64 0) (v' := .bool false) (fun w s' => by
                     have hq := hp 0 (fun m hm => by rw [hn] at hm; cases hm) w s'
                     rwa [hn] at hq))
                | (have hn := num_long (s := s) (by omega)
                   exact ret2 (v' := .bool false) (fun w s' => by
                     have hq := hp ((dv ((body s).take j) : Nat) : Int) (fun m hm => by rw [hn] at hm; cases hm) w s'
                     rwa [hn] at hq))
                | (have hn := num_is (s := s) (by omega)
                   have ht : (body s).take j = body s := List.take_of_length_le (by omega)
                   have hg : sgn s (dv (body s)) = _ := if_neg hy
                   rw [ht]
                   rw [hg] at hn
                   exact ret2 (fun w s' => by
                     have hq := hp (sgn s (dv (body s))) num_eq w s'
                     rw [hg] at hq
                     rwa [hn] at hq))
            · refine c_skip ?_
              refine e_then ?_
              refine reg ?_
              refine r_q Q_move ?_
              refine r_q Q_muln ?_
              refine r_q Q_move ?_
              refine r_q Q_move ?_
              refine r_q (Q_indexb Tryd.underlying9 hc) ?_
              refine r_q Q_sub8 ?_
              refine r_q (Q_conv64 Tryd.underlying5 Tryd.underlying3) ?_
              refine r_q Q_addn ?_
              refine r_q Q_assign ?_
              refine r_nil ?_
              refine e_blockn ?_
              refine e_then ?_
              refine reg ?_
              refine r_q Q_move ?_
              refine r_q Q_addn ?_
              refine r_q Q_assign ?_
              refine r_nil ?_
              refine e_then ?_
              have hdt := dv_take hcb
              exact c_back (j + 1) ⟨by omega, by omega, name_step hcb hok (by unfold isD; omega)⟩ (by omega) ⟨rfl, rfl, rfl, congrArg (fun z => some (Value.int .i64 z)) (by omega), rfl, congrArg (fun z => some (Value.int .i64 z)) (by omega), trivial⟩ (fun _ s => s)
        · refine c_exit ?_
          refine e_thenx ?_
          refine e_thenx ?_
          refine e_block ?_
          refine e_then ?_
          refine c_seq ?_
          refine c_seq ?_
          refine reg ?_
          refine r_q Q_move ?_
          refine r_q Q_eql ?_
          refine r_nil ?_
          refine e_then ?_
          first | refine c_dec rfl (fun hc6 => ?_) (fun hc6 => ?_) | refine c_ndec rfl (fun hc6 => ?_) (fun hc6 => ?_) | refine c_cond rfl (fun hc6 => ?_) (fun hc6 => ?_)
          · refine reg ?_
            refine r_q Q_move ?_
            have hsm := dv_small hj hok
            refine r_q Q_negn ?_
            refine r_q Q_assign ?_
            refine r_nil ?_
            refine e_then ?_
            refine c_seq ?_
            refine reg ?_
            refine r_q Q_move ?_
            refine r_q Q_move ?_
            refine r_q (Q_lens Tryd.underlying9) ?_
            refine r_q Q_move ?_
            refine r_q Q_subn ?_
            refine r_q Q_leq ?_
            refine r_q Q_move ?_
            first | refine b_dec (t := 56) rfl (fun hc7 => ?_) (fun hc7 => ?_) | refine b_ndec (t := 56) rfl (fun hc7 => ?_) (fun hc7 => ?_) | refine b_bool (t := 56) rfl (fun hc7 => ?_) (fun hc7 => ?_)
            · refine r_yq Q_move ?_
              have hsm := dv_small hj hok
              refine r_yes (l_call cf_18 rfl (f_digits _ (by omega) (by omega)) ?_)
              intro _ _
              refine r_yq Q_move ?_
              refine r_yq Q_eqls ?_
              refine r_q Q_pickT ?_
              refine r_q Q_assign ?_
              refine r_q Q_assign ?_
              refine r_nil ?_
              refine e_then ?_
              refine c_ret ?_
              first
                | (exfalso; omega)
                | (have hn := num_bad hcb (by unfold isD; omega)
                   exact ret2 (v := .int .i64 0) (v' := .bool false) (fun w s' => by
                     have hq := hp 0 (fun m hm => by rw [hn] at hm; cases hm) w s'
                     rwa [hn] at hq))
                | (have hn := num_long (s := s) (by omega)
                   exact ret2 (v' := .bool false) (fun w s' => by
                     have hq := hp ((dv ((body s).take j) : Nat) : Int) (fun m hm => by rw [hn] at hm; cases hm) w s'
                     rwa [hn] at hq))
                | (have hn := num_is (s := s) (by omega)
                   have ht : (body s).take j = body s := List.take_of_length_le (by omega)
                   have hg : sgn s (dv (body s)) = _ := if_neg hy
                   rw [ht]
                   rw [hg] at hn
                   exact ret2 (fun w s' => by
                     have hq := hp (sgn s (dv (body s))) num_eq w s'
                     rw [hg] at hq
                     rwa [hn] at hq))
            · refine r_no ?_
              refine r_no ?_
              refine r_no ?_
              refine r_no ?_
              refine r_q Q_pickF ?_
              refine r_q Q_assign ?_
              refine r_q Q_assign ?_
              refine r_nil ?_
              refine e_then ?_
              refine c_ret ?_
              first
                | (exfalso; omega)
                | (have hn := num_bad hcb (by unfold isD; omega)
                   exact ret2 (v := .int .i64 0) (v' := .bool false) (fun w s' => by
                     have hq := hp 0 (fun m hm => by rw [hn] at hm; cases hm) w s'
                     rwa [hn] at hq))
                | (have hn := num_long (s := s) (by omega)
                   exact ret2 (v' := .bool false) (fun w s' => by
                     have hq := hp ((dv ((body s).take j) : Nat) : Int) (fun m hm => by rw [hn] at hm; cases hm) w s'
                     rwa [hn] at hq))
                | (have hn := num_is (s := s) (by omega)
                   have ht : (body s).take j = body s := List.take_of_length_le (by omega)
                   have hg : sgn s (dv (body s)) = _ := if_neg hy
                   rw [ht]
                   rw [hg] at hn
                   exact ret2 (fun w s' => by
                     have hq := hp (sgn s (dv (body s))) num_eq w s'
                     rw [hg] at hq
                     rwa [hn] at hq))
          · refine c_skip ?_
            refine e_then ?_
            refine c_seq ?_
            refine reg ?_
            refine r_q Q_move ?_
            refine r_q Q_move ?_
            refine r_q (Q_lens Tryd.underlying9) ?_
            refine r_q Q_move ?_
            refine r_q Q_subn ?_
            refine r_q Q_leq ?_
            refine r_q Q_move ?_
            first | refine b_dec (t := 56) rfl (fun hc8 => ?_) (fun hc8 => ?_) | refine b_ndec (t := 56) rfl (fun hc8 => ?_) (fun hc8 => ?_) | refine b_bool (t := 56) rfl (fun hc8 => ?_) (fun hc8 => ?_)
            · refine r_yq Q_move ?_
              have hsm := dv_small hj hok
              refine r_yes (l_call cf_18 rfl (f_digits _ (by omega) (by omega)) ?_)
              intro _ _
              refine r_yq Q_move ?_
              refine r_yq Q_eqls ?_
              refine r_q Q_pickT ?_
              refine r_q Q_assign ?_
              refine r_q Q_assign ?_
              refine r_nil ?_
              refine e_then ?_
              refine c_ret ?_
              first
                | (exfalso; omega)
                | (have hn := num_bad hcb (by unfold isD; omega)
                   exact ret2 (v := .int .i64 0) (v' := .bool false) (fun w s' => by
                     have hq := hp 0 (fun m hm => by rw [hn] at hm; cases hm) w s'
                     rwa [hn] at hq))
                | (have hn := num_long (s := s) (by omega)
                   exact ret2 (v' := .bool false) (fun w s' => by
                     have hq := hp ((dv ((body s).take j) : Nat) : Int) (fun m hm => by rw [hn] at hm; cases hm) w s'
                     rwa [hn] at hq))
                | (have hn := num_is (s := s) (by omega)
                   have ht : (body s).take j = body s := List.take_of_length_le (by omega)
                   have hg : sgn s (dv (body s)) = _ := if_neg hy
                   rw [ht]
                   rw [hg] at hn
                   exact ret2 (fun w s' => by
                     have hq := hp (sgn s (dv (body s))) num_eq w s'
                     rw [hg] at hq
                     rwa [hn] at hq))
            · refine r_no ?_
              refine r_no ?_
              refine r_no ?_
              refine r_no ?_
              refine r_q Q_pickF ?_
              refine r_q Q_assign ?_
              refine r_q Q_assign ?_
              refine r_nil ?_
              refine e_then ?_
              refine c_ret ?_
              first
                | (exfalso; omega)
                | (have hn := num_bad hcb (by unfold isD; omega)
                   exact ret2 (v := .int .i64 0) (v' := .bool false) (fun w s' => by
                     have hq := hp 0 (fun m hm => by rw [hn] at hm; cases hm) w s'
                     rwa [hn] at hq))
                | (have hn := num_long (s := s) (by omega)
                   exact ret2 (v' := .bool false) (fun w s' => by
                     have hq := hp ((dv ((body s).take j) : Nat) : Int) (fun m hm => by rw [hn] at hm; cases hm) w s'
                     rwa [hn] at hq))
                | (have hn := num_is (s := s) (by omega)
                   have ht : (body s).take j = body s := List.take_of_length_le (by omega)
                   have hg : sgn s (dv (body s)) = _ := if_neg hy
                   rw [ht]
                   rw [hg] at hn
                   exact ret2 (fun w s' => by
                     have hq := hp (sgn s (dv (body s))) num_eq w s'
                     rw [hg] at hq
                     rwa [hn] at hq))
      · refine r_no ?_
        refine r_no ?_
        refine r_no ?_
        refine r_no ?_
        refine r_q Q_pickF ?_
        refine r_nil ?_
        refine e_then ?_
        refine c_false ?_
        refine c_exit ?_
        refine e_thenx ?_
        refine e_thenx ?_
        refine e_block ?_
        refine e_then ?_
        refine c_seq ?_
        refine c_seq ?_
        refine reg ?_
        refine r_q Q_move ?_
        refine r_q Q_eql ?_
        refine r_nil ?_
        refine e_then ?_
        first | refine c_dec rfl (fun hc9 => ?_) (fun hc9 => ?_) | refine c_ndec rfl (fun hc9 => ?_) (fun hc9 => ?_) | refine c_cond rfl (fun hc9 => ?_) (fun hc9 => ?_)
        · refine reg ?_
          refine r_q Q_move ?_
          have hsm := dv_small hj hok
          refine r_q Q_negn ?_
          refine r_q Q_assign ?_
          refine r_nil ?_
          refine e_then ?_
          refine c_seq ?_
          refine reg ?_
          refine r_q Q_move ?_
          refine r_q Q_move ?_
          refine r_q (Q_lens Tryd.underlying9) ?_
          refine r_q Q_move ?_
          refine r_q Q_subn ?_
          refine r_q Q_leq ?_
          refine r_q Q_move ?_
          first | refine b_dec (t := 56) rfl (fun hc10 => ?_) (fun hc10 => ?_) | refine b_ndec (t := 56) rfl (fun hc10 => ?_) (fun hc10 => ?_) | refine b_bool (t := 56) rfl (fun hc10 => ?_) (fun hc10 => ?_)
          · refine r_yq Q_move ?_
            have hsm := dv_small hj hok
            refine r_yes (l_call cf_18 rfl (f_digits _ (by omega) (by omega)) ?_)
            intro _ _
            refine r_yq Q_move ?_
            refine r_yq Q_eqls ?_
            refine r_q Q_pickT ?_
            refine r_q Q_assign ?_
            refine r_q Q_assign ?_
            refine r_nil ?_
            refine e_then ?_
            refine c_ret ?_
            first
              | (exfalso; omega)
              | (have hn := num_bad hcb (by unfold isD; omega)
                 exact ret2 (v := .int .i64 0) (v' := .bool false) (fun w s' => by
                   have hq := hp 0 (fun m hm => by rw [hn] at hm; cases hm) w s'
                   rwa [hn] at hq))
              | (have hn := num_long (s := s) (by omega)
                 exact ret2 (v' := .bool false) (fun w s' => by
                   have hq := hp ((dv ((body s).take j) : Nat) : Int) (fun m hm => by rw [hn] at hm; cases hm) w s'
                   rwa [hn] at hq))
              | (have hn := num_is (s := s) (by omega)
                 have ht : (body s).take j = body s := List.take_of_length_le (by omega)
                 have hg : sgn s (dv (body s)) = _ := if_neg hy
                 rw [ht]
                 rw [hg] at hn
                 exact ret2 (fun w s' => by
                   have hq := hp (sgn s (dv (body s))) num_eq w s'
                   rw [hg] at hq
                   rwa [hn] at hq))
          · refine r_no ?_
            refine r_no ?_
            refine r_no ?_
            refine r_no ?_
            refine r_q Q_pickF ?_
            refine r_q Q_assign ?_
            refine r_q Q_assign ?_
            refine r_nil ?_
            refine e_then ?_
            refine c_ret ?_
            first
              | (exfalso; omega)
              | (have hn := num_bad hcb (by unfold isD; omega)
                 exact ret2 (v := .int .i64 0) (v' := .bool false) (fun w s' => by
                   have hq := hp 0 (fun m hm => by rw [hn] at hm; cases hm) w s'
                   rwa [hn] at hq))
              | (have hn := num_long (s := s) (by omega)
                 exact ret2 (v' := .bool false) (fun w s' => by
                   have hq := hp ((dv ((body s).take j) : Nat) : Int) (fun m hm => by rw [hn] at hm; cases hm) w s'
                   rwa [hn] at hq))
              | (have hn := num_is (s := s) (by omega)
                 have ht : (body s).take j = body s := List.take_of_length_le (by omega)
                 have hg : sgn s (dv (body s)) = _ := if_neg hy
                 rw [ht]
                 rw [hg] at hn
                 exact ret2 (fun w s' => by
                   have hq := hp (sgn s (dv (body s))) num_eq w s'
                   rw [hg] at hq
                   rwa [hn] at hq))
        · refine c_skip ?_
          refine e_then ?_
          refine c_seq ?_
          refine reg ?_
          refine r_q Q_move ?_
          refine r_q Q_move ?_
          refine r_q (Q_lens Tryd.underlying9) ?_
          refine r_q Q_move ?_
          refine r_q Q_subn ?_
          refine r_q Q_leq ?_
          refine r_q Q_move ?_
          first | refine b_dec (t := 56) rfl (fun hc11 => ?_) (fun hc11 => ?_) | refine b_ndec (t := 56) rfl (fun hc11 => ?_) (fun hc11 => ?_) | refine b_bool (t := 56) rfl (fun hc11 => ?_) (fun hc11 => ?_)
          · refine r_yq Q_move ?_
            have hsm := dv_small hj hok
            refine r_yes (l_call cf_18 rfl (f_digits _ (by omega) (by omega)) ?_)
            intro _ _
            refine r_yq Q_move ?_
            refine r_yq Q_eqls ?_
            refine r_q Q_pickT ?_
            refine r_q Q_assign ?_
            refine r_q Q_assign ?_
            refine r_nil ?_
            refine e_then ?_
            refine c_ret ?_
            first
              | (exfalso; omega)
              | (have hn := num_bad hcb (by unfold isD; omega)
                 exact ret2 (v := .int .i64 0) (v' := .bool false) (fun w s' => by
                   have hq := hp 0 (fun m hm => by rw [hn] at hm; cases hm) w s'
                   rwa [hn] at hq))
              | (have hn := num_long (s := s) (by omega)
                 exact ret2 (v' := .bool false) (fun w s' => by
                   have hq := hp ((dv ((body s).take j) : Nat) : Int) (fun m hm => by rw [hn] at hm; cases hm) w s'
                   rwa [hn] at hq))
              | (have hn := num_is (s := s) (by omega)
                 have ht : (body s).take j = body s := List.take_of_length_le (by omega)
                 have hg : sgn s (dv (body s)) = _ := if_neg hy
                 rw [ht]
                 rw [hg] at hn
                 exact ret2 (fun w s' => by
                   have hq := hp (sgn s (dv (body s))) num_eq w s'
                   rw [hg] at hq
                   rwa [hn] at hq))
          · refine r_no ?_
            refine r_no ?_
            refine r_no ?_
            refine r_no ?_
            refine r_q Q_pickF ?_
            refine r_q Q_assign ?_
            refine r_q Q_assign ?_
            refine r_nil ?_
            refine e_then ?_
            refine c_ret ?_
            first
              | (exfalso; omega)
              | (have hn := num_bad hcb (by unfold isD; omega)
                 exact ret2 (v := .int .i64 0) (v' := .bool false) (fun w s' => by
                   have hq := hp 0 (fun m hm => by rw [hn] at hm; cases hm) w s'
                   rwa [hn] at hq))
              | (have hn := num_long (s := s) (by omega)
                 exact ret2 (v' := .bool false) (fun w s' => by
                   have hq := hp ((dv ((body s).take j) : Nat) : Int) (fun m hm => by rw [hn] at hm; cases hm) w s'
                   rwa [hn] at hq))
              | (have hn := num_is (s := s) (by omega)
                 have ht : (body s).take j = body s := List.take_of_length_le (by omega)
                 have hg : sgn s (dv (body s)) = _ := if_neg hy
                 rw [ht]
                 rw [hg] at hn
                 exact ret2 (fun w s' => by
                   have hq := hp (sgn s (dv (body s))) num_eq w s'
                   rw [hg] at hq
                   rwa [hn] at hq))
    · refine r_no ?_
      refine r_no ?_
      refine r_no ?_
      refine r_q Q_pickF ?_
      refine r_nil ?_
      refine e_then ?_
      refine c_false ?_
      refine c_skip ?_
      refine e_then ?_
      refine c_seq ?_
      refine c_seq ?_
      refine reg ?_
      refine r_q Q_move ?_
      refine r_q Q_assign ?_
      refine r_nil ?_
      refine e_then ?_
      refine c_block ?_
      refine c_loop (α := Nat) (fun j => 0 + j ≤ s.length ∧ j ≤ 10 ∧ ∀ c ∈ (body s).take j, isD c) (fun j => [(0, .string (bs s)), (2, .int .i64 0), (3, .bool false), (4, .int .i64 (dv ((body s).take j) : Nat)), (5, .int .i64 0), (6, .int .i64 ((0 + j : Nat) : Int))]) (fun _ => F) (fun j => s.length - j) 0 ⟨by omega, Nat.zero_le _, by simp⟩ ⟨rfl, rfl, rfl, rfl, rfl, rfl, trivial⟩ (fun _ s => s) ?_
      rintro j ⟨hj0, hj, hok⟩
      refine c_seq ?_
      refine c_seq ?_
      refine reg ?_
      refine r_q Q_move ?_
      refine r_q Q_move ?_
      refine r_q (Q_lens Tryd.underlying9) ?_
      refine r_q Q_lss ?_
      refine r_q Q_move ?_
      first | refine b_dec (t := 20) rfl (fun hc12 => ?_) (fun hc12 => ?_) | refine b_ndec (t := 20) rfl (fun hc12 => ?_) (fun hc12 => ?_) | refine b_bool (t := 20) rfl (fun hc12 => ?_) (fun hc12 => ?_)
      · refine r_yq Q_move ?_
        refine r_yq Q_move ?_
        refine r_yq Q_addn ?_
        refine r_yq Q_lss ?_
        refine r_q Q_pickT ?_
        refine r_nil ?_
        refine e_then ?_
        first | refine c_dec rfl (fun hc13 => ?_) (fun hc13 => ?_) | refine c_ndec rfl (fun hc13 => ?_) (fun hc13 => ?_) | refine c_cond rfl (fun hc13 => ?_) (fun hc13 => ?_)
        · refine c_skip ?_
          refine e_then ?_
          refine c_seq ?_
          refine c_block ?_
          refine c_seq ?_
          refine c_seq ?_
          obtain ⟨c, hc⟩ := at_lt (l := s) (i := 0 + j) (by omega)
          have hcb : (body s)[j]? = some c := by rw [hby, List.getElem?_drop]; exact hc
          have hsm := dv_small hj hok
          refine reg ?_
          refine r_q Q_move ?_
          refine r_q Q_move ?_
          refine r_q (Q_indexb Tryd.underlying9 hc) ?_
          refine r_q Q_lss ?_
          refine r_q Q_move ?_
          first | refine b_dec (t := 32) rfl (fun hc14 => ?_) (fun hc14 => ?_) | refine b_ndec (t := 32) rfl (fun hc14 => ?_) (fun hc14 => ?_) | refine b_bool (t := 32) rfl (fun hc14 => ?_) (fun hc14 => ?_)
          · refine r_no ?_
            refine r_no ?_
            refine r_no ?_
            refine r_no ?_
            refine r_q Q_pickT ?_
            refine r_nil ?_
            refine e_then ?_
            refine c_true ?_
            refine c_seq ?_
            refine reg ?_
            refine r_q Q_assign ?_
            refine r_q Q_assign ?_
            refine r_nil ?_
            refine e_then ?_
            refine c_ret ?_
            refine e_thenr ?_
            refine e_blockr ?_
            refine e_thenr ?_
            refine e_thenr ?_
            refine e_blockr ?_
            refine e_thenr ?_
            first
              | (exfalso; omega)
              | (have hn := num_bad hcb (by unfold isD; omega)
                 exact ret2 (v := .int .i64 0) (v' := .bool false) (fun w s' => by
                   have hq := hp 0 (fun m hm => by rw [hn] at hm; cases hm) w s'
                   rwa [hn] at hq))
              | (have hn := num_long (s := s) (by omega)
                 exact ret2 (v' := .bool false) (fun w s' => by
                   have hq := hp ((dv ((body s).take j) : Nat) : Int) (fun m hm => by rw [hn] at hm; cases hm) w s'
                   rwa [hn] at hq))
              | (have hn := num_is (s := s) (by omega)
                 have ht : (body s).take j = body s := List.take_of_length_le (by omega)
                 have hg : sgn s (dv (body s)) = _ := if_neg hy
                 rw [ht]
                 rw [hg] at hn
                 exact ret2 (fun w s' => by
                   have hq := hp (sgn s (dv (body s))) num_eq w s'
                   rw [hg] at hq
                   rwa [hn] at hq))
          · refine r_yq Q_move ?_
            refine r_yq Q_move ?_
            refine r_yq (Q_indexb Tryd.underlying9 hc) ?_
            refine r_yq Q_gtr ?_
            refine r_q Q_pickF ?_
            refine r_nil ?_
            refine e_then ?_
            first | refine c_dec rfl (fun hc15 => ?_) (fun hc15 => ?_) | refine c_ndec rfl (fun hc15 => ?_) (fun hc15 => ?_) | refine c_cond rfl (fun hc15 => ?_) (fun hc15 => ?_)
            · refine c_seq ?_
              refine reg ?_
              refine r_q Q_assign ?_
              refine r_q Q_assign ?_
              refine r_nil ?_
              refine e_then ?_
              refine c_ret ?_
              refine e_thenr ?_
              refine e_blockr ?_
              refine e_thenr ?_
              refine e_thenr ?_
              refine e_blockr ?_
              refine e_thenr ?_
              first
                | (exfalso; omega)
                | (have hn := num_bad hcb (by unfold isD; omega)
                   exact ret2 (v := .int .i64 0) (v' := .bool false) (fun w s' => by
                     have hq := hp 0 (fun m hm => by rw [hn] at hm; cases hm) w s'
                     rwa [hn] at hq))
                | (have hn := num_long (s := s) (by omega)
                   exact ret2 (v' := .bool false) (fun w s' => by
                     have hq := hp ((dv ((body s).take j) : Nat) : Int) (fun m hm => by rw [hn] at hm; cases hm) w s'
                     rwa [hn] at hq))
                | (have hn := num_is (s := s) (by omega)
                   have ht : (body s).take j = body s := List.take_of_length_le (by omega)
                   have hg : sgn s (dv (body s)) = _ := if_neg hy
                   rw [ht]
                   rw [hg] at hn
                   exact ret2 (fun w s' => by
                     have hq := hp (sgn s (dv (body s))) num_eq w s'
                     rw [hg] at hq
                     rwa [hn] at hq))
            · refine c_skip ?_
              refine e_then ?_
              refine reg ?_
              refine r_q Q_move ?_
              refine r_q Q_muln ?_
              refine r_q Q_move ?_
              refine r_q Q_move ?_
              refine r_q (Q_indexb Tryd.underlying9 hc) ?_
              refine r_q Q_sub8 ?_
              refine r_q (Q_conv64 Tryd.underlying5 Tryd.underlying3) ?_
              refine r_q Q_addn ?_
              refine r_q Q_assign ?_
              refine r_nil ?_
              refine e_blockn ?_
              refine e_then ?_
              refine reg ?_
              refine r_q Q_move ?_
              refine r_q Q_addn ?_
              refine r_q Q_assign ?_
              refine r_nil ?_
              refine e_then ?_
              have hdt := dv_take hcb
              exact c_back (j + 1) ⟨by omega, by omega, name_step hcb hok (by unfold isD; omega)⟩ (by omega) ⟨rfl, rfl, rfl, congrArg (fun z => some (Value.int .i64 z)) (by omega), rfl, congrArg (fun z => some (Value.int .i64 z)) (by omega), trivial⟩ (fun _ s => s)
        · refine c_exit ?_
          refine e_thenx ?_
          refine e_thenx ?_
          refine e_block ?_
          refine e_then ?_
          refine c_seq ?_
          refine c_seq ?_
          refine reg ?_
          refine r_q Q_move ?_
          refine r_q Q_eql ?_
          refine r_nil ?_
          refine e_then ?_
          first | refine c_dec rfl (fun hc16 => ?_) (fun hc16 => ?_) | refine c_ndec rfl (fun hc16 => ?_) (fun hc16 => ?_) | refine c_cond rfl (fun hc16 => ?_) (fun hc16 => ?_)
          · refine reg ?_
            refine r_q Q_move ?_
            have hsm := dv_small hj hok
            refine r_q Q_negn ?_
            refine r_q Q_assign ?_
            refine r_nil ?_
            refine e_then ?_
            refine c_seq ?_
            refine reg ?_
            refine r_q Q_move ?_
            refine r_q Q_move ?_
            refine r_q (Q_lens Tryd.underlying9) ?_
            refine r_q Q_move ?_
            refine r_q Q_subn ?_
            refine r_q Q_leq ?_
            refine r_q Q_move ?_
            first | refine b_dec (t := 56) rfl (fun hc17 => ?_) (fun hc17 => ?_) | refine b_ndec (t := 56) rfl (fun hc17 => ?_) (fun hc17 => ?_) | refine b_bool (t := 56) rfl (fun hc17 => ?_) (fun hc17 => ?_)
            · refine r_yq Q_move ?_
              have hsm := dv_small hj hok
              refine r_yes (l_call cf_18 rfl (f_digits _ (by omega) (by omega)) ?_)
              intro _ _
              refine r_yq Q_move ?_
              refine r_yq Q_eqls ?_
              refine r_q Q_pickT ?_
              refine r_q Q_assign ?_
              refine r_q Q_assign ?_
              refine r_nil ?_
              refine e_then ?_
              refine c_ret ?_
              first
                | (exfalso; omega)
                | (have hn := num_bad hcb (by unfold isD; omega)
                   exact ret2 (v := .int .i64 0) (v' := .bool false) (fun w s' => by
                     have hq := hp 0 (fun m hm => by rw [hn] at hm; cases hm) w s'
                     rwa [hn] at hq))
                | (have hn := num_long (s := s) (by omega)
                   exact ret2 (v' := .bool false) (fun w s' => by
                     have hq := hp ((dv ((body s).take j) : Nat) : Int) (fun m hm => by rw [hn] at hm; cases hm) w s'
                     rwa [hn] at hq))
                | (have hn := num_is (s := s) (by omega)
                   have ht : (body s).take j = body s := List.take_of_length_le (by omega)
                   have hg : sgn s (dv (body s)) = _ := if_neg hy
                   rw [ht]
                   rw [hg] at hn
                   exact ret2 (fun w s' => by
                     have hq := hp (sgn s (dv (body s))) num_eq w s'
                     rw [hg] at hq
                     rwa [hn] at hq))
            · refine r_no ?_
              refine r_no ?_
              refine r_no ?_
              refine r_no ?_
              refine r_q Q_pickF ?_
              refine r_q Q_assign ?_
              refine r_q Q_assign ?_
              refine r_nil ?_
              refine e_then ?_
              refine c_ret ?_
              first
                | (exfalso; omega)
                | (have hn := num_bad hcb (by unfold isD; omega)
                   exact ret2 (v := .int .i64 0) (v' := .bool false) (fun w s' => by
                     have hq := hp 0 (fun m hm => by rw [hn] at hm; cases hm) w s'
                     rwa [hn] at hq))
                | (have hn := num_long (s := s) (by omega)
                   exact ret2 (v' := .bool false) (fun w s' => by
                     have hq := hp ((dv ((body s).take j) : Nat) : Int) (fun m hm => by rw [hn] at hm; cases hm) w s'
                     rwa [hn] at hq))
                | (have hn := num_is (s := s) (by omega)
                   have ht : (body s).take j = body s := List.take_of_length_le (by omega)
                   have hg : sgn s (dv (body s)) = _ := if_neg hy
                   rw [ht]
                   rw [hg] at hn
                   exact ret2 (fun w s' => by
                     have hq := hp (sgn s (dv (body s))) num_eq w s'
                     rw [hg] at hq
                     rwa [hn] at hq))
          · refine c_skip ?_
            refine e_then ?_
            refine c_seq ?_
            refine reg ?_
            refine r_q Q_move ?_
            refine r_q Q_move ?_
            refine r_q (Q_lens Tryd.underlying9) ?_
            refine r_q Q_move ?_
            refine r_q Q_subn ?_
            refine r_q Q_leq ?_
            refine r_q Q_move ?_
            first | refine b_dec (t := 56) rfl (fun hc18 => ?_) (fun hc18 => ?_) | refine b_ndec (t := 56) rfl (fun hc18 => ?_) (fun hc18 => ?_) | refine b_bool (t := 56) rfl (fun hc18 => ?_) (fun hc18 => ?_)
            · refine r_yq Q_move ?_
              have hsm := dv_small hj hok
              refine r_yes (l_call cf_18 rfl (f_digits _ (by omega) (by omega)) ?_)
              intro _ _
              refine r_yq Q_move ?_
              refine r_yq Q_eqls ?_
              refine r_q Q_pickT ?_
              refine r_q Q_assign ?_
              refine r_q Q_assign ?_
              refine r_nil ?_
              refine e_then ?_
              refine c_ret ?_
              first
                | (exfalso; omega)
                | (have hn := num_bad hcb (by unfold isD; omega)
                   exact ret2 (v := .int .i64 0) (v' := .bool false) (fun w s' => by
                     have hq := hp 0 (fun m hm => by rw [hn] at hm; cases hm) w s'
                     rwa [hn] at hq))
                | (have hn := num_long (s := s) (by omega)
                   exact ret2 (v' := .bool false) (fun w s' => by
                     have hq := hp ((dv ((body s).take j) : Nat) : Int) (fun m hm => by rw [hn] at hm; cases hm) w s'
                     rwa [hn] at hq))
                | (have hn := num_is (s := s) (by omega)
                   have ht : (body s).take j = body s := List.take_of_length_le (by omega)
                   have hg : sgn s (dv (body s)) = _ := if_neg hy
                   rw [ht]
                   rw [hg] at hn
                   exact ret2 (fun w s' => by
                     have hq := hp (sgn s (dv (body s))) num_eq w s'
                     rw [hg] at hq
                     rwa [hn] at hq))
            · refine r_no ?_
              refine r_no ?_
              refine r_no ?_
              refine r_no ?_
              refine r_q Q_pickF ?_
              refine r_q Q_assign ?_
              refine r_q Q_assign ?_
              refine r_nil ?_
              refine e_then ?_
              refine c_ret ?_
              first
                | (exfalso; omega)
                | (have hn := num_bad hcb (by unfold isD; omega)
                   exact ret2 (v := .int .i64 0) (v' := .bool false) (fun w s' => by
                     have hq := hp 0 (fun m hm => by rw [hn] at hm; cases hm) w s'
                     rwa [hn] at hq))
                | (have hn := num_long (s := s) (by omega)
                   exact ret2 (v' := .bool false) (fun w s' => by
                     have hq := hp ((dv ((body s).take j) : Nat) : Int) (fun m hm => by rw [hn] at hm; cases hm) w s'
                     rwa [hn] at hq))
                | (have hn := num_is (s := s) (by omega)
                   have ht : (body s).take j = body s := List.take_of_length_le (by omega)
                   have hg : sgn s (dv (body s)) = _ := if_neg hy
                   rw [ht]
                   rw [hg] at hn
                   exact ret2 (fun w s' => by
                     have hq := hp (sgn s (dv (body s))) num_eq w s'
                     rw [hg] at hq
                     rwa [hn] at hq))
      · refine r_no ?_
        refine r_no ?_
        refine r_no ?_
        refine r_no ?_
        refine r_q Q_pickF ?_
        refine r_nil ?_
        refine e_then ?_
        refine c_false ?_
        refine c_exit ?_
        refine e_thenx ?_
        refine e_thenx ?_
        refine e_block ?_
        refine e_then ?_
        refine c_seq ?_
        refine c_seq ?_
        refine reg ?_
        refine r_q Q_move ?_
        refine r_q Q_eql ?_
        refine r_nil ?_
        refine e_then ?_
        first | refine c_dec rfl (fun hc19 => ?_) (fun hc19 => ?_) | refine c_ndec rfl (fun hc19 => ?_) (fun hc19 => ?_) | refine c_cond rfl (fun hc19 => ?_) (fun hc19 => ?_)
        · refine reg ?_
          refine r_q Q_move ?_
          have hsm := dv_small hj hok
          refine r_q Q_negn ?_
          refine r_q Q_assign ?_
          refine r_nil ?_
          refine e_then ?_
          refine c_seq ?_
          refine reg ?_
          refine r_q Q_move ?_
          refine r_q Q_move ?_
          refine r_q (Q_lens Tryd.underlying9) ?_
          refine r_q Q_move ?_
          refine r_q Q_subn ?_
          refine r_q Q_leq ?_
          refine r_q Q_move ?_
          first | refine b_dec (t := 56) rfl (fun hc20 => ?_) (fun hc20 => ?_) | refine b_ndec (t := 56) rfl (fun hc20 => ?_) (fun hc20 => ?_) | refine b_bool (t := 56) rfl (fun hc20 => ?_) (fun hc20 => ?_)
          · refine r_yq Q_move ?_
            have hsm := dv_small hj hok
            refine r_yes (l_call cf_18 rfl (f_digits _ (by omega) (by omega)) ?_)
            intro _ _
            refine r_yq Q_move ?_
            refine r_yq Q_eqls ?_
            refine r_q Q_pickT ?_
            refine r_q Q_assign ?_
            refine r_q Q_assign ?_
            refine r_nil ?_
            refine e_then ?_
            refine c_ret ?_
            first
              | (exfalso; omega)
              | (have hn := num_bad hcb (by unfold isD; omega)
                 exact ret2 (v := .int .i64 0) (v' := .bool false) (fun w s' => by
                   have hq := hp 0 (fun m hm => by rw [hn] at hm; cases hm) w s'
                   rwa [hn] at hq))
              | (have hn := num_long (s := s) (by omega)
                 exact ret2 (v' := .bool false) (fun w s' => by
                   have hq := hp ((dv ((body s).take j) : Nat) : Int) (fun m hm => by rw [hn] at hm; cases hm) w s'
                   rwa [hn] at hq))
              | (have hn := num_is (s := s) (by omega)
                 have ht : (body s).take j = body s := List.take_of_length_le (by omega)
                 have hg : sgn s (dv (body s)) = _ := if_neg hy
                 rw [ht]
                 rw [hg] at hn
                 exact ret2 (fun w s' => by
                   have hq := hp (sgn s (dv (body s))) num_eq w s'
                   rw [hg] at hq
                   rwa [hn] at hq))
          · refine r_no ?_
            refine r_no ?_
            refine r_no ?_
            refine r_no ?_
            refine r_q Q_pickF ?_
            refine r_q Q_assign ?_
            refine r_q Q_assign ?_
            refine r_nil ?_
            refine e_then ?_
            refine c_ret ?_
            first
              | (exfalso; omega)
              | (have hn := num_bad hcb (by unfold isD; omega)
                 exact ret2 (v := .int .i64 0) (v' := .bool false) (fun w s' => by
                   have hq := hp 0 (fun m hm => by rw [hn] at hm; cases hm) w s'
                   rwa [hn] at hq))
              | (have hn := num_long (s := s) (by omega)
                 exact ret2 (v' := .bool false) (fun w s' => by
                   have hq := hp ((dv ((body s).take j) : Nat) : Int) (fun m hm => by rw [hn] at hm; cases hm) w s'
                   rwa [hn] at hq))
              | (have hn := num_is (s := s) (by omega)
                 have ht : (body s).take j = body s := List.take_of_length_le (by omega)
                 have hg : sgn s (dv (body s)) = _ := if_neg hy
                 rw [ht]
                 rw [hg] at hn
                 exact ret2 (fun w s' => by
                   have hq := hp (sgn s (dv (body s))) num_eq w s'
                   rw [hg] at hq
                   rwa [hn] at hq))
        · refine c_skip ?_
          refine e_then ?_
          refine c_seq ?_
          refine reg ?_
          refine r_q Q_move ?_
          refine r_q Q_move ?_
          refine r_q (Q_lens Tryd.underlying9) ?_
          refine r_q Q_move ?_
          refine r_q Q_subn ?_
          refine r_q Q_leq ?_
          refine r_q Q_move ?_
          first | refine b_dec (t := 56) rfl (fun hc21 => ?_) (fun hc21 => ?_) | refine b_ndec (t := 56) rfl (fun hc21 => ?_) (fun hc21 => ?_) | refine b_bool (t := 56) rfl (fun hc21 => ?_) (fun hc21 => ?_)
          · refine r_yq Q_move ?_
            have hsm := dv_small hj hok
            refine r_yes (l_call cf_18 rfl (f_digits _ (by omega) (by omega)) ?_)
            intro _ _
            refine r_yq Q_move ?_
            refine r_yq Q_eqls ?_
            refine r_q Q_pickT ?_
            refine r_q Q_assign ?_
            refine r_q Q_assign ?_
            refine r_nil ?_
            refine e_then ?_
            refine c_ret ?_
            first
              | (exfalso; omega)
              | (have hn := num_bad hcb (by unfold isD; omega)
                 exact ret2 (v := .int .i64 0) (v' := .bool false) (fun w s' => by
                   have hq := hp 0 (fun m hm => by rw [hn] at hm; cases hm) w s'
                   rwa [hn] at hq))
              | (have hn := num_long (s := s) (by omega)
                 exact ret2 (v' := .bool false) (fun w s' => by
                   have hq := hp ((dv ((body s).take j) : Nat) : Int) (fun m hm => by rw [hn] at hm; cases hm) w s'
                   rwa [hn] at hq))
              | (have hn := num_is (s := s) (by omega)
                 have ht : (body s).take j = body s := List.take_of_length_le (by omega)
                 have hg : sgn s (dv (body s)) = _ := if_neg hy
                 rw [ht]
                 rw [hg] at hn
                 exact ret2 (fun w s' => by
                   have hq := hp (sgn s (dv (body s))) num_eq w s'
                   rw [hg] at hq
                   rwa [hn] at hq))
          · refine r_no ?_
            refine r_no ?_
            refine r_no ?_
            refine r_no ?_
            refine r_q Q_pickF ?_
            refine r_q Q_assign ?_
            refine r_q Q_assign ?_
            refine r_nil ?_
            refine e_then ?_
            refine c_ret ?_
            first
              | (exfalso; omega)
              | (have hn := num_bad hcb (by unfold isD; omega)
                 exact ret2 (v := .int .i64 0) (v' := .bool false) (fun w s' => by
                   have hq := hp 0 (fun m hm => by rw [hn] at hm; cases hm) w s'
                   rwa [hn] at hq))
              | (have hn := num_long (s := s) (by omega)
                 exact ret2 (v' := .bool false) (fun w s' => by
                   have hq := hp ((dv ((body s).take j) : Nat) : Int) (fun m hm => by rw [hn] at hm; cases hm) w s'
                   rwa [hn] at hq))
              | (have hn := num_is (s := s) (by omega)
                 have ht : (body s).take j = body s := List.take_of_length_le (by omega)
                 have hg : sgn s (dv (body s)) = _ := if_neg hy
                 rw [ht]
                 rw [hg] at hn
                 exact ret2 (fun w s' => by
                   have hq := hp (sgn s (dv (body s))) num_eq w s'
                   rw [hg] at hq
                   rwa [hn] at hq))
end Go.Proofs.YtljjplndcbekfaaDoor
