/- Contracts: the parts of a host's line. Its conditions: none. -/
import Derived.Test.YtljjplndcbekfaaDoorAdmParts
namespace Go.Proofs.YtljjplndcbekfaaDoor
open SL A Go.RowKit
set_option maxRecDepth 100000
set_option maxHeartbeats 4000000
theorem rowS_at (xs : List B) (i : Nat) {w : B} (h : xs[i]? = some w) : (rowS xs)[i]? = some (.string (bs w)) := by simp [rowS, h]
theorem num_miss {x y z wd : B} {k : Nat} (h : [x, y, z][k]? = some wd) (h1 : (num x).isSome ∧ (num y).isSome ∧ (num z).isSome) (h2 : (num wd).isSome = false) : False := by
  have := List.mem_of_getElem? h
  simp only [List.mem_cons, List.not_mem_nil, or_false] at this
  rcases this with rfl | rfl | rfl
  · rw [h1.1] at h2; cases h2
  · rw [h1.2.1] at h2; cases h2
  · rw [h1.2.2] at h2; cases h2
theorem no_parts {s : B} {K : Ending → World → Prop} {F : List HP} {w : World} (hp : ∀ x : Option Addr × Nat, True → ∀ w', Sat w' (SlT eI x.1 x.2 (pl s) :: F) → K (.returned (.tuple #[.string (bs (pa s)), .string (bs (pb s)), .slice x.1 (pl s).length x.2, .bool (parts s).isSome])) w') (hn : parts s = none) (h : Sat w F) : K (.returned (.tuple #[.string ⟨#[]⟩, .string ⟨#[]⟩, .slice none 0 0, .bool false])) w := by
  have hq := hp (none, 0) trivial w
  simp only [pa, pb, pl, hn, Option.map_none, Option.getD_none, Option.isSome_none, List.length_nil] at hq
  exact hq h.mk_nil
theorem yes_parts {s : B} {K : Ending → World → Prop} {F : List HP} {w : World} {a b : B} {l : List Int} {ad : Option Addr} {c : Nat} (hp : ∀ x : Option Addr × Nat, True → ∀ w', Sat w' (SlT eI x.1 x.2 (pl s) :: F) → K (.returned (.tuple #[.string (bs (pa s)), .string (bs (pb s)), .slice x.1 (pl s).length x.2, .bool (parts s).isSome])) w') (hn : parts s = some (a, b, l)) (h : Sat w (SlT eI ad c l :: F)) : K (.returned (.tuple #[.string (bs a), .string (bs b), .slice ad l.length c, .bool true])) w := by
  have hq := hp (ad, c) trivial w
  simp only [pa, pb, pl, hn, Option.map_some, Option.getD_some, Option.isSome_some] at hq
  exact hq h
theorem m_parts {gh : World} (s : B) (hs : s.length ≤ 4000000000) : Ct Tryd.prog 8 #[.string (bs s)] (fun F => G gh :: F) (fun _ : Option Addr × Nat => True) (fun x => .tuple #[.string (bs (pa s)), .string (bs (pb s)), .slice x.1 (pl s).length x.2, .bool (parts s).isSome]) (fun x F => SlT eI x.1 x.2 (pl s) :: G gh :: F) := by
  refine Ct.of (args := [.string (bs s)]) Tryd.func8 rfl Tryd.ntmps8 (Nat.le_of_ble_eq_true rfl) ?_
  intro F K hp
  rcases words5 s with ⟨a, b, x, y, z, hw⟩ | ⟨hne, hno⟩
  · have hla : a.length ≤ 4000000000 := Nat.le_trans (words_le (by rw [hw]; simp)) hs
    have hlw : ∀ w ∈ [x, y, z], w.length ≤ 4000000000 := fun w h => Nat.le_trans (words_le (by rw [hw]; simp at h ⊢; rcases h with h | h | h <;> simp [h])) hs
    refine c_seq ?_
    refine reg ?_
    refine r_q Q_assign ?_
    refine r_q Q_assign ?_
    refine r_q Q_assign ?_
    refine r_q Q_assign ?_
    refine r_nil ?_
    refine e_then ?_
    refine c_seq ?_
    refine reg ?_
    refine r_q Q_move ?_
    refine r_l (l_call cf_19 rfl (k_split s [a, b, x, y, z] 5 (by omega) hw rfl) ?_)
    intro bk _
    refine r_q Q_assign ?_
    refine r_nil ?_
    refine e_then ?_
    refine c_seq ?_
    refine c_seq ?_
    refine reg ?_
    refine r_q Q_move ?_
    refine r_q (Q_lenl Tryd.underlying42) ?_
    refine r_q Q_neq ?_
    refine r_q Q_move ?_
    refine b_is (t := 19) false rfl (by first | rfl | exact decide_eq_false (by omega) | simp_all) ?_
    refine r_yq Q_move ?_
    first | refine r_yq (Q_indexl Tryd.underlying42 sz_9) ?_ | refine r_yq (Q_idxT' Tryd.underlying42 sz_9) ?_
    first | refine r_yq (Q_load pl_9) ?_ | refine r_yq (Q_ldT' pl_9) ?_ | refine r_yq (Q_ldTf' pl_9) ?_
    refine r_yes (l_call cf_20 rfl (m_name _ hla) ?_)
    intro _ _
    refine r_yq Q_not ?_
    refine r_q Q_pickF ?_
    refine r_nil ?_
    refine e_then ?_
    first | refine c_dec rfl (fun hc1 => ?_) (fun hc1 => ?_) | refine c_ndec rfl (fun hc1 => ?_) (fun hc1 => ?_) | refine c_cond rfl (fun hc1 => ?_) (fun hc1 => ?_)
    · refine c_seq ?_
      refine reg ?_
      refine r_q Q_assign ?_
      refine r_q Q_assign ?_
      refine r_q Q_assign ?_
      refine r_q Q_assign ?_
      refine r_nil ?_
      refine e_then ?_
      refine c_ret ?_
      refine e_thenr ?_
      first
        | exact ret4 (fun w s' => no_parts hp (parts_no hw (fun h => absurd h.1 (by assumption))) (Conv.sat (by repeat (first | with_reducible exact Conv.refl | exact Conv.nil | (apply Conv.cons; · first | ((repeat (first | with_reducible exact Take.head | apply Take.tail)); done) | ((repeat (first | exact Take.head | apply Take.tail)); done)) | refine Conv.drop ?_)) s'))
        | exact ret4 (fun w s' => no_parts hp (parts_no hw (fun h => h.2.1.elim (fun e => (by assumption : bs b ≠ ⟨#[63]⟩) (by rw [e]; rfl)) (by assumption))) (Conv.sat (by repeat (first | with_reducible exact Conv.refl | exact Conv.nil | (apply Conv.cons; · first | ((repeat (first | with_reducible exact Take.head | apply Take.tail)); done) | ((repeat (first | exact Take.head | apply Take.tail)); done)) | refine Conv.drop ?_)) s'))
        | exact ret4 (fun w s' => no_parts hp (parts_no hw (fun h => num_miss hwd h.2.2 (by simpa using (by assumption : (!(num wd).isSome) = true)))) (Conv.sat (by repeat (first | with_reducible exact Conv.refl | exact Conv.nil | (apply Conv.cons; · first | ((repeat (first | with_reducible exact Take.head | apply Take.tail)); done) | ((repeat (first | exact Take.head | apply Take.tail)); done)) | refine Conv.drop ?_)) s'))
        | (have h3 : k = 3 := by omega
           subst h3
           exact ret4 (fun w s' => yes_parts hp (parts_yes hw ⟨by assumption, by first | exact .inr (by assumption) | exact .inl (bs_inj (by assumption)) | exact .inl (bs_inj (Classical.not_not.1 (by assumption))), hal x (by simp), hal y (by simp), hal z (by simp)⟩ hok) (Conv.sat (by repeat (first | with_reducible exact Conv.refl | exact Conv.nil | (apply Conv.cons; · first | ((repeat (first | with_reducible exact Take.head | apply Take.tail)); done) | ((repeat (first | exact Take.head | apply Take.tail)); done)) | refine Conv.drop ?_)) s')))
    · refine c_skip ?_
      refine e_then ?_
      refine c_seq ?_
      refine c_seq ?_
      refine reg ?_
      refine r_q Q_move ?_
      first | refine r_q (Q_indexl Tryd.underlying42 sz_9) ?_ | refine r_q (Q_idxT' Tryd.underlying42 sz_9) ?_
      first | refine r_q (Q_load pl_9) ?_ | refine r_q (Q_ldT' pl_9) ?_ | refine r_q (Q_ldTf' pl_9) ?_
      refine r_l (l_call cf_21 rfl (m_of _) ?_)
      intro _ _
      refine r_q Q_move ?_
      refine r_q Q_extract ?_
      refine r_q Q_extract ?_
      refine r_q Q_assign ?_
      refine r_q Q_assign ?_
      refine r_nil ?_
      refine e_then ?_
      refine c_seq ?_
      refine reg ?_
      refine r_q Q_move ?_
      refine r_q Q_not ?_
      refine r_q Q_move ?_
      first | refine b_dec (t := 35) rfl (fun hc2 => ?_) (fun hc2 => ?_) | refine b_ndec (t := 35) rfl (fun hc2 => ?_) (fun hc2 => ?_) | refine b_bool (t := 35) rfl (fun hc2 => ?_) (fun hc2 => ?_)
      · refine r_yq Q_move ?_
        first | refine r_yq (Q_indexl Tryd.underlying42 sz_9) ?_ | refine r_yq (Q_idxT' Tryd.underlying42 sz_9) ?_
        first | refine r_yq (Q_load pl_9) ?_ | refine r_yq (Q_ldT' pl_9) ?_ | refine r_yq (Q_ldTf' pl_9) ?_
        refine r_yq Q_neqs ?_
        refine r_q Q_pickT ?_
        refine r_nil ?_
        refine e_then ?_
        first | refine c_dec rfl (fun hc3 => ?_) (fun hc3 => ?_) | refine c_ndec rfl (fun hc3 => ?_) (fun hc3 => ?_) | refine c_cond rfl (fun hc3 => ?_) (fun hc3 => ?_)
        · refine c_seq ?_
          refine reg ?_
          refine r_q Q_assign ?_
          refine r_q Q_assign ?_
          refine r_q Q_assign ?_
          refine r_q Q_assign ?_
          refine r_nil ?_
          refine e_then ?_
          refine c_ret ?_
          refine e_thenr ?_
          first
            | exact ret4 (fun w s' => no_parts hp (parts_no hw (fun h => absurd h.1 (by assumption))) (Conv.sat (by repeat (first | with_reducible exact Conv.refl | exact Conv.nil | (apply Conv.cons; · first | ((repeat (first | with_reducible exact Take.head | apply Take.tail)); done) | ((repeat (first | exact Take.head | apply Take.tail)); done)) | refine Conv.drop ?_)) s'))
            | exact ret4 (fun w s' => no_parts hp (parts_no hw (fun h => h.2.1.elim (fun e => (by assumption : bs b ≠ ⟨#[63]⟩) (by rw [e]; rfl)) (by assumption))) (Conv.sat (by repeat (first | with_reducible exact Conv.refl | exact Conv.nil | (apply Conv.cons; · first | ((repeat (first | with_reducible exact Take.head | apply Take.tail)); done) | ((repeat (first | exact Take.head | apply Take.tail)); done)) | refine Conv.drop ?_)) s'))
            | exact ret4 (fun w s' => no_parts hp (parts_no hw (fun h => num_miss hwd h.2.2 (by simpa using (by assumption : (!(num wd).isSome) = true)))) (Conv.sat (by repeat (first | with_reducible exact Conv.refl | exact Conv.nil | (apply Conv.cons; · first | ((repeat (first | with_reducible exact Take.head | apply Take.tail)); done) | ((repeat (first | exact Take.head | apply Take.tail)); done)) | refine Conv.drop ?_)) s'))
            | (have h3 : k = 3 := by omega
               subst h3
               exact ret4 (fun w s' => yes_parts hp (parts_yes hw ⟨by assumption, by first | exact .inr (by assumption) | exact .inl (bs_inj (by assumption)) | exact .inl (bs_inj (Classical.not_not.1 (by assumption))), hal x (by simp), hal y (by simp), hal z (by simp)⟩ hok) (Conv.sat (by repeat (first | with_reducible exact Conv.refl | exact Conv.nil | (apply Conv.cons; · first | ((repeat (first | with_reducible exact Take.head | apply Take.tail)); done) | ((repeat (first | exact Take.head | apply Take.tail)); done)) | refine Conv.drop ?_)) s')))
        · refine c_skip ?_
          refine e_then ?_
          refine c_seq ?_
          refine reg ?_
          refine r_q Q_assign ?_
          refine r_nil ?_
          refine e_then ?_
          refine c_seq ?_
          refine c_seq ?_
          refine St.nilS eI ?_
          refine reg ?_
          refine r_q Q_move ?_
          refine r_q (Q_slicec Tryd.underlying42 sz_9) ?_
          refine r_q (Q_lenl Tryd.underlying42) ?_
          refine r_q Q_move ?_
          refine r_nil ?_
          refine e_then ?_
          refine c_block ?_
          refine c_loop (α := Nat × List Int × Option Addr × Nat) (fun u => u.1 ≤ 3 ∧ Ok3 u.2.1 ([x, y, z].take u.1) ∧ ∀ w ∈ [x, y, z].take u.1, (num w).isSome) (fun u => [(2, .string ⟨#[]⟩), (3, .string ⟨#[]⟩), (4, .slice none 0 0), (5, .bool false), (6, .slice (some ⟨bk, 0, none⟩) 5 5), (42, .slice (some ⟨bk, 2, none⟩) 3 3), (43, .int .i64 3), (9, .slice u.2.2.1 u.2.1.length u.2.2.2), (44, .int .i64 (u.1 : Nat))]) (fun u => SlT eI u.2.2.1 u.2.2.2 u.2.1 :: cl bk (rowS [a, b, x, y, z]) 9 :: G gh :: F) (fun u => 3 - u.1) (0, [], none, 0) ⟨Nat.zero_le _, Ok3.nil, by simp⟩ ⟨rfl, rfl, rfl, rfl, rfl, rfl, rfl, rfl, rfl, trivial⟩ (fun _ s => s) ?_
          rintro ⟨k, l, ad, ca⟩ ⟨hk, hok, hal⟩
          dsimp only at hk hok hal ⊢
          have hl5 : l.length ≤ 3 := by rw [hok.1]; simp; omega
          refine c_seq ?_
          refine reg ?_
          refine r_q Q_lss ?_
          refine r_nil ?_
          refine e_then ?_
          refine c_seq ?_
          first | refine c_dec rfl (fun hc4 => ?_) (fun hc4 => ?_) | refine c_ndec rfl (fun hc4 => ?_) (fun hc4 => ?_) | refine c_cond rfl (fun hc4 => ?_) (fun hc4 => ?_)
          · refine c_skip ?_
            refine e_then ?_
            refine c_seq ?_
            refine c_block ?_
            refine c_seq ?_
            obtain ⟨wd, hwd⟩ := at_lt (l := [x, y, z]) (i := k) (by show k < 3; omega)
            have hwd2 : [a, b, x, y, z][2 + k]? = some wd := by rw [Nat.add_comm]; exact hwd
            refine reg ?_
            first | refine r_q (Q_indexl Tryd.underlying42 sz_9) ?_ | refine r_q (Q_idxT' Tryd.underlying42 sz_9) ?_
            refine r_q (Q_load pl_9 (vs := rowS [a, b, x, y, z]) (hv := by rw [show 2 + ((k : Int)).toNat * 1 = 2 + k by rw [Nat.mul_one]; rfl]; exact rowS_at _ _ hwd2)) ?_
            refine r_q Q_assign ?_
            refine r_nil ?_
            refine e_then ?_
            refine c_seq ?_
            refine reg ?_
            refine r_q Q_move ?_
            refine r_l (l_call cf_22 rfl (m_number wd (hlw wd (List.mem_of_getElem? hwd))) ?_)
            intro nn hnn
            refine r_q Q_move ?_
            refine r_q Q_extract ?_
            refine r_q Q_extract ?_
            refine r_q Q_assign ?_
            refine r_q Q_assign ?_
            refine r_nil ?_
            refine e_then ?_
            refine c_seq ?_
            refine c_seq ?_
            refine reg ?_
            refine r_q Q_move ?_
            refine r_q Q_not ?_
            refine r_nil ?_
            refine e_then ?_
            first | refine c_dec rfl (fun hc5 => ?_) (fun hc5 => ?_) | refine c_ndec rfl (fun hc5 => ?_) (fun hc5 => ?_) | refine c_cond rfl (fun hc5 => ?_) (fun hc5 => ?_)
            · refine c_seq ?_
              refine reg ?_
              refine r_q Q_assign ?_
              refine r_q Q_assign ?_
              refine r_q Q_assign ?_
              refine r_q Q_assign ?_
              refine r_nil ?_
              refine e_then ?_
              refine c_ret ?_
              refine e_thenr ?_
              refine e_blockr ?_
              refine e_thenr ?_
              refine e_thenr ?_
              refine e_blockr ?_
              refine e_thenr ?_
              first
                | exact ret4 (fun w s' => no_parts hp (parts_no hw (fun h => absurd h.1 (by assumption))) (Conv.sat (by repeat (first | with_reducible exact Conv.refl | exact Conv.nil | (apply Conv.cons; · first | ((repeat (first | with_reducible exact Take.head | apply Take.tail)); done) | ((repeat (first | exact Take.head | apply Take.tail)); done)) | refine Conv.drop ?_)) s'))
                | exact ret4 (fun w s' => no_parts hp (parts_no hw (fun h => h.2.1.elim (fun e => (by assumption : bs b ≠ ⟨#[63]⟩) (by rw [e]; rfl)) (by assumption))) (Conv.sat (by repeat (first | with_reducible exact Conv.refl | exact Conv.nil | (apply Conv.cons; · first | ((repeat (first | with_reducible exact Take.head | apply Take.tail)); done) | ((repeat (first | exact Take.head | apply Take.tail)); done)) | refine Conv.drop ?_)) s'))
                | exact ret4 (fun w s' => no_parts hp (parts_no hw (fun h => num_miss hwd h.2.2 (by simpa using (by assumption : (!(num wd).isSome) = true)))) (Conv.sat (by repeat (first | with_reducible exact Conv.refl | exact Conv.nil | (apply Conv.cons; · first | ((repeat (first | with_reducible exact Take.head | apply Take.tail)); done) | ((repeat (first | exact Take.head | apply Take.tail)); done)) | refine Conv.drop ?_)) s'))
                | (have h3 : k = 3 := by omega
                   subst h3
                   exact ret4 (fun w s' => yes_parts hp (parts_yes hw ⟨by assumption, by first | exact .inr (by assumption) | exact .inl (bs_inj (by assumption)) | exact .inl (bs_inj (Classical.not_not.1 (by assumption))), hal x (by simp), hal y (by simp), hal z (by simp)⟩ hok) (Conv.sat (by repeat (first | with_reducible exact Conv.refl | exact Conv.nil | (apply Conv.cons; · first | ((repeat (first | with_reducible exact Take.head | apply Take.tail)); done) | ((repeat (first | exact Take.head | apply Take.tail)); done)) | refine Conv.drop ?_)) s')))
            · refine c_skip ?_
              refine e_then ?_
              refine reg ?_
              refine r_q Q_move ?_
              refine r_q Q_move ?_
              refine r_l (L_buildSlice (bs_26_1_0 _) (fun b57 => ?_))
              refine r_l (L_append' (l₂ := [_]) (hB := by show (_ + _) * 8 ≤ _; simp only [List.length_cons, List.length_nil]; omega) eI_ok Tryd.underlying26 (fun a58 c58 => ?_))
              refine r_q Q_assign ?_
              refine r_nil ?_
              refine e_blockn ?_
              refine e_then ?_
              refine reg ?_
              refine r_q Q_addn ?_
              refine r_q Q_move ?_
              refine r_nil ?_
              refine e_then ?_
              have htk : [x, y, z].take (k + 1) = [x, y, z].take k ++ [wd] := by rw [List.take_add_one, hwd]; rfl
              exact c_back (k + 1, l ++ [nn], a58, c58) ⟨by dsimp only; omega, by rw [htk]; exact hok.snoc hnn, by rw [htk]; intro w hw; rcases List.mem_append.1 hw with hw | hw; exact hal w hw; rw [List.mem_singleton.1 hw]; simpa using (by assumption : (!(num wd).isSome) = false)⟩ (by dsimp only; omega) ⟨rfl, rfl, rfl, rfl, rfl, rfl, rfl, rfl, rfl, trivial⟩ (fun _ s => Conv.sat (by repeat (first | with_reducible exact Conv.refl | exact Conv.nil | (apply Conv.cons; · first | ((repeat (first | with_reducible exact Take.head | apply Take.tail)); done) | ((repeat (first | exact Take.head | apply Take.tail)); done)) | refine Conv.drop ?_)) s)
          · refine c_exit ?_
            refine e_thenx ?_
            refine e_thenx ?_
            refine e_block ?_
            refine e_then ?_
            refine c_seq ?_
            refine dreg (N := 11) [cl bk (rowS [a, b, x, y, z]) 9] 9 ?_ mixed rfl
            refine d_q 0 rfl Q_move (fun _ s => Conv.sat (by repeat (first | with_reducible exact Conv.refl | exact Conv.nil | (apply Conv.cons; · first | ((repeat (first | with_reducible exact Take.head | apply Take.tail)); done) | ((repeat (first | exact Take.head | apply Take.tail)); done)) | refine Conv.drop ?_)) s) (by repeat (first | exact PanicOk.body | exact PanicOk.bodyD (by intros; simp [results, Act.put]) | refine PanicOk.then ?_ | refine PanicOk.block ?_ | refine PanicOk.scope ?_)) (by kernel_rfl) ?_
            first | refine d_q 1 rfl (Q_indexl Tryd.underlying42 sz_9) (fun _ s => Conv.sat (by repeat (first | with_reducible exact Conv.refl | exact Conv.nil | (apply Conv.cons; · first | ((repeat (first | with_reducible exact Take.head | apply Take.tail)); done) | ((repeat (first | exact Take.head | apply Take.tail)); done)) | refine Conv.drop ?_)) s) (by repeat (first | exact PanicOk.body | exact PanicOk.bodyD (by intros; simp [results, Act.put]) | refine PanicOk.then ?_ | refine PanicOk.block ?_ | refine PanicOk.scope ?_)) (by kernel_rfl) ?_ | refine d_q 1 rfl (Q_idxT' Tryd.underlying42 sz_9) (fun _ s => Conv.sat (by repeat (first | with_reducible exact Conv.refl | exact Conv.nil | (apply Conv.cons; · first | ((repeat (first | with_reducible exact Take.head | apply Take.tail)); done) | ((repeat (first | exact Take.head | apply Take.tail)); done)) | refine Conv.drop ?_)) s) (by repeat (first | exact PanicOk.body | exact PanicOk.bodyD (by intros; simp [results, Act.put]) | refine PanicOk.then ?_ | refine PanicOk.block ?_ | refine PanicOk.scope ?_)) (by kernel_rfl) ?_
            first | refine d_q 2 rfl (Q_load pl_9) (fun _ s => Conv.sat (by repeat (first | with_reducible exact Conv.refl | exact Conv.nil | (apply Conv.cons; · first | ((repeat (first | with_reducible exact Take.head | apply Take.tail)); done) | ((repeat (first | exact Take.head | apply Take.tail)); done)) | refine Conv.drop ?_)) s) (by repeat (first | exact PanicOk.body | exact PanicOk.bodyD (by intros; simp [results, Act.put]) | refine PanicOk.then ?_ | refine PanicOk.block ?_ | refine PanicOk.scope ?_)) (by kernel_rfl) ?_ | refine d_q 2 rfl (Q_ldT' pl_9) (fun _ s => Conv.sat (by repeat (first | with_reducible exact Conv.refl | exact Conv.nil | (apply Conv.cons; · first | ((repeat (first | with_reducible exact Take.head | apply Take.tail)); done) | ((repeat (first | exact Take.head | apply Take.tail)); done)) | refine Conv.drop ?_)) s) (by repeat (first | exact PanicOk.body | exact PanicOk.bodyD (by intros; simp [results, Act.put]) | refine PanicOk.then ?_ | refine PanicOk.block ?_ | refine PanicOk.scope ?_)) (by kernel_rfl) ?_ | refine d_q 2 rfl (Q_ldTf' pl_9) (fun _ s => Conv.sat (by repeat (first | with_reducible exact Conv.refl | exact Conv.nil | (apply Conv.cons; · first | ((repeat (first | with_reducible exact Take.head | apply Take.tail)); done) | ((repeat (first | exact Take.head | apply Take.tail)); done)) | refine Conv.drop ?_)) s) (by repeat (first | exact PanicOk.body | exact PanicOk.bodyD (by intros; simp [results, Act.put]) | refine PanicOk.then ?_ | refine PanicOk.block ?_ | refine PanicOk.scope ?_)) (by kernel_rfl) ?_
            refine d_q 3 rfl Q_move (fun _ s => Conv.sat (by repeat (first | with_reducible exact Conv.refl | exact Conv.nil | (apply Conv.cons; · first | ((repeat (first | with_reducible exact Take.head | apply Take.tail)); done) | ((repeat (first | exact Take.head | apply Take.tail)); done)) | refine Conv.drop ?_)) s) (by repeat (first | exact PanicOk.body | exact PanicOk.bodyD (by intros; simp [results, Act.put]) | refine PanicOk.then ?_ | refine PanicOk.block ?_ | refine PanicOk.scope ?_)) (by kernel_rfl) ?_
            first | refine d_q 4 rfl (Q_indexl Tryd.underlying42 sz_9) (fun _ s => Conv.sat (by repeat (first | with_reducible exact Conv.refl | exact Conv.nil | (apply Conv.cons; · first | ((repeat (first | with_reducible exact Take.head | apply Take.tail)); done) | ((repeat (first | exact Take.head | apply Take.tail)); done)) | refine Conv.drop ?_)) s) (by repeat (first | exact PanicOk.body | exact PanicOk.bodyD (by intros; simp [results, Act.put]) | refine PanicOk.then ?_ | refine PanicOk.block ?_ | refine PanicOk.scope ?_)) (by kernel_rfl) ?_ | refine d_q 4 rfl (Q_idxT' Tryd.underlying42 sz_9) (fun _ s => Conv.sat (by repeat (first | with_reducible exact Conv.refl | exact Conv.nil | (apply Conv.cons; · first | ((repeat (first | with_reducible exact Take.head | apply Take.tail)); done) | ((repeat (first | exact Take.head | apply Take.tail)); done)) | refine Conv.drop ?_)) s) (by repeat (first | exact PanicOk.body | exact PanicOk.bodyD (by intros; simp [results, Act.put]) | refine PanicOk.then ?_ | refine PanicOk.block ?_ | refine PanicOk.scope ?_)) (by kernel_rfl) ?_
            first | refine d_q 5 rfl (Q_load pl_9) (fun _ s => Conv.sat (by repeat (first | with_reducible exact Conv.refl | exact Conv.nil | (apply Conv.cons; · first | ((repeat (first | with_reducible exact Take.head | apply Take.tail)); done) | ((repeat (first | exact Take.head | apply Take.tail)); done)) | refine Conv.drop ?_)) s) (by repeat (first | exact PanicOk.body | exact PanicOk.bodyD (by intros; simp [results, Act.put]) | refine PanicOk.then ?_ | refine PanicOk.block ?_ | refine PanicOk.scope ?_)) (by kernel_rfl) ?_ | refine d_q 5 rfl (Q_ldT' pl_9) (fun _ s => Conv.sat (by repeat (first | with_reducible exact Conv.refl | exact Conv.nil | (apply Conv.cons; · first | ((repeat (first | with_reducible exact Take.head | apply Take.tail)); done) | ((repeat (first | exact Take.head | apply Take.tail)); done)) | refine Conv.drop ?_)) s) (by repeat (first | exact PanicOk.body | exact PanicOk.bodyD (by intros; simp [results, Act.put]) | refine PanicOk.then ?_ | refine PanicOk.block ?_ | refine PanicOk.scope ?_)) (by kernel_rfl) ?_ | refine d_q 5 rfl (Q_ldTf' pl_9) (fun _ s => Conv.sat (by repeat (first | with_reducible exact Conv.refl | exact Conv.nil | (apply Conv.cons; · first | ((repeat (first | with_reducible exact Take.head | apply Take.tail)); done) | ((repeat (first | exact Take.head | apply Take.tail)); done)) | refine Conv.drop ?_)) s) (by repeat (first | exact PanicOk.body | exact PanicOk.bodyD (by intros; simp [results, Act.put]) | refine PanicOk.then ?_ | refine PanicOk.block ?_ | refine PanicOk.scope ?_)) (by kernel_rfl) ?_
            refine d_q 6 rfl Q_move (fun _ s => Conv.sat (by repeat (first | with_reducible exact Conv.refl | exact Conv.nil | (apply Conv.cons; · first | ((repeat (first | with_reducible exact Take.head | apply Take.tail)); done) | ((repeat (first | exact Take.head | apply Take.tail)); done)) | refine Conv.drop ?_)) s) (by repeat (first | exact PanicOk.body | exact PanicOk.bodyD (by intros; simp [results, Act.put]) | refine PanicOk.then ?_ | refine PanicOk.block ?_ | refine PanicOk.scope ?_)) (by kernel_rfl) ?_
            refine d_q 7 rfl Q_assign (fun _ s => Conv.sat (by repeat (first | with_reducible exact Conv.refl | exact Conv.nil | (apply Conv.cons; · first | ((repeat (first | with_reducible exact Take.head | apply Take.tail)); done) | ((repeat (first | exact Take.head | apply Take.tail)); done)) | refine Conv.drop ?_)) s) (by repeat (first | exact PanicOk.body | exact PanicOk.bodyD (by intros; simp [results, Act.put]) | refine PanicOk.then ?_ | refine PanicOk.block ?_ | refine PanicOk.scope ?_)) (by kernel_rfl) ?_
            refine d_q 8 rfl Q_assign (fun _ s => Conv.sat (by repeat (first | with_reducible exact Conv.refl | exact Conv.nil | (apply Conv.cons; · first | ((repeat (first | with_reducible exact Take.head | apply Take.tail)); done) | ((repeat (first | exact Take.head | apply Take.tail)); done)) | refine Conv.drop ?_)) s) (by repeat (first | exact PanicOk.body | exact PanicOk.bodyD (by intros; simp [results, Act.put]) | refine PanicOk.then ?_ | refine PanicOk.block ?_ | refine PanicOk.scope ?_)) (by kernel_rfl) ?_
            refine d_l 9 (by kernel_rfl) rfl rfl ?_
            refine l_q Q_assign ?_
            refine d_tail ?_ (by kernel_rfl)
            refine d_l 10 (by kernel_rfl) rfl rfl ?_
            refine l_q Q_assign ?_
            refine d_tail ?_ (by kernel_rfl)
            refine d_nil (by kernel_rfl) ?_
            refine e_then ?_
            refine c_ret ?_
            first
              | exact ret4 (fun w s' => no_parts hp (parts_no hw (fun h => absurd h.1 (by assumption))) (Conv.sat (by repeat (first | with_reducible exact Conv.refl | exact Conv.nil | (apply Conv.cons; · first | ((repeat (first | with_reducible exact Take.head | apply Take.tail)); done) | ((repeat (first | exact Take.head | apply Take.tail)); done)) | refine Conv.drop ?_)) s'))
              | exact ret4 (fun w s' => no_parts hp (parts_no hw (fun h => h.2.1.elim (fun e => (by assumption : bs b ≠ ⟨#[63]⟩) (by rw [e]; rfl)) (by assumption))) (Conv.sat (by repeat (first | with_reducible exact Conv.refl | exact Conv.nil | (apply Conv.cons; · first | ((repeat (first | with_reducible exact Take.head | apply Take.tail)); done) | ((repeat (first | exact Take.head | apply Take.tail)); done)) | refine Conv.drop ?_)) s'))
              | exact ret4 (fun w s' => no_parts hp (parts_no hw (fun h => num_miss hwd h.2.2 (by simpa using (by assumption : (!(num wd).isSome) = true)))) (Conv.sat (by repeat (first | with_reducible exact Conv.refl | exact Conv.nil | (apply Conv.cons; · first | ((repeat (first | with_reducible exact Take.head | apply Take.tail)); done) | ((repeat (first | exact Take.head | apply Take.tail)); done)) | refine Conv.drop ?_)) s'))
              | (have h3 : k = 3 := by omega
                 subst h3
                 exact ret4 (fun w s' => yes_parts hp (parts_yes hw ⟨by assumption, by first | exact .inr (by assumption) | exact .inl (bs_inj (by assumption)) | exact .inl (bs_inj (Classical.not_not.1 (by assumption))), hal x (by simp), hal y (by simp), hal z (by simp)⟩ hok) (Conv.sat (by repeat (first | with_reducible exact Conv.refl | exact Conv.nil | (apply Conv.cons; · first | ((repeat (first | with_reducible exact Take.head | apply Take.tail)); done) | ((repeat (first | exact Take.head | apply Take.tail)); done)) | refine Conv.drop ?_)) s')))
      · refine r_no ?_
        refine r_no ?_
        refine r_no ?_
        refine r_no ?_
        refine r_q Q_pickF ?_
        refine r_nil ?_
        refine e_then ?_
        refine c_false ?_
        refine c_skip ?_
        refine e_then ?_
        refine c_seq ?_
        refine reg ?_
        refine r_q Q_assign ?_
        refine r_nil ?_
        refine e_then ?_
        refine c_seq ?_
        refine c_seq ?_
        refine St.nilS eI ?_
        refine reg ?_
        refine r_q Q_move ?_
        refine r_q (Q_slicec Tryd.underlying42 sz_9) ?_
        refine r_q (Q_lenl Tryd.underlying42) ?_
        refine r_q Q_move ?_
        refine r_nil ?_
        refine e_then ?_
        refine c_block ?_
        refine c_loop (α := Nat × List Int × Option Addr × Nat) (fun u => u.1 ≤ 3 ∧ Ok3 u.2.1 ([x, y, z].take u.1) ∧ ∀ w ∈ [x, y, z].take u.1, (num w).isSome) (fun u => [(2, .string ⟨#[]⟩), (3, .string ⟨#[]⟩), (4, .slice none 0 0), (5, .bool false), (6, .slice (some ⟨bk, 0, none⟩) 5 5), (42, .slice (some ⟨bk, 2, none⟩) 3 3), (43, .int .i64 3), (9, .slice u.2.2.1 u.2.1.length u.2.2.2), (44, .int .i64 (u.1 : Nat))]) (fun u => SlT eI u.2.2.1 u.2.2.2 u.2.1 :: cl bk (rowS [a, b, x, y, z]) 9 :: G gh :: F) (fun u => 3 - u.1) (0, [], none, 0) ⟨Nat.zero_le _, Ok3.nil, by simp⟩ ⟨rfl, rfl, rfl, rfl, rfl, rfl, rfl, rfl, rfl, trivial⟩ (fun _ s => s) ?_
        rintro ⟨k, l, ad, ca⟩ ⟨hk, hok, hal⟩
        dsimp only at hk hok hal ⊢
        have hl5 : l.length ≤ 3 := by rw [hok.1]; simp; omega
        refine c_seq ?_
        refine reg ?_
        refine r_q Q_lss ?_
        refine r_nil ?_
        refine e_then ?_
        refine c_seq ?_
        first | refine c_dec rfl (fun hc6 => ?_) (fun hc6 => ?_) | refine c_ndec rfl (fun hc6 => ?_) (fun hc6 => ?_) | refine c_cond rfl (fun hc6 => ?_) (fun hc6 => ?_)
        · refine c_skip ?_
          refine e_then ?_
          refine c_seq ?_
          refine c_block ?_
          refine c_seq ?_
          obtain ⟨wd, hwd⟩ := at_lt (l := [x, y, z]) (i := k) (by show k < 3; omega)
          have hwd2 : [a, b, x, y, z][2 + k]? = some wd := by rw [Nat.add_comm]; exact hwd
          refine reg ?_
          first | refine r_q (Q_indexl Tryd.underlying42 sz_9) ?_ | refine r_q (Q_idxT' Tryd.underlying42 sz_9) ?_
          refine r_q (Q_load pl_9 (vs := rowS [a, b, x, y, z]) (hv := by rw [show 2 + ((k : Int)).toNat * 1 = 2 + k by rw [Nat.mul_one]; rfl]; exact rowS_at _ _ hwd2)) ?_
          refine r_q Q_assign ?_
          refine r_nil ?_
          refine e_then ?_
          refine c_seq ?_
          refine reg ?_
          refine r_q Q_move ?_
          refine r_l (l_call cf_22 rfl (m_number wd (hlw wd (List.mem_of_getElem? hwd))) ?_)
          intro nn hnn
          refine r_q Q_move ?_
          refine r_q Q_extract ?_
          refine r_q Q_extract ?_
          refine r_q Q_assign ?_
          refine r_q Q_assign ?_
          refine r_nil ?_
          refine e_then ?_
          refine c_seq ?_
          refine c_seq ?_
          refine reg ?_
          refine r_q Q_move ?_
          refine r_q Q_not ?_
          refine r_nil ?_
          refine e_then ?_
          first | refine c_dec rfl (fun hc7 => ?_) (fun hc7 => ?_) | refine c_ndec rfl (fun hc7 => ?_) (fun hc7 => ?_) | refine c_cond rfl (fun hc7 => ?_) (fun hc7 => ?_)
          · refine c_seq ?_
            refine reg ?_
            refine r_q Q_assign ?_
            refine r_q Q_assign ?_
            refine r_q Q_assign ?_
            refine r_q Q_assign ?_
            refine r_nil ?_
            refine e_then ?_
            refine c_ret ?_
            refine e_thenr ?_
            refine e_blockr ?_
            refine e_thenr ?_
            refine e_thenr ?_
            refine e_blockr ?_
            refine e_thenr ?_
            first
              | exact ret4 (fun w s' => no_parts hp (parts_no hw (fun h => absurd h.1 (by assumption))) (Conv.sat (by repeat (first | with_reducible exact Conv.refl | exact Conv.nil | (apply Conv.cons; · first | ((repeat (first | with_reducible exact Take.head | apply Take.tail)); done) | ((repeat (first | exact Take.head | apply Take.tail)); done)) | refine Conv.drop ?_)) s'))
              | exact ret4 (fun w s' => no_parts hp (parts_no hw (fun h => h.2.1.elim (fun e => (by assumption : bs b ≠ ⟨#[63]⟩) (by rw [e]; rfl)) (by assumption))) (Conv.sat (by repeat (first | with_reducible exact Conv.refl | exact Conv.nil | (apply Conv.cons; · first | ((repeat (first | with_reducible exact Take.head | apply Take.tail)); done) | ((repeat (first | exact Take.head | apply Take.tail)); done)) | refine Conv.drop ?_)) s'))
              | exact ret4 (fun w s' => no_parts hp (parts_no hw (fun h => num_miss hwd h.2.2 (by simpa using (by assumption : (!(num wd).isSome) = true)))) (Conv.sat (by repeat (first | with_reducible exact Conv.refl | exact Conv.nil | (apply Conv.cons; · first | ((repeat (first | with_reducible exact Take.head | apply Take.tail)); done) | ((repeat (first | exact Take.head | apply Take.tail)); done)) | refine Conv.drop ?_)) s'))
              | (have h3 : k = 3 := by omega
                 subst h3
                 exact ret4 (fun w s' => yes_parts hp (parts_yes hw ⟨by assumption, by first | exact .inr (by assumption) | exact .inl (bs_inj (by assumption)) | exact .inl (bs_inj (Classical.not_not.1 (by assumption))), hal x (by simp), hal y (by simp), hal z (by simp)⟩ hok) (Conv.sat (by repeat (first | with_reducible exact Conv.refl | exact Conv.nil | (apply Conv.cons; · first | ((repeat (first | with_reducible exact Take.head | apply Take.tail)); done) | ((repeat (first | exact Take.head | apply Take.tail)); done)) | refine Conv.drop ?_)) s')))
          · refine c_skip ?_
            refine e_then ?_
            refine reg ?_
            refine r_q Q_move ?_
            refine r_q Q_move ?_
            refine r_l (L_buildSlice (bs_26_1_0 _) (fun b57 => ?_))
            refine r_l (L_append' (l₂ := [_]) (hB := by show (_ + _) * 8 ≤ _; simp only [List.length_cons, List.length_nil]; omega) eI_ok Tryd.underlying26 (fun a58 c58 => ?_))
            refine r_q Q_assign ?_
            refine r_nil ?_
            refine e_blockn ?_
            refine e_then ?_
            refine reg ?_
            refine r_q Q_addn ?_
            refine r_q Q_move ?_
            refine r_nil ?_
            refine e_then ?_
            have htk : [x, y, z].take (k + 1) = [x, y, z].take k ++ [wd] := by rw [List.take_add_one, hwd]; rfl
            exact c_back (k + 1, l ++ [nn], a58, c58) ⟨by dsimp only; omega, by rw [htk]; exact hok.snoc hnn, by rw [htk]; intro w hw; rcases List.mem_append.1 hw with hw | hw; exact hal w hw; rw [List.mem_singleton.1 hw]; simpa using (by assumption : (!(num wd).isSome) = false)⟩ (by dsimp only; omega) ⟨rfl, rfl, rfl, rfl, rfl, rfl, rfl, rfl, rfl, trivial⟩ (fun _ s => Conv.sat (by repeat (first | with_reducible exact Conv.refl | exact Conv.nil | (apply Conv.cons; · first | ((repeat (first | with_reducible exact Take.head | apply Take.tail)); done) | ((repeat (first | exact Take.head | apply Take.tail)); done)) | refine Conv.drop ?_)) s)
        · refine c_exit ?_
          refine e_thenx ?_
          refine e_thenx ?_
          refine e_block ?_
          refine e_then ?_
          refine c_seq ?_
          refine dreg (N := 11) [cl bk (rowS [a, b, x, y, z]) 9] 9 ?_ mixed rfl
          refine d_q 0 rfl Q_move (fun _ s => Conv.sat (by repeat (first | with_reducible exact Conv.refl | exact Conv.nil | (apply Conv.cons; · first | ((repeat (first | with_reducible exact Take.head | apply Take.tail)); done) | ((repeat (first | exact Take.head | apply Take.tail)); done)) | refine Conv.drop ?_)) s) (by repeat (first | exact PanicOk.body | exact PanicOk.bodyD (by intros; simp [results, Act.put]) | refine PanicOk.then ?_ | refine PanicOk.block ?_ | refine PanicOk.scope ?_)) (by kernel_rfl) ?_
          first | refine d_q 1 rfl (Q_indexl Tryd.underlying42 sz_9) (fun _ s => Conv.sat (by repeat (first | with_reducible exact Conv.refl | exact Conv.nil | (apply Conv.cons; · first | ((repeat (first | with_reducible exact Take.head | apply Take.tail)); done) | ((repeat (first | exact Take.head | apply Take.tail)); done)) | refine Conv.drop ?_)) s) (by repeat (first | exact PanicOk.body | exact PanicOk.bodyD (by intros; simp [results, Act.put]) | refine PanicOk.then ?_ | refine PanicOk.block ?_ | refine PanicOk.scope ?_)) (by kernel_rfl) ?_ | refine d_q 1 rfl (Q_idxT' Tryd.underlying42 sz_9) (fun _ s => Conv.sat (by repeat (first | with_reducible exact Conv.refl | exact Conv.nil | (apply Conv.cons; · first | ((repeat (first | with_reducible exact Take.head | apply Take.tail)); done) | ((repeat (first | exact Take.head | apply Take.tail)); done)) | refine Conv.drop ?_)) s) (by repeat (first | exact PanicOk.body | exact PanicOk.bodyD (by intros; simp [results, Act.put]) | refine PanicOk.then ?_ | refine PanicOk.block ?_ | refine PanicOk.scope ?_)) (by kernel_rfl) ?_
          first | refine d_q 2 rfl (Q_load pl_9) (fun _ s => Conv.sat (by repeat (first | with_reducible exact Conv.refl | exact Conv.nil | (apply Conv.cons; · first | ((repeat (first | with_reducible exact Take.head | apply Take.tail)); done) | ((repeat (first | exact Take.head | apply Take.tail)); done)) | refine Conv.drop ?_)) s) (by repeat (first | exact PanicOk.body | exact PanicOk.bodyD (by intros; simp [results, Act.put]) | refine PanicOk.then ?_ | refine PanicOk.block ?_ | refine PanicOk.scope ?_)) (by kernel_rfl) ?_ | refine d_q 2 rfl (Q_ldT' pl_9) (fun _ s => Conv.sat (by repeat (first | with_reducible exact Conv.refl | exact Conv.nil | (apply Conv.cons; · first | ((repeat (first | with_reducible exact Take.head | apply Take.tail)); done) | ((repeat (first | exact Take.head | apply Take.tail)); done)) | refine Conv.drop ?_)) s) (by repeat (first | exact PanicOk.body | exact PanicOk.bodyD (by intros; simp [results, Act.put]) | refine PanicOk.then ?_ | refine PanicOk.block ?_ | refine PanicOk.scope ?_)) (by kernel_rfl) ?_ | refine d_q 2 rfl (Q_ldTf' pl_9) (fun _ s => Conv.sat (by repeat (first | with_reducible exact Conv.refl | exact Conv.nil | (apply Conv.cons; · first | ((repeat (first | with_reducible exact Take.head | apply Take.tail)); done) | ((repeat (first | exact Take.head | apply Take.tail)); done)) | refine Conv.drop ?_)) s) (by repeat (first | exact PanicOk.body | exact PanicOk.bodyD (by intros; simp [results, Act.put]) | refine PanicOk.then ?_ | refine PanicOk.block ?_ | refine PanicOk.scope ?_)) (by kernel_rfl) ?_
          refine d_q 3 rfl Q_move (fun _ s => Conv.sat (by repeat (first | with_reducible exact Conv.refl | exact Conv.nil | (apply Conv.cons; · first | ((repeat (first | with_reducible exact Take.head | apply Take.tail)); done) | ((repeat (first | exact Take.head | apply Take.tail)); done)) | refine Conv.drop ?_)) s) (by repeat (first | exact PanicOk.body | exact PanicOk.bodyD (by intros; simp [results, Act.put]) | refine PanicOk.then ?_ | refine PanicOk.block ?_ | refine PanicOk.scope ?_)) (by kernel_rfl) ?_
          first | refine d_q 4 rfl (Q_indexl Tryd.underlying42 sz_9) (fun _ s => Conv.sat (by repeat (first | with_reducible exact Conv.refl | exact Conv.nil | (apply Conv.cons; · first | ((repeat (first | with_reducible exact Take.head | apply Take.tail)); done) | ((repeat (first | exact Take.head | apply Take.tail)); done)) | refine Conv.drop ?_)) s) (by repeat (first | exact PanicOk.body | exact PanicOk.bodyD (by intros; simp [results, Act.put]) | refine PanicOk.then ?_ | refine PanicOk.block ?_ | refine PanicOk.scope ?_)) (by kernel_rfl) ?_ | refine d_q 4 rfl (Q_idxT' Tryd.underlying42 sz_9) (fun _ s => Conv.sat (by repeat (first | with_reducible exact Conv.refl | exact Conv.nil | (apply Conv.cons; · first | ((repeat (first | with_reducible exact Take.head | apply Take.tail)); done) | ((repeat (first | exact Take.head | apply Take.tail)); done)) | refine Conv.drop ?_)) s) (by repeat (first | exact PanicOk.body | exact PanicOk.bodyD (by intros; simp [results, Act.put]) | refine PanicOk.then ?_ | refine PanicOk.block ?_ | refine PanicOk.scope ?_)) (by kernel_rfl) ?_
          first | refine d_q 5 rfl (Q_load pl_9) (fun _ s => Conv.sat (by repeat (first | with_reducible exact Conv.refl | exact Conv.nil | (apply Conv.cons; · first | ((repeat (first | with_reducible exact Take.head | apply Take.tail)); done) | ((repeat (first | exact Take.head | apply Take.tail)); done)) | refine Conv.drop ?_)) s) (by repeat (first | exact PanicOk.body | exact PanicOk.bodyD (by intros; simp [results, Act.put]) | refine PanicOk.then ?_ | refine PanicOk.block ?_ | refine PanicOk.scope ?_)) (by kernel_rfl) ?_ | refine d_q 5 rfl (Q_ldT' pl_9) (fun _ s => Conv.sat (by repeat (first | with_reducible exact Conv.refl | exact Conv.nil | (apply Conv.cons; · first | ((repeat (first | with_reducible exact Take.head | apply Take.tail)); done) | ((repeat (first | exact Take.head | apply Take.tail)); done)) | refine Conv.drop ?_)) s) (by repeat (first | exact PanicOk.body | exact PanicOk.bodyD (by intros; simp [results, Act.put]) | refine PanicOk.then ?_ | refine PanicOk.block ?_ | refine PanicOk.scope ?_)) (by kernel_rfl) ?_ | refine d_q 5 rfl (Q_ldTf' pl_9) (fun _ s => Conv.sat (by repeat (first | with_reducible exact Conv.refl | exact Conv.nil | (apply Conv.cons; · first | ((repeat (first | with_reducible exact Take.head | apply Take.tail)); done) | ((repeat (first | exact Take.head | apply Take.tail)); done)) | refine Conv.drop ?_)) s) (by repeat (first | exact PanicOk.body | exact PanicOk.bodyD (by intros; simp [results, Act.put]) | refine PanicOk.then ?_ | refine PanicOk.block ?_ | refine PanicOk.scope ?_)) (by kernel_rfl) ?_
          refine d_q 6 rfl Q_move (fun _ s => Conv.sat (by repeat (first | with_reducible exact Conv.refl | exact Conv.nil | (apply Conv.cons; · first | ((repeat (first | with_reducible exact Take.head | apply Take.tail)); done) | ((repeat (first | exact Take.head | apply Take.tail)); done)) | refine Conv.drop ?_)) s) (by repeat (first | exact PanicOk.body | exact PanicOk.bodyD (by intros; simp [results, Act.put]) | refine PanicOk.then ?_ | refine PanicOk.block ?_ | refine PanicOk.scope ?_)) (by kernel_rfl) ?_
          refine d_q 7 rfl Q_assign (fun _ s => Conv.sat (by repeat (first | with_reducible exact Conv.refl | exact Conv.nil | (apply Conv.cons; · first | ((repeat (first | with_reducible exact Take.head | apply Take.tail)); done) | ((repeat (first | exact Take.head | apply Take.tail)); done)) | refine Conv.drop ?_)) s) (by repeat (first | exact PanicOk.body | exact PanicOk.bodyD (by intros; simp [results, Act.put]) | refine PanicOk.then ?_ | refine PanicOk.block ?_ | refine PanicOk.scope ?_)) (by kernel_rfl) ?_
          refine d_q 8 rfl Q_assign (fun _ s => Conv.sat (by repeat (first | with_reducible exact Conv.refl | exact Conv.nil | (apply Conv.cons; · first | ((repeat (first | with_reducible exact Take.head | apply Take.tail)); done) | ((repeat (first | exact Take.head | apply Take.tail)); done)) | refine Conv.drop ?_)) s) (by repeat (first | exact PanicOk.body | exact PanicOk.bodyD (by intros; simp [results, Act.put]) | refine PanicOk.then ?_ | refine PanicOk.block ?_ | refine PanicOk.scope ?_)) (by kernel_rfl) ?_
          refine d_l 9 (by kernel_rfl) rfl rfl ?_
          refine l_q Q_assign ?_
          refine d_tail ?_ (by kernel_rfl)
          refine d_l 10 (by kernel_rfl) rfl rfl ?_
          refine l_q Q_assign ?_
          refine d_tail ?_ (by kernel_rfl)
          refine d_nil (by kernel_rfl) ?_
          refine e_then ?_
          refine c_ret ?_
          first
            | exact ret4 (fun w s' => no_parts hp (parts_no hw (fun h => absurd h.1 (by assumption))) (Conv.sat (by repeat (first | with_reducible exact Conv.refl | exact Conv.nil | (apply Conv.cons; · first | ((repeat (first | with_reducible exact Take.head | apply Take.tail)); done) | ((repeat (first | exact Take.head | apply Take.tail)); done)) | refine Conv.drop ?_)) s'))
            | exact ret4 (fun w s' => no_parts hp (parts_no hw (fun h => h.2.1.elim (fun e => (by assumption : bs b ≠ ⟨#[63]⟩) (by rw [e]; rfl)) (by assumption))) (Conv.sat (by repeat (first | with_reducible exact Conv.refl | exact Conv.nil | (apply Conv.cons; · first | ((repeat (first | with_reducible exact Take.head | apply Take.tail)); done) | ((repeat (first | exact Take.head | apply Take.tail)); done)) | refine Conv.drop ?_)) s'))
            | exact ret4 (fun w s' => no_parts hp (parts_no hw (fun h => num_miss hwd h.2.2 (by simpa using (by assumption : (!(num wd).isSome) = true)))) (Conv.sat (by repeat (first | with_reducible exact Conv.refl | exact Conv.nil | (apply Conv.cons; · first | ((repeat (first | with_reducible exact Take.head | apply Take.tail)); done) | ((repeat (first | exact Take.head | apply Take.tail)); done)) | refine Conv.drop ?_)) s'))
            | (have h3 : k = 3 := by omega
               subst h3
               exact ret4 (fun w s' => yes_parts hp (parts_yes hw ⟨by assumption, by first | exact .inr (by assumption) | exact .inl (bs_inj (by assumption)) | exact .inl (bs_inj (Classical.not_not.1 (by assumption))), hal x (by simp), hal y (by simp), hal z (by simp)⟩ hok) (Conv.sat (by repeat (first | with_reducible exact Conv.refl | exact Conv.nil | (apply Conv.cons; · first | ((repeat (first | with_reducible exact Take.head | apply Take.tail)); done) | ((repeat (first | exact Take.head | apply Take.tail)); done)) | refine Conv.drop ?_)) s')))
  · refine c_seq ?_
    refine reg ?_
    refine r_q Q_assign ?_
    refine r_q Q_assign ?_
    refine r_q Q_assign ?_
    refine r_q Q_assign ?_
    refine r_nil ?_
    refine e_then ?_
    refine c_seq ?_
    refine reg ?_
    refine r_q Q_move ?_
    refine r_l (l_call cf_19 rfl (k_split s (words s) _ (by omega) rfl rfl) ?_)
    intro bk _
    refine r_q Q_assign ?_
    refine r_nil ?_
    refine e_then ?_
    refine c_seq ?_
    refine c_seq ?_
    refine reg ?_
    refine r_q Q_move ?_
    refine r_q (Q_lenl Tryd.underlying42) ?_
    refine r_q Q_neq ?_
    refine r_q Q_move ?_
    refine b_is (t := 19) true rfl (by first | rfl | exact decide_eq_true (by omega) | simp_all) ?_
    refine r_no ?_
    refine r_no ?_
    refine r_no ?_
    refine r_no ?_
    refine r_no ?_
    refine r_q Q_pickT ?_
    refine r_nil ?_
    refine e_then ?_
    refine c_true ?_
    refine c_seq ?_
    refine reg ?_
    refine r_q Q_assign ?_
    refine r_q Q_assign ?_
    refine r_q Q_assign ?_
    refine r_q Q_assign ?_
    refine r_nil ?_
    refine e_then ?_
    refine c_ret ?_
    refine e_thenr ?_
    exact ret4 (fun w s' => no_parts hp hno (Conv.sat (by repeat (first | with_reducible exact Conv.refl | exact Conv.nil | (apply Conv.cons; · first | ((repeat (first | with_reducible exact Take.head | apply Take.tail)); done) | ((repeat (first | exact Take.head | apply Take.tail)); done)) | refine Conv.drop ?_)) s'))
end Go.Proofs.YtljjplndcbekfaaDoor
