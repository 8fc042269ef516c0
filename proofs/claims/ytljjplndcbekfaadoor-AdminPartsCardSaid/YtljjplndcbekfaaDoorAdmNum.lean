/- Numbers in plain words: what digits say, and that a number's own digits say it. Its conditions: none. -/
import Derived.Test.YtljjplndcbekfaaDoorAdmModel
namespace Go.Proofs.YtljjplndcbekfaaDoor
namespace A
open Go.Lib
def isD (c : UInt8) : Prop := 48 ≤ c.toNat ∧ c.toNat ≤ 57
def dv (l : B) : Nat := l.foldl (fun a c => a * 10 + (c.toNat - 48)) 0
theorem dv_snoc (l : B) (c : UInt8) : dv (l ++ [c]) = dv l * 10 + (c.toNat - 48) := by simp [dv]
theorem dv_lt : ∀ (n : Nat) (l : B), l.length = n → (∀ c ∈ l, isD c) → dv l < 10 ^ n
  | 0, l, h, _ => by
    have : l = [] := List.length_eq_zero_iff.1 h
    subst this
    simp [dv]
  | n + 1, l, h, hd => by
    obtain ⟨l', c, rfl⟩ : ∃ l' c, l = l' ++ [c] := by
      have hne : l ≠ [] := by intro e; subst e; simp at h
      exact ⟨l.dropLast, l.getLast hne, (List.dropLast_concat_getLast hne).symm⟩
    rw [dv_snoc]
    have h1 := dv_lt n l' (by simpa using h) (fun c hc => hd c (by simp [hc]))
    have h2 := hd c (by simp)
    unfold isD at h2
    rw [Nat.pow_succ]
    omega
theorem d_ofNat {k : Nat} (h : k < 10) : (UInt8.ofNat (48 + k)).toNat = 48 + k := by
  simp
  omega
theorem dec_facts : ∀ (n u : Nat), u ≤ n → dv (decDigits u) = u ∧ (∀ c ∈ decDigits u, isD c) ∧ decDigits u ≠ []
  | n, u, h => by
    by_cases hu : u < 10
    · rw [decDigits_one hu]
      have := d_ofNat hu
      refine ⟨?_, ?_, by simp⟩
      · have e : dv [UInt8.ofNat (48 + u)] = (UInt8.ofNat (48 + u)).toNat - 48 := by simp [dv]
        rw [e, this]; omega
      · intro c hc
        rw [List.mem_singleton.1 hc]
        unfold isD
        omega
    · have := d_ofNat (k := u % 10) (by omega)
      cases n with
      | zero => omega
      | succ n =>
        obtain ⟨h1, h2, h3⟩ := dec_facts n (u / 10) (by omega)
        rw [decDigits, dif_neg hu]
        refine ⟨?_, ?_, by simp⟩
        · rw [dv_snoc, h1, this]; omega
        · intro c hc
          rcases List.mem_append.1 hc with hc | hc
          · exact h2 c hc
          · rw [List.mem_singleton.1 hc]
            unfold isD
            omega
theorem dv_dec (u : Nat) : dv (decDigits u) = u := (dec_facts u u (Nat.le_refl _)).1
theorem dec_isD {u : Nat} {c : UInt8} (h : c ∈ decDigits u) : isD c := (dec_facts u u (Nat.le_refl _)).2.1 c h
theorem dec_ne (u : Nat) : decDigits u ≠ [] := (dec_facts u u (Nat.le_refl _)).2.2
/-- how a number's text begins -/
def neg (s : B) : Prop := s.head? = some 45
instance (s : B) : Decidable (neg s) := by unfold neg; infer_instance
def body (s : B) : B := if neg s then s.drop 1 else s
theorem body_neg {s : B} (h : neg s) : s = 45 :: body s := by
  unfold neg at h
  cases s with
  | nil => cases h
  | cons c s =>
    simp at h
    subst h
    simp [body, neg]
theorem dec_head (u : Nat) : ¬ neg (decDigits u) := by
  intro h
  unfold neg at h
  have h1 := List.mem_of_mem_head? h
  have := dec_isD h1
  unfold isD at this
  exact absurd this.1 (by decide)
theorem itoa_cases {m : Int} {s : B} (h : itoa m = s) : (neg s ∧ m < 0 ∧ body s = decDigits m.natAbs) ∨ (¬ neg s ∧ 0 ≤ m ∧ body s = decDigits m.natAbs) := by
  unfold itoa at h
  split at h
  · subst h
    refine .inl ⟨rfl, by assumption, ?_⟩
    simp [body, neg]
  · subst h
    have e : m.toNat = m.natAbs := by omega
    rw [e]
    refine .inr ⟨dec_head _, by omega, ?_⟩
    unfold body
    rw [if_neg (dec_head _)]
theorem trim_body (s : B) : trimPrefix s [45] = body s := by
  unfold trimPrefix body hasPrefix neg
  cases s with
  | nil => simp
  | cons c s =>
    by_cases h : c = 45
    · subst h; simp
    · have h' : (45 == c) = false := by simp; exact fun e => h e.symm
      simp [List.isPrefixOf, h, h']
def sgn (s : B) (u : Nat) : Int := if neg s then -(u : Int) else u
theorem num_val {m : Int} {s : B} (h : itoa m = s) : m = sgn s (dv (body s)) := by
  unfold sgn
  rcases itoa_cases h with ⟨h1, h2, h3⟩ | ⟨h1, h2, h3⟩
  · rw [if_pos h1, h3, dv_dec]; omega
  · rw [if_neg h1, h3, dv_dec]; omega
theorem num_isD {m : Int} {s : B} (h : itoa m = s) : ∀ c ∈ body s, isD c := by
  rcases itoa_cases h with ⟨_, _, h3⟩ | ⟨_, _, h3⟩ <;> rw [h3] <;> exact fun c hc => dec_isD hc
theorem itoa_inj {m n : Int} (h : itoa m = itoa n) : m = n := (num_val (s := itoa n) h).trans (num_val rfl).symm
theorem num_of {s : B} {n : Int} (h : numP s n) : num s = some n := by
  have hx : ∃ n, numP s n := ⟨n, h⟩
  unfold num
  rw [dif_pos hx]
  have := Classical.choose_spec hx
  exact congrArg some (itoa_inj (this.1.trans h.1.symm))
theorem num_some {s : B} {n : Int} (h : num s = some n) : numP s n := by
  unfold num at h
  split at h
  · rename_i hx
    cases h
    exact Classical.choose_spec hx
  · cases h
theorem parse_dec : ∀ (n : Nat) (l : B), l.length = n → n ≤ 18 → (∀ c ∈ l, isD c) → parseUint10 0 l = .ok (dv l)
  | n, l, h, hn, hd => by
    rw [parseUint10_short l 0 0 (by decide) (by omega)]
    have key : ∀ (l : B) (acc : Nat), (∀ c ∈ l, isD c) → decFrom acc l = some (l.foldl (fun a c => a * 10 + (c.toNat - 48)) acc) := by
      intro l
      induction l with
      | nil => intro acc _; rfl
      | cons c l ih =>
        intro acc hd
        have hc := hd c (by simp)
        unfold isD at hc
        simp only [decFrom, digitVal, if_pos hc, List.foldl_cons]
        rw [ih _ (fun c hc => hd c (by simp [hc]))]
    rw [key l 0 hd]
    rfl
theorem atoi_num {s : B} {m : Int} (h : numP s m) : atoiAll s = .ok m := by
  have hb := num_isD h.1
  have hl : (body s).length ≤ 9 := by rw [← trim_body]; exact h.2
  have hp := parse_dec _ (body s) rfl (by omega) hb
  have hlt := dv_lt _ (body s) rfl hb
  have hlt2 : dv (body s) < 10 ^ 9 := Nat.lt_of_lt_of_le hlt (Nat.pow_le_pow_right (by decide) hl)
  have hm : parseMag (body s) = .ok (dv (body s)) := by
    unfold parseMag
    rw [if_neg, hp]
    rcases itoa_cases h.1 with ⟨_, _, h3⟩ | ⟨_, _, h3⟩ <;> rw [h3] <;> exact dec_ne _
  have hv := num_val h.1
  unfold sgn at hv
  by_cases hn : neg s
  · rw [if_pos hn] at hv
    have e := body_neg hn
    generalize hbs : body s = r at *
    subst e
    rw [atoiAll_minus, hm, hv]
    simp only [signed]
    rw [if_neg (by omega)]
  · rw [if_neg hn] at hv
    have e : body s = s := by unfold body; rw [if_neg hn]
    rw [e] at hm hb hlt2 hv
    cases s with
    | nil =>
      rcases itoa_cases h.1 with ⟨h1, _⟩ | ⟨_, _, h3⟩
      · exact absurd h1 hn
      · rw [e] at h3; exact absurd h3.symm (dec_ne _)
    | cons c r =>
      have hc := hb c (by simp)
      unfold isD at hc
      rw [atoiAll_plain c r (by omega) (by omega), hm, hv]
      simp only [signless]
      rw [if_neg (by omega)]
/-! ### parts -/
def Ok3 (l : List Int) (ws : List B) : Prop := l.length = ws.length ∧ ∀ (i : Nat) w m, ws[i]? = some w → num w = some m → l[i]? = some m
theorem Ok3.nil : Ok3 [] [] := ⟨rfl, fun i w m h => by simp at h⟩
theorem Ok3.snoc {l : List Int} {ws : List B} {w : B} {n : Int} (h : Ok3 l ws) (hn : ∀ m, num w = some m → n = m) : Ok3 (l ++ [n]) (ws ++ [w]) := by
  refine ⟨by simp [h.1], fun i v m hv hm => ?_⟩
  by_cases hi : i < ws.length
  · rw [List.getElem?_append_left hi] at hv
    rw [List.getElem?_append_left (by rw [h.1]; exact hi)]
    exact h.2 i v m hv hm
  · rw [List.getElem?_append_right (by omega)] at hv
    rw [List.getElem?_append_right (by rw [h.1]; omega), h.1]
    cases hk : i - ws.length with
    | zero =>
      rw [hk] at hv
      simp at hv
      subst hv
      simp [hn m hm]
    | succ k => rw [hk] at hv; simp at hv
theorem Ok3.end {l : List Int} {x y z : B} {i j k : Int} (h : Ok3 l [x, y, z]) (hi : num x = some i) (hj : num y = some j) (hk : num z = some k) : l = [i, j, k] := by
  have h0 := h.2 0 x i rfl hi
  have h1 := h.2 1 y j rfl hj
  have h2 := h.2 2 z k rfl hk
  have hl := h.1
  match l, hl with
  | [p, q, r], _ => simp at h0 h1 h2; rw [h0, h1, h2]
noncomputable def parts (s : B) : Option (B × B × List Int) :=
  match words s with
  | [a, b, x, y, z] => if nameOk a ∧ isState b then (match num x, num y, num z with
    | some i, some j, some k => some (a, b, [i, j, k])
    | _, _, _ => none) else none
  | _ => none
noncomputable def pa (s : B) : B := ((parts s).map (·.1)).getD []
noncomputable def pb (s : B) : B := ((parts s).map (·.2.1)).getD []
noncomputable def pl (s : B) : List Int := ((parts s).map (·.2.2)).getD []
theorem words5 (s : B) : (∃ a b x y z, words s = [a, b, x, y, z]) ∨ ((words s).length ≠ 5 ∧ parts s = none) := by
  unfold parts
  match words s with
  | [a, b, x, y, z] => exact .inl ⟨a, b, x, y, z, rfl⟩
  | [] => exact .inr ⟨by simp, rfl⟩
  | [_] => exact .inr ⟨by simp, rfl⟩
  | [_, _] => exact .inr ⟨by simp, rfl⟩
  | [_, _, _] => exact .inr ⟨by simp, rfl⟩
  | [_, _, _, _] => exact .inr ⟨by simp, rfl⟩
  | _ :: _ :: _ :: _ :: _ :: _ :: _ => exact .inr ⟨by simp, rfl⟩
theorem parts_no {s a b x y z : B} (hw : words s = [a, b, x, y, z]) (h : ¬ (nameOk a ∧ isState b ∧ (num x).isSome ∧ (num y).isSome ∧ (num z).isSome)) : parts s = none := by
  unfold parts
  rw [hw]
  dsimp only
  split
  · rename_i h1
    split
    · rename_i h2 h3 h4
      exact absurd ⟨h1.1, h1.2, by rw [h2]; rfl, by rw [h3]; rfl, by rw [h4]; rfl⟩ h
    · rfl
  · rfl
theorem parts_yes {s a b x y z : B} {l : List Int} (hw : words s = [a, b, x, y, z]) (h : nameOk a ∧ isState b ∧ (num x).isSome ∧ (num y).isSome ∧ (num z).isSome) (hl : Ok3 l [x, y, z]) : parts s = some (a, b, l) := by
  obtain ⟨h1, h2, h3, h4, h5⟩ := h
  obtain ⟨i, h3⟩ := Option.isSome_iff_exists.1 h3
  obtain ⟨j, h4⟩ := Option.isSome_iff_exists.1 h4
  obtain ⟨k, h5⟩ := Option.isSome_iff_exists.1 h5
  unfold parts
  rw [hw]
  dsimp only
  rw [if_pos ⟨h1, h2⟩, h3, h4, h5, hl.end h3 h4 h5]
theorem words_le {s w : B} (h : w ∈ words s) : w.length ≤ s.length := by
  have key : ∀ (l w0 : B), ∀ w ∈ wr w0 l, w.length ≤ w0.length + l.length := by
    intro l
    induction l with
    | nil => intro w0 w hw; simp [wr] at hw; subst hw; simp
    | cons c l ih =>
      intro w0 w hw
      simp only [wr] at hw
      split at hw
      · rcases List.mem_cons.1 hw with rfl | hw
        · simp
        · have := ih [] w hw; simp at this ⊢; omega
      · have := ih _ w hw; simp at this ⊢; omega
  have := key s [] w h
  simpa using this
/-! ### the statements -/
theorem itoa_free (n : Int) : ∀ c ∈ itoa n, c ≠ 32 := by
  intro c hc e
  subst e
  rcases itoa_cases (m := n) rfl with ⟨h1, _, h3⟩ | ⟨h1, _, h3⟩
  · rw [body_neg h1] at hc
    rcases List.mem_cons.1 hc with h | h
    · exact absurd h (by decide)
    · rw [h3] at h
      exact absurd (dec_isD h) (by unfold isD; decide)
  · have e : body (itoa n) = itoa n := by unfold body; rw [if_neg h1]
    rw [← e, h3] at hc
    exact absurd (dec_isD hc) (by unfold isD; decide)
theorem sname_cases (n : Int) : sname n = [] ∨ sname n ∈ states := by
  unfold sname
  split
  · exact .inl rfl
  · refine .inr ?_
    obtain rfl | rfl | rfl | rfl : n = 0 ∨ n = 1 ∨ n = 2 ∨ n = 3 := by omega
    all_goals decide
theorem states_free : ∀ b ∈ states, ∀ c ∈ b, c ≠ 32 := by decide
theorem word_free (n : Int) : ∀ c ∈ word n, c ≠ 32 := by
  unfold word
  split
  · decide
  · rename_i h
    exact states_free _ ((sname_cases n).resolve_left h)
theorem words_row (name : B) (s a b c : Int) : words (rowT name s a b c) = words name ++ [word s, itoa a, itoa b, itoa c] := by
  unfold rowT
  rw [words_sp, words_sp, words_sp, words_sp, words_no (word_free s), words_no (itoa_free a), words_no (itoa_free b), words_no (itoa_free c)]
  rfl
theorem words_one {name w : B} (h : words name = [w]) : name = w := by
  have := words_join name
  rw [h] at this
  simpa [join, List.intercalate] using this.symm
theorem num_itoa {n i : Int} (h : num (itoa n) = some i) : i = n := itoa_inj (num_some h).1
theorem parts_five {s x y : B} {l : List Int} (h : parts s = some (x, y, l)) : ∃ p q r i j k, words s = [x, y, p, q, r] ∧ nameOk x ∧ isState y ∧ num p = some i ∧ num q = some j ∧ num r = some k ∧ l = [i, j, k] := by
  rcases words5 s with ⟨a, b, p, q, r, hw⟩ | ⟨_, hn⟩
  · unfold parts at h
    rw [hw] at h
    dsimp only at h
    split at h
    · rename_i h1
      split at h
      · rename_i i j k h2 h3 h4
        simp only [Option.some.injEq, Prod.mk.injEq] at h
        obtain ⟨e1, e2, e3⟩ := h
        subst e1; subst e2; subst e3
        exact ⟨p, q, r, i, j, k, hw, h1.1, h1.2, h2, h3, h4, rfl⟩
      · cases h
    · cases h
  · rw [hn] at h; cases h
theorem rows_law {name x y : B} {s a b c : Int} {l : List Int} (h : parts (rowT name s a b c) = some (x, y, l)) : x = name ∧ l = [a, b, c] := by
  obtain ⟨p, q, r, i, j, k, hw, _, _, h1, h2, h3, hl⟩ := parts_five h
  rw [words_row] at hw
  have hlen := congrArg List.length hw
  simp only [List.length_append, List.length_cons, List.length_nil] at hlen
  obtain ⟨w, hw1⟩ : ∃ w, words name = [w] := List.length_eq_one_iff.1 (by omega)
  rw [hw1] at hw
  simp only [List.cons_append, List.nil_append, List.cons.injEq, and_true] at hw
  obtain ⟨e1, _, e3, e4, e5⟩ := hw
  subst e3; subst e4; subst e5
  exact ⟨by rw [words_one hw1, e1], by rw [hl, num_itoa h1, num_itoa h2, num_itoa h3]⟩
theorem rows_is {name : B} {s a b c : Int} (h : (parts (rowT name s a b c)).isSome = true) : pa (rowT name s a b c) = name ∧ pl (rowT name s a b c) = [a, b, c] := by
  obtain ⟨⟨x, y, l⟩, hp⟩ := Option.isSome_iff_exists.1 h
  obtain ⟨h1, h2⟩ := rows_law hp
  simp [pa, pl, hp, h1, h2]
theorem join5 (a b x y z : B) : join [a, b, x, y, z] [32] = a ++ 32 :: (b ++ 32 :: (x ++ 32 :: (y ++ 32 :: z))) := by
  simp [join, List.intercalate, List.intersperse]
theorem parts_is {s : B} (h : (parts s).isSome = true) : ∃ i j k, pl s = [i, j, k] ∧ nameOk (pa s) ∧ isState (pb s) ∧ (-9223372036854775808 ≤ i ∧ i ≤ 9223372036854775807) ∧ (-9223372036854775808 ≤ j ∧ j ≤ 9223372036854775807) ∧ (-9223372036854775808 ≤ k ∧ k ≤ 9223372036854775807) ∧ s = pa s ++ 32 :: (pb s ++ 32 :: (itoa i ++ 32 :: (itoa j ++ 32 :: itoa k))) := by
  obtain ⟨⟨x, y, l⟩, hp⟩ := Option.isSome_iff_exists.1 h
  obtain ⟨p, q, r, i, j, k, hw, hx, hy, h1, h2, h3, hl⟩ := parts_five hp
  have ea : pa s = x := by simp [pa, hp]
  have eb : pb s = y := by simp [pb, hp]
  have el : pl s = l := by simp [pl, hp]
  rw [ea, eb, el]
  refine ⟨i, j, k, hl, hx, hy, atoiAll_bounds (atoi_num (num_some h1)), atoiAll_bounds (atoi_num (num_some h2)), atoiAll_bounds (atoi_num (num_some h3)), ?_⟩
  have := words_join s
  rw [hw, join5, ← (num_some h1).1, ← (num_some h2).1, ← (num_some h3).1] at this
  exact this.symm
theorem pb_len (s : B) : (pb s).length ≤ s.length := by
  cases hp : parts s with
  | none => simp [pb, hp]
  | some v =>
    obtain ⟨x, y, l⟩ := v
    obtain ⟨p, q, r, i, j, k, hw, _⟩ := parts_five hp
    have e : pb s = y := by simp [pb, hp]
    rw [e]
    exact words_le (by rw [hw]; simp)
theorem pl_len (s : B) : (pl s).length ≤ 3 := by
  cases hp : parts s with
  | none => simp [pl, hp]
  | some v =>
    obtain ⟨x, y, l⟩ := v
    obtain ⟨p, q, r, i, j, k, hw, _, _, _, _, _, hl⟩ := parts_five hp
    simp [pl, hp, hl]
/-- which state a word is -/
def KV (b : B) (n : Nat) (kv : Int) : Prop := (kv = -1 ∧ ∀ j : Nat, j < n → sname j ≠ b) ∨ ∃ j : Nat, j < n ∧ kv = j ∧ sname j = b
theorem KV.word {b : B} {kv : Int} (h : KV b 4 kv) (hb : isState b) : word kv = b := by
  rcases h with ⟨rfl, hn⟩ | ⟨j, hj, rfl, hs⟩
  · rcases hb with rfl | hb
    · rfl
    · exfalso
      simp only [states, List.mem_cons, List.not_mem_nil, or_false] at hb
      rcases hb with rfl | rfl | rfl | rfl
      · exact hn 0 (by decide) rfl
      · exact hn 1 (by decide) rfl
      · exact hn 2 (by decide) rfl
      · exact hn 3 (by decide) rfl
  · unfold A.word
    rw [if_neg, hs]
    obtain rfl | rfl | rfl | rfl : j = 0 ∨ j = 1 ∨ j = 2 ∨ j = 3 := by omega
    all_goals decide
theorem row_h {b : B} {j : Nat} (hj : j < 4) : rowT [104] j 0 0 0 = [104, 32] ++ b ++ [32, 48, 32, 48, 32, 48] ↔ sname j = b := by
  have hw : word j = sname j := by
    unfold A.word
    rw [if_neg]
    obtain rfl | rfl | rfl | rfl : j = 0 ∨ j = 1 ∨ j = 2 ∨ j = 3 := by omega
    all_goals decide
  have h0 : itoa 0 = [48] := by rw [itoa_small 0 (by decide) (by decide)]; rfl
  unfold rowT
  rw [hw, h0]
  simp
theorem KV.yes {b : B} {j : Nat} {kv : Int} (_h : KV b j kv) (hs : sname j = b) : KV b (j + 1) j := .inr ⟨j, by omega, rfl, hs⟩
theorem KV.no {b : B} {j : Nat} {kv : Int} (h : KV b j kv) (hs : sname j ≠ b) : KV b (j + 1) kv := by
  rcases h with ⟨h1, h2⟩ | ⟨i, h1, h2, h3⟩
  · refine .inl ⟨h1, fun i hi => ?_⟩
    by_cases e : i = j
    · subst e; exact hs
    · exact h2 i (by omega)
  · exact .inr ⟨i, by omega, h2, h3⟩
end A
end Go.Proofs.YtljjplndcbekfaaDoor
