/- The admin layer in plain words: words of a text, a host's line, its parts, numbers; and how the library's functions read so. Its conditions: none. -/
import Derived.Lib.Split
import Derived.Lib.CountLaws
import Derived.Lib.IndexBytes
import Derived.Lib.IndexLaws
import Derived.Lib.SplitLaws
import Derived.Lib.Join
import Derived.Lib.ItoaNum
import Derived.Lib.ItoaLen
import Derived.Lib.AtoiTie
import Derived.Lib.AtoiAllCases
import Derived.Lib.Strings
import Derived.Lib.SlicesS
import Derived.Laws.RangeString
import Derived.Laws.RangeAny
import Derived.Shelf.GgClosure.StringsIndexFunc
namespace Go.Proofs.YtljjplndcbekfaaDoor
namespace A
open Go.Lib
abbrev B := List UInt8
def bs (l : B) : ByteArray := ⟨l.toArray⟩
theorem bs_data (s : ByteArray) : bs s.data.toList = s := by cases s; rfl
theorem data_bs (l : B) : (bs l).data.toList = l := rfl
theorem bs_size (l : B) : (bs l).size = l.length := by simp [bs, ByteArray.size]
theorem bs_inj {a b : B} (h : bs a = bs b) : a = b := by have := congrArg (fun s => s.data.toList) h; simpa [data_bs] using this

@[simp] theorem bs_eq_nil (l : B) : bs l = ⟨#[]⟩ ↔ l = [] := ⟨fun h => bs_inj (a := l) (b := []) h, fun h => by rw [h]; rfl⟩
theorem bs_app (a b : B) : bs a ++ bs b = bs (a ++ b) := by
  rw [← bs_data (bs a ++ bs b)]
  simp [data_bs, ByteArray.data_append]

theorem bs_at {s : B} {i : Nat} {c : UInt8} (h : s[i]? = some c) : (bs s)[i]! = c := by
  obtain ⟨hi, he⟩ := List.getElem?_eq_some_iff.1 h
  have h2 : i < (bs s).size := by rw [bs_size]; exact hi
  rw [getElem!_pos (bs s) i h2]
  simpa [bs, ByteArray.getElem_eq_getElem_data] using he
theorem bs_piece {s : B} {i : Nat} {c : UInt8} (h : s[i]? = some c) : (bs s).extract i (i + 1) = bs [c] := by
  obtain ⟨hi, he⟩ := List.getElem?_eq_some_iff.1 h
  rw [← bs_data ((bs s).extract i (i + 1))]
  congr 1
  rw [ByteArray.data_extract, Array.toList_extract, List.extract_eq_take_drop, data_bs, List.drop_eq_getElem_cons hi]
  simp [he]
theorem name_step {p : UInt8 → Prop} {s : B} {i : Nat} {c : UInt8} (h : s[i]? = some c) (h1 : ∀ c ∈ s.take i, p c) (h2 : p c) : ∀ c ∈ s.take (i + 1), p c := by
  intro d hd
  rw [List.take_add_one, h] at hd
  rcases List.mem_append.1 hd with hd | hd
  · exact h1 d hd
  · simp at hd; subst hd; exact h2
theorem take_same {α : Type} {l m : List α} {i : Nat} {x : α} (h : l.take i = m.take i) (h1 : l[i]? = some x) (h2 : m[i]? = some x) : l.take (i + 1) = m.take (i + 1) := by
  rw [List.take_add_one, List.take_add_one, h, h1, h2]
theorem at_lt {α : Type} {l : List α} {i : Nat} (h : i < l.length) : ∃ x, l[i]? = some x := ⟨_, List.getElem?_eq_getElem h⟩
theorem idx_from (x : B) : ∀ (l : List B) (k : Nat), (idxFromS (l.map bs) (bs x) k = -1 ∧ x ∉ l) ∨ (0 ≤ idxFromS (l.map bs) (bs x) k ∧ x ∈ l)
  | [], k => .inl ⟨rfl, by simp⟩
  | y :: l, k => by
    by_cases h : y = x
    · subst h; exact .inr ⟨by simp [idxFromS], by simp⟩
    · have h' : ¬ bs y = bs x := fun e => h (bs_inj e)
      simp only [List.map_cons, idxFromS, if_neg h', List.mem_cons]
      rcases idx_from x l (k + 1) with ⟨h1, h2⟩ | ⟨h1, h2⟩
      · exact .inl ⟨h1, fun e => e.elim (fun e => h e.symm) h2⟩
      · exact .inr ⟨h1, .inr h2⟩
theorem idx_mem (x : B) (l : List B) : decide (0 ≤ idxOfS (l.map bs) (bs x)) = decide (x ∈ l) := by
  rcases idx_from x l 0 with ⟨h1, h2⟩ | ⟨h1, h2⟩
  · rw [decide_eq_false h2]; exact decide_eq_false (by unfold idxOfS; omega)
  · rw [decide_eq_true h2]; exact decide_eq_true h1

/-! ### words -/
def wr : B → B → List B
  | w, [] => [w]
  | w, c :: l => if c = 32 then w :: wr [] l else wr (w ++ [c]) l
def words (l : B) : List B := wr [] l
theorem wr_step {w s : B} {i : Nat} {c : UInt8} (h : s[i]? = some c) : wr w (s.drop i) = if c = 32 then w :: wr [] (s.drop (i + 1)) else wr (w ++ [c]) (s.drop (i + 1)) := by
  obtain ⟨hi, he⟩ := List.getElem?_eq_some_iff.1 h
  rw [List.drop_eq_getElem_cons hi, he]
  rfl
theorem wr_no : ∀ (a w l : B), (∀ c ∈ a, c ≠ 32) → wr w (a ++ l) = wr (w ++ a) l
  | [], w, l, _ => by simp
  | c :: a, w, l, h => by
    simp only [List.cons_append, wr]
    rw [if_neg (h c (by simp)), wr_no a (w ++ [c]) l (fun x hx => h x (by simp [hx]))]
    simp
theorem words_no {a : B} (h : ∀ c ∈ a, c ≠ 32) : words a = [a] := by
  have := wr_no a [] [] h
  simpa [words, wr] using this
theorem wr_sp : ∀ (a w l : B), wr w (a ++ 32 :: l) = wr w a ++ wr [] l
  | [], w, l => by simp [wr]
  | c :: a, w, l => by
    simp only [List.cons_append, wr]
    split
    · rw [wr_sp a [] l]; simp
    · exact wr_sp a (w ++ [c]) l
theorem words_sp (a l : B) : words (a ++ 32 :: l) = words a ++ words l := wr_sp a [] l
theorem wr_ne : ∀ (a w : B), wr w a ≠ []
  | [], w => by simp [wr]
  | c :: a, w => by
    simp only [wr]
    split
    · simp
    · exact wr_ne a _
theorem wr_free : ∀ (a w : B), (∀ c ∈ w, c ≠ 32) → ∀ x ∈ wr w a, ∀ c ∈ x, c ≠ 32
  | [], w, h, x, hx => by
    simp [wr] at hx
    subst hx
    exact h
  | c :: a, w, h, x, hx => by
    simp only [wr] at hx
    split at hx
    · rcases List.mem_cons.1 hx with rfl | hx
      · exact h
      · exact wr_free a [] (by simp) x hx
    · rename_i hc
      refine wr_free a _ (fun d hd => ?_) x hx
      rcases List.mem_append.1 hd with hd | hd
      · exact h d hd
      · simp at hd; subst hd; exact hc
theorem words_free {a x : B} (h : x ∈ words a) : ∀ c ∈ x, c ≠ 32 := wr_free a [] (by simp) x h
theorem wr_join : ∀ (a w : B), join (wr w a) [32] = w ++ a
  | [], w => by simp [wr, join]
  | c :: a, w => by
    simp only [wr]
    split
    · rename_i hc
      subst hc
      have h1 := wr_join a []
      have h2 := wr_ne a []
      cases hk : wr [] a with
      | nil => exact absurd hk h2
      | cons y ys =>
        rw [hk] at h1
        simp only [join, List.intercalate, List.intersperse] at h1 ⊢
        cases ys <;> simp_all
    · rw [wr_join a (w ++ [c])]; simp
theorem words_join (a : B) : join (words a) [32] = a := wr_join a []
theorem index_sp : ∀ (s : B), (indexByte s 32 = -1 ∧ ∀ c ∈ s, c ≠ 32) ∨ ∃ i : Nat, indexByte s 32 = i ∧ i < s.length ∧ s = s.take i ++ 32 :: s.drop (i + 1) ∧ ∀ c ∈ s.take i, c ≠ 32
  | [] => .inl ⟨rfl, by simp⟩
  | b :: s => by
    by_cases hb : b = 32
    · subst hb
      exact .inr ⟨0, by simp [indexByte], by simp, by simp, by simp⟩
    · have hb' : (b == 32) = false := by simpa using hb
      rcases index_sp s with ⟨h1, h2⟩ | ⟨i, h1, h2, h3, h4⟩
      · refine .inl ⟨by simp [indexByte, hb', h1], ?_⟩
        intro c hc
        rcases List.mem_cons.1 hc with rfl | hc
        · exact hb
        · exact h2 c hc
      · refine .inr ⟨i + 1, ?_, by simp; omega, ?_, ?_⟩
        · have : ¬ ((i : Int) = -1) := by omega
          simp [indexByte, hb', h1, this]
        · simp only [List.take_succ_cons, List.drop_succ_cons, List.cons_append]
          rw [← h3]
        · intro c hc
          simp only [List.take_succ_cons] at hc
          rcases List.mem_cons.1 hc with rfl | hc
          · exact hb
          · exact h4 c hc
abbrev sp : ByteArray := ⟨#[32]⟩
theorem indexB_sp (s : ByteArray) : indexB s sp = indexByte s.data.toList 32 := by
  have := one s sp rfl
  have e : sp[0] = 32 := rfl
  simpa [e] using this
theorem split_words : ∀ (n : Nat) (s : ByteArray), s.size ≤ n → splitB sp 0 (countB s sp) s = (words s.data.toList).map bs
  | n, s, hn => by
    rcases index_sp s.data.toList with ⟨h1, h2⟩ | ⟨i, h1, h2, h3, h4⟩
    · rw [splitB_miss _ _ _ _ (by rw [indexB_sp, h1]), words_no h2]
      simp [bs_data]
    · have hi : indexB s sp = i := by rw [indexB_sp, h1]
      rw [countB_hit s sp i (by decide) hi, Nat.add_comm, splitB_hit _ _ _ _ i hi]
      have hsz : s.size = s.data.toList.length := rfl
      have hd : (s.extract (i + sp.size) s.size).data.toList = s.data.toList.drop (i + 1) := by
        have e : sp.size = 1 := rfl
        rw [e, ByteArray.data_extract, Array.toList_extract, List.extract_eq_take_drop, List.take_of_length_le]
        rw [List.length_drop, hsz]
        omega
      have ht : s.extract 0 (i + 0) = bs (s.data.toList.take i) := by
        rw [← bs_data (s.extract 0 (i + 0))]
        rw [ByteArray.data_extract, Array.toList_extract, List.extract_eq_take_drop]
        simp
      cases n with
      | zero => omega
      | succ n =>
        rw [split_words n _ (by have : (s.extract (i + sp.size) s.size).size = s.size - (i + 1) := by { rw [ByteArray.size_extract]; show min s.size s.size - (i + 1) = _; omega }; omega), hd, ht]
        conv => rhs; rw [h3, words_sp, words_no h4]
        rfl
/-! ### names -/
def okc (c : UInt8) : Prop := (97 ≤ c.toNat ∧ c.toNat ≤ 122) ∨ (48 ≤ c.toNat ∧ c.toNat ≤ 57) ∨ c.toNat = 46 ∨ c.toNat = 45
instance (c : UInt8) : Decidable (okc c) := by unfold okc; infer_instance
def nameOk (s : B) : Prop := 1 ≤ s.length ∧ s.length ≤ 16 ∧ ∀ c ∈ s, okc c
instance (s : B) : Decidable (nameOk s) := by unfold nameOk; infer_instance
def states : List B := [[97, 99, 116, 105, 118, 101], [100, 114, 97, 105, 110, 105, 110, 103], [113, 117, 97, 114, 97, 110, 116, 105, 110, 101, 100], [114, 101, 116, 105, 114, 101, 100]]
def verbsL : List B := [[100, 114, 97, 105, 110], [117, 110, 100, 114, 97, 105, 110], [102, 111, 114, 99, 101], [101, 106, 101, 99, 116], [115, 116, 97, 116, 117, 115], [116, 105, 99, 107]]
def sname (n : Int) : B := if n < 0 ∨ 4 ≤ n then [] else states.getD n.toNat []
def word (n : Int) : B := if sname n = [] then [63] else sname n
def rowT (name : B) (s a b c : Int) : B := name ++ 32 :: (word s ++ 32 :: (itoa a ++ 32 :: (itoa b ++ 32 :: itoa c)))
def isState (b : B) : Prop := b = [63] ∨ b ∈ states
instance (b : B) : Decidable (isState b) := by unfold isState; infer_instance
theorem row_join (name : B) (s a b c : Int) : join [name, word s, itoa a, itoa b, itoa c] [32] = rowT name s a b c := by
  simp [join, List.intercalate, List.intersperse, rowT]
theorem sname_len (n : Int) : (sname n).length ≤ 11 := by
  unfold sname
  split
  · simp
  · rename_i h
    obtain rfl | rfl | rfl | rfl : n = 0 ∨ n = 1 ∨ n = 2 ∨ n = 3 := by omega
    all_goals decide
theorem word_len (n : Int) : (word n).length ≤ 11 := by
  unfold word
  split
  · simp
  · exact sname_len n
theorem row_len (name : B) (s a b c : Int) (hn : name.length ≤ 1000) (ha : -9223372036854775808 ≤ a ∧ a ≤ 9223372036854775807) (hb : -9223372036854775808 ≤ b ∧ b ≤ 9223372036854775807) (hc : -9223372036854775808 ≤ c ∧ c ≤ 9223372036854775807) : (rowT name s a b c).length ≤ 2000 := by
  have h1 := word_len s
  have h2 := itoa_length_le a ha.1 ha.2
  have h3 := itoa_length_le b hb.1 hb.2
  have h4 := itoa_length_le c hc.1 hc.2
  simp only [rowT, List.length_append, List.length_cons]
  omega
/-! ### numbers -/
theorem digit_piece (m : Int) (h0 : 0 ≤ m) (h1 : m < 10) : (ByteArray.mk #[48, 49, 50, 51, 52, 53, 54, 55, 56, 57]).extract m.toNat (m + 1).toNat = bs [UInt8.ofNat (48 + m.toNat)] := by
  obtain rfl | rfl | rfl | rfl | rfl | rfl | rfl | rfl | rfl | rfl : m = 0 ∨ m = 1 ∨ m = 2 ∨ m = 3 ∨ m = 4 ∨ m = 5 ∨ m = 6 ∨ m = 7 ∨ m = 8 ∨ m = 9 := by omega
  all_goals rfl
theorem itoa_small (n : Int) (h0 : 0 ≤ n) (h1 : n < 10) : itoa n = [UInt8.ofNat (48 + n.toNat)] := by
  unfold itoa
  rw [if_neg (by omega), decDigits_one (by omega)]
theorem itoa_step (n : Int) (h0 : 10 ≤ n) : itoa n = itoa (n / 10) ++ [UInt8.ofNat (48 + (n % 10).toNat)] := by
  unfold itoa
  rw [if_neg (by omega), if_neg (by omega), decDigits, dif_neg (by omega)]
  have e1 : n.toNat / 10 = (n / 10).toNat := by omega
  have e2 : n.toNat % 10 = (n % 10).toNat := by omega
  rw [e1, e2]
theorem itoa_minus (n : Int) (h : n < 0) : itoa n = 45 :: itoa (-n) := by
  unfold itoa
  rw [if_pos h, if_neg (by omega)]
  have : n.natAbs = (-n).toNat := by omega
  rw [this]
def numP (s : B) (n : Int) : Prop := itoa n = s ∧ (trimPrefix s [45]).length ≤ 9
open Classical in
noncomputable def num (s : B) : Option Int := if h : ∃ n, numP s n then some (Classical.choose h) else none
end A
end Go.Proofs.YtljjplndcbekfaaDoor
