/- How the admin layer's texts and tables lie in memory; the library's contracts in this form. Its conditions: none. -/
import Derived.Test.YtljjplndcbekfaaDoorFacts
import Derived.Test.YtljjplndcbekfaaDoorAdmModel
import Derived.Test.YtljjplndcbekfaaDoorShelf
namespace Go.Proofs.YtljjplndcbekfaaDoor
open SL A Go.RowKit
set_option maxRecDepth 100000
abbrev pt (b : Nat) : Value := .pointer (some ⟨b, 0, none⟩)
abbrev eI := encInt 3
theorem eI_ok : EncOk Tryd.prog eI := EncOk.of (by kernel_rfl)
abbrev eS := encStr 9
theorem eS_ok : EncOk Tryd.prog eS := EncOk.of (by kernel_rfl)
/-- the library's variables, as they lie in the world W -/
def Gok (W : World) : Prop := (∃ m T z, W.heap[0]? = some (.cells #[.int .i64 m] T z)) ∧ (∃ T z, W.heap[1]? = some (.cells (Lib.pow10Tab.map fun q => Value.int .u64 q).toArray T z)) ∧ (∃ ev T z, W.heap[2]? = some (.cells #[ev] T z) ∧ (ev = .nilIface ∨ ∃ te pe, ev = .iface te pe)) ∧ (∃ ev T z, W.heap[3]? = some (.cells #[ev] T z) ∧ (ev = .nilIface ∨ ∃ te pe, ev = .iface te pe))
def G (W : World) : HP := fun h => Gok W ∧ ∀ b, b < 4 → ∀ o, W.heap[b]? = some o → h (b + 1) = some (.obj o)
theorem G_sat {gh w : World} {H : List HP} (s : Sat w (G gh :: H)) : Gok w := by
  obtain ⟨S, T, d, ⟨⟨⟨m, t, z, h0⟩, ⟨t1, z1, h1⟩, ⟨e2, t2, z2, h2, h2'⟩, ⟨e3, t3, z3, h3, h3'⟩⟩, hb⟩, _⟩ := s
  have key : ∀ b, b < 4 → ∀ o, gh.heap[b]? = some o → w.heap[b]? = some o := fun b hlt o e => ph_at.1 (on_some (hb b hlt o e)).2
  exact ⟨⟨m, t, z, key 0 (by decide) _ h0⟩, ⟨t1, z1, key 1 (by decide) _ h1⟩, ⟨e2, t2, z2, key 2 (by decide) _ h2, h2'⟩, ⟨e3, t3, z3, key 3 (by decide) _ h3, h3'⟩⟩
theorem cell_one {w : World} {b : Nat} {v : Value} {T : TypeId} {z : Nat × Nat} (h : w.heap[b]? = some (.cells #[v] T z)) : w.cell? ⟨b, 0, none⟩ = some v := by
  simp [World.cell?, h]
theorem G_tab {w : World} (h : Gok w) : Lib.TabIs Tryd.prog w "internal/strconv.uint64pow10" .u64 Lib.pow10Tab := by
  obtain ⟨_, ⟨t, z, h'⟩, _⟩ := h
  unfold Lib.TabIs World.var?
  rw [show Tryd.prog.globalNamed "internal/strconv.uint64pow10" = some 1 by kernel_rfl]
  simp [h']
def rowS (xs : List B) : List Value := xs.map fun x => .string (bs x)
theorem os_drewN (w : World) : ∀ k, (w.drewN k).os = w.os
  | 0 => rfl
  | k + 1 => os_drewN w.drew k
theorem out_drewN (w : World) : ∀ k, (w.drewN k).output = w.output
  | 0 => rfl
  | k + 1 => out_drewN w.drew k
theorem rowS_get (xs : List B) (i : Nat) (h : i < xs.length) : (rowS xs)[0 + i * 1]? = some (.string (bs (xs.getD i []))) := by
  rw [Nat.zero_add, Nat.mul_one]
  simp [rowS, h]
theorem Q_indexb {dfs : List Deferred} {n : Nat} {ρ : Env} {H : List HP} {d : Option Tmp} {t ty : TypeId} {pos : String} {af : Array Edge} {g : Option (Nat × Bool)} {x y : Operand} {s : B} {i : Nat} {c : UInt8} (hu : Tryd.prog.underlying t = some .string) (hc : s[i]? = some c) {k : IntKind} (hx : evl ρ x = some (.string (bs s)) := by rfl) (hy : evl ρ y = some (.int k (i : Nat)) := by rfl) : OpQ Tryd.prog dfs n ρ H ⟨d, .index t x y, ty, pos, af, g⟩ (.int .u8 (c.toNat : Nat)) := by
  have h := Q_indexs (P := Tryd.prog) (dfs := dfs) (n := n) (H := H) (d := d) (ty := ty) (pos := pos) (af := af) (g := g) hu hx hy (by omega) (by rw [bs_size]; have := (List.getElem?_eq_some_iff.1 hc).1; omega)
  rw [show (i : Int).toNat = i from rfl, bs_at hc] at h
  exact h
theorem k_itoa {gh : World} (n : Int) (h1 : -9223372036854775808 ≤ n) (h2 : n ≤ 9223372036854775807) : Ct Tryd.prog 16 #[.int .i64 n] (fun F => G gh :: F) (fun _ : Unit => True) (fun _ => .string (bs (Lib.itoa n))) (fun _ F => G gh :: F) :=
  Ct.keeps fun F w s => (Tryd.strconv_Itoa n h1 h2 w (G_tab (G_sat s))).mono fun e w' ⟨he, k, os, hw⟩ => ⟨(), trivial, he, by subst hw; exact ⟨os_drewN w k, out_drewN w k⟩, by
    subst hw
    exact keeps_append (os := os) (by rw [← heap_drewN w k]; rfl)⟩
theorem k_split {gh : World} (s : B) (ws : List B) (n : Nat) (hs : s.length < 4294967281) (hw : words s = ws) (hn : ws.length = n) : Ct Tryd.prog 19 #[.string (bs s), .string sp] (fun F => G gh :: F) (fun _ : Nat => True) (fun b => .slice (some ⟨b, 0, none⟩) n n) (fun b F => cl b (rowS ws) 9 :: G gh :: F) := by
  refine Ct.allocs fun F w sa => ?_
  obtain ⟨⟨m, T, z, h0⟩, _⟩ := G_sat sa
  have e1 : (Lib.splitB sp 0 (Lib.countB (bs s) sp) (bs s)) = ws.map bs := by rw [split_words _ _ (Nat.le_refl _), data_bs, hw]
  have e2 : Lib.countB (bs s) sp + 1 = n := by rw [← Lib.splitB_all sp (by decide) 0 _ (bs s) rfl, e1, List.length_map, hn]
  refine (Tryd.strings_Split (bs s) sp m w (by rw [bs_size]; exact hs) (cell_one h0) (by decide)).mono fun e w' ⟨he, hw'⟩ => ?_
  rw [e1] at hw'
  rw [e2] at he
  refine ⟨w.heap.size, _, trivial, he, hw', fun h hh => ?_⟩
  have e3 : List.map Value.string (List.map bs ws) = rowS ws := by simp [rowS, Function.comp_def]
  rw [e3] at hh
  exact hh
theorem k_join (b c : Nat) (xs : List B) (n : Nat) (hn : xs.length = n) (hc : n ≤ c) (hb : n ≤ 1000) (hl : (Lib.join xs [32]).length ≤ 140737488355328) : Ct Tryd.prog 15 #[.slice (some ⟨b, 0, none⟩) n c, .string sp] (fun F => cl b (rowS xs) 9 :: F) (fun _ : Unit => True) (fun _ => .string (bs (Lib.join xs [32]))) (fun _ F => cl b (rowS xs) 9 :: F) := by
  refine Ct.keeps fun F w s => ?_
  have hx : (xs.map bs).map (·.data.toList) = xs := by rw [List.map_map]; exact (List.map_congr_left (fun _ _ => rfl)).trans (List.map_id _)
  have h := Tryd.strings_Join b 0 c (xs.map bs) sp w (fun j x hj => by
    rw [Nat.zero_add, s.cell .head]
    simp only [rowS, List.getElem?_map] at hj ⊢
    cases hk : xs[j]? with
    | none => rw [hk] at hj; cases hj
    | some y => rw [hk] at hj; cases hj; rfl) (s.lt .head) (by simp; omega) (by simp; omega) (by rw [hx]; exact hl)
  rw [hx] at h
  simp only [List.length_map, hn] at h
  exact h.mono fun e w' ⟨he, hw⟩ => ⟨(), trivial, he, ⟨hw.os, hw.output⟩, keeps_below hw⟩
theorem k_index (b c : Nat) (xs : List B) (n : Nat) (x : B) (hn : xs.length = n) (hb : n ≤ 1000) : Ct Tryd.prog 29 #[.slice (some ⟨b, 0, none⟩) n c, .string (bs x)] (fun F => cl b (rowS xs) 9 :: F) (fun _ : Unit => True) (fun _ => .int .i64 (Lib.idxOfS (xs.map bs) (bs x))) (fun _ F => cl b (rowS xs) 9 :: F) := by
  refine Ct.keeps fun F w s => ?_
  have h := Tryd.slices_Index_string b 0 n c (xs.map bs) (bs x) w (by simp; omega) (by omega) (fun j hj => by
    rw [Nat.zero_add, s.cell .head]
    simp only [List.length_map] at hj
    simp [rowS, hj])
  rw [List.take_of_length_le (by simp; omega)] at h
  exact h.mono fun e w' ⟨he, hw⟩ => ⟨(), trivial, he, by subst hw; exact ⟨rfl, rfl⟩, fun _ _ h => hw ▸ h⟩
theorem k_trim (s p : B) : Ct Tryd.prog 42 #[.string (bs s), .string (bs p)] (fun F => F) (fun _ : Unit => True) (fun _ => .string (bs (Lib.trimPrefix s p))) (fun _ F => F) :=
  Ct.keeps fun _ w _ => (Tryd.strings_TrimPrefix (bs s) (bs p) w).mono fun _ _ ⟨he, hw⟩ => ⟨(), trivial, he, by subst hw; exact ⟨rfl, rfl⟩, fun _ _ h => hw ▸ h⟩
theorem k_atoi {gh : World} (s : B) (hs : s.length ≤ 281474976710656) : Ct Tryd.prog 41 #[.string (bs s)] (fun F => G gh :: F) (fun x : Int × Value => (x.2 = .nilIface ∧ Lib.atoiAll s = .ok x.1 ∧ -9223372036854775808 ≤ x.1 ∧ x.1 ≤ 9223372036854775807) ∨ ((∃ a b, x.2 = .iface a b) ∧ ∀ m, Lib.atoiAll s ≠ .ok m)) (fun x => .tuple #[.int .i64 x.1, x.2]) (fun _ F => G gh :: F) := by
  refine Ct.keeps fun F w sa => ?_
  obtain ⟨_, _, ⟨e2, t2, z2, h2, h2'⟩, ⟨e3, t3, z3, h3, h3'⟩⟩ := G_sat sa
  have hl : (bs s).size ≤ 281474976710656 := by rw [bs_size]; exact hs
  rcases hk : Lib.atoiAll s with v | _ | _
  · skip
    have hb := Lib.atoiAll_bounds hk
    refine (Tryd.strconv_Atoi_ok (bs s) (by omega) v hk w).mono fun e w' ⟨he, hw⟩ => ⟨(v, .nilIface), .inl ⟨rfl, rfl, hb.1, hb.2⟩, he, ?_⟩
    rcases hw with rfl | ⟨t, rfl⟩
    · exact ⟨⟨rfl, rfl⟩, fun _ _ h => h⟩
    · exact ⟨⟨rfl, rfl⟩, keeps_bytes⟩
  · exact (Tryd.strconv_Atoi_syntax (bs s) hl hk e2 w (cell_one h2) h2').mono fun e w' ⟨N, he, _, _, hw⟩ => ⟨(0, .iface 95 (.pointer (some ⟨N, 0, none⟩))), .inr ⟨⟨_, _, rfl⟩, fun m h => by cases h⟩, he, ⟨hw.os, hw.output⟩, keeps_below hw⟩
  · exact (Tryd.strconv_Atoi_range (bs s) hl hk e3 w (cell_one h3) h3').mono fun e w' ⟨N, he, _, _, hw⟩ => ⟨(_, .iface 95 (.pointer (some ⟨N, 0, none⟩))), .inr ⟨⟨_, _, rfl⟩, fun m h => by cases h⟩, he, ⟨hw.os, hw.output⟩, keeps_below hw⟩
end Go.Proofs.YtljjplndcbekfaaDoor
