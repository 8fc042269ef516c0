/- The rules of the small separation logic, continued: contracts of the library's, taken over; tests on Booleans and interfaces; pieces of rows. Its conditions: none. -/
import Derived.Test.YtljjplndcbekfaaDoorRules4
import Derived.Below
import Derived.Lib.LaidTab
import Derived.Sort.Grow
import Derived.Lib.ConvBytes
import Derived.Laws.Runes
import Derived.Stop.IfaceNil
namespace Go.Proofs.YtljjplndcbekfaaDoor
namespace SL
open Go.RowKit
variable {P : Program} {Q : Exit → Act → World → Prop} {dfs : List Deferred} {n : Nat} {ρ : Env} {H : List HP} {K : Act → World → Prop}
variable {H₁ : List HP} {d : Option Tmp} {ty t u : TypeId} {pos : String} {af : Array Edge} {g : Option (Nat × Bool)} {x y z : Operand}
section
variable {f : FuncId} {args : Array Value} {pre : List HP → List HP} {α : Type} {φ : α → Prop} {v : α → Value} {l : α → List HP → List HP}
/-- a contract of the library's: what lay, lies -/
theorem Ct.keeps (h : ∀ F w, Sat w (pre F) → Calls P f args w fun e w' => ∃ x, φ x ∧ e = .returned (v x) ∧ (w'.os = w.os ∧ w'.output = w.output) ∧ ∀ (b : Nat) (o : Obj), w.heap[b]? = some o → w'.heap[b]? = some o) : Ct P f args pre φ v (fun _ F => pre F) :=
  fun F w K s hp => (h F w s).mono fun e w' ⟨x, hx, he, hio, hk⟩ => by subst he; exact hp x hx w' (s.of_heap hk hio)
/-- a contract of the library's: one new block -/
theorem Ct.allocs {mk : α → HP} (h : ∀ F w, Sat w (pre F) → Calls P f args w fun e w' => ∃ x o, φ x ∧ e = .returned (v x) ∧ w' = w.alloc o ∧ ∀ h, ob w.heap.size o h → mk x h) : Ct P f args pre φ v (fun x F => mk x :: pre F) :=
  fun F w K s hp => (h F w s).mono fun e w' ⟨x, o, hx, he, hk, hm⟩ => by
    subst he; subst hk
    refine hp x hx _ ?_
    exact star_mono (s.alloc o) (fun _ a => hm _ a) (fun _ a => a)
theorem keeps_below {w w' : World} (h : Below w.heap.size w w') (b : Nat) (o : Obj) (e : w.heap[b]? = some o) : w'.heap[b]? = some o := by
  rw [h.block b (Array.getElem?_eq_some_iff.1 e).1]; exact e
theorem keeps_push {w w' : World} {o' : Obj} (h : w'.heap = w.heap.push o') (b : Nat) (o : Obj) (e : w.heap[b]? = some o) : w'.heap[b]? = some o := by
  rw [h, Array.getElem?_push, if_neg]; exact e
  have := (Array.getElem?_eq_some_iff.1 e).1
  omega
theorem keeps_append {w w' : World} {os : Array Obj} (h : w'.heap = w.heap ++ os) (b : Nat) (o : Obj) (e : w.heap[b]? = some o) : w'.heap[b]? = some o := by
  have := (Array.getElem?_eq_some_iff.1 e).1
  rw [h, Array.getElem?_append_left this]; exact e
theorem keeps_bytes {w : World} {e' : TypeId} {t : ByteArray} (b : Nat) (o : Obj) (e : w.heap[b]? = some o) : (Lib.bytesWorld w e' t).heap[b]? = some o := by
  rw [Lib.bytesWorld_at_old _ _ _ _ (Array.getElem?_eq_some_iff.1 e).1]; exact e
end
theorem heap_drewN (w : World) : ∀ k, (w.drewN k).heap = w.heap
  | 0 => rfl
  | k + 1 => heap_drewN w.drew k
/-- a variable of the library's holds a table -/
theorem Sat.tab {w : World} {b : Nat} {vs : List Value} {T : Nat} {z : Nat × Nat} {k : IntKind} {zs : List Int} {l : List HP} {name : String} (s : Sat w l) (hT : Take (ob b (.cells vs.toArray T z)) l H) (hn : P.globalNamed name = some b) (hv : vs = zs.map fun q => Value.int k q) : Lib.TabIs P w name k zs := by
  unfold Lib.TabIs World.var?
  rw [hn]
  simp [s.heap hT, hv]
/-! ### Booleans, interfaces -/
theorem Q_eqb {a b : Bool} (hu : P.underlying t = some .bool) (hx : evl ρ x = some (.bool a) := by rfl) (hy : evl ρ y = some (.bool b) := by rfl) : OpQ P dfs n ρ H ⟨d, .binOp .eql t x y u, ty, pos, af, g⟩ (.bool (decide (a = b))) := fun A w h _ => by
  have := run_eql_bool (w := w) t a b hu
  simp only [execOp, h.eval hx, h.eval hy, eqGuard]
  cases a <;> cases b <;> simp_all
theorem Q_neb {a b : Bool} (hu : P.underlying t = some .bool) (hx : evl ρ x = some (.bool a) := by rfl) (hy : evl ρ y = some (.bool b) := by rfl) : OpQ P dfs n ρ H ⟨d, .binOp .neq t x y u, ty, pos, af, g⟩ (.bool (decide (a ≠ b))) := fun A w h _ => by
  have := run_neq_bool (w := w) t a b hu
  simp only [execOp, h.eval hx, h.eval hy, eqGuard]
  cases a <;> cases b <;> simp_all
def isNilI : Value → Bool
  | .nilIface => true
  | _ => false
theorem Q_eqin {v : Value} (hi : P.isIface t = true) (hx : evl ρ x = some v := by rfl) (hv : v = .nilIface ∨ ∃ a b, v = .iface a b := by first | exact .inl rfl | exact .inr ⟨_, _, rfl⟩ | assumption) : OpQ P dfs n ρ H ⟨d, .binOp .eql t x (.const .nilIface) u, ty, pos, af, g⟩ (.bool (isNilI v)) := fun A w h _ => by
  have e1 := run_eql_nil_nil_at (w := w) t hi
  have e2 := fun a b => run_eql_iface_nil (w := w) t hi a b
  have hy : A.eval (.const .nilIface) = .nilIface := rfl
  simp only [execOp, h.eval hx, hy, eqGuard]
  rcases hv with rfl | ⟨a, b, rfl⟩
  · simp [e1, isNilI]
  · simp [e2 a b, isNilI]
theorem Q_nein {v : Value} (hi : P.isIface t = true) (hx : evl ρ x = some v := by rfl) (hv : v = .nilIface ∨ ∃ a b, v = .iface a b := by first | exact .inl rfl | exact .inr ⟨_, _, rfl⟩ | assumption) : OpQ P dfs n ρ H ⟨d, .binOp .neq t x (.const .nilIface) u, ty, pos, af, g⟩ (.bool (!isNilI v)) := fun A w h _ => by
  have e1 := run_neq_nil_nil_at (w := w) t hi
  have e2 := fun a b => run_neq_iface_nil (w := w) t hi a b
  have hy : A.eval (.const .nilIface) = .nilIface := rfl
  simp only [execOp, h.eval hx, hy, eqGuard]
  rcases hv with rfl | ⟨a, b, rfl⟩
  · simp [e1, isNilI]
  · simp [e2 a b, isNilI]
/-! ### arrays in memory, pieces of rows -/
theorem Q_indexa {b o m : Nat} {i : Int} {e sz : Nat} {k : IntKind} (hu : P.underlying t = some (.array m e)) (hs : (P.info? e).map (·.size) = some sz) (hx : evl ρ x = some (.pointer (some ⟨b, o, none⟩)) := by rfl) (hy : evl ρ y = some (.int k i) := by rfl) (h0 : 0 ≤ i := by omega) (h1 : i < m := by omega) :
    OpQ P dfs n ρ H ⟨d, .indexAddr t x y, ty, pos, af, g⟩ (.pointer (some ⟨b, o + i.toNat * sz, none⟩)) := fun A w h _ => by
  obtain ⟨inf, hinf, hz1⟩ := Option.map_eq_some_iff.1 hs
  have ha : Addr.add ⟨b, o, none⟩ (i.toNat * sz) = ⟨b, o + i.toNat * sz, none⟩ := by unfold Addr.add; split <;> simp_all
  have hc : 0 ≤ i ∧ i < (m : Int) := ⟨h0, h1⟩
  simp [execOp, h.eval hx, h.eval hy, Instr.indexAt, asIntOf, underlying, hu, sizeOf, typeInfo, hinf, hz1, hc, ha, Instr.sureAddr]
/-- a piece of a row: from lo on -/
theorem Q_slicec {b o l c : Nat} {lo : Int} {e sz : Nat} (hu : P.underlying t = some (.slice e)) (hs : (P.info? e).map (·.size) = some sz) (hx : evl ρ x = some (.slice (some ⟨b, o, none⟩) l c) := by rfl) (hy : evl ρ y = some (.int .i64 lo) := by rfl) (h0 : 0 ≤ lo := by omega) (h1 : lo ≤ l := by omega) (h3 : 0 < c - lo.toNat := by decide) :
    OpQ P dfs n ρ H ⟨d, .slice t x (some y) none none, ty, pos, af, g⟩ (.slice (some ⟨b, o + lo.toNat * sz, none⟩) (l - lo.toNat) (c - lo.toNat)) := fun A w h _ => by
  obtain ⟨inf, hinf, hz1⟩ := Option.map_eq_some_iff.1 hs
  have ha : Addr.add ⟨b, o, none⟩ (lo.toNat * sz) = ⟨b, o + lo.toNat * sz, none⟩ := by unfold Addr.add; split <;> simp_all
  have h4 : c - lo.toNat ≠ 0 := by omega
  simp [execOp, h.eval hx, h.eval hy, Instr.sliceAt, Instr.slice, Instr.sliceBounds, Instr.sliceBound, asIntOf, underlying, hu, h0, h1, sizeOf, typeInfo, hinf, hz1, ha]
  intro h; omega
/-- append of what a new row holds; what the row is comes last -/
theorem L_append' {α : Type} {en : Enc α} {a : Option Addr} {c : Nat} {l : List α} {d b n₂ c₂ : Nat} {l₂ : List α} {vs : List Value} {H₁ H₂ : List HP} (ok : EncOk P en) (hu : P.underlying t = some (.slice en.E))
    (k : ∀ a' c', St dfs n ((d, .slice a' (l ++ l₂).length c') :: ρ) (SlT en a' c' (l ++ l₂) :: H₂) K) (hx : evl ρ x = some (.slice a l.length c) := by rfl) (hy : evl ρ y = some (.slice (some ⟨b, 0, none⟩) n₂ c₂) := by rfl)
    (hT : Take (SlT en a c l) H H₁ := by repeat (first | with_reducible exact Take.head | apply Take.tail)) (hT₂ : Take (cl b vs en.E) H₁ H₂ := by repeat (first | with_reducible exact Take.head | apply Take.tail)) (hvs : vs = row en l₂ := by rfl) (hn : n₂ = l₂.length := by rfl) (hB : (l.length + l₂.length) * en.bytes ≤ 140737488355328 := by simp only [List.length_cons, List.length_nil]; omega) (hd : d < n := by decide) :
    OpL P Q dfs n ρ H ⟨some d, .call ⟨.builtin .append, #[x, y], #[t, t]⟩, ty, pos, af, g⟩ K := L_append ok hu hvs hB k hx hy hn hT hT₂ hd
/-! ### slices that read as lists: what lies at a place comes last -/
section
variable {α : Type} {e : Enc α} {a : Option Addr} {c : Nat} {l : List α}
theorem Q_ldT' {i : Nat} {y₀ : α} {v : Value} {H₁ : List HP} {sz : Nat} (hp : Plain P t) (hx : evl ρ x = some (ea a (i * sz)) := by rfl) (hH : Take (SlT e a c l) H H₁ := by repeat (first | with_reducible exact Take.head | apply Take.tail)) (hsz : sz = e.k := by rfl) (hi : l[i]? = some y₀ := by first | assumption | rfl | exact List.getElem?_eq_getElem (by omega)) (hv : (e.enc y₀)[0]? = some v := by rfl) :
    OpQ P dfs n ρ H ⟨d, .load t x, ty, pos, af, g⟩ v := Q_ldT hp hi hsz hH hx hv
theorem Q_ldTf' {i f : Nat} {y₀ : α} {v : Value} {H₁ : List HP} {sz : Nat} (hp : Plain P t) (hx : evl ρ x = some (ea a (i * sz + f)) := by rfl) (hH : Take (SlT e a c l) H H₁ := by repeat (first | with_reducible exact Take.head | apply Take.tail)) (hsz : sz = e.k := by rfl) (hi : l[i]? = some y₀ := by first | assumption | rfl | exact List.getElem?_eq_getElem (by omega)) (hv : (e.enc y₀)[f]? = some v := by rfl) :
    OpQ P dfs n ρ H ⟨d, .load t x, ty, pos, af, g⟩ v := Q_ldTf hp hi hsz hH hx hv
theorem Q_ldTa' {i : Nat} {y₀ : α} {H₁ : List HP} {sz : Nat} (hp : Agg P t sz) (hx : evl ρ x = some (ea a (i * sz)) := by rfl) (hH : Take (SlT e a c l) H H₁ := by repeat (first | with_reducible exact Take.head | apply Take.tail)) (hsz : sz = e.k := by rfl) (hi : l[i]? = some y₀ := by first | assumption | rfl | exact List.getElem?_eq_getElem (by omega)) :
    OpQ P dfs n ρ H ⟨d, .load t x, ty, pos, af, g⟩ (.agg (e.enc y₀).toArray) := Q_ldTa hp hi hsz hH hx
theorem Q_idxT' {i : Int} {cc : Nat} {H₁ : List HP} {sz : Nat} (hu : P.underlying t = some (.slice e.E)) (hs : (P.info? e.E).map (·.size) = some sz) (hx : evl ρ x = some (.slice a l.length cc) := by rfl) {kk : IntKind} (hy : evl ρ y = some (.int kk i) := by rfl) (hH : Take (SlT e a c l) H H₁ := by repeat (first | with_reducible exact Take.head | apply Take.tail)) (h0 : 0 ≤ i := by omega) (h1 : i < l.length := by omega) :
    OpQ P dfs n ρ H ⟨d, .indexAddr t x y, ty, pos, af, g⟩ (ea a (i.toNat * sz)) := Q_idxT hu hs hH hx hy h0 h1
theorem Q_faT' {i f k j : Nat} {fs : Array Field} {fd : Field} {y₀ : α} {H₁ : List HP} (hu : P.underlying t = some (.struct fs)) (hf : fs[f]? = some fd) (hk : fd.offset = k) (hs : (P.info? fd.type).map (·.size) = some (j + 1)) {m : Nat} (hx : evl ρ x = some (ea a m) := by rfl) (hH : Take (SlT e a c l) H H₁ := by repeat (first | with_reducible exact Take.head | apply Take.tail)) (hi : l[i]? = some y₀ := by first | assumption | rfl | exact List.getElem?_eq_getElem (by omega)) :
    OpQ P dfs n ρ H ⟨d, .fieldAddr t x f, ty, pos, af, g⟩ (ea a (m + k)) := Q_faT hu hf hk hs hi hH hx
end
/-! ### range over a string -/
theorem L_range {d : Nat} {s : ByteArray} (hu : P.underlying t = some .string) (k : ∀ b, St dfs n ((d, .pointer (some ⟨b, 0, none⟩)) :: ρ) (ob b (.stringIter s 0) :: H) K) (hx : evl ρ x = some (.string s) := by rfl) (hd : d < n := by decide) :
    OpL P Q dfs n ρ H ⟨some d, .range t x, ty, pos, af, g⟩ K := OpL.run (fun A w h s => by
  refine ⟨.pointer (some ⟨w.heap.size, 0, none⟩), _, _, ?_, s.alloc (.stringIter _ 0), k w.heap.size⟩
  simp [execOp, h.eval hx, Instr.range, underlying, hu]) hd
theorem L_next {d b pos' : Nat} {s : ByteArray} (k : St dfs n ((d, .tuple #[.bool true, .int .i64 pos', .int .i32 (Utf8.decode s pos').1]) :: ρ) (ob b (.stringIter s (pos' + (Utf8.decode s pos').2)) :: H₁) K) (hlt : pos' < s.size) (hT : Take (ob b (.stringIter s pos')) H H₁ := by repeat (first | with_reducible exact Take.head | apply Take.tail)) (hx : evl ρ x = some (.pointer (some ⟨b, 0, none⟩)) := by rfl) (hd : d < n := by decide) :
    OpL P Q dfs n ρ H ⟨some d, .next x true, ty, pos, af, g⟩ K := OpL.run (fun A w h s => by
  have s1 := s.perm hT.perm
  have hb := s1.heap .head
  refine ⟨_, _, _, ?_, s1.set Upd.head, k⟩
  simp [execOp, h.eval hx, Instr.next, getObj, setObj, Sem.run, hb, hlt, goInt]) hd
theorem L_next0 {d b pos' : Nat} {s : ByteArray} (k : St dfs n ((d, .tuple #[.bool false]) :: ρ) (ob b (.stringIter s pos') :: H₁) K) (hlt : ¬ pos' < s.size) (hT : Take (ob b (.stringIter s pos')) H H₁ := by repeat (first | with_reducible exact Take.head | apply Take.tail)) (hx : evl ρ x = some (.pointer (some ⟨b, 0, none⟩)) := by rfl) (hd : d < n := by decide) :
    OpL P Q dfs n ρ H ⟨some d, .next x true, ty, pos, af, g⟩ K := OpL.run (fun A w h s => by
  have s1 := s.perm hT.perm
  have hb := s1.heap .head
  refine ⟨_, _, _, ?_, s1, k⟩
  simp [execOp, h.eval hx, Instr.next, getObj, Sem.run, hb, hlt]) hd
theorem Q_negn {a : Int} (hx : evl ρ x = some (.int .i64 a) := by rfl) (h1 : -9223372036854775807 ≤ a := by omega) (h2 : a ≤ 9223372036854775808 := by omega) : OpQ P dfs n ρ H ⟨d, .unOp .neg t x, ty, pos, af, g⟩ (.int .i64 (-a)) := by
  have := Q_neg (P := P) (dfs := dfs) (n := n) (H := H) (d := d) (t := t) (ty := ty) (pos := pos) (af := af) (g := g) hx
  rw [wrap_in (by omega) (by omega), Int.zero_sub] at this
  exact this
/-! ### a guard that did not run itself -/
theorem yielded_un {ops : Array Oper} {j t : Nat} {a : Act} (A : Agree dfs n ρ a) (hj : (ops[j]?).bind (·.dst) = some t) (hv : ρ.get t = some undef) : yielded ops a.tmps j = none := by
  have h := A.get t _ hv
  unfold yielded
  rw [hj]
  simp only [Option.bind_some]
  by_cases ht : t < a.tmps.size
  · rw [Array.getD_eq_getD_getElem?, Array.getElem?_eq_getElem ht] at h
    rw [Array.getElem?_eq_getElem ht]
    simp only [Option.getD_some] at h
    rw [h]
    rfl
  · rw [Array.getElem?_eq_none (by omega)]
theorem r_nu {ops : Array Oper} {rest : List Oper} {d : Nat} {op : Op} {ty : TypeId} {pos : String} {af : Array Edge} {j t : Nat} {b : Bool}
    (k : St dfs n ((d, undef) :: ρ) H (wpList P ops Q rest)) (hj : (ops[j]?).bind (·.dst) = some t := by rfl) (hv : ρ.get t = some undef := by rfl) (hd : d < n := by decide) :
    St dfs n ρ H (wpList P ops Q (⟨some d, op, ty, pos, af, some (j, b)⟩ :: rest)) := fun a w A s => by
  unfold wpList
  rw [if_neg (by simp [Region.wanted, yielded_un A hj hv])]
  exact k _ _ (A.put hd undef) s
theorem d_qu {ops : Array Oper} {L : List HP} {m fuel : Nat} {listed : Array Bool} {d : Nat} {op : Op} {ty : TypeId} {pos : String} {af : Array Edge} {j t : Nat} {b : Bool} (i : Nat)
    (hi : ops[i]? = some ⟨some d, op, ty, pos, af, some (j, b)⟩) (hL : ∀ w, Sat w H → Sat w L) (hQ : PanicOk (some d) Q)
    (hb : (Region.noSelect ops && Region.free .any ops listed i && (Region.ready .any ops listed).contains i && waits ops m i && !(i == m) && !(listed.getD m false)) = true)
    (k : St dfs n ((d, undef) :: ρ) H (wpG P ops Q (SL_ L m) fuel (listed.setIfInBounds i true))) (hj : (ops[j]?).bind (·.dst) = some t := by rfl) (hv : ρ.get t = some undef := by rfl) (hd : d < n := by decide) :
    St dfs n ρ H (wpG P ops Q (SL_ L m) (fuel + 1) listed) := fun a w A s => by
  simp only [Bool.and_eq_true, Bool.not_eq_true', beq_eq_false_iff_ne] at hb
  obtain ⟨⟨⟨⟨⟨hs, hf⟩, hr⟩, hw⟩, him⟩, hm⟩ := hb
  exact wpG_first hi (Region.noSelect_spec hs) hQ hw him fuel listed a w (Region.free_spec hi hf) (by simpa using hr) (.inr ⟨by simp [Region.wanted, yielded_un A hj hv], rfl⟩) (hL w s) hm (k _ _ (A.put hd undef) s)
section
variable {ops : Array Oper} {L : List HP} {m fuel : Nat} {listed : Array Bool}
/-- the one operation that may come up, guarded: the guard says yes; no -/
theorem d_ly {d : Option Tmp} {op : Op} {ty : TypeId} {pos : String} {af : Array Edge} {j t : Nat} {b : Bool} (i : Nat) (hr : Region.ready .any ops listed = [i]) (hi : ops[i]? = some ⟨d, op, ty, pos, af, some (j, b)⟩)
    (k : OpL P Q dfs n ρ H ⟨d, op, ty, pos, af, some (j, b)⟩ (fun a w => SL_ L m (listed.setIfInBounds i true) w ∧ wpG P ops Q (SL_ L m) fuel (listed.setIfInBounds i true) a w)) (hj : (ops[j]?).bind (·.dst) = some t := by rfl) (hv : ρ.get t = some (.bool b) := by rfl) :
    St dfs n ρ H (wpG P ops Q (SL_ L m) (fuel + 1) listed) := d_all hr (by simp) (fun q hq => by
    simp only [List.mem_singleton] at hq
    subst hq
    intro a w A s
    unfold wpOp
    rw [hi]
    simp only
    rw [if_pos (by simp [Region.wanted, yielded_of A hj hv])]
    exact k a w A s)
theorem d_ln {d : Nat} {op : Op} {ty : TypeId} {pos : String} {af : Array Edge} {j t : Nat} {b : Bool} {v : Value} (i : Nat) (hr : Region.ready .any ops listed = [i]) (hi : ops[i]? = some ⟨some d, op, ty, pos, af, some (j, b)⟩)
    (k : St dfs n ((d, undef) :: ρ) H (fun a w => SL_ L m (listed.setIfInBounds i true) w ∧ wpG P ops Q (SL_ L m) fuel (listed.setIfInBounds i true) a w)) (hj : (ops[j]?).bind (·.dst) = some t := by rfl) (hv : ρ.get t = some v := by rfl) (hne : v = .bool (!b) ∨ v = undef := by first | exact .inl rfl | exact .inr rfl) (hd : d < n := by decide) :
    St dfs n ρ H (wpG P ops Q (SL_ L m) (fuel + 1) listed) := d_all hr (by simp) (fun q hq => by
    simp only [List.mem_singleton] at hq
    subst hq
    intro a w A s
    unfold wpOp
    rw [hi]
    simp only
    rw [if_neg (by
      rcases hne with rfl | rfl
      · cases b <;> simp [Region.wanted, yielded_of A hj hv]
      · simp [Region.wanted, yielded_un A hj hv])]
    exact k _ _ (A.put hd undef) s)
end
theorem c_ndec {c : Operand} {x y : Code} {p : Prop} [Decidable p] (hc : evl ρ c = some (.bool (!decide p))) (h : ¬ p → St dfs n ρ H (x.wp P Q)) (h' : p → St dfs n ρ H (y.wp P Q)) : St dfs n ρ H ((Code.cond c x y).wp P Q) :=
  c_cond hc (fun e => h (by simpa using e)) (fun e => h' (by simpa using e))
theorem b_ndec {t : Nat} {p : Prop} [Decidable p] (hv : ρ.get t = some (.bool (!decide p))) (h : ¬ p → St dfs n ((t, .bool true) :: ρ) H K) (h' : p → St dfs n ((t, .bool false) :: ρ) H K) : St dfs n ρ H K :=
  b_bool hv (fun e => h (by simpa using e)) (fun e => h' (by simpa using e))
theorem Q_convrs {k : IntKind} {r : Int} (hs : (P.underlying t).isSome = true) (hd : P.underlying u = some .string) (hx : evl ρ x = some (.int k r) := by rfl) : OpQ P dfs n ρ H ⟨d, .convert t u x, ty, pos, af, g⟩ (.string (Utf8.encode r)) := fun A w h _ => by
  have := run_convert_int_string (P := P) w t u k r hs hd
  simp only [execOp, h.eval hx]
  simp [this]
theorem wrap_u8 {m : Int} (h0 : 0 ≤ m) (h1 : m ≤ 255) : IntKind.u8.wrap m = m := by
  have p1 : (2 : Int) ^ IntKind.u8.bits = 256 := by decide
  unfold IntKind.wrap
  rw [p1]
  simp only [IntKind.signed, Bool.false_and]
  exact Int.emod_eq_of_lt h0 (by omega)
theorem Q_sub8 {a b : Int} (hx : evl ρ x = some (.int .u8 a) := by rfl) (hy : evl ρ y = some (.int .u8 b) := by rfl) (h0 : 0 ≤ a - b := by omega) (h1 : a - b ≤ 255 := by omega) : OpQ P dfs n ρ H ⟨d, .binOp .sub t x y u, ty, pos, af, g⟩ (.int .u8 (a - b)) := by
  have := Q_sub (P := P) (dfs := dfs) (n := n) (H := H) (d := d) (t := t) (u := u) (ty := ty) (pos := pos) (af := af) (g := g) hx hy
  rwa [wrap_u8 h0 h1] at this
theorem Q_conv64 {k : IntKind} {a : Int} {e : TypeDesc} (hu : P.underlying t = some e) (hu' : P.underlying u = some (.int .i64)) (hx : evl ρ x = some (.int k a) := by rfl) (h0 : -9223372036854775808 ≤ a := by omega) (h1 : a ≤ 9223372036854775807 := by omega) : OpQ P dfs n ρ H ⟨d, .convert t u x, ty, pos, af, g⟩ (.int .i64 a) := by
  have := Q_convi (P := P) (dfs := dfs) (n := n) (H := H) (d := d) (ty := ty) (pos := pos) (af := af) (g := g) hu hu' hx
  rwa [wrap_in h0 h1] at this
theorem ret4 {fn : Func} {R : Ending → World → Prop} {t t' t'' t3 : Tmp} {v v' v'' v3 : Value} (h : ∀ w, Sat w H → R (.returned (.tuple #[v, v', v'', v3])) w) (hr : fn.results = #[.tmp t, .tmp t', .tmp t'', .tmp t3] := by rfl) (hv : ρ.get t = some v := by rfl) (hv' : ρ.get t' = some v' := by rfl) (hv'' : ρ.get t'' = some v'' := by rfl) (hv3 : ρ.get t3 = some v3 := by rfl) :
    St [] n ρ H (bodyPost P fn R .ret) := fun a w A s => ⟨A.defers, .tuple #[v, v', v'', v3], by rw [← A.get t v hv, ← A.get t' v' hv', ← A.get t'' v'' hv'', ← A.get t3 v3 hv3]; simp [results, hr], h w s⟩
/-! ### encodings -/
theorem EncOk.of {α : Type} {e : Enc α} (h : (P.info? e.E).map (fun i => (i.size, i.bytes, i.zero.map (·.cells.size))) = some (e.k, e.bytes, some e.k)) : EncOk P e := by
  obtain ⟨i, h1, h2⟩ := Option.map_eq_some_iff.1 h
  simp only [Prod.mk.injEq] at h2
  obtain ⟨z, h3, h4⟩ := Option.map_eq_some_iff.1 h2.2.2
  exact ⟨i, z, h1, h2.1, h2.2.1, h3, h4⟩
abbrev encInt (E : TypeId) : Enc Int := { E := E, k := 1, bytes := 8, enc := fun x => [.int .i64 x], len := fun _ => rfl, one := fun _ v h => by simp at h; subst h; rfl, pos := by decide, posb := by decide }
abbrev encStr (E : TypeId) : Enc (List UInt8) := { E := E, k := 1, bytes := 16, enc := fun x => [.string ⟨x.toArray⟩], len := fun _ => rfl, one := fun _ v h => by simp at h; subst h; rfl, pos := by decide, posb := by decide }
end SL
end Go.Proofs.YtljjplndcbekfaaDoor
