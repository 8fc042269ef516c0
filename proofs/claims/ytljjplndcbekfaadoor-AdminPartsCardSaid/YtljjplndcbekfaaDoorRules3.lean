/- The rules of the small separation logic, continued: structs, slices, strings, conversions. Its conditions: none. -/
import Derived.Test.YtljjplndcbekfaaDoorRules2
namespace Go.Proofs.YtljjplndcbekfaaDoor
namespace SL
variable {P : Program} {Q : Exit → Act → World → Prop} {dfs : List Deferred} {n : Nat} {ρ : Env} {H : List HP} {K : Act → World → Prop}
variable {d : Option Tmp} {ty t u : TypeId} {pos : String} {af : Array Edge} {g : Option (Nat × Bool)} {x y z : Operand}

/-! ### structs -/
def evlps (ρ : Env) : List (Nat × Operand) → Option (List (Nat × Value))
  | [] => some []
  | (i, x) :: l => match evl ρ x, evlps ρ l with
    | some v, some vs => some ((i, v) :: vs)
    | _, _ => none
theorem Agree.evalps {a : Act} (A : Agree dfs n ρ a) : ∀ {xs : List (Nat × Operand)} {vs : List (Nat × Value)}, evlps ρ xs = some vs → xs.map (fun p => (p.1, a.eval p.2)) = vs
  | [], vs, h => by cases h; rfl
  | (i, x) :: l, vs, h => by
    simp only [evlps] at h
    split at h
    · rename_i h1 h2
      cases h
      rw [List.map_cons, A.eval h1, A.evalps h2]
    · cases h
theorem Q_build {ps : List (Nat × Operand)} {vs : List (Nat × Value)} {v : Value} (hb : ∀ w, (Instr.build t vs.toArray).run P w = .ok v w) (h : evlps ρ ps = some vs := by rfl) : OpQ P dfs n ρ H ⟨d, .build t ps.toArray, ty, pos, af, g⟩ v := fun a w A _ => by
  have := A.evalps h
  simp only [execOp, List.map_toArray, Sem.run_bind]
  rw [this, hb w]
  rfl
theorem L_buildSlice {d N : Nat} {ps : List (Nat × Operand)} {vs : List (Nat × Value)} {e : TypeId} {cells : List Value} (hb : ∀ w, (Instr.buildSlice t N vs.toArray).run P w = .ok (.slice (some ⟨w.heap.size, 0, none⟩) N N) (w.alloc (.cells cells.toArray e (0, 0))))
    (k : ∀ b, St dfs n ((d, .slice (some ⟨b, 0, none⟩) N N) :: ρ) (cl b cells e :: H) K) (h : evlps ρ ps = some vs := by rfl) (hd : d < n := by decide) : OpL P Q dfs n ρ H ⟨some d, .buildSlice t N ps.toArray, ty, pos, af, g⟩ K := OpL.run (fun A w h' s => by
  have := h'.evalps h
  refine ⟨_, _, _, ?_, s.alloc (.cells cells.toArray e (0, 0)), k w.heap.size⟩
  simp only [execOp, List.map_toArray, Sem.run_bind]
  rw [this, hb w]
  rfl) hd
theorem L_box1 {d : Nat} {v : Value} {e : TypeId} (k : ∀ b, St dfs n ((d, .pointer (some ⟨b, 0, none⟩)) :: ρ) (cl b [v] e :: H) K) (hx : evl ρ x = some v := by rfl) (ho : v.cells = #[v] := by rfl) (hd : d < n := by decide) :
    OpL P Q dfs n ρ H ⟨some d, .box e x, ty, pos, af, g⟩ K := L_box (fun b => by rw [ho]; exact k b) hx hd
theorem L_boxa {d : Nat} {vs : List Value} {e : TypeId} (k : ∀ b, St dfs n ((d, .pointer (some ⟨b, 0, none⟩)) :: ρ) (cl b vs e :: H) K) (hx : evl ρ x = some (.agg vs.toArray) := by rfl) (hd : d < n := by decide) :
    OpL P Q dfs n ρ H ⟨some d, .box e x, ty, pos, af, g⟩ K := L_box (v := .agg vs.toArray) k hx hd
theorem L_al {d : Nat} {z : Value} {vs : List Value} {e : TypeId} (hz : (P.info? e).bind (·.zero) = some z) (k : ∀ b, St dfs n ((d, .pointer (some ⟨b, 0, none⟩)) :: ρ) (cl b vs e :: H) K) (ho : z.cells = vs.toArray := by rfl) (hd : d < n := by decide) :
    OpL P Q dfs n ρ H ⟨some d, .alloc e, ty, pos, af, g⟩ K := L_alloc hz (fun b => by rw [ho]; exact k b) hd

/-- reading a variable of several cells -/
def Agg (P : Program) (t : TypeId) (sz : Nat) : Prop := ∀ w, (isAgg t).run P w = .ok true w ∧ (sizeOf t).run P w = .ok sz w
theorem Agg.of {ds : TypeDesc} {sz : Nat} (hu : P.underlying t = some ds) (h : (match ds with | .struct _ | .array _ _ => true | _ => false) = true) (hs : (P.info? t).map (·.size) = some sz) : Agg P t sz := fun w => by
  obtain ⟨i, hi, hz⟩ := Option.map_eq_some_iff.1 hs
  cases ds <;> simp_all [isAgg, underlying, sizeOf, typeInfo]
theorem loadCells_run {w : World} {b T : Nat} {vs : List Value} {l l' : List HP} (s : Sat w l) (tk : Take (cl b vs T) l l') : ∀ (k i j : Nat) (acc : Array Value), (i + j) + k ≤ vs.length →
    (loadCellsFrom ⟨b, i, none⟩ j k acc).run P w = .ok (acc ++ ((vs.drop (i + j)).take k).toArray) w
  | 0, i, j, acc, _ => by simp [loadCellsFrom]
  | k + 1, i, j, acc, h => by
    have hlt : i + j < vs.length := by omega
    have ha : Addr.add ⟨b, i, none⟩ j = ⟨b, i + j, none⟩ := by unfold Addr.add; split <;> simp_all
    have hc : w.cell? ⟨b, i + j, none⟩ = some vs[i + j] := (s.cell tk (i + j)).trans (List.getElem?_eq_getElem hlt)
    have ih := loadCells_run s tk k i (j + 1) (acc.push vs[i + j]) (by omega)
    simp only [loadCellsFrom, Sem.run_bind, ha]
    rw [show (load (⟨b, i + j, none⟩ : Addr)).run P w = .ok vs[i + j] w by simp [load, Sem.run, hc]]
    simp only [Result.andThen_ok]
    rw [ih, show i + (j + 1) = i + j + 1 by omega]
    congr 1
    rw [List.drop_eq_getElem_cons hlt, List.take_succ_cons]
    simp
theorem Q_loada {b i T sz : Nat} {vs us : List Value} {l' : List HP} (hp : Agg P t sz) (hx : evl ρ x = some (.pointer (some ⟨b, i, none⟩)) := by rfl) (hH : Take (cl b vs T) H l' := by repeat (first | with_reducible exact Take.head | apply Take.tail)) (hl : i + sz ≤ vs.length := by exact Nat.le_of_ble_eq_true rfl) (hv : (vs.drop i).take sz = us := by rfl) :
    OpQ P dfs n ρ H ⟨d, .load t x, ty, pos, af, g⟩ (.agg us.toArray) := fun A w h s => by
  have := loadCells_run (P := P) s hH sz i 0 #[] (by omega)
  simp only [Nat.add_zero] at this
  simp [execOp, h.eval hx, Instr.loadAt, Instr.sureAddr, loadVar, (hp w).1, (hp w).2, loadCells, this, hv]
theorem storeCells_run {T : Nat} : ∀ (us : List Value) {w : World} {b i j : Nat} {vs : List Value} {l l' : List HP}, Sat w l → Take (cl b vs T) l l' → (i + j) + us.length ≤ vs.length → (∀ v ∈ us, one v = true) →
    ∃ w', (storeCells ⟨b, i, none⟩ us j).run P w = .ok () w' ∧ Sat w' (cl b (vs.take (i + j) ++ us ++ vs.drop (i + j + us.length)) T :: l')
  | [], w, b, i, j, vs, l, l', s, tk, h, _ => ⟨w, by simp [storeCells], by simpa using s.perm tk.perm⟩
  | v :: us, w, b, i, j, vs, l, l', s, tk, h, ho => by
    have hlt : i + j < vs.length := by simp at h; omega
    have ha : Addr.add ⟨b, i, none⟩ j = ⟨b, i + j, none⟩ := by unfold Addr.add; split <;> simp_all
    have hc : w.cell? ⟨b, i + j, none⟩ = some vs[i + j] := (s.cell tk (i + j)).trans (List.getElem?_eq_getElem hlt)
    have hz := s.frozen tk (i + j)
    have s1 : Sat (w.setCell ⟨b, i + j, none⟩ v) (cl b (vs.set (i + j) v) T :: l') := (s.perm tk.perm).setCell UpdC.head
    obtain ⟨w', hr, s'⟩ := storeCells_run us (i := i) (j := j + 1) s1 .head (by simp at h ⊢; omega) (fun u hu => ho u (by simp [hu]))
    refine ⟨w', ?_, ?_⟩
    · simp only [storeCells, Sem.run_bind, ha]
      have hov := ho v (by simp)
      rw [show (store (⟨b, i + j, none⟩ : Addr) v).run P w = .ok () (w.setCell ⟨b, i + j, none⟩ v) by cases v <;> simp_all [store, Sem.run, one]]
      exact hr
    · have e : (vs.set (i + j) v).take (i + (j + 1)) ++ us ++ (vs.set (i + j) v).drop (i + (j + 1) + us.length) = vs.take (i + j) ++ (v :: us) ++ vs.drop (i + j + (v :: us).length) := by
        rw [show i + (j + 1) = i + j + 1 by omega, List.drop_set, if_pos (by omega), show i + j + 1 + us.length = i + j + (v :: us).length by simp; omega]
        rw [List.take_succ_eq_append_getElem (by simpa using hlt), List.take_set_of_le (by omega)]
        simp
      rwa [e] at s'
theorem L_storea {b i T sz : Nat} {vs us : List Value} {H₁ : List HP} (hs : (P.info? t).map (·.size) = some sz) (k : St dfs n ρ (cl b (vs.take i ++ us ++ vs.drop (i + sz)) T :: H₁) K) (hx : evl ρ x = some (.pointer (some ⟨b, i, none⟩)) := by rfl) (hy : evl ρ y = some (.agg us.toArray) := by rfl) (hu : Take (cl b vs T) H H₁ := by repeat (first | with_reducible exact Take.head | apply Take.tail)) (hl : i + sz ≤ vs.length := by exact Nat.le_of_ble_eq_true rfl) (hsz : us.length = sz := by rfl) (ho : us.all one = true := by rfl) :
    OpL P Q dfs n ρ H ⟨none, .store t x y, ty, pos, af, g⟩ K := OpL.run0 fun A w h s => by
  obtain ⟨inf, hinf, hz1⟩ := Option.map_eq_some_iff.1 hs
  obtain ⟨w', hr, s'⟩ := storeCells_run (P := P) us (i := i) (j := 0) s hu (by omega) (by simpa using ho)
  refine ⟨w', _, .inr ?_, s', by rw [Nat.add_zero, hsz]; exact k⟩
  simp [execOp, h.eval hx, h.eval hy, Instr.storeAt, Instr.sureAddr, storeVar, sizeOf, typeInfo, hinf, hz1, Value.cells, hsz, hr]
theorem Q_field {fs : Array Field} {fd : Field} {f : Nat} {us : List Value} {v : Value} (hu : P.underlying t = some (.struct fs)) (hf : fs[f]? = some fd) (hp : Plain P fd.type) (hx : evl ρ x = some (.agg us.toArray) := by rfl) (hv : us[fd.offset]? = some v := by rfl) : OpQ P dfs n ρ H ⟨d, .field t x f, ty, pos, af, g⟩ v := fun A w h _ => by
  simp [execOp, h.eval hx, Instr.field, underlying, hu, hf, asAgg, part, hp w, hv]

/-! ### numbers -/
section
variable {k : IntKind} {a b : Int}
theorem Q_quo (hx : evl ρ x = some (.int k a) := by rfl) (hy : evl ρ y = some (.int k b) := by rfl) (hb : b ≠ 0 := by omega) : OpQ P dfs n ρ H ⟨d, .binOp .quo t x y u, ty, pos, af, g⟩ (.int k (k.wrap (a.tdiv b))) := fun A w h _ => by simp [execOp, h.eval hx, h.eval hy, eqGuard, binOp, Op.intDiv, hb]
theorem Q_rem (hx : evl ρ x = some (.int k a) := by rfl) (hy : evl ρ y = some (.int k b) := by rfl) (hb : b ≠ 0 := by omega) : OpQ P dfs n ρ H ⟨d, .binOp .rem t x y u, ty, pos, af, g⟩ (.int k (a.tmod b)) := fun A w h _ => by simp [execOp, h.eval hx, h.eval hy, eqGuard, binOp, Op.intDiv, hb]
theorem Q_quon (hx : evl ρ x = some (.int .i64 a) := by rfl) (hy : evl ρ y = some (.int .i64 b) := by rfl) (ha : 0 ≤ a := by omega) (ha' : a ≤ 9223372036854775807 := by omega) (hb : 0 < b := by omega) : OpQ P dfs n ρ H ⟨d, .binOp .quo t x y u, ty, pos, af, g⟩ (.int .i64 (a / b)) := by
  have e : IntKind.i64.wrap (a.tdiv b) = a / b := by
    rw [Int.tdiv_eq_ediv_of_nonneg ha]
    have h1 : 0 ≤ a / b := Int.ediv_nonneg ha (by omega)
    have h2 : a / b ≤ a := Int.ediv_le_self b ha
    exact wrap_in (by omega) (by omega)
  have := Q_quo (P := P) (dfs := dfs) (n := n) (H := H) (d := d) (t := t) (u := u) (ty := ty) (pos := pos) (af := af) (g := g) hx hy (by omega)
  rwa [e] at this
theorem Q_remn (hx : evl ρ x = some (.int k a) := by rfl) (hy : evl ρ y = some (.int k b) := by rfl) (ha : 0 ≤ a := by omega) (hb : 0 < b := by omega) : OpQ P dfs n ρ H ⟨d, .binOp .rem t x y u, ty, pos, af, g⟩ (.int k (a % b)) := by
  have := Q_rem (P := P) (dfs := dfs) (n := n) (H := H) (d := d) (t := t) (u := u) (ty := ty) (pos := pos) (af := af) (g := g) hx hy (by omega)
  rwa [Int.tmod_eq_emod_of_nonneg ha] at this
theorem Q_neg (hx : evl ρ x = some (.int k a) := by rfl) : OpQ P dfs n ρ H ⟨d, .unOp .neg t x, ty, pos, af, g⟩ (.int k (k.wrap (0 - a))) := fun A w h _ => by simp [execOp, h.eval hx, Op.unary, Op.intArith]
theorem Q_xor1 (hx : evl ρ x = some (.int .i64 a) := by rfl) (h1 : -9223372036854775808 ≤ a := by omega) (h2 : a ≤ 9223372036854775807 := by omega) : OpQ P dfs n ρ H ⟨d, .unOp .xor t x, ty, pos, af, g⟩ (.int .i64 (-a - 1)) := fun A w h _ => by
  have e : IntKind.i64.wrap ((BitVec.ofInt 64 (-1) ^^^ BitVec.ofInt 64 a).toNat : Int) = -a - 1 := by
    have h3 : BitVec.ofInt 64 (-1) ^^^ BitVec.ofInt 64 a = ~~~ (BitVec.ofInt 64 a) := by
      rw [show BitVec.ofInt 64 (-1) = BitVec.allOnes 64 by decide, BitVec.allOnes_xor]
    rw [h3]
    have h4 : ((~~~ (BitVec.ofInt 64 a)).toNat : Int) = 18446744073709551615 - (a % 18446744073709551616) := by
      rw [BitVec.toNat_not, BitVec.toNat_ofInt]
      omega
    rw [h4]
    have p1 : (2 : Int) ^ IntKind.i64.bits = 18446744073709551616 := by decide
    have p2 : (2 : Int) ^ (IntKind.i64.bits - 1) = 9223372036854775808 := by decide
    unfold IntKind.wrap
    rw [p1, p2]
    simp only [IntKind.signed, Bool.true_and, decide_eq_true_eq]
    split <;> omega
  simp only [execOp, h.eval hx, Op.unary, Op.intBits, IntKind.signed, if_true]
  show (Sem.run P _ w) = _
  simp only [Sem.run_bind, Sem.run_pure, Result.andThen_ok]
  rw [show IntKind.i64.bits = 64 from rfl, e]
theorem Q_shl (hx : evl ρ x = some (.int k a) := by rfl) {yk : IntKind} {m : Nat} (hy : evl ρ y = some (.int yk (m : Nat)) := by rfl) (hm : m ≤ k.bits := by decide) : OpQ P dfs n ρ H ⟨d, .binOp .shl t x y u, ty, pos, af, g⟩ (.int k (k.wrap (a * 2 ^ m))) := fun A w h _ => by
  have h1 : ¬ ((m : Int) < 0) := by omega
  have h2 : min m k.bits = m := by omega
  simp [execOp, h.eval hx, h.eval hy, eqGuard, binOp, Op.shift, h1, h2]
theorem Q_shln {m : Nat} (c : Int) (hc : (2 : Int) ^ m = c) (hm : m ≤ 64) (hx : evl ρ x = some (.int .i64 a) := by rfl) {yk : IntKind} (hy : evl ρ y = some (.int yk (m : Nat)) := by rfl) (h1 : -9223372036854775808 ≤ a * c := by omega) (h2 : a * c ≤ 9223372036854775807 := by omega) : OpQ P dfs n ρ H ⟨d, .binOp .shl t x y u, ty, pos, af, g⟩ (.int .i64 (a * c)) := by
  have := Q_shl (P := P) (dfs := dfs) (n := n) (H := H) (d := d) (t := t) (u := u) (ty := ty) (pos := pos) (af := af) (g := g) hx hy hm
  rwa [hc, wrap_in h1 h2] at this
theorem Q_convi {q : IntKind} {e : TypeDesc} (hu : P.underlying t = some e) (hu' : P.underlying u = some (.int q)) (hx : evl ρ x = some (.int k a) := by rfl) : OpQ P dfs n ρ H ⟨d, .convert t u x, ty, pos, af, g⟩ (.int q (q.wrap a)) := fun A w h _ => by
  simp [execOp, convert, h.eval hx, underlying, hu, hu', Conv.intToInt]
end

/-! ### strings -/
theorem Q_indexs {s : ByteArray} {k : IntKind} {i : Int} (hu : P.underlying t = some .string) (hx : evl ρ x = some (.string s) := by rfl) (hy : evl ρ y = some (.int k i) := by rfl) (h0 : 0 ≤ i := by omega) (h1 : i < s.size := by omega) : OpQ P dfs n ρ H ⟨d, .index t x y, ty, pos, af, g⟩ (.int .u8 (s[i.toNat]!.toNat)) := fun A w h _ => by
  have hlt : i.toNat < s.size := by omega
  have e : s[i.toNat]? = some s[i.toNat]! := by
    rw [getElem?_pos s i.toNat hlt, getElem!_pos s i.toNat hlt]
  simp [execOp, h.eval hx, h.eval hy, Instr.index, asIntOf, underlying, hu, h0, e]
theorem Q_slices {s : ByteArray} {lo hi : Int} (hu : P.underlying t = some .string) (hx : evl ρ x = some (.string s) := by rfl) (hy : evl ρ y = some (.int .i64 lo) := by rfl) (hz : evl ρ z = some (.int .i64 hi) := by rfl) (h0 : 0 ≤ lo := by omega) (h1 : lo ≤ hi := by omega) (h2 : hi ≤ s.size := by omega) :
    OpQ P dfs n ρ H ⟨d, .slice t x (some y) (some z) none, ty, pos, af, g⟩ (.string (s.extract lo.toNat hi.toNat)) := fun A w h _ => by
  have e1 : 0 ≤ hi ∧ hi ≤ (s.size : Int) := by omega
  have e2 : 0 ≤ lo ∧ lo ≤ (hi.toNat : Int) := by omega
  have e3 : ¬ (max hi 0 < lo) := by omega
  simp [execOp, h.eval hx, h.eval hy, h.eval hz, e3, Instr.sliceAt, Instr.slice, Instr.sliceBounds, Instr.sliceBound, asIntOf, underlying, hu, e1, e2]
theorem Q_slices0 {s : ByteArray} {hi : Int} (hu : P.underlying t = some .string) (hx : evl ρ x = some (.string s) := by rfl) (hz : evl ρ z = some (.int .i64 hi) := by rfl) (h1 : 0 ≤ hi := by omega) (h2 : hi ≤ s.size := by omega) :
    OpQ P dfs n ρ H ⟨d, .slice t x none (some z) none, ty, pos, af, g⟩ (.string (s.extract 0 hi.toNat)) := fun A w h _ => by
  have e1 : 0 ≤ hi ∧ hi ≤ (s.size : Int) := by omega
  simp [execOp, h.eval hx, h.eval hz, Instr.sliceAt, Instr.slice, Instr.sliceBounds, Instr.sliceBound, asIntOf, underlying, hu, e1]
theorem Q_slices1 {s : ByteArray} {lo : Int} (hu : P.underlying t = some .string) (hx : evl ρ x = some (.string s) := by rfl) (hy : evl ρ y = some (.int .i64 lo) := by rfl) (h0 : 0 ≤ lo := by omega) (h1 : lo ≤ s.size := by omega) :
    OpQ P dfs n ρ H ⟨d, .slice t x (some y) none none, ty, pos, af, g⟩ (.string (s.extract lo.toNat s.size)) := fun A w h _ => by
  have e2 : 0 ≤ lo ∧ lo ≤ (s.size : Int) := by omega
  simp [execOp, h.eval hx, h.eval hy, Instr.sliceAt, Instr.slice, Instr.sliceBounds, Instr.sliceBound, asIntOf, underlying, hu, e2]

/-! ### slices -/
theorem Q_indexl {b o l c : Nat} {i : Int} {e sz : Nat} {k : IntKind} (hu : P.underlying t = some (.slice e)) (hs : (P.info? e).map (·.size) = some sz) (hx : evl ρ x = some (.slice (some ⟨b, o, none⟩) l c) := by rfl) (hy : evl ρ y = some (.int k i) := by rfl) (h0 : 0 ≤ i := by omega) (h1 : i < l := by omega) :
    OpQ P dfs n ρ H ⟨d, .indexAddr t x y, ty, pos, af, g⟩ (.pointer (some ⟨b, o + i.toNat * sz, none⟩)) := fun A w h _ => by
  obtain ⟨inf, hinf, hz1⟩ := Option.map_eq_some_iff.1 hs
  have ha : Addr.add ⟨b, o, none⟩ (i.toNat * sz) = ⟨b, o + i.toNat * sz, none⟩ := by unfold Addr.add; split <;> simp_all
  have hc : 0 ≤ i ∧ i < (l : Int) := ⟨h0, h1⟩
  simp [execOp, h.eval hx, h.eval hy, Instr.indexAt, asIntOf, underlying, hu, sizeOf, typeInfo, hinf, hz1, hc, ha]
end SL
end Go.Proofs.YtljjplndcbekfaaDoor
