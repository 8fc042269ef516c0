/- The rules of the small separation logic, continued: the operations one by one. Its conditions: none. -/
import Derived.Test.YtljjplndcbekfaaDoorRules1
import Derived.Laws.Pointers
namespace Go.Proofs.YtljjplndcbekfaaDoor
namespace SL
variable {P : Program} {Q : Exit → Act → World → Prop} {dfs : List Deferred} {n : Nat} {ρ : Env} {H : List HP} {K : Act → World → Prop}
variable {d : Option Tmp} {ty t u : TypeId} {pos : String} {af : Array Edge} {g : Option (Nat × Bool)} {x y z : Operand}

theorem Q_move {v : Value} (h : evl ρ x = some v := by rfl) : OpQ P dfs n ρ H ⟨d, .move x, ty, pos, af, g⟩ v := fun a w A _ => by simp [execOp, A.eval h]
theorem Q_assign {v : Value} (h : evl ρ x = some v := by rfl) : OpQ P dfs n ρ H ⟨d, .assign x, ty, pos, af, g⟩ v := fun a w A _ => by simp [execOp, A.eval h]
theorem Q_pickT {v : Value} (hx : evl ρ x = some (.bool true) := by rfl) (h : evl ρ y = some v := by rfl) : OpQ P dfs n ρ H ⟨d, .pick x y z, ty, pos, af, g⟩ v := fun a w A _ => by simp [execOp, A.eval hx, A.eval h, asBool]
theorem Q_pickF {v : Value} (hx : evl ρ x = some (.bool false) := by rfl) (h : evl ρ z = some v := by rfl) : OpQ P dfs n ρ H ⟨d, .pick x y z, ty, pos, af, g⟩ v := fun a w A _ => by simp [execOp, A.eval hx, A.eval h, asBool]
theorem Q_nilCheck {p : Addr} (h : evl ρ x = some (.pointer (some p)) := by rfl) : OpQ P dfs n ρ H ⟨d, .nilCheck x, ty, pos, af, g⟩ (.pointer (some p)) := fun a w A _ => by simp [execOp, A.eval h]
theorem Q_nilCheckF {f : FuncId} {l m : Array Value} (h : evl ρ x = some (.func (.func f) l m) := by rfl) : OpQ P dfs n ρ H ⟨d, .nilCheck x, ty, pos, af, g⟩ (.func (.func f) l m) := fun a w A _ => by simp [execOp, A.eval h]
theorem Q_extract {vs : List Value} {i : Nat} {v : Value} (h : evl ρ x = some (.tuple vs.toArray) := by rfl) (hi : vs[i]? = some v := by rfl) : OpQ P dfs n ρ H ⟨d, .extract x i, ty, pos, af, g⟩ v := fun a w A _ => by
  have : vs.toArray[i]? = some v := by simpa using hi
  simp [execOp, A.eval h, Instr.extract, this]
theorem Q_makeFunc {f : FuncId} {c : List Operand} {vs : List Value} (h : evls ρ c = some vs := by rfl) : OpQ P dfs n ρ H ⟨d, .makeFunc (.func f) #[] c.toArray, ty, pos, af, g⟩ (.func (.func f) #[] vs.toArray) := fun a w A _ => by
  have := A.evala h
  simp [execOp, Instr.makeFunc, this]

/-! ### numbers -/
section
variable {k : IntKind} {a b : Int}
theorem Q_add (hx : evl ρ x = some (.int k a) := by rfl) (hy : evl ρ y = some (.int k b) := by rfl) : OpQ P dfs n ρ H ⟨d, .binOp .add t x y u, ty, pos, af, g⟩ (.int k (k.wrap (a + b))) := fun A w h _ => by simp [execOp, h.eval hx, h.eval hy, eqGuard, binOp, Op.intArith]
theorem Q_sub (hx : evl ρ x = some (.int k a) := by rfl) (hy : evl ρ y = some (.int k b) := by rfl) : OpQ P dfs n ρ H ⟨d, .binOp .sub t x y u, ty, pos, af, g⟩ (.int k (k.wrap (a - b))) := fun A w h _ => by simp [execOp, h.eval hx, h.eval hy, eqGuard, binOp, Op.intArith]
theorem Q_mul (hx : evl ρ x = some (.int k a) := by rfl) (hy : evl ρ y = some (.int k b) := by rfl) : OpQ P dfs n ρ H ⟨d, .binOp .mul t x y u, ty, pos, af, g⟩ (.int k (k.wrap (a * b))) := fun A w h _ => by simp [execOp, h.eval hx, h.eval hy, eqGuard, binOp, Op.intArith]
theorem wrap_in {m : Int} (h1 : -9223372036854775808 ≤ m) (h2 : m ≤ 9223372036854775807) : IntKind.i64.wrap m = m := IntWalk.i64_in m ⟨h1, h2⟩
theorem Q_addn (hx : evl ρ x = some (.int .i64 a) := by rfl) (hy : evl ρ y = some (.int .i64 b) := by rfl) (h1 : -9223372036854775808 ≤ a + b := by omega) (h2 : a + b ≤ 9223372036854775807 := by omega) :
    OpQ P dfs n ρ H ⟨d, .binOp .add t x y u, ty, pos, af, g⟩ (.int .i64 (a + b)) := by have := Q_add (P := P) (dfs := dfs) (n := n) (H := H) (d := d) (t := t) (u := u) (ty := ty) (pos := pos) (af := af) (g := g) hx hy; rwa [wrap_in h1 h2] at this
theorem Q_subn (hx : evl ρ x = some (.int .i64 a) := by rfl) (hy : evl ρ y = some (.int .i64 b) := by rfl) (h1 : -9223372036854775808 ≤ a - b := by omega) (h2 : a - b ≤ 9223372036854775807 := by omega) :
    OpQ P dfs n ρ H ⟨d, .binOp .sub t x y u, ty, pos, af, g⟩ (.int .i64 (a - b)) := by have := Q_sub (P := P) (dfs := dfs) (n := n) (H := H) (d := d) (t := t) (u := u) (ty := ty) (pos := pos) (af := af) (g := g) hx hy; rwa [wrap_in h1 h2] at this
theorem Q_muln (hx : evl ρ x = some (.int .i64 a) := by rfl) (hy : evl ρ y = some (.int .i64 b) := by rfl) (h1 : -9223372036854775808 ≤ a * b := by omega) (h2 : a * b ≤ 9223372036854775807 := by omega) :
    OpQ P dfs n ρ H ⟨d, .binOp .mul t x y u, ty, pos, af, g⟩ (.int .i64 (a * b)) := by have := Q_mul (P := P) (dfs := dfs) (n := n) (H := H) (d := d) (t := t) (u := u) (ty := ty) (pos := pos) (af := af) (g := g) hx hy; rwa [wrap_in h1 h2] at this
theorem Q_eql (hx : evl ρ x = some (.int k a) := by rfl) (hy : evl ρ y = some (.int k b) := by rfl) : OpQ P dfs n ρ H ⟨d, .binOp .eql t x y u, ty, pos, af, g⟩ (.bool (decide (a = b))) := fun A w h _ => by
  have : (a == b) = decide (a = b) := by rw [Bool.eq_iff_iff]; simp
  simp [execOp, h.eval hx, h.eval hy, eqGuard, binOp, Op.intCmp, this]
theorem Q_neq (hx : evl ρ x = some (.int k a) := by rfl) (hy : evl ρ y = some (.int k b) := by rfl) : OpQ P dfs n ρ H ⟨d, .binOp .neq t x y u, ty, pos, af, g⟩ (.bool (decide (a ≠ b))) := fun A w h _ => by
  have : (a != b) = decide (a ≠ b) := by rw [Bool.eq_iff_iff]; simp
  simp only [execOp, h.eval hx, h.eval hy, eqGuard, binOp, Op.intCmp, this]
  simp
theorem Q_lss (hx : evl ρ x = some (.int k a) := by rfl) (hy : evl ρ y = some (.int k b) := by rfl) : OpQ P dfs n ρ H ⟨d, .binOp .lss t x y u, ty, pos, af, g⟩ (.bool (decide (a < b))) := fun A w h _ => by simp [execOp, h.eval hx, h.eval hy, eqGuard, binOp, Op.intCmp]
theorem Q_leq (hx : evl ρ x = some (.int k a) := by rfl) (hy : evl ρ y = some (.int k b) := by rfl) : OpQ P dfs n ρ H ⟨d, .binOp .leq t x y u, ty, pos, af, g⟩ (.bool (decide (a ≤ b))) := fun A w h _ => by simp [execOp, h.eval hx, h.eval hy, eqGuard, binOp, Op.intCmp]
theorem Q_gtr (hx : evl ρ x = some (.int k a) := by rfl) (hy : evl ρ y = some (.int k b) := by rfl) : OpQ P dfs n ρ H ⟨d, .binOp .gtr t x y u, ty, pos, af, g⟩ (.bool (decide (b < a))) := fun A w h _ => by simp [execOp, h.eval hx, h.eval hy, eqGuard, binOp, Op.intCmp]
theorem Q_geq (hx : evl ρ x = some (.int k a) := by rfl) (hy : evl ρ y = some (.int k b) := by rfl) : OpQ P dfs n ρ H ⟨d, .binOp .geq t x y u, ty, pos, af, g⟩ (.bool (decide (b ≤ a))) := fun A w h _ => by simp [execOp, h.eval hx, h.eval hy, eqGuard, binOp, Op.intCmp]
theorem Q_max (hx : evl ρ x = some (.int k a) := by rfl) (hy : evl ρ y = some (.int k b) := by rfl) {at_ : Array TypeId} : OpQ P dfs n ρ H ⟨d, .call ⟨.builtin .max, #[x, y], at_⟩, ty, pos, af, g⟩ (.int k (max a b)) := fun A w h _ => by
  have : (if b > a then b else a) = max a b := by rw [Int.max_def]; split <;> split <;> omega
  simp [execOp, resolve, invoke, builtin, Builtin.max_, Builtin.max2, h.eval hx, h.eval hy, this]
theorem Q_min (hx : evl ρ x = some (.int k a) := by rfl) (hy : evl ρ y = some (.int k b) := by rfl) {at_ : Array TypeId} : OpQ P dfs n ρ H ⟨d, .call ⟨.builtin .min, #[x, y], at_⟩, ty, pos, af, g⟩ (.int k (min a b)) := fun A w h _ => by
  have : (if b < a then b else a) = min a b := by rw [Int.min_def]; split <;> split <;> omega
  simp [execOp, resolve, invoke, builtin, Builtin.min_, Builtin.min2, h.eval hx, h.eval hy, this]
end
theorem Q_not {b : Bool} (hx : evl ρ x = some (.bool b) := by rfl) : OpQ P dfs n ρ H ⟨d, .unOp .not t x, ty, pos, af, g⟩ (.bool (!b)) := fun A w h _ => by simp [execOp, h.eval hx, Op.unary]
/-! ### strings, pointers against nil -/
theorem beq_str (a b : ByteArray) : (a.toList == b.toList) = decide (a = b) := by
  rw [Bool.eq_iff_iff, beq_iff_eq, ByteArray.toList_eq, ByteArray.toList_eq, decide_eq_true_eq]
  exact ⟨fun h => ByteArray.ext (Array.toList_inj.mp h), fun h => by rw [h]⟩
theorem Q_eqls {a b : ByteArray} (hx : evl ρ x = some (.string a) := by rfl) (hy : evl ρ y = some (.string b) := by rfl) : OpQ P dfs n ρ H ⟨d, .binOp .eql t x y u, ty, pos, af, g⟩ (.bool (decide (a = b))) := fun A w h _ => by
  have := beq_str a b
  simp only [execOp, h.eval hx, h.eval hy, eqGuard, binOp, Op.stringOp, this]
  simp
theorem Q_neqs {a b : ByteArray} (hx : evl ρ x = some (.string a) := by rfl) (hy : evl ρ y = some (.string b) := by rfl) : OpQ P dfs n ρ H ⟨d, .binOp .neq t x y u, ty, pos, af, g⟩ (.bool (decide (a ≠ b))) := fun A w h _ => by
  have := beq_str a b
  simp only [execOp, h.eval hx, h.eval hy, eqGuard, binOp, Op.stringOp, this]
  simp
theorem Q_adds {a b : ByteArray} (hx : evl ρ x = some (.string a) := by rfl) (hy : evl ρ y = some (.string b) := by rfl) (hs : a.size + b.size ≤ 9223372036854775807 := by omega) : OpQ P dfs n ρ H ⟨d, .binOp .add t x y u, ty, pos, af, g⟩ (.string (a ++ b)) := fun A w h _ => by
  have e : ¬ (((a.size + b.size : Nat) : Int) > IntKind.i64.max) := by
    have : IntKind.i64.max = 9223372036854775807 := by decide
    omega
  simp only [execOp, h.eval hx, h.eval hy, eqGuard, binOp, Op.stringOp]
  rw [if_neg e]
  simp
theorem Q_eqnil {p : Option Addr} (hu : P.underlying t = some (.pointer (P.pointee t))) (hx : evl ρ x = some (.pointer p) := by rfl) (hy : evl ρ y = some (.pointer none) := by rfl) : OpQ P dfs n ρ H ⟨d, .binOp .eql t x y u, ty, pos, af, g⟩ (.bool p.isNone) := fun A w h _ => by
  have := run_eql_pointer_nil w t p hu
  simp only [execOp, h.eval hx, h.eval hy, eqGuard]
  simp [this]
theorem Q_nenil {p : Option Addr} (hu : P.underlying t = some (.pointer (P.pointee t))) (hx : evl ρ x = some (.pointer p) := by rfl) (hy : evl ρ y = some (.pointer none) := by rfl) : OpQ P dfs n ρ H ⟨d, .binOp .neq t x y u, ty, pos, af, g⟩ (.bool p.isSome) := fun A w h _ => by
  have := run_neq_pointer_nil w t p hu
  simp only [execOp, h.eval hx, h.eval hy, eqGuard]
  cases p <;> simp_all
theorem Q_lens {s : ByteArray} (hu : P.underlying t = some .string) (hx : evl ρ x = some (.string s) := by rfl) : OpQ P dfs n ρ H ⟨d, .call ⟨.builtin .len, #[x], #[t]⟩, ty, pos, af, g⟩ (.int .i64 s.size) := fun A w h _ => by
  simp [execOp, resolve, invoke, builtin, Builtin.len_, h.eval hx, underlying, hu, goInt]
theorem Q_lenl {o : Option Addr} {e : TypeId} {l c : Nat} (hu : P.underlying t = some (.slice e)) (hx : evl ρ x = some (.slice o l c) := by rfl) : OpQ P dfs n ρ H ⟨d, .call ⟨.builtin .len, #[x], #[t]⟩, ty, pos, af, g⟩ (.int .i64 l) := fun A w h _ => by
  simp [execOp, resolve, invoke, builtin, Builtin.len_, h.eval hx, underlying, hu, goInt]

/-! ### memory -/
theorem Q_fieldAddr {b o f k : Nat} {fs : Array Field} {fd : Field} {sz : Nat} (hu : P.underlying t = some (.struct fs)) (hf : fs[f]? = some fd) (hk : fd.offset = k) (hs : (P.info? fd.type).map (·.size) = some (sz + 1)) (hx : evl ρ x = some (.pointer (some ⟨b, o, none⟩)) := by rfl) :
    OpQ P dfs n ρ H ⟨d, .fieldAddr t x f, ty, pos, af, g⟩ (.pointer (some ⟨b, o + k, none⟩)) := fun A w h _ => by
  obtain ⟨i, hi, hz⟩ := Option.map_eq_some_iff.1 hs
  have ha : Addr.add ⟨b, o, none⟩ k = ⟨b, o + k, none⟩ := by unfold Addr.add; split <;> simp_all
  simp [execOp, h.eval hx, Instr.fieldAt, underlying, hu, hf, Instr.sureAddr, fieldPlace, sizeOf, typeInfo, hi, hz, hk, ha]
/-- reading a variable of one cell -/
def Plain (P : Program) (t : TypeId) : Prop := ∀ w, (isAgg t).run P w = .ok false w
theorem Plain.of {ds : TypeDesc} (hu : P.underlying t = some ds) (h : (match ds with | .struct _ | .array _ _ => true | _ => false) = false) : Plain P t := fun w => by
  cases ds <;> simp_all [isAgg, underlying]
theorem Q_load {b i T : Nat} {vs : List Value} {v : Value} {l' : List HP} (hp : Plain P t) (hx : evl ρ x = some (.pointer (some ⟨b, i, none⟩)) := by rfl) (hH : Take (cl b vs T) H l' := by repeat (first | with_reducible exact Take.head | apply Take.tail)) (hv : vs[i]? = some v := by rfl) :
    OpQ P dfs n ρ H ⟨d, .load t x, ty, pos, af, g⟩ v := fun A w h s => by
  have hc : w.cell? ⟨b, i, none⟩ = some v := (s.cell hH i).trans hv
  simp [execOp, h.eval hx, Instr.loadAt, Instr.sureAddr, loadVar, hp w, load, Sem.run, hc]
/-- the value of one cell -/
def one : Value → Bool
  | .agg _ | .tuple _ => false
  | _ => true
theorem L_store {b i T sz : Nat} {vs : List Value} {v : Value} {H' : List HP} (hs : (P.info? t).map (·.size) = some sz) (k : St dfs n ρ H' K) (hx : evl ρ x = some (.pointer (some ⟨b, i, none⟩)) := by rfl) (hy : evl ρ y = some v := by rfl) (hu : UpdC H b vs T (vs.set i v) H' := by repeat (first | with_reducible exact UpdC.head | apply Upd.tail)) (hi : (vs[i]?).isSome = true := by rfl) (ho : one v = true := by rfl) (hsz : sz = 1 := by rfl) :
    OpL P Q dfs n ρ H ⟨none, .store t x y, ty, pos, af, g⟩ K := OpL.run0 fun A w h s => by
  obtain ⟨r, tk, _⟩ := hu.take
  obtain ⟨u, hu'⟩ := Option.isSome_iff_exists.1 hi
  have hc : w.cell? ⟨b, i, none⟩ = some u := (s.cell tk i).trans hu'
  have hz : w.frozen? ⟨b, i, none⟩ = false := s.frozen tk i
  obtain ⟨inf, hinf, hz1⟩ := Option.map_eq_some_iff.1 hs
  have ha : Addr.add ⟨b, i, none⟩ 0 = ⟨b, i, none⟩ := rfl
  refine ⟨w.setCell ⟨b, i, none⟩ v, H', .inr ?_, s.setCell hu, k⟩
  subst hsz
  cases v <;> simp_all [execOp, h.eval hx, h.eval hy, Instr.storeAt, Instr.sureAddr, storeVar, sizeOf, typeInfo, Value.cells, storeCells, store, Sem.run, one, Result.andThen]
theorem L_alloc {d : Nat} {z : Value} {e : TypeId} (hz : (P.info? e).bind (·.zero) = some z) (k : ∀ b, St dfs n ((d, .pointer (some ⟨b, 0, none⟩)) :: ρ) (ob b (.cells z.cells e (0, 0)) :: H) K) (hd : d < n := by decide) :
    OpL P Q dfs n ρ H ⟨some d, .alloc e, ty, pos, af, g⟩ K := OpL.run (fun A w h s => by
  obtain ⟨i, hi, hz⟩ := Option.bind_eq_some_iff.1 hz
  refine ⟨.pointer (some ⟨w.heap.size, 0, none⟩), _, _, ?_, s.alloc (.cells z.cells e (0, 0)), k w.heap.size⟩
  simp [execOp, Instr.alloc, zeroValue, typeInfo, hi, hz, newVar, newRow]) hd
theorem L_box {d : Nat} {v : Value} {e : TypeId} (k : ∀ b, St dfs n ((d, .pointer (some ⟨b, 0, none⟩)) :: ρ) (ob b (.cells v.cells e (0, 0)) :: H) K) (hx : evl ρ x = some v := by rfl) (hd : d < n := by decide) :
    OpL P Q dfs n ρ H ⟨some d, .box e x, ty, pos, af, g⟩ K := OpL.run (fun A w h s => by
  refine ⟨.pointer (some ⟨w.heap.size, 0, none⟩), _, _, ?_, s.alloc (.cells v.cells e (0, 0)), k w.heap.size⟩
  simp [execOp, h.eval hx, Instr.box, newVar, newRow]) hd
end SL
end Go.Proofs.YtljjplndcbekfaaDoor
