/- The rules of the small separation logic, continued: slices whose elements read as a list. Its conditions: none. -/
import Derived.Test.YtljjplndcbekfaaDoorRules3
import Derived.Room.AppendAny
import Derived.Room.AppendOwn
import Derived.Room.AppendUpon
namespace Go.Proofs.YtljjplndcbekfaaDoor
namespace SL
variable {P : Program} {Q : Exit → Act → World → Prop} {dfs : List Deferred} {n : Nat} {ρ : Env} {H : List HP} {K : Act → World → Prop}
variable {d : Option Tmp} {ty t u : TypeId} {pos : String} {af : Array Edge} {g : Option (Nat × Bool)} {x y z : Operand}

/-- how an element lies in memory -/
structure Enc (α : Type) where
  E : TypeId
  k : Nat
  bytes : Nat
  enc : α → List Value
  len : ∀ x, (enc x).length = k
  one : ∀ x, ∀ v ∈ enc x, v.oneCell' = true
  pos : 0 < k
  posb : 0 < bytes
structure EncOk (P : Program) {α : Type} (e : Enc α) : Prop where
  info : ∃ i z, P.info? e.E = some i ∧ i.size = e.k ∧ i.bytes = e.bytes ∧ i.zero = some z ∧ z.cells.size = e.k
variable {α : Type} {e : Enc α} {a : Option Addr} {c : Nat} {l : List α}
def row (e : Enc α) (l : List α) : List Value := l.flatMap e.enc
theorem row_length (e : Enc α) : ∀ l, (row e l).length = l.length * e.k
  | [] => by simp [row]
  | x :: l => by
    have := row_length e l
    simp only [row, List.flatMap_cons, List.length_append, e.len, List.length_cons] at *
    rw [this, Nat.add_mul]; omega
theorem row_append (e : Enc α) (l m : List α) : row e (l ++ m) = row e l ++ row e m := by simp [row]
theorem row_at {e : Enc α} : ∀ {l : List α} {i : Nat} {y : α}, l[i]? = some y → ∃ p q, row e l = p ++ e.enc y ++ q ∧ p.length = i * e.k
  | z :: l, 0, y, h => by
    simp at h
    subst h
    exact ⟨[], row e l, by simp [row], by simp⟩
  | z :: l, i + 1, y, h => by
    obtain ⟨p, q, h1, h2⟩ := row_at (e := e) (l := l) (i := i) (y := y) (by simpa using h)
    refine ⟨e.enc z ++ p, q, ?_, ?_⟩
    · show e.enc z ++ row e l = _
      rw [h1]; simp
    · rw [List.length_append, e.len, h2, Nat.add_mul]; omega
theorem row_one (e : Enc α) (l : List α) : ∀ v ∈ row e l, v.oneCell' = true := fun v hv => by
  obtain ⟨x, _, hx⟩ := List.mem_flatMap.1 hv
  exact e.one x v hx
/-- a slice: its address, its capacity, what its elements are -/
def SlT (e : Enc α) (a : Option Addr) (c : Nat) (l : List α) : HP := fun h => (a = none ∧ l = [] ∧ c = 0) ∨
  ∃ b pre post, a = some ⟨b, pre.length, none⟩ ∧ l.length ≤ c ∧ c * e.k ≤ (row e l).length + post.length ∧ cl b (pre ++ row e l ++ post) e.E h
theorem Sat.slT {w : World} (s : Sat w (SlT e a c l :: H)) : (a = none ∧ l = [] ∧ c = 0 ∧ Sat w H) ∨
    ∃ b pre post, a = some ⟨b, pre.length, none⟩ ∧ l.length ≤ c ∧ c * e.k ≤ (row e l).length + post.length ∧ Sat w (cl b (pre ++ row e l ++ post) e.E :: H) := by
  have s0 := s.tail
  obtain ⟨S, T, dj, h, s⟩ := s
  rcases h with ⟨h1, h2, h3⟩ | ⟨b, pre, post, h1, h2, h3, h5⟩
  · exact .inl ⟨h1, h2, h3, s0⟩
  · exact .inr ⟨b, pre, post, h1, h2, h3, S, T, dj, h5, s⟩
theorem Sat.mk_nil {w : World} (s : Sat w H) : Sat w (SlT e none 0 [] :: H) := by
  refine ⟨fun _ => false, fun _ => true, fun _ => rfl, .inl ⟨rfl, rfl, rfl⟩, ?_⟩
  have : (ph w).on (fun _ => true) = ph w := by funext b; simp [PH.on]
  rw [this]; exact s
theorem Sat.mk_slT {w : World} {b : Nat} {pre post : List Value} (s : Sat w (cl b (pre ++ row e l ++ post) e.E :: H)) (h2 : l.length ≤ c) (h3 : c * e.k ≤ (row e l).length + post.length) :
    Sat w (SlT e (some ⟨b, pre.length, none⟩) c l :: H) := by
  obtain ⟨S, T, dj, h, s⟩ := s
  exact ⟨S, T, dj, .inr ⟨b, pre, post, rfl, h2, h3, h⟩, s⟩
theorem St.nilS (e : Enc α) (k : St dfs n ρ (SlT e none 0 [] :: H) K) : St dfs n ρ H K := fun a w A s => k a w A s.mk_nil
/-- a new row is a slice -/
theorem Sat.row_slT {w : World} {b : Nat} {vs : List Value} (s : Sat w (cl b vs e.E :: H)) (h : vs = row e l) : Sat w (SlT e (some ⟨b, 0, none⟩) l.length l :: H) := by
  subst h
  have := Sat.mk_slT (e := e) (l := l) (c := l.length) (pre := []) (post := []) (H := H) (w := w) (b := b) (by simpa using s) (Nat.le_refl _) (by rw [row_length]; simp)
  simpa using this

/-- the address of what lies j cells behind the slice's head -/
def ea (a : Option Addr) (j : Nat) : Value := .pointer (a.map fun p => ⟨p.block, p.off + j, none⟩)

theorem Q_idxT {i : Int} {cc : Nat} {H₁ : List HP} {sz : Nat} (hu : P.underlying t = some (.slice e.E)) (hs : (P.info? e.E).map (·.size) = some sz) (hH : Take (SlT e a c l) H H₁ := by repeat (first | with_reducible exact Take.head | apply Take.tail)) (hx : evl ρ x = some (.slice a l.length cc) := by rfl) {kk : IntKind} (hy : evl ρ y = some (.int kk i) := by rfl) (h0 : 0 ≤ i := by omega) (h1 : i < l.length := by omega) :
    OpQ P dfs n ρ H ⟨d, .indexAddr t x y, ty, pos, af, g⟩ (ea a (i.toNat * sz)) := fun A w h s => by
  obtain ⟨inf, hinf, hz1⟩ := Option.map_eq_some_iff.1 hs
  rcases (s.perm hH.perm).slT with ⟨_, hl, _, _⟩ | ⟨b, pre, post, ha, _⟩
  · subst hl; simp at h1; omega
  · subst ha
    have ha : Addr.add ⟨b, pre.length, none⟩ (i.toNat * sz) = ⟨b, pre.length + i.toNat * sz, none⟩ := by unfold Addr.add; split <;> simp_all
    have hc : 0 ≤ i ∧ i < (l.length : Int) := ⟨h0, h1⟩
    simp [execOp, h.eval hx, h.eval hy, Instr.indexAt, asIntOf, underlying, hu, sizeOf, typeInfo, hinf, hz1, hc, ha, ea]
theorem Q_ldT {i : Nat} {y₀ : α} {v : Value} {H₁ : List HP} {sz : Nat} (hp : Plain P t) (hi : l[i]? = some y₀) (hsz : sz = e.k := by rfl) (hH : Take (SlT e a c l) H H₁ := by repeat (first | with_reducible exact Take.head | apply Take.tail)) (hx : evl ρ x = some (ea a (i * sz)) := by rfl) (hv : (e.enc y₀)[0]? = some v := by rfl) :
    OpQ P dfs n ρ H ⟨d, .load t x, ty, pos, af, g⟩ v := fun A w h s => by
  subst hsz
  obtain ⟨p, q, hr, hp'⟩ := row_at (e := e) hi
  rcases (s.perm hH.perm).slT with ⟨_, hl, _, _⟩ | ⟨b, pre, post, ha, _, _, s1⟩
  · subst hl; simp at hi
  · subst ha
    have hc : w.cell? ⟨b, pre.length + i * e.k, none⟩ = some v := by
      rw [s1.cell .head, hr, ← hp']
      obtain ⟨u, us, hus⟩ : ∃ u us, e.enc y₀ = u :: us := by
        cases hh : e.enc y₀ with
        | nil => rw [hh] at hv; cases hv
        | cons u us => exact ⟨u, us, rfl⟩
      rw [hus] at hv ⊢
      simp at hv
      subst hv
      simp
    simp [execOp, h.eval hx, Instr.loadAt, Instr.sureAddr, loadVar, hp w, load, Sem.run, hc, ea]
theorem Q_ldTf {i f : Nat} {y₀ : α} {v : Value} {H₁ : List HP} {sz : Nat} (hp : Plain P t) (hi : l[i]? = some y₀) (hsz : sz = e.k := by rfl) (hH : Take (SlT e a c l) H H₁ := by repeat (first | with_reducible exact Take.head | apply Take.tail)) (hx : evl ρ x = some (ea a (i * sz + f)) := by rfl) (hv : (e.enc y₀)[f]? = some v := by rfl) :
    OpQ P dfs n ρ H ⟨d, .load t x, ty, pos, af, g⟩ v := fun A w h s => by
  subst hsz
  obtain ⟨p, q, hr, hp'⟩ := row_at (e := e) hi
  rcases (s.perm hH.perm).slT with ⟨_, hl, _, _⟩ | ⟨b, pre, post, ha, _, _, s1⟩
  · subst hl; simp at hi
  · subst ha
    have hc : w.cell? ⟨b, pre.length + (i * e.k + f), none⟩ = some v := by
      rw [s1.cell .head, hr, ← hp']
      have hf : f < (e.enc y₀).length := (List.getElem?_eq_some_iff.1 hv).1
      rw [List.append_assoc, List.getElem?_append_right (by omega), List.append_assoc, List.append_assoc, List.getElem?_append_right (by omega), List.getElem?_append_left (by omega)]
      rw [show pre.length + (p.length + f) - pre.length - p.length = f by omega]
      exact hv
    simp [execOp, h.eval hx, Instr.loadAt, Instr.sureAddr, loadVar, hp w, load, Sem.run, hc, ea]
theorem Q_ldTa {i : Nat} {y₀ : α} {H₁ : List HP} {sz : Nat} (hp : Agg P t sz) (hi : l[i]? = some y₀) (hsz : sz = e.k := by rfl) (hH : Take (SlT e a c l) H H₁ := by repeat (first | with_reducible exact Take.head | apply Take.tail)) (hx : evl ρ x = some (ea a (i * sz)) := by rfl) :
    OpQ P dfs n ρ H ⟨d, .load t x, ty, pos, af, g⟩ (.agg (e.enc y₀).toArray) := fun A w h s => by
  subst hsz
  obtain ⟨p, q, hr, hp'⟩ := row_at (e := e) hi
  rcases (s.perm hH.perm).slT with ⟨_, hl, _, _⟩ | ⟨b, pre, post, ha, _, _, s1⟩
  · subst hl; simp at hi
  · subst ha
    have hl1 : (pre ++ row e l ++ post).length = pre.length + (p.length + e.k + q.length) + post.length := by
      rw [hr]; simp [e.len]; omega
    have := loadCells_run (P := P) s1 .head e.k (pre.length + i * e.k) 0 #[] (by rw [hl1]; omega)
    have hd : ((pre ++ row e l ++ post).drop (pre.length + i * e.k)).take e.k = e.enc y₀ := by
      rw [hr, ← hp', List.append_assoc, List.drop_append, List.append_assoc, List.append_assoc]
      simp [List.take_append, e.len]
    simp only [Nat.add_zero, hd] at this
    simp [execOp, h.eval hx, Instr.loadAt, Instr.sureAddr, loadVar, (hp w).1, (hp w).2, loadCells, this, ea]
theorem Q_faT {i f k j : Nat} {fs : Array Field} {fd : Field} {y₀ : α} {H₁ : List HP} (hu : P.underlying t = some (.struct fs)) (hf : fs[f]? = some fd) (hk : fd.offset = k) (hs : (P.info? fd.type).map (·.size) = some (j + 1)) (hi : l[i]? = some y₀) {m : Nat} (hH : Take (SlT e a c l) H H₁ := by repeat (first | with_reducible exact Take.head | apply Take.tail)) (hx : evl ρ x = some (ea a m) := by rfl) :
    OpQ P dfs n ρ H ⟨d, .fieldAddr t x f, ty, pos, af, g⟩ (ea a (m + k)) := fun A w h s => by
  rcases (s.perm hH.perm).slT with ⟨_, hl, _, _⟩ | ⟨b, pre, post, ha, _, _, s1⟩
  · subst hl; simp at hi
  · subst ha
    obtain ⟨inf, hinf, hz⟩ := Option.map_eq_some_iff.1 hs
    have ha : Addr.add ⟨b, pre.length + m, none⟩ k = ⟨b, pre.length + (m + k), none⟩ := by unfold Addr.add; split <;> simp_all <;> omega
    simp [execOp, h.eval hx, Instr.fieldAt, underlying, hu, hf, Instr.sureAddr, fieldPlace, sizeOf, typeInfo, hinf, hz, hk, ha, ea]

/-! ### stores -/
theorem row_set {e : Enc α} : ∀ {l : List α} {i : Nat} {y y' : α}, l[i]? = some y → ∃ p q, row e l = p ++ e.enc y ++ q ∧ row e (l.set i y') = p ++ e.enc y' ++ q ∧ p.length = i * e.k
  | z :: l, 0, y, y', h => by
    simp at h
    subst h
    exact ⟨[], row e l, by simp [row], by simp [row], by simp⟩
  | z :: l, i + 1, y, y', h => by
    obtain ⟨p, q, h1, h3, h2⟩ := row_set (e := e) (l := l) (i := i) (y := y) (y' := y') (by simpa using h)
    refine ⟨e.enc z ++ p, q, ?_, ?_, ?_⟩
    · show e.enc z ++ row e l = _
      rw [h1]; simp
    · show e.enc z ++ row e (l.set i y') = _
      rw [h3]; simp
    · rw [List.length_append, e.len, h2, Nat.add_mul]; omega
theorem L_stT {i sz : Nat} {y₀ y₁ : α} {v : Value} {H₁ : List HP} (hs : (P.info? t).map (·.size) = some sz) (hi : l[i]? = some y₀) (h0 : e.enc y₀ = [v] ∨ True) (h1 : e.enc y₁ = [v]) (k : St dfs n ρ (SlT e a c (l.set i y₁) :: H₁) K) (hsz : sz = 1 := by rfl) (hH : Take (SlT e a c l) H H₁ := by repeat (first | with_reducible exact Take.head | apply Take.tail)) (hx : evl ρ x = some (ea a (i * sz)) := by rfl) (hy : evl ρ y = some v := by rfl) (ho : one v = true := by rfl) :
    OpL P Q dfs n ρ H ⟨none, .store t x y, ty, pos, af, g⟩ K := OpL.run0 fun A w h s => by
  subst hsz
  have hk : e.k = 1 := by rw [← e.len y₁, h1]; rfl
  obtain ⟨p, q, hr, hr', hp'⟩ := row_set (e := e) (y' := y₁) hi
  obtain ⟨inf, hinf, hz1⟩ := Option.map_eq_some_iff.1 hs
  rcases (s.perm hH.perm).slT with ⟨_, hl, _, _⟩ | ⟨b, pre, post, ha, g1, g2, s1⟩
  · subst hl; simp at hi
  · subst ha
    have hl1 : ∃ u, e.enc y₀ = [u] := by
      have := e.len y₀
      rw [hk] at this
      cases hh : e.enc y₀ with
      | nil => rw [hh] at this; cases this
      | cons u us => cases us with
        | nil => exact ⟨u, rfl⟩
        | cons _ _ => rw [hh] at this; simp at this
    obtain ⟨u, hu⟩ := hl1
    have hidx : pre.length + i * 1 = pre.length + p.length := by rw [hp', hk]
    have hc : w.cell? ⟨b, pre.length + i * 1, none⟩ = some u := by rw [s1.cell .head, hr, hidx, hu]; simp
    have hz : w.frozen? ⟨b, pre.length + i * 1, none⟩ = false := s1.frozen .head _
    have s2 : Sat (w.setCell ⟨b, pre.length + i * 1, none⟩ v) (cl b ((pre ++ row e l ++ post).set (pre.length + i * 1) v) e.E :: H₁) := s1.setCell UpdC.head
    have he : (pre ++ row e l ++ post).set (pre.length + i * 1) v = pre ++ row e (l.set i y₁) ++ post := by
      rw [hr, hr', hidx, hu, h1]
      simp
    rw [he] at s2
    have s3 := Sat.mk_slT (e := e) (c := c) s2 (by simpa using g1) (by rw [row_length] at g2 ⊢; simpa using g2)
    refine ⟨_, _, .inr ?_, s3, k⟩
    cases v <;> simp_all [execOp, h.eval hx, h.eval hy, Instr.storeAt, Instr.sureAddr, storeVar, sizeOf, typeInfo, Value.cells, storeCells, store, Sem.run, SL.one, Result.andThen, ea, Addr.add]

theorem conv_refl_tail {A : HP} {l l' : List HP} (h : Take A l l') : Conv l l' := by
  induction h with
  | head => exact .drop .refl
  | tail _ ih => exact .cons .head ih
theorem conv_of {A : HP} {l l' : List HP} (h : Take A l l') : Conv l l' := conv_refl_tail h
/-! ### append -/
theorem Sat.setCells {b T : Nat} : ∀ (us : List Value) {w : World} {o : Nat} {vs : List Value}, Sat w (cl b vs T :: H) → o + us.length ≤ vs.length → Sat (w.setCells b o us) (cl b (vs.take o ++ us ++ vs.drop (o + us.length)) T :: H)
  | [], w, o, vs, s, _ => by simpa [World.setCells] using s
  | v :: us, w, o, vs, s, h => by
    have s1 : Sat (w.setCell ⟨b, o, none⟩ v) (cl b (vs.set o v) T :: H) := s.setCell UpdC.head
    have s2 := Sat.setCells us (o := o + 1) s1 (by simp at h ⊢; omega)
    have e1 : (vs.set o v).take (o + 1) ++ us ++ (vs.set o v).drop (o + 1 + us.length) = vs.take o ++ (v :: us) ++ vs.drop (o + (v :: us).length) := by
      have hlt : o < vs.length := by simp at h; omega
      rw [List.drop_set, if_pos (by omega), show o + 1 + us.length = o + (v :: us).length by simp; omega]
      rw [List.take_succ_eq_append_getElem (by simpa using hlt), List.take_set_of_le (by omega)]
      simp
    rw [e1] at s2
    exact s2
theorem holdsV_of {w : World} {b o m : Nat} {vs : List Value} {T : Nat} {z : Nat × Nat} (h : w.heap[b]? = some (.cells vs.toArray T z)) (hm : o + m ≤ vs.length) : Room.holdsV w ⟨b, o, none⟩ m = true := by
  simp [Room.holdsV, World.shape?, h, hm]

/-- the source lies apart from the slice -/
def SrcApart (w : World) (xv : Value) (a : Option Addr) (m : Nat) : Prop :=
  (∃ p k cc, xv = .slice (some p) k cc ∧ Room.holdsV w p m = true ∧ ∀ q, a = some q → p.block ≠ q.block) ∨ (∃ sv, xv = .string sv) ∨ ∃ cc, xv = .slice none 0 cc
theorem share_none {w : World} {size sLen m c : Nat} {a : Option Addr} (hb : ∀ q, a = some q → Room.holdsV w q (sLen * size) = true ∧ w.frozen? (q.add (sLen / 2 * size)) = false) :
    (Builtin.mayShare size sLen m a (.slice none 0 c)).runT P w #[] = (.ok false w, #[]) := by
  cases a with
  | none => simp [-Sem.runT_eq, Builtin.mayShare, Room.Sem.bind_def, Room.Sem.runT_bind, Room.Sem.runT_pure']
  | some q =>
    obtain ⟨h1, h2⟩ := hb q rfl
    simp [-Sem.runT_eq, Builtin.mayShare, Room.Sem.bind_def, frozen, Sem.bind, Sem.runT, Room.Sem.runT_bind, Room.runT_holdsCells', Room.Sem.runT_pure', h1, h2]
theorem share_row {w : World} {size sLen m k c : Nat} {a : Option Addr} {p : Addr} (hb : ∀ q, a = some q → Room.holdsV w q (sLen * size) = true ∧ w.frozen? (q.add (sLen / 2 * size)) = false) (hx : Room.holdsV w p (m * size) = true) (hne : ∀ q, a = some q → p.block ≠ q.block) :
    (Builtin.mayShare size sLen m a (.slice (some p) k c)).runT P w #[] = (.ok false w, #[]) := by
  cases a with
  | none => simp [-Sem.runT_eq, Builtin.mayShare, Room.Sem.bind_def, Room.Sem.runT_bind, Room.Sem.runT_pure', Room.runT_holdsCells', hx]
  | some q =>
    obtain ⟨h1, h2⟩ := hb q rfl
    have h3 : q.block ≠ p.block := fun h => hne q rfl h.symm
    simp [-Sem.runT_eq, Builtin.mayShare, Room.Sem.bind_def, frozen, Sem.bind, Sem.runT, Room.Sem.runT_bind, Room.runT_holdsCells', Room.Sem.runT_pure', h1, h2, h3, hx]
/-- the heart of append: what it comes to, from a slice and a source -/
theorem append_core {tx ty : TypeId} {w : World} {xv : Value} {l₂ : List α} {H₁ H₂ : List HP} (ok : EncOk P e) (hu : P.underlying t = some (.slice e.E))
    (s : Sat w (SlT e a c l :: H₁)) (hsrc : Src P e.k tx xv l₂.length (row e l₂) w) (hB : (l.length + l₂.length) * e.bytes ≤ 140737488355328) (hH : Conv H₁ H₂) :
    ∃ v' w', (Builtin.append_ #[t, tx] ty #[.slice a l.length c, xv]).run P w = .ok v' w' ∧ ∃ a' c', v' = .slice a' (l ++ l₂).length c' ∧ Sat w' (SlT e a' c' (l ++ l₂) :: H₂) := by
  obtain ⟨i, zv, hi, hik, hib, hz, hzc⟩ := ok.info
  rw [← hib] at hB
  have hold : (Builtin.firstCells i.size l.length (.slice a l.length c)).run P w.drew = .ok (row e l).toArray w.drew := by
    rcases s.slT with ⟨ha, hl, hc, _⟩ | ⟨b, pre, post, ha, _, _, s1⟩
    · subst ha; subst hl; subst hc
      exact run_firstCells_none (P := P) w.drew i.size 0 0 0
    · subst ha
      refine run_firstCells_some (P := P) w.drew i.size l.length ⟨b, pre.length, none⟩ l.length c (row e l) (by rw [row_length, hik]) ?_
      intro j v hj
      have ha : Addr.add ⟨b, pre.length, none⟩ j = ⟨b, pre.length + j, none⟩ := by unfold Addr.add; split <;> simp_all
      rw [ha]
      show w.cell? _ = _
      rw [s1.cell .head]
      have hlt := (List.getElem?_eq_some_iff.1 hj).1
      rw [List.append_assoc, List.getElem?_append_right (by omega), show pre.length + j - pre.length = j by omega, List.getElem?_append_left hlt]
      exact hj
  rw [← hik] at hsrc
  by_cases hroom : l.length + l₂.length ≤ c
  · rcases s.slT with ⟨ha, hl, hc, s0⟩ | ⟨b, pre, post, ha, h1, h2, s1⟩
    · subst ha; subst hl; subst hc
      have h0 : l₂ = [] := by cases l₂ with
        | nil => rfl
        | cons _ _ => simp at hroom
      subst h0
      refine ⟨.slice none 0 0, w, ?_, none, 0, rfl, (hH.sat s0).mk_nil⟩
      have h0 : (Builtin.firstCells i.size 0 xv).run P w = .ok #[] w := hsrc.cells
      rcases hsrc.kind with ⟨e', hk⟩ | hk <;> simp [Builtin.append_, run_underlying hu, run_underlying hk, sizeOf, typeInfo, hi, hsrc.len, h0]
    · subst ha
      have hfit : pre.length + l.length * e.k + (row e l₂).length ≤ (pre ++ row e l ++ post).length := by
        have h5 : (l.length + l₂.length) * e.k ≤ c * e.k := Nat.mul_le_mul_right _ hroom
        simp only [List.length_append, row_length] at h2 ⊢
        rw [Nat.add_mul] at h5
        omega
      refine ⟨_, _, run_append_room_src (P := P) w t tx ty e.E i hu hi b pre.length l.length c xv l₂.length (row e l₂) hsrc hroom ?_ ?_, some ⟨b, pre.length, none⟩, c, by simp, ?_⟩
      · intro j hj
        rw [s1.cell .head, hik, List.getElem?_eq_getElem (by omega)]
        rfl
      · intro j hj
        exact s1.frozen .head _
      · have s2 := s1.setCells (row e l₂) (o := pre.length + l.length * e.k) hfit
        rw [hik]
        have e1 : (pre ++ row e l ++ post).take (pre.length + l.length * e.k) ++ row e l₂ ++ (pre ++ row e l ++ post).drop (pre.length + l.length * e.k + (row e l₂).length) = pre ++ row e (l ++ l₂) ++ post.drop (row e l₂).length := by
          have hlen : (pre ++ row e l).length = pre.length + l.length * e.k := by simp [row_length]
          rw [← hlen, List.take_append_of_le_length (Nat.le_refl _), List.take_length, List.drop_append, row_append]
          simp [List.drop_eq_nil_of_le]
        rw [e1] at s2
        have s3 : Sat _ (cl b (pre ++ row e (l ++ l₂) ++ post.drop (row e l₂).length) e.E :: H₂) := (Conv.cons .head hH).sat s2
        refine Sat.mk_slT (e := e) (c := c) s3 (by simpa using hroom) ?_
        have h5 : (l.length + l₂.length) * e.k ≤ c * e.k := Nat.mul_le_mul_right _ hroom
        simp only [row_append, List.length_append, List.length_drop, row_length] at h2 ⊢
        rw [Nat.add_mul] at h5
        omega
  · have hfits := growslice_fits (need := l.length + l₂.length) (old := c) (bytes := i.bytes) (by omega) hB
    have h63 : ((l.length + l₂.length : Nat) : Int) ≤ 9223372036854775807 := by
      have : l.length + l₂.length ≤ (l.length + l₂.length) * i.bytes := Nat.le_mul_of_pos_right _ (by rw [hib]; exact e.posb)
      omega
    refine ⟨_, _, run_append_grow_src (P := P) w t tx ty e.E i zv hu hi hz a l.length c (row e l) hold xv l₂.length (row e l₂) hsrc (by omega) h63 hfits, some ⟨w.heap.size, 0, none⟩, grownCap w (l.length + l₂.length) c e.E, by simp, ?_⟩
    have s1 : Sat w H₁ := s.tail
    have s2 : Sat w.drew H₁ := s1.same rfl
    have hg := grownCap_ge w (l.length + l₂.length) c e.E
    have harr : (row e l ++ row e l₂).toArray ++ Builtin.zeroCells zv.cells (grownCap w (l.length + l₂.length) c e.E - (l.length + l₂.length)) = ([] ++ row e (l ++ l₂) ++ (Builtin.zeroCells zv.cells (grownCap w (l.length + l₂.length) c e.E - (l.length + l₂.length))).toList).toArray := by
      rw [row_append]; apply Array.ext'; simp
    rw [harr]
    have s4 : Sat (w.drew.alloc (.cells ([] ++ row e (l ++ l₂) ++ (Builtin.zeroCells zv.cells (grownCap w (l.length + l₂.length) c e.E - (l.length + l₂.length))).toList).toArray e.E)) (cl w.heap.size ([] ++ row e (l ++ l₂) ++ (Builtin.zeroCells zv.cells (grownCap w (l.length + l₂.length) c e.E - (l.length + l₂.length))).toList) e.E :: H₂) :=
      by
        have s3 := s2.alloc (.cells ([] ++ row e (l ++ l₂) ++ (Builtin.zeroCells zv.cells (grownCap w (l.length + l₂.length) c e.E - (l.length + l₂.length))).toList).toArray e.E (0, 0))
        refine (Conv.cons .head hH).sat ?_
        exact s3
    refine Sat.mk_slT (e := e) (pre := []) s4 (by simpa using hg) ?_
    have hzl : (Builtin.zeroCells zv.cells (grownCap w (l.length + l₂.length) c e.E - (l.length + l₂.length))).toList.length = (grownCap w (l.length + l₂.length) c e.E - (l.length + l₂.length)) * e.k := by
      rw [Array.length_toList, size_zeroCells, hzc]
    rw [hzl, row_length]
    simp only [List.length_append]
    rw [← Nat.add_mul]
    exact Nat.mul_le_mul_right _ (by omega)
theorem OpL.app {d : Nat} {tx : TypeId} {l₂ : List α} {H₁ H₂ : List HP} (ok : EncOk P e) (hu : P.underlying t = some (.slice e.E)) (hB : (l.length + l₂.length) * e.bytes ≤ 140737488355328)
    {xv : Value} (hx : evl ρ x = some (.slice a l.length c)) (hy : evl ρ y = some xv) (hT : Take (SlT e a c l) H H₁) (hC : Conv H₁ H₂)
    (hsrc : ∀ w, Sat w (SlT e a c l :: H₁) → Src P e.k tx xv l₂.length (row e l₂) w)
    (k : ∀ a' c', St dfs n ((d, .slice a' (l ++ l₂).length c') :: ρ) (SlT e a' c' (l ++ l₂) :: H₂) K) (hd : d < n) :
    OpL P Q dfs n ρ H ⟨some d, .call ⟨.builtin .append, #[x, y], #[t, tx]⟩, ty, pos, af, g⟩ K := fun A w h s => by
  have s1 := s.perm hT.perm
  obtain ⟨v', w', hr, a', c', rfl, s'⟩ := append_core (ty := ty) ok hu s1 (hsrc w s1) hB hC
  left
  show Oper.upon _ _ _ _ _ _
  have e1 : (execOp A.eval ⟨some d, .call ⟨.builtin .append, #[x, y], #[t, tx]⟩, ty, pos, af, g⟩).run P w = .ok (.value (.slice a' (l ++ l₂).length c')) w' := by
    simp [execOp, resolve, invoke, builtin, h.eval hx, h.eval hy, hr]
  rw [e1]
  exact k a' c' _ _ (h.put hd _) s'
/-- append of what a new row holds -/
theorem L_append {d b n₂ c₂ : Nat} {l₂ : List α} {vs : List Value} {H₁ H₂ : List HP} (ok : EncOk P e) (hu : P.underlying t = some (.slice e.E)) (hvs : vs = row e l₂) (hB : (l.length + l₂.length) * e.bytes ≤ 140737488355328)
    (k : ∀ a' c', St dfs n ((d, .slice a' (l ++ l₂).length c') :: ρ) (SlT e a' c' (l ++ l₂) :: H₂) K) (hx : evl ρ x = some (.slice a l.length c) := by rfl) (hy : evl ρ y = some (.slice (some ⟨b, 0, none⟩) n₂ c₂) := by rfl) (hn : n₂ = l₂.length := by rfl)
    (hT : Take (SlT e a c l) H H₁ := by repeat (first | with_reducible exact Take.head | apply Take.tail)) (hT₂ : Take (cl b vs e.E) H₁ H₂ := by repeat (first | with_reducible exact Take.head | apply Take.tail)) (hd : d < n := by decide) :
    OpL P Q dfs n ρ H ⟨some d, .call ⟨.builtin .append, #[x, y], #[t, t]⟩, ty, pos, af, g⟩ K := by
  subst hn
  refine OpL.app ok hu hB hx hy hT (hC := conv_of hT₂) (fun w s => ?_) k hd
  have sb : Sat w (cl b vs e.E :: SlT e a c l :: H₂) := s.perm ((hT₂.perm.cons _).trans (.swap _ _ _))
  refine Src.ofSlice w hu ⟨b, 0, none⟩ l₂.length c₂ (row e l₂) (row_length e l₂) ?_ (row_one e l₂)
  intro j v hj
  have ha : Addr.add ⟨b, 0, none⟩ j = ⟨b, j, none⟩ := by unfold Addr.add; split <;> simp_all
  rw [ha, sb.cell .head, hvs]
  exact hj
end SL
end Go.Proofs.YtljjplndcbekfaaDoor
