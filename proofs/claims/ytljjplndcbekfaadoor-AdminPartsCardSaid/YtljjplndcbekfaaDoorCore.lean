/- A small separation logic over the kit's weakest preconditions: predicates on parts of the heap, lists of them, and how a world bears them. Its conditions: none. -/
import Derived.WalkKit
import Derived.Deep.Quiet
import Derived.Deep.LoopGhost
import Derived.Scope
namespace Go.Proofs.YtljjplndcbekfaaDoor
namespace SL

/-! ### heaps in part -/
/-- what a place of the world bears: place 0 the outside, place b + 1 the block b -/
inductive Cel
  | obj (o : Obj)
  | io (os : Os) (out : Array (Nat × ByteArray))
abbrev PH := Nat → Option Cel
abbrev HP := PH → Prop
def PH.on (h : PH) (S : Nat → Bool) : PH := fun b => if S b then h b else none
def ph (w : World) : PH := fun b => match b with
  | 0 => some (.io w.os w.output)
  | b + 1 => (w.heap[b]?).map .obj
theorem ph_at {w : World} {b : Nat} {o : Obj} : ph w (b + 1) = some (.obj o) ↔ w.heap[b]? = some o := by
  show (w.heap[b]?).map Cel.obj = some (.obj o) ↔ _
  cases w.heap[b]? <;> simp
def star (A B : HP) : HP := fun h => ∃ S T : Nat → Bool, (∀ b, (S b && T b) = false) ∧ A (h.on S) ∧ B (h.on T)
def stars : List HP → HP
  | [] => fun _ => True
  | A :: l => star A (stars l)
def Sat (w : World) (l : List HP) : Prop := stars l (ph w)

/-- block b is the object o -/
def ob (b : Nat) (o : Obj) : HP := fun h => h (b + 1) = some (.obj o)
/-- block b is a row of cells -/
def cl (b : Nat) (vs : List Value) (T : Nat) : HP := ob b (.cells vs.toArray T (0, 0))
def ex {α : Type} (f : α → HP) : HP := fun h => ∃ x, f x h
def wth (φ : Prop) (l : List HP) : HP := fun h => φ ∧ stars l h

theorem on_on (h : PH) (S T) : (h.on S).on T = h.on fun b => S b && T b := by
  funext b
  unfold PH.on
  dsimp only
  by_cases hs : S b = true <;> by_cases ht : T b = true <;> simp [hs, ht]
theorem on_congr {h : PH} {S T : Nat → Bool} (e : ∀ b, S b = T b) : h.on S = h.on T := by rw [funext e]
theorem on_some {h : PH} {S : Nat → Bool} {b : Nat} {o : Cel} (e : h.on S b = some o) : S b = true ∧ h b = some o := by
  unfold PH.on at e
  split at e
  · rename_i hs; exact ⟨hs, e⟩
  · cases e
theorem on_mk {h : PH} {S : Nat → Bool} {b : Nat} {o : Cel} (hs : S b = true) (e : h b = some o) : h.on S b = some o := by
  unfold PH.on; rw [if_pos hs]; exact e

theorem star_swap {A B C : HP} {h : PH} (H : star A (star B C) h) : star B (star A C) h := by
  obtain ⟨S, T, d, ha, U, V, d', hb, hc⟩ := H
  rw [on_on] at hb hc
  refine ⟨fun b => T b && U b, fun b => S b || (T b && V b), ?_, hb, S, fun b => T b && V b, ?_, ?_, ?_⟩
  · intro b; dsimp only; have h1 := d b; have h2 := d' b; revert h1 h2; cases S b <;> cases T b <;> cases U b <;> cases V b <;> simp
  · intro b; dsimp only; have h1 := d b; revert h1; cases S b <;> cases T b <;> simp
  · rw [on_on, on_congr (T := S)]; exact ha; intro b; cases S b <;> simp
  · rw [on_on, on_congr (T := fun b => T b && V b)]; exact hc; intro b; cases S b <;> simp

theorem star_mono {A A' B B' : HP} {h : PH} (H : star A B h) (a : ∀ x, A x → A' x) (b : ∀ x, B x → B' x) : star A' B' h :=
  let ⟨S, T, d, ha, hb⟩ := H; ⟨S, T, d, a _ ha, b _ hb⟩

theorem stars_on {l : List HP} : ∀ {h : PH} {S : Nat → Bool}, stars l (h.on S) → stars l h := by
  cases l with
  | nil => exact fun _ => trivial
  | cons A l =>
    rintro h S ⟨U, V, d, a, b⟩
    rw [on_on] at a b
    exact ⟨_, _, fun x => by have := d x; cases S x <;> simp_all, a, b⟩

theorem stars_perm {l l' : List HP} (p : l.Perm l') : ∀ {h}, stars l h → stars l' h := by
  induction p with
  | nil => exact fun h => h
  | cons A _ ih => exact fun h => star_mono h (fun _ a => a) (fun _ b => ih b)
  | swap A B l => exact fun h => star_swap h
  | trans _ _ i j => exact fun h => j (i h)

theorem stars_le {l : List HP} {h h' : PH} (le : ∀ b o, h b = some o → h' b = some o) (s : stars l h) : stars l h' := by
  have : h = h'.on fun b => (h b).isSome := by
    funext b
    unfold PH.on
    dsimp only
    by_cases e : h b = none
    · simp [e]
    · obtain ⟨o, e⟩ := Option.ne_none_iff_exists'.1 e
      simp [e, le b o e]
  rw [this] at s
  exact stars_on s

theorem stars_append {l l' : List HP} : ∀ {h : PH}, star (stars l) (stars l') h → stars (l ++ l') h := by
  induction l with
  | nil => exact fun ⟨S, T, _, _, b⟩ => stars_on b
  | cons A l ih =>
    rintro h ⟨S, T, d, ⟨U, V, d', a, b⟩, c⟩
    rw [on_on] at a b
    refine ⟨fun x => S x && U x, fun x => (S x && V x) || T x, ?_, a, ih ⟨fun x => S x && V x, T, ?_, ?_, ?_⟩⟩
    · intro x; dsimp only; have h1 := d x; have h2 := d' x; revert h1 h2; cases S x <;> cases T x <;> cases U x <;> cases V x <;> simp
    · intro x; dsimp only; have h1 := d x; revert h1; cases S x <;> cases T x <;> simp
    · rw [on_on, on_congr (T := fun x => S x && V x)]; exact b; intro x; cases S x <;> cases V x <;> simp
    · rw [on_on, on_congr (T := T)]; exact c; intro x; cases T x <;> simp

theorem stars_split {l l' : List HP} : ∀ {h : PH}, stars (l ++ l') h → star (stars l) (stars l') h := by
  induction l with
  | nil =>
    intro h s
    have e : h.on (fun _ => true) = h := by funext b; simp [PH.on]
    exact ⟨fun _ => false, fun _ => true, fun _ => rfl, trivial, by rw [e]; exact s⟩
  | cons A l ih =>
    rintro h ⟨S, T, d, a, b⟩
    obtain ⟨U, V, d', c, e⟩ := ih b
    rw [on_on] at c e
    refine ⟨fun x => S x || (T x && U x), fun x => T x && V x, ?_, ⟨S, fun x => T x && U x, ?_, ?_, ?_⟩, e⟩
    · intro x; dsimp only; have h1 := d x; have h2 := d' x; revert h1 h2; cases S x <;> cases T x <;> cases U x <;> cases V x <;> simp
    · intro x; dsimp only; have h1 := d x; revert h1; cases S x <;> cases T x <;> simp
    · rw [on_on, on_congr (T := S)]; exact a; intro x; cases S x <;> simp
    · rw [on_on, on_congr (T := fun x => T x && U x)]; exact c; intro x; cases S x <;> simp

theorem Sat.perm {w : World} {l l' : List HP} (p : l.Perm l') (h : Sat w l) : Sat w l' := stars_perm p h
theorem Sat.tail {w : World} {A : HP} {l : List HP} (h : Sat w (A :: l)) : Sat w l := let ⟨_, _, _, _, b⟩ := h; stars_on b
theorem Sat.drop {w : World} {l l' : List HP} (h : Sat w (l ++ l')) : Sat w l' := by
  induction l with
  | nil => exact h
  | cons A l ih => exact ih h.tail

/-- a piece of a list of predicates: A is taken out of l, l' is left -/
inductive Take : HP → List HP → List HP → Prop
  | head {A l} : Take A (A :: l) l
  | tail {A B l l'} (h : Take A l l') : Take A (B :: l) (B :: l')
theorem Take.perm {A : HP} {l l' : List HP} (h : Take A l l') : l.Perm (A :: l') := by
  induction h with
  | head => exact .refl _
  | tail _ ih => exact (ih.cons _).trans (.swap _ _ _)
/-- the pieces of `pre` are taken out of l, F is left -/
inductive Pick : List HP → List HP → List HP → Prop
  | nil {l} : Pick [] l l
  | cons {A pre l l' F} (h : Take A l l') (h' : Pick pre l' F) : Pick (A :: pre) l F
theorem Pick.perm {pre l F : List HP} (h : Pick pre l F) : l.Perm (pre ++ F) := by
  induction h with
  | nil => exact .refl _
  | cons h _ ih => exact h.perm.trans (ih.cons _)
theorem Pick.sat {w : World} {pre l F : List HP} (h : Pick pre l F) (s : Sat w l) : Sat w (pre ++ F) := s.perm h.perm
theorem Pick.sat' {w : World} {pre l F : List HP} (h : Pick pre l F) (s : Sat w l) : Sat w pre :=
  (s.perm (h.perm.trans (List.perm_append_comm))).drop

theorem Sat.heap {w : World} {b : Nat} {o : Obj} {l l' : List HP} (h : Take (ob b o) l l') (s : Sat w l) : w.heap[b]? = some o := by
  obtain ⟨S, _, _, a, _⟩ := s.perm h.perm
  exact ph_at.1 (on_some a).2
theorem Sat.lt {w : World} {b : Nat} {o : Obj} {l l' : List HP} (h : Take (ob b o) l l') (s : Sat w l) : b < w.heap.size :=
  (Array.getElem?_eq_some_iff.1 (s.heap h)).1
theorem Sat.ne {w : World} {b b' : Nat} {o o' : Obj} {l : List HP} (s : Sat w (ob b o :: ob b' o' :: l)) : b ≠ b' := by
  obtain ⟨S, T, d, a, U, V, d', a', _⟩ := s
  have h1 := (on_some a).1
  rw [on_on] at a'
  have h2 := (on_some a').1
  intro e
  subst e
  have := d (b + 1)
  simp only [h1, Bool.true_and, Bool.and_eq_true] at h2 this
  rw [h2.1] at this
  cases this

/-- opening -/
theorem Sat.ex {α : Type} {f : α → HP} {w : World} {l : List HP} (h : Sat w (ex f :: l)) : ∃ x, Sat w (f x :: l) :=
  let ⟨S, T, d, ⟨x, a⟩, b⟩ := h; ⟨x, S, T, d, a, b⟩
theorem Sat.wth {φ : Prop} {L : List HP} {w : World} {l : List HP} (h : Sat w (wth φ L :: l)) : φ ∧ Sat w (L ++ l) :=
  let ⟨S, T, d, ⟨x, a⟩, b⟩ := h; ⟨x, stars_append ⟨S, T, d, a, b⟩⟩
theorem Sat.mk_ex {α : Type} {f : α → HP} {w : World} {l : List HP} (x : α) (h : Sat w (f x :: l)) : Sat w (SL.ex f :: l) :=
  let ⟨S, T, d, a, b⟩ := h; ⟨S, T, d, ⟨x, a⟩, b⟩
theorem Sat.mk_wth {φ : Prop} {L : List HP} {w : World} {l : List HP} (x : φ) (h : Sat w (L ++ l)) : Sat w (SL.wth φ L :: l) :=
  let ⟨S, T, d, a, b⟩ := stars_split h; ⟨S, T, d, ⟨x, a⟩, b⟩

/-! ### changes of the world -/
/-- in l the object at b is o; l' is l with o' there -/
inductive Upd : List HP → Nat → Obj → Obj → List HP → Prop
  | head {b o o' l} : Upd (ob b o :: l) b o o' (ob b o' :: l)
  | tail {A b o o' l l'} (h : Upd l b o o' l') : Upd (A :: l) b o o' (A :: l')
theorem Upd.take {l l' : List HP} {b : Nat} {o o' : Obj} (h : Upd l b o o' l') : ∃ r, Take (ob b o) l r ∧ Take (ob b o') l' r := by
  induction h with
  | head => exact ⟨_, .head, .head⟩
  | tail _ ih => obtain ⟨r, a, b⟩ := ih; exact ⟨_, a.tail, b.tail⟩

theorem Sat.of_heap {w w' : World} {l : List HP} (s : Sat w l) (h : ∀ (b : Nat) (o : Obj), w.heap[b]? = some o → w'.heap[b]? = some o) (hio : w'.os = w.os ∧ w'.output = w.output := by exact ⟨rfl, rfl⟩) : Sat w' l := stars_le (fun b o e => by
  cases b with
  | zero => show some (Cel.io w'.os w'.output) = _; rw [hio.1, hio.2]; exact e
  | succ b =>
    obtain ⟨o', e1, e2⟩ := Option.map_eq_some_iff.1 (show (w.heap[b]?).map Cel.obj = some o from e)
    subst e2
    exact ph_at.2 (h b o' e1)) s
theorem Sat.same {w w' : World} {l : List HP} (s : Sat w l) (h : w'.heap = w.heap) (hio : w'.os = w.os ∧ w'.output = w.output := by exact ⟨rfl, rfl⟩) : Sat w' l := s.of_heap (fun b o e => by rw [h]; exact e) hio

theorem Sat.upd {w w' : World} {l l' : List HP} {b : Nat} {o o' : Obj} (u : Upd l b o o' l') (s : Sat w l) (hb : w'.heap[b]? = some o') (hr : ∀ c, c ≠ b → w'.heap[c]? = w.heap[c]?) (hio : w'.os = w.os ∧ w'.output = w.output := by exact ⟨rfl, rfl⟩) : Sat w' l' := by
  obtain ⟨r, t, t'⟩ := u.take
  obtain ⟨S, T, d, a, c⟩ := s.perm t.perm
  have hS := (on_some a).1
  have e : (ph w').on T = (ph w).on T := by
    funext x
    unfold PH.on
    by_cases hx : T x = true
    · simp only [hx, if_true]
      cases x with
      | zero => show some (Cel.io w'.os w'.output) = some (Cel.io w.os w.output); rw [hio.1, hio.2]
      | succ x =>
        show (w'.heap[x]?).map Cel.obj = (w.heap[x]?).map Cel.obj
        rw [hr x fun e => by subst e; have := d (x + 1); rw [hS, hx] at this; cases this]
    · simp only [hx]; rfl
  exact (show Sat w' (ob b o' :: r) from ⟨S, T, d, on_mk hS (ph_at.2 hb), by rw [e]; exact c⟩).perm t'.perm.symm

theorem Sat.new {w w' : World} {l : List HP} {n : Nat} {o : Obj} (s : Sat w l) (hn : w.heap[n]? = none) (hb : w'.heap[n]? = some o) (hr : ∀ c, c ≠ n → w'.heap[c]? = w.heap[c]?) (hio : w'.os = w.os ∧ w'.output = w.output := by exact ⟨rfl, rfl⟩) : Sat w' (ob n o :: l) := by
  refine ⟨fun x => x == n + 1, fun x => !(x == n + 1), fun x => by dsimp only; cases (x == n + 1) <;> rfl, on_mk (by simp) (ph_at.2 hb), ?_⟩
  refine stars_le (h := ph w) ?_ s
  intro b o' e
  have hne : b ≠ n + 1 := fun e' => by subst e'; unfold ph at e; simp [hn] at e
  refine on_mk (by simpa using hne) ?_
  cases b with
  | zero => show some (Cel.io w'.os w'.output) = _; rw [hio.1, hio.2]; exact e
  | succ b =>
    show (w'.heap[b]?).map Cel.obj = _
    rw [hr b (fun h => hne (by rw [h]))]
    exact e

theorem Sat.alloc {w : World} {l : List HP} (s : Sat w l) (o : Obj) : Sat { w with heap := w.heap.push o } (ob w.heap.size o :: l) :=
  s.new (by simp) (by simp) (fun c hc => by
    show (w.heap.push o)[c]? = _
    rw [Array.getElem?_push, if_neg hc])
theorem Sat.set {w : World} {l l' : List HP} {b : Nat} {o o' : Obj} (s : Sat w l) (u : Upd l b o o' l') : Sat { w with heap := w.heap.setIfInBounds b o' } l' := by
  obtain ⟨r, t, _⟩ := u.take
  have hlt := s.lt t
  exact s.upd u (by simp [hlt]) (fun c hc => by simp [Ne.symm hc])

theorem cell_of {w : World} {b : Nat} {vs : List Value} {T : Nat} {z : Nat × Nat} (h : w.heap[b]? = some (.cells vs.toArray T z)) (i : Nat) : w.cell? ⟨b, i, none⟩ = vs[i]? := by
  unfold World.cell?
  rw [h]
  simp
theorem Sat.cell {w : World} {b : Nat} {vs : List Value} {T : Nat} {l l' : List HP} (h : Take (cl b vs T) l l') (s : Sat w l) (i : Nat) : w.cell? ⟨b, i, none⟩ = vs[i]? := cell_of (s.heap h) i
theorem Sat.frozen {w : World} {b : Nat} {vs : List Value} {T : Nat} {l l' : List HP} (h : Take (cl b vs T) l l') (s : Sat w l) (i : Nat) : w.frozen? ⟨b, i, none⟩ = false := by
  unfold World.frozen?
  rw [s.heap h]
  simp
theorem heap_setCell {w : World} {b i : Nat} {v : Value} {vs : List Value} {T : Nat} (h : w.heap[b]? = some (.cells vs.toArray T (0, 0))) :
    (w.setCell ⟨b, i, none⟩ v).heap[b]? = some (.cells (vs.set i v).toArray T (0, 0)) ∧ ∀ c, c ≠ b → (w.setCell ⟨b, i, none⟩ v).heap[c]? = w.heap[c]? := by
  unfold World.setCell
  constructor
  · simp [Array.getElem?_modify, h]
  · intro c hc
    simp [Array.getElem?_modify, Ne.symm hc]
/-- in l block b is the row vs; l' is l with the row vs' there -/
abbrev UpdC (l : List HP) (b : Nat) (vs : List Value) (T : Nat) (vs' : List Value) (l' : List HP) : Prop := Upd l b (.cells vs.toArray T (0, 0)) (.cells vs'.toArray T (0, 0)) l'
theorem UpdC.head {b vs T vs' l} : UpdC (cl b vs T :: l) b vs T vs' (cl b vs' T :: l) := Upd.head
theorem Sat.setCell {w : World} {b i : Nat} {v : Value} {vs : List Value} {T : Nat} {l l' : List HP} (s : Sat w l) (u : UpdC l b vs T (vs.set i v) l') : Sat (w.setCell ⟨b, i, none⟩ v) l' := by
  obtain ⟨r, t, _⟩ := u.take
  have h := heap_setCell (i := i) (v := v) (s.heap t)
  exact s.upd u h.1 h.2

/-! ### frames -/
abbrev Env := List (Nat × Value)
def Env.get : Env → Nat → Option Value
  | [], _ => none
  | (k, v) :: l, t => match Nat.beq k t with
    | true => some v
    | false => Env.get l t
def evl (ρ : Env) : Operand → Option Value
  | .tmp t => ρ.get t
  | .const v => some v
  | .global g => some (.pointer (some ⟨g, 0, none⟩))
  | .func f => some (.func (.func f) #[] #[])
structure Agree (dfs : List Deferred) (n : Nat) (ρ : Env) (a : Act) : Prop where
  defers : a.defers = dfs
  size : a.tmps.size = n
  get : ∀ t v, ρ.get t = some v → a.tmps.getD t undef = v
theorem Agree.eval {dfs : List Deferred} {n : Nat} {ρ : Env} {a : Act} (h : Agree dfs n ρ a) {x : Operand} {v : Value} (e : evl ρ x = some v) : a.eval x = v := by
  cases x with
  | tmp t => exact h.get t v e
  | const u => exact Option.some.inj e
  | global g => exact Option.some.inj e
  | func f => exact Option.some.inj e
theorem Agree.put {dfs : List Deferred} {n : Nat} {ρ : Env} {a : Act} (h : Agree dfs n ρ a) {d : Nat} (hd : d < n) (v : Value) : Agree dfs n ((d, v) :: ρ) (a.put (some d) v) where
  defers := h.defers
  size := by simp [Act.put, h.size]
  get t u e := by
    have hs := h.size
    simp only [Env.get] at e
    by_cases ht : d = t
    · subst ht
      simp at e
      subst e
      simp [Act.put, hs, hd]
    · have : Nat.beq d t = false := by cases hb : Nat.beq d t with | false => rfl | true => exact absurd (Nat.eq_of_beq_eq_true hb) ht
      rw [this] at e
      simp only [Act.put]
      rw [Array.getD_eq_getD_getElem?, Array.getElem?_setIfInBounds]
      simp only [ht, if_false]
      rw [← Array.getD_eq_getD_getElem?]
      exact h.get t u e
theorem Agree.put_none {dfs : List Deferred} {n : Nat} {ρ : Env} {a : Act} (h : Agree dfs n ρ a) (v : Value) : Agree dfs n ρ (a.put none v) := ⟨h.defers, h.size, h.get⟩
theorem Agree.mono {dfs : List Deferred} {n : Nat} {ρ ρ' : Env} {a : Act} (h : Agree dfs n ρ a) (hs : ∀ t v, ρ'.get t = some v → ρ.get t = some v) : Agree dfs n ρ' a := ⟨h.defers, h.size, fun t v e => h.get t v (hs t v e)⟩
/-- the frames that agree with ρ in the worlds that bear H -/
def St (dfs : List Deferred) (n : Nat) (ρ : Env) (H : List HP) (K : Act → World → Prop) : Prop := ∀ a w, Agree dfs n ρ a → Sat w H → K a w

end SL
end Go.Proofs.YtljjplndcbekfaaDoor
