/- The two cards about a host's line: the rows (whatever the input, the law's function returns true and leaves all as it was), and the cards. Its conditions: none beyond the rows' own. -/
import Derived.Test.YtljjplndcbekfaaDoorAdmLaw
import Derived.Test.YtljjplndcbekfaaDoorRows
import Derived.Test.YtljjplndcbekfaaDoorCards
import Derived.Test.YtljjplndcbekfaaDoorTie
import Derived.ProofKit
import Derived.OpenShut
import Derived.LaidMore
import Derived.LaidSub
import Derived.Lay
import Derived.SevenTiedAt
import Derived.Stop.Joined
import Derived.HandedShaped
import Derived.ChangeMaps5
import Derived.Shelf.Vars
namespace Go.Proofs.YtljjplndcbekfaaDoor
open Go Go.ChangeMaps Go.ChangeShapes Go.WideShapes Go.ChangeAt Go.RowKit SL A
set_option maxRecDepth 100000
theorem own : ownKnob Tryd.prog.godebug = none := by kernel_rfl
/-- a row with listed variables, the world's shape kept -/
theorem returns_shaped {H : Type} {enc : TypeId × Value → H} {a : Assume} {C : Checked} {os : Os} {f : FuncId} {fn : Func} {s : ChangeSpec} {conds : List PathCond} {apart fresh handsOn again : Bool} {X : World → Array Value → Prop}
    (hX : ∀ (w w' : World) (args : Array Value), w.heap = w'.heap → X w args → X w' args)
    (own : ownKnob C.prog.godebug = none) (started : os.Started) (noInit : C.prog.inits.idxOf? f = none) (hfn : C.prog.funcs[f]? = some fn)
    (witness : ∃ (w : World) (tape : Tape) (i : Input), w.os = os ∧ (w.forCall tape i).Shaped C.prog ∧ i.vars = [] ∧ Input.okWide C.prog (w.forCall tape i) .any w.heap.size f i ∧
      ((s.pre enc C.prog fn conds apart (w.forCall tape i).memory i.args ∧ X (w.forCall tape i).memory i.args) ∧ sizedMet enc C.prog fn (OpenSpec.ofChange s) apart (w.forCall tape i).memory i.args) ∧ a.holds C.prog (lone (Frame.enter C.prog f i.args .normal) [] (w.forCall tape i)))
    (contract : ∀ (W : World) (base : Nat) (args : Array Value) (ds gs : List (DataW H)) (before : List MemPlace),
      (∀ (j : Nat) t v, fn.params[j]? = some t → args[j]? = some v → Value.okWide C.prog W .any base t v) →
      DataW.Whole enc C.prog fn.params.toList s.vars apart W args.toList ds gs before →
      conds.all (PathCond.test C.prog ⟨fn.params.toList, ds, s.plain.varTypes C.prog, gs⟩) = true →
      X W args → W.ShapedOpen C.prog →
      Calls C.prog f args W fun e W' => ∃ v, e = .returned v ∧ s.post enc C.prog fn apart fresh handsOn again W args v W') :
    ReturnsInHanded a C os f .any (fun w args => (s.pre enc C.prog fn conds apart w args ∧ X w args) ∧ sizedMet enc C.prog fn (OpenSpec.ofChange s) apart w args) (s.post enc C.prog fn apart fresh handsOn again) := by
  refine returnsInHanded_of_calls own started noInit witness ?_
  intro w tape i _ hsh _ hok hpre _
  obtain ⟨_, _, _, fn', hfn', _, _, _, _, hval⟩ := hok
  have e : fn' = fn := Option.some.inj (hfn'.symm.trans hfn)
  subst e
  obtain ⟨⟨⟨ds, gs, before, hw, hc⟩, hx⟩, _⟩ := hpre
  have hw' := DataW.Whole.of_heap (w' := w.forCall tape i) (by rfl) hw
  refine (contract (w.forCall tape i) w.heap.size i.args ds gs before hval hw' hc (hX _ _ _ (by rfl) hx) hsh).mono fun e W' ⟨v, he, hp⟩ => ?_
  subst he
  exact ChangeSpec.post_blind hp
theorem iface_of_trod {H : Type} {enc : TypeId × Value → H} {P : Program} {w : World} {base : Nat} {sp : Nat → Bool} {held : Bool} {fuel : Nat} {t : TypeId} {cs : List Value} {x : DataW H × List MemPlace} {ms : Array (String × TypeId)}
    (ht : P.underlying t = some (.interface ms)) (h : DataW.trod enc P w base sp held fuel t cs = some x) : ∃ v, cs = [v] ∧ (v = .nilIface ∨ ∃ a b, v = .iface a b) := by
  cases fuel with
  | zero => simp [DataW.trod] at h
  | succ fuel =>
    unfold DataW.trod at h
    rw [ht] at h
    split at h <;> first | exact ⟨_, rfl, .inl rfl⟩ | exact ⟨_, rfl, .inr ⟨_, _, rfl⟩⟩ | simp_all
abbrev laidL := Rows.adminRowsRow.laid
theorem heap_of_var {W : World} {name : String} {g : Nat} {cs : Array Value} (hg : Tryd.prog.globalNamed name = some g) (h : W.var? Tryd.prog name = some cs) : ∃ T z, W.heap[g]? = some (.cells cs T z) := by
  unfold World.var? at h
  rw [hg] at h
  simp only [Option.bind_some] at h
  split at h
  · rename_i T z hh
    cases h
    exact ⟨T, z, hh⟩
  · cases h
theorem laid_one {W : World} {name : String} {d : DataW Unit} (h : laidMetH Tryd.prog laidL W) (hf : laidL.filter (fun x => x.1 == name) = [(name, d)]) (hn : d.handleName?.isNone = true) : laidMet Tryd.prog [(name, d)] W := by
  have h1 := laidMetH.filter (fun x => x.1 == name) h
  rw [hf] at h1
  rwa [MakeChecks.laidMetH_plain _ _ _ (by simp [hn])] at h1
theorem gok {W : World} (hs : W.ShapedOpen Tryd.prog) (h : laidMetH Tryd.prog laidL W) : Gok W := by
  refine ⟨?_, ?_, ?_, ?_⟩
  · obtain ⟨cs, hh, hsz, _⟩ := hs.1 0 #[.int .i64 0] 3 (of_decide_eq_true (by kernel_rfl)) (by kernel_rfl)
    obtain ⟨m, hm⟩ := cell_of_shapedOpen_int (g := 0) (t := 3) (zero := #[.int .i64 0]) (k := .i64) hs (of_decide_eq_true (by kernel_rfl)) (by kernel_rfl) rfl (by kernel_rfl) (by kernel_rfl) Tryd.underlying3
    have h1 : cs = #[.int .i64 m] := by
      have h2 : cs.size = 1 := hsz
      simp [World.cell?, hh] at hm
      exact Array.ext (by simp [h2]) (fun i h3 _ => by
        have : i = 0 := by omega
        subst this
        rw [Array.getElem?_eq_getElem h3] at hm
        simpa using hm)
    subst h1
    exact ⟨m, _, _, hh⟩
  · have h1 := laid_one h (name := "internal/strconv.uint64pow10") (d := Rows.laid_internal_strconv_uint64pow10) (by kernel_rfl) (by kernel_rfl)
    have h2 := Lib.tabIs_of_head (P := Tryd.prog) (W := W) (name := "internal/strconv.uint64pow10") (k := .u64) (zs := Lib.pow10Tab) (rest := []) (g := 1) (t := 100) (e := 80) (n := 20) (by kernel_rfl) (by kernel_rfl) (by kernel_rfl) (by kernel_rfl) (by kernel_rfl) (by kernel_rfl) h1
    exact heap_of_var (by kernel_rfl) h2
  · have h1 := laid_one h (name := "strconv.ErrSyntax") (d := Rows.laid_strconv_ErrSyntax) (by kernel_rfl) (by kernel_rfl)
    obtain ⟨ps, ⟨g, t, cs, fuel, p, q, hg, ht, hv, hd, _, _⟩, _, _⟩ := h1
    obtain rfl := Option.some.inj ((show Tryd.prog.globalNamed "strconv.ErrSyntax" = some 2 by kernel_rfl).symm.trans hg)
    obtain rfl := Option.some.inj ((show (Tryd.prog.globals[2]?).map (·.type) = some 60 by kernel_rfl).symm.trans ht)
    obtain ⟨v, hcs, hv'⟩ := iface_of_trod Tryd.underlying60 hd
    obtain ⟨T, z, hh⟩ := heap_of_var hg hv
    have : cs = #[v] := by rw [← Array.toList_inj]; exact hcs
    subst this
    exact ⟨v, T, z, hh, hv'⟩
  · have h1 := laid_one h (name := "strconv.ErrRange") (d := Rows.laid_strconv_ErrRange) (by kernel_rfl) (by kernel_rfl)
    obtain ⟨ps, ⟨g, t, cs, fuel, p, q, hg, ht, hv, hd, _, _⟩, _, _⟩ := h1
    obtain rfl := Option.some.inj ((show Tryd.prog.globalNamed "strconv.ErrRange" = some 3 by kernel_rfl).symm.trans hg)
    obtain rfl := Option.some.inj ((show (Tryd.prog.globals[3]?).map (·.type) = some 60 by kernel_rfl).symm.trans ht)
    obtain ⟨v, hcs, hv'⟩ := iface_of_trod Tryd.underlying60 hd
    obtain ⟨T, z, hh⟩ := heap_of_var hg hv
    have : cs = #[v] := by rw [← Array.toList_inj]; exact hcs
    subst this
    exact ⟨v, T, z, hh, hv'⟩
/-- all that the world W bears beside the library's variables -/
def Old (W : World) : HP := fun h => h 0 = some (.io W.os W.output) ∧ ∀ b, 4 ≤ b → ∀ o, W.heap[b]? = some o → h (b + 1) = some (.obj o)
theorem start {W : World} (h : Gok W) : Sat W [G W, Old W] := by
  refine ⟨fun b => decide (1 ≤ b ∧ b ≤ 4), fun b => !decide (1 ≤ b ∧ b ≤ 4), fun b => by dsimp only; cases decide (1 ≤ b ∧ b ≤ 4) <;> rfl, ⟨h, fun b hb o e => on_mk (by simp; omega) (ph_at.2 e)⟩, fun _ => true, fun _ => false, fun _ => rfl, ?_, trivial⟩
  rw [on_on]
  exact ⟨on_mk (by simp) rfl, fun b hb o e => on_mk (by simp; omega) (ph_at.2 e)⟩
theorem kept {W W' : World} (s : Sat W' [G W, Old W]) : W.keptBut W' (fun p => p ∈ ([] : List MemPlace)) := by
  have s2 := s.perm (.swap _ _ _)
  obtain ⟨S, _, _, ⟨_, hg⟩, _⟩ := s
  obtain ⟨S2, _, _, ⟨hio, ho⟩, _⟩ := s2
  have h0 := (on_some hio).2
  have h0' : (Cel.io W'.os W'.output) = Cel.io W.os W.output := Option.some.inj h0
  simp only [Cel.io.injEq] at h0'
  refine ⟨h0'.1, h0'.2, fun i hi => ?_⟩
  have e : W'.heap[i]? = W.heap[i]? := by
    rw [Array.getElem?_eq_getElem hi]
    by_cases h4 : i < 4
    · exact ph_at.1 (on_some (hg i h4 _ (Array.getElem?_eq_getElem hi))).2
    · exact ph_at.1 (on_some (ho i (by omega) _ (Array.getElem?_eq_getElem hi))).2
  rw [e]
  cases W.heap[i]? with
  | none => rfl
  | some o => cases o <;> simp
section
variable {H : Type} {enc : TypeId × Value → H} {P : Program} {w : World} {base : Nat} {sp : Nat → Bool} {held : Bool}
theorem open_arr3 {r : Reach} {b0 : Nat} {t e : TypeId} {v : Value} {d : DataW H} {ps : List MemPlace} (ht : P.underlying t = some (.array 3 e)) (he : P.underlying e = some (.int .i64)) (hc : P.cellsOf e = 1) (hct : P.cellsOf t = 3)
    (hval : Value.okWide P w r b0 t v) (hd : DataW.Trod enc P w base sp held t v d ps) : ∃ a b c, v = .agg #[.int .i64 a, .int .i64 b, .int .i64 c] ∧ d = .agg [.lit (.int .i64 a), .lit (.int .i64 b), .lit (.int .i64 c)] ∧ ps = [] ∧ (Lit.int .i64 a).wf = true ∧ (Lit.int .i64 b).wf = true ∧ (Lit.int .i64 c).wf = true := by
  unfold Value.okWide at hval
  rw [ht] at hval
  obtain ⟨cs, rfl, hsz, _⟩ := hval
  obtain ⟨fuel, hf⟩ := hd
  obtain ⟨xs, m, _, hx, hl, hxl, hel⟩ := DataW.trod_array ht hf
  rw [hct] at hl
  have hcs : (Value.agg cs).cells = cs := rfl
  rw [hcs] at hl hel
  obtain ⟨c0, c1, c2, hcl⟩ : ∃ c0 c1 c2, cs.toList = [c0, c1, c2] := by
    match hcl : cs.toList, hl with
    | [c0, c1, c2], _ => exact ⟨c0, c1, c2, rfl⟩
  obtain ⟨x0, x1, x2, rfl⟩ : ∃ x0 x1 x2, xs = [x0, x1, x2] := by
    match xs, hxl with
    | [x0, x1, x2], _ => exact ⟨x0, x1, x2, rfl⟩
  have h0 := hel 0 (by decide)
  have h1 := hel 1 (by decide)
  have h2 := hel 2 (by decide)
  rw [hc, hcl] at h0 h1 h2
  obtain ⟨a, e0, f0, w0⟩ := DataW.trod_int he h0
  obtain ⟨b, e1, f1, w1⟩ := DataW.trod_int he h1
  obtain ⟨c, e2, f2, w2⟩ := DataW.trod_int he h2
  simp at e0 e1 e2
  subst e0; subst e1; subst e2; subst f0; subst f1; subst f2
  simp only [List.map_cons, List.map_nil, List.flatMap_cons, List.flatMap_nil, List.append_nil, Prod.mk.injEq] at hx
  refine ⟨a, b, c, ?_, hx.1, hx.2, w0, w1, w2⟩
  rw [← Array.toArray_toList (xs := cs), hcl]
theorem shut_arr3 {t e : TypeId} {a b c : Int} (ht : P.underlying t = some (.array 3 e)) (he : P.underlying e = some (.int .i64)) (hc : P.cellsOf e = 1) (hct : P.cellsOf t = 3)
    (w0 : (Lit.int .i64 a).wf = true) (w1 : (Lit.int .i64 b).wf = true) (w2 : (Lit.int .i64 c).wf = true) : DataW.Trod enc P w base sp held t (.agg #[.int .i64 a, .int .i64 b, .int .i64 c]) (.agg [.lit (.int .i64 a), .lit (.int .i64 b), .lit (.int .i64 c)]) [] :=
  ⟨2, by simp [DataW.trod, ht, he, hc, hct, Value.cells, List.range_succ, w0, w1, w2]⟩
end
theorem wf_range {n : Int} (h : (Lit.int .i64 n).wf = true) : -9223372036854775808 ≤ n ∧ n ≤ 9223372036854775807 := by
  simp only [Lit.wf, Bool.and_eq_true, decide_eq_true_eq] at h
  have e1 : IntKind.i64.min = -9223372036854775808 := by decide
  have e2 : IntKind.i64.max = 9223372036854775807 := by decide
  rw [e1, e2] at h
  exact h
theorem bs_of (s : ByteArray) : ∃ l, s = bs l := ⟨s.data.toList, (bs_data s).symm⟩
theorem rows_calls {W : World} (h : Gok W) (s : ByteArray) (st a b c : Int) (ha : -9223372036854775808 ≤ a ∧ a ≤ 9223372036854775807) (hb : -9223372036854775808 ≤ b ∧ b ≤ 9223372036854775807) (hc : -9223372036854775808 ≤ c ∧ c ≤ 9223372036854775807) :
    Calls Tryd.prog 3 #[.string s, .int .i64 st, .agg #[.int .i64 a, .int .i64 b, .int .i64 c]] W fun e W' => e = .returned (.bool true) ∧ W.keptBut W' (fun p => p ∈ ([] : List MemPlace)) := by
  obtain ⟨l, rfl⟩ := bs_of s
  exact w_rows (gh := W) l st a b c ha hb hc [Old W] W _ (start h) (fun _ _ W' s' => ⟨rfl, kept s'⟩)
theorem parts_calls {W : World} (h : Gok W) (s : ByteArray) :
    Calls Tryd.prog 4 #[.string s] W fun e W' => e = .returned (.bool true) ∧ W.keptBut W' (fun p => p ∈ ([] : List MemPlace)) := by
  obtain ⟨l, rfl⟩ := bs_of s
  exact w_parts (gh := W) l [Old W] W _ (start h) (fun _ _ W' s' => ⟨rfl, kept s'⟩)
theorem rows_lifted (os : Os) (started : os.Started) (H : Type) (enc : TypeId × Value → H) :
    ReturnsInHanded {} Tryd.checked os 3 .any (fun w args => (Rows.adminRowsSpec.pre enc Tryd.prog Tryd.f3 [] false w args ∧ laidMetH Tryd.prog laidL w) ∧ sizedMet enc Tryd.prog Tryd.f3 (OpenSpec.ofChange Rows.adminRowsSpec) false w args)
      (Rows.adminRowsSpec.post enc Tryd.prog Tryd.f3 false true false false) := by
  refine returns_shaped (C := Tryd.checked) (X := fun w _ => laidMetH Tryd.prog laidL w) (fun _ _ _ hh h => h.of_heap hh) own started (by kernel_rfl) Tryd.func3
    (ChangeSpec.witness_shaped (enc := enc) (C := Tryd.checked) (os := os) (X := fun w _ => laidMetH Tryd.prog laidL w) false (World.laidAll Tryd.prog os laidL) #[.string ⟨#[]⟩, .int .i64 0, .agg #[.int .i64 0, .int .i64 0, .int .i64 0]] 8 (World.laidAll_os _ _ _)
      (World.shaped_of_ZipB (by kernel_rfl) (by kernel_rfl)) (by kernel_rfl) (by kernel_rfl) (by kernel_rfl)
      (by rw [MakeChecks.laidMetH_plain _ _ _ (by kernel_rfl)]; exact laidMet_laidAll _ (by kernel_rfl) (by kernel_rfl))) ?_
  intro W base args ds gs before hval0 hW _ hL hsh
  have hval : ∀ (j : Nat) t v, Tryd.f3.params[j]? = some t → args[j]? = some v → Value.okWide Tryd.prog W .any base t v := hval0
  have hW' := hW
  obtain ⟨p, q, hA0, hV0, rfl, hfz, hnd⟩ := hW
  have hA : DataW.TrodAll enc Tryd.prog W 0 (fun _ => true) true Tryd.f3.params.toList args.toList ds p := hA0
  have hV : DataW.TrodVars enc Tryd.prog W (fun _ => true) [] gs q := hV0
  rw [Tryd.params3] at hA hval
  obtain ⟨v0, v1, v2, d0, d1, d2, p0, p1, p2, ea, ed, ep, h0, h1, h2⟩ := trodAll_three hA
  subst ea; subst ed; subst ep
  obtain ⟨s, rfl, rfl, rfl, hs⟩ := open_string Tryd.underlying9 (hval 0 9 v0 rfl rfl) h0
  obtain ⟨n, rfl, rfl, rfl, hn⟩ := open_int Tryd.underlying3 (hval 1 3 v1 rfl rfl) h1
  obtain ⟨a, b, c, rfl, rfl, rfl, ha, hb, hc⟩ := open_arr3 Tryd.underlying22 Tryd.underlying3 (by kernel_rfl) (by kernel_rfl) (hval 2 22 v2 rfl rfl) h2
  obtain ⟨rfl, rfl⟩ := trodVars_none hV
  have e1 : Rows.adminRowsSpec.fn H ([.lit (.string s.data.toList), .lit (.int .i64 n), .agg [.lit (.int .i64 a), .lit (.int .i64 b), .lit (.int .i64 c)]] ++ []) = { results := [.lit (.bool true)], args := [.lit (.string s.data.toList), .lit (.int .i64 n), .agg [.lit (.int .i64 a), .lit (.int .i64 b), .lit (.int .i64 c)]] } := by simp [Rows.adminRowsSpec]
  refine (rows_calls (gok hsh hL) s n a b c (wf_range ha) (wf_range hb) (wf_range hc)).mono fun e W' ⟨he, hk⟩ => ?_
  subst he
  refine ⟨_, rfl, _, _, _, [], [], [], hW', ?_, ?_, ?_, World.keptBut_mono (fun p hp => by cases hp) hk, fun h => by cases h⟩
  · rw [e1]; exact trodAll_mk1 (shut_bool Tryd.underlying4 true)
  · rw [e1]; exact trodAll_mk3 (shut_string Tryd.underlying9 hs) (shut_int Tryd.underlying3 hn) (shut_arr3 Tryd.underlying22 Tryd.underlying3 (by kernel_rfl) (by kernel_rfl) ha hb hc)
  · rw [e1]; rfl
theorem parts_lifted (os : Os) (started : os.Started) (H : Type) (enc : TypeId × Value → H) :
    ReturnsInHanded {} Tryd.checked os 4 .any (fun w args => (Rows.adminPartsSpec.pre enc Tryd.prog Tryd.f4 [] false w args ∧ laidMetH Tryd.prog laidL w) ∧ sizedMet enc Tryd.prog Tryd.f4 (OpenSpec.ofChange Rows.adminPartsSpec) false w args)
      (Rows.adminPartsSpec.post enc Tryd.prog Tryd.f4 false true false false) := by
  refine returns_shaped (C := Tryd.checked) (X := fun w _ => laidMetH Tryd.prog laidL w) (fun _ _ _ hh h => h.of_heap hh) own started (by kernel_rfl) Tryd.func4
    (ChangeSpec.witness_shaped (enc := enc) (C := Tryd.checked) (os := os) (X := fun w _ => laidMetH Tryd.prog laidL w) false (World.laidAll Tryd.prog os laidL) #[.string ⟨#[]⟩] 8 (World.laidAll_os _ _ _)
      (World.shaped_of_ZipB (by kernel_rfl) (by kernel_rfl)) (by kernel_rfl) (by kernel_rfl) (by kernel_rfl)
      (by rw [MakeChecks.laidMetH_plain _ _ _ (by kernel_rfl)]; exact laidMet_laidAll _ (by kernel_rfl) (by kernel_rfl))) ?_
  intro W base args ds gs before hval0 hW _ hL hsh
  have hval : ∀ (j : Nat) t v, Tryd.f4.params[j]? = some t → args[j]? = some v → Value.okWide Tryd.prog W .any base t v := hval0
  have hW' := hW
  obtain ⟨p, q, hA0, hV0, rfl, hfz, hnd⟩ := hW
  have hA : DataW.TrodAll enc Tryd.prog W 0 (fun _ => true) true Tryd.f4.params.toList args.toList ds p := hA0
  have hV : DataW.TrodVars enc Tryd.prog W (fun _ => true) [] gs q := hV0
  rw [Tryd.params4] at hA hval
  obtain ⟨v0, d0, ea, ed, h0⟩ := trodAll_one hA
  subst ea; subst ed
  obtain ⟨s, rfl, rfl, rfl, hs⟩ := open_string Tryd.underlying9 (hval 0 9 v0 rfl rfl) h0
  obtain ⟨rfl, rfl⟩ := trodVars_none hV
  have e1 : Rows.adminPartsSpec.fn H ([.lit (.string s.data.toList)] ++ []) = { results := [.lit (.bool true)], args := [.lit (.string s.data.toList)] } := by simp [Rows.adminPartsSpec]
  refine (parts_calls (gok hsh hL) s).mono fun e W' ⟨he, hk⟩ => ?_
  subst he
  refine ⟨_, rfl, _, _, _, [], [], [], hW', ?_, ?_, ?_, World.keptBut_mono (fun p hp => by cases hp) hk, fun h => by cases h⟩
  · rw [e1]; exact trodAll_mk1 (shut_bool Tryd.underlying4 true)
  · rw [e1]; exact trodAll_mk1 (shut_string Tryd.underlying9 hs)
  · rw [e1]; rfl
theorem rows_said : Rows.AdminRowsSaid :=
  OpenClaim.holds_of_wide 3 Tryd.f3 rfl rfl rfl rfl rfl rfl rfl ⟨rfl, rfl, rfl, rfl, rfl⟩ rfl rfl rfl rfl rfl (by kernel_rfl) Tryd.func3 (by kernel_rfl)
    (of_decide_eq_true (by kernel_rfl)) (by unfold Func.isWrapper; rw [if_neg (of_decide_eq_false (by kernel_rfl))]; exact ⟨rfl, rfl⟩)
    (fun os started H enc _ => rows_lifted os started H enc)
theorem parts_said : Rows.AdminPartsSaid :=
  OpenClaim.holds_of_wide 4 Tryd.f4 rfl rfl rfl rfl rfl rfl rfl ⟨rfl, rfl, rfl, rfl, rfl⟩ rfl rfl rfl rfl rfl (by kernel_rfl) Tryd.func4 (by kernel_rfl)
    (of_decide_eq_true (by kernel_rfl)) (by unfold Func.isWrapper; rw [if_neg (of_decide_eq_false (by kernel_rfl))]; exact ⟨rfl, rfl⟩)
    (fun os started H enc _ => parts_lifted os started H enc)
theorem wants_none : ∀ t ∈ [9, 3, 22], Tryd.prog.wantsStandIn t = false := by
  intro t ht
  simp only [List.mem_cons, List.not_mem_nil, or_false] at ht
  rcases ht with rfl | rfl | rfl <;> kernel_rfl
theorem rows_card : Rows.AdminRowsCardSaid :=
  Claim7.holds_tied_plain_at .later [] [.data, .data, .data, .data, .sentinel, .sentinel, .pinned] true (true, "8f68d5a927e42a62017c5a86449bbdab2437077a8c36884be0218a16a3e0972a") true
    rows_said (fun _ h => by cases h) (by kernel_rfl) (fun _ h => by cases h) adminRows_row_tie rfl ⟨rfl, rfl⟩ (by kernel_rfl) rfl
    (fun f fn hf hfn => by
      obtain rfl : f = 3 := Option.some.inj ((show Tryd.prog.funcNamed "hostler/hostlerlaw19.AdminRows" = some 3 by kernel_rfl).symm.trans hf) |>.symm
      obtain rfl : fn = Tryd.f3 := (Option.some.inj (Tryd.func3.symm.trans hfn)).symm
      exact ⟨by kernel_rfl, fun j t ht => by
        rw [Tryd.params3] at ht
        refine wants_none t ?_
        have := List.mem_of_getElem? (l := [9, 3, 22]) (i := j) (a := t) (by simpa using ht)
        exact this⟩)
    (by kernel_rfl)
theorem parts_card : Rows.AdminPartsCardSaid :=
  Claim7.holds_tied_plain_at .later [] [.data, .data, .data, .data, .sentinel, .sentinel, .pinned] true (true, "8f68d5a927e42a62017c5a86449bbdab2437077a8c36884be0218a16a3e0972a") true
    parts_said (fun _ h => by cases h) (by kernel_rfl) (fun _ h => by cases h) adminParts_row_tie rfl ⟨rfl, rfl⟩ (by kernel_rfl) rfl
    (fun f fn hf hfn => by
      obtain rfl : f = 4 := Option.some.inj ((show Tryd.prog.funcNamed "hostler/hostlerlaw19.AdminParts" = some 4 by kernel_rfl).symm.trans hf) |>.symm
      obtain rfl : fn = Tryd.f4 := (Option.some.inj (Tryd.func4.symm.trans hfn)).symm
      exact ⟨by kernel_rfl, fun j t ht => by
        rw [Tryd.params4] at ht
        refine wants_none t ?_
        have := List.mem_of_getElem? (l := [9]) (i := j) (a := t) (by simpa using ht)
        exact List.mem_of_mem_take (i := 1) this⟩)
    (by kernel_rfl)
#print axioms rows_card
#print axioms parts_card
end Go.Proofs.YtljjplndcbekfaaDoor
