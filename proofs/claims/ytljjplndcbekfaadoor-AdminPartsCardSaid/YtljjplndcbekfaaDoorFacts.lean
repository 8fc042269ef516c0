/- Closed facts of the program: which functions can be called, where fields lie, how large types are. Its conditions: none. -/
import Derived.Test.YtljjplndcbekfaaDoorProg
import Derived.Test.YtljjplndcbekfaaDoorRules8
import Derived.KernelRfl
namespace Go.Proofs.YtljjplndcbekfaaDoor
open SL
theorem ag_22 : Agg Tryd.prog 22 3 := Agg.of Tryd.underlying22 rfl (by kernel_rfl)
theorem ag_33 : Agg Tryd.prog 33 2 := Agg.of Tryd.underlying33 rfl (by kernel_rfl)
theorem bd_22_0_1_2 (x0 : Int) (x1 : Int) (x2 : Int) (w : World) : (Instr.build 22 #[(0, (.int .i64 x0)), (1, (.int .i64 x1)), (2, (.int .i64 x2))]).run Tryd.prog w = .ok (.agg #[(.int .i64 x0), (.int .i64 x1), (.int .i64 x2)]) w := by kernel_rfl
theorem bd_33_0 (x0 : Int) (w : World) : (Instr.build 33 #[(0, (.int .i64 x0))]).run Tryd.prog w = .ok (.agg #[(.int .i64 x0), (.string ⟨#[]⟩)]) w := by kernel_rfl
theorem bd_53_0_1_2_3_4_5_6_7_8_9_10_11_12_13 (x0 : ByteArray) (x1 : ByteArray) (x2 : ByteArray) (x3 : ByteArray) (x4 : ByteArray) (x5 : ByteArray) (x6 : ByteArray) (x7 : ByteArray) (x8 : ByteArray) (x9 : ByteArray) (x10 : ByteArray) (x11 : ByteArray) (x12 : ByteArray) (x13 : ByteArray) (w : World) : (Instr.build 53 #[(0, (.string x0)), (1, (.string x1)), (2, (.string x2)), (3, (.string x3)), (4, (.string x4)), (5, (.string x5)), (6, (.string x6)), (7, (.string x7)), (8, (.string x8)), (9, (.string x9)), (10, (.string x10)), (11, (.string x11)), (12, (.string x12)), (13, (.string x13))]).run Tryd.prog w = .ok (.agg #[(.string x0), (.string x1), (.string x2), (.string x3), (.string x4), (.string x5), (.string x6), (.string x7), (.string x8), (.string x9), (.string x10), (.string x11), (.string x12), (.string x13)]) w := by kernel_rfl
theorem bs_26_1_0 (x0 : Int) (w : World) : (Instr.buildSlice 26 1 #[(0, (.int .i64 x0))]).run Tryd.prog w = .ok (.slice (some ⟨w.heap.size, 0, none⟩) 1 1) (w.alloc (.cells #[(.int .i64 x0)] 3 (0, 0))) := by kernel_rfl
theorem bs_42_1_0 (x0 : ByteArray) (w : World) : (Instr.buildSlice 42 1 #[(0, (.string x0))]).run Tryd.prog w = .ok (.slice (some ⟨w.heap.size, 0, none⟩) 1 1) (w.alloc (.cells #[(.string x0)] 9 (0, 0))) := by kernel_rfl
theorem bs_42_4_0_1_2_3 (x0 : ByteArray) (x1 : ByteArray) (x2 : ByteArray) (x3 : ByteArray) (w : World) : (Instr.buildSlice 42 4 #[(0, (.string x0)), (1, (.string x1)), (2, (.string x2)), (3, (.string x3))]).run Tryd.prog w = .ok (.slice (some ⟨w.heap.size, 0, none⟩) 4 4) (w.alloc (.cells #[(.string x0), (.string x1), (.string x2), (.string x3)] 9 (0, 0))) := by kernel_rfl
theorem bs_42_5_0_1_2_3_4 (x0 : ByteArray) (x1 : ByteArray) (x2 : ByteArray) (x3 : ByteArray) (x4 : ByteArray) (w : World) : (Instr.buildSlice 42 5 #[(0, (.string x0)), (1, (.string x1)), (2, (.string x2)), (3, (.string x3)), (4, (.string x4))]).run Tryd.prog w = .ok (.slice (some ⟨w.heap.size, 0, none⟩) 5 5) (w.alloc (.cells #[(.string x0), (.string x1), (.string x2), (.string x3), (.string x4)] 9 (0, 0))) := by kernel_rfl
theorem bs_42_6_0_1_2_3_4_5 (x0 : ByteArray) (x1 : ByteArray) (x2 : ByteArray) (x3 : ByteArray) (x4 : ByteArray) (x5 : ByteArray) (w : World) : (Instr.buildSlice 42 6 #[(0, (.string x0)), (1, (.string x1)), (2, (.string x2)), (3, (.string x3)), (4, (.string x4)), (5, (.string x5))]).run Tryd.prog w = .ok (.slice (some ⟨w.heap.size, 0, none⟩) 6 6) (w.alloc (.cells #[(.string x0), (.string x1), (.string x2), (.string x3), (.string x4), (.string x5)] 9 (0, 0))) := by kernel_rfl
theorem cf_10 : ∀ args w, (callFunc 10 args).run Tryd.prog w = .ok (.enter 10 args) w := cf_of Tryd.func10 rfl (by decide)
theorem cf_11 : ∀ args w, (callFunc 11 args).run Tryd.prog w = .ok (.enter 11 args) w := cf_of Tryd.func11 rfl (by decide)
theorem cf_12 : ∀ args w, (callFunc 12 args).run Tryd.prog w = .ok (.enter 12 args) w := cf_of Tryd.func12 rfl (by decide)
theorem cf_13 : ∀ args w, (callFunc 13 args).run Tryd.prog w = .ok (.enter 13 args) w := cf_of Tryd.func13 rfl (by decide)
theorem cf_14 : ∀ args w, (callFunc 14 args).run Tryd.prog w = .ok (.enter 14 args) w := cf_of Tryd.func14 rfl (by decide)
theorem cf_15 : ∀ args w, (callFunc 15 args).run Tryd.prog w = .ok (.enter 15 args) w := cf_of Tryd.func15 rfl (by decide)
theorem cf_16 : ∀ args w, (callFunc 16 args).run Tryd.prog w = .ok (.enter 16 args) w := cf_of Tryd.func16 rfl (by decide)
theorem cf_17 : ∀ args w, (callFunc 17 args).run Tryd.prog w = .ok (.enter 17 args) w := cf_of Tryd.func17 rfl (by decide)
theorem cf_18 : ∀ args w, (callFunc 18 args).run Tryd.prog w = .ok (.enter 18 args) w := cf_of Tryd.func18 rfl (by decide)
theorem cf_19 : ∀ args w, (callFunc 19 args).run Tryd.prog w = .ok (.enter 19 args) w := cf_of Tryd.func19 rfl (by decide)
theorem cf_20 : ∀ args w, (callFunc 20 args).run Tryd.prog w = .ok (.enter 20 args) w := cf_of Tryd.func20 rfl (by decide)
theorem cf_21 : ∀ args w, (callFunc 21 args).run Tryd.prog w = .ok (.enter 21 args) w := cf_of Tryd.func21 rfl (by decide)
theorem cf_22 : ∀ args w, (callFunc 22 args).run Tryd.prog w = .ok (.enter 22 args) w := cf_of Tryd.func22 rfl (by decide)
theorem cf_23 : ∀ args w, (callFunc 23 args).run Tryd.prog w = .ok (.enter 23 args) w := cf_of Tryd.func23 rfl (by decide)
theorem cf_24 : ∀ args w, (callFunc 24 args).run Tryd.prog w = .ok (.enter 24 args) w := cf_of Tryd.func24 rfl (by decide)
theorem cf_25 : ∀ args w, (callFunc 25 args).run Tryd.prog w = .ok (.enter 25 args) w := cf_of Tryd.func25 rfl (by decide)
theorem cf_26 : ∀ args w, (callFunc 26 args).run Tryd.prog w = .ok (.enter 26 args) w := cf_of Tryd.func26 rfl (by decide)
theorem cf_27 : ∀ args w, (callFunc 27 args).run Tryd.prog w = .ok (.enter 27 args) w := cf_of Tryd.func27 rfl (by decide)
theorem cf_28 : ∀ args w, (callFunc 28 args).run Tryd.prog w = .ok (.enter 28 args) w := cf_of Tryd.func28 rfl (by decide)
theorem cf_29 : ∀ args w, (callFunc 29 args).run Tryd.prog w = .ok (.enter 29 args) w := cf_of Tryd.func29 rfl (by decide)
theorem cf_30 : ∀ args w, (callFunc 30 args).run Tryd.prog w = .ok (.enter 30 args) w := cf_of Tryd.func30 rfl (by decide)
theorem cf_31 : ∀ args w, (callFunc 31 args).run Tryd.prog w = .ok (.enter 31 args) w := cf_of Tryd.func31 rfl (by decide)
theorem cf_32 : ∀ args w, (callFunc 32 args).run Tryd.prog w = .ok (.enter 32 args) w := cf_of Tryd.func32 rfl (by decide)
theorem cf_38 : ∀ args w, (callFunc 38 args).run Tryd.prog w = .ok (.enter 38 args) w := cf_of Tryd.func38 rfl (by decide)
theorem cf_39 : ∀ args w, (callFunc 39 args).run Tryd.prog w = .ok (.enter 39 args) w := cf_of Tryd.func39 rfl (by decide)
theorem cf_40 : ∀ args w, (callFunc 40 args).run Tryd.prog w = .ok (.enter 40 args) w := cf_of Tryd.func40 rfl (by decide)
theorem cf_41 : ∀ args w, (callFunc 41 args).run Tryd.prog w = .ok (.enter 41 args) w := cf_of Tryd.func41 rfl (by decide)
theorem cf_42 : ∀ args w, (callFunc 42 args).run Tryd.prog w = .ok (.enter 42 args) w := cf_of Tryd.func42 rfl (by decide)
theorem cf_49 : ∀ args w, (callFunc 49 args).run Tryd.prog w = .ok (.enter 49 args) w := cf_of Tryd.func49 rfl (by decide)
theorem cf_5 : ∀ args w, (callFunc 5 args).run Tryd.prog w = .ok (.enter 5 args) w := cf_of Tryd.func5 rfl (by decide)
theorem cf_50 : ∀ args w, (callFunc 50 args).run Tryd.prog w = .ok (.enter 50 args) w := cf_of Tryd.func50 rfl (by decide)
theorem cf_6 : ∀ args w, (callFunc 6 args).run Tryd.prog w = .ok (.enter 6 args) w := cf_of Tryd.func6 rfl (by decide)
theorem cf_64 : ∀ args w, (callFunc 64 args).run Tryd.prog w = .ok (.enter 64 args) w := cf_of Tryd.func64 rfl (by decide)
theorem cf_65 : ∀ args w, (callFunc 65 args).run Tryd.prog w = .ok (.enter 65 args) w := cf_of Tryd.func65 rfl (by decide)
theorem cf_66 : ∀ args w, (callFunc 66 args).run Tryd.prog w = .ok (.enter 66 args) w := cf_of Tryd.func66 rfl (by decide)
theorem cf_7 : ∀ args w, (callFunc 7 args).run Tryd.prog w = .ok (.enter 7 args) w := cf_of Tryd.func7 rfl (by decide)
theorem cf_8 : ∀ args w, (callFunc 8 args).run Tryd.prog w = .ok (.enter 8 args) w := cf_of Tryd.func8 rfl (by decide)
theorem cf_9 : ∀ args w, (callFunc 9 args).run Tryd.prog w = .ok (.enter 9 args) w := cf_of Tryd.func9 rfl (by decide)
theorem fa_33_0 {dfs : List Deferred} {n : Nat} {ρ : Env} {H : List HP} {d : Option Tmp} {ty : TypeId} {pos : String} {af : Array Edge} {g : Option (Nat × Bool)} {x : Operand} {b o : Nat} (hx : evl ρ x = some (.pointer (some ⟨b, o, none⟩)) := by rfl) : OpQ Tryd.prog dfs n ρ H ⟨d, .fieldAddr 33 x 0, ty, pos, af, g⟩ (.pointer (some ⟨b, o, none⟩)) := Q_fieldAddr (k := 0) (sz := 0) Tryd.underlying33 rfl rfl (by kernel_rfl) hx
theorem fa_33_1 {dfs : List Deferred} {n : Nat} {ρ : Env} {H : List HP} {d : Option Tmp} {ty : TypeId} {pos : String} {af : Array Edge} {g : Option (Nat × Bool)} {x : Operand} {b o : Nat} (hx : evl ρ x = some (.pointer (some ⟨b, o, none⟩)) := by rfl) : OpQ Tryd.prog dfs n ρ H ⟨d, .fieldAddr 33 x 1, ty, pos, af, g⟩ (.pointer (some ⟨b, (o + 1), none⟩)) := Q_fieldAddr (k := 1) (sz := 0) Tryd.underlying33 rfl rfl (by kernel_rfl) hx
theorem if_60 : Tryd.prog.isIface 60 = true := by kernel_rfl
theorem mixed : Tryd.prog.follows .mixedOrders = true := by kernel_rfl
theorem pl_3 : Plain Tryd.prog 3 := Plain.of Tryd.underlying3 rfl
theorem pl_34 : Plain Tryd.prog 34 := Plain.of Tryd.underlying34 rfl
theorem pl_9 : Plain Tryd.prog 9 := Plain.of Tryd.underlying9 rfl
theorem sz_3 : (Tryd.prog.info? 3).map (·.size) = some 1 := by kernel_rfl
theorem sz_33 : (Tryd.prog.info? 33).map (·.size) = some 2 := by kernel_rfl
theorem sz_34 : (Tryd.prog.info? 34).map (·.size) = some 1 := by kernel_rfl
theorem sz_53 : (Tryd.prog.info? 53).map (·.size) = some 14 := by kernel_rfl
theorem sz_9 : (Tryd.prog.info? 9).map (·.size) = some 1 := by kernel_rfl
theorem zr_33 : (Tryd.prog.info? 33).bind (·.zero) = some (.agg #[(.int .i64 0), (.string ⟨#[]⟩)]) := by kernel_rfl
theorem zr_34 : (Tryd.prog.info? 34).bind (·.zero) = some (.int .i64 0) := by kernel_rfl
theorem zr_53 : (Tryd.prog.info? 53).bind (·.zero) = some (.agg #[(.string ⟨#[]⟩), (.string ⟨#[]⟩), (.string ⟨#[]⟩), (.string ⟨#[]⟩), (.string ⟨#[]⟩), (.string ⟨#[]⟩), (.string ⟨#[]⟩), (.string ⟨#[]⟩), (.string ⟨#[]⟩), (.string ⟨#[]⟩), (.string ⟨#[]⟩), (.string ⟨#[]⟩), (.string ⟨#[]⟩), (.string ⟨#[]⟩)]) := by kernel_rfl
end Go.Proofs.YtljjplndcbekfaaDoor
