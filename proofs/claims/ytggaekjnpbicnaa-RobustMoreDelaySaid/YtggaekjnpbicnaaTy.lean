/-
  What the program's tables say of its types, by number.
-/
import Derived.Test.YtggaekjnpbicnaaWkD
import Derived.Test.YtggaekjnpbicnaaProg
import Derived.KernelRfl
namespace Go.Proofs.Ytggaekjnpbicnaa
open Go.Wk
theorem agg26 : AggOf Try.prog 26 3 := fun w => ⟨Try.isAgg26 w, Try.sizeOf26 w⟩
theorem agg40 : AggOf Try.prog 40 6 := fun w => ⟨Try.isAgg40 w, Try.sizeOf40 w⟩
theorem bld26_0 (a0 : Int) (w : World) : (Instr.build 26 [(0, (.int .i64 a0))].toArray).run Try.prog w = .ok (.agg [(.int .i64 a0), .slice none 0 0, .slice none 0 0].toArray) w := by kernel_rfl
theorem bld26_0_1_2 (a0 : Int) (d1 : Option Addr) (l1 : Nat) (c1 : Nat) (d2 : Option Addr) (l2 : Nat) (c2 : Nat) (w : World) : (Instr.build 26 [(0, (.int .i64 a0)), (1, (.slice d1 l1 c1)), (2, (.slice d2 l2 c2))].toArray).run Try.prog w = .ok (.agg [(.int .i64 a0), (.slice d1 l1 c1), (.slice d2 l2 c2)].toArray) w := by kernel_rfl
theorem bld40_0_1_2_3_4 (a0 : Int) (a1 : Int) (a2 : Int) (a3 : Int) (a4 : Int) (w : World) : (Instr.build 40 [(0, (.int .i64 a0)), (1, (.int .i64 a1)), (2, (.int .i64 a2)), (3, (.int .i64 a3)), (4, (.int .i64 a4))].toArray).run Try.prog w = .ok (.agg [(.int .i64 a0), (.int .i64 a1), (.int .i64 a2), (.int .i64 a3), (.int .i64 a4), .int .i64 0].toArray) w := by kernel_rfl
theorem bld40_0_1_5 (a0 : Int) (a1 : Int) (a5 : Int) (w : World) : (Instr.build 40 [(0, (.int .i64 a0)), (1, (.int .i64 a1)), (5, (.int .i64 a5))].toArray).run Try.prog w = .ok (.agg [(.int .i64 a0), (.int .i64 a1), .int .i64 0, .int .i64 0, .int .i64 0, (.int .i64 a5)].toArray) w := by kernel_rfl
theorem bld59_0_1_2 (a0 : Int) (a1 : Int) (a2 : Int) (w : World) : (Instr.build 59 [(0, (.int .i64 a0)), (1, (.int .i64 a1)), (2, (.int .i64 a2))].toArray).run Try.prog w = .ok (.agg [(.int .i64 a0), (.int .i64 a1), (.int .i64 a2)].toArray) w := by kernel_rfl
theorem bld61_0 (d0 : Option Addr) (l0 : Nat) (c0 : Nat) (w : World) : (Instr.build 61 [(0, (.slice d0 l0 c0))].toArray).run Try.prog w = .ok (.agg [(.slice d0 l0 c0), .int .i64 0].toArray) w := by kernel_rfl
theorem bsl22_3 (a0 : Int) (a1 : Int) (a2 : Int) (w : World) : (Instr.buildSlice 22 3 [(0, (.int .i64 a0)), (1, (.int .i64 a1)), (2, (.int .i64 a2))].toArray).run Try.prog w = .ok (.slice (some ⟨w.heap.size, 0, none⟩) 3 3) (w.alloc (.cells [(.int .i64 a0), (.int .i64 a1), (.int .i64 a2)].toArray 3)) := by kernel_rfl
theorem bsl23_1 (a0_0 : Int) (a0_1 : Int) (a0_2 : Int) (w : World) : (Instr.buildSlice 23 1 [(0, (.agg #[(.int .i64 a0_0), (.int .i64 a0_1), (.int .i64 a0_2)]))].toArray).run Try.prog w = .ok (.slice (some ⟨w.heap.size, 0, none⟩) 1 1) (w.alloc (.cells [(.int .i64 a0_0), (.int .i64 a0_1), (.int .i64 a0_2)].toArray 59)) := by kernel_rfl
theorem bsl24_1 (a0_0 : Int) (a0_1 : Int) (a0_2 : Int) (a0_3 : Int) (a0_4 : Int) (a0_5 : Int) (w : World) : (Instr.buildSlice 24 1 [(0, (.agg #[(.int .i64 a0_0), (.int .i64 a0_1), (.int .i64 a0_2), (.int .i64 a0_3), (.int .i64 a0_4), (.int .i64 a0_5)]))].toArray).run Try.prog w = .ok (.slice (some ⟨w.heap.size, 0, none⟩) 1 1) (w.alloc (.cells [(.int .i64 a0_0), (.int .i64 a0_1), (.int .i64 a0_2), (.int .i64 a0_3), (.int .i64 a0_4), (.int .i64 a0_5)].toArray 40)) := by kernel_rfl
theorem bsl24_2 (a0_0 : Int) (a0_1 : Int) (a0_2 : Int) (a0_3 : Int) (a0_4 : Int) (a0_5 : Int) (a1_0 : Int) (a1_1 : Int) (a1_2 : Int) (a1_3 : Int) (a1_4 : Int) (a1_5 : Int) (w : World) : (Instr.buildSlice 24 2 [(0, (.agg #[(.int .i64 a0_0), (.int .i64 a0_1), (.int .i64 a0_2), (.int .i64 a0_3), (.int .i64 a0_4), (.int .i64 a0_5)])), (1, (.agg #[(.int .i64 a1_0), (.int .i64 a1_1), (.int .i64 a1_2), (.int .i64 a1_3), (.int .i64 a1_4), (.int .i64 a1_5)]))].toArray).run Try.prog w = .ok (.slice (some ⟨w.heap.size, 0, none⟩) 2 2) (w.alloc (.cells [(.int .i64 a0_0), (.int .i64 a0_1), (.int .i64 a0_2), (.int .i64 a0_3), (.int .i64 a0_4), (.int .i64 a0_5), (.int .i64 a1_0), (.int .i64 a1_1), (.int .i64 a1_2), (.int .i64 a1_3), (.int .i64 a1_4), (.int .i64 a1_5)].toArray 40)) := by kernel_rfl
theorem cl11 : Callable Try.prog 11 := ⟨Try.call11⟩
theorem cl12 : Callable Try.prog 12 := ⟨Try.call12⟩
theorem cl13 : Callable Try.prog 13 := ⟨Try.call13⟩
theorem cl14 : Callable Try.prog 14 := ⟨Try.call14⟩
theorem cl15 : Callable Try.prog 15 := ⟨Try.call15⟩
theorem cl16 : Callable Try.prog 16 := ⟨Try.call16⟩
theorem cl17 : Callable Try.prog 17 := ⟨Try.call17⟩
theorem cl19 : Callable Try.prog 19 := ⟨Try.call19⟩
theorem cl23 : Callable Try.prog 23 := ⟨Try.call23⟩
theorem cl24 : Callable Try.prog 24 := ⟨Try.call24⟩
theorem cl25 : Callable Try.prog 25 := ⟨Try.call25⟩
theorem cl26 : Callable Try.prog 26 := ⟨Try.call26⟩
theorem cl27 : Callable Try.prog 27 := ⟨Try.call27⟩
theorem cl28 : Callable Try.prog 28 := ⟨Try.call28⟩
theorem cl29 : Callable Try.prog 29 := ⟨Try.call29⟩
theorem cl33 : Callable Try.prog 33 := ⟨Try.call33⟩
theorem cl38 : Callable Try.prog 38 := ⟨Try.call38⟩
theorem cl39 : Callable Try.prog 39 := ⟨Try.call39⟩
theorem cl42 : Callable Try.prog 42 := ⟨Try.call42⟩
theorem cl46 : Callable Try.prog 46 := ⟨Try.call46⟩
theorem cl47 : Callable Try.prog 47 := ⟨Try.call47⟩
theorem cl49 : Callable Try.prog 49 := ⟨Try.call49⟩
theorem fld26_0 : FieldOf Try.prog 26 0 0 := fun b o w => by simp [Instr.fieldAt, fieldPlace, Instr.sureAddr, Addr.add_lit]
theorem fld26_1 : FieldOf Try.prog 26 1 1 := fun b o w => by simp [Instr.fieldAt, fieldPlace, Instr.sureAddr, Addr.add_lit]
theorem fld26_2 : FieldOf Try.prog 26 2 2 := fun b o w => by simp [Instr.fieldAt, fieldPlace, Instr.sureAddr, Addr.add_lit]
theorem fld40_0 : FieldOf Try.prog 40 0 0 := fun b o w => by simp [Instr.fieldAt, fieldPlace, Instr.sureAddr, Addr.add_lit]
theorem fld40_1 : FieldOf Try.prog 40 1 1 := fun b o w => by simp [Instr.fieldAt, fieldPlace, Instr.sureAddr, Addr.add_lit]
theorem fld40_2 : FieldOf Try.prog 40 2 2 := fun b o w => by simp [Instr.fieldAt, fieldPlace, Instr.sureAddr, Addr.add_lit]
theorem fld40_3 : FieldOf Try.prog 40 3 3 := fun b o w => by simp [Instr.fieldAt, fieldPlace, Instr.sureAddr, Addr.add_lit]
theorem fld40_4 : FieldOf Try.prog 40 4 4 := fun b o w => by simp [Instr.fieldAt, fieldPlace, Instr.sureAddr, Addr.add_lit]
theorem fld40_5 : FieldOf Try.prog 40 5 5 := fun b o w => by simp [Instr.fieldAt, fieldPlace, Instr.sureAddr, Addr.add_lit]
theorem fld61_0 : FieldOf Try.prog 61 0 0 := fun b o w => by simp [Instr.fieldAt, fieldPlace, Instr.sureAddr, Addr.add_lit]
theorem fld61_1 : FieldOf Try.prog 61 1 1 := fun b o w => by simp [Instr.fieldAt, fieldPlace, Instr.sureAddr, Addr.add_lit]
theorem info22 : ∃ i, Try.prog.info? 22 = some i ∧ i.zero = some (.slice none 0 0) ∧ i.size = 1 ∧ i.bytes = 24 := ⟨Try.t22, Try.type22, rfl, rfl, rfl⟩
theorem info3 : ∃ i, Try.prog.info? 3 = some i ∧ i.zero = some (.int .i64 0) ∧ i.size = 1 ∧ i.bytes = 8 := ⟨Try.t3, Try.type3, rfl, rfl, rfl⟩
theorem info59 : ∃ i, Try.prog.info? 59 = some i ∧ i.zero = some (.agg #[.int .i64 0, .int .i64 0, .int .i64 0]) ∧ i.size = 3 ∧ i.bytes = 24 := ⟨Try.t59, Try.type59, rfl, rfl, rfl⟩
theorem infoz40 : ∃ i, Try.prog.info? 40 = some i ∧ i.zero = some (.agg #[.int .i64 0, .int .i64 0, .int .i64 0, .int .i64 0, .int .i64 0, .int .i64 0]) ∧ i.size = 6 ∧ i.bytes = 48 ∧ (Value.cells (.agg #[.int .i64 0, .int .i64 0, .int .i64 0, .int .i64 0, .int .i64 0, .int .i64 0])).size = 6 := ⟨Try.t40, Try.type40, rfl, rfl, rfl, rfl⟩
theorem infoz59 : ∃ i, Try.prog.info? 59 = some i ∧ i.zero = some (.agg #[.int .i64 0, .int .i64 0, .int .i64 0]) ∧ i.size = 3 ∧ i.bytes = 24 ∧ (Value.cells (.agg #[.int .i64 0, .int .i64 0, .int .i64 0])).size = 3 := ⟨Try.t59, Try.type59, rfl, rfl, rfl, rfl⟩
theorem mixed : Try.prog.follows .mixedOrders = true := by kernel_rfl
theorem na22 : NotAgg Try.prog 22 := Try.isAgg22
theorem na23 : NotAgg Try.prog 23 := Try.isAgg23
theorem na24 : NotAgg Try.prog 24 := Try.isAgg24
theorem na3 : NotAgg Try.prog 3 := Try.isAgg3
theorem sl22 : SliceOf Try.prog 22 3 1 := ⟨Try.underlying22, Try.sizeOf3⟩
theorem sl23 : SliceOf Try.prog 23 59 3 := ⟨Try.underlying23, Try.sizeOf59⟩
theorem sl24 : SliceOf Try.prog 24 40 6 := ⟨Try.underlying24, Try.sizeOf40⟩
theorem sl54 : SliceOf Try.prog 54 22 1 := ⟨Try.underlying54, Try.sizeOf22⟩
theorem sz22 : SzOf Try.prog 22 1 := Try.sizeOf22
theorem sz23 : SzOf Try.prog 23 1 := Try.sizeOf23
theorem sz24 : SzOf Try.prog 24 1 := Try.sizeOf24
theorem sz26 : SzOf Try.prog 26 3 := Try.sizeOf26
theorem sz3 : SzOf Try.prog 3 1 := Try.sizeOf3
theorem sz40 : SzOf Try.prog 40 6 := Try.sizeOf40
theorem zer26 : ZeroOf Try.prog 26 (.agg [.int .i64 0, .slice none 0 0, .slice none 0 0].toArray) := Try.zeroValue26
theorem zer40 : ZeroOf Try.prog 40 (.agg [.int .i64 0, .int .i64 0, .int .i64 0, .int .i64 0, .int .i64 0, .int .i64 0].toArray) := Try.zeroValue40
end Go.Proofs.Ytggaekjnpbicnaa
