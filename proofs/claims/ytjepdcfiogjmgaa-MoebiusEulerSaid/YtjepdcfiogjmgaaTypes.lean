/- Facts on the types of this program, each closed. -/
import Derived.Test.YtjepdcfiogjmgaaEngT
import Derived.Test.YtjepdcfiogjmgaaEngZp
import Derived.Test.YtjepdcfiogjmgaaRows
import Derived.KernelRfl
namespace Go.Proofs.Ytjepdcfiogjmgaa

theorem tsz3 : SzOf Try.prog 3 1 := by unfold SzOf; kernel_rfl
instance : KSz Try.prog 3 1 := ⟨tsz3⟩
theorem tmk3 : MkT Try.prog 3 (.int .i64 0) 1 8 := by unfold MkT; kernel_rfl
instance : KMk Try.prog 3 (.int .i64 0) 1 8 := ⟨tmk3⟩
theorem tsc3 : ScT Try.prog 3 := ⟨_, Try.underlying3, rfl⟩
instance : KSc Try.prog 3 := ⟨tsc3⟩
theorem tsz4 : SzOf Try.prog 4 1 := by unfold SzOf; kernel_rfl
instance : KSz Try.prog 4 1 := ⟨tsz4⟩
theorem tmk4 : MkT Try.prog 4 (.bool false) 1 1 := by unfold MkT; kernel_rfl
instance : KMk Try.prog 4 (.bool false) 1 1 := ⟨tmk4⟩
instance : KBo Try.prog 4 := ⟨Try.underlying4⟩
theorem tsc4 : ScT Try.prog 4 := ⟨_, Try.underlying4, rfl⟩
instance : KSc Try.prog 4 := ⟨tsc4⟩
theorem tsz22 : SzOf Try.prog 22 1 := by unfold SzOf; kernel_rfl
instance : KSz Try.prog 22 1 := ⟨tsz22⟩
theorem tmk22 : MkT Try.prog 22 (.slice none 0 0) 1 24 := by unfold MkT; kernel_rfl
instance : KMk Try.prog 22 (.slice none 0 0) 1 24 := ⟨tmk22⟩
theorem tsc22 : ScT Try.prog 22 := ⟨_, Try.underlying22, rfl⟩
instance : KSc Try.prog 22 := ⟨tsc22⟩
theorem tsz24 : SzOf Try.prog 24 2 := by unfold SzOf; kernel_rfl
instance : KSz Try.prog 24 2 := ⟨tsz24⟩
theorem tmk24 : MkT Try.prog 24 (.agg #[.int .i64 0, .slice none 0 0]) 2 32 := by unfold MkT; kernel_rfl
instance : KMk Try.prog 24 (.agg #[.int .i64 0, .slice none 0 0]) 2 32 := ⟨tmk24⟩
theorem tag24 : AgT Try.prog 24 2 := ⟨⟨_, Try.underlying24, rfl⟩, tsz24⟩
instance : KAg Try.prog 24 2 := ⟨tag24⟩
theorem tsz25 : SzOf Try.prog 25 1 := by unfold SzOf; kernel_rfl
instance : KSz Try.prog 25 1 := ⟨tsz25⟩
theorem tmk25 : MkT Try.prog 25 (.slice none 0 0) 1 24 := by unfold MkT; kernel_rfl
instance : KMk Try.prog 25 (.slice none 0 0) 1 24 := ⟨tmk25⟩
theorem tsc25 : ScT Try.prog 25 := ⟨_, Try.underlying25, rfl⟩
instance : KSc Try.prog 25 := ⟨tsc25⟩
theorem tsz27 : SzOf Try.prog 27 3 := by unfold SzOf; kernel_rfl
instance : KSz Try.prog 27 3 := ⟨tsz27⟩
theorem tmk27 : MkT Try.prog 27 (.agg #[.int .i64 0, .slice none 0 0, .slice none 0 0]) 3 56 := by unfold MkT; kernel_rfl
instance : KMk Try.prog 27 (.agg #[.int .i64 0, .slice none 0 0, .slice none 0 0]) 3 56 := ⟨tmk27⟩
theorem tag27 : AgT Try.prog 27 3 := ⟨⟨_, Try.underlying27, rfl⟩, tsz27⟩
instance : KAg Try.prog 27 3 := ⟨tag27⟩
theorem tsz28 : SzOf Try.prog 28 1 := by unfold SzOf; kernel_rfl
instance : KSz Try.prog 28 1 := ⟨tsz28⟩
theorem tmk28 : MkT Try.prog 28 (.int .i64 0) 1 8 := by unfold MkT; kernel_rfl
instance : KMk Try.prog 28 (.int .i64 0) 1 8 := ⟨tmk28⟩
theorem tsc28 : ScT Try.prog 28 := ⟨_, Try.underlying28, rfl⟩
instance : KSc Try.prog 28 := ⟨tsc28⟩
theorem tsz38 : SzOf Try.prog 38 3 := by unfold SzOf; kernel_rfl
instance : KSz Try.prog 38 3 := ⟨tsz38⟩
theorem tmk38 : MkT Try.prog 38 (.agg #[.int .i64 0, .int .i64 0, .slice none 0 0]) 3 40 := by unfold MkT; kernel_rfl
instance : KMk Try.prog 38 (.agg #[.int .i64 0, .int .i64 0, .slice none 0 0]) 3 40 := ⟨tmk38⟩
theorem tag38 : AgT Try.prog 38 3 := ⟨⟨_, Try.underlying38, rfl⟩, tsz38⟩
instance : KAg Try.prog 38 3 := ⟨tag38⟩
theorem tsz41 : SzOf Try.prog 41 1 := by unfold SzOf; kernel_rfl
instance : KSz Try.prog 41 1 := ⟨tsz41⟩
theorem tmk41 : MkT Try.prog 41 (.slice none 0 0) 1 24 := by unfold MkT; kernel_rfl
instance : KMk Try.prog 41 (.slice none 0 0) 1 24 := ⟨tmk41⟩
theorem tsc41 : ScT Try.prog 41 := ⟨_, Try.underlying41, rfl⟩
instance : KSc Try.prog 41 := ⟨tsc41⟩
theorem tsz48 : SzOf Try.prog 48 2 := by unfold SzOf; kernel_rfl
instance : KSz Try.prog 48 2 := ⟨tsz48⟩
theorem tmk48 : MkT Try.prog 48 (.agg #[.int .i64 0, .int .i64 0]) 2 16 := by unfold MkT; kernel_rfl
instance : KMk Try.prog 48 (.agg #[.int .i64 0, .int .i64 0]) 2 16 := ⟨tmk48⟩
theorem tag48 : AgT Try.prog 48 2 := ⟨⟨_, Try.underlying48, rfl⟩, tsz48⟩
instance : KAg Try.prog 48 2 := ⟨tag48⟩
theorem tsz60 : SzOf Try.prog 60 1 := by unfold SzOf; kernel_rfl
instance : KSz Try.prog 60 1 := ⟨tsz60⟩
theorem tmk60 : MkT Try.prog 60 (.nilFunc) 1 8 := by unfold MkT; kernel_rfl
instance : KMk Try.prog 60 (.nilFunc) 1 8 := ⟨tmk60⟩
theorem tsc60 : ScT Try.prog 60 := ⟨_, Try.underlying60, rfl⟩
instance : KSc Try.prog 60 := ⟨tsc60⟩
theorem tsz63 : SzOf Try.prog 63 1 := by unfold SzOf; kernel_rfl
instance : KSz Try.prog 63 1 := ⟨tsz63⟩
theorem tmk63 : MkT Try.prog 63 (.nilFunc) 1 8 := by unfold MkT; kernel_rfl
instance : KMk Try.prog 63 (.nilFunc) 1 8 := ⟨tmk63⟩
theorem tsc63 : ScT Try.prog 63 := ⟨_, Try.underlying63, rfl⟩
instance : KSc Try.prog 63 := ⟨tsc63⟩
theorem tsz89 : SzOf Try.prog 89 1 := by unfold SzOf; kernel_rfl
instance : KSz Try.prog 89 1 := ⟨tsz89⟩
theorem tmk89 : MkT Try.prog 89 (.nilFunc) 1 8 := by unfold MkT; kernel_rfl
instance : KMk Try.prog 89 (.nilFunc) 1 8 := ⟨tmk89⟩
theorem tsc89 : ScT Try.prog 89 := ⟨_, Try.underlying89, rfl⟩
instance : KSc Try.prog 89 := ⟨tsc89⟩
theorem tsz99 : SzOf Try.prog 99 1 := by unfold SzOf; kernel_rfl
instance : KSz Try.prog 99 1 := ⟨tsz99⟩
theorem tmk99 : MkT Try.prog 99 (.nilFunc) 1 8 := by unfold MkT; kernel_rfl
instance : KMk Try.prog 99 (.nilFunc) 1 8 := ⟨tmk99⟩
theorem tsc99 : ScT Try.prog 99 := ⟨_, Try.underlying99, rfl⟩
instance : KSc Try.prog 99 := ⟨tsc99⟩
theorem tsz103 : SzOf Try.prog 103 1 := by unfold SzOf; kernel_rfl
instance : KSz Try.prog 103 1 := ⟨tsz103⟩
theorem tmk103 : MkT Try.prog 103 (.slice none 0 0) 1 24 := by unfold MkT; kernel_rfl
instance : KMk Try.prog 103 (.slice none 0 0) 1 24 := ⟨tmk103⟩
theorem tsc103 : ScT Try.prog 103 := ⟨_, Try.underlying103, rfl⟩
instance : KSc Try.prog 103 := ⟨tsc103⟩
theorem tsz104 : SzOf Try.prog 104 1 := by unfold SzOf; kernel_rfl
instance : KSz Try.prog 104 1 := ⟨tsz104⟩
theorem tmk104 : MkT Try.prog 104 (.slice none 0 0) 1 24 := by unfold MkT; kernel_rfl
instance : KMk Try.prog 104 (.slice none 0 0) 1 24 := ⟨tmk104⟩
theorem tsc104 : ScT Try.prog 104 := ⟨_, Try.underlying104, rfl⟩
instance : KSc Try.prog 104 := ⟨tsc104⟩
theorem tsz111 : SzOf Try.prog 111 1 := by unfold SzOf; kernel_rfl
instance : KSz Try.prog 111 1 := ⟨tsz111⟩
theorem tmk111 : MkT Try.prog 111 (.pointer none) 1 8 := by unfold MkT; kernel_rfl
instance : KMk Try.prog 111 (.pointer none) 1 8 := ⟨tmk111⟩
theorem tsc111 : ScT Try.prog 111 := ⟨_, Try.underlying111, rfl⟩
instance : KSc Try.prog 111 := ⟨tsc111⟩
theorem tsz117 : SzOf Try.prog 117 3 := by unfold SzOf; kernel_rfl
instance : KSz Try.prog 117 3 := ⟨tsz117⟩
theorem tmk117 : MkT Try.prog 117 (.agg #[.int .i64 0, .slice none 0 0, .slice none 0 0]) 3 56 := by unfold MkT; kernel_rfl
instance : KMk Try.prog 117 (.agg #[.int .i64 0, .slice none 0 0, .slice none 0 0]) 3 56 := ⟨tmk117⟩
theorem tag117 : AgT Try.prog 117 3 := ⟨⟨_, Try.underlying117, rfl⟩, tsz117⟩
instance : KAg Try.prog 117 3 := ⟨tag117⟩
theorem tsz118 : SzOf Try.prog 118 1 := by unfold SzOf; kernel_rfl
instance : KSz Try.prog 118 1 := ⟨tsz118⟩
theorem tmk118 : MkT Try.prog 118 (.nilFunc) 1 8 := by unfold MkT; kernel_rfl
instance : KMk Try.prog 118 (.nilFunc) 1 8 := ⟨tmk118⟩
theorem tsc118 : ScT Try.prog 118 := ⟨_, Try.underlying118, rfl⟩
instance : KSc Try.prog 118 := ⟨tsc118⟩
theorem tsz120 : SzOf Try.prog 120 1 := by unfold SzOf; kernel_rfl
instance : KSz Try.prog 120 1 := ⟨tsz120⟩
theorem tmk120 : MkT Try.prog 120 (.nilFunc) 1 8 := by unfold MkT; kernel_rfl
instance : KMk Try.prog 120 (.nilFunc) 1 8 := ⟨tmk120⟩
theorem tsc120 : ScT Try.prog 120 := ⟨_, Try.underlying120, rfl⟩
instance : KSc Try.prog 120 := ⟨tsc120⟩
theorem tsz121 : SzOf Try.prog 121 1 := by unfold SzOf; kernel_rfl
instance : KSz Try.prog 121 1 := ⟨tsz121⟩
theorem tmk121 : MkT Try.prog 121 (.slice none 0 0) 1 24 := by unfold MkT; kernel_rfl
instance : KMk Try.prog 121 (.slice none 0 0) 1 24 := ⟨tmk121⟩
theorem tsc121 : ScT Try.prog 121 := ⟨_, Try.underlying121, rfl⟩
instance : KSc Try.prog 121 := ⟨tsc121⟩
theorem tsz123 : SzOf Try.prog 123 2 := by unfold SzOf; kernel_rfl
instance : KSz Try.prog 123 2 := ⟨tsz123⟩
theorem tmk123 : MkT Try.prog 123 (.agg #[.slice none 0 0, .slice none 0 0]) 2 48 := by unfold MkT; kernel_rfl
instance : KMk Try.prog 123 (.agg #[.slice none 0 0, .slice none 0 0]) 2 48 := ⟨tmk123⟩
theorem tag123 : AgT Try.prog 123 2 := ⟨⟨_, Try.underlying123, rfl⟩, tsz123⟩
instance : KAg Try.prog 123 2 := ⟨tag123⟩
theorem tsz128 : SzOf Try.prog 128 1 := by unfold SzOf; kernel_rfl
instance : KSz Try.prog 128 1 := ⟨tsz128⟩
theorem tmk128 : MkT Try.prog 128 (.map none) 1 8 := by unfold MkT; kernel_rfl
instance : KMk Try.prog 128 (.map none) 1 8 := ⟨tmk128⟩
theorem tsc128 : ScT Try.prog 128 := ⟨_, Try.underlying128, rfl⟩
instance : KSc Try.prog 128 := ⟨tsc128⟩
theorem tsz131 : SzOf Try.prog 131 1 := by unfold SzOf; kernel_rfl
instance : KSz Try.prog 131 1 := ⟨tsz131⟩
theorem tmk131 : MkT Try.prog 131 (.slice none 0 0) 1 24 := by unfold MkT; kernel_rfl
instance : KMk Try.prog 131 (.slice none 0 0) 1 24 := ⟨tmk131⟩
theorem tsc131 : ScT Try.prog 131 := ⟨_, Try.underlying131, rfl⟩
instance : KSc Try.prog 131 := ⟨tsc131⟩
theorem tsl22 : SlT Try.prog 22 3 1 := ⟨Try.underlying22, tsz3⟩
instance : KSl Try.prog 22 3 1 := ⟨tsl22⟩
theorem tfl24_0 : FlT Try.prog 24 0 0 := ⟨_, _, 0, Try.underlying24, rfl, tsz3, rfl⟩
instance : KFl Try.prog 24 0 0 := ⟨tfl24_0⟩
theorem tfl24_1 : FlT Try.prog 24 1 1 := ⟨_, _, 0, Try.underlying24, rfl, tsz22, rfl⟩
instance : KFl Try.prog 24 1 1 := ⟨tfl24_1⟩
theorem tbd24 : BdT Try.prog 24 [.int .i64 0, .slice none 0 0] (fun i => ([(0, 1), (1, 1)] : List (Nat × Nat))[i]?) := .struct Try.underlying24 tmk24 rfl (szs := [1, 1]) (by kernel_rfl)
instance : KBd Try.prog 24 [.int .i64 0, .slice none 0 0] (fun i => ([(0, 1), (1, 1)] : List (Nat × Nat))[i]?) := ⟨tbd24⟩
theorem tsl25 : SlT Try.prog 25 22 1 := ⟨Try.underlying25, tsz22⟩
instance : KSl Try.prog 25 22 1 := ⟨tsl25⟩
theorem tfl27_0 : FlT Try.prog 27 0 0 := ⟨_, _, 0, Try.underlying27, rfl, tsz3, rfl⟩
instance : KFl Try.prog 27 0 0 := ⟨tfl27_0⟩
theorem tfl27_1 : FlT Try.prog 27 1 1 := ⟨_, _, 0, Try.underlying27, rfl, tsz25, rfl⟩
instance : KFl Try.prog 27 1 1 := ⟨tfl27_1⟩
theorem tfl27_2 : FlT Try.prog 27 2 2 := ⟨_, _, 0, Try.underlying27, rfl, tsz25, rfl⟩
instance : KFl Try.prog 27 2 2 := ⟨tfl27_2⟩
theorem tbd27 : BdT Try.prog 27 [.int .i64 0, .slice none 0 0, .slice none 0 0] (fun i => ([(0, 1), (1, 1), (2, 1)] : List (Nat × Nat))[i]?) := .struct Try.underlying27 tmk27 rfl (szs := [1, 1, 1]) (by kernel_rfl)
instance : KBd Try.prog 27 [.int .i64 0, .slice none 0 0, .slice none 0 0] (fun i => ([(0, 1), (1, 1), (2, 1)] : List (Nat × Nat))[i]?) := ⟨tbd27⟩
theorem tfl38_0 : FlT Try.prog 38 0 0 := ⟨_, _, 0, Try.underlying38, rfl, tsz3, rfl⟩
instance : KFl Try.prog 38 0 0 := ⟨tfl38_0⟩
theorem tfl38_1 : FlT Try.prog 38 1 1 := ⟨_, _, 0, Try.underlying38, rfl, tsz3, rfl⟩
instance : KFl Try.prog 38 1 1 := ⟨tfl38_1⟩
theorem tfl38_2 : FlT Try.prog 38 2 2 := ⟨_, _, 0, Try.underlying38, rfl, tsz22, rfl⟩
instance : KFl Try.prog 38 2 2 := ⟨tfl38_2⟩
theorem tbd38 : BdT Try.prog 38 [.int .i64 0, .int .i64 0, .slice none 0 0] (fun i => ([(0, 1), (1, 1), (2, 1)] : List (Nat × Nat))[i]?) := .struct Try.underlying38 tmk38 rfl (szs := [1, 1, 1]) (by kernel_rfl)
instance : KBd Try.prog 38 [.int .i64 0, .int .i64 0, .slice none 0 0] (fun i => ([(0, 1), (1, 1), (2, 1)] : List (Nat × Nat))[i]?) := ⟨tbd38⟩
theorem tsl41 : SlT Try.prog 41 48 2 := ⟨Try.underlying41, tsz48⟩
instance : KSl Try.prog 41 48 2 := ⟨tsl41⟩
instance : KEqP Try.prog 48 := ⟨3, ⟨Try.underlying48, tsz3⟩, Try.underlying3, by kernel_rfl⟩
theorem tar48 : ArT Try.prog 48 2 3 1 := ⟨Try.underlying48, tsz3⟩
instance : KAr Try.prog 48 2 3 1 := ⟨tar48⟩
theorem tbd48 : BdT Try.prog 48 [.int .i64 0, .int .i64 0] (fun i => some (i * 1, 1)) := .array tar48 tmk48 rfl
instance : KBd Try.prog 48 [.int .i64 0, .int .i64 0] (fun i => some (i * 1, 1)) := ⟨tbd48⟩
theorem tsl103 : SlT Try.prog 103 104 1 := ⟨Try.underlying103, tsz104⟩
instance : KSl Try.prog 103 104 1 := ⟨tsl103⟩
theorem tsl104 : SlT Try.prog 104 4 1 := ⟨Try.underlying104, tsz4⟩
instance : KSl Try.prog 104 4 1 := ⟨tsl104⟩
theorem tfl117_0 : FlT Try.prog 117 0 0 := ⟨_, _, 1, Try.underlying117, rfl, tsz24, rfl⟩
instance : KFl Try.prog 117 0 0 := ⟨tfl117_0⟩
theorem tfl117_1 : FlT Try.prog 117 1 2 := ⟨_, _, 0, Try.underlying117, rfl, tsz22, rfl⟩
instance : KFl Try.prog 117 1 2 := ⟨tfl117_1⟩
theorem tbd117 : BdT Try.prog 117 [.int .i64 0, .slice none 0 0, .slice none 0 0] (fun i => ([(0, 2), (2, 1)] : List (Nat × Nat))[i]?) := .struct Try.underlying117 tmk117 rfl (szs := [2, 1]) (by kernel_rfl)
instance : KBd Try.prog 117 [.int .i64 0, .slice none 0 0, .slice none 0 0] (fun i => ([(0, 2), (2, 1)] : List (Nat × Nat))[i]?) := ⟨tbd117⟩
theorem tsl121 : SlT Try.prog 121 25 1 := ⟨Try.underlying121, tsz25⟩
instance : KSl Try.prog 121 25 1 := ⟨tsl121⟩
theorem tar123 : ArT Try.prog 123 2 25 1 := ⟨Try.underlying123, tsz25⟩
instance : KAr Try.prog 123 2 25 1 := ⟨tar123⟩
theorem tbd123 : BdT Try.prog 123 [.slice none 0 0, .slice none 0 0] (fun i => some (i * 1, 1)) := .array tar123 tmk123 rfl
instance : KBd Try.prog 123 [.slice none 0 0, .slice none 0 0] (fun i => some (i * 1, 1)) := ⟨tbd123⟩
instance : KMp Try.prog 128 := ⟨3, 3, Try.underlying128, Try.underlying3, tmk3⟩
theorem tsl131 : SlT Try.prog 131 24 2 := ⟨Try.underlying131, tsz24⟩
instance : KSl Try.prog 131 24 2 := ⟨tsl131⟩

end Go.Proofs.Ytjepdcfiogjmgaa
