/- Facts on the types of this program, each closed. -/
import Derived.Test.YthchhaaplimafaaEngZa
import Derived.Test.YthchhaaplimafaaRows
import Derived.KernelRfl
namespace Go.Proofs.Ythchhaaplimafaa

theorem tsz3 : SzOf Try.prog 3 1 := by unfold SzOf; kernel_rfl
instance : KSz Try.prog 3 1 := ⟨tsz3⟩
theorem tmk3 : MkT Try.prog 3 (.int .i64 0) 1 8 := by unfold MkT; kernel_rfl
instance : KMk Try.prog 3 (.int .i64 0) 1 8 := ⟨tmk3⟩
theorem tsc3 : ScT Try.prog 3 := ⟨_, Try.underlying3, rfl⟩
instance : KSc Try.prog 3 := ⟨tsc3⟩
theorem tsz4 : SzOf Try.prog 4 1 := by unfold SzOf; kernel_rfl
instance : KSz Try.prog 4 1 := ⟨tsz4⟩
theorem tmk4 : MkT Try.prog 4 (.bool false) 1 1 := by unfold MkT; kernel_rfl
instance : KMk Try.prog 4 (.bool false) 1 1 := ⟨tmk4⟩
instance : KBo Try.prog 4 := ⟨Try.underlying4⟩
theorem tsc4 : ScT Try.prog 4 := ⟨_, Try.underlying4, rfl⟩
instance : KSc Try.prog 4 := ⟨tsc4⟩
theorem tsz5 : SzOf Try.prog 5 1 := by unfold SzOf; kernel_rfl
instance : KSz Try.prog 5 1 := ⟨tsz5⟩
theorem tmk5 : MkT Try.prog 5 (.int .u8 0) 1 1 := by unfold MkT; kernel_rfl
instance : KMk Try.prog 5 (.int .u8 0) 1 1 := ⟨tmk5⟩
theorem tsc5 : ScT Try.prog 5 := ⟨_, Try.underlying5, rfl⟩
instance : KSc Try.prog 5 := ⟨tsc5⟩
theorem tsz9 : SzOf Try.prog 9 1 := by unfold SzOf; kernel_rfl
instance : KSz Try.prog 9 1 := ⟨tsz9⟩
theorem tmk9 : MkT Try.prog 9 (.string ⟨#[]⟩) 1 16 := by unfold MkT; kernel_rfl
instance : KMk Try.prog 9 (.string ⟨#[]⟩) 1 16 := ⟨tmk9⟩
theorem tsc9 : ScT Try.prog 9 := ⟨_, Try.underlying9, rfl⟩
instance : KSc Try.prog 9 := ⟨tsc9⟩
theorem tsz22 : SzOf Try.prog 22 1 := by unfold SzOf; kernel_rfl
instance : KSz Try.prog 22 1 := ⟨tsz22⟩
theorem tmk22 : MkT Try.prog 22 (.slice none 0 0) 1 24 := by unfold MkT; kernel_rfl
instance : KMk Try.prog 22 (.slice none 0 0) 1 24 := ⟨tmk22⟩
theorem tsc22 : ScT Try.prog 22 := ⟨_, Try.underlying22, rfl⟩
instance : KSc Try.prog 22 := ⟨tsc22⟩
theorem tsz24 : SzOf Try.prog 24 3 := by unfold SzOf; kernel_rfl
instance : KSz Try.prog 24 3 := ⟨tsz24⟩
theorem tmk24 : MkT Try.prog 24 (.agg #[.int .i64 0, .int .i64 0, .slice none 0 0]) 3 40 := by unfold MkT; kernel_rfl
instance : KMk Try.prog 24 (.agg #[.int .i64 0, .int .i64 0, .slice none 0 0]) 3 40 := ⟨tmk24⟩
theorem tag24 : AgT Try.prog 24 3 := ⟨⟨_, Try.underlying24, rfl⟩, tsz24⟩
instance : KAg Try.prog 24 3 := ⟨tag24⟩
theorem tsz25 : SzOf Try.prog 25 1 := by unfold SzOf; kernel_rfl
instance : KSz Try.prog 25 1 := ⟨tsz25⟩
theorem tmk25 : MkT Try.prog 25 (.int .i64 0) 1 8 := by unfold MkT; kernel_rfl
instance : KMk Try.prog 25 (.int .i64 0) 1 8 := ⟨tmk25⟩
theorem tsc25 : ScT Try.prog 25 := ⟨_, Try.underlying25, rfl⟩
instance : KSc Try.prog 25 := ⟨tsc25⟩
theorem tsz36 : SzOf Try.prog 36 1 := by unfold SzOf; kernel_rfl
instance : KSz Try.prog 36 1 := ⟨tsz36⟩
theorem tmk36 : MkT Try.prog 36 (.nilFunc) 1 8 := by unfold MkT; kernel_rfl
instance : KMk Try.prog 36 (.nilFunc) 1 8 := ⟨tmk36⟩
theorem tsc36 : ScT Try.prog 36 := ⟨_, Try.underlying36, rfl⟩
instance : KSc Try.prog 36 := ⟨tsc36⟩
theorem tsz37 : SzOf Try.prog 37 1 := by unfold SzOf; kernel_rfl
instance : KSz Try.prog 37 1 := ⟨tsz37⟩
theorem tmk37 : MkT Try.prog 37 (.slice none 0 0) 1 24 := by unfold MkT; kernel_rfl
instance : KMk Try.prog 37 (.slice none 0 0) 1 24 := ⟨tmk37⟩
theorem tsc37 : ScT Try.prog 37 := ⟨_, Try.underlying37, rfl⟩
instance : KSc Try.prog 37 := ⟨tsc37⟩
theorem tsz41 : SzOf Try.prog 41 2 := by unfold SzOf; kernel_rfl
instance : KSz Try.prog 41 2 := ⟨tsz41⟩
theorem tmk41 : MkT Try.prog 41 (.agg #[.int .i64 0, .int .i64 0]) 2 16 := by unfold MkT; kernel_rfl
instance : KMk Try.prog 41 (.agg #[.int .i64 0, .int .i64 0]) 2 16 := ⟨tmk41⟩
theorem tag41 : AgT Try.prog 41 2 := ⟨⟨_, Try.underlying41, rfl⟩, tsz41⟩
instance : KAg Try.prog 41 2 := ⟨tag41⟩
theorem tsz43 : SzOf Try.prog 43 1 := by unfold SzOf; kernel_rfl
instance : KSz Try.prog 43 1 := ⟨tsz43⟩
theorem tmk43 : MkT Try.prog 43 (.slice none 0 0) 1 24 := by unfold MkT; kernel_rfl
instance : KMk Try.prog 43 (.slice none 0 0) 1 24 := ⟨tmk43⟩
theorem tsc43 : ScT Try.prog 43 := ⟨_, Try.underlying43, rfl⟩
instance : KSc Try.prog 43 := ⟨tsc43⟩
theorem tsz45 : SzOf Try.prog 45 3 := by unfold SzOf; kernel_rfl
instance : KSz Try.prog 45 3 := ⟨tsz45⟩
theorem tmk45 : MkT Try.prog 45 (.agg #[.int .i64 0, .slice none 0 0, .slice none 0 0]) 3 56 := by unfold MkT; kernel_rfl
instance : KMk Try.prog 45 (.agg #[.int .i64 0, .slice none 0 0, .slice none 0 0]) 3 56 := ⟨tmk45⟩
theorem tag45 : AgT Try.prog 45 3 := ⟨⟨_, Try.underlying45, rfl⟩, tsz45⟩
instance : KAg Try.prog 45 3 := ⟨tag45⟩
theorem tsz52 : SzOf Try.prog 52 3 := by unfold SzOf; kernel_rfl
instance : KSz Try.prog 52 3 := ⟨tsz52⟩
theorem tmk52 : MkT Try.prog 52 (.agg #[.int .i64 0, .int .i64 0, .slice none 0 0]) 3 40 := by unfold MkT; kernel_rfl
instance : KMk Try.prog 52 (.agg #[.int .i64 0, .int .i64 0, .slice none 0 0]) 3 40 := ⟨tmk52⟩
theorem tag52 : AgT Try.prog 52 3 := ⟨⟨_, Try.underlying52, rfl⟩, tsz52⟩
instance : KAg Try.prog 52 3 := ⟨tag52⟩
theorem tsz62 : SzOf Try.prog 62 2 := by unfold SzOf; kernel_rfl
instance : KSz Try.prog 62 2 := ⟨tsz62⟩
theorem tmk62 : MkT Try.prog 62 (.agg #[.int .i64 0, .slice none 0 0]) 2 32 := by unfold MkT; kernel_rfl
instance : KMk Try.prog 62 (.agg #[.int .i64 0, .slice none 0 0]) 2 32 := ⟨tmk62⟩
theorem tag62 : AgT Try.prog 62 2 := ⟨⟨_, Try.underlying62, rfl⟩, tsz62⟩
instance : KAg Try.prog 62 2 := ⟨tag62⟩
theorem tsz79 : SzOf Try.prog 79 1 := by unfold SzOf; kernel_rfl
instance : KSz Try.prog 79 1 := ⟨tsz79⟩
theorem tmk79 : MkT Try.prog 79 (.nilFunc) 1 8 := by unfold MkT; kernel_rfl
instance : KMk Try.prog 79 (.nilFunc) 1 8 := ⟨tmk79⟩
theorem tsc79 : ScT Try.prog 79 := ⟨_, Try.underlying79, rfl⟩
instance : KSc Try.prog 79 := ⟨tsc79⟩
theorem tsz84 : SzOf Try.prog 84 1 := by unfold SzOf; kernel_rfl
instance : KSz Try.prog 84 1 := ⟨tsz84⟩
theorem tmk84 : MkT Try.prog 84 (.int .u64 0) 1 8 := by unfold MkT; kernel_rfl
instance : KMk Try.prog 84 (.int .u64 0) 1 8 := ⟨tmk84⟩
theorem tsc84 : ScT Try.prog 84 := ⟨_, Try.underlying84, rfl⟩
instance : KSc Try.prog 84 := ⟨tsc84⟩
theorem tsz93 : SzOf Try.prog 93 1 := by unfold SzOf; kernel_rfl
instance : KSz Try.prog 93 1 := ⟨tsz93⟩
theorem tmk93 : MkT Try.prog 93 (.int .u32 0) 1 4 := by unfold MkT; kernel_rfl
instance : KMk Try.prog 93 (.int .u32 0) 1 4 := ⟨tmk93⟩
theorem tsc93 : ScT Try.prog 93 := ⟨_, Try.underlying93, rfl⟩
instance : KSc Try.prog 93 := ⟨tsc93⟩
theorem tsz95 : SzOf Try.prog 95 1 := by unfold SzOf; kernel_rfl
instance : KSz Try.prog 95 1 := ⟨tsz95⟩
theorem tmk95 : MkT Try.prog 95 (.int .u64 0) 1 8 := by unfold MkT; kernel_rfl
instance : KMk Try.prog 95 (.int .u64 0) 1 8 := ⟨tmk95⟩
theorem tsc95 : ScT Try.prog 95 := ⟨_, Try.underlying95, rfl⟩
instance : KSc Try.prog 95 := ⟨tsc95⟩
theorem tsz100 : SzOf Try.prog 100 1 := by unfold SzOf; kernel_rfl
instance : KSz Try.prog 100 1 := ⟨tsz100⟩
theorem tmk100 : MkT Try.prog 100 (.slice none 0 0) 1 24 := by unfold MkT; kernel_rfl
instance : KMk Try.prog 100 (.slice none 0 0) 1 24 := ⟨tmk100⟩
theorem tsc100 : ScT Try.prog 100 := ⟨_, Try.underlying100, rfl⟩
instance : KSc Try.prog 100 := ⟨tsc100⟩
theorem tsl22 : SlT Try.prog 22 3 1 := ⟨Try.underlying22, tsz3⟩
instance : KSl Try.prog 22 3 1 := ⟨tsl22⟩
theorem tfl24_0 : FlT Try.prog 24 0 0 := ⟨_, _, 0, Try.underlying24, rfl, tsz3, rfl⟩
instance : KFl Try.prog 24 0 0 := ⟨tfl24_0⟩
theorem tfl24_1 : FlT Try.prog 24 1 1 := ⟨_, _, 0, Try.underlying24, rfl, tsz3, rfl⟩
instance : KFl Try.prog 24 1 1 := ⟨tfl24_1⟩
theorem tfl24_2 : FlT Try.prog 24 2 2 := ⟨_, _, 0, Try.underlying24, rfl, tsz22, rfl⟩
instance : KFl Try.prog 24 2 2 := ⟨tfl24_2⟩
theorem tbd24 : BdT Try.prog 24 [.int .i64 0, .int .i64 0, .slice none 0 0] (fun i => ([(0, 1), (1, 1), (2, 1)] : List (Nat × Nat))[i]?) := .struct Try.underlying24 tmk24 rfl (szs := [1, 1, 1]) (by kernel_rfl)
instance : KBd Try.prog 24 [.int .i64 0, .int .i64 0, .slice none 0 0] (fun i => ([(0, 1), (1, 1), (2, 1)] : List (Nat × Nat))[i]?) := ⟨tbd24⟩
theorem tsl37 : SlT Try.prog 37 41 2 := ⟨Try.underlying37, tsz41⟩
instance : KSl Try.prog 37 41 2 := ⟨tsl37⟩
instance : KEqP Try.prog 41 := ⟨3, ⟨Try.underlying41, tsz3⟩, Try.underlying3, by kernel_rfl⟩
theorem tar41 : ArT Try.prog 41 2 3 1 := ⟨Try.underlying41, tsz3⟩
instance : KAr Try.prog 41 2 3 1 := ⟨tar41⟩
theorem tbd41 : BdT Try.prog 41 [.int .i64 0, .int .i64 0] (fun i => some (i * 1, 1)) := .array tar41 tmk41 rfl
instance : KBd Try.prog 41 [.int .i64 0, .int .i64 0] (fun i => some (i * 1, 1)) := ⟨tbd41⟩
theorem tsl43 : SlT Try.prog 43 22 1 := ⟨Try.underlying43, tsz22⟩
instance : KSl Try.prog 43 22 1 := ⟨tsl43⟩
theorem tfl45_0 : FlT Try.prog 45 0 0 := ⟨_, _, 0, Try.underlying45, rfl, tsz3, rfl⟩
instance : KFl Try.prog 45 0 0 := ⟨tfl45_0⟩
theorem tfl45_1 : FlT Try.prog 45 1 1 := ⟨_, _, 0, Try.underlying45, rfl, tsz43, rfl⟩
instance : KFl Try.prog 45 1 1 := ⟨tfl45_1⟩
theorem tfl45_2 : FlT Try.prog 45 2 2 := ⟨_, _, 0, Try.underlying45, rfl, tsz43, rfl⟩
instance : KFl Try.prog 45 2 2 := ⟨tfl45_2⟩
theorem tbd45 : BdT Try.prog 45 [.int .i64 0, .slice none 0 0, .slice none 0 0] (fun i => ([(0, 1), (1, 1), (2, 1)] : List (Nat × Nat))[i]?) := .struct Try.underlying45 tmk45 rfl (szs := [1, 1, 1]) (by kernel_rfl)
instance : KBd Try.prog 45 [.int .i64 0, .slice none 0 0, .slice none 0 0] (fun i => ([(0, 1), (1, 1), (2, 1)] : List (Nat × Nat))[i]?) := ⟨tbd45⟩
theorem tfl52_0 : FlT Try.prog 52 0 0 := ⟨_, _, 0, Try.underlying52, rfl, tsz3, rfl⟩
instance : KFl Try.prog 52 0 0 := ⟨tfl52_0⟩
theorem tfl52_1 : FlT Try.prog 52 1 1 := ⟨_, _, 0, Try.underlying52, rfl, tsz3, rfl⟩
instance : KFl Try.prog 52 1 1 := ⟨tfl52_1⟩
theorem tfl52_2 : FlT Try.prog 52 2 2 := ⟨_, _, 0, Try.underlying52, rfl, tsz22, rfl⟩
instance : KFl Try.prog 52 2 2 := ⟨tfl52_2⟩
theorem tbd52 : BdT Try.prog 52 [.int .i64 0, .int .i64 0, .slice none 0 0] (fun i => ([(0, 1), (1, 1), (2, 1)] : List (Nat × Nat))[i]?) := .struct Try.underlying52 tmk52 rfl (szs := [1, 1, 1]) (by kernel_rfl)
instance : KBd Try.prog 52 [.int .i64 0, .int .i64 0, .slice none 0 0] (fun i => ([(0, 1), (1, 1), (2, 1)] : List (Nat × Nat))[i]?) := ⟨tbd52⟩
theorem tfl62_0 : FlT Try.prog 62 0 0 := ⟨_, _, 0, Try.underlying62, rfl, tsz3, rfl⟩
instance : KFl Try.prog 62 0 0 := ⟨tfl62_0⟩
theorem tfl62_1 : FlT Try.prog 62 1 1 := ⟨_, _, 0, Try.underlying62, rfl, tsz22, rfl⟩
instance : KFl Try.prog 62 1 1 := ⟨tfl62_1⟩
theorem tbd62 : BdT Try.prog 62 [.int .i64 0, .slice none 0 0] (fun i => ([(0, 1), (1, 1)] : List (Nat × Nat))[i]?) := .struct Try.underlying62 tmk62 rfl (szs := [1, 1]) (by kernel_rfl)
instance : KBd Try.prog 62 [.int .i64 0, .slice none 0 0] (fun i => ([(0, 1), (1, 1)] : List (Nat × Nat))[i]?) := ⟨tbd62⟩
theorem tsl100 : SlT Try.prog 100 62 2 := ⟨Try.underlying100, tsz62⟩
instance : KSl Try.prog 100 62 2 := ⟨tsl100⟩

end Go.Proofs.Ythchhaaplimafaa
