/- Facts on the types of this program, each closed. -/
import Derived.Test.YtipkcabpfhmngaaEngT
import Derived.Test.YtipkcabpfhmngaaRows
import Derived.KernelRfl
namespace Go.Proofs.Ytipkcabpfhmngaa

theorem tsz3 : SzOf Try.prog 3 1 := by unfold SzOf; kernel_rfl
instance : KSz Try.prog 3 1 := ⟨tsz3⟩
theorem tmk3 : MkT Try.prog 3 (.int .i64 0) 1 8 := by unfold MkT; kernel_rfl
instance : KMk Try.prog 3 (.int .i64 0) 1 8 := ⟨tmk3⟩
theorem tsc3 : ScT Try.prog 3 := ⟨_, Try.underlying3, rfl⟩
instance : KSc Try.prog 3 := ⟨tsc3⟩
theorem tsz4 : SzOf Try.prog 4 1 := by unfold SzOf; kernel_rfl
instance : KSz Try.prog 4 1 := ⟨tsz4⟩
theorem tmk4 : MkT Try.prog 4 (.bool false) 1 1 := by unfold MkT; kernel_rfl
instance : KMk Try.prog 4 (.bool false) 1 1 := ⟨tmk4⟩
instance : KBo Try.prog 4 := ⟨Try.underlying4⟩
theorem tsc4 : ScT Try.prog 4 := ⟨_, Try.underlying4, rfl⟩
instance : KSc Try.prog 4 := ⟨tsc4⟩
theorem tsz5 : SzOf Try.prog 5 1 := by unfold SzOf; kernel_rfl
instance : KSz Try.prog 5 1 := ⟨tsz5⟩
theorem tmk5 : MkT Try.prog 5 (.int .u8 0) 1 1 := by unfold MkT; kernel_rfl
instance : KMk Try.prog 5 (.int .u8 0) 1 1 := ⟨tmk5⟩
theorem tsc5 : ScT Try.prog 5 := ⟨_, Try.underlying5, rfl⟩
instance : KSc Try.prog 5 := ⟨tsc5⟩
theorem tsz9 : SzOf Try.prog 9 1 := by unfold SzOf; kernel_rfl
instance : KSz Try.prog 9 1 := ⟨tsz9⟩
theorem tmk9 : MkT Try.prog 9 (.string ⟨#[]⟩) 1 16 := by unfold MkT; kernel_rfl
instance : KMk Try.prog 9 (.string ⟨#[]⟩) 1 16 := ⟨tmk9⟩
theorem tsc9 : ScT Try.prog 9 := ⟨_, Try.underlying9, rfl⟩
instance : KSc Try.prog 9 := ⟨tsc9⟩
theorem tsz22 : SzOf Try.prog 22 1 := by unfold SzOf; kernel_rfl
instance : KSz Try.prog 22 1 := ⟨tsz22⟩
theorem tmk22 : MkT Try.prog 22 (.slice none 0 0) 1 24 := by unfold MkT; kernel_rfl
instance : KMk Try.prog 22 (.slice none 0 0) 1 24 := ⟨tmk22⟩
theorem tsc22 : ScT Try.prog 22 := ⟨_, Try.underlying22, rfl⟩
instance : KSc Try.prog 22 := ⟨tsc22⟩
theorem tsz24 : SzOf Try.prog 24 2 := by unfold SzOf; kernel_rfl
instance : KSz Try.prog 24 2 := ⟨tsz24⟩
theorem tmk24 : MkT Try.prog 24 (.agg #[.int .i64 0, .slice none 0 0]) 2 32 := by unfold MkT; kernel_rfl
instance : KMk Try.prog 24 (.agg #[.int .i64 0, .slice none 0 0]) 2 32 := ⟨tmk24⟩
theorem tag24 : AgT Try.prog 24 2 := ⟨⟨_, Try.underlying24, rfl⟩, tsz24⟩
instance : KAg Try.prog 24 2 := ⟨tag24⟩
theorem tsz25 : SzOf Try.prog 25 1 := by unfold SzOf; kernel_rfl
instance : KSz Try.prog 25 1 := ⟨tsz25⟩
theorem tmk25 : MkT Try.prog 25 (.int .i64 0) 1 8 := by unfold MkT; kernel_rfl
instance : KMk Try.prog 25 (.int .i64 0) 1 8 := ⟨tmk25⟩
theorem tsc25 : ScT Try.prog 25 := ⟨_, Try.underlying25, rfl⟩
instance : KSc Try.prog 25 := ⟨tsc25⟩
theorem tsz51 : SzOf Try.prog 51 3 := by unfold SzOf; kernel_rfl
instance : KSz Try.prog 51 3 := ⟨tsz51⟩
theorem tmk51 : MkT Try.prog 51 (.agg #[.int .i64 0, .int .i64 0, .slice none 0 0]) 3 40 := by unfold MkT; kernel_rfl
instance : KMk Try.prog 51 (.agg #[.int .i64 0, .int .i64 0, .slice none 0 0]) 3 40 := ⟨tmk51⟩
theorem tag51 : AgT Try.prog 51 3 := ⟨⟨_, Try.underlying51, rfl⟩, tsz51⟩
instance : KAg Try.prog 51 3 := ⟨tag51⟩
theorem tsz70 : SzOf Try.prog 70 2 := by unfold SzOf; kernel_rfl
instance : KSz Try.prog 70 2 := ⟨tsz70⟩
theorem tmk70 : MkT Try.prog 70 (.agg #[.int .i64 0, .int .i64 0]) 2 16 := by unfold MkT; kernel_rfl
instance : KMk Try.prog 70 (.agg #[.int .i64 0, .int .i64 0]) 2 16 := ⟨tmk70⟩
theorem tag70 : AgT Try.prog 70 2 := ⟨⟨_, Try.underlying70, rfl⟩, tsz70⟩
instance : KAg Try.prog 70 2 := ⟨tag70⟩
theorem tsz72 : SzOf Try.prog 72 6 := by unfold SzOf; kernel_rfl
instance : KSz Try.prog 72 6 := ⟨tsz72⟩
theorem tmk72 : MkT Try.prog 72 (.agg #[.int .i64 0, .int .i64 0, .slice none 0 0, .slice none 0 0, .slice none 0 0, .int .i64 0]) 6 96 := by unfold MkT; kernel_rfl
instance : KMk Try.prog 72 (.agg #[.int .i64 0, .int .i64 0, .slice none 0 0, .slice none 0 0, .slice none 0 0, .int .i64 0]) 6 96 := ⟨tmk72⟩
theorem tag72 : AgT Try.prog 72 6 := ⟨⟨_, Try.underlying72, rfl⟩, tsz72⟩
instance : KAg Try.prog 72 6 := ⟨tag72⟩
theorem tsz73 : SzOf Try.prog 73 1 := by unfold SzOf; kernel_rfl
instance : KSz Try.prog 73 1 := ⟨tsz73⟩
theorem tmk73 : MkT Try.prog 73 (.pointer none) 1 8 := by unfold MkT; kernel_rfl
instance : KMk Try.prog 73 (.pointer none) 1 8 := ⟨tmk73⟩
theorem tsc73 : ScT Try.prog 73 := ⟨_, Try.underlying73, rfl⟩
instance : KSc Try.prog 73 := ⟨tsc73⟩
theorem tsz76 : SzOf Try.prog 76 1 := by unfold SzOf; kernel_rfl
instance : KSz Try.prog 76 1 := ⟨tsz76⟩
theorem tmk76 : MkT Try.prog 76 (.int .u64 0) 1 8 := by unfold MkT; kernel_rfl
instance : KMk Try.prog 76 (.int .u64 0) 1 8 := ⟨tmk76⟩
theorem tsc76 : ScT Try.prog 76 := ⟨_, Try.underlying76, rfl⟩
instance : KSc Try.prog 76 := ⟨tsc76⟩
theorem tsz77 : SzOf Try.prog 77 1 := by unfold SzOf; kernel_rfl
instance : KSz Try.prog 77 1 := ⟨tsz77⟩
theorem tmk77 : MkT Try.prog 77 (.pointer none) 1 8 := by unfold MkT; kernel_rfl
instance : KMk Try.prog 77 (.pointer none) 1 8 := ⟨tmk77⟩
theorem tsc77 : ScT Try.prog 77 := ⟨_, Try.underlying77, rfl⟩
instance : KSc Try.prog 77 := ⟨tsc77⟩
theorem tsz83 : SzOf Try.prog 83 3 := by unfold SzOf; kernel_rfl
instance : KSz Try.prog 83 3 := ⟨tsz83⟩
theorem tmk83 : MkT Try.prog 83 (.agg #[.int .i64 0, .slice none 0 0, .slice none 0 0]) 3 56 := by unfold MkT; kernel_rfl
instance : KMk Try.prog 83 (.agg #[.int .i64 0, .slice none 0 0, .slice none 0 0]) 3 56 := ⟨tmk83⟩
theorem tag83 : AgT Try.prog 83 3 := ⟨⟨_, Try.underlying83, rfl⟩, tsz83⟩
instance : KAg Try.prog 83 3 := ⟨tag83⟩
theorem tsz86 : SzOf Try.prog 86 1 := by unfold SzOf; kernel_rfl
instance : KSz Try.prog 86 1 := ⟨tsz86⟩
theorem tmk86 : MkT Try.prog 86 (.slice none 0 0) 1 24 := by unfold MkT; kernel_rfl
instance : KMk Try.prog 86 (.slice none 0 0) 1 24 := ⟨tmk86⟩
theorem tsc86 : ScT Try.prog 86 := ⟨_, Try.underlying86, rfl⟩
instance : KSc Try.prog 86 := ⟨tsc86⟩
theorem tsz93 : SzOf Try.prog 93 1 := by unfold SzOf; kernel_rfl
instance : KSz Try.prog 93 1 := ⟨tsz93⟩
theorem tmk93 : MkT Try.prog 93 (.int .u32 0) 1 4 := by unfold MkT; kernel_rfl
instance : KMk Try.prog 93 (.int .u32 0) 1 4 := ⟨tmk93⟩
theorem tsc93 : ScT Try.prog 93 := ⟨_, Try.underlying93, rfl⟩
instance : KSc Try.prog 93 := ⟨tsc93⟩
theorem tsz95 : SzOf Try.prog 95 1 := by unfold SzOf; kernel_rfl
instance : KSz Try.prog 95 1 := ⟨tsz95⟩
theorem tmk95 : MkT Try.prog 95 (.int .u64 0) 1 8 := by unfold MkT; kernel_rfl
instance : KMk Try.prog 95 (.int .u64 0) 1 8 := ⟨tmk95⟩
theorem tsc95 : ScT Try.prog 95 := ⟨_, Try.underlying95, rfl⟩
instance : KSc Try.prog 95 := ⟨tsc95⟩
theorem tsz96 : SzOf Try.prog 96 1 := by unfold SzOf; kernel_rfl
instance : KSz Try.prog 96 1 := ⟨tsz96⟩
theorem tmk96 : MkT Try.prog 96 (.slice none 0 0) 1 24 := by unfold MkT; kernel_rfl
instance : KMk Try.prog 96 (.slice none 0 0) 1 24 := ⟨tmk96⟩
theorem tsc96 : ScT Try.prog 96 := ⟨_, Try.underlying96, rfl⟩
instance : KSc Try.prog 96 := ⟨tsc96⟩
theorem tsl22 : SlT Try.prog 22 3 1 := ⟨Try.underlying22, tsz3⟩
instance : KSl Try.prog 22 3 1 := ⟨tsl22⟩
theorem tfl24_0 : FlT Try.prog 24 0 0 := ⟨_, _, 0, Try.underlying24, rfl, tsz3, rfl⟩
instance : KFl Try.prog 24 0 0 := ⟨tfl24_0⟩
theorem tfl24_1 : FlT Try.prog 24 1 1 := ⟨_, _, 0, Try.underlying24, rfl, tsz22, rfl⟩
instance : KFl Try.prog 24 1 1 := ⟨tfl24_1⟩
theorem tbd24 : BdT Try.prog 24 [.int .i64 0, .slice none 0 0] (fun i => ([(0, 1), (1, 1)] : List (Nat × Nat))[i]?) := .struct Try.underlying24 tmk24 rfl (szs := [1, 1]) (by kernel_rfl)
instance : KBd Try.prog 24 [.int .i64 0, .slice none 0 0] (fun i => ([(0, 1), (1, 1)] : List (Nat × Nat))[i]?) := ⟨tbd24⟩
theorem tfl51_0 : FlT Try.prog 51 0 0 := ⟨_, _, 0, Try.underlying51, rfl, tsz3, rfl⟩
instance : KFl Try.prog 51 0 0 := ⟨tfl51_0⟩
theorem tfl51_1 : FlT Try.prog 51 1 1 := ⟨_, _, 0, Try.underlying51, rfl, tsz3, rfl⟩
instance : KFl Try.prog 51 1 1 := ⟨tfl51_1⟩
theorem tfl51_2 : FlT Try.prog 51 2 2 := ⟨_, _, 0, Try.underlying51, rfl, tsz22, rfl⟩
instance : KFl Try.prog 51 2 2 := ⟨tfl51_2⟩
theorem tbd51 : BdT Try.prog 51 [.int .i64 0, .int .i64 0, .slice none 0 0] (fun i => ([(0, 1), (1, 1), (2, 1)] : List (Nat × Nat))[i]?) := .struct Try.underlying51 tmk51 rfl (szs := [1, 1, 1]) (by kernel_rfl)
instance : KBd Try.prog 51 [.int .i64 0, .int .i64 0, .slice none 0 0] (fun i => ([(0, 1), (1, 1), (2, 1)] : List (Nat × Nat))[i]?) := ⟨tbd51⟩
instance : KEqP Try.prog 70 := ⟨3, ⟨Try.underlying70, tsz3⟩, Try.underlying3, by kernel_rfl⟩
theorem tar70 : ArT Try.prog 70 2 3 1 := ⟨Try.underlying70, tsz3⟩
instance : KAr Try.prog 70 2 3 1 := ⟨tar70⟩
theorem tbd70 : BdT Try.prog 70 [.int .i64 0, .int .i64 0] (fun i => some (i * 1, 1)) := .array tar70 tmk70 rfl
instance : KBd Try.prog 70 [.int .i64 0, .int .i64 0] (fun i => some (i * 1, 1)) := ⟨tbd70⟩
theorem tfl72_0 : FlT Try.prog 72 0 0 := ⟨_, _, 2, Try.underlying72, rfl, tsz51, rfl⟩
instance : KFl Try.prog 72 0 0 := ⟨tfl72_0⟩
theorem tfl72_1 : FlT Try.prog 72 1 3 := ⟨_, _, 0, Try.underlying72, rfl, tsz22, rfl⟩
instance : KFl Try.prog 72 1 3 := ⟨tfl72_1⟩
theorem tfl72_2 : FlT Try.prog 72 2 4 := ⟨_, _, 0, Try.underlying72, rfl, tsz22, rfl⟩
instance : KFl Try.prog 72 2 4 := ⟨tfl72_2⟩
theorem tfl72_3 : FlT Try.prog 72 3 5 := ⟨_, _, 0, Try.underlying72, rfl, tsz3, rfl⟩
instance : KFl Try.prog 72 3 5 := ⟨tfl72_3⟩
theorem tbd72 : BdT Try.prog 72 [.int .i64 0, .int .i64 0, .slice none 0 0, .slice none 0 0, .slice none 0 0, .int .i64 0] (fun i => ([(0, 3), (3, 1), (4, 1), (5, 1)] : List (Nat × Nat))[i]?) := .struct Try.underlying72 tmk72 rfl (szs := [3, 1, 1, 1]) (by kernel_rfl)
instance : KBd Try.prog 72 [.int .i64 0, .int .i64 0, .slice none 0 0, .slice none 0 0, .slice none 0 0, .int .i64 0] (fun i => ([(0, 3), (3, 1), (4, 1), (5, 1)] : List (Nat × Nat))[i]?) := ⟨tbd72⟩
theorem tfl83_0 : FlT Try.prog 83 0 0 := ⟨_, _, 1, Try.underlying83, rfl, tsz24, rfl⟩
instance : KFl Try.prog 83 0 0 := ⟨tfl83_0⟩
theorem tfl83_1 : FlT Try.prog 83 1 2 := ⟨_, _, 0, Try.underlying83, rfl, tsz22, rfl⟩
instance : KFl Try.prog 83 1 2 := ⟨tfl83_1⟩
theorem tbd83 : BdT Try.prog 83 [.int .i64 0, .slice none 0 0, .slice none 0 0] (fun i => ([(0, 2), (2, 1)] : List (Nat × Nat))[i]?) := .struct Try.underlying83 tmk83 rfl (szs := [2, 1]) (by kernel_rfl)
instance : KBd Try.prog 83 [.int .i64 0, .slice none 0 0, .slice none 0 0] (fun i => ([(0, 2), (2, 1)] : List (Nat × Nat))[i]?) := ⟨tbd83⟩
theorem tsl86 : SlT Try.prog 86 70 2 := ⟨Try.underlying86, tsz70⟩
instance : KSl Try.prog 86 70 2 := ⟨tsl86⟩
theorem tsl96 : SlT Try.prog 96 24 2 := ⟨Try.underlying96, tsz24⟩
instance : KSl Try.prog 96 24 2 := ⟨tsl96⟩

end Go.Proofs.Ytipkcabpfhmngaa
