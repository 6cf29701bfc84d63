/- Facts on the types of this program, each closed. -/
import Derived.Test.YtmfhmpdpebpijaaEngT
import Derived.Test.YtmfhmpdpebpijaaRows
import Derived.KernelRfl
namespace Go.Proofs.Ytmfhmpdpebpijaa

theorem tsz3 : SzOf Try.prog 3 1 := by unfold SzOf; kernel_rfl
instance : KSz Try.prog 3 1 := ⟨tsz3⟩
theorem tmk3 : MkT Try.prog 3 (.int .i64 0) 1 8 := by unfold MkT; kernel_rfl
instance : KMk Try.prog 3 (.int .i64 0) 1 8 := ⟨tmk3⟩
theorem tsc3 : ScT Try.prog 3 := ⟨_, Try.underlying3, rfl⟩
instance : KSc Try.prog 3 := ⟨tsc3⟩
theorem tsz4 : SzOf Try.prog 4 1 := by unfold SzOf; kernel_rfl
instance : KSz Try.prog 4 1 := ⟨tsz4⟩
theorem tmk4 : MkT Try.prog 4 (.bool false) 1 1 := by unfold MkT; kernel_rfl
instance : KMk Try.prog 4 (.bool false) 1 1 := ⟨tmk4⟩
instance : KBo Try.prog 4 := ⟨Try.underlying4⟩
theorem tsc4 : ScT Try.prog 4 := ⟨_, Try.underlying4, rfl⟩
instance : KSc Try.prog 4 := ⟨tsc4⟩
theorem tsz5 : SzOf Try.prog 5 1 := by unfold SzOf; kernel_rfl
instance : KSz Try.prog 5 1 := ⟨tsz5⟩
theorem tmk5 : MkT Try.prog 5 (.int .u8 0) 1 1 := by unfold MkT; kernel_rfl
instance : KMk Try.prog 5 (.int .u8 0) 1 1 := ⟨tmk5⟩
theorem tsc5 : ScT Try.prog 5 := ⟨_, Try.underlying5, rfl⟩
instance : KSc Try.prog 5 := ⟨tsc5⟩
theorem tsz9 : SzOf Try.prog 9 1 := by unfold SzOf; kernel_rfl
instance : KSz Try.prog 9 1 := ⟨tsz9⟩
theorem tmk9 : MkT Try.prog 9 (.string ⟨#[]⟩) 1 16 := by unfold MkT; kernel_rfl
instance : KMk Try.prog 9 (.string ⟨#[]⟩) 1 16 := ⟨tmk9⟩
theorem tsc9 : ScT Try.prog 9 := ⟨_, Try.underlying9, rfl⟩
instance : KSc Try.prog 9 := ⟨tsc9⟩
theorem tsz22 : SzOf Try.prog 22 1 := by unfold SzOf; kernel_rfl
instance : KSz Try.prog 22 1 := ⟨tsz22⟩
theorem tmk22 : MkT Try.prog 22 (.slice none 0 0) 1 24 := by unfold MkT; kernel_rfl
instance : KMk Try.prog 22 (.slice none 0 0) 1 24 := ⟨tmk22⟩
theorem tsc22 : ScT Try.prog 22 := ⟨_, Try.underlying22, rfl⟩
instance : KSc Try.prog 22 := ⟨tsc22⟩
theorem tsz24 : SzOf Try.prog 24 2 := by unfold SzOf; kernel_rfl
instance : KSz Try.prog 24 2 := ⟨tsz24⟩
theorem tmk24 : MkT Try.prog 24 (.agg #[.int .i64 0, .slice none 0 0]) 2 32 := by unfold MkT; kernel_rfl
instance : KMk Try.prog 24 (.agg #[.int .i64 0, .slice none 0 0]) 2 32 := ⟨tmk24⟩
theorem tag24 : AgT Try.prog 24 2 := ⟨⟨_, Try.underlying24, rfl⟩, tsz24⟩
instance : KAg Try.prog 24 2 := ⟨tag24⟩
theorem tsz25 : SzOf Try.prog 25 1 := by unfold SzOf; kernel_rfl
instance : KSz Try.prog 25 1 := ⟨tsz25⟩
theorem tmk25 : MkT Try.prog 25 (.int .i64 0) 1 8 := by unfold MkT; kernel_rfl
instance : KMk Try.prog 25 (.int .i64 0) 1 8 := ⟨tmk25⟩
theorem tsc25 : ScT Try.prog 25 := ⟨_, Try.underlying25, rfl⟩
instance : KSc Try.prog 25 := ⟨tsc25⟩
theorem tsz36 : SzOf Try.prog 36 3 := by unfold SzOf; kernel_rfl
instance : KSz Try.prog 36 3 := ⟨tsz36⟩
theorem tmk36 : MkT Try.prog 36 (.agg #[.int .i64 0, .int .i64 0, .slice none 0 0]) 3 40 := by unfold MkT; kernel_rfl
instance : KMk Try.prog 36 (.agg #[.int .i64 0, .int .i64 0, .slice none 0 0]) 3 40 := ⟨tmk36⟩
theorem tag36 : AgT Try.prog 36 3 := ⟨⟨_, Try.underlying36, rfl⟩, tsz36⟩
instance : KAg Try.prog 36 3 := ⟨tag36⟩
theorem tsz59 : SzOf Try.prog 59 3 := by unfold SzOf; kernel_rfl
instance : KSz Try.prog 59 3 := ⟨tsz59⟩
theorem tmk59 : MkT Try.prog 59 (.agg #[.int .i64 0, .int .i64 0, .slice none 0 0]) 3 40 := by unfold MkT; kernel_rfl
instance : KMk Try.prog 59 (.agg #[.int .i64 0, .int .i64 0, .slice none 0 0]) 3 40 := ⟨tmk59⟩
theorem tag59 : AgT Try.prog 59 3 := ⟨⟨_, Try.underlying59, rfl⟩, tsz59⟩
instance : KAg Try.prog 59 3 := ⟨tag59⟩
theorem tsz60 : SzOf Try.prog 60 1 := by unfold SzOf; kernel_rfl
instance : KSz Try.prog 60 1 := ⟨tsz60⟩
theorem tmk60 : MkT Try.prog 60 (.slice none 0 0) 1 24 := by unfold MkT; kernel_rfl
instance : KMk Try.prog 60 (.slice none 0 0) 1 24 := ⟨tmk60⟩
theorem tsc60 : ScT Try.prog 60 := ⟨_, Try.underlying60, rfl⟩
instance : KSc Try.prog 60 := ⟨tsc60⟩
theorem tsz65 : SzOf Try.prog 65 2 := by unfold SzOf; kernel_rfl
instance : KSz Try.prog 65 2 := ⟨tsz65⟩
theorem tmk65 : MkT Try.prog 65 (.agg #[.int .i64 0, .int .i64 0]) 2 16 := by unfold MkT; kernel_rfl
instance : KMk Try.prog 65 (.agg #[.int .i64 0, .int .i64 0]) 2 16 := ⟨tmk65⟩
theorem tag65 : AgT Try.prog 65 2 := ⟨⟨_, Try.underlying65, rfl⟩, tsz65⟩
instance : KAg Try.prog 65 2 := ⟨tag65⟩
theorem tsz71 : SzOf Try.prog 71 1 := by unfold SzOf; kernel_rfl
instance : KSz Try.prog 71 1 := ⟨tsz71⟩
theorem tmk71 : MkT Try.prog 71 (.pointer none) 1 8 := by unfold MkT; kernel_rfl
instance : KMk Try.prog 71 (.pointer none) 1 8 := ⟨tmk71⟩
theorem tsc71 : ScT Try.prog 71 := ⟨_, Try.underlying71, rfl⟩
instance : KSc Try.prog 71 := ⟨tsc71⟩
theorem tsz77 : SzOf Try.prog 77 3 := by unfold SzOf; kernel_rfl
instance : KSz Try.prog 77 3 := ⟨tsz77⟩
theorem tmk77 : MkT Try.prog 77 (.agg #[.int .i64 0, .slice none 0 0, .slice none 0 0]) 3 56 := by unfold MkT; kernel_rfl
instance : KMk Try.prog 77 (.agg #[.int .i64 0, .slice none 0 0, .slice none 0 0]) 3 56 := ⟨tmk77⟩
theorem tag77 : AgT Try.prog 77 3 := ⟨⟨_, Try.underlying77, rfl⟩, tsz77⟩
instance : KAg Try.prog 77 3 := ⟨tag77⟩
theorem tsz81 : SzOf Try.prog 81 1 := by unfold SzOf; kernel_rfl
instance : KSz Try.prog 81 1 := ⟨tsz81⟩
theorem tmk81 : MkT Try.prog 81 (.pointer none) 1 8 := by unfold MkT; kernel_rfl
instance : KMk Try.prog 81 (.pointer none) 1 8 := ⟨tmk81⟩
theorem tsc81 : ScT Try.prog 81 := ⟨_, Try.underlying81, rfl⟩
instance : KSc Try.prog 81 := ⟨tsc81⟩
theorem tsz84 : SzOf Try.prog 84 6 := by unfold SzOf; kernel_rfl
instance : KSz Try.prog 84 6 := ⟨tsz84⟩
theorem tmk84 : MkT Try.prog 84 (.agg #[.int .i64 0, .int .i64 0, .slice none 0 0, .slice none 0 0, .slice none 0 0, .int .i64 0]) 6 96 := by unfold MkT; kernel_rfl
instance : KMk Try.prog 84 (.agg #[.int .i64 0, .int .i64 0, .slice none 0 0, .slice none 0 0, .slice none 0 0, .int .i64 0]) 6 96 := ⟨tmk84⟩
theorem tag84 : AgT Try.prog 84 6 := ⟨⟨_, Try.underlying84, rfl⟩, tsz84⟩
instance : KAg Try.prog 84 6 := ⟨tag84⟩
theorem tsz86 : SzOf Try.prog 86 1 := by unfold SzOf; kernel_rfl
instance : KSz Try.prog 86 1 := ⟨tsz86⟩
theorem tmk86 : MkT Try.prog 86 (.int .u64 0) 1 8 := by unfold MkT; kernel_rfl
instance : KMk Try.prog 86 (.int .u64 0) 1 8 := ⟨tmk86⟩
theorem tsc86 : ScT Try.prog 86 := ⟨_, Try.underlying86, rfl⟩
instance : KSc Try.prog 86 := ⟨tsc86⟩
theorem tsz97 : SzOf Try.prog 97 1 := by unfold SzOf; kernel_rfl
instance : KSz Try.prog 97 1 := ⟨tsz97⟩
theorem tmk97 : MkT Try.prog 97 (.int .u32 0) 1 4 := by unfold MkT; kernel_rfl
instance : KMk Try.prog 97 (.int .u32 0) 1 4 := ⟨tmk97⟩
theorem tsc97 : ScT Try.prog 97 := ⟨_, Try.underlying97, rfl⟩
instance : KSc Try.prog 97 := ⟨tsc97⟩
theorem tsz99 : SzOf Try.prog 99 1 := by unfold SzOf; kernel_rfl
instance : KSz Try.prog 99 1 := ⟨tsz99⟩
theorem tmk99 : MkT Try.prog 99 (.int .u64 0) 1 8 := by unfold MkT; kernel_rfl
instance : KMk Try.prog 99 (.int .u64 0) 1 8 := ⟨tmk99⟩
theorem tsc99 : ScT Try.prog 99 := ⟨_, Try.underlying99, rfl⟩
instance : KSc Try.prog 99 := ⟨tsc99⟩
theorem tsz104 : SzOf Try.prog 104 1 := by unfold SzOf; kernel_rfl
instance : KSz Try.prog 104 1 := ⟨tsz104⟩
theorem tmk104 : MkT Try.prog 104 (.slice none 0 0) 1 24 := by unfold MkT; kernel_rfl
instance : KMk Try.prog 104 (.slice none 0 0) 1 24 := ⟨tmk104⟩
theorem tsc104 : ScT Try.prog 104 := ⟨_, Try.underlying104, rfl⟩
instance : KSc Try.prog 104 := ⟨tsc104⟩
theorem tsl22 : SlT Try.prog 22 3 1 := ⟨Try.underlying22, tsz3⟩
instance : KSl Try.prog 22 3 1 := ⟨tsl22⟩
theorem tfl24_0 : FlT Try.prog 24 0 0 := ⟨_, _, 0, Try.underlying24, rfl, tsz3, rfl⟩
instance : KFl Try.prog 24 0 0 := ⟨tfl24_0⟩
theorem tfl24_1 : FlT Try.prog 24 1 1 := ⟨_, _, 0, Try.underlying24, rfl, tsz22, rfl⟩
instance : KFl Try.prog 24 1 1 := ⟨tfl24_1⟩
theorem tbd24 : BdT Try.prog 24 [.int .i64 0, .slice none 0 0] (fun i => ([(0, 1), (1, 1)] : List (Nat × Nat))[i]?) := .struct Try.underlying24 tmk24 rfl (szs := [1, 1]) (by kernel_rfl)
instance : KBd Try.prog 24 [.int .i64 0, .slice none 0 0] (fun i => ([(0, 1), (1, 1)] : List (Nat × Nat))[i]?) := ⟨tbd24⟩
theorem tfl36_0 : FlT Try.prog 36 0 0 := ⟨_, _, 0, Try.underlying36, rfl, tsz3, rfl⟩
instance : KFl Try.prog 36 0 0 := ⟨tfl36_0⟩
theorem tfl36_1 : FlT Try.prog 36 1 1 := ⟨_, _, 0, Try.underlying36, rfl, tsz3, rfl⟩
instance : KFl Try.prog 36 1 1 := ⟨tfl36_1⟩
theorem tfl36_2 : FlT Try.prog 36 2 2 := ⟨_, _, 0, Try.underlying36, rfl, tsz22, rfl⟩
instance : KFl Try.prog 36 2 2 := ⟨tfl36_2⟩
theorem tbd36 : BdT Try.prog 36 [.int .i64 0, .int .i64 0, .slice none 0 0] (fun i => ([(0, 1), (1, 1), (2, 1)] : List (Nat × Nat))[i]?) := .struct Try.underlying36 tmk36 rfl (szs := [1, 1, 1]) (by kernel_rfl)
instance : KBd Try.prog 36 [.int .i64 0, .int .i64 0, .slice none 0 0] (fun i => ([(0, 1), (1, 1), (2, 1)] : List (Nat × Nat))[i]?) := ⟨tbd36⟩
theorem tfl59_0 : FlT Try.prog 59 0 0 := ⟨_, _, 0, Try.underlying59, rfl, tsz3, rfl⟩
instance : KFl Try.prog 59 0 0 := ⟨tfl59_0⟩
theorem tfl59_1 : FlT Try.prog 59 1 1 := ⟨_, _, 0, Try.underlying59, rfl, tsz3, rfl⟩
instance : KFl Try.prog 59 1 1 := ⟨tfl59_1⟩
theorem tfl59_2 : FlT Try.prog 59 2 2 := ⟨_, _, 0, Try.underlying59, rfl, tsz22, rfl⟩
instance : KFl Try.prog 59 2 2 := ⟨tfl59_2⟩
theorem tbd59 : BdT Try.prog 59 [.int .i64 0, .int .i64 0, .slice none 0 0] (fun i => ([(0, 1), (1, 1), (2, 1)] : List (Nat × Nat))[i]?) := .struct Try.underlying59 tmk59 rfl (szs := [1, 1, 1]) (by kernel_rfl)
instance : KBd Try.prog 59 [.int .i64 0, .int .i64 0, .slice none 0 0] (fun i => ([(0, 1), (1, 1), (2, 1)] : List (Nat × Nat))[i]?) := ⟨tbd59⟩
theorem tsl60 : SlT Try.prog 60 65 2 := ⟨Try.underlying60, tsz65⟩
instance : KSl Try.prog 60 65 2 := ⟨tsl60⟩
instance : KEqP Try.prog 65 := ⟨3, ⟨Try.underlying65, tsz3⟩, Try.underlying3, by kernel_rfl⟩
theorem tar65 : ArT Try.prog 65 2 3 1 := ⟨Try.underlying65, tsz3⟩
instance : KAr Try.prog 65 2 3 1 := ⟨tar65⟩
theorem tbd65 : BdT Try.prog 65 [.int .i64 0, .int .i64 0] (fun i => some (i * 1, 1)) := .array tar65 tmk65 rfl
instance : KBd Try.prog 65 [.int .i64 0, .int .i64 0] (fun i => some (i * 1, 1)) := ⟨tbd65⟩
theorem tfl77_0 : FlT Try.prog 77 0 0 := ⟨_, _, 1, Try.underlying77, rfl, tsz24, rfl⟩
instance : KFl Try.prog 77 0 0 := ⟨tfl77_0⟩
theorem tfl77_1 : FlT Try.prog 77 1 2 := ⟨_, _, 0, Try.underlying77, rfl, tsz22, rfl⟩
instance : KFl Try.prog 77 1 2 := ⟨tfl77_1⟩
theorem tbd77 : BdT Try.prog 77 [.int .i64 0, .slice none 0 0, .slice none 0 0] (fun i => ([(0, 2), (2, 1)] : List (Nat × Nat))[i]?) := .struct Try.underlying77 tmk77 rfl (szs := [2, 1]) (by kernel_rfl)
instance : KBd Try.prog 77 [.int .i64 0, .slice none 0 0, .slice none 0 0] (fun i => ([(0, 2), (2, 1)] : List (Nat × Nat))[i]?) := ⟨tbd77⟩
theorem tfl84_0 : FlT Try.prog 84 0 0 := ⟨_, _, 2, Try.underlying84, rfl, tsz36, rfl⟩
instance : KFl Try.prog 84 0 0 := ⟨tfl84_0⟩
theorem tfl84_1 : FlT Try.prog 84 1 3 := ⟨_, _, 0, Try.underlying84, rfl, tsz22, rfl⟩
instance : KFl Try.prog 84 1 3 := ⟨tfl84_1⟩
theorem tfl84_2 : FlT Try.prog 84 2 4 := ⟨_, _, 0, Try.underlying84, rfl, tsz22, rfl⟩
instance : KFl Try.prog 84 2 4 := ⟨tfl84_2⟩
theorem tfl84_3 : FlT Try.prog 84 3 5 := ⟨_, _, 0, Try.underlying84, rfl, tsz3, rfl⟩
instance : KFl Try.prog 84 3 5 := ⟨tfl84_3⟩
theorem tbd84 : BdT Try.prog 84 [.int .i64 0, .int .i64 0, .slice none 0 0, .slice none 0 0, .slice none 0 0, .int .i64 0] (fun i => ([(0, 3), (3, 1), (4, 1), (5, 1)] : List (Nat × Nat))[i]?) := .struct Try.underlying84 tmk84 rfl (szs := [3, 1, 1, 1]) (by kernel_rfl)
instance : KBd Try.prog 84 [.int .i64 0, .int .i64 0, .slice none 0 0, .slice none 0 0, .slice none 0 0, .int .i64 0] (fun i => ([(0, 3), (3, 1), (4, 1), (5, 1)] : List (Nat × Nat))[i]?) := ⟨tbd84⟩
theorem tsl104 : SlT Try.prog 104 24 2 := ⟨Try.underlying104, tsz24⟩
instance : KSl Try.prog 104 24 2 := ⟨tsl104⟩

end Go.Proofs.Ytmfhmpdpebpijaa
