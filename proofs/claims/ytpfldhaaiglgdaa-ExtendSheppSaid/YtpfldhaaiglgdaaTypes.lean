/- Facts on the types of this program, each closed. -/
import Derived.Test.YtpfldhaaiglgdaaEngT
import Derived.Test.YtpfldhaaiglgdaaRows
import Derived.KernelRfl
namespace Go.Proofs.Ytpfldhaaiglgdaa

theorem tsz3 : SzOf Try.prog 3 1 := by unfold SzOf; kernel_rfl
instance : KSz Try.prog 3 1 := ⟨tsz3⟩
theorem tmk3 : MkT Try.prog 3 (.int .i64 0) 1 8 := by unfold MkT; kernel_rfl
instance : KMk Try.prog 3 (.int .i64 0) 1 8 := ⟨tmk3⟩
theorem tsc3 : ScT Try.prog 3 := ⟨_, Try.underlying3, rfl⟩
instance : KSc Try.prog 3 := ⟨tsc3⟩
theorem tsz4 : SzOf Try.prog 4 1 := by unfold SzOf; kernel_rfl
instance : KSz Try.prog 4 1 := ⟨tsz4⟩
theorem tmk4 : MkT Try.prog 4 (.bool false) 1 1 := by unfold MkT; kernel_rfl
instance : KMk Try.prog 4 (.bool false) 1 1 := ⟨tmk4⟩
instance : KBo Try.prog 4 := ⟨Try.underlying4⟩
theorem tsc4 : ScT Try.prog 4 := ⟨_, Try.underlying4, rfl⟩
instance : KSc Try.prog 4 := ⟨tsc4⟩
theorem tsz22 : SzOf Try.prog 22 1 := by unfold SzOf; kernel_rfl
instance : KSz Try.prog 22 1 := ⟨tsz22⟩
theorem tmk22 : MkT Try.prog 22 (.slice none 0 0) 1 24 := by unfold MkT; kernel_rfl
instance : KMk Try.prog 22 (.slice none 0 0) 1 24 := ⟨tmk22⟩
theorem tsc22 : ScT Try.prog 22 := ⟨_, Try.underlying22, rfl⟩
instance : KSc Try.prog 22 := ⟨tsc22⟩
theorem tsz24 : SzOf Try.prog 24 2 := by unfold SzOf; kernel_rfl
instance : KSz Try.prog 24 2 := ⟨tsz24⟩
theorem tmk24 : MkT Try.prog 24 (.agg #[.int .i64 0, .slice none 0 0]) 2 32 := by unfold MkT; kernel_rfl
instance : KMk Try.prog 24 (.agg #[.int .i64 0, .slice none 0 0]) 2 32 := ⟨tmk24⟩
theorem tag24 : AgT Try.prog 24 2 := ⟨⟨_, Try.underlying24, rfl⟩, tsz24⟩
instance : KAg Try.prog 24 2 := ⟨tag24⟩
theorem tsz26 : SzOf Try.prog 26 1 := by unfold SzOf; kernel_rfl
instance : KSz Try.prog 26 1 := ⟨tsz26⟩
theorem tmk26 : MkT Try.prog 26 (.int .i64 0) 1 8 := by unfold MkT; kernel_rfl
instance : KMk Try.prog 26 (.int .i64 0) 1 8 := ⟨tmk26⟩
theorem tsc26 : ScT Try.prog 26 := ⟨_, Try.underlying26, rfl⟩
instance : KSc Try.prog 26 := ⟨tsc26⟩
theorem tsz35 : SzOf Try.prog 35 2 := by unfold SzOf; kernel_rfl
instance : KSz Try.prog 35 2 := ⟨tsz35⟩
theorem tmk35 : MkT Try.prog 35 (.agg #[.int .i64 0, .int .i64 0]) 2 16 := by unfold MkT; kernel_rfl
instance : KMk Try.prog 35 (.agg #[.int .i64 0, .int .i64 0]) 2 16 := ⟨tmk35⟩
theorem tag35 : AgT Try.prog 35 2 := ⟨⟨_, Try.underlying35, rfl⟩, tsz35⟩
instance : KAg Try.prog 35 2 := ⟨tag35⟩
theorem tsz37 : SzOf Try.prog 37 1 := by unfold SzOf; kernel_rfl
instance : KSz Try.prog 37 1 := ⟨tsz37⟩
theorem tmk37 : MkT Try.prog 37 (.slice none 0 0) 1 24 := by unfold MkT; kernel_rfl
instance : KMk Try.prog 37 (.slice none 0 0) 1 24 := ⟨tmk37⟩
theorem tsc37 : ScT Try.prog 37 := ⟨_, Try.underlying37, rfl⟩
instance : KSc Try.prog 37 := ⟨tsc37⟩
theorem tsz42 : SzOf Try.prog 42 1 := by unfold SzOf; kernel_rfl
instance : KSz Try.prog 42 1 := ⟨tsz42⟩
theorem tmk42 : MkT Try.prog 42 (.slice none 0 0) 1 24 := by unfold MkT; kernel_rfl
instance : KMk Try.prog 42 (.slice none 0 0) 1 24 := ⟨tmk42⟩
theorem tsc42 : ScT Try.prog 42 := ⟨_, Try.underlying42, rfl⟩
instance : KSc Try.prog 42 := ⟨tsc42⟩
theorem tsl22 : SlT Try.prog 22 3 1 := ⟨Try.underlying22, tsz3⟩
instance : KSl Try.prog 22 3 1 := ⟨tsl22⟩
theorem tfl24_0 : FlT Try.prog 24 0 0 := ⟨_, _, 0, Try.underlying24, rfl, tsz3, rfl⟩
instance : KFl Try.prog 24 0 0 := ⟨tfl24_0⟩
theorem tfl24_1 : FlT Try.prog 24 1 1 := ⟨_, _, 0, Try.underlying24, rfl, tsz22, rfl⟩
instance : KFl Try.prog 24 1 1 := ⟨tfl24_1⟩
theorem tbd24 : BdT Try.prog 24 [.int .i64 0, .slice none 0 0] (fun i => ([(0, 1), (1, 1)] : List (Nat × Nat))[i]?) := .struct Try.underlying24 tmk24 rfl (szs := [1, 1]) (by kernel_rfl)
instance : KBd Try.prog 24 [.int .i64 0, .slice none 0 0] (fun i => ([(0, 1), (1, 1)] : List (Nat × Nat))[i]?) := ⟨tbd24⟩
instance : KEqP Try.prog 35 := ⟨3, ⟨Try.underlying35, tsz3⟩, Try.underlying3, by kernel_rfl⟩
theorem tar35 : ArT Try.prog 35 2 3 1 := ⟨Try.underlying35, tsz3⟩
instance : KAr Try.prog 35 2 3 1 := ⟨tar35⟩
theorem tbd35 : BdT Try.prog 35 [.int .i64 0, .int .i64 0] (fun i => some (i * 1, 1)) := .array tar35 tmk35 rfl
instance : KBd Try.prog 35 [.int .i64 0, .int .i64 0] (fun i => some (i * 1, 1)) := ⟨tbd35⟩
theorem tsl37 : SlT Try.prog 37 35 2 := ⟨Try.underlying37, tsz35⟩
instance : KSl Try.prog 37 35 2 := ⟨tsl37⟩
theorem tsl42 : SlT Try.prog 42 24 2 := ⟨Try.underlying42, tsz24⟩
instance : KSl Try.prog 42 24 2 := ⟨tsl42⟩

end Go.Proofs.Ytpfldhaaiglgdaa
