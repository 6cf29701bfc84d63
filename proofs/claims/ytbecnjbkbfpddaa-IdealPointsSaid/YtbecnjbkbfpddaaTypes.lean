/- Facts on the types of this program, each closed. -/
import Derived.Test.YtbecnjbkbfpddaaEngT
import Derived.Test.YtbecnjbkbfpddaaRows
import Derived.KernelRfl
namespace Go.Proofs.Ytbecnjbkbfpddaa

theorem tsz3 : SzOf Try.prog 3 1 := by unfold SzOf; kernel_rfl
instance : KSz Try.prog 3 1 := ⟨tsz3⟩
theorem tmk3 : MkT Try.prog 3 (.int .i64 0) 1 8 := by unfold MkT; kernel_rfl
instance : KMk Try.prog 3 (.int .i64 0) 1 8 := ⟨tmk3⟩
theorem tsc3 : ScT Try.prog 3 := ⟨_, Try.underlying3, rfl⟩
instance : KSc Try.prog 3 := ⟨tsc3⟩
theorem tsz4 : SzOf Try.prog 4 1 := by unfold SzOf; kernel_rfl
instance : KSz Try.prog 4 1 := ⟨tsz4⟩
theorem tmk4 : MkT Try.prog 4 (.bool false) 1 1 := by unfold MkT; kernel_rfl
instance : KMk Try.prog 4 (.bool false) 1 1 := ⟨tmk4⟩
instance : KBo Try.prog 4 := ⟨Try.underlying4⟩
theorem tsc4 : ScT Try.prog 4 := ⟨_, Try.underlying4, rfl⟩
instance : KSc Try.prog 4 := ⟨tsc4⟩
theorem tsz22 : SzOf Try.prog 22 1 := by unfold SzOf; kernel_rfl
instance : KSz Try.prog 22 1 := ⟨tsz22⟩
theorem tmk22 : MkT Try.prog 22 (.slice none 0 0) 1 24 := by unfold MkT; kernel_rfl
instance : KMk Try.prog 22 (.slice none 0 0) 1 24 := ⟨tmk22⟩
theorem tsc22 : ScT Try.prog 22 := ⟨_, Try.underlying22, rfl⟩
instance : KSc Try.prog 22 := ⟨tsc22⟩
theorem tsz24 : SzOf Try.prog 24 3 := by unfold SzOf; kernel_rfl
instance : KSz Try.prog 24 3 := ⟨tsz24⟩
theorem tmk24 : MkT Try.prog 24 (.agg #[.int .i64 0, .slice none 0 0, .slice none 0 0]) 3 56 := by unfold MkT; kernel_rfl
instance : KMk Try.prog 24 (.agg #[.int .i64 0, .slice none 0 0, .slice none 0 0]) 3 56 := ⟨tmk24⟩
theorem tag24 : AgT Try.prog 24 3 := ⟨⟨_, Try.underlying24, rfl⟩, tsz24⟩
instance : KAg Try.prog 24 3 := ⟨tag24⟩
theorem tsz25 : SzOf Try.prog 25 1 := by unfold SzOf; kernel_rfl
instance : KSz Try.prog 25 1 := ⟨tsz25⟩
theorem tmk25 : MkT Try.prog 25 (.slice none 0 0) 1 24 := by unfold MkT; kernel_rfl
instance : KMk Try.prog 25 (.slice none 0 0) 1 24 := ⟨tmk25⟩
theorem tsc25 : ScT Try.prog 25 := ⟨_, Try.underlying25, rfl⟩
instance : KSc Try.prog 25 := ⟨tsc25⟩
theorem tsz26 : SzOf Try.prog 26 1 := by unfold SzOf; kernel_rfl
instance : KSz Try.prog 26 1 := ⟨tsz26⟩
theorem tmk26 : MkT Try.prog 26 (.int .i64 0) 1 8 := by unfold MkT; kernel_rfl
instance : KMk Try.prog 26 (.int .i64 0) 1 8 := ⟨tmk26⟩
theorem tsc26 : ScT Try.prog 26 := ⟨_, Try.underlying26, rfl⟩
instance : KSc Try.prog 26 := ⟨tsc26⟩
theorem tsz42 : SzOf Try.prog 42 1 := by unfold SzOf; kernel_rfl
instance : KSz Try.prog 42 1 := ⟨tsz42⟩
theorem tmk42 : MkT Try.prog 42 (.slice none 0 0) 1 24 := by unfold MkT; kernel_rfl
instance : KMk Try.prog 42 (.slice none 0 0) 1 24 := ⟨tmk42⟩
theorem tsc42 : ScT Try.prog 42 := ⟨_, Try.underlying42, rfl⟩
instance : KSc Try.prog 42 := ⟨tsc42⟩
theorem tsz45 : SzOf Try.prog 45 3 := by unfold SzOf; kernel_rfl
instance : KSz Try.prog 45 3 := ⟨tsz45⟩
theorem tmk45 : MkT Try.prog 45 (.agg #[.int .i64 0, .int .i64 0, .slice none 0 0]) 3 40 := by unfold MkT; kernel_rfl
instance : KMk Try.prog 45 (.agg #[.int .i64 0, .int .i64 0, .slice none 0 0]) 3 40 := ⟨tmk45⟩
theorem tag45 : AgT Try.prog 45 3 := ⟨⟨_, Try.underlying45, rfl⟩, tsz45⟩
instance : KAg Try.prog 45 3 := ⟨tag45⟩
theorem tsz49 : SzOf Try.prog 49 1 := by unfold SzOf; kernel_rfl
instance : KSz Try.prog 49 1 := ⟨tsz49⟩
theorem tmk49 : MkT Try.prog 49 (.slice none 0 0) 1 24 := by unfold MkT; kernel_rfl
instance : KMk Try.prog 49 (.slice none 0 0) 1 24 := ⟨tmk49⟩
theorem tsc49 : ScT Try.prog 49 := ⟨_, Try.underlying49, rfl⟩
instance : KSc Try.prog 49 := ⟨tsc49⟩
theorem tsz57 : SzOf Try.prog 57 2 := by unfold SzOf; kernel_rfl
instance : KSz Try.prog 57 2 := ⟨tsz57⟩
theorem tmk57 : MkT Try.prog 57 (.agg #[.int .i64 0, .int .i64 0]) 2 16 := by unfold MkT; kernel_rfl
instance : KMk Try.prog 57 (.agg #[.int .i64 0, .int .i64 0]) 2 16 := ⟨tmk57⟩
theorem tag57 : AgT Try.prog 57 2 := ⟨⟨_, Try.underlying57, rfl⟩, tsz57⟩
instance : KAg Try.prog 57 2 := ⟨tag57⟩
theorem tsz60 : SzOf Try.prog 60 2 := by unfold SzOf; kernel_rfl
instance : KSz Try.prog 60 2 := ⟨tsz60⟩
theorem tmk60 : MkT Try.prog 60 (.agg #[.int .i64 0, .slice none 0 0]) 2 32 := by unfold MkT; kernel_rfl
instance : KMk Try.prog 60 (.agg #[.int .i64 0, .slice none 0 0]) 2 32 := ⟨tmk60⟩
theorem tag60 : AgT Try.prog 60 2 := ⟨⟨_, Try.underlying60, rfl⟩, tsz60⟩
instance : KAg Try.prog 60 2 := ⟨tag60⟩
theorem tsz85 : SzOf Try.prog 85 1 := by unfold SzOf; kernel_rfl
instance : KSz Try.prog 85 1 := ⟨tsz85⟩
theorem tmk85 : MkT Try.prog 85 (.nilFunc) 1 8 := by unfold MkT; kernel_rfl
instance : KMk Try.prog 85 (.nilFunc) 1 8 := ⟨tmk85⟩
theorem tsc85 : ScT Try.prog 85 := ⟨_, Try.underlying85, rfl⟩
instance : KSc Try.prog 85 := ⟨tsc85⟩
theorem tsz90 : SzOf Try.prog 90 1 := by unfold SzOf; kernel_rfl
instance : KSz Try.prog 90 1 := ⟨tsz90⟩
theorem tmk90 : MkT Try.prog 90 (.nilFunc) 1 8 := by unfold MkT; kernel_rfl
instance : KMk Try.prog 90 (.nilFunc) 1 8 := ⟨tmk90⟩
theorem tsc90 : ScT Try.prog 90 := ⟨_, Try.underlying90, rfl⟩
instance : KSc Try.prog 90 := ⟨tsc90⟩
theorem tsz103 : SzOf Try.prog 103 1 := by unfold SzOf; kernel_rfl
instance : KSz Try.prog 103 1 := ⟨tsz103⟩
theorem tmk103 : MkT Try.prog 103 (.slice none 0 0) 1 24 := by unfold MkT; kernel_rfl
instance : KMk Try.prog 103 (.slice none 0 0) 1 24 := ⟨tmk103⟩
theorem tsc103 : ScT Try.prog 103 := ⟨_, Try.underlying103, rfl⟩
instance : KSc Try.prog 103 := ⟨tsc103⟩
theorem tsz106 : SzOf Try.prog 106 1 := by unfold SzOf; kernel_rfl
instance : KSz Try.prog 106 1 := ⟨tsz106⟩
theorem tmk106 : MkT Try.prog 106 (.nilFunc) 1 8 := by unfold MkT; kernel_rfl
instance : KMk Try.prog 106 (.nilFunc) 1 8 := ⟨tmk106⟩
theorem tsc106 : ScT Try.prog 106 := ⟨_, Try.underlying106, rfl⟩
instance : KSc Try.prog 106 := ⟨tsc106⟩
theorem tsz107 : SzOf Try.prog 107 1 := by unfold SzOf; kernel_rfl
instance : KSz Try.prog 107 1 := ⟨tsz107⟩
theorem tmk107 : MkT Try.prog 107 (.slice none 0 0) 1 24 := by unfold MkT; kernel_rfl
instance : KMk Try.prog 107 (.slice none 0 0) 1 24 := ⟨tmk107⟩
theorem tsc107 : ScT Try.prog 107 := ⟨_, Try.underlying107, rfl⟩
instance : KSc Try.prog 107 := ⟨tsc107⟩
theorem tsz109 : SzOf Try.prog 109 2 := by unfold SzOf; kernel_rfl
instance : KSz Try.prog 109 2 := ⟨tsz109⟩
theorem tmk109 : MkT Try.prog 109 (.agg #[.slice none 0 0, .slice none 0 0]) 2 48 := by unfold MkT; kernel_rfl
instance : KMk Try.prog 109 (.agg #[.slice none 0 0, .slice none 0 0]) 2 48 := ⟨tmk109⟩
theorem tag109 : AgT Try.prog 109 2 := ⟨⟨_, Try.underlying109, rfl⟩, tsz109⟩
instance : KAg Try.prog 109 2 := ⟨tag109⟩
theorem tsz112 : SzOf Try.prog 112 1 := by unfold SzOf; kernel_rfl
instance : KSz Try.prog 112 1 := ⟨tsz112⟩
theorem tmk112 : MkT Try.prog 112 (.slice none 0 0) 1 24 := by unfold MkT; kernel_rfl
instance : KMk Try.prog 112 (.slice none 0 0) 1 24 := ⟨tmk112⟩
theorem tsc112 : ScT Try.prog 112 := ⟨_, Try.underlying112, rfl⟩
instance : KSc Try.prog 112 := ⟨tsc112⟩
theorem tsl22 : SlT Try.prog 22 25 1 := ⟨Try.underlying22, tsz25⟩
instance : KSl Try.prog 22 25 1 := ⟨tsl22⟩
theorem tfl24_0 : FlT Try.prog 24 0 0 := ⟨_, _, 0, Try.underlying24, rfl, tsz3, rfl⟩
instance : KFl Try.prog 24 0 0 := ⟨tfl24_0⟩
theorem tfl24_1 : FlT Try.prog 24 1 1 := ⟨_, _, 0, Try.underlying24, rfl, tsz22, rfl⟩
instance : KFl Try.prog 24 1 1 := ⟨tfl24_1⟩
theorem tfl24_2 : FlT Try.prog 24 2 2 := ⟨_, _, 0, Try.underlying24, rfl, tsz22, rfl⟩
instance : KFl Try.prog 24 2 2 := ⟨tfl24_2⟩
theorem tbd24 : BdT Try.prog 24 [.int .i64 0, .slice none 0 0, .slice none 0 0] (fun i => ([(0, 1), (1, 1), (2, 1)] : List (Nat × Nat))[i]?) := .struct Try.underlying24 tmk24 rfl (szs := [1, 1, 1]) (by kernel_rfl)
instance : KBd Try.prog 24 [.int .i64 0, .slice none 0 0, .slice none 0 0] (fun i => ([(0, 1), (1, 1), (2, 1)] : List (Nat × Nat))[i]?) := ⟨tbd24⟩
theorem tsl25 : SlT Try.prog 25 3 1 := ⟨Try.underlying25, tsz3⟩
instance : KSl Try.prog 25 3 1 := ⟨tsl25⟩
theorem tsl42 : SlT Try.prog 42 4 1 := ⟨Try.underlying42, tsz4⟩
instance : KSl Try.prog 42 4 1 := ⟨tsl42⟩
theorem tfl45_0 : FlT Try.prog 45 0 0 := ⟨_, _, 0, Try.underlying45, rfl, tsz3, rfl⟩
instance : KFl Try.prog 45 0 0 := ⟨tfl45_0⟩
theorem tfl45_1 : FlT Try.prog 45 1 1 := ⟨_, _, 0, Try.underlying45, rfl, tsz3, rfl⟩
instance : KFl Try.prog 45 1 1 := ⟨tfl45_1⟩
theorem tfl45_2 : FlT Try.prog 45 2 2 := ⟨_, _, 0, Try.underlying45, rfl, tsz25, rfl⟩
instance : KFl Try.prog 45 2 2 := ⟨tfl45_2⟩
theorem tbd45 : BdT Try.prog 45 [.int .i64 0, .int .i64 0, .slice none 0 0] (fun i => ([(0, 1), (1, 1), (2, 1)] : List (Nat × Nat))[i]?) := .struct Try.underlying45 tmk45 rfl (szs := [1, 1, 1]) (by kernel_rfl)
instance : KBd Try.prog 45 [.int .i64 0, .int .i64 0, .slice none 0 0] (fun i => ([(0, 1), (1, 1), (2, 1)] : List (Nat × Nat))[i]?) := ⟨tbd45⟩
theorem tsl49 : SlT Try.prog 49 57 2 := ⟨Try.underlying49, tsz57⟩
instance : KSl Try.prog 49 57 2 := ⟨tsl49⟩
instance : KEqP Try.prog 57 := ⟨3, ⟨Try.underlying57, tsz3⟩, Try.underlying3, by kernel_rfl⟩
theorem tar57 : ArT Try.prog 57 2 3 1 := ⟨Try.underlying57, tsz3⟩
instance : KAr Try.prog 57 2 3 1 := ⟨tar57⟩
theorem tbd57 : BdT Try.prog 57 [.int .i64 0, .int .i64 0] (fun i => some (i * 1, 1)) := .array tar57 tmk57 rfl
instance : KBd Try.prog 57 [.int .i64 0, .int .i64 0] (fun i => some (i * 1, 1)) := ⟨tbd57⟩
theorem tfl60_0 : FlT Try.prog 60 0 0 := ⟨_, _, 0, Try.underlying60, rfl, tsz3, rfl⟩
instance : KFl Try.prog 60 0 0 := ⟨tfl60_0⟩
theorem tfl60_1 : FlT Try.prog 60 1 1 := ⟨_, _, 0, Try.underlying60, rfl, tsz25, rfl⟩
instance : KFl Try.prog 60 1 1 := ⟨tfl60_1⟩
theorem tbd60 : BdT Try.prog 60 [.int .i64 0, .slice none 0 0] (fun i => ([(0, 1), (1, 1)] : List (Nat × Nat))[i]?) := .struct Try.underlying60 tmk60 rfl (szs := [1, 1]) (by kernel_rfl)
instance : KBd Try.prog 60 [.int .i64 0, .slice none 0 0] (fun i => ([(0, 1), (1, 1)] : List (Nat × Nat))[i]?) := ⟨tbd60⟩
theorem tsl103 : SlT Try.prog 103 24 3 := ⟨Try.underlying103, tsz24⟩
instance : KSl Try.prog 103 24 3 := ⟨tsl103⟩
theorem tsl107 : SlT Try.prog 107 22 1 := ⟨Try.underlying107, tsz22⟩
instance : KSl Try.prog 107 22 1 := ⟨tsl107⟩
theorem tar109 : ArT Try.prog 109 2 22 1 := ⟨Try.underlying109, tsz22⟩
instance : KAr Try.prog 109 2 22 1 := ⟨tar109⟩
theorem tbd109 : BdT Try.prog 109 [.slice none 0 0, .slice none 0 0] (fun i => some (i * 1, 1)) := .array tar109 tmk109 rfl
instance : KBd Try.prog 109 [.slice none 0 0, .slice none 0 0] (fun i => some (i * 1, 1)) := ⟨tbd109⟩
theorem tsl112 : SlT Try.prog 112 60 2 := ⟨Try.underlying112, tsz60⟩
instance : KSl Try.prog 112 60 2 := ⟨tsl112⟩

end Go.Proofs.Ytbecnjbkbfpddaa
