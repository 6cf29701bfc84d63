/- Facts on the types of this program, each closed. -/
import Derived.Test.YtgkokahpgikckaaEngY
import Derived.Test.YtgkokahpgikckaaRows
import Derived.KernelRfl
namespace Go.Proofs.Ytgkokahpgikckaa

theorem tsz3 : SzOf Try.prog 3 1 := by unfold SzOf; kernel_rfl
instance : KSz Try.prog 3 1 := ⟨tsz3⟩
theorem tmk3 : MkT Try.prog 3 (.int .i64 0) 1 8 := by unfold MkT; kernel_rfl
instance : KMk Try.prog 3 (.int .i64 0) 1 8 := ⟨tmk3⟩
theorem tsc3 : ScT Try.prog 3 := ⟨_, Try.underlying3, rfl⟩
instance : KSc Try.prog 3 := ⟨tsc3⟩
theorem tsz4 : SzOf Try.prog 4 1 := by unfold SzOf; kernel_rfl
instance : KSz Try.prog 4 1 := ⟨tsz4⟩
theorem tmk4 : MkT Try.prog 4 (.bool false) 1 1 := by unfold MkT; kernel_rfl
instance : KMk Try.prog 4 (.bool false) 1 1 := ⟨tmk4⟩
instance : KBo Try.prog 4 := ⟨Try.underlying4⟩
theorem tsc4 : ScT Try.prog 4 := ⟨_, Try.underlying4, rfl⟩
instance : KSc Try.prog 4 := ⟨tsc4⟩
theorem tsz22 : SzOf Try.prog 22 1 := by unfold SzOf; kernel_rfl
instance : KSz Try.prog 22 1 := ⟨tsz22⟩
theorem tmk22 : MkT Try.prog 22 (.slice none 0 0) 1 24 := by unfold MkT; kernel_rfl
instance : KMk Try.prog 22 (.slice none 0 0) 1 24 := ⟨tmk22⟩
theorem tsc22 : ScT Try.prog 22 := ⟨_, Try.underlying22, rfl⟩
instance : KSc Try.prog 22 := ⟨tsc22⟩
theorem tsz24 : SzOf Try.prog 24 2 := by unfold SzOf; kernel_rfl
instance : KSz Try.prog 24 2 := ⟨tsz24⟩
theorem tmk24 : MkT Try.prog 24 (.agg #[.int .i64 0, .slice none 0 0]) 2 32 := by unfold MkT; kernel_rfl
instance : KMk Try.prog 24 (.agg #[.int .i64 0, .slice none 0 0]) 2 32 := ⟨tmk24⟩
theorem tag24 : AgT Try.prog 24 2 := ⟨⟨_, Try.underlying24, rfl⟩, tsz24⟩
instance : KAg Try.prog 24 2 := ⟨tag24⟩
theorem tsz25 : SzOf Try.prog 25 1 := by unfold SzOf; kernel_rfl
instance : KSz Try.prog 25 1 := ⟨tsz25⟩
theorem tmk25 : MkT Try.prog 25 (.int .i64 0) 1 8 := by unfold MkT; kernel_rfl
instance : KMk Try.prog 25 (.int .i64 0) 1 8 := ⟨tmk25⟩
theorem tsc25 : ScT Try.prog 25 := ⟨_, Try.underlying25, rfl⟩
instance : KSc Try.prog 25 := ⟨tsc25⟩
theorem tsz33 : SzOf Try.prog 33 1 := by unfold SzOf; kernel_rfl
instance : KSz Try.prog 33 1 := ⟨tsz33⟩
theorem tmk33 : MkT Try.prog 33 (.slice none 0 0) 1 24 := by unfold MkT; kernel_rfl
instance : KMk Try.prog 33 (.slice none 0 0) 1 24 := ⟨tmk33⟩
theorem tsc33 : ScT Try.prog 33 := ⟨_, Try.underlying33, rfl⟩
instance : KSc Try.prog 33 := ⟨tsc33⟩
theorem tsz50 : SzOf Try.prog 50 3 := by unfold SzOf; kernel_rfl
instance : KSz Try.prog 50 3 := ⟨tsz50⟩
theorem tmk50 : MkT Try.prog 50 (.agg #[.int .i64 0, .int .i64 0, .slice none 0 0]) 3 40 := by unfold MkT; kernel_rfl
instance : KMk Try.prog 50 (.agg #[.int .i64 0, .int .i64 0, .slice none 0 0]) 3 40 := ⟨tmk50⟩
theorem tag50 : AgT Try.prog 50 3 := ⟨⟨_, Try.underlying50, rfl⟩, tsz50⟩
instance : KAg Try.prog 50 3 := ⟨tag50⟩
theorem tsz67 : SzOf Try.prog 67 2 := by unfold SzOf; kernel_rfl
instance : KSz Try.prog 67 2 := ⟨tsz67⟩
theorem tmk67 : MkT Try.prog 67 (.agg #[.int .i64 0, .int .i64 0]) 2 16 := by unfold MkT; kernel_rfl
instance : KMk Try.prog 67 (.agg #[.int .i64 0, .int .i64 0]) 2 16 := ⟨tmk67⟩
theorem tag67 : AgT Try.prog 67 2 := ⟨⟨_, Try.underlying67, rfl⟩, tsz67⟩
instance : KAg Try.prog 67 2 := ⟨tag67⟩
theorem tsz71 : SzOf Try.prog 71 1 := by unfold SzOf; kernel_rfl
instance : KSz Try.prog 71 1 := ⟨tsz71⟩
theorem tmk71 : MkT Try.prog 71 (.slice none 0 0) 1 24 := by unfold MkT; kernel_rfl
instance : KMk Try.prog 71 (.slice none 0 0) 1 24 := ⟨tmk71⟩
theorem tsc71 : ScT Try.prog 71 := ⟨_, Try.underlying71, rfl⟩
instance : KSc Try.prog 71 := ⟨tsc71⟩
theorem tsz72 : SzOf Try.prog 72 1 := by unfold SzOf; kernel_rfl
instance : KSz Try.prog 72 1 := ⟨tsz72⟩
theorem tmk72 : MkT Try.prog 72 (.slice none 0 0) 1 24 := by unfold MkT; kernel_rfl
instance : KMk Try.prog 72 (.slice none 0 0) 1 24 := ⟨tmk72⟩
theorem tsc72 : ScT Try.prog 72 := ⟨_, Try.underlying72, rfl⟩
instance : KSc Try.prog 72 := ⟨tsc72⟩
theorem tsz74 : SzOf Try.prog 74 1 := by unfold SzOf; kernel_rfl
instance : KSz Try.prog 74 1 := ⟨tsz74⟩
theorem tmk74 : MkT Try.prog 74 (.nilFunc) 1 8 := by unfold MkT; kernel_rfl
instance : KMk Try.prog 74 (.nilFunc) 1 8 := ⟨tmk74⟩
theorem tsc74 : ScT Try.prog 74 := ⟨_, Try.underlying74, rfl⟩
instance : KSc Try.prog 74 := ⟨tsc74⟩
theorem tsz76 : SzOf Try.prog 76 1 := by unfold SzOf; kernel_rfl
instance : KSz Try.prog 76 1 := ⟨tsz76⟩
theorem tmk76 : MkT Try.prog 76 (.slice none 0 0) 1 24 := by unfold MkT; kernel_rfl
instance : KMk Try.prog 76 (.slice none 0 0) 1 24 := ⟨tmk76⟩
theorem tsc76 : ScT Try.prog 76 := ⟨_, Try.underlying76, rfl⟩
instance : KSc Try.prog 76 := ⟨tsc76⟩
theorem tsz79 : SzOf Try.prog 79 1 := by unfold SzOf; kernel_rfl
instance : KSz Try.prog 79 1 := ⟨tsz79⟩
theorem tmk79 : MkT Try.prog 79 (.nilFunc) 1 8 := by unfold MkT; kernel_rfl
instance : KMk Try.prog 79 (.nilFunc) 1 8 := ⟨tmk79⟩
theorem tsc79 : ScT Try.prog 79 := ⟨_, Try.underlying79, rfl⟩
instance : KSc Try.prog 79 := ⟨tsc79⟩
theorem tsz80 : SzOf Try.prog 80 1 := by unfold SzOf; kernel_rfl
instance : KSz Try.prog 80 1 := ⟨tsz80⟩
theorem tmk80 : MkT Try.prog 80 (.slice none 0 0) 1 24 := by unfold MkT; kernel_rfl
instance : KMk Try.prog 80 (.slice none 0 0) 1 24 := ⟨tmk80⟩
theorem tsc80 : ScT Try.prog 80 := ⟨_, Try.underlying80, rfl⟩
instance : KSc Try.prog 80 := ⟨tsc80⟩
theorem tsz82 : SzOf Try.prog 82 1 := by unfold SzOf; kernel_rfl
instance : KSz Try.prog 82 1 := ⟨tsz82⟩
theorem tmk82 : MkT Try.prog 82 (.nilFunc) 1 8 := by unfold MkT; kernel_rfl
instance : KMk Try.prog 82 (.nilFunc) 1 8 := ⟨tmk82⟩
theorem tsc82 : ScT Try.prog 82 := ⟨_, Try.underlying82, rfl⟩
instance : KSc Try.prog 82 := ⟨tsc82⟩
theorem tsl22 : SlT Try.prog 22 3 1 := ⟨Try.underlying22, tsz3⟩
instance : KSl Try.prog 22 3 1 := ⟨tsl22⟩
theorem tfl24_0 : FlT Try.prog 24 0 0 := ⟨_, _, 0, Try.underlying24, rfl, tsz3, rfl⟩
instance : KFl Try.prog 24 0 0 := ⟨tfl24_0⟩
theorem tfl24_1 : FlT Try.prog 24 1 1 := ⟨_, _, 0, Try.underlying24, rfl, tsz22, rfl⟩
instance : KFl Try.prog 24 1 1 := ⟨tfl24_1⟩
theorem tbd24 : BdT Try.prog 24 [.int .i64 0, .slice none 0 0] (fun i => ([(0, 1), (1, 1)] : List (Nat × Nat))[i]?) := .struct Try.underlying24 tmk24 rfl (szs := [1, 1]) (by kernel_rfl)
instance : KBd Try.prog 24 [.int .i64 0, .slice none 0 0] (fun i => ([(0, 1), (1, 1)] : List (Nat × Nat))[i]?) := ⟨tbd24⟩
theorem tsl33 : SlT Try.prog 33 67 2 := ⟨Try.underlying33, tsz67⟩
instance : KSl Try.prog 33 67 2 := ⟨tsl33⟩
theorem tfl50_0 : FlT Try.prog 50 0 0 := ⟨_, _, 0, Try.underlying50, rfl, tsz3, rfl⟩
instance : KFl Try.prog 50 0 0 := ⟨tfl50_0⟩
theorem tfl50_1 : FlT Try.prog 50 1 1 := ⟨_, _, 0, Try.underlying50, rfl, tsz3, rfl⟩
instance : KFl Try.prog 50 1 1 := ⟨tfl50_1⟩
theorem tfl50_2 : FlT Try.prog 50 2 2 := ⟨_, _, 0, Try.underlying50, rfl, tsz22, rfl⟩
instance : KFl Try.prog 50 2 2 := ⟨tfl50_2⟩
theorem tbd50 : BdT Try.prog 50 [.int .i64 0, .int .i64 0, .slice none 0 0] (fun i => ([(0, 1), (1, 1), (2, 1)] : List (Nat × Nat))[i]?) := .struct Try.underlying50 tmk50 rfl (szs := [1, 1, 1]) (by kernel_rfl)
instance : KBd Try.prog 50 [.int .i64 0, .int .i64 0, .slice none 0 0] (fun i => ([(0, 1), (1, 1), (2, 1)] : List (Nat × Nat))[i]?) := ⟨tbd50⟩
instance : KEqP Try.prog 67 := ⟨3, ⟨Try.underlying67, tsz3⟩, Try.underlying3, by kernel_rfl⟩
theorem tar67 : ArT Try.prog 67 2 3 1 := ⟨Try.underlying67, tsz3⟩
instance : KAr Try.prog 67 2 3 1 := ⟨tar67⟩
theorem tbd67 : BdT Try.prog 67 [.int .i64 0, .int .i64 0] (fun i => some (i * 1, 1)) := .array tar67 tmk67 rfl
instance : KBd Try.prog 67 [.int .i64 0, .int .i64 0] (fun i => some (i * 1, 1)) := ⟨tbd67⟩
theorem tsl71 : SlT Try.prog 71 72 1 := ⟨Try.underlying71, tsz72⟩
instance : KSl Try.prog 71 72 1 := ⟨tsl71⟩
theorem tsl72 : SlT Try.prog 72 4 1 := ⟨Try.underlying72, tsz4⟩
instance : KSl Try.prog 72 4 1 := ⟨tsl72⟩
theorem tsl76 : SlT Try.prog 76 22 1 := ⟨Try.underlying76, tsz22⟩
instance : KSl Try.prog 76 22 1 := ⟨tsl76⟩
theorem tsl80 : SlT Try.prog 80 24 2 := ⟨Try.underlying80, tsz24⟩
instance : KSl Try.prog 80 24 2 := ⟨tsl80⟩

end Go.Proofs.Ytgkokahpgikckaa
