/- Facts on the types of this program, each closed. -/
import Derived.Test.YtkbcbahpcnemmaaEngT
import Derived.Test.YtkbcbahpcnemmaaEngZp
import Derived.Test.YtkbcbahpcnemmaaRows
import Derived.KernelRfl
namespace Go.Proofs.Ytkbcbahpcnemmaa

theorem tsz3 : SzOf Try.prog 3 1 := by unfold SzOf; kernel_rfl
instance : KSz Try.prog 3 1 := ⟨tsz3⟩
theorem tmk3 : MkT Try.prog 3 (.int .i64 0) 1 8 := by unfold MkT; kernel_rfl
instance : KMk Try.prog 3 (.int .i64 0) 1 8 := ⟨tmk3⟩
theorem tsc3 : ScT Try.prog 3 := ⟨_, Try.underlying3, rfl⟩
instance : KSc Try.prog 3 := ⟨tsc3⟩
theorem tsz4 : SzOf Try.prog 4 1 := by unfold SzOf; kernel_rfl
instance : KSz Try.prog 4 1 := ⟨tsz4⟩
theorem tmk4 : MkT Try.prog 4 (.bool false) 1 1 := by unfold MkT; kernel_rfl
instance : KMk Try.prog 4 (.bool false) 1 1 := ⟨tmk4⟩
instance : KBo Try.prog 4 := ⟨Try.underlying4⟩
theorem tsc4 : ScT Try.prog 4 := ⟨_, Try.underlying4, rfl⟩
instance : KSc Try.prog 4 := ⟨tsc4⟩
theorem tsz22 : SzOf Try.prog 22 1 := by unfold SzOf; kernel_rfl
instance : KSz Try.prog 22 1 := ⟨tsz22⟩
theorem tmk22 : MkT Try.prog 22 (.slice none 0 0) 1 24 := by unfold MkT; kernel_rfl
instance : KMk Try.prog 22 (.slice none 0 0) 1 24 := ⟨tmk22⟩
theorem tsc22 : ScT Try.prog 22 := ⟨_, Try.underlying22, rfl⟩
instance : KSc Try.prog 22 := ⟨tsc22⟩
theorem tsz24 : SzOf Try.prog 24 2 := by unfold SzOf; kernel_rfl
instance : KSz Try.prog 24 2 := ⟨tsz24⟩
theorem tmk24 : MkT Try.prog 24 (.agg #[.int .i64 0, .slice none 0 0]) 2 32 := by unfold MkT; kernel_rfl
instance : KMk Try.prog 24 (.agg #[.int .i64 0, .slice none 0 0]) 2 32 := ⟨tmk24⟩
theorem tag24 : AgT Try.prog 24 2 := ⟨⟨_, Try.underlying24, rfl⟩, tsz24⟩
instance : KAg Try.prog 24 2 := ⟨tag24⟩
theorem tsz26 : SzOf Try.prog 26 1 := by unfold SzOf; kernel_rfl
instance : KSz Try.prog 26 1 := ⟨tsz26⟩
theorem tmk26 : MkT Try.prog 26 (.int .i64 0) 1 8 := by unfold MkT; kernel_rfl
instance : KMk Try.prog 26 (.int .i64 0) 1 8 := ⟨tmk26⟩
theorem tsc26 : ScT Try.prog 26 := ⟨_, Try.underlying26, rfl⟩
instance : KSc Try.prog 26 := ⟨tsc26⟩
theorem tsz33 : SzOf Try.prog 33 1 := by unfold SzOf; kernel_rfl
instance : KSz Try.prog 33 1 := ⟨tsz33⟩
theorem tmk33 : MkT Try.prog 33 (.slice none 0 0) 1 24 := by unfold MkT; kernel_rfl
instance : KMk Try.prog 33 (.slice none 0 0) 1 24 := ⟨tmk33⟩
theorem tsc33 : ScT Try.prog 33 := ⟨_, Try.underlying33, rfl⟩
instance : KSc Try.prog 33 := ⟨tsc33⟩
theorem tsz35 : SzOf Try.prog 35 3 := by unfold SzOf; kernel_rfl
instance : KSz Try.prog 35 3 := ⟨tsz35⟩
theorem tmk35 : MkT Try.prog 35 (.agg #[.int .i64 0, .slice none 0 0, .slice none 0 0]) 3 56 := by unfold MkT; kernel_rfl
instance : KMk Try.prog 35 (.agg #[.int .i64 0, .slice none 0 0, .slice none 0 0]) 3 56 := ⟨tmk35⟩
theorem tag35 : AgT Try.prog 35 3 := ⟨⟨_, Try.underlying35, rfl⟩, tsz35⟩
instance : KAg Try.prog 35 3 := ⟨tag35⟩
theorem tsz52 : SzOf Try.prog 52 1 := by unfold SzOf; kernel_rfl
instance : KSz Try.prog 52 1 := ⟨tsz52⟩
theorem tmk52 : MkT Try.prog 52 (.nilFunc) 1 8 := by unfold MkT; kernel_rfl
instance : KMk Try.prog 52 (.nilFunc) 1 8 := ⟨tmk52⟩
theorem tsc52 : ScT Try.prog 52 := ⟨_, Try.underlying52, rfl⟩
instance : KSc Try.prog 52 := ⟨tsc52⟩
theorem tsz53 : SzOf Try.prog 53 1 := by unfold SzOf; kernel_rfl
instance : KSz Try.prog 53 1 := ⟨tsz53⟩
theorem tmk53 : MkT Try.prog 53 (.slice none 0 0) 1 24 := by unfold MkT; kernel_rfl
instance : KMk Try.prog 53 (.slice none 0 0) 1 24 := ⟨tmk53⟩
theorem tsc53 : ScT Try.prog 53 := ⟨_, Try.underlying53, rfl⟩
instance : KSc Try.prog 53 := ⟨tsc53⟩
theorem tsz57 : SzOf Try.prog 57 2 := by unfold SzOf; kernel_rfl
instance : KSz Try.prog 57 2 := ⟨tsz57⟩
theorem tmk57 : MkT Try.prog 57 (.agg #[.int .i64 0, .int .i64 0]) 2 16 := by unfold MkT; kernel_rfl
instance : KMk Try.prog 57 (.agg #[.int .i64 0, .int .i64 0]) 2 16 := ⟨tmk57⟩
theorem tag57 : AgT Try.prog 57 2 := ⟨⟨_, Try.underlying57, rfl⟩, tsz57⟩
instance : KAg Try.prog 57 2 := ⟨tag57⟩
theorem tsz66 : SzOf Try.prog 66 1 := by unfold SzOf; kernel_rfl
instance : KSz Try.prog 66 1 := ⟨tsz66⟩
theorem tmk66 : MkT Try.prog 66 (.nilFunc) 1 8 := by unfold MkT; kernel_rfl
instance : KMk Try.prog 66 (.nilFunc) 1 8 := ⟨tmk66⟩
theorem tsc66 : ScT Try.prog 66 := ⟨_, Try.underlying66, rfl⟩
instance : KSc Try.prog 66 := ⟨tsc66⟩
theorem tsz75 : SzOf Try.prog 75 1 := by unfold SzOf; kernel_rfl
instance : KSz Try.prog 75 1 := ⟨tsz75⟩
theorem tmk75 : MkT Try.prog 75 (.nilFunc) 1 8 := by unfold MkT; kernel_rfl
instance : KMk Try.prog 75 (.nilFunc) 1 8 := ⟨tmk75⟩
theorem tsc75 : ScT Try.prog 75 := ⟨_, Try.underlying75, rfl⟩
instance : KSc Try.prog 75 := ⟨tsc75⟩
theorem tsz76 : SzOf Try.prog 76 1 := by unfold SzOf; kernel_rfl
instance : KSz Try.prog 76 1 := ⟨tsz76⟩
theorem tmk76 : MkT Try.prog 76 (.slice none 0 0) 1 24 := by unfold MkT; kernel_rfl
instance : KMk Try.prog 76 (.slice none 0 0) 1 24 := ⟨tmk76⟩
theorem tsc76 : ScT Try.prog 76 := ⟨_, Try.underlying76, rfl⟩
instance : KSc Try.prog 76 := ⟨tsc76⟩
theorem tsz80 : SzOf Try.prog 80 1 := by unfold SzOf; kernel_rfl
instance : KSz Try.prog 80 1 := ⟨tsz80⟩
theorem tmk80 : MkT Try.prog 80 (.pointer none) 1 8 := by unfold MkT; kernel_rfl
instance : KMk Try.prog 80 (.pointer none) 1 8 := ⟨tmk80⟩
theorem tsc80 : ScT Try.prog 80 := ⟨_, Try.underlying80, rfl⟩
instance : KSc Try.prog 80 := ⟨tsc80⟩
theorem tsz96 : SzOf Try.prog 96 1 := by unfold SzOf; kernel_rfl
instance : KSz Try.prog 96 1 := ⟨tsz96⟩
theorem tmk96 : MkT Try.prog 96 (.slice none 0 0) 1 24 := by unfold MkT; kernel_rfl
instance : KMk Try.prog 96 (.slice none 0 0) 1 24 := ⟨tmk96⟩
theorem tsc96 : ScT Try.prog 96 := ⟨_, Try.underlying96, rfl⟩
instance : KSc Try.prog 96 := ⟨tsc96⟩
theorem tsz98 : SzOf Try.prog 98 1 := by unfold SzOf; kernel_rfl
instance : KSz Try.prog 98 1 := ⟨tsz98⟩
theorem tmk98 : MkT Try.prog 98 (.map none) 1 8 := by unfold MkT; kernel_rfl
instance : KMk Try.prog 98 (.map none) 1 8 := ⟨tmk98⟩
theorem tsc98 : ScT Try.prog 98 := ⟨_, Try.underlying98, rfl⟩
instance : KSc Try.prog 98 := ⟨tsc98⟩
theorem tsz101 : SzOf Try.prog 101 1 := by unfold SzOf; kernel_rfl
instance : KSz Try.prog 101 1 := ⟨tsz101⟩
theorem tmk101 : MkT Try.prog 101 (.nilFunc) 1 8 := by unfold MkT; kernel_rfl
instance : KMk Try.prog 101 (.nilFunc) 1 8 := ⟨tmk101⟩
theorem tsc101 : ScT Try.prog 101 := ⟨_, Try.underlying101, rfl⟩
instance : KSc Try.prog 101 := ⟨tsc101⟩
theorem tsz102 : SzOf Try.prog 102 1 := by unfold SzOf; kernel_rfl
instance : KSz Try.prog 102 1 := ⟨tsz102⟩
theorem tmk102 : MkT Try.prog 102 (.slice none 0 0) 1 24 := by unfold MkT; kernel_rfl
instance : KMk Try.prog 102 (.slice none 0 0) 1 24 := ⟨tmk102⟩
theorem tsc102 : ScT Try.prog 102 := ⟨_, Try.underlying102, rfl⟩
instance : KSc Try.prog 102 := ⟨tsc102⟩
theorem tsz104 : SzOf Try.prog 104 2 := by unfold SzOf; kernel_rfl
instance : KSz Try.prog 104 2 := ⟨tsz104⟩
theorem tmk104 : MkT Try.prog 104 (.agg #[.slice none 0 0, .slice none 0 0]) 2 48 := by unfold MkT; kernel_rfl
instance : KMk Try.prog 104 (.agg #[.slice none 0 0, .slice none 0 0]) 2 48 := ⟨tmk104⟩
theorem tag104 : AgT Try.prog 104 2 := ⟨⟨_, Try.underlying104, rfl⟩, tsz104⟩
instance : KAg Try.prog 104 2 := ⟨tag104⟩
theorem tsz105 : SzOf Try.prog 105 1 := by unfold SzOf; kernel_rfl
instance : KSz Try.prog 105 1 := ⟨tsz105⟩
theorem tmk105 : MkT Try.prog 105 (.map none) 1 8 := by unfold MkT; kernel_rfl
instance : KMk Try.prog 105 (.map none) 1 8 := ⟨tmk105⟩
theorem tsc105 : ScT Try.prog 105 := ⟨_, Try.underlying105, rfl⟩
instance : KSc Try.prog 105 := ⟨tsc105⟩
theorem tsz107 : SzOf Try.prog 107 1 := by unfold SzOf; kernel_rfl
instance : KSz Try.prog 107 1 := ⟨tsz107⟩
theorem tmk107 : MkT Try.prog 107 (.agg #[.map none]) 1 8 := by unfold MkT; kernel_rfl
instance : KMk Try.prog 107 (.agg #[.map none]) 1 8 := ⟨tmk107⟩
theorem tag107 : AgT Try.prog 107 1 := ⟨⟨_, Try.underlying107, rfl⟩, tsz107⟩
instance : KAg Try.prog 107 1 := ⟨tag107⟩
theorem tsz109 : SzOf Try.prog 109 5 := by unfold SzOf; kernel_rfl
instance : KSz Try.prog 109 5 := ⟨tsz109⟩
theorem tmk109 : MkT Try.prog 109 (.agg #[.int .i64 0, .int .i64 0, .int .i64 0, .int .i64 0, .int .i64 0]) 5 40 := by unfold MkT; kernel_rfl
instance : KMk Try.prog 109 (.agg #[.int .i64 0, .int .i64 0, .int .i64 0, .int .i64 0, .int .i64 0]) 5 40 := ⟨tmk109⟩
theorem tag109 : AgT Try.prog 109 5 := ⟨⟨_, Try.underlying109, rfl⟩, tsz109⟩
instance : KAg Try.prog 109 5 := ⟨tag109⟩
theorem tsl22 : SlT Try.prog 22 3 1 := ⟨Try.underlying22, tsz3⟩
instance : KSl Try.prog 22 3 1 := ⟨tsl22⟩
theorem tfl24_0 : FlT Try.prog 24 0 0 := ⟨_, _, 0, Try.underlying24, rfl, tsz3, rfl⟩
instance : KFl Try.prog 24 0 0 := ⟨tfl24_0⟩
theorem tfl24_1 : FlT Try.prog 24 1 1 := ⟨_, _, 0, Try.underlying24, rfl, tsz22, rfl⟩
instance : KFl Try.prog 24 1 1 := ⟨tfl24_1⟩
theorem tbd24 : BdT Try.prog 24 [.int .i64 0, .slice none 0 0] (fun i => ([(0, 1), (1, 1)] : List (Nat × Nat))[i]?) := .struct Try.underlying24 tmk24 rfl (szs := [1, 1]) (by kernel_rfl)
instance : KBd Try.prog 24 [.int .i64 0, .slice none 0 0] (fun i => ([(0, 1), (1, 1)] : List (Nat × Nat))[i]?) := ⟨tbd24⟩
theorem tsl33 : SlT Try.prog 33 22 1 := ⟨Try.underlying33, tsz22⟩
instance : KSl Try.prog 33 22 1 := ⟨tsl33⟩
theorem tfl35_0 : FlT Try.prog 35 0 0 := ⟨_, _, 0, Try.underlying35, rfl, tsz3, rfl⟩
instance : KFl Try.prog 35 0 0 := ⟨tfl35_0⟩
theorem tfl35_1 : FlT Try.prog 35 1 1 := ⟨_, _, 0, Try.underlying35, rfl, tsz33, rfl⟩
instance : KFl Try.prog 35 1 1 := ⟨tfl35_1⟩
theorem tfl35_2 : FlT Try.prog 35 2 2 := ⟨_, _, 0, Try.underlying35, rfl, tsz33, rfl⟩
instance : KFl Try.prog 35 2 2 := ⟨tfl35_2⟩
theorem tbd35 : BdT Try.prog 35 [.int .i64 0, .slice none 0 0, .slice none 0 0] (fun i => ([(0, 1), (1, 1), (2, 1)] : List (Nat × Nat))[i]?) := .struct Try.underlying35 tmk35 rfl (szs := [1, 1, 1]) (by kernel_rfl)
instance : KBd Try.prog 35 [.int .i64 0, .slice none 0 0, .slice none 0 0] (fun i => ([(0, 1), (1, 1), (2, 1)] : List (Nat × Nat))[i]?) := ⟨tbd35⟩
theorem tsl53 : SlT Try.prog 53 57 2 := ⟨Try.underlying53, tsz57⟩
instance : KSl Try.prog 53 57 2 := ⟨tsl53⟩
instance : KEqP Try.prog 57 := ⟨3, ⟨Try.underlying57, tsz3⟩, Try.underlying3, by kernel_rfl⟩
theorem tar57 : ArT Try.prog 57 2 3 1 := ⟨Try.underlying57, tsz3⟩
instance : KAr Try.prog 57 2 3 1 := ⟨tar57⟩
theorem tbd57 : BdT Try.prog 57 [.int .i64 0, .int .i64 0] (fun i => some (i * 1, 1)) := .array tar57 tmk57 rfl
instance : KBd Try.prog 57 [.int .i64 0, .int .i64 0] (fun i => some (i * 1, 1)) := ⟨tbd57⟩
theorem tsl76 : SlT Try.prog 76 4 1 := ⟨Try.underlying76, tsz4⟩
instance : KSl Try.prog 76 4 1 := ⟨tsl76⟩
theorem tsl96 : SlT Try.prog 96 24 2 := ⟨Try.underlying96, tsz24⟩
instance : KSl Try.prog 96 24 2 := ⟨tsl96⟩
instance : KMp Try.prog 98 := ⟨3, 3, Try.underlying98, Try.underlying3, tmk3⟩
theorem tsl102 : SlT Try.prog 102 33 1 := ⟨Try.underlying102, tsz33⟩
instance : KSl Try.prog 102 33 1 := ⟨tsl102⟩
theorem tar104 : ArT Try.prog 104 2 33 1 := ⟨Try.underlying104, tsz33⟩
instance : KAr Try.prog 104 2 33 1 := ⟨tar104⟩
theorem tbd104 : BdT Try.prog 104 [.slice none 0 0, .slice none 0 0] (fun i => some (i * 1, 1)) := .array tar104 tmk104 rfl
instance : KBd Try.prog 104 [.slice none 0 0, .slice none 0 0] (fun i => some (i * 1, 1)) := ⟨tbd104⟩
theorem tfl107_0 : FlT Try.prog 107 0 0 := ⟨_, _, 0, Try.underlying107, rfl, tsz105, rfl⟩
instance : KFl Try.prog 107 0 0 := ⟨tfl107_0⟩
theorem tbd107 : BdT Try.prog 107 [.map none] (fun i => ([(0, 1)] : List (Nat × Nat))[i]?) := .struct Try.underlying107 tmk107 rfl (szs := [1]) (by kernel_rfl)
instance : KBd Try.prog 107 [.map none] (fun i => ([(0, 1)] : List (Nat × Nat))[i]?) := ⟨tbd107⟩
theorem tar109 : ArT Try.prog 109 5 3 1 := ⟨Try.underlying109, tsz3⟩
instance : KAr Try.prog 109 5 3 1 := ⟨tar109⟩
theorem tbd109 : BdT Try.prog 109 [.int .i64 0, .int .i64 0, .int .i64 0, .int .i64 0, .int .i64 0] (fun i => some (i * 1, 1)) := .array tar109 tmk109 rfl
instance : KBd Try.prog 109 [.int .i64 0, .int .i64 0, .int .i64 0, .int .i64 0, .int .i64 0] (fun i => some (i * 1, 1)) := ⟨tbd109⟩

end Go.Proofs.Ytkbcbahpcnemmaa
