/- Facts on the types of this program, each closed. -/
import Derived.Test.YtkackilhfkicoaaDoorEngT
import Derived.Test.YtkackilhfkicoaaDoorEngZp
import Derived.Test.YtkackilhfkicoaaDoorRows
import Derived.KernelRfl
namespace Go.Proofs.YtkackilhfkicoaaDoor

theorem tsz3 : SzOf Tryd.prog 3 1 := by unfold SzOf; kernel_rfl
instance : KSz Tryd.prog 3 1 := ⟨tsz3⟩
theorem tmk3 : MkT Tryd.prog 3 (.int .i64 0) 1 8 := by unfold MkT; kernel_rfl
instance : KMk Tryd.prog 3 (.int .i64 0) 1 8 := ⟨tmk3⟩
theorem tsc3 : ScT Tryd.prog 3 := ⟨_, Tryd.underlying3, rfl⟩
instance : KSc Tryd.prog 3 := ⟨tsc3⟩
theorem tsz4 : SzOf Tryd.prog 4 1 := by unfold SzOf; kernel_rfl
instance : KSz Tryd.prog 4 1 := ⟨tsz4⟩
theorem tmk4 : MkT Tryd.prog 4 (.bool false) 1 1 := by unfold MkT; kernel_rfl
instance : KMk Tryd.prog 4 (.bool false) 1 1 := ⟨tmk4⟩
instance : KBo Tryd.prog 4 := ⟨Tryd.underlying4⟩
theorem tsc4 : ScT Tryd.prog 4 := ⟨_, Tryd.underlying4, rfl⟩
instance : KSc Tryd.prog 4 := ⟨tsc4⟩
theorem tsz5 : SzOf Tryd.prog 5 1 := by unfold SzOf; kernel_rfl
instance : KSz Tryd.prog 5 1 := ⟨tsz5⟩
theorem tmk5 : MkT Tryd.prog 5 (.int .u8 0) 1 1 := by unfold MkT; kernel_rfl
instance : KMk Tryd.prog 5 (.int .u8 0) 1 1 := ⟨tmk5⟩
theorem tsc5 : ScT Tryd.prog 5 := ⟨_, Tryd.underlying5, rfl⟩
instance : KSc Tryd.prog 5 := ⟨tsc5⟩
theorem tsz22 : SzOf Tryd.prog 22 1 := by unfold SzOf; kernel_rfl
instance : KSz Tryd.prog 22 1 := ⟨tsz22⟩
theorem tmk22 : MkT Tryd.prog 22 (.slice none 0 0) 1 24 := by unfold MkT; kernel_rfl
instance : KMk Tryd.prog 22 (.slice none 0 0) 1 24 := ⟨tmk22⟩
theorem tsc22 : ScT Tryd.prog 22 := ⟨_, Tryd.underlying22, rfl⟩
instance : KSc Tryd.prog 22 := ⟨tsc22⟩
theorem tsz24 : SzOf Tryd.prog 24 2 := by unfold SzOf; kernel_rfl
instance : KSz Tryd.prog 24 2 := ⟨tsz24⟩
theorem tmk24 : MkT Tryd.prog 24 (.agg #[.int .i64 0, .slice none 0 0]) 2 32 := by unfold MkT; kernel_rfl
instance : KMk Tryd.prog 24 (.agg #[.int .i64 0, .slice none 0 0]) 2 32 := ⟨tmk24⟩
theorem tag24 : AgT Tryd.prog 24 2 := ⟨⟨_, Tryd.underlying24, rfl⟩, tsz24⟩
instance : KAg Tryd.prog 24 2 := ⟨tag24⟩
theorem tsz25 : SzOf Tryd.prog 25 1 := by unfold SzOf; kernel_rfl
instance : KSz Tryd.prog 25 1 := ⟨tsz25⟩
theorem tmk25 : MkT Tryd.prog 25 (.int .i64 0) 1 8 := by unfold MkT; kernel_rfl
instance : KMk Tryd.prog 25 (.int .i64 0) 1 8 := ⟨tmk25⟩
theorem tsc25 : ScT Tryd.prog 25 := ⟨_, Tryd.underlying25, rfl⟩
instance : KSc Tryd.prog 25 := ⟨tsc25⟩
theorem tsz52 : SzOf Tryd.prog 52 1 := by unfold SzOf; kernel_rfl
instance : KSz Tryd.prog 52 1 := ⟨tsz52⟩
theorem tmk52 : MkT Tryd.prog 52 (.map none) 1 8 := by unfold MkT; kernel_rfl
instance : KMk Tryd.prog 52 (.map none) 1 8 := ⟨tmk52⟩
theorem tsc52 : ScT Tryd.prog 52 := ⟨_, Tryd.underlying52, rfl⟩
instance : KSc Tryd.prog 52 := ⟨tsc52⟩
theorem tsz54 : SzOf Tryd.prog 54 1 := by unfold SzOf; kernel_rfl
instance : KSz Tryd.prog 54 1 := ⟨tsz54⟩
theorem tmk54 : MkT Tryd.prog 54 (.nilFunc) 1 8 := by unfold MkT; kernel_rfl
instance : KMk Tryd.prog 54 (.nilFunc) 1 8 := ⟨tmk54⟩
theorem tsc54 : ScT Tryd.prog 54 := ⟨_, Tryd.underlying54, rfl⟩
instance : KSc Tryd.prog 54 := ⟨tsc54⟩
theorem tsz55 : SzOf Tryd.prog 55 1 := by unfold SzOf; kernel_rfl
instance : KSz Tryd.prog 55 1 := ⟨tsz55⟩
theorem tmk55 : MkT Tryd.prog 55 (.nilFunc) 1 8 := by unfold MkT; kernel_rfl
instance : KMk Tryd.prog 55 (.nilFunc) 1 8 := ⟨tmk55⟩
theorem tsc55 : ScT Tryd.prog 55 := ⟨_, Tryd.underlying55, rfl⟩
instance : KSc Tryd.prog 55 := ⟨tsc55⟩
theorem tsz62 : SzOf Tryd.prog 62 1 := by unfold SzOf; kernel_rfl
instance : KSz Tryd.prog 62 1 := ⟨tsz62⟩
theorem tmk62 : MkT Tryd.prog 62 (.slice none 0 0) 1 24 := by unfold MkT; kernel_rfl
instance : KMk Tryd.prog 62 (.slice none 0 0) 1 24 := ⟨tmk62⟩
theorem tsc62 : ScT Tryd.prog 62 := ⟨_, Tryd.underlying62, rfl⟩
instance : KSc Tryd.prog 62 := ⟨tsc62⟩
theorem tsz64 : SzOf Tryd.prog 64 2 := by unfold SzOf; kernel_rfl
instance : KSz Tryd.prog 64 2 := ⟨tsz64⟩
theorem tmk64 : MkT Tryd.prog 64 (.agg #[.int .i64 0, .int .i64 0]) 2 16 := by unfold MkT; kernel_rfl
instance : KMk Tryd.prog 64 (.agg #[.int .i64 0, .int .i64 0]) 2 16 := ⟨tmk64⟩
theorem tag64 : AgT Tryd.prog 64 2 := ⟨⟨_, Tryd.underlying64, rfl⟩, tsz64⟩
instance : KAg Tryd.prog 64 2 := ⟨tag64⟩
theorem tsz68 : SzOf Tryd.prog 68 1 := by unfold SzOf; kernel_rfl
instance : KSz Tryd.prog 68 1 := ⟨tsz68⟩
theorem tmk68 : MkT Tryd.prog 68 (.nilFunc) 1 8 := by unfold MkT; kernel_rfl
instance : KMk Tryd.prog 68 (.nilFunc) 1 8 := ⟨tmk68⟩
theorem tsc68 : ScT Tryd.prog 68 := ⟨_, Tryd.underlying68, rfl⟩
instance : KSc Tryd.prog 68 := ⟨tsc68⟩
theorem tsz72 : SzOf Tryd.prog 72 1 := by unfold SzOf; kernel_rfl
instance : KSz Tryd.prog 72 1 := ⟨tsz72⟩
theorem tmk72 : MkT Tryd.prog 72 (.int .u64 0) 1 8 := by unfold MkT; kernel_rfl
instance : KMk Tryd.prog 72 (.int .u64 0) 1 8 := ⟨tmk72⟩
theorem tsc72 : ScT Tryd.prog 72 := ⟨_, Tryd.underlying72, rfl⟩
instance : KSc Tryd.prog 72 := ⟨tsc72⟩
theorem tsz74 : SzOf Tryd.prog 74 1 := by unfold SzOf; kernel_rfl
instance : KSz Tryd.prog 74 1 := ⟨tsz74⟩
theorem tmk74 : MkT Tryd.prog 74 (.slice none 0 0) 1 24 := by unfold MkT; kernel_rfl
instance : KMk Tryd.prog 74 (.slice none 0 0) 1 24 := ⟨tmk74⟩
theorem tsc74 : ScT Tryd.prog 74 := ⟨_, Tryd.underlying74, rfl⟩
instance : KSc Tryd.prog 74 := ⟨tsc74⟩
theorem tsz77 : SzOf Tryd.prog 77 1 := by unfold SzOf; kernel_rfl
instance : KSz Tryd.prog 77 1 := ⟨tsz77⟩
theorem tmk77 : MkT Tryd.prog 77 (.int .u32 0) 1 4 := by unfold MkT; kernel_rfl
instance : KMk Tryd.prog 77 (.int .u32 0) 1 4 := ⟨tmk77⟩
theorem tsc77 : ScT Tryd.prog 77 := ⟨_, Tryd.underlying77, rfl⟩
instance : KSc Tryd.prog 77 := ⟨tsc77⟩
theorem tsz79 : SzOf Tryd.prog 79 1 := by unfold SzOf; kernel_rfl
instance : KSz Tryd.prog 79 1 := ⟨tsz79⟩
theorem tmk79 : MkT Tryd.prog 79 (.int .u64 0) 1 8 := by unfold MkT; kernel_rfl
instance : KMk Tryd.prog 79 (.int .u64 0) 1 8 := ⟨tmk79⟩
theorem tsc79 : ScT Tryd.prog 79 := ⟨_, Tryd.underlying79, rfl⟩
instance : KSc Tryd.prog 79 := ⟨tsc79⟩
theorem tsz80 : SzOf Tryd.prog 80 32 := by unfold SzOf; kernel_rfl
instance : KSz Tryd.prog 80 32 := ⟨tsz80⟩
theorem tmk80 : MkT Tryd.prog 80 (.agg #[.int .u8 0, .int .u8 0, .int .u8 0, .int .u8 0, .int .u8 0, .int .u8 0, .int .u8 0, .int .u8 0, .int .u8 0, .int .u8 0, .int .u8 0, .int .u8 0, .int .u8 0, .int .u8 0, .int .u8 0, .int .u8 0, .int .u8 0, .int .u8 0, .int .u8 0, .int .u8 0, .int .u8 0, .int .u8 0, .int .u8 0, .int .u8 0, .int .u8 0, .int .u8 0, .int .u8 0, .int .u8 0, .int .u8 0, .int .u8 0, .int .u8 0, .int .u8 0]) 32 32 := by unfold MkT; kernel_rfl
instance : KMk Tryd.prog 80 (.agg #[.int .u8 0, .int .u8 0, .int .u8 0, .int .u8 0, .int .u8 0, .int .u8 0, .int .u8 0, .int .u8 0, .int .u8 0, .int .u8 0, .int .u8 0, .int .u8 0, .int .u8 0, .int .u8 0, .int .u8 0, .int .u8 0, .int .u8 0, .int .u8 0, .int .u8 0, .int .u8 0, .int .u8 0, .int .u8 0, .int .u8 0, .int .u8 0, .int .u8 0, .int .u8 0, .int .u8 0, .int .u8 0, .int .u8 0, .int .u8 0, .int .u8 0, .int .u8 0]) 32 32 := ⟨tmk80⟩
theorem tag80 : AgT Tryd.prog 80 32 := ⟨⟨_, Tryd.underlying80, rfl⟩, tsz80⟩
instance : KAg Tryd.prog 80 32 := ⟨tag80⟩
theorem tsz81 : SzOf Tryd.prog 81 64 := by unfold SzOf; kernel_rfl
instance : KSz Tryd.prog 81 64 := ⟨tsz81⟩
theorem tmk81 : MkT Tryd.prog 81 (.agg #[.int .u8 0, .int .u8 0, .int .u8 0, .int .u8 0, .int .u8 0, .int .u8 0, .int .u8 0, .int .u8 0, .int .u8 0, .int .u8 0, .int .u8 0, .int .u8 0, .int .u8 0, .int .u8 0, .int .u8 0, .int .u8 0, .int .u8 0, .int .u8 0, .int .u8 0, .int .u8 0, .int .u8 0, .int .u8 0, .int .u8 0, .int .u8 0, .int .u8 0, .int .u8 0, .int .u8 0, .int .u8 0, .int .u8 0, .int .u8 0, .int .u8 0, .int .u8 0, .int .u8 0, .int .u8 0, .int .u8 0, .int .u8 0, .int .u8 0, .int .u8 0, .int .u8 0, .int .u8 0, .int .u8 0, .int .u8 0, .int .u8 0, .int .u8 0, .int .u8 0, .int .u8 0, .int .u8 0, .int .u8 0, .int .u8 0, .int .u8 0, .int .u8 0, .int .u8 0, .int .u8 0, .int .u8 0, .int .u8 0, .int .u8 0, .int .u8 0, .int .u8 0, .int .u8 0, .int .u8 0, .int .u8 0, .int .u8 0, .int .u8 0, .int .u8 0]) 64 64 := by unfold MkT; kernel_rfl
instance : KMk Tryd.prog 81 (.agg #[.int .u8 0, .int .u8 0, .int .u8 0, .int .u8 0, .int .u8 0, .int .u8 0, .int .u8 0, .int .u8 0, .int .u8 0, .int .u8 0, .int .u8 0, .int .u8 0, .int .u8 0, .int .u8 0, .int .u8 0, .int .u8 0, .int .u8 0, .int .u8 0, .int .u8 0, .int .u8 0, .int .u8 0, .int .u8 0, .int .u8 0, .int .u8 0, .int .u8 0, .int .u8 0, .int .u8 0, .int .u8 0, .int .u8 0, .int .u8 0, .int .u8 0, .int .u8 0, .int .u8 0, .int .u8 0, .int .u8 0, .int .u8 0, .int .u8 0, .int .u8 0, .int .u8 0, .int .u8 0, .int .u8 0, .int .u8 0, .int .u8 0, .int .u8 0, .int .u8 0, .int .u8 0, .int .u8 0, .int .u8 0, .int .u8 0, .int .u8 0, .int .u8 0, .int .u8 0, .int .u8 0, .int .u8 0, .int .u8 0, .int .u8 0, .int .u8 0, .int .u8 0, .int .u8 0, .int .u8 0, .int .u8 0, .int .u8 0, .int .u8 0, .int .u8 0]) 64 64 := ⟨tmk81⟩
theorem tag81 : AgT Tryd.prog 81 64 := ⟨⟨_, Tryd.underlying81, rfl⟩, tsz81⟩
instance : KAg Tryd.prog 81 64 := ⟨tag81⟩
theorem tsl22 : SlT Tryd.prog 22 3 1 := ⟨Tryd.underlying22, tsz3⟩
instance : KSl Tryd.prog 22 3 1 := ⟨tsl22⟩
theorem tfl24_0 : FlT Tryd.prog 24 0 0 := ⟨_, _, 0, Tryd.underlying24, rfl, tsz3, rfl⟩
instance : KFl Tryd.prog 24 0 0 := ⟨tfl24_0⟩
theorem tfl24_1 : FlT Tryd.prog 24 1 1 := ⟨_, _, 0, Tryd.underlying24, rfl, tsz22, rfl⟩
instance : KFl Tryd.prog 24 1 1 := ⟨tfl24_1⟩
theorem tbd24 : BdT Tryd.prog 24 [.int .i64 0, .slice none 0 0] (fun i => ([(0, 1), (1, 1)] : List (Nat × Nat))[i]?) := .struct Tryd.underlying24 tmk24 rfl (szs := [1, 1]) (by kernel_rfl)
instance : KBd Tryd.prog 24 [.int .i64 0, .slice none 0 0] (fun i => ([(0, 1), (1, 1)] : List (Nat × Nat))[i]?) := ⟨tbd24⟩
instance : KMp Tryd.prog 52 := ⟨3, 3, Tryd.underlying52, Tryd.underlying3, tmk3⟩
theorem tsl62 : SlT Tryd.prog 62 64 2 := ⟨Tryd.underlying62, tsz64⟩
instance : KSl Tryd.prog 62 64 2 := ⟨tsl62⟩
instance : KEqP Tryd.prog 64 := ⟨3, ⟨Tryd.underlying64, tsz3⟩, Tryd.underlying3, by kernel_rfl⟩
theorem tar64 : ArT Tryd.prog 64 2 3 1 := ⟨Tryd.underlying64, tsz3⟩
instance : KAr Tryd.prog 64 2 3 1 := ⟨tar64⟩
theorem tbd64 : BdT Tryd.prog 64 [.int .i64 0, .int .i64 0] (fun i => some (i * 1, 1)) := .array tar64 tmk64 rfl
instance : KBd Tryd.prog 64 [.int .i64 0, .int .i64 0] (fun i => some (i * 1, 1)) := ⟨tbd64⟩
theorem tsl74 : SlT Tryd.prog 74 24 2 := ⟨Tryd.underlying74, tsz24⟩
instance : KSl Tryd.prog 74 24 2 := ⟨tsl74⟩
theorem tar80 : ArT Tryd.prog 80 32 5 1 := ⟨Tryd.underlying80, tsz5⟩
instance : KAr Tryd.prog 80 32 5 1 := ⟨tar80⟩
theorem tbd80 : BdT Tryd.prog 80 [.int .u8 0, .int .u8 0, .int .u8 0, .int .u8 0, .int .u8 0, .int .u8 0, .int .u8 0, .int .u8 0, .int .u8 0, .int .u8 0, .int .u8 0, .int .u8 0, .int .u8 0, .int .u8 0, .int .u8 0, .int .u8 0, .int .u8 0, .int .u8 0, .int .u8 0, .int .u8 0, .int .u8 0, .int .u8 0, .int .u8 0, .int .u8 0, .int .u8 0, .int .u8 0, .int .u8 0, .int .u8 0, .int .u8 0, .int .u8 0, .int .u8 0, .int .u8 0] (fun i => some (i * 1, 1)) := .array tar80 tmk80 rfl
instance : KBd Tryd.prog 80 [.int .u8 0, .int .u8 0, .int .u8 0, .int .u8 0, .int .u8 0, .int .u8 0, .int .u8 0, .int .u8 0, .int .u8 0, .int .u8 0, .int .u8 0, .int .u8 0, .int .u8 0, .int .u8 0, .int .u8 0, .int .u8 0, .int .u8 0, .int .u8 0, .int .u8 0, .int .u8 0, .int .u8 0, .int .u8 0, .int .u8 0, .int .u8 0, .int .u8 0, .int .u8 0, .int .u8 0, .int .u8 0, .int .u8 0, .int .u8 0, .int .u8 0, .int .u8 0] (fun i => some (i * 1, 1)) := ⟨tbd80⟩
theorem tar81 : ArT Tryd.prog 81 64 5 1 := ⟨Tryd.underlying81, tsz5⟩
instance : KAr Tryd.prog 81 64 5 1 := ⟨tar81⟩
theorem tbd81 : BdT Tryd.prog 81 [.int .u8 0, .int .u8 0, .int .u8 0, .int .u8 0, .int .u8 0, .int .u8 0, .int .u8 0, .int .u8 0, .int .u8 0, .int .u8 0, .int .u8 0, .int .u8 0, .int .u8 0, .int .u8 0, .int .u8 0, .int .u8 0, .int .u8 0, .int .u8 0, .int .u8 0, .int .u8 0, .int .u8 0, .int .u8 0, .int .u8 0, .int .u8 0, .int .u8 0, .int .u8 0, .int .u8 0, .int .u8 0, .int .u8 0, .int .u8 0, .int .u8 0, .int .u8 0, .int .u8 0, .int .u8 0, .int .u8 0, .int .u8 0, .int .u8 0, .int .u8 0, .int .u8 0, .int .u8 0, .int .u8 0, .int .u8 0, .int .u8 0, .int .u8 0, .int .u8 0, .int .u8 0, .int .u8 0, .int .u8 0, .int .u8 0, .int .u8 0, .int .u8 0, .int .u8 0, .int .u8 0, .int .u8 0, .int .u8 0, .int .u8 0, .int .u8 0, .int .u8 0, .int .u8 0, .int .u8 0, .int .u8 0, .int .u8 0, .int .u8 0, .int .u8 0] (fun i => some (i * 1, 1)) := .array tar81 tmk81 rfl
instance : KBd Tryd.prog 81 [.int .u8 0, .int .u8 0, .int .u8 0, .int .u8 0, .int .u8 0, .int .u8 0, .int .u8 0, .int .u8 0, .int .u8 0, .int .u8 0, .int .u8 0, .int .u8 0, .int .u8 0, .int .u8 0, .int .u8 0, .int .u8 0, .int .u8 0, .int .u8 0, .int .u8 0, .int .u8 0, .int .u8 0, .int .u8 0, .int .u8 0, .int .u8 0, .int .u8 0, .int .u8 0, .int .u8 0, .int .u8 0, .int .u8 0, .int .u8 0, .int .u8 0, .int .u8 0, .int .u8 0, .int .u8 0, .int .u8 0, .int .u8 0, .int .u8 0, .int .u8 0, .int .u8 0, .int .u8 0, .int .u8 0, .int .u8 0, .int .u8 0, .int .u8 0, .int .u8 0, .int .u8 0, .int .u8 0, .int .u8 0, .int .u8 0, .int .u8 0, .int .u8 0, .int .u8 0, .int .u8 0, .int .u8 0, .int .u8 0, .int .u8 0, .int .u8 0, .int .u8 0, .int .u8 0, .int .u8 0, .int .u8 0, .int .u8 0, .int .u8 0, .int .u8 0] (fun i => some (i * 1, 1)) := ⟨tbd81⟩

end Go.Proofs.YtkackilhfkicoaaDoor
