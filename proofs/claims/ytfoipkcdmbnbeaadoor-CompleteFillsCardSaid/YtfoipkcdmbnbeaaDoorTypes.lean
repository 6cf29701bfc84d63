/- Facts on the types of this program, each closed. -/
import Derived.Test.YtfoipkcdmbnbeaaDoorEngT
import Derived.Test.YtfoipkcdmbnbeaaDoorRows
import Derived.KernelRfl
namespace Go.Proofs.YtfoipkcdmbnbeaaDoor

theorem tsz3 : SzOf Tryd.prog 3 1 := by unfold SzOf; kernel_rfl
instance : KSz Tryd.prog 3 1 := ⟨tsz3⟩
theorem tmk3 : MkT Tryd.prog 3 (.int .i64 0) 1 8 := by unfold MkT; kernel_rfl
instance : KMk Tryd.prog 3 (.int .i64 0) 1 8 := ⟨tmk3⟩
theorem tsc3 : ScT Tryd.prog 3 := ⟨_, Tryd.underlying3, rfl⟩
instance : KSc Tryd.prog 3 := ⟨tsc3⟩
theorem tsz4 : SzOf Tryd.prog 4 1 := by unfold SzOf; kernel_rfl
instance : KSz Tryd.prog 4 1 := ⟨tsz4⟩
theorem tmk4 : MkT Tryd.prog 4 (.bool false) 1 1 := by unfold MkT; kernel_rfl
instance : KMk Tryd.prog 4 (.bool false) 1 1 := ⟨tmk4⟩
instance : KBo Tryd.prog 4 := ⟨Tryd.underlying4⟩
theorem tsc4 : ScT Tryd.prog 4 := ⟨_, Tryd.underlying4, rfl⟩
instance : KSc Tryd.prog 4 := ⟨tsc4⟩
theorem tsz5 : SzOf Tryd.prog 5 1 := by unfold SzOf; kernel_rfl
instance : KSz Tryd.prog 5 1 := ⟨tsz5⟩
theorem tmk5 : MkT Tryd.prog 5 (.int .u8 0) 1 1 := by unfold MkT; kernel_rfl
instance : KMk Tryd.prog 5 (.int .u8 0) 1 1 := ⟨tmk5⟩
theorem tsc5 : ScT Tryd.prog 5 := ⟨_, Tryd.underlying5, rfl⟩
instance : KSc Tryd.prog 5 := ⟨tsc5⟩
theorem tsz9 : SzOf Tryd.prog 9 1 := by unfold SzOf; kernel_rfl
instance : KSz Tryd.prog 9 1 := ⟨tsz9⟩
theorem tmk9 : MkT Tryd.prog 9 (.string ⟨#[]⟩) 1 16 := by unfold MkT; kernel_rfl
instance : KMk Tryd.prog 9 (.string ⟨#[]⟩) 1 16 := ⟨tmk9⟩
theorem tsc9 : ScT Tryd.prog 9 := ⟨_, Tryd.underlying9, rfl⟩
instance : KSc Tryd.prog 9 := ⟨tsc9⟩
theorem tsz22 : SzOf Tryd.prog 22 1 := by unfold SzOf; kernel_rfl
instance : KSz Tryd.prog 22 1 := ⟨tsz22⟩
theorem tmk22 : MkT Tryd.prog 22 (.slice none 0 0) 1 24 := by unfold MkT; kernel_rfl
instance : KMk Tryd.prog 22 (.slice none 0 0) 1 24 := ⟨tmk22⟩
theorem tsc22 : ScT Tryd.prog 22 := ⟨_, Tryd.underlying22, rfl⟩
instance : KSc Tryd.prog 22 := ⟨tsc22⟩
theorem tsz24 : SzOf Tryd.prog 24 2 := by unfold SzOf; kernel_rfl
instance : KSz Tryd.prog 24 2 := ⟨tsz24⟩
theorem tmk24 : MkT Tryd.prog 24 (.agg #[.int .i64 0, .slice none 0 0]) 2 32 := by unfold MkT; kernel_rfl
instance : KMk Tryd.prog 24 (.agg #[.int .i64 0, .slice none 0 0]) 2 32 := ⟨tmk24⟩
theorem tag24 : AgT Tryd.prog 24 2 := ⟨⟨_, Tryd.underlying24, rfl⟩, tsz24⟩
instance : KAg Tryd.prog 24 2 := ⟨tag24⟩
theorem tsz25 : SzOf Tryd.prog 25 1 := by unfold SzOf; kernel_rfl
instance : KSz Tryd.prog 25 1 := ⟨tsz25⟩
theorem tmk25 : MkT Tryd.prog 25 (.int .i64 0) 1 8 := by unfold MkT; kernel_rfl
instance : KMk Tryd.prog 25 (.int .i64 0) 1 8 := ⟨tmk25⟩
theorem tsc25 : ScT Tryd.prog 25 := ⟨_, Tryd.underlying25, rfl⟩
instance : KSc Tryd.prog 25 := ⟨tsc25⟩
theorem tsz43 : SzOf Tryd.prog 43 1 := by unfold SzOf; kernel_rfl
instance : KSz Tryd.prog 43 1 := ⟨tsz43⟩
theorem tmk43 : MkT Tryd.prog 43 (.slice none 0 0) 1 24 := by unfold MkT; kernel_rfl
instance : KMk Tryd.prog 43 (.slice none 0 0) 1 24 := ⟨tmk43⟩
theorem tsc43 : ScT Tryd.prog 43 := ⟨_, Tryd.underlying43, rfl⟩
instance : KSc Tryd.prog 43 := ⟨tsc43⟩
theorem tsz45 : SzOf Tryd.prog 45 3 := by unfold SzOf; kernel_rfl
instance : KSz Tryd.prog 45 3 := ⟨tsz45⟩
theorem tmk45 : MkT Tryd.prog 45 (.agg #[.int .i64 0, .slice none 0 0, .slice none 0 0]) 3 56 := by unfold MkT; kernel_rfl
instance : KMk Tryd.prog 45 (.agg #[.int .i64 0, .slice none 0 0, .slice none 0 0]) 3 56 := ⟨tmk45⟩
theorem tag45 : AgT Tryd.prog 45 3 := ⟨⟨_, Tryd.underlying45, rfl⟩, tsz45⟩
instance : KAg Tryd.prog 45 3 := ⟨tag45⟩
theorem tsz54 : SzOf Tryd.prog 54 3 := by unfold SzOf; kernel_rfl
instance : KSz Tryd.prog 54 3 := ⟨tsz54⟩
theorem tmk54 : MkT Tryd.prog 54 (.agg #[.int .i64 0, .int .i64 0, .slice none 0 0]) 3 40 := by unfold MkT; kernel_rfl
instance : KMk Tryd.prog 54 (.agg #[.int .i64 0, .int .i64 0, .slice none 0 0]) 3 40 := ⟨tmk54⟩
theorem tag54 : AgT Tryd.prog 54 3 := ⟨⟨_, Tryd.underlying54, rfl⟩, tsz54⟩
instance : KAg Tryd.prog 54 3 := ⟨tag54⟩
theorem tsz56 : SzOf Tryd.prog 56 1 := by unfold SzOf; kernel_rfl
instance : KSz Tryd.prog 56 1 := ⟨tsz56⟩
theorem tmk56 : MkT Tryd.prog 56 (.slice none 0 0) 1 24 := by unfold MkT; kernel_rfl
instance : KMk Tryd.prog 56 (.slice none 0 0) 1 24 := ⟨tmk56⟩
theorem tsc56 : ScT Tryd.prog 56 := ⟨_, Tryd.underlying56, rfl⟩
instance : KSc Tryd.prog 56 := ⟨tsc56⟩
theorem tsz59 : SzOf Tryd.prog 59 2 := by unfold SzOf; kernel_rfl
instance : KSz Tryd.prog 59 2 := ⟨tsz59⟩
theorem tmk59 : MkT Tryd.prog 59 (.agg #[.int .i64 0, .int .i64 0]) 2 16 := by unfold MkT; kernel_rfl
instance : KMk Tryd.prog 59 (.agg #[.int .i64 0, .int .i64 0]) 2 16 := ⟨tmk59⟩
theorem tag59 : AgT Tryd.prog 59 2 := ⟨⟨_, Tryd.underlying59, rfl⟩, tsz59⟩
instance : KAg Tryd.prog 59 2 := ⟨tag59⟩
theorem tsz65 : SzOf Tryd.prog 65 1 := by unfold SzOf; kernel_rfl
instance : KSz Tryd.prog 65 1 := ⟨tsz65⟩
theorem tmk65 : MkT Tryd.prog 65 (.nilFunc) 1 8 := by unfold MkT; kernel_rfl
instance : KMk Tryd.prog 65 (.nilFunc) 1 8 := ⟨tmk65⟩
theorem tsc65 : ScT Tryd.prog 65 := ⟨_, Tryd.underlying65, rfl⟩
instance : KSc Tryd.prog 65 := ⟨tsc65⟩
theorem tsz102 : SzOf Tryd.prog 102 1 := by unfold SzOf; kernel_rfl
instance : KSz Tryd.prog 102 1 := ⟨tsz102⟩
theorem tmk102 : MkT Tryd.prog 102 (.nilFunc) 1 8 := by unfold MkT; kernel_rfl
instance : KMk Tryd.prog 102 (.nilFunc) 1 8 := ⟨tmk102⟩
theorem tsc102 : ScT Tryd.prog 102 := ⟨_, Tryd.underlying102, rfl⟩
instance : KSc Tryd.prog 102 := ⟨tsc102⟩
theorem tsz104 : SzOf Tryd.prog 104 1 := by unfold SzOf; kernel_rfl
instance : KSz Tryd.prog 104 1 := ⟨tsz104⟩
theorem tmk104 : MkT Tryd.prog 104 (.int .u64 0) 1 8 := by unfold MkT; kernel_rfl
instance : KMk Tryd.prog 104 (.int .u64 0) 1 8 := ⟨tmk104⟩
theorem tsc104 : ScT Tryd.prog 104 := ⟨_, Tryd.underlying104, rfl⟩
instance : KSc Tryd.prog 104 := ⟨tsc104⟩
theorem tsz106 : SzOf Tryd.prog 106 3 := by unfold SzOf; kernel_rfl
instance : KSz Tryd.prog 106 3 := ⟨tsz106⟩
theorem tmk106 : MkT Tryd.prog 106 (.agg #[.int .i64 0, .int .i64 0, .slice none 0 0]) 3 40 := by unfold MkT; kernel_rfl
instance : KMk Tryd.prog 106 (.agg #[.int .i64 0, .int .i64 0, .slice none 0 0]) 3 40 := ⟨tmk106⟩
theorem tag106 : AgT Tryd.prog 106 3 := ⟨⟨_, Tryd.underlying106, rfl⟩, tsz106⟩
instance : KAg Tryd.prog 106 3 := ⟨tag106⟩
theorem tsz113 : SzOf Tryd.prog 113 1 := by unfold SzOf; kernel_rfl
instance : KSz Tryd.prog 113 1 := ⟨tsz113⟩
theorem tmk113 : MkT Tryd.prog 113 (.slice none 0 0) 1 24 := by unfold MkT; kernel_rfl
instance : KMk Tryd.prog 113 (.slice none 0 0) 1 24 := ⟨tmk113⟩
theorem tsc113 : ScT Tryd.prog 113 := ⟨_, Tryd.underlying113, rfl⟩
instance : KSc Tryd.prog 113 := ⟨tsc113⟩
theorem tsz115 : SzOf Tryd.prog 115 1 := by unfold SzOf; kernel_rfl
instance : KSz Tryd.prog 115 1 := ⟨tsz115⟩
theorem tmk115 : MkT Tryd.prog 115 (.int .u32 0) 1 4 := by unfold MkT; kernel_rfl
instance : KMk Tryd.prog 115 (.int .u32 0) 1 4 := ⟨tmk115⟩
theorem tsc115 : ScT Tryd.prog 115 := ⟨_, Tryd.underlying115, rfl⟩
instance : KSc Tryd.prog 115 := ⟨tsc115⟩
theorem tsz117 : SzOf Tryd.prog 117 1 := by unfold SzOf; kernel_rfl
instance : KSz Tryd.prog 117 1 := ⟨tsz117⟩
theorem tmk117 : MkT Tryd.prog 117 (.int .u64 0) 1 8 := by unfold MkT; kernel_rfl
instance : KMk Tryd.prog 117 (.int .u64 0) 1 8 := ⟨tmk117⟩
theorem tsc117 : ScT Tryd.prog 117 := ⟨_, Tryd.underlying117, rfl⟩
instance : KSc Tryd.prog 117 := ⟨tsc117⟩
theorem tsz120 : SzOf Tryd.prog 120 6 := by unfold SzOf; kernel_rfl
instance : KSz Tryd.prog 120 6 := ⟨tsz120⟩
theorem tmk120 : MkT Tryd.prog 120 (.agg #[.int .i64 0, .int .i64 0, .slice none 0 0, .slice none 0 0, .slice none 0 0, .int .i64 0]) 6 96 := by unfold MkT; kernel_rfl
instance : KMk Tryd.prog 120 (.agg #[.int .i64 0, .int .i64 0, .slice none 0 0, .slice none 0 0, .slice none 0 0, .int .i64 0]) 6 96 := ⟨tmk120⟩
theorem tag120 : AgT Tryd.prog 120 6 := ⟨⟨_, Tryd.underlying120, rfl⟩, tsz120⟩
instance : KAg Tryd.prog 120 6 := ⟨tag120⟩
theorem tsz121 : SzOf Tryd.prog 121 1 := by unfold SzOf; kernel_rfl
instance : KSz Tryd.prog 121 1 := ⟨tsz121⟩
theorem tmk121 : MkT Tryd.prog 121 (.pointer none) 1 8 := by unfold MkT; kernel_rfl
instance : KMk Tryd.prog 121 (.pointer none) 1 8 := ⟨tmk121⟩
theorem tsc121 : ScT Tryd.prog 121 := ⟨_, Tryd.underlying121, rfl⟩
instance : KSc Tryd.prog 121 := ⟨tsc121⟩
theorem tsz124 : SzOf Tryd.prog 124 1 := by unfold SzOf; kernel_rfl
instance : KSz Tryd.prog 124 1 := ⟨tsz124⟩
theorem tmk124 : MkT Tryd.prog 124 (.nilFunc) 1 8 := by unfold MkT; kernel_rfl
instance : KMk Tryd.prog 124 (.nilFunc) 1 8 := ⟨tmk124⟩
theorem tsc124 : ScT Tryd.prog 124 := ⟨_, Tryd.underlying124, rfl⟩
instance : KSc Tryd.prog 124 := ⟨tsc124⟩
theorem tsz125 : SzOf Tryd.prog 125 1 := by unfold SzOf; kernel_rfl
instance : KSz Tryd.prog 125 1 := ⟨tsz125⟩
theorem tmk125 : MkT Tryd.prog 125 (.slice none 0 0) 1 24 := by unfold MkT; kernel_rfl
instance : KMk Tryd.prog 125 (.slice none 0 0) 1 24 := ⟨tmk125⟩
theorem tsc125 : ScT Tryd.prog 125 := ⟨_, Tryd.underlying125, rfl⟩
instance : KSc Tryd.prog 125 := ⟨tsc125⟩
theorem tsz127 : SzOf Tryd.prog 127 2 := by unfold SzOf; kernel_rfl
instance : KSz Tryd.prog 127 2 := ⟨tsz127⟩
theorem tmk127 : MkT Tryd.prog 127 (.agg #[.slice none 0 0, .slice none 0 0]) 2 48 := by unfold MkT; kernel_rfl
instance : KMk Tryd.prog 127 (.agg #[.slice none 0 0, .slice none 0 0]) 2 48 := ⟨tmk127⟩
theorem tag127 : AgT Tryd.prog 127 2 := ⟨⟨_, Tryd.underlying127, rfl⟩, tsz127⟩
instance : KAg Tryd.prog 127 2 := ⟨tag127⟩
theorem tsz129 : SzOf Tryd.prog 129 32 := by unfold SzOf; kernel_rfl
instance : KSz Tryd.prog 129 32 := ⟨tsz129⟩
theorem tmk129 : MkT Tryd.prog 129 (.agg #[.int .u8 0, .int .u8 0, .int .u8 0, .int .u8 0, .int .u8 0, .int .u8 0, .int .u8 0, .int .u8 0, .int .u8 0, .int .u8 0, .int .u8 0, .int .u8 0, .int .u8 0, .int .u8 0, .int .u8 0, .int .u8 0, .int .u8 0, .int .u8 0, .int .u8 0, .int .u8 0, .int .u8 0, .int .u8 0, .int .u8 0, .int .u8 0, .int .u8 0, .int .u8 0, .int .u8 0, .int .u8 0, .int .u8 0, .int .u8 0, .int .u8 0, .int .u8 0]) 32 32 := by unfold MkT; kernel_rfl
instance : KMk Tryd.prog 129 (.agg #[.int .u8 0, .int .u8 0, .int .u8 0, .int .u8 0, .int .u8 0, .int .u8 0, .int .u8 0, .int .u8 0, .int .u8 0, .int .u8 0, .int .u8 0, .int .u8 0, .int .u8 0, .int .u8 0, .int .u8 0, .int .u8 0, .int .u8 0, .int .u8 0, .int .u8 0, .int .u8 0, .int .u8 0, .int .u8 0, .int .u8 0, .int .u8 0, .int .u8 0, .int .u8 0, .int .u8 0, .int .u8 0, .int .u8 0, .int .u8 0, .int .u8 0, .int .u8 0]) 32 32 := ⟨tmk129⟩
theorem tag129 : AgT Tryd.prog 129 32 := ⟨⟨_, Tryd.underlying129, rfl⟩, tsz129⟩
instance : KAg Tryd.prog 129 32 := ⟨tag129⟩
theorem tsz130 : SzOf Tryd.prog 130 64 := by unfold SzOf; kernel_rfl
instance : KSz Tryd.prog 130 64 := ⟨tsz130⟩
theorem tmk130 : MkT Tryd.prog 130 (.agg #[.int .u8 0, .int .u8 0, .int .u8 0, .int .u8 0, .int .u8 0, .int .u8 0, .int .u8 0, .int .u8 0, .int .u8 0, .int .u8 0, .int .u8 0, .int .u8 0, .int .u8 0, .int .u8 0, .int .u8 0, .int .u8 0, .int .u8 0, .int .u8 0, .int .u8 0, .int .u8 0, .int .u8 0, .int .u8 0, .int .u8 0, .int .u8 0, .int .u8 0, .int .u8 0, .int .u8 0, .int .u8 0, .int .u8 0, .int .u8 0, .int .u8 0, .int .u8 0, .int .u8 0, .int .u8 0, .int .u8 0, .int .u8 0, .int .u8 0, .int .u8 0, .int .u8 0, .int .u8 0, .int .u8 0, .int .u8 0, .int .u8 0, .int .u8 0, .int .u8 0, .int .u8 0, .int .u8 0, .int .u8 0, .int .u8 0, .int .u8 0, .int .u8 0, .int .u8 0, .int .u8 0, .int .u8 0, .int .u8 0, .int .u8 0, .int .u8 0, .int .u8 0, .int .u8 0, .int .u8 0, .int .u8 0, .int .u8 0, .int .u8 0, .int .u8 0]) 64 64 := by unfold MkT; kernel_rfl
instance : KMk Tryd.prog 130 (.agg #[.int .u8 0, .int .u8 0, .int .u8 0, .int .u8 0, .int .u8 0, .int .u8 0, .int .u8 0, .int .u8 0, .int .u8 0, .int .u8 0, .int .u8 0, .int .u8 0, .int .u8 0, .int .u8 0, .int .u8 0, .int .u8 0, .int .u8 0, .int .u8 0, .int .u8 0, .int .u8 0, .int .u8 0, .int .u8 0, .int .u8 0, .int .u8 0, .int .u8 0, .int .u8 0, .int .u8 0, .int .u8 0, .int .u8 0, .int .u8 0, .int .u8 0, .int .u8 0, .int .u8 0, .int .u8 0, .int .u8 0, .int .u8 0, .int .u8 0, .int .u8 0, .int .u8 0, .int .u8 0, .int .u8 0, .int .u8 0, .int .u8 0, .int .u8 0, .int .u8 0, .int .u8 0, .int .u8 0, .int .u8 0, .int .u8 0, .int .u8 0, .int .u8 0, .int .u8 0, .int .u8 0, .int .u8 0, .int .u8 0, .int .u8 0, .int .u8 0, .int .u8 0, .int .u8 0, .int .u8 0, .int .u8 0, .int .u8 0, .int .u8 0, .int .u8 0]) 64 64 := ⟨tmk130⟩
theorem tag130 : AgT Tryd.prog 130 64 := ⟨⟨_, Tryd.underlying130, rfl⟩, tsz130⟩
instance : KAg Tryd.prog 130 64 := ⟨tag130⟩
theorem tsl22 : SlT Tryd.prog 22 3 1 := ⟨Tryd.underlying22, tsz3⟩
instance : KSl Tryd.prog 22 3 1 := ⟨tsl22⟩
theorem tfl24_0 : FlT Tryd.prog 24 0 0 := ⟨_, _, 0, Tryd.underlying24, rfl, tsz3, rfl⟩
instance : KFl Tryd.prog 24 0 0 := ⟨tfl24_0⟩
theorem tfl24_1 : FlT Tryd.prog 24 1 1 := ⟨_, _, 0, Tryd.underlying24, rfl, tsz22, rfl⟩
instance : KFl Tryd.prog 24 1 1 := ⟨tfl24_1⟩
theorem tbd24 : BdT Tryd.prog 24 [.int .i64 0, .slice none 0 0] (fun i => ([(0, 1), (1, 1)] : List (Nat × Nat))[i]?) := .struct Tryd.underlying24 tmk24 rfl (szs := [1, 1]) (by kernel_rfl)
instance : KBd Tryd.prog 24 [.int .i64 0, .slice none 0 0] (fun i => ([(0, 1), (1, 1)] : List (Nat × Nat))[i]?) := ⟨tbd24⟩
theorem tsl43 : SlT Tryd.prog 43 22 1 := ⟨Tryd.underlying43, tsz22⟩
instance : KSl Tryd.prog 43 22 1 := ⟨tsl43⟩
theorem tfl45_0 : FlT Tryd.prog 45 0 0 := ⟨_, _, 0, Tryd.underlying45, rfl, tsz3, rfl⟩
instance : KFl Tryd.prog 45 0 0 := ⟨tfl45_0⟩
theorem tfl45_1 : FlT Tryd.prog 45 1 1 := ⟨_, _, 0, Tryd.underlying45, rfl, tsz43, rfl⟩
instance : KFl Tryd.prog 45 1 1 := ⟨tfl45_1⟩
theorem tfl45_2 : FlT Tryd.prog 45 2 2 := ⟨_, _, 0, Tryd.underlying45, rfl, tsz43, rfl⟩
instance : KFl Tryd.prog 45 2 2 := ⟨tfl45_2⟩
theorem tbd45 : BdT Tryd.prog 45 [.int .i64 0, .slice none 0 0, .slice none 0 0] (fun i => ([(0, 1), (1, 1), (2, 1)] : List (Nat × Nat))[i]?) := .struct Tryd.underlying45 tmk45 rfl (szs := [1, 1, 1]) (by kernel_rfl)
instance : KBd Tryd.prog 45 [.int .i64 0, .slice none 0 0, .slice none 0 0] (fun i => ([(0, 1), (1, 1), (2, 1)] : List (Nat × Nat))[i]?) := ⟨tbd45⟩
theorem tfl54_0 : FlT Tryd.prog 54 0 0 := ⟨_, _, 0, Tryd.underlying54, rfl, tsz3, rfl⟩
instance : KFl Tryd.prog 54 0 0 := ⟨tfl54_0⟩
theorem tfl54_1 : FlT Tryd.prog 54 1 1 := ⟨_, _, 0, Tryd.underlying54, rfl, tsz3, rfl⟩
instance : KFl Tryd.prog 54 1 1 := ⟨tfl54_1⟩
theorem tfl54_2 : FlT Tryd.prog 54 2 2 := ⟨_, _, 0, Tryd.underlying54, rfl, tsz22, rfl⟩
instance : KFl Tryd.prog 54 2 2 := ⟨tfl54_2⟩
theorem tbd54 : BdT Tryd.prog 54 [.int .i64 0, .int .i64 0, .slice none 0 0] (fun i => ([(0, 1), (1, 1), (2, 1)] : List (Nat × Nat))[i]?) := .struct Tryd.underlying54 tmk54 rfl (szs := [1, 1, 1]) (by kernel_rfl)
instance : KBd Tryd.prog 54 [.int .i64 0, .int .i64 0, .slice none 0 0] (fun i => ([(0, 1), (1, 1), (2, 1)] : List (Nat × Nat))[i]?) := ⟨tbd54⟩
theorem tsl56 : SlT Tryd.prog 56 59 2 := ⟨Tryd.underlying56, tsz59⟩
instance : KSl Tryd.prog 56 59 2 := ⟨tsl56⟩
instance : KEqP Tryd.prog 59 := ⟨3, ⟨Tryd.underlying59, tsz3⟩, Tryd.underlying3, by kernel_rfl⟩
theorem tar59 : ArT Tryd.prog 59 2 3 1 := ⟨Tryd.underlying59, tsz3⟩
instance : KAr Tryd.prog 59 2 3 1 := ⟨tar59⟩
theorem tbd59 : BdT Tryd.prog 59 [.int .i64 0, .int .i64 0] (fun i => some (i * 1, 1)) := .array tar59 tmk59 rfl
instance : KBd Tryd.prog 59 [.int .i64 0, .int .i64 0] (fun i => some (i * 1, 1)) := ⟨tbd59⟩
theorem tfl106_0 : FlT Tryd.prog 106 0 0 := ⟨_, _, 0, Tryd.underlying106, rfl, tsz3, rfl⟩
instance : KFl Tryd.prog 106 0 0 := ⟨tfl106_0⟩
theorem tfl106_1 : FlT Tryd.prog 106 1 1 := ⟨_, _, 0, Tryd.underlying106, rfl, tsz3, rfl⟩
instance : KFl Tryd.prog 106 1 1 := ⟨tfl106_1⟩
theorem tfl106_2 : FlT Tryd.prog 106 2 2 := ⟨_, _, 0, Tryd.underlying106, rfl, tsz22, rfl⟩
instance : KFl Tryd.prog 106 2 2 := ⟨tfl106_2⟩
theorem tbd106 : BdT Tryd.prog 106 [.int .i64 0, .int .i64 0, .slice none 0 0] (fun i => ([(0, 1), (1, 1), (2, 1)] : List (Nat × Nat))[i]?) := .struct Tryd.underlying106 tmk106 rfl (szs := [1, 1, 1]) (by kernel_rfl)
instance : KBd Tryd.prog 106 [.int .i64 0, .int .i64 0, .slice none 0 0] (fun i => ([(0, 1), (1, 1), (2, 1)] : List (Nat × Nat))[i]?) := ⟨tbd106⟩
theorem tsl113 : SlT Tryd.prog 113 24 2 := ⟨Tryd.underlying113, tsz24⟩
instance : KSl Tryd.prog 113 24 2 := ⟨tsl113⟩
theorem tfl120_0 : FlT Tryd.prog 120 0 0 := ⟨_, _, 2, Tryd.underlying120, rfl, tsz106, rfl⟩
instance : KFl Tryd.prog 120 0 0 := ⟨tfl120_0⟩
theorem tfl120_1 : FlT Tryd.prog 120 1 3 := ⟨_, _, 0, Tryd.underlying120, rfl, tsz22, rfl⟩
instance : KFl Tryd.prog 120 1 3 := ⟨tfl120_1⟩
theorem tfl120_2 : FlT Tryd.prog 120 2 4 := ⟨_, _, 0, Tryd.underlying120, rfl, tsz22, rfl⟩
instance : KFl Tryd.prog 120 2 4 := ⟨tfl120_2⟩
theorem tfl120_3 : FlT Tryd.prog 120 3 5 := ⟨_, _, 0, Tryd.underlying120, rfl, tsz3, rfl⟩
instance : KFl Tryd.prog 120 3 5 := ⟨tfl120_3⟩
theorem tbd120 : BdT Tryd.prog 120 [.int .i64 0, .int .i64 0, .slice none 0 0, .slice none 0 0, .slice none 0 0, .int .i64 0] (fun i => ([(0, 3), (3, 1), (4, 1), (5, 1)] : List (Nat × Nat))[i]?) := .struct Tryd.underlying120 tmk120 rfl (szs := [3, 1, 1, 1]) (by kernel_rfl)
instance : KBd Tryd.prog 120 [.int .i64 0, .int .i64 0, .slice none 0 0, .slice none 0 0, .slice none 0 0, .int .i64 0] (fun i => ([(0, 3), (3, 1), (4, 1), (5, 1)] : List (Nat × Nat))[i]?) := ⟨tbd120⟩
theorem tsl125 : SlT Tryd.prog 125 43 1 := ⟨Tryd.underlying125, tsz43⟩
instance : KSl Tryd.prog 125 43 1 := ⟨tsl125⟩
theorem tar127 : ArT Tryd.prog 127 2 43 1 := ⟨Tryd.underlying127, tsz43⟩
instance : KAr Tryd.prog 127 2 43 1 := ⟨tar127⟩
theorem tbd127 : BdT Tryd.prog 127 [.slice none 0 0, .slice none 0 0] (fun i => some (i * 1, 1)) := .array tar127 tmk127 rfl
instance : KBd Tryd.prog 127 [.slice none 0 0, .slice none 0 0] (fun i => some (i * 1, 1)) := ⟨tbd127⟩
theorem tar129 : ArT Tryd.prog 129 32 5 1 := ⟨Tryd.underlying129, tsz5⟩
instance : KAr Tryd.prog 129 32 5 1 := ⟨tar129⟩
theorem tbd129 : BdT Tryd.prog 129 [.int .u8 0, .int .u8 0, .int .u8 0, .int .u8 0, .int .u8 0, .int .u8 0, .int .u8 0, .int .u8 0, .int .u8 0, .int .u8 0, .int .u8 0, .int .u8 0, .int .u8 0, .int .u8 0, .int .u8 0, .int .u8 0, .int .u8 0, .int .u8 0, .int .u8 0, .int .u8 0, .int .u8 0, .int .u8 0, .int .u8 0, .int .u8 0, .int .u8 0, .int .u8 0, .int .u8 0, .int .u8 0, .int .u8 0, .int .u8 0, .int .u8 0, .int .u8 0] (fun i => some (i * 1, 1)) := .array tar129 tmk129 rfl
instance : KBd Tryd.prog 129 [.int .u8 0, .int .u8 0, .int .u8 0, .int .u8 0, .int .u8 0, .int .u8 0, .int .u8 0, .int .u8 0, .int .u8 0, .int .u8 0, .int .u8 0, .int .u8 0, .int .u8 0, .int .u8 0, .int .u8 0, .int .u8 0, .int .u8 0, .int .u8 0, .int .u8 0, .int .u8 0, .int .u8 0, .int .u8 0, .int .u8 0, .int .u8 0, .int .u8 0, .int .u8 0, .int .u8 0, .int .u8 0, .int .u8 0, .int .u8 0, .int .u8 0, .int .u8 0] (fun i => some (i * 1, 1)) := ⟨tbd129⟩
theorem tar130 : ArT Tryd.prog 130 64 5 1 := ⟨Tryd.underlying130, tsz5⟩
instance : KAr Tryd.prog 130 64 5 1 := ⟨tar130⟩
theorem tbd130 : BdT Tryd.prog 130 [.int .u8 0, .int .u8 0, .int .u8 0, .int .u8 0, .int .u8 0, .int .u8 0, .int .u8 0, .int .u8 0, .int .u8 0, .int .u8 0, .int .u8 0, .int .u8 0, .int .u8 0, .int .u8 0, .int .u8 0, .int .u8 0, .int .u8 0, .int .u8 0, .int .u8 0, .int .u8 0, .int .u8 0, .int .u8 0, .int .u8 0, .int .u8 0, .int .u8 0, .int .u8 0, .int .u8 0, .int .u8 0, .int .u8 0, .int .u8 0, .int .u8 0, .int .u8 0, .int .u8 0, .int .u8 0, .int .u8 0, .int .u8 0, .int .u8 0, .int .u8 0, .int .u8 0, .int .u8 0, .int .u8 0, .int .u8 0, .int .u8 0, .int .u8 0, .int .u8 0, .int .u8 0, .int .u8 0, .int .u8 0, .int .u8 0, .int .u8 0, .int .u8 0, .int .u8 0, .int .u8 0, .int .u8 0, .int .u8 0, .int .u8 0, .int .u8 0, .int .u8 0, .int .u8 0, .int .u8 0, .int .u8 0, .int .u8 0, .int .u8 0, .int .u8 0] (fun i => some (i * 1, 1)) := .array tar130 tmk130 rfl
instance : KBd Tryd.prog 130 [.int .u8 0, .int .u8 0, .int .u8 0, .int .u8 0, .int .u8 0, .int .u8 0, .int .u8 0, .int .u8 0, .int .u8 0, .int .u8 0, .int .u8 0, .int .u8 0, .int .u8 0, .int .u8 0, .int .u8 0, .int .u8 0, .int .u8 0, .int .u8 0, .int .u8 0, .int .u8 0, .int .u8 0, .int .u8 0, .int .u8 0, .int .u8 0, .int .u8 0, .int .u8 0, .int .u8 0, .int .u8 0, .int .u8 0, .int .u8 0, .int .u8 0, .int .u8 0, .int .u8 0, .int .u8 0, .int .u8 0, .int .u8 0, .int .u8 0, .int .u8 0, .int .u8 0, .int .u8 0, .int .u8 0, .int .u8 0, .int .u8 0, .int .u8 0, .int .u8 0, .int .u8 0, .int .u8 0, .int .u8 0, .int .u8 0, .int .u8 0, .int .u8 0, .int .u8 0, .int .u8 0, .int .u8 0, .int .u8 0, .int .u8 0, .int .u8 0, .int .u8 0, .int .u8 0, .int .u8 0, .int .u8 0, .int .u8 0, .int .u8 0, .int .u8 0] (fun i => some (i * 1, 1)) := ⟨tbd130⟩

end Go.Proofs.YtfoipkcdmbnbeaaDoor
