/- Facts on the types of this program, each closed. -/
import Derived.Test.YtajpfjmmhcbjkaaDoorEngT
import Derived.Test.YtajpfjmmhcbjkaaDoorEngZp
import Derived.Test.YtajpfjmmhcbjkaaDoorRows
import Derived.KernelRfl
namespace Go.Proofs.YtajpfjmmhcbjkaaDoor

theorem tsz3 : SzOf Tryd.prog 3 1 := by unfold SzOf; kernel_rfl
instance : KSz Tryd.prog 3 1 := ⟨tsz3⟩
theorem tmk3 : MkT Tryd.prog 3 (.int .i64 0) 1 8 := by unfold MkT; kernel_rfl
instance : KMk Tryd.prog 3 (.int .i64 0) 1 8 := ⟨tmk3⟩
theorem tsc3 : ScT Tryd.prog 3 := ⟨_, Tryd.underlying3, rfl⟩
instance : KSc Tryd.prog 3 := ⟨tsc3⟩
theorem tsz4 : SzOf Tryd.prog 4 1 := by unfold SzOf; kernel_rfl
instance : KSz Tryd.prog 4 1 := ⟨tsz4⟩
theorem tmk4 : MkT Tryd.prog 4 (.bool false) 1 1 := by unfold MkT; kernel_rfl
instance : KMk Tryd.prog 4 (.bool false) 1 1 := ⟨tmk4⟩
instance : KBo Tryd.prog 4 := ⟨Tryd.underlying4⟩
theorem tsc4 : ScT Tryd.prog 4 := ⟨_, Tryd.underlying4, rfl⟩
instance : KSc Tryd.prog 4 := ⟨tsc4⟩
theorem tsz5 : SzOf Tryd.prog 5 1 := by unfold SzOf; kernel_rfl
instance : KSz Tryd.prog 5 1 := ⟨tsz5⟩
theorem tmk5 : MkT Tryd.prog 5 (.int .u8 0) 1 1 := by unfold MkT; kernel_rfl
instance : KMk Tryd.prog 5 (.int .u8 0) 1 1 := ⟨tmk5⟩
theorem tsc5 : ScT Tryd.prog 5 := ⟨_, Tryd.underlying5, rfl⟩
instance : KSc Tryd.prog 5 := ⟨tsc5⟩
theorem tsz22 : SzOf Tryd.prog 22 1 := by unfold SzOf; kernel_rfl
instance : KSz Tryd.prog 22 1 := ⟨tsz22⟩
theorem tmk22 : MkT Tryd.prog 22 (.slice none 0 0) 1 24 := by unfold MkT; kernel_rfl
instance : KMk Tryd.prog 22 (.slice none 0 0) 1 24 := ⟨tmk22⟩
theorem tsc22 : ScT Tryd.prog 22 := ⟨_, Tryd.underlying22, rfl⟩
instance : KSc Tryd.prog 22 := ⟨tsc22⟩
theorem tsz24 : SzOf Tryd.prog 24 2 := by unfold SzOf; kernel_rfl
instance : KSz Tryd.prog 24 2 := ⟨tsz24⟩
theorem tmk24 : MkT Tryd.prog 24 (.agg #[.int .i64 0, .slice none 0 0]) 2 32 := by unfold MkT; kernel_rfl
instance : KMk Tryd.prog 24 (.agg #[.int .i64 0, .slice none 0 0]) 2 32 := ⟨tmk24⟩
theorem tag24 : AgT Tryd.prog 24 2 := ⟨⟨_, Tryd.underlying24, rfl⟩, tsz24⟩
instance : KAg Tryd.prog 24 2 := ⟨tag24⟩
theorem tsz25 : SzOf Tryd.prog 25 1 := by unfold SzOf; kernel_rfl
instance : KSz Tryd.prog 25 1 := ⟨tsz25⟩
theorem tmk25 : MkT Tryd.prog 25 (.int .i64 0) 1 8 := by unfold MkT; kernel_rfl
instance : KMk Tryd.prog 25 (.int .i64 0) 1 8 := ⟨tmk25⟩
theorem tsc25 : ScT Tryd.prog 25 := ⟨_, Tryd.underlying25, rfl⟩
instance : KSc Tryd.prog 25 := ⟨tsc25⟩
theorem tsz41 : SzOf Tryd.prog 41 1 := by unfold SzOf; kernel_rfl
instance : KSz Tryd.prog 41 1 := ⟨tsz41⟩
theorem tmk41 : MkT Tryd.prog 41 (.nilFunc) 1 8 := by unfold MkT; kernel_rfl
instance : KMk Tryd.prog 41 (.nilFunc) 1 8 := ⟨tmk41⟩
theorem tsc41 : ScT Tryd.prog 41 := ⟨_, Tryd.underlying41, rfl⟩
instance : KSc Tryd.prog 41 := ⟨tsc41⟩
theorem tsz47 : SzOf Tryd.prog 47 2 := by unfold SzOf; kernel_rfl
instance : KSz Tryd.prog 47 2 := ⟨tsz47⟩
theorem tmk47 : MkT Tryd.prog 47 (.agg #[.int .i64 0, .slice none 0 0]) 2 32 := by unfold MkT; kernel_rfl
instance : KMk Tryd.prog 47 (.agg #[.int .i64 0, .slice none 0 0]) 2 32 := ⟨tmk47⟩
theorem tag47 : AgT Tryd.prog 47 2 := ⟨⟨_, Tryd.underlying47, rfl⟩, tsz47⟩
instance : KAg Tryd.prog 47 2 := ⟨tag47⟩
theorem tsz69 : SzOf Tryd.prog 69 1 := by unfold SzOf; kernel_rfl
instance : KSz Tryd.prog 69 1 := ⟨tsz69⟩
theorem tmk69 : MkT Tryd.prog 69 (.map none) 1 8 := by unfold MkT; kernel_rfl
instance : KMk Tryd.prog 69 (.map none) 1 8 := ⟨tmk69⟩
theorem tsc69 : ScT Tryd.prog 69 := ⟨_, Tryd.underlying69, rfl⟩
instance : KSc Tryd.prog 69 := ⟨tsc69⟩
theorem tsz70 : SzOf Tryd.prog 70 1 := by unfold SzOf; kernel_rfl
instance : KSz Tryd.prog 70 1 := ⟨tsz70⟩
theorem tmk70 : MkT Tryd.prog 70 (.nilFunc) 1 8 := by unfold MkT; kernel_rfl
instance : KMk Tryd.prog 70 (.nilFunc) 1 8 := ⟨tmk70⟩
theorem tsc70 : ScT Tryd.prog 70 := ⟨_, Tryd.underlying70, rfl⟩
instance : KSc Tryd.prog 70 := ⟨tsc70⟩
theorem tsz73 : SzOf Tryd.prog 73 1 := by unfold SzOf; kernel_rfl
instance : KSz Tryd.prog 73 1 := ⟨tsz73⟩
theorem tmk73 : MkT Tryd.prog 73 (.nilFunc) 1 8 := by unfold MkT; kernel_rfl
instance : KMk Tryd.prog 73 (.nilFunc) 1 8 := ⟨tmk73⟩
theorem tsc73 : ScT Tryd.prog 73 := ⟨_, Tryd.underlying73, rfl⟩
instance : KSc Tryd.prog 73 := ⟨tsc73⟩
theorem tsz79 : SzOf Tryd.prog 79 1 := by unfold SzOf; kernel_rfl
instance : KSz Tryd.prog 79 1 := ⟨tsz79⟩
theorem tmk79 : MkT Tryd.prog 79 (.slice none 0 0) 1 24 := by unfold MkT; kernel_rfl
instance : KMk Tryd.prog 79 (.slice none 0 0) 1 24 := ⟨tmk79⟩
theorem tsc79 : ScT Tryd.prog 79 := ⟨_, Tryd.underlying79, rfl⟩
instance : KSc Tryd.prog 79 := ⟨tsc79⟩
theorem tsz81 : SzOf Tryd.prog 81 1 := by unfold SzOf; kernel_rfl
instance : KSz Tryd.prog 81 1 := ⟨tsz81⟩
theorem tmk81 : MkT Tryd.prog 81 (.slice none 0 0) 1 24 := by unfold MkT; kernel_rfl
instance : KMk Tryd.prog 81 (.slice none 0 0) 1 24 := ⟨tmk81⟩
theorem tsc81 : ScT Tryd.prog 81 := ⟨_, Tryd.underlying81, rfl⟩
instance : KSc Tryd.prog 81 := ⟨tsc81⟩
theorem tsz83 : SzOf Tryd.prog 83 2 := by unfold SzOf; kernel_rfl
instance : KSz Tryd.prog 83 2 := ⟨tsz83⟩
theorem tmk83 : MkT Tryd.prog 83 (.agg #[.int .i64 0, .int .i64 0]) 2 16 := by unfold MkT; kernel_rfl
instance : KMk Tryd.prog 83 (.agg #[.int .i64 0, .int .i64 0]) 2 16 := ⟨tmk83⟩
theorem tag83 : AgT Tryd.prog 83 2 := ⟨⟨_, Tryd.underlying83, rfl⟩, tsz83⟩
instance : KAg Tryd.prog 83 2 := ⟨tag83⟩
theorem tsz85 : SzOf Tryd.prog 85 1 := by unfold SzOf; kernel_rfl
instance : KSz Tryd.prog 85 1 := ⟨tsz85⟩
theorem tmk85 : MkT Tryd.prog 85 (.int .u64 0) 1 8 := by unfold MkT; kernel_rfl
instance : KMk Tryd.prog 85 (.int .u64 0) 1 8 := ⟨tmk85⟩
theorem tsc85 : ScT Tryd.prog 85 := ⟨_, Tryd.underlying85, rfl⟩
instance : KSc Tryd.prog 85 := ⟨tsc85⟩
theorem tsz87 : SzOf Tryd.prog 87 1 := by unfold SzOf; kernel_rfl
instance : KSz Tryd.prog 87 1 := ⟨tsz87⟩
theorem tmk87 : MkT Tryd.prog 87 (.slice none 0 0) 1 24 := by unfold MkT; kernel_rfl
instance : KMk Tryd.prog 87 (.slice none 0 0) 1 24 := ⟨tmk87⟩
theorem tsc87 : ScT Tryd.prog 87 := ⟨_, Tryd.underlying87, rfl⟩
instance : KSc Tryd.prog 87 := ⟨tsc87⟩
theorem tsz89 : SzOf Tryd.prog 89 1 := by unfold SzOf; kernel_rfl
instance : KSz Tryd.prog 89 1 := ⟨tsz89⟩
theorem tmk89 : MkT Tryd.prog 89 (.int .u32 0) 1 4 := by unfold MkT; kernel_rfl
instance : KMk Tryd.prog 89 (.int .u32 0) 1 4 := ⟨tmk89⟩
theorem tsc89 : ScT Tryd.prog 89 := ⟨_, Tryd.underlying89, rfl⟩
instance : KSc Tryd.prog 89 := ⟨tsc89⟩
theorem tsz91 : SzOf Tryd.prog 91 1 := by unfold SzOf; kernel_rfl
instance : KSz Tryd.prog 91 1 := ⟨tsz91⟩
theorem tmk91 : MkT Tryd.prog 91 (.int .u64 0) 1 8 := by unfold MkT; kernel_rfl
instance : KMk Tryd.prog 91 (.int .u64 0) 1 8 := ⟨tmk91⟩
theorem tsc91 : ScT Tryd.prog 91 := ⟨_, Tryd.underlying91, rfl⟩
instance : KSc Tryd.prog 91 := ⟨tsc91⟩
theorem tsz92 : SzOf Tryd.prog 92 32 := by unfold SzOf; kernel_rfl
instance : KSz Tryd.prog 92 32 := ⟨tsz92⟩
theorem tmk92 : MkT Tryd.prog 92 (.agg #[.int .u8 0, .int .u8 0, .int .u8 0, .int .u8 0, .int .u8 0, .int .u8 0, .int .u8 0, .int .u8 0, .int .u8 0, .int .u8 0, .int .u8 0, .int .u8 0, .int .u8 0, .int .u8 0, .int .u8 0, .int .u8 0, .int .u8 0, .int .u8 0, .int .u8 0, .int .u8 0, .int .u8 0, .int .u8 0, .int .u8 0, .int .u8 0, .int .u8 0, .int .u8 0, .int .u8 0, .int .u8 0, .int .u8 0, .int .u8 0, .int .u8 0, .int .u8 0]) 32 32 := by unfold MkT; kernel_rfl
instance : KMk Tryd.prog 92 (.agg #[.int .u8 0, .int .u8 0, .int .u8 0, .int .u8 0, .int .u8 0, .int .u8 0, .int .u8 0, .int .u8 0, .int .u8 0, .int .u8 0, .int .u8 0, .int .u8 0, .int .u8 0, .int .u8 0, .int .u8 0, .int .u8 0, .int .u8 0, .int .u8 0, .int .u8 0, .int .u8 0, .int .u8 0, .int .u8 0, .int .u8 0, .int .u8 0, .int .u8 0, .int .u8 0, .int .u8 0, .int .u8 0, .int .u8 0, .int .u8 0, .int .u8 0, .int .u8 0]) 32 32 := ⟨tmk92⟩
theorem tag92 : AgT Tryd.prog 92 32 := ⟨⟨_, Tryd.underlying92, rfl⟩, tsz92⟩
instance : KAg Tryd.prog 92 32 := ⟨tag92⟩
theorem tsz93 : SzOf Tryd.prog 93 64 := by unfold SzOf; kernel_rfl
instance : KSz Tryd.prog 93 64 := ⟨tsz93⟩
theorem tmk93 : MkT Tryd.prog 93 (.agg #[.int .u8 0, .int .u8 0, .int .u8 0, .int .u8 0, .int .u8 0, .int .u8 0, .int .u8 0, .int .u8 0, .int .u8 0, .int .u8 0, .int .u8 0, .int .u8 0, .int .u8 0, .int .u8 0, .int .u8 0, .int .u8 0, .int .u8 0, .int .u8 0, .int .u8 0, .int .u8 0, .int .u8 0, .int .u8 0, .int .u8 0, .int .u8 0, .int .u8 0, .int .u8 0, .int .u8 0, .int .u8 0, .int .u8 0, .int .u8 0, .int .u8 0, .int .u8 0, .int .u8 0, .int .u8 0, .int .u8 0, .int .u8 0, .int .u8 0, .int .u8 0, .int .u8 0, .int .u8 0, .int .u8 0, .int .u8 0, .int .u8 0, .int .u8 0, .int .u8 0, .int .u8 0, .int .u8 0, .int .u8 0, .int .u8 0, .int .u8 0, .int .u8 0, .int .u8 0, .int .u8 0, .int .u8 0, .int .u8 0, .int .u8 0, .int .u8 0, .int .u8 0, .int .u8 0, .int .u8 0, .int .u8 0, .int .u8 0, .int .u8 0, .int .u8 0]) 64 64 := by unfold MkT; kernel_rfl
instance : KMk Tryd.prog 93 (.agg #[.int .u8 0, .int .u8 0, .int .u8 0, .int .u8 0, .int .u8 0, .int .u8 0, .int .u8 0, .int .u8 0, .int .u8 0, .int .u8 0, .int .u8 0, .int .u8 0, .int .u8 0, .int .u8 0, .int .u8 0, .int .u8 0, .int .u8 0, .int .u8 0, .int .u8 0, .int .u8 0, .int .u8 0, .int .u8 0, .int .u8 0, .int .u8 0, .int .u8 0, .int .u8 0, .int .u8 0, .int .u8 0, .int .u8 0, .int .u8 0, .int .u8 0, .int .u8 0, .int .u8 0, .int .u8 0, .int .u8 0, .int .u8 0, .int .u8 0, .int .u8 0, .int .u8 0, .int .u8 0, .int .u8 0, .int .u8 0, .int .u8 0, .int .u8 0, .int .u8 0, .int .u8 0, .int .u8 0, .int .u8 0, .int .u8 0, .int .u8 0, .int .u8 0, .int .u8 0, .int .u8 0, .int .u8 0, .int .u8 0, .int .u8 0, .int .u8 0, .int .u8 0, .int .u8 0, .int .u8 0, .int .u8 0, .int .u8 0, .int .u8 0, .int .u8 0]) 64 64 := ⟨tmk93⟩
theorem tag93 : AgT Tryd.prog 93 64 := ⟨⟨_, Tryd.underlying93, rfl⟩, tsz93⟩
instance : KAg Tryd.prog 93 64 := ⟨tag93⟩
theorem tsl22 : SlT Tryd.prog 22 3 1 := ⟨Tryd.underlying22, tsz3⟩
instance : KSl Tryd.prog 22 3 1 := ⟨tsl22⟩
theorem tfl24_0 : FlT Tryd.prog 24 0 0 := ⟨_, _, 0, Tryd.underlying24, rfl, tsz3, rfl⟩
instance : KFl Tryd.prog 24 0 0 := ⟨tfl24_0⟩
theorem tfl24_1 : FlT Tryd.prog 24 1 1 := ⟨_, _, 0, Tryd.underlying24, rfl, tsz22, rfl⟩
instance : KFl Tryd.prog 24 1 1 := ⟨tfl24_1⟩
theorem tbd24 : BdT Tryd.prog 24 [.int .i64 0, .slice none 0 0] (fun i => ([(0, 1), (1, 1)] : List (Nat × Nat))[i]?) := .struct Tryd.underlying24 tmk24 rfl (szs := [1, 1]) (by kernel_rfl)
instance : KBd Tryd.prog 24 [.int .i64 0, .slice none 0 0] (fun i => ([(0, 1), (1, 1)] : List (Nat × Nat))[i]?) := ⟨tbd24⟩
theorem tfl47_0 : FlT Tryd.prog 47 0 0 := ⟨_, _, 0, Tryd.underlying47, rfl, tsz3, rfl⟩
instance : KFl Tryd.prog 47 0 0 := ⟨tfl47_0⟩
theorem tfl47_1 : FlT Tryd.prog 47 1 1 := ⟨_, _, 0, Tryd.underlying47, rfl, tsz22, rfl⟩
instance : KFl Tryd.prog 47 1 1 := ⟨tfl47_1⟩
theorem tbd47 : BdT Tryd.prog 47 [.int .i64 0, .slice none 0 0] (fun i => ([(0, 1), (1, 1)] : List (Nat × Nat))[i]?) := .struct Tryd.underlying47 tmk47 rfl (szs := [1, 1]) (by kernel_rfl)
instance : KBd Tryd.prog 47 [.int .i64 0, .slice none 0 0] (fun i => ([(0, 1), (1, 1)] : List (Nat × Nat))[i]?) := ⟨tbd47⟩
instance : KMp Tryd.prog 69 := ⟨3, 3, Tryd.underlying69, Tryd.underlying3, tmk3⟩
theorem tsl79 : SlT Tryd.prog 79 4 1 := ⟨Tryd.underlying79, tsz4⟩
instance : KSl Tryd.prog 79 4 1 := ⟨tsl79⟩
theorem tsl81 : SlT Tryd.prog 81 83 2 := ⟨Tryd.underlying81, tsz83⟩
instance : KSl Tryd.prog 81 83 2 := ⟨tsl81⟩
instance : KEqP Tryd.prog 83 := ⟨3, ⟨Tryd.underlying83, tsz3⟩, Tryd.underlying3, by kernel_rfl⟩
theorem tar83 : ArT Tryd.prog 83 2 3 1 := ⟨Tryd.underlying83, tsz3⟩
instance : KAr Tryd.prog 83 2 3 1 := ⟨tar83⟩
theorem tbd83 : BdT Tryd.prog 83 [.int .i64 0, .int .i64 0] (fun i => some (i * 1, 1)) := .array tar83 tmk83 rfl
instance : KBd Tryd.prog 83 [.int .i64 0, .int .i64 0] (fun i => some (i * 1, 1)) := ⟨tbd83⟩
theorem tsl87 : SlT Tryd.prog 87 24 2 := ⟨Tryd.underlying87, tsz24⟩
instance : KSl Tryd.prog 87 24 2 := ⟨tsl87⟩
theorem tar92 : ArT Tryd.prog 92 32 5 1 := ⟨Tryd.underlying92, tsz5⟩
instance : KAr Tryd.prog 92 32 5 1 := ⟨tar92⟩
theorem tbd92 : BdT Tryd.prog 92 [.int .u8 0, .int .u8 0, .int .u8 0, .int .u8 0, .int .u8 0, .int .u8 0, .int .u8 0, .int .u8 0, .int .u8 0, .int .u8 0, .int .u8 0, .int .u8 0, .int .u8 0, .int .u8 0, .int .u8 0, .int .u8 0, .int .u8 0, .int .u8 0, .int .u8 0, .int .u8 0, .int .u8 0, .int .u8 0, .int .u8 0, .int .u8 0, .int .u8 0, .int .u8 0, .int .u8 0, .int .u8 0, .int .u8 0, .int .u8 0, .int .u8 0, .int .u8 0] (fun i => some (i * 1, 1)) := .array tar92 tmk92 rfl
instance : KBd Tryd.prog 92 [.int .u8 0, .int .u8 0, .int .u8 0, .int .u8 0, .int .u8 0, .int .u8 0, .int .u8 0, .int .u8 0, .int .u8 0, .int .u8 0, .int .u8 0, .int .u8 0, .int .u8 0, .int .u8 0, .int .u8 0, .int .u8 0, .int .u8 0, .int .u8 0, .int .u8 0, .int .u8 0, .int .u8 0, .int .u8 0, .int .u8 0, .int .u8 0, .int .u8 0, .int .u8 0, .int .u8 0, .int .u8 0, .int .u8 0, .int .u8 0, .int .u8 0, .int .u8 0] (fun i => some (i * 1, 1)) := ⟨tbd92⟩
theorem tar93 : ArT Tryd.prog 93 64 5 1 := ⟨Tryd.underlying93, tsz5⟩
instance : KAr Tryd.prog 93 64 5 1 := ⟨tar93⟩
theorem tbd93 : BdT Tryd.prog 93 [.int .u8 0, .int .u8 0, .int .u8 0, .int .u8 0, .int .u8 0, .int .u8 0, .int .u8 0, .int .u8 0, .int .u8 0, .int .u8 0, .int .u8 0, .int .u8 0, .int .u8 0, .int .u8 0, .int .u8 0, .int .u8 0, .int .u8 0, .int .u8 0, .int .u8 0, .int .u8 0, .int .u8 0, .int .u8 0, .int .u8 0, .int .u8 0, .int .u8 0, .int .u8 0, .int .u8 0, .int .u8 0, .int .u8 0, .int .u8 0, .int .u8 0, .int .u8 0, .int .u8 0, .int .u8 0, .int .u8 0, .int .u8 0, .int .u8 0, .int .u8 0, .int .u8 0, .int .u8 0, .int .u8 0, .int .u8 0, .int .u8 0, .int .u8 0, .int .u8 0, .int .u8 0, .int .u8 0, .int .u8 0, .int .u8 0, .int .u8 0, .int .u8 0, .int .u8 0, .int .u8 0, .int .u8 0, .int .u8 0, .int .u8 0, .int .u8 0, .int .u8 0, .int .u8 0, .int .u8 0, .int .u8 0, .int .u8 0, .int .u8 0, .int .u8 0] (fun i => some (i * 1, 1)) := .array tar93 tmk93 rfl
instance : KBd Tryd.prog 93 [.int .u8 0, .int .u8 0, .int .u8 0, .int .u8 0, .int .u8 0, .int .u8 0, .int .u8 0, .int .u8 0, .int .u8 0, .int .u8 0, .int .u8 0, .int .u8 0, .int .u8 0, .int .u8 0, .int .u8 0, .int .u8 0, .int .u8 0, .int .u8 0, .int .u8 0, .int .u8 0, .int .u8 0, .int .u8 0, .int .u8 0, .int .u8 0, .int .u8 0, .int .u8 0, .int .u8 0, .int .u8 0, .int .u8 0, .int .u8 0, .int .u8 0, .int .u8 0, .int .u8 0, .int .u8 0, .int .u8 0, .int .u8 0, .int .u8 0, .int .u8 0, .int .u8 0, .int .u8 0, .int .u8 0, .int .u8 0, .int .u8 0, .int .u8 0, .int .u8 0, .int .u8 0, .int .u8 0, .int .u8 0, .int .u8 0, .int .u8 0, .int .u8 0, .int .u8 0, .int .u8 0, .int .u8 0, .int .u8 0, .int .u8 0, .int .u8 0, .int .u8 0, .int .u8 0, .int .u8 0, .int .u8 0, .int .u8 0, .int .u8 0, .int .u8 0] (fun i => some (i * 1, 1)) := ⟨tbd93⟩

end Go.Proofs.YtajpfjmmhcbjkaaDoor
