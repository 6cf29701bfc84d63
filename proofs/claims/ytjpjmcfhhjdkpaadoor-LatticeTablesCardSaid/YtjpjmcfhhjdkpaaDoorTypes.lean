/- Facts on the types of this program, each closed. -/
import Derived.Test.YtjpjmcfhhjdkpaaDoorEngT
import Derived.Test.YtjpjmcfhhjdkpaaDoorRows
import Derived.KernelRfl
namespace Go.Proofs.YtjpjmcfhhjdkpaaDoor

theorem tsz3 : SzOf Tryd.prog 3 1 := by unfold SzOf; kernel_rfl
instance : KSz Tryd.prog 3 1 := ⟨tsz3⟩
theorem tmk3 : MkT Tryd.prog 3 (.int .i64 0) 1 8 := by unfold MkT; kernel_rfl
instance : KMk Tryd.prog 3 (.int .i64 0) 1 8 := ⟨tmk3⟩
theorem tsc3 : ScT Tryd.prog 3 := ⟨_, Tryd.underlying3, rfl⟩
instance : KSc Tryd.prog 3 := ⟨tsc3⟩
theorem tsz4 : SzOf Tryd.prog 4 1 := by unfold SzOf; kernel_rfl
instance : KSz Tryd.prog 4 1 := ⟨tsz4⟩
theorem tmk4 : MkT Tryd.prog 4 (.bool false) 1 1 := by unfold MkT; kernel_rfl
instance : KMk Tryd.prog 4 (.bool false) 1 1 := ⟨tmk4⟩
instance : KBo Tryd.prog 4 := ⟨Tryd.underlying4⟩
theorem tsc4 : ScT Tryd.prog 4 := ⟨_, Tryd.underlying4, rfl⟩
instance : KSc Tryd.prog 4 := ⟨tsc4⟩
theorem tsz5 : SzOf Tryd.prog 5 1 := by unfold SzOf; kernel_rfl
instance : KSz Tryd.prog 5 1 := ⟨tsz5⟩
theorem tmk5 : MkT Tryd.prog 5 (.int .u8 0) 1 1 := by unfold MkT; kernel_rfl
instance : KMk Tryd.prog 5 (.int .u8 0) 1 1 := ⟨tmk5⟩
theorem tsc5 : ScT Tryd.prog 5 := ⟨_, Tryd.underlying5, rfl⟩
instance : KSc Tryd.prog 5 := ⟨tsc5⟩
theorem tsz22 : SzOf Tryd.prog 22 1 := by unfold SzOf; kernel_rfl
instance : KSz Tryd.prog 22 1 := ⟨tsz22⟩
theorem tmk22 : MkT Tryd.prog 22 (.slice none 0 0) 1 24 := by unfold MkT; kernel_rfl
instance : KMk Tryd.prog 22 (.slice none 0 0) 1 24 := ⟨tmk22⟩
theorem tsc22 : ScT Tryd.prog 22 := ⟨_, Tryd.underlying22, rfl⟩
instance : KSc Tryd.prog 22 := ⟨tsc22⟩
theorem tsz24 : SzOf Tryd.prog 24 3 := by unfold SzOf; kernel_rfl
instance : KSz Tryd.prog 24 3 := ⟨tsz24⟩
theorem tmk24 : MkT Tryd.prog 24 (.agg #[.int .i64 0, .slice none 0 0, .slice none 0 0]) 3 56 := by unfold MkT; kernel_rfl
instance : KMk Tryd.prog 24 (.agg #[.int .i64 0, .slice none 0 0, .slice none 0 0]) 3 56 := ⟨tmk24⟩
theorem tag24 : AgT Tryd.prog 24 3 := ⟨⟨_, Tryd.underlying24, rfl⟩, tsz24⟩
instance : KAg Tryd.prog 24 3 := ⟨tag24⟩
theorem tsz26 : SzOf Tryd.prog 26 1 := by unfold SzOf; kernel_rfl
instance : KSz Tryd.prog 26 1 := ⟨tsz26⟩
theorem tmk26 : MkT Tryd.prog 26 (.int .i64 0) 1 8 := by unfold MkT; kernel_rfl
instance : KMk Tryd.prog 26 (.int .i64 0) 1 8 := ⟨tmk26⟩
theorem tsc26 : ScT Tryd.prog 26 := ⟨_, Tryd.underlying26, rfl⟩
instance : KSc Tryd.prog 26 := ⟨tsc26⟩
theorem tsz29 : SzOf Tryd.prog 29 1 := by unfold SzOf; kernel_rfl
instance : KSz Tryd.prog 29 1 := ⟨tsz29⟩
theorem tmk29 : MkT Tryd.prog 29 (.slice none 0 0) 1 24 := by unfold MkT; kernel_rfl
instance : KMk Tryd.prog 29 (.slice none 0 0) 1 24 := ⟨tmk29⟩
theorem tsc29 : ScT Tryd.prog 29 := ⟨_, Tryd.underlying29, rfl⟩
instance : KSc Tryd.prog 29 := ⟨tsc29⟩
theorem tsz31 : SzOf Tryd.prog 31 2 := by unfold SzOf; kernel_rfl
instance : KSz Tryd.prog 31 2 := ⟨tsz31⟩
theorem tmk31 : MkT Tryd.prog 31 (.agg #[.int .i64 0, .slice none 0 0]) 2 32 := by unfold MkT; kernel_rfl
instance : KMk Tryd.prog 31 (.agg #[.int .i64 0, .slice none 0 0]) 2 32 := ⟨tmk31⟩
theorem tag31 : AgT Tryd.prog 31 2 := ⟨⟨_, Tryd.underlying31, rfl⟩, tsz31⟩
instance : KAg Tryd.prog 31 2 := ⟨tag31⟩
theorem tsz65 : SzOf Tryd.prog 65 1 := by unfold SzOf; kernel_rfl
instance : KSz Tryd.prog 65 1 := ⟨tsz65⟩
theorem tmk65 : MkT Tryd.prog 65 (.nilFunc) 1 8 := by unfold MkT; kernel_rfl
instance : KMk Tryd.prog 65 (.nilFunc) 1 8 := ⟨tmk65⟩
theorem tsc65 : ScT Tryd.prog 65 := ⟨_, Tryd.underlying65, rfl⟩
instance : KSc Tryd.prog 65 := ⟨tsc65⟩
theorem tsz69 : SzOf Tryd.prog 69 1 := by unfold SzOf; kernel_rfl
instance : KSz Tryd.prog 69 1 := ⟨tsz69⟩
theorem tmk69 : MkT Tryd.prog 69 (.nilFunc) 1 8 := by unfold MkT; kernel_rfl
instance : KMk Tryd.prog 69 (.nilFunc) 1 8 := ⟨tmk69⟩
theorem tsc69 : ScT Tryd.prog 69 := ⟨_, Tryd.underlying69, rfl⟩
instance : KSc Tryd.prog 69 := ⟨tsc69⟩
theorem tsz80 : SzOf Tryd.prog 80 1 := by unfold SzOf; kernel_rfl
instance : KSz Tryd.prog 80 1 := ⟨tsz80⟩
theorem tmk80 : MkT Tryd.prog 80 (.nilFunc) 1 8 := by unfold MkT; kernel_rfl
instance : KMk Tryd.prog 80 (.nilFunc) 1 8 := ⟨tmk80⟩
theorem tsc80 : ScT Tryd.prog 80 := ⟨_, Tryd.underlying80, rfl⟩
instance : KSc Tryd.prog 80 := ⟨tsc80⟩
theorem tsz81 : SzOf Tryd.prog 81 1 := by unfold SzOf; kernel_rfl
instance : KSz Tryd.prog 81 1 := ⟨tsz81⟩
theorem tmk81 : MkT Tryd.prog 81 (.slice none 0 0) 1 24 := by unfold MkT; kernel_rfl
instance : KMk Tryd.prog 81 (.slice none 0 0) 1 24 := ⟨tmk81⟩
theorem tsc81 : ScT Tryd.prog 81 := ⟨_, Tryd.underlying81, rfl⟩
instance : KSc Tryd.prog 81 := ⟨tsc81⟩
theorem tsz83 : SzOf Tryd.prog 83 2 := by unfold SzOf; kernel_rfl
instance : KSz Tryd.prog 83 2 := ⟨tsz83⟩
theorem tmk83 : MkT Tryd.prog 83 (.agg #[.slice none 0 0, .slice none 0 0]) 2 48 := by unfold MkT; kernel_rfl
instance : KMk Tryd.prog 83 (.agg #[.slice none 0 0, .slice none 0 0]) 2 48 := ⟨tmk83⟩
theorem tag83 : AgT Tryd.prog 83 2 := ⟨⟨_, Tryd.underlying83, rfl⟩, tsz83⟩
instance : KAg Tryd.prog 83 2 := ⟨tag83⟩
theorem tsz87 : SzOf Tryd.prog 87 1 := by unfold SzOf; kernel_rfl
instance : KSz Tryd.prog 87 1 := ⟨tsz87⟩
theorem tmk87 : MkT Tryd.prog 87 (.slice none 0 0) 1 24 := by unfold MkT; kernel_rfl
instance : KMk Tryd.prog 87 (.slice none 0 0) 1 24 := ⟨tmk87⟩
theorem tsc87 : ScT Tryd.prog 87 := ⟨_, Tryd.underlying87, rfl⟩
instance : KSc Tryd.prog 87 := ⟨tsc87⟩
theorem tsz89 : SzOf Tryd.prog 89 2 := by unfold SzOf; kernel_rfl
instance : KSz Tryd.prog 89 2 := ⟨tsz89⟩
theorem tmk89 : MkT Tryd.prog 89 (.agg #[.int .i64 0, .int .i64 0]) 2 16 := by unfold MkT; kernel_rfl
instance : KMk Tryd.prog 89 (.agg #[.int .i64 0, .int .i64 0]) 2 16 := ⟨tmk89⟩
theorem tag89 : AgT Tryd.prog 89 2 := ⟨⟨_, Tryd.underlying89, rfl⟩, tsz89⟩
instance : KAg Tryd.prog 89 2 := ⟨tag89⟩
theorem tsz91 : SzOf Tryd.prog 91 1 := by unfold SzOf; kernel_rfl
instance : KSz Tryd.prog 91 1 := ⟨tsz91⟩
theorem tmk91 : MkT Tryd.prog 91 (.slice none 0 0) 1 24 := by unfold MkT; kernel_rfl
instance : KMk Tryd.prog 91 (.slice none 0 0) 1 24 := ⟨tmk91⟩
theorem tsc91 : ScT Tryd.prog 91 := ⟨_, Tryd.underlying91, rfl⟩
instance : KSc Tryd.prog 91 := ⟨tsc91⟩
theorem tsz94 : SzOf Tryd.prog 94 1 := by unfold SzOf; kernel_rfl
instance : KSz Tryd.prog 94 1 := ⟨tsz94⟩
theorem tmk94 : MkT Tryd.prog 94 (.nilFunc) 1 8 := by unfold MkT; kernel_rfl
instance : KMk Tryd.prog 94 (.nilFunc) 1 8 := ⟨tmk94⟩
theorem tsc94 : ScT Tryd.prog 94 := ⟨_, Tryd.underlying94, rfl⟩
instance : KSc Tryd.prog 94 := ⟨tsc94⟩
theorem tsz95 : SzOf Tryd.prog 95 1 := by unfold SzOf; kernel_rfl
instance : KSz Tryd.prog 95 1 := ⟨tsz95⟩
theorem tmk95 : MkT Tryd.prog 95 (.int .u64 0) 1 8 := by unfold MkT; kernel_rfl
instance : KMk Tryd.prog 95 (.int .u64 0) 1 8 := ⟨tmk95⟩
theorem tsc95 : ScT Tryd.prog 95 := ⟨_, Tryd.underlying95, rfl⟩
instance : KSc Tryd.prog 95 := ⟨tsc95⟩
theorem tsz99 : SzOf Tryd.prog 99 1 := by unfold SzOf; kernel_rfl
instance : KSz Tryd.prog 99 1 := ⟨tsz99⟩
theorem tmk99 : MkT Tryd.prog 99 (.int .u32 0) 1 4 := by unfold MkT; kernel_rfl
instance : KMk Tryd.prog 99 (.int .u32 0) 1 4 := ⟨tmk99⟩
theorem tsc99 : ScT Tryd.prog 99 := ⟨_, Tryd.underlying99, rfl⟩
instance : KSc Tryd.prog 99 := ⟨tsc99⟩
theorem tsz101 : SzOf Tryd.prog 101 1 := by unfold SzOf; kernel_rfl
instance : KSz Tryd.prog 101 1 := ⟨tsz101⟩
theorem tmk101 : MkT Tryd.prog 101 (.int .u64 0) 1 8 := by unfold MkT; kernel_rfl
instance : KMk Tryd.prog 101 (.int .u64 0) 1 8 := ⟨tmk101⟩
theorem tsc101 : ScT Tryd.prog 101 := ⟨_, Tryd.underlying101, rfl⟩
instance : KSc Tryd.prog 101 := ⟨tsc101⟩
theorem tsz102 : SzOf Tryd.prog 102 32 := by unfold SzOf; kernel_rfl
instance : KSz Tryd.prog 102 32 := ⟨tsz102⟩
theorem tmk102 : MkT Tryd.prog 102 (.agg #[.int .u8 0, .int .u8 0, .int .u8 0, .int .u8 0, .int .u8 0, .int .u8 0, .int .u8 0, .int .u8 0, .int .u8 0, .int .u8 0, .int .u8 0, .int .u8 0, .int .u8 0, .int .u8 0, .int .u8 0, .int .u8 0, .int .u8 0, .int .u8 0, .int .u8 0, .int .u8 0, .int .u8 0, .int .u8 0, .int .u8 0, .int .u8 0, .int .u8 0, .int .u8 0, .int .u8 0, .int .u8 0, .int .u8 0, .int .u8 0, .int .u8 0, .int .u8 0]) 32 32 := by unfold MkT; kernel_rfl
instance : KMk Tryd.prog 102 (.agg #[.int .u8 0, .int .u8 0, .int .u8 0, .int .u8 0, .int .u8 0, .int .u8 0, .int .u8 0, .int .u8 0, .int .u8 0, .int .u8 0, .int .u8 0, .int .u8 0, .int .u8 0, .int .u8 0, .int .u8 0, .int .u8 0, .int .u8 0, .int .u8 0, .int .u8 0, .int .u8 0, .int .u8 0, .int .u8 0, .int .u8 0, .int .u8 0, .int .u8 0, .int .u8 0, .int .u8 0, .int .u8 0, .int .u8 0, .int .u8 0, .int .u8 0, .int .u8 0]) 32 32 := ⟨tmk102⟩
theorem tag102 : AgT Tryd.prog 102 32 := ⟨⟨_, Tryd.underlying102, rfl⟩, tsz102⟩
instance : KAg Tryd.prog 102 32 := ⟨tag102⟩
theorem tsz103 : SzOf Tryd.prog 103 64 := by unfold SzOf; kernel_rfl
instance : KSz Tryd.prog 103 64 := ⟨tsz103⟩
theorem tmk103 : MkT Tryd.prog 103 (.agg #[.int .u8 0, .int .u8 0, .int .u8 0, .int .u8 0, .int .u8 0, .int .u8 0, .int .u8 0, .int .u8 0, .int .u8 0, .int .u8 0, .int .u8 0, .int .u8 0, .int .u8 0, .int .u8 0, .int .u8 0, .int .u8 0, .int .u8 0, .int .u8 0, .int .u8 0, .int .u8 0, .int .u8 0, .int .u8 0, .int .u8 0, .int .u8 0, .int .u8 0, .int .u8 0, .int .u8 0, .int .u8 0, .int .u8 0, .int .u8 0, .int .u8 0, .int .u8 0, .int .u8 0, .int .u8 0, .int .u8 0, .int .u8 0, .int .u8 0, .int .u8 0, .int .u8 0, .int .u8 0, .int .u8 0, .int .u8 0, .int .u8 0, .int .u8 0, .int .u8 0, .int .u8 0, .int .u8 0, .int .u8 0, .int .u8 0, .int .u8 0, .int .u8 0, .int .u8 0, .int .u8 0, .int .u8 0, .int .u8 0, .int .u8 0, .int .u8 0, .int .u8 0, .int .u8 0, .int .u8 0, .int .u8 0, .int .u8 0, .int .u8 0, .int .u8 0]) 64 64 := by unfold MkT; kernel_rfl
instance : KMk Tryd.prog 103 (.agg #[.int .u8 0, .int .u8 0, .int .u8 0, .int .u8 0, .int .u8 0, .int .u8 0, .int .u8 0, .int .u8 0, .int .u8 0, .int .u8 0, .int .u8 0, .int .u8 0, .int .u8 0, .int .u8 0, .int .u8 0, .int .u8 0, .int .u8 0, .int .u8 0, .int .u8 0, .int .u8 0, .int .u8 0, .int .u8 0, .int .u8 0, .int .u8 0, .int .u8 0, .int .u8 0, .int .u8 0, .int .u8 0, .int .u8 0, .int .u8 0, .int .u8 0, .int .u8 0, .int .u8 0, .int .u8 0, .int .u8 0, .int .u8 0, .int .u8 0, .int .u8 0, .int .u8 0, .int .u8 0, .int .u8 0, .int .u8 0, .int .u8 0, .int .u8 0, .int .u8 0, .int .u8 0, .int .u8 0, .int .u8 0, .int .u8 0, .int .u8 0, .int .u8 0, .int .u8 0, .int .u8 0, .int .u8 0, .int .u8 0, .int .u8 0, .int .u8 0, .int .u8 0, .int .u8 0, .int .u8 0, .int .u8 0, .int .u8 0, .int .u8 0, .int .u8 0]) 64 64 := ⟨tmk103⟩
theorem tag103 : AgT Tryd.prog 103 64 := ⟨⟨_, Tryd.underlying103, rfl⟩, tsz103⟩
instance : KAg Tryd.prog 103 64 := ⟨tag103⟩
theorem tsl22 : SlT Tryd.prog 22 29 1 := ⟨Tryd.underlying22, tsz29⟩
instance : KSl Tryd.prog 22 29 1 := ⟨tsl22⟩
theorem tfl24_0 : FlT Tryd.prog 24 0 0 := ⟨_, _, 0, Tryd.underlying24, rfl, tsz3, rfl⟩
instance : KFl Tryd.prog 24 0 0 := ⟨tfl24_0⟩
theorem tfl24_1 : FlT Tryd.prog 24 1 1 := ⟨_, _, 0, Tryd.underlying24, rfl, tsz22, rfl⟩
instance : KFl Tryd.prog 24 1 1 := ⟨tfl24_1⟩
theorem tfl24_2 : FlT Tryd.prog 24 2 2 := ⟨_, _, 0, Tryd.underlying24, rfl, tsz22, rfl⟩
instance : KFl Tryd.prog 24 2 2 := ⟨tfl24_2⟩
theorem tbd24 : BdT Tryd.prog 24 [.int .i64 0, .slice none 0 0, .slice none 0 0] (fun i => ([(0, 1), (1, 1), (2, 1)] : List (Nat × Nat))[i]?) := .struct Tryd.underlying24 tmk24 rfl (szs := [1, 1, 1]) (by kernel_rfl)
instance : KBd Tryd.prog 24 [.int .i64 0, .slice none 0 0, .slice none 0 0] (fun i => ([(0, 1), (1, 1), (2, 1)] : List (Nat × Nat))[i]?) := ⟨tbd24⟩
theorem tsl29 : SlT Tryd.prog 29 3 1 := ⟨Tryd.underlying29, tsz3⟩
instance : KSl Tryd.prog 29 3 1 := ⟨tsl29⟩
theorem tfl31_0 : FlT Tryd.prog 31 0 0 := ⟨_, _, 0, Tryd.underlying31, rfl, tsz3, rfl⟩
instance : KFl Tryd.prog 31 0 0 := ⟨tfl31_0⟩
theorem tfl31_1 : FlT Tryd.prog 31 1 1 := ⟨_, _, 0, Tryd.underlying31, rfl, tsz29, rfl⟩
instance : KFl Tryd.prog 31 1 1 := ⟨tfl31_1⟩
theorem tbd31 : BdT Tryd.prog 31 [.int .i64 0, .slice none 0 0] (fun i => ([(0, 1), (1, 1)] : List (Nat × Nat))[i]?) := .struct Tryd.underlying31 tmk31 rfl (szs := [1, 1]) (by kernel_rfl)
instance : KBd Tryd.prog 31 [.int .i64 0, .slice none 0 0] (fun i => ([(0, 1), (1, 1)] : List (Nat × Nat))[i]?) := ⟨tbd31⟩
theorem tsl81 : SlT Tryd.prog 81 22 1 := ⟨Tryd.underlying81, tsz22⟩
instance : KSl Tryd.prog 81 22 1 := ⟨tsl81⟩
theorem tar83 : ArT Tryd.prog 83 2 22 1 := ⟨Tryd.underlying83, tsz22⟩
instance : KAr Tryd.prog 83 2 22 1 := ⟨tar83⟩
theorem tbd83 : BdT Tryd.prog 83 [.slice none 0 0, .slice none 0 0] (fun i => some (i * 1, 1)) := .array tar83 tmk83 rfl
instance : KBd Tryd.prog 83 [.slice none 0 0, .slice none 0 0] (fun i => some (i * 1, 1)) := ⟨tbd83⟩
theorem tsl87 : SlT Tryd.prog 87 89 2 := ⟨Tryd.underlying87, tsz89⟩
instance : KSl Tryd.prog 87 89 2 := ⟨tsl87⟩
instance : KEqP Tryd.prog 89 := ⟨3, ⟨Tryd.underlying89, tsz3⟩, Tryd.underlying3, by kernel_rfl⟩
theorem tar89 : ArT Tryd.prog 89 2 3 1 := ⟨Tryd.underlying89, tsz3⟩
instance : KAr Tryd.prog 89 2 3 1 := ⟨tar89⟩
theorem tbd89 : BdT Tryd.prog 89 [.int .i64 0, .int .i64 0] (fun i => some (i * 1, 1)) := .array tar89 tmk89 rfl
instance : KBd Tryd.prog 89 [.int .i64 0, .int .i64 0] (fun i => some (i * 1, 1)) := ⟨tbd89⟩
theorem tsl91 : SlT Tryd.prog 91 31 2 := ⟨Tryd.underlying91, tsz31⟩
instance : KSl Tryd.prog 91 31 2 := ⟨tsl91⟩
theorem tar102 : ArT Tryd.prog 102 32 5 1 := ⟨Tryd.underlying102, tsz5⟩
instance : KAr Tryd.prog 102 32 5 1 := ⟨tar102⟩
theorem tbd102 : BdT Tryd.prog 102 [.int .u8 0, .int .u8 0, .int .u8 0, .int .u8 0, .int .u8 0, .int .u8 0, .int .u8 0, .int .u8 0, .int .u8 0, .int .u8 0, .int .u8 0, .int .u8 0, .int .u8 0, .int .u8 0, .int .u8 0, .int .u8 0, .int .u8 0, .int .u8 0, .int .u8 0, .int .u8 0, .int .u8 0, .int .u8 0, .int .u8 0, .int .u8 0, .int .u8 0, .int .u8 0, .int .u8 0, .int .u8 0, .int .u8 0, .int .u8 0, .int .u8 0, .int .u8 0] (fun i => some (i * 1, 1)) := .array tar102 tmk102 rfl
instance : KBd Tryd.prog 102 [.int .u8 0, .int .u8 0, .int .u8 0, .int .u8 0, .int .u8 0, .int .u8 0, .int .u8 0, .int .u8 0, .int .u8 0, .int .u8 0, .int .u8 0, .int .u8 0, .int .u8 0, .int .u8 0, .int .u8 0, .int .u8 0, .int .u8 0, .int .u8 0, .int .u8 0, .int .u8 0, .int .u8 0, .int .u8 0, .int .u8 0, .int .u8 0, .int .u8 0, .int .u8 0, .int .u8 0, .int .u8 0, .int .u8 0, .int .u8 0, .int .u8 0, .int .u8 0] (fun i => some (i * 1, 1)) := ⟨tbd102⟩
theorem tar103 : ArT Tryd.prog 103 64 5 1 := ⟨Tryd.underlying103, tsz5⟩
instance : KAr Tryd.prog 103 64 5 1 := ⟨tar103⟩
theorem tbd103 : BdT Tryd.prog 103 [.int .u8 0, .int .u8 0, .int .u8 0, .int .u8 0, .int .u8 0, .int .u8 0, .int .u8 0, .int .u8 0, .int .u8 0, .int .u8 0, .int .u8 0, .int .u8 0, .int .u8 0, .int .u8 0, .int .u8 0, .int .u8 0, .int .u8 0, .int .u8 0, .int .u8 0, .int .u8 0, .int .u8 0, .int .u8 0, .int .u8 0, .int .u8 0, .int .u8 0, .int .u8 0, .int .u8 0, .int .u8 0, .int .u8 0, .int .u8 0, .int .u8 0, .int .u8 0, .int .u8 0, .int .u8 0, .int .u8 0, .int .u8 0, .int .u8 0, .int .u8 0, .int .u8 0, .int .u8 0, .int .u8 0, .int .u8 0, .int .u8 0, .int .u8 0, .int .u8 0, .int .u8 0, .int .u8 0, .int .u8 0, .int .u8 0, .int .u8 0, .int .u8 0, .int .u8 0, .int .u8 0, .int .u8 0, .int .u8 0, .int .u8 0, .int .u8 0, .int .u8 0, .int .u8 0, .int .u8 0, .int .u8 0, .int .u8 0, .int .u8 0, .int .u8 0] (fun i => some (i * 1, 1)) := .array tar103 tmk103 rfl
instance : KBd Tryd.prog 103 [.int .u8 0, .int .u8 0, .int .u8 0, .int .u8 0, .int .u8 0, .int .u8 0, .int .u8 0, .int .u8 0, .int .u8 0, .int .u8 0, .int .u8 0, .int .u8 0, .int .u8 0, .int .u8 0, .int .u8 0, .int .u8 0, .int .u8 0, .int .u8 0, .int .u8 0, .int .u8 0, .int .u8 0, .int .u8 0, .int .u8 0, .int .u8 0, .int .u8 0, .int .u8 0, .int .u8 0, .int .u8 0, .int .u8 0, .int .u8 0, .int .u8 0, .int .u8 0, .int .u8 0, .int .u8 0, .int .u8 0, .int .u8 0, .int .u8 0, .int .u8 0, .int .u8 0, .int .u8 0, .int .u8 0, .int .u8 0, .int .u8 0, .int .u8 0, .int .u8 0, .int .u8 0, .int .u8 0, .int .u8 0, .int .u8 0, .int .u8 0, .int .u8 0, .int .u8 0, .int .u8 0, .int .u8 0, .int .u8 0, .int .u8 0, .int .u8 0, .int .u8 0, .int .u8 0, .int .u8 0, .int .u8 0, .int .u8 0, .int .u8 0, .int .u8 0] (fun i => some (i * 1, 1)) := ⟨tbd103⟩

end Go.Proofs.YtjpjmcfhhjdkpaaDoor
