/- Facts on the types of this program, each closed. -/
import Derived.Test.YtdieojemgkfklaaDoorEngT
import Derived.Test.YtdieojemgkfklaaDoorRows
import Derived.KernelRfl
namespace Go.Proofs.YtdieojemgkfklaaDoor

theorem tsz3 : SzOf Tryd.prog 3 1 := by unfold SzOf; kernel_rfl
instance : KSz Tryd.prog 3 1 := ⟨tsz3⟩
theorem tmk3 : MkT Tryd.prog 3 (.int .i64 0) 1 8 := by unfold MkT; kernel_rfl
instance : KMk Tryd.prog 3 (.int .i64 0) 1 8 := ⟨tmk3⟩
theorem tsc3 : ScT Tryd.prog 3 := ⟨_, Tryd.underlying3, rfl⟩
instance : KSc Tryd.prog 3 := ⟨tsc3⟩
theorem tsz4 : SzOf Tryd.prog 4 1 := by unfold SzOf; kernel_rfl
instance : KSz Tryd.prog 4 1 := ⟨tsz4⟩
theorem tmk4 : MkT Tryd.prog 4 (.bool false) 1 1 := by unfold MkT; kernel_rfl
instance : KMk Tryd.prog 4 (.bool false) 1 1 := ⟨tmk4⟩
instance : KBo Tryd.prog 4 := ⟨Tryd.underlying4⟩
theorem tsc4 : ScT Tryd.prog 4 := ⟨_, Tryd.underlying4, rfl⟩
instance : KSc Tryd.prog 4 := ⟨tsc4⟩
theorem tsz5 : SzOf Tryd.prog 5 1 := by unfold SzOf; kernel_rfl
instance : KSz Tryd.prog 5 1 := ⟨tsz5⟩
theorem tmk5 : MkT Tryd.prog 5 (.int .u8 0) 1 1 := by unfold MkT; kernel_rfl
instance : KMk Tryd.prog 5 (.int .u8 0) 1 1 := ⟨tmk5⟩
theorem tsc5 : ScT Tryd.prog 5 := ⟨_, Tryd.underlying5, rfl⟩
instance : KSc Tryd.prog 5 := ⟨tsc5⟩
theorem tsz9 : SzOf Tryd.prog 9 1 := by unfold SzOf; kernel_rfl
instance : KSz Tryd.prog 9 1 := ⟨tsz9⟩
theorem tmk9 : MkT Tryd.prog 9 (.string ⟨#[]⟩) 1 16 := by unfold MkT; kernel_rfl
instance : KMk Tryd.prog 9 (.string ⟨#[]⟩) 1 16 := ⟨tmk9⟩
theorem tsc9 : ScT Tryd.prog 9 := ⟨_, Tryd.underlying9, rfl⟩
instance : KSc Tryd.prog 9 := ⟨tsc9⟩
theorem tsz22 : SzOf Tryd.prog 22 1 := by unfold SzOf; kernel_rfl
instance : KSz Tryd.prog 22 1 := ⟨tsz22⟩
theorem tmk22 : MkT Tryd.prog 22 (.slice none 0 0) 1 24 := by unfold MkT; kernel_rfl
instance : KMk Tryd.prog 22 (.slice none 0 0) 1 24 := ⟨tmk22⟩
theorem tsc22 : ScT Tryd.prog 22 := ⟨_, Tryd.underlying22, rfl⟩
instance : KSc Tryd.prog 22 := ⟨tsc22⟩
theorem tsz24 : SzOf Tryd.prog 24 2 := by unfold SzOf; kernel_rfl
instance : KSz Tryd.prog 24 2 := ⟨tsz24⟩
theorem tmk24 : MkT Tryd.prog 24 (.agg #[.int .i64 0, .slice none 0 0]) 2 32 := by unfold MkT; kernel_rfl
instance : KMk Tryd.prog 24 (.agg #[.int .i64 0, .slice none 0 0]) 2 32 := ⟨tmk24⟩
theorem tag24 : AgT Tryd.prog 24 2 := ⟨⟨_, Tryd.underlying24, rfl⟩, tsz24⟩
instance : KAg Tryd.prog 24 2 := ⟨tag24⟩
theorem tsz26 : SzOf Tryd.prog 26 1 := by unfold SzOf; kernel_rfl
instance : KSz Tryd.prog 26 1 := ⟨tsz26⟩
theorem tmk26 : MkT Tryd.prog 26 (.slice none 0 0) 1 24 := by unfold MkT; kernel_rfl
instance : KMk Tryd.prog 26 (.slice none 0 0) 1 24 := ⟨tmk26⟩
theorem tsc26 : ScT Tryd.prog 26 := ⟨_, Tryd.underlying26, rfl⟩
instance : KSc Tryd.prog 26 := ⟨tsc26⟩
theorem tsz28 : SzOf Tryd.prog 28 3 := by unfold SzOf; kernel_rfl
instance : KSz Tryd.prog 28 3 := ⟨tsz28⟩
theorem tmk28 : MkT Tryd.prog 28 (.agg #[.int .i64 0, .slice none 0 0, .slice none 0 0]) 3 56 := by unfold MkT; kernel_rfl
instance : KMk Tryd.prog 28 (.agg #[.int .i64 0, .slice none 0 0, .slice none 0 0]) 3 56 := ⟨tmk28⟩
theorem tag28 : AgT Tryd.prog 28 3 := ⟨⟨_, Tryd.underlying28, rfl⟩, tsz28⟩
instance : KAg Tryd.prog 28 3 := ⟨tag28⟩
theorem tsz29 : SzOf Tryd.prog 29 1 := by unfold SzOf; kernel_rfl
instance : KSz Tryd.prog 29 1 := ⟨tsz29⟩
theorem tmk29 : MkT Tryd.prog 29 (.int .i64 0) 1 8 := by unfold MkT; kernel_rfl
instance : KMk Tryd.prog 29 (.int .i64 0) 1 8 := ⟨tmk29⟩
theorem tsc29 : ScT Tryd.prog 29 := ⟨_, Tryd.underlying29, rfl⟩
instance : KSc Tryd.prog 29 := ⟨tsc29⟩
theorem tsz53 : SzOf Tryd.prog 53 1 := by unfold SzOf; kernel_rfl
instance : KSz Tryd.prog 53 1 := ⟨tsz53⟩
theorem tmk53 : MkT Tryd.prog 53 (.nilFunc) 1 8 := by unfold MkT; kernel_rfl
instance : KMk Tryd.prog 53 (.nilFunc) 1 8 := ⟨tmk53⟩
theorem tsc53 : ScT Tryd.prog 53 := ⟨_, Tryd.underlying53, rfl⟩
instance : KSc Tryd.prog 53 := ⟨tsc53⟩
theorem tsz86 : SzOf Tryd.prog 86 1 := by unfold SzOf; kernel_rfl
instance : KSz Tryd.prog 86 1 := ⟨tsz86⟩
theorem tmk86 : MkT Tryd.prog 86 (.nilFunc) 1 8 := by unfold MkT; kernel_rfl
instance : KMk Tryd.prog 86 (.nilFunc) 1 8 := ⟨tmk86⟩
theorem tsc86 : ScT Tryd.prog 86 := ⟨_, Tryd.underlying86, rfl⟩
instance : KSc Tryd.prog 86 := ⟨tsc86⟩
theorem tsz95 : SzOf Tryd.prog 95 1 := by unfold SzOf; kernel_rfl
instance : KSz Tryd.prog 95 1 := ⟨tsz95⟩
theorem tmk95 : MkT Tryd.prog 95 (.slice none 0 0) 1 24 := by unfold MkT; kernel_rfl
instance : KMk Tryd.prog 95 (.slice none 0 0) 1 24 := ⟨tmk95⟩
theorem tsc95 : ScT Tryd.prog 95 := ⟨_, Tryd.underlying95, rfl⟩
instance : KSc Tryd.prog 95 := ⟨tsc95⟩
theorem tsz101 : SzOf Tryd.prog 101 1 := by unfold SzOf; kernel_rfl
instance : KSz Tryd.prog 101 1 := ⟨tsz101⟩
theorem tmk101 : MkT Tryd.prog 101 (.slice none 0 0) 1 24 := by unfold MkT; kernel_rfl
instance : KMk Tryd.prog 101 (.slice none 0 0) 1 24 := ⟨tmk101⟩
theorem tsc101 : ScT Tryd.prog 101 := ⟨_, Tryd.underlying101, rfl⟩
instance : KSc Tryd.prog 101 := ⟨tsc101⟩
theorem tsz109 : SzOf Tryd.prog 109 2 := by unfold SzOf; kernel_rfl
instance : KSz Tryd.prog 109 2 := ⟨tsz109⟩
theorem tmk109 : MkT Tryd.prog 109 (.agg #[.int .i64 0, .int .i64 0]) 2 16 := by unfold MkT; kernel_rfl
instance : KMk Tryd.prog 109 (.agg #[.int .i64 0, .int .i64 0]) 2 16 := ⟨tmk109⟩
theorem tag109 : AgT Tryd.prog 109 2 := ⟨⟨_, Tryd.underlying109, rfl⟩, tsz109⟩
instance : KAg Tryd.prog 109 2 := ⟨tag109⟩
theorem tsz111 : SzOf Tryd.prog 111 1 := by unfold SzOf; kernel_rfl
instance : KSz Tryd.prog 111 1 := ⟨tsz111⟩
theorem tmk111 : MkT Tryd.prog 111 (.nilFunc) 1 8 := by unfold MkT; kernel_rfl
instance : KMk Tryd.prog 111 (.nilFunc) 1 8 := ⟨tmk111⟩
theorem tsc111 : ScT Tryd.prog 111 := ⟨_, Tryd.underlying111, rfl⟩
instance : KSc Tryd.prog 111 := ⟨tsc111⟩
theorem tsz112 : SzOf Tryd.prog 112 1 := by unfold SzOf; kernel_rfl
instance : KSz Tryd.prog 112 1 := ⟨tsz112⟩
theorem tmk112 : MkT Tryd.prog 112 (.slice none 0 0) 1 24 := by unfold MkT; kernel_rfl
instance : KMk Tryd.prog 112 (.slice none 0 0) 1 24 := ⟨tmk112⟩
theorem tsc112 : ScT Tryd.prog 112 := ⟨_, Tryd.underlying112, rfl⟩
instance : KSc Tryd.prog 112 := ⟨tsc112⟩
theorem tsz114 : SzOf Tryd.prog 114 2 := by unfold SzOf; kernel_rfl
instance : KSz Tryd.prog 114 2 := ⟨tsz114⟩
theorem tmk114 : MkT Tryd.prog 114 (.agg #[.slice none 0 0, .slice none 0 0]) 2 48 := by unfold MkT; kernel_rfl
instance : KMk Tryd.prog 114 (.agg #[.slice none 0 0, .slice none 0 0]) 2 48 := ⟨tmk114⟩
theorem tag114 : AgT Tryd.prog 114 2 := ⟨⟨_, Tryd.underlying114, rfl⟩, tsz114⟩
instance : KAg Tryd.prog 114 2 := ⟨tag114⟩
theorem tsz117 : SzOf Tryd.prog 117 1 := by unfold SzOf; kernel_rfl
instance : KSz Tryd.prog 117 1 := ⟨tsz117⟩
theorem tmk117 : MkT Tryd.prog 117 (.int .u64 0) 1 8 := by unfold MkT; kernel_rfl
instance : KMk Tryd.prog 117 (.int .u64 0) 1 8 := ⟨tmk117⟩
theorem tsc117 : ScT Tryd.prog 117 := ⟨_, Tryd.underlying117, rfl⟩
instance : KSc Tryd.prog 117 := ⟨tsc117⟩
theorem tsz119 : SzOf Tryd.prog 119 3 := by unfold SzOf; kernel_rfl
instance : KSz Tryd.prog 119 3 := ⟨tsz119⟩
theorem tmk119 : MkT Tryd.prog 119 (.agg #[.int .i64 0, .int .i64 0, .slice none 0 0]) 3 40 := by unfold MkT; kernel_rfl
instance : KMk Tryd.prog 119 (.agg #[.int .i64 0, .int .i64 0, .slice none 0 0]) 3 40 := ⟨tmk119⟩
theorem tag119 : AgT Tryd.prog 119 3 := ⟨⟨_, Tryd.underlying119, rfl⟩, tsz119⟩
instance : KAg Tryd.prog 119 3 := ⟨tag119⟩
theorem tsz123 : SzOf Tryd.prog 123 1 := by unfold SzOf; kernel_rfl
instance : KSz Tryd.prog 123 1 := ⟨tsz123⟩
theorem tmk123 : MkT Tryd.prog 123 (.nilFunc) 1 8 := by unfold MkT; kernel_rfl
instance : KMk Tryd.prog 123 (.nilFunc) 1 8 := ⟨tmk123⟩
theorem tsc123 : ScT Tryd.prog 123 := ⟨_, Tryd.underlying123, rfl⟩
instance : KSc Tryd.prog 123 := ⟨tsc123⟩
theorem tsz126 : SzOf Tryd.prog 126 1 := by unfold SzOf; kernel_rfl
instance : KSz Tryd.prog 126 1 := ⟨tsz126⟩
theorem tmk126 : MkT Tryd.prog 126 (.int .u32 0) 1 4 := by unfold MkT; kernel_rfl
instance : KMk Tryd.prog 126 (.int .u32 0) 1 4 := ⟨tmk126⟩
theorem tsc126 : ScT Tryd.prog 126 := ⟨_, Tryd.underlying126, rfl⟩
instance : KSc Tryd.prog 126 := ⟨tsc126⟩
theorem tsz128 : SzOf Tryd.prog 128 1 := by unfold SzOf; kernel_rfl
instance : KSz Tryd.prog 128 1 := ⟨tsz128⟩
theorem tmk128 : MkT Tryd.prog 128 (.int .u64 0) 1 8 := by unfold MkT; kernel_rfl
instance : KMk Tryd.prog 128 (.int .u64 0) 1 8 := ⟨tmk128⟩
theorem tsc128 : ScT Tryd.prog 128 := ⟨_, Tryd.underlying128, rfl⟩
instance : KSc Tryd.prog 128 := ⟨tsc128⟩
theorem tsz131 : SzOf Tryd.prog 131 6 := by unfold SzOf; kernel_rfl
instance : KSz Tryd.prog 131 6 := ⟨tsz131⟩
theorem tmk131 : MkT Tryd.prog 131 (.agg #[.int .i64 0, .int .i64 0, .slice none 0 0, .slice none 0 0, .slice none 0 0, .int .i64 0]) 6 96 := by unfold MkT; kernel_rfl
instance : KMk Tryd.prog 131 (.agg #[.int .i64 0, .int .i64 0, .slice none 0 0, .slice none 0 0, .slice none 0 0, .int .i64 0]) 6 96 := ⟨tmk131⟩
theorem tag131 : AgT Tryd.prog 131 6 := ⟨⟨_, Tryd.underlying131, rfl⟩, tsz131⟩
instance : KAg Tryd.prog 131 6 := ⟨tag131⟩
theorem tsz132 : SzOf Tryd.prog 132 1 := by unfold SzOf; kernel_rfl
instance : KSz Tryd.prog 132 1 := ⟨tsz132⟩
theorem tmk132 : MkT Tryd.prog 132 (.pointer none) 1 8 := by unfold MkT; kernel_rfl
instance : KMk Tryd.prog 132 (.pointer none) 1 8 := ⟨tmk132⟩
theorem tsc132 : ScT Tryd.prog 132 := ⟨_, Tryd.underlying132, rfl⟩
instance : KSc Tryd.prog 132 := ⟨tsc132⟩
theorem tsz135 : SzOf Tryd.prog 135 32 := by unfold SzOf; kernel_rfl
instance : KSz Tryd.prog 135 32 := ⟨tsz135⟩
theorem tmk135 : MkT Tryd.prog 135 (.agg #[.int .u8 0, .int .u8 0, .int .u8 0, .int .u8 0, .int .u8 0, .int .u8 0, .int .u8 0, .int .u8 0, .int .u8 0, .int .u8 0, .int .u8 0, .int .u8 0, .int .u8 0, .int .u8 0, .int .u8 0, .int .u8 0, .int .u8 0, .int .u8 0, .int .u8 0, .int .u8 0, .int .u8 0, .int .u8 0, .int .u8 0, .int .u8 0, .int .u8 0, .int .u8 0, .int .u8 0, .int .u8 0, .int .u8 0, .int .u8 0, .int .u8 0, .int .u8 0]) 32 32 := by unfold MkT; kernel_rfl
instance : KMk Tryd.prog 135 (.agg #[.int .u8 0, .int .u8 0, .int .u8 0, .int .u8 0, .int .u8 0, .int .u8 0, .int .u8 0, .int .u8 0, .int .u8 0, .int .u8 0, .int .u8 0, .int .u8 0, .int .u8 0, .int .u8 0, .int .u8 0, .int .u8 0, .int .u8 0, .int .u8 0, .int .u8 0, .int .u8 0, .int .u8 0, .int .u8 0, .int .u8 0, .int .u8 0, .int .u8 0, .int .u8 0, .int .u8 0, .int .u8 0, .int .u8 0, .int .u8 0, .int .u8 0, .int .u8 0]) 32 32 := ⟨tmk135⟩
theorem tag135 : AgT Tryd.prog 135 32 := ⟨⟨_, Tryd.underlying135, rfl⟩, tsz135⟩
instance : KAg Tryd.prog 135 32 := ⟨tag135⟩
theorem tsz136 : SzOf Tryd.prog 136 64 := by unfold SzOf; kernel_rfl
instance : KSz Tryd.prog 136 64 := ⟨tsz136⟩
theorem tmk136 : MkT Tryd.prog 136 (.agg #[.int .u8 0, .int .u8 0, .int .u8 0, .int .u8 0, .int .u8 0, .int .u8 0, .int .u8 0, .int .u8 0, .int .u8 0, .int .u8 0, .int .u8 0, .int .u8 0, .int .u8 0, .int .u8 0, .int .u8 0, .int .u8 0, .int .u8 0, .int .u8 0, .int .u8 0, .int .u8 0, .int .u8 0, .int .u8 0, .int .u8 0, .int .u8 0, .int .u8 0, .int .u8 0, .int .u8 0, .int .u8 0, .int .u8 0, .int .u8 0, .int .u8 0, .int .u8 0, .int .u8 0, .int .u8 0, .int .u8 0, .int .u8 0, .int .u8 0, .int .u8 0, .int .u8 0, .int .u8 0, .int .u8 0, .int .u8 0, .int .u8 0, .int .u8 0, .int .u8 0, .int .u8 0, .int .u8 0, .int .u8 0, .int .u8 0, .int .u8 0, .int .u8 0, .int .u8 0, .int .u8 0, .int .u8 0, .int .u8 0, .int .u8 0, .int .u8 0, .int .u8 0, .int .u8 0, .int .u8 0, .int .u8 0, .int .u8 0, .int .u8 0, .int .u8 0]) 64 64 := by unfold MkT; kernel_rfl
instance : KMk Tryd.prog 136 (.agg #[.int .u8 0, .int .u8 0, .int .u8 0, .int .u8 0, .int .u8 0, .int .u8 0, .int .u8 0, .int .u8 0, .int .u8 0, .int .u8 0, .int .u8 0, .int .u8 0, .int .u8 0, .int .u8 0, .int .u8 0, .int .u8 0, .int .u8 0, .int .u8 0, .int .u8 0, .int .u8 0, .int .u8 0, .int .u8 0, .int .u8 0, .int .u8 0, .int .u8 0, .int .u8 0, .int .u8 0, .int .u8 0, .int .u8 0, .int .u8 0, .int .u8 0, .int .u8 0, .int .u8 0, .int .u8 0, .int .u8 0, .int .u8 0, .int .u8 0, .int .u8 0, .int .u8 0, .int .u8 0, .int .u8 0, .int .u8 0, .int .u8 0, .int .u8 0, .int .u8 0, .int .u8 0, .int .u8 0, .int .u8 0, .int .u8 0, .int .u8 0, .int .u8 0, .int .u8 0, .int .u8 0, .int .u8 0, .int .u8 0, .int .u8 0, .int .u8 0, .int .u8 0, .int .u8 0, .int .u8 0, .int .u8 0, .int .u8 0, .int .u8 0, .int .u8 0]) 64 64 := ⟨tmk136⟩
theorem tag136 : AgT Tryd.prog 136 64 := ⟨⟨_, Tryd.underlying136, rfl⟩, tsz136⟩
instance : KAg Tryd.prog 136 64 := ⟨tag136⟩
theorem tsl22 : SlT Tryd.prog 22 3 1 := ⟨Tryd.underlying22, tsz3⟩
instance : KSl Tryd.prog 22 3 1 := ⟨tsl22⟩
theorem tfl24_0 : FlT Tryd.prog 24 0 0 := ⟨_, _, 0, Tryd.underlying24, rfl, tsz3, rfl⟩
instance : KFl Tryd.prog 24 0 0 := ⟨tfl24_0⟩
theorem tfl24_1 : FlT Tryd.prog 24 1 1 := ⟨_, _, 0, Tryd.underlying24, rfl, tsz22, rfl⟩
instance : KFl Tryd.prog 24 1 1 := ⟨tfl24_1⟩
theorem tbd24 : BdT Tryd.prog 24 [.int .i64 0, .slice none 0 0] (fun i => ([(0, 1), (1, 1)] : List (Nat × Nat))[i]?) := .struct Tryd.underlying24 tmk24 rfl (szs := [1, 1]) (by kernel_rfl)
instance : KBd Tryd.prog 24 [.int .i64 0, .slice none 0 0] (fun i => ([(0, 1), (1, 1)] : List (Nat × Nat))[i]?) := ⟨tbd24⟩
theorem tsl26 : SlT Tryd.prog 26 22 1 := ⟨Tryd.underlying26, tsz22⟩
instance : KSl Tryd.prog 26 22 1 := ⟨tsl26⟩
theorem tfl28_0 : FlT Tryd.prog 28 0 0 := ⟨_, _, 0, Tryd.underlying28, rfl, tsz3, rfl⟩
instance : KFl Tryd.prog 28 0 0 := ⟨tfl28_0⟩
theorem tfl28_1 : FlT Tryd.prog 28 1 1 := ⟨_, _, 0, Tryd.underlying28, rfl, tsz26, rfl⟩
instance : KFl Tryd.prog 28 1 1 := ⟨tfl28_1⟩
theorem tfl28_2 : FlT Tryd.prog 28 2 2 := ⟨_, _, 0, Tryd.underlying28, rfl, tsz26, rfl⟩
instance : KFl Tryd.prog 28 2 2 := ⟨tfl28_2⟩
theorem tbd28 : BdT Tryd.prog 28 [.int .i64 0, .slice none 0 0, .slice none 0 0] (fun i => ([(0, 1), (1, 1), (2, 1)] : List (Nat × Nat))[i]?) := .struct Tryd.underlying28 tmk28 rfl (szs := [1, 1, 1]) (by kernel_rfl)
instance : KBd Tryd.prog 28 [.int .i64 0, .slice none 0 0, .slice none 0 0] (fun i => ([(0, 1), (1, 1), (2, 1)] : List (Nat × Nat))[i]?) := ⟨tbd28⟩
theorem tsl95 : SlT Tryd.prog 95 109 2 := ⟨Tryd.underlying95, tsz109⟩
instance : KSl Tryd.prog 95 109 2 := ⟨tsl95⟩
theorem tsl101 : SlT Tryd.prog 101 24 2 := ⟨Tryd.underlying101, tsz24⟩
instance : KSl Tryd.prog 101 24 2 := ⟨tsl101⟩
instance : KEqP Tryd.prog 109 := ⟨3, ⟨Tryd.underlying109, tsz3⟩, Tryd.underlying3, by kernel_rfl⟩
theorem tar109 : ArT Tryd.prog 109 2 3 1 := ⟨Tryd.underlying109, tsz3⟩
instance : KAr Tryd.prog 109 2 3 1 := ⟨tar109⟩
theorem tbd109 : BdT Tryd.prog 109 [.int .i64 0, .int .i64 0] (fun i => some (i * 1, 1)) := .array tar109 tmk109 rfl
instance : KBd Tryd.prog 109 [.int .i64 0, .int .i64 0] (fun i => some (i * 1, 1)) := ⟨tbd109⟩
theorem tsl112 : SlT Tryd.prog 112 26 1 := ⟨Tryd.underlying112, tsz26⟩
instance : KSl Tryd.prog 112 26 1 := ⟨tsl112⟩
theorem tar114 : ArT Tryd.prog 114 2 26 1 := ⟨Tryd.underlying114, tsz26⟩
instance : KAr Tryd.prog 114 2 26 1 := ⟨tar114⟩
theorem tbd114 : BdT Tryd.prog 114 [.slice none 0 0, .slice none 0 0] (fun i => some (i * 1, 1)) := .array tar114 tmk114 rfl
instance : KBd Tryd.prog 114 [.slice none 0 0, .slice none 0 0] (fun i => some (i * 1, 1)) := ⟨tbd114⟩
theorem tfl119_0 : FlT Tryd.prog 119 0 0 := ⟨_, _, 0, Tryd.underlying119, rfl, tsz3, rfl⟩
instance : KFl Tryd.prog 119 0 0 := ⟨tfl119_0⟩
theorem tfl119_1 : FlT Tryd.prog 119 1 1 := ⟨_, _, 0, Tryd.underlying119, rfl, tsz3, rfl⟩
instance : KFl Tryd.prog 119 1 1 := ⟨tfl119_1⟩
theorem tfl119_2 : FlT Tryd.prog 119 2 2 := ⟨_, _, 0, Tryd.underlying119, rfl, tsz22, rfl⟩
instance : KFl Tryd.prog 119 2 2 := ⟨tfl119_2⟩
theorem tbd119 : BdT Tryd.prog 119 [.int .i64 0, .int .i64 0, .slice none 0 0] (fun i => ([(0, 1), (1, 1), (2, 1)] : List (Nat × Nat))[i]?) := .struct Tryd.underlying119 tmk119 rfl (szs := [1, 1, 1]) (by kernel_rfl)
instance : KBd Tryd.prog 119 [.int .i64 0, .int .i64 0, .slice none 0 0] (fun i => ([(0, 1), (1, 1), (2, 1)] : List (Nat × Nat))[i]?) := ⟨tbd119⟩
theorem tfl131_0 : FlT Tryd.prog 131 0 0 := ⟨_, _, 2, Tryd.underlying131, rfl, tsz119, rfl⟩
instance : KFl Tryd.prog 131 0 0 := ⟨tfl131_0⟩
theorem tfl131_1 : FlT Tryd.prog 131 1 3 := ⟨_, _, 0, Tryd.underlying131, rfl, tsz22, rfl⟩
instance : KFl Tryd.prog 131 1 3 := ⟨tfl131_1⟩
theorem tfl131_2 : FlT Tryd.prog 131 2 4 := ⟨_, _, 0, Tryd.underlying131, rfl, tsz22, rfl⟩
instance : KFl Tryd.prog 131 2 4 := ⟨tfl131_2⟩
theorem tfl131_3 : FlT Tryd.prog 131 3 5 := ⟨_, _, 0, Tryd.underlying131, rfl, tsz3, rfl⟩
instance : KFl Tryd.prog 131 3 5 := ⟨tfl131_3⟩
theorem tbd131 : BdT Tryd.prog 131 [.int .i64 0, .int .i64 0, .slice none 0 0, .slice none 0 0, .slice none 0 0, .int .i64 0] (fun i => ([(0, 3), (3, 1), (4, 1), (5, 1)] : List (Nat × Nat))[i]?) := .struct Tryd.underlying131 tmk131 rfl (szs := [3, 1, 1, 1]) (by kernel_rfl)
instance : KBd Tryd.prog 131 [.int .i64 0, .int .i64 0, .slice none 0 0, .slice none 0 0, .slice none 0 0, .int .i64 0] (fun i => ([(0, 3), (3, 1), (4, 1), (5, 1)] : List (Nat × Nat))[i]?) := ⟨tbd131⟩
theorem tar135 : ArT Tryd.prog 135 32 5 1 := ⟨Tryd.underlying135, tsz5⟩
instance : KAr Tryd.prog 135 32 5 1 := ⟨tar135⟩
theorem tbd135 : BdT Tryd.prog 135 [.int .u8 0, .int .u8 0, .int .u8 0, .int .u8 0, .int .u8 0, .int .u8 0, .int .u8 0, .int .u8 0, .int .u8 0, .int .u8 0, .int .u8 0, .int .u8 0, .int .u8 0, .int .u8 0, .int .u8 0, .int .u8 0, .int .u8 0, .int .u8 0, .int .u8 0, .int .u8 0, .int .u8 0, .int .u8 0, .int .u8 0, .int .u8 0, .int .u8 0, .int .u8 0, .int .u8 0, .int .u8 0, .int .u8 0, .int .u8 0, .int .u8 0, .int .u8 0] (fun i => some (i * 1, 1)) := .array tar135 tmk135 rfl
instance : KBd Tryd.prog 135 [.int .u8 0, .int .u8 0, .int .u8 0, .int .u8 0, .int .u8 0, .int .u8 0, .int .u8 0, .int .u8 0, .int .u8 0, .int .u8 0, .int .u8 0, .int .u8 0, .int .u8 0, .int .u8 0, .int .u8 0, .int .u8 0, .int .u8 0, .int .u8 0, .int .u8 0, .int .u8 0, .int .u8 0, .int .u8 0, .int .u8 0, .int .u8 0, .int .u8 0, .int .u8 0, .int .u8 0, .int .u8 0, .int .u8 0, .int .u8 0, .int .u8 0, .int .u8 0] (fun i => some (i * 1, 1)) := ⟨tbd135⟩
theorem tar136 : ArT Tryd.prog 136 64 5 1 := ⟨Tryd.underlying136, tsz5⟩
instance : KAr Tryd.prog 136 64 5 1 := ⟨tar136⟩
theorem tbd136 : BdT Tryd.prog 136 [.int .u8 0, .int .u8 0, .int .u8 0, .int .u8 0, .int .u8 0, .int .u8 0, .int .u8 0, .int .u8 0, .int .u8 0, .int .u8 0, .int .u8 0, .int .u8 0, .int .u8 0, .int .u8 0, .int .u8 0, .int .u8 0, .int .u8 0, .int .u8 0, .int .u8 0, .int .u8 0, .int .u8 0, .int .u8 0, .int .u8 0, .int .u8 0, .int .u8 0, .int .u8 0, .int .u8 0, .int .u8 0, .int .u8 0, .int .u8 0, .int .u8 0, .int .u8 0, .int .u8 0, .int .u8 0, .int .u8 0, .int .u8 0, .int .u8 0, .int .u8 0, .int .u8 0, .int .u8 0, .int .u8 0, .int .u8 0, .int .u8 0, .int .u8 0, .int .u8 0, .int .u8 0, .int .u8 0, .int .u8 0, .int .u8 0, .int .u8 0, .int .u8 0, .int .u8 0, .int .u8 0, .int .u8 0, .int .u8 0, .int .u8 0, .int .u8 0, .int .u8 0, .int .u8 0, .int .u8 0, .int .u8 0, .int .u8 0, .int .u8 0, .int .u8 0] (fun i => some (i * 1, 1)) := .array tar136 tmk136 rfl
instance : KBd Tryd.prog 136 [.int .u8 0, .int .u8 0, .int .u8 0, .int .u8 0, .int .u8 0, .int .u8 0, .int .u8 0, .int .u8 0, .int .u8 0, .int .u8 0, .int .u8 0, .int .u8 0, .int .u8 0, .int .u8 0, .int .u8 0, .int .u8 0, .int .u8 0, .int .u8 0, .int .u8 0, .int .u8 0, .int .u8 0, .int .u8 0, .int .u8 0, .int .u8 0, .int .u8 0, .int .u8 0, .int .u8 0, .int .u8 0, .int .u8 0, .int .u8 0, .int .u8 0, .int .u8 0, .int .u8 0, .int .u8 0, .int .u8 0, .int .u8 0, .int .u8 0, .int .u8 0, .int .u8 0, .int .u8 0, .int .u8 0, .int .u8 0, .int .u8 0, .int .u8 0, .int .u8 0, .int .u8 0, .int .u8 0, .int .u8 0, .int .u8 0, .int .u8 0, .int .u8 0, .int .u8 0, .int .u8 0, .int .u8 0, .int .u8 0, .int .u8 0, .int .u8 0, .int .u8 0, .int .u8 0, .int .u8 0, .int .u8 0, .int .u8 0, .int .u8 0, .int .u8 0] (fun i => some (i * 1, 1)) := ⟨tbd136⟩

end Go.Proofs.YtdieojemgkfklaaDoor
