/- Facts on the types of this program, each closed. -/
import Derived.Test.YtlihpalpkdgclaaDoorEngT
import Derived.Test.YtlihpalpkdgclaaDoorEngZp
import Derived.Test.YtlihpalpkdgclaaDoorRows
import Derived.KernelRfl
namespace Go.Proofs.YtlihpalpkdgclaaDoor

theorem tsz3 : SzOf Tryd.prog 3 1 := by unfold SzOf; kernel_rfl
instance : KSz Tryd.prog 3 1 := ⟨tsz3⟩
theorem tmk3 : MkT Tryd.prog 3 (.int .i64 0) 1 8 := by unfold MkT; kernel_rfl
instance : KMk Tryd.prog 3 (.int .i64 0) 1 8 := ⟨tmk3⟩
theorem tsc3 : ScT Tryd.prog 3 := ⟨_, Tryd.underlying3, rfl⟩
instance : KSc Tryd.prog 3 := ⟨tsc3⟩
theorem tsz4 : SzOf Tryd.prog 4 1 := by unfold SzOf; kernel_rfl
instance : KSz Tryd.prog 4 1 := ⟨tsz4⟩
theorem tmk4 : MkT Tryd.prog 4 (.bool false) 1 1 := by unfold MkT; kernel_rfl
instance : KMk Tryd.prog 4 (.bool false) 1 1 := ⟨tmk4⟩
instance : KBo Tryd.prog 4 := ⟨Tryd.underlying4⟩
theorem tsc4 : ScT Tryd.prog 4 := ⟨_, Tryd.underlying4, rfl⟩
instance : KSc Tryd.prog 4 := ⟨tsc4⟩
theorem tsz5 : SzOf Tryd.prog 5 1 := by unfold SzOf; kernel_rfl
instance : KSz Tryd.prog 5 1 := ⟨tsz5⟩
theorem tmk5 : MkT Tryd.prog 5 (.int .u8 0) 1 1 := by unfold MkT; kernel_rfl
instance : KMk Tryd.prog 5 (.int .u8 0) 1 1 := ⟨tmk5⟩
theorem tsc5 : ScT Tryd.prog 5 := ⟨_, Tryd.underlying5, rfl⟩
instance : KSc Tryd.prog 5 := ⟨tsc5⟩
theorem tsz22 : SzOf Tryd.prog 22 1 := by unfold SzOf; kernel_rfl
instance : KSz Tryd.prog 22 1 := ⟨tsz22⟩
theorem tmk22 : MkT Tryd.prog 22 (.slice none 0 0) 1 24 := by unfold MkT; kernel_rfl
instance : KMk Tryd.prog 22 (.slice none 0 0) 1 24 := ⟨tmk22⟩
theorem tsc22 : ScT Tryd.prog 22 := ⟨_, Tryd.underlying22, rfl⟩
instance : KSc Tryd.prog 22 := ⟨tsc22⟩
theorem tsz24 : SzOf Tryd.prog 24 2 := by unfold SzOf; kernel_rfl
instance : KSz Tryd.prog 24 2 := ⟨tsz24⟩
theorem tmk24 : MkT Tryd.prog 24 (.agg #[.int .i64 0, .slice none 0 0]) 2 32 := by unfold MkT; kernel_rfl
instance : KMk Tryd.prog 24 (.agg #[.int .i64 0, .slice none 0 0]) 2 32 := ⟨tmk24⟩
theorem tag24 : AgT Tryd.prog 24 2 := ⟨⟨_, Tryd.underlying24, rfl⟩, tsz24⟩
instance : KAg Tryd.prog 24 2 := ⟨tag24⟩
theorem tsz26 : SzOf Tryd.prog 26 1 := by unfold SzOf; kernel_rfl
instance : KSz Tryd.prog 26 1 := ⟨tsz26⟩
theorem tmk26 : MkT Tryd.prog 26 (.int .i64 0) 1 8 := by unfold MkT; kernel_rfl
instance : KMk Tryd.prog 26 (.int .i64 0) 1 8 := ⟨tmk26⟩
theorem tsc26 : ScT Tryd.prog 26 := ⟨_, Tryd.underlying26, rfl⟩
instance : KSc Tryd.prog 26 := ⟨tsc26⟩
theorem tsz32 : SzOf Tryd.prog 32 1 := by unfold SzOf; kernel_rfl
instance : KSz Tryd.prog 32 1 := ⟨tsz32⟩
theorem tmk32 : MkT Tryd.prog 32 (.nilFunc) 1 8 := by unfold MkT; kernel_rfl
instance : KMk Tryd.prog 32 (.nilFunc) 1 8 := ⟨tmk32⟩
theorem tsc32 : ScT Tryd.prog 32 := ⟨_, Tryd.underlying32, rfl⟩
instance : KSc Tryd.prog 32 := ⟨tsc32⟩
theorem tsz41 : SzOf Tryd.prog 41 2 := by unfold SzOf; kernel_rfl
instance : KSz Tryd.prog 41 2 := ⟨tsz41⟩
theorem tmk41 : MkT Tryd.prog 41 (.agg #[.int .i64 0, .slice none 0 0]) 2 32 := by unfold MkT; kernel_rfl
instance : KMk Tryd.prog 41 (.agg #[.int .i64 0, .slice none 0 0]) 2 32 := ⟨tmk41⟩
theorem tag41 : AgT Tryd.prog 41 2 := ⟨⟨_, Tryd.underlying41, rfl⟩, tsz41⟩
instance : KAg Tryd.prog 41 2 := ⟨tag41⟩
theorem tsz58 : SzOf Tryd.prog 58 1 := by unfold SzOf; kernel_rfl
instance : KSz Tryd.prog 58 1 := ⟨tsz58⟩
theorem tmk58 : MkT Tryd.prog 58 (.slice none 0 0) 1 24 := by unfold MkT; kernel_rfl
instance : KMk Tryd.prog 58 (.slice none 0 0) 1 24 := ⟨tmk58⟩
theorem tsc58 : ScT Tryd.prog 58 := ⟨_, Tryd.underlying58, rfl⟩
instance : KSc Tryd.prog 58 := ⟨tsc58⟩
theorem tsz60 : SzOf Tryd.prog 60 3 := by unfold SzOf; kernel_rfl
instance : KSz Tryd.prog 60 3 := ⟨tsz60⟩
theorem tmk60 : MkT Tryd.prog 60 (.agg #[.int .i64 0, .slice none 0 0, .slice none 0 0]) 3 56 := by unfold MkT; kernel_rfl
instance : KMk Tryd.prog 60 (.agg #[.int .i64 0, .slice none 0 0, .slice none 0 0]) 3 56 := ⟨tmk60⟩
theorem tag60 : AgT Tryd.prog 60 3 := ⟨⟨_, Tryd.underlying60, rfl⟩, tsz60⟩
instance : KAg Tryd.prog 60 3 := ⟨tag60⟩
theorem tsz68 : SzOf Tryd.prog 68 1 := by unfold SzOf; kernel_rfl
instance : KSz Tryd.prog 68 1 := ⟨tsz68⟩
theorem tmk68 : MkT Tryd.prog 68 (.map none) 1 8 := by unfold MkT; kernel_rfl
instance : KMk Tryd.prog 68 (.map none) 1 8 := ⟨tmk68⟩
theorem tsc68 : ScT Tryd.prog 68 := ⟨_, Tryd.underlying68, rfl⟩
instance : KSc Tryd.prog 68 := ⟨tsc68⟩
theorem tsz72 : SzOf Tryd.prog 72 1 := by unfold SzOf; kernel_rfl
instance : KSz Tryd.prog 72 1 := ⟨tsz72⟩
theorem tmk72 : MkT Tryd.prog 72 (.slice none 0 0) 1 24 := by unfold MkT; kernel_rfl
instance : KMk Tryd.prog 72 (.slice none 0 0) 1 24 := ⟨tmk72⟩
theorem tsc72 : ScT Tryd.prog 72 := ⟨_, Tryd.underlying72, rfl⟩
instance : KSc Tryd.prog 72 := ⟨tsc72⟩
theorem tsz80 : SzOf Tryd.prog 80 1 := by unfold SzOf; kernel_rfl
instance : KSz Tryd.prog 80 1 := ⟨tsz80⟩
theorem tmk80 : MkT Tryd.prog 80 (.slice none 0 0) 1 24 := by unfold MkT; kernel_rfl
instance : KMk Tryd.prog 80 (.slice none 0 0) 1 24 := ⟨tmk80⟩
theorem tsc80 : ScT Tryd.prog 80 := ⟨_, Tryd.underlying80, rfl⟩
instance : KSc Tryd.prog 80 := ⟨tsc80⟩
theorem tsz86 : SzOf Tryd.prog 86 1 := by unfold SzOf; kernel_rfl
instance : KSz Tryd.prog 86 1 := ⟨tsz86⟩
theorem tmk86 : MkT Tryd.prog 86 (.int .u64 0) 1 8 := by unfold MkT; kernel_rfl
instance : KMk Tryd.prog 86 (.int .u64 0) 1 8 := ⟨tmk86⟩
theorem tsc86 : ScT Tryd.prog 86 := ⟨_, Tryd.underlying86, rfl⟩
instance : KSc Tryd.prog 86 := ⟨tsc86⟩
theorem tsz89 : SzOf Tryd.prog 89 1 := by unfold SzOf; kernel_rfl
instance : KSz Tryd.prog 89 1 := ⟨tsz89⟩
theorem tmk89 : MkT Tryd.prog 89 (.nilFunc) 1 8 := by unfold MkT; kernel_rfl
instance : KMk Tryd.prog 89 (.nilFunc) 1 8 := ⟨tmk89⟩
theorem tsc89 : ScT Tryd.prog 89 := ⟨_, Tryd.underlying89, rfl⟩
instance : KSc Tryd.prog 89 := ⟨tsc89⟩
theorem tsz90 : SzOf Tryd.prog 90 1 := by unfold SzOf; kernel_rfl
instance : KSz Tryd.prog 90 1 := ⟨tsz90⟩
theorem tmk90 : MkT Tryd.prog 90 (.slice none 0 0) 1 24 := by unfold MkT; kernel_rfl
instance : KMk Tryd.prog 90 (.slice none 0 0) 1 24 := ⟨tmk90⟩
theorem tsc90 : ScT Tryd.prog 90 := ⟨_, Tryd.underlying90, rfl⟩
instance : KSc Tryd.prog 90 := ⟨tsc90⟩
theorem tsz92 : SzOf Tryd.prog 92 2 := by unfold SzOf; kernel_rfl
instance : KSz Tryd.prog 92 2 := ⟨tsz92⟩
theorem tmk92 : MkT Tryd.prog 92 (.agg #[.int .i64 0, .int .i64 0]) 2 16 := by unfold MkT; kernel_rfl
instance : KMk Tryd.prog 92 (.agg #[.int .i64 0, .int .i64 0]) 2 16 := ⟨tmk92⟩
theorem tag92 : AgT Tryd.prog 92 2 := ⟨⟨_, Tryd.underlying92, rfl⟩, tsz92⟩
instance : KAg Tryd.prog 92 2 := ⟨tag92⟩
theorem tsz93 : SzOf Tryd.prog 93 1 := by unfold SzOf; kernel_rfl
instance : KSz Tryd.prog 93 1 := ⟨tsz93⟩
theorem tmk93 : MkT Tryd.prog 93 (.nilFunc) 1 8 := by unfold MkT; kernel_rfl
instance : KMk Tryd.prog 93 (.nilFunc) 1 8 := ⟨tmk93⟩
theorem tsc93 : ScT Tryd.prog 93 := ⟨_, Tryd.underlying93, rfl⟩
instance : KSc Tryd.prog 93 := ⟨tsc93⟩
theorem tsz100 : SzOf Tryd.prog 100 1 := by unfold SzOf; kernel_rfl
instance : KSz Tryd.prog 100 1 := ⟨tsz100⟩
theorem tmk100 : MkT Tryd.prog 100 (.int .u32 0) 1 4 := by unfold MkT; kernel_rfl
instance : KMk Tryd.prog 100 (.int .u32 0) 1 4 := ⟨tmk100⟩
theorem tsc100 : ScT Tryd.prog 100 := ⟨_, Tryd.underlying100, rfl⟩
instance : KSc Tryd.prog 100 := ⟨tsc100⟩
theorem tsz102 : SzOf Tryd.prog 102 1 := by unfold SzOf; kernel_rfl
instance : KSz Tryd.prog 102 1 := ⟨tsz102⟩
theorem tmk102 : MkT Tryd.prog 102 (.int .u64 0) 1 8 := by unfold MkT; kernel_rfl
instance : KMk Tryd.prog 102 (.int .u64 0) 1 8 := ⟨tmk102⟩
theorem tsc102 : ScT Tryd.prog 102 := ⟨_, Tryd.underlying102, rfl⟩
instance : KSc Tryd.prog 102 := ⟨tsc102⟩
theorem tsz107 : SzOf Tryd.prog 107 32 := by unfold SzOf; kernel_rfl
instance : KSz Tryd.prog 107 32 := ⟨tsz107⟩
theorem tmk107 : MkT Tryd.prog 107 (.agg #[.int .u8 0, .int .u8 0, .int .u8 0, .int .u8 0, .int .u8 0, .int .u8 0, .int .u8 0, .int .u8 0, .int .u8 0, .int .u8 0, .int .u8 0, .int .u8 0, .int .u8 0, .int .u8 0, .int .u8 0, .int .u8 0, .int .u8 0, .int .u8 0, .int .u8 0, .int .u8 0, .int .u8 0, .int .u8 0, .int .u8 0, .int .u8 0, .int .u8 0, .int .u8 0, .int .u8 0, .int .u8 0, .int .u8 0, .int .u8 0, .int .u8 0, .int .u8 0]) 32 32 := by unfold MkT; kernel_rfl
instance : KMk Tryd.prog 107 (.agg #[.int .u8 0, .int .u8 0, .int .u8 0, .int .u8 0, .int .u8 0, .int .u8 0, .int .u8 0, .int .u8 0, .int .u8 0, .int .u8 0, .int .u8 0, .int .u8 0, .int .u8 0, .int .u8 0, .int .u8 0, .int .u8 0, .int .u8 0, .int .u8 0, .int .u8 0, .int .u8 0, .int .u8 0, .int .u8 0, .int .u8 0, .int .u8 0, .int .u8 0, .int .u8 0, .int .u8 0, .int .u8 0, .int .u8 0, .int .u8 0, .int .u8 0, .int .u8 0]) 32 32 := ⟨tmk107⟩
theorem tag107 : AgT Tryd.prog 107 32 := ⟨⟨_, Tryd.underlying107, rfl⟩, tsz107⟩
instance : KAg Tryd.prog 107 32 := ⟨tag107⟩
theorem tsz108 : SzOf Tryd.prog 108 64 := by unfold SzOf; kernel_rfl
instance : KSz Tryd.prog 108 64 := ⟨tsz108⟩
theorem tmk108 : MkT Tryd.prog 108 (.agg #[.int .u8 0, .int .u8 0, .int .u8 0, .int .u8 0, .int .u8 0, .int .u8 0, .int .u8 0, .int .u8 0, .int .u8 0, .int .u8 0, .int .u8 0, .int .u8 0, .int .u8 0, .int .u8 0, .int .u8 0, .int .u8 0, .int .u8 0, .int .u8 0, .int .u8 0, .int .u8 0, .int .u8 0, .int .u8 0, .int .u8 0, .int .u8 0, .int .u8 0, .int .u8 0, .int .u8 0, .int .u8 0, .int .u8 0, .int .u8 0, .int .u8 0, .int .u8 0, .int .u8 0, .int .u8 0, .int .u8 0, .int .u8 0, .int .u8 0, .int .u8 0, .int .u8 0, .int .u8 0, .int .u8 0, .int .u8 0, .int .u8 0, .int .u8 0, .int .u8 0, .int .u8 0, .int .u8 0, .int .u8 0, .int .u8 0, .int .u8 0, .int .u8 0, .int .u8 0, .int .u8 0, .int .u8 0, .int .u8 0, .int .u8 0, .int .u8 0, .int .u8 0, .int .u8 0, .int .u8 0, .int .u8 0, .int .u8 0, .int .u8 0, .int .u8 0]) 64 64 := by unfold MkT; kernel_rfl
instance : KMk Tryd.prog 108 (.agg #[.int .u8 0, .int .u8 0, .int .u8 0, .int .u8 0, .int .u8 0, .int .u8 0, .int .u8 0, .int .u8 0, .int .u8 0, .int .u8 0, .int .u8 0, .int .u8 0, .int .u8 0, .int .u8 0, .int .u8 0, .int .u8 0, .int .u8 0, .int .u8 0, .int .u8 0, .int .u8 0, .int .u8 0, .int .u8 0, .int .u8 0, .int .u8 0, .int .u8 0, .int .u8 0, .int .u8 0, .int .u8 0, .int .u8 0, .int .u8 0, .int .u8 0, .int .u8 0, .int .u8 0, .int .u8 0, .int .u8 0, .int .u8 0, .int .u8 0, .int .u8 0, .int .u8 0, .int .u8 0, .int .u8 0, .int .u8 0, .int .u8 0, .int .u8 0, .int .u8 0, .int .u8 0, .int .u8 0, .int .u8 0, .int .u8 0, .int .u8 0, .int .u8 0, .int .u8 0, .int .u8 0, .int .u8 0, .int .u8 0, .int .u8 0, .int .u8 0, .int .u8 0, .int .u8 0, .int .u8 0, .int .u8 0, .int .u8 0, .int .u8 0, .int .u8 0]) 64 64 := ⟨tmk108⟩
theorem tag108 : AgT Tryd.prog 108 64 := ⟨⟨_, Tryd.underlying108, rfl⟩, tsz108⟩
instance : KAg Tryd.prog 108 64 := ⟨tag108⟩
theorem tsz110 : SzOf Tryd.prog 110 1 := by unfold SzOf; kernel_rfl
instance : KSz Tryd.prog 110 1 := ⟨tsz110⟩
theorem tmk110 : MkT Tryd.prog 110 (.slice none 0 0) 1 24 := by unfold MkT; kernel_rfl
instance : KMk Tryd.prog 110 (.slice none 0 0) 1 24 := ⟨tmk110⟩
theorem tsc110 : ScT Tryd.prog 110 := ⟨_, Tryd.underlying110, rfl⟩
instance : KSc Tryd.prog 110 := ⟨tsc110⟩
theorem tsz112 : SzOf Tryd.prog 112 2 := by unfold SzOf; kernel_rfl
instance : KSz Tryd.prog 112 2 := ⟨tsz112⟩
theorem tmk112 : MkT Tryd.prog 112 (.agg #[.slice none 0 0, .slice none 0 0]) 2 48 := by unfold MkT; kernel_rfl
instance : KMk Tryd.prog 112 (.agg #[.slice none 0 0, .slice none 0 0]) 2 48 := ⟨tmk112⟩
theorem tag112 : AgT Tryd.prog 112 2 := ⟨⟨_, Tryd.underlying112, rfl⟩, tsz112⟩
instance : KAg Tryd.prog 112 2 := ⟨tag112⟩
theorem tsl22 : SlT Tryd.prog 22 3 1 := ⟨Tryd.underlying22, tsz3⟩
instance : KSl Tryd.prog 22 3 1 := ⟨tsl22⟩
theorem tfl24_0 : FlT Tryd.prog 24 0 0 := ⟨_, _, 0, Tryd.underlying24, rfl, tsz3, rfl⟩
instance : KFl Tryd.prog 24 0 0 := ⟨tfl24_0⟩
theorem tfl24_1 : FlT Tryd.prog 24 1 1 := ⟨_, _, 0, Tryd.underlying24, rfl, tsz22, rfl⟩
instance : KFl Tryd.prog 24 1 1 := ⟨tfl24_1⟩
theorem tbd24 : BdT Tryd.prog 24 [.int .i64 0, .slice none 0 0] (fun i => ([(0, 1), (1, 1)] : List (Nat × Nat))[i]?) := .struct Tryd.underlying24 tmk24 rfl (szs := [1, 1]) (by kernel_rfl)
instance : KBd Tryd.prog 24 [.int .i64 0, .slice none 0 0] (fun i => ([(0, 1), (1, 1)] : List (Nat × Nat))[i]?) := ⟨tbd24⟩
theorem tfl41_0 : FlT Tryd.prog 41 0 0 := ⟨_, _, 0, Tryd.underlying41, rfl, tsz3, rfl⟩
instance : KFl Tryd.prog 41 0 0 := ⟨tfl41_0⟩
theorem tfl41_1 : FlT Tryd.prog 41 1 1 := ⟨_, _, 0, Tryd.underlying41, rfl, tsz22, rfl⟩
instance : KFl Tryd.prog 41 1 1 := ⟨tfl41_1⟩
theorem tbd41 : BdT Tryd.prog 41 [.int .i64 0, .slice none 0 0] (fun i => ([(0, 1), (1, 1)] : List (Nat × Nat))[i]?) := .struct Tryd.underlying41 tmk41 rfl (szs := [1, 1]) (by kernel_rfl)
instance : KBd Tryd.prog 41 [.int .i64 0, .slice none 0 0] (fun i => ([(0, 1), (1, 1)] : List (Nat × Nat))[i]?) := ⟨tbd41⟩
theorem tsl58 : SlT Tryd.prog 58 22 1 := ⟨Tryd.underlying58, tsz22⟩
instance : KSl Tryd.prog 58 22 1 := ⟨tsl58⟩
theorem tfl60_0 : FlT Tryd.prog 60 0 0 := ⟨_, _, 0, Tryd.underlying60, rfl, tsz3, rfl⟩
instance : KFl Tryd.prog 60 0 0 := ⟨tfl60_0⟩
theorem tfl60_1 : FlT Tryd.prog 60 1 1 := ⟨_, _, 0, Tryd.underlying60, rfl, tsz58, rfl⟩
instance : KFl Tryd.prog 60 1 1 := ⟨tfl60_1⟩
theorem tfl60_2 : FlT Tryd.prog 60 2 2 := ⟨_, _, 0, Tryd.underlying60, rfl, tsz58, rfl⟩
instance : KFl Tryd.prog 60 2 2 := ⟨tfl60_2⟩
theorem tbd60 : BdT Tryd.prog 60 [.int .i64 0, .slice none 0 0, .slice none 0 0] (fun i => ([(0, 1), (1, 1), (2, 1)] : List (Nat × Nat))[i]?) := .struct Tryd.underlying60 tmk60 rfl (szs := [1, 1, 1]) (by kernel_rfl)
instance : KBd Tryd.prog 60 [.int .i64 0, .slice none 0 0, .slice none 0 0] (fun i => ([(0, 1), (1, 1), (2, 1)] : List (Nat × Nat))[i]?) := ⟨tbd60⟩
instance : KMp Tryd.prog 68 := ⟨3, 3, Tryd.underlying68, Tryd.underlying3, tmk3⟩
theorem tsl72 : SlT Tryd.prog 72 4 1 := ⟨Tryd.underlying72, tsz4⟩
instance : KSl Tryd.prog 72 4 1 := ⟨tsl72⟩
theorem tsl80 : SlT Tryd.prog 80 41 2 := ⟨Tryd.underlying80, tsz41⟩
instance : KSl Tryd.prog 80 41 2 := ⟨tsl80⟩
theorem tsl90 : SlT Tryd.prog 90 92 2 := ⟨Tryd.underlying90, tsz92⟩
instance : KSl Tryd.prog 90 92 2 := ⟨tsl90⟩
instance : KEqP Tryd.prog 92 := ⟨3, ⟨Tryd.underlying92, tsz3⟩, Tryd.underlying3, by kernel_rfl⟩
theorem tar92 : ArT Tryd.prog 92 2 3 1 := ⟨Tryd.underlying92, tsz3⟩
instance : KAr Tryd.prog 92 2 3 1 := ⟨tar92⟩
theorem tbd92 : BdT Tryd.prog 92 [.int .i64 0, .int .i64 0] (fun i => some (i * 1, 1)) := .array tar92 tmk92 rfl
instance : KBd Tryd.prog 92 [.int .i64 0, .int .i64 0] (fun i => some (i * 1, 1)) := ⟨tbd92⟩
theorem tar107 : ArT Tryd.prog 107 32 5 1 := ⟨Tryd.underlying107, tsz5⟩
instance : KAr Tryd.prog 107 32 5 1 := ⟨tar107⟩
theorem tbd107 : BdT Tryd.prog 107 [.int .u8 0, .int .u8 0, .int .u8 0, .int .u8 0, .int .u8 0, .int .u8 0, .int .u8 0, .int .u8 0, .int .u8 0, .int .u8 0, .int .u8 0, .int .u8 0, .int .u8 0, .int .u8 0, .int .u8 0, .int .u8 0, .int .u8 0, .int .u8 0, .int .u8 0, .int .u8 0, .int .u8 0, .int .u8 0, .int .u8 0, .int .u8 0, .int .u8 0, .int .u8 0, .int .u8 0, .int .u8 0, .int .u8 0, .int .u8 0, .int .u8 0, .int .u8 0] (fun i => some (i * 1, 1)) := .array tar107 tmk107 rfl
instance : KBd Tryd.prog 107 [.int .u8 0, .int .u8 0, .int .u8 0, .int .u8 0, .int .u8 0, .int .u8 0, .int .u8 0, .int .u8 0, .int .u8 0, .int .u8 0, .int .u8 0, .int .u8 0, .int .u8 0, .int .u8 0, .int .u8 0, .int .u8 0, .int .u8 0, .int .u8 0, .int .u8 0, .int .u8 0, .int .u8 0, .int .u8 0, .int .u8 0, .int .u8 0, .int .u8 0, .int .u8 0, .int .u8 0, .int .u8 0, .int .u8 0, .int .u8 0, .int .u8 0, .int .u8 0] (fun i => some (i * 1, 1)) := ⟨tbd107⟩
theorem tar108 : ArT Tryd.prog 108 64 5 1 := ⟨Tryd.underlying108, tsz5⟩
instance : KAr Tryd.prog 108 64 5 1 := ⟨tar108⟩
theorem tbd108 : BdT Tryd.prog 108 [.int .u8 0, .int .u8 0, .int .u8 0, .int .u8 0, .int .u8 0, .int .u8 0, .int .u8 0, .int .u8 0, .int .u8 0, .int .u8 0, .int .u8 0, .int .u8 0, .int .u8 0, .int .u8 0, .int .u8 0, .int .u8 0, .int .u8 0, .int .u8 0, .int .u8 0, .int .u8 0, .int .u8 0, .int .u8 0, .int .u8 0, .int .u8 0, .int .u8 0, .int .u8 0, .int .u8 0, .int .u8 0, .int .u8 0, .int .u8 0, .int .u8 0, .int .u8 0, .int .u8 0, .int .u8 0, .int .u8 0, .int .u8 0, .int .u8 0, .int .u8 0, .int .u8 0, .int .u8 0, .int .u8 0, .int .u8 0, .int .u8 0, .int .u8 0, .int .u8 0, .int .u8 0, .int .u8 0, .int .u8 0, .int .u8 0, .int .u8 0, .int .u8 0, .int .u8 0, .int .u8 0, .int .u8 0, .int .u8 0, .int .u8 0, .int .u8 0, .int .u8 0, .int .u8 0, .int .u8 0, .int .u8 0, .int .u8 0, .int .u8 0, .int .u8 0] (fun i => some (i * 1, 1)) := .array tar108 tmk108 rfl
instance : KBd Tryd.prog 108 [.int .u8 0, .int .u8 0, .int .u8 0, .int .u8 0, .int .u8 0, .int .u8 0, .int .u8 0, .int .u8 0, .int .u8 0, .int .u8 0, .int .u8 0, .int .u8 0, .int .u8 0, .int .u8 0, .int .u8 0, .int .u8 0, .int .u8 0, .int .u8 0, .int .u8 0, .int .u8 0, .int .u8 0, .int .u8 0, .int .u8 0, .int .u8 0, .int .u8 0, .int .u8 0, .int .u8 0, .int .u8 0, .int .u8 0, .int .u8 0, .int .u8 0, .int .u8 0, .int .u8 0, .int .u8 0, .int .u8 0, .int .u8 0, .int .u8 0, .int .u8 0, .int .u8 0, .int .u8 0, .int .u8 0, .int .u8 0, .int .u8 0, .int .u8 0, .int .u8 0, .int .u8 0, .int .u8 0, .int .u8 0, .int .u8 0, .int .u8 0, .int .u8 0, .int .u8 0, .int .u8 0, .int .u8 0, .int .u8 0, .int .u8 0, .int .u8 0, .int .u8 0, .int .u8 0, .int .u8 0, .int .u8 0, .int .u8 0, .int .u8 0, .int .u8 0] (fun i => some (i * 1, 1)) := ⟨tbd108⟩
theorem tsl110 : SlT Tryd.prog 110 58 1 := ⟨Tryd.underlying110, tsz58⟩
instance : KSl Tryd.prog 110 58 1 := ⟨tsl110⟩
theorem tar112 : ArT Tryd.prog 112 2 58 1 := ⟨Tryd.underlying112, tsz58⟩
instance : KAr Tryd.prog 112 2 58 1 := ⟨tar112⟩
theorem tbd112 : BdT Tryd.prog 112 [.slice none 0 0, .slice none 0 0] (fun i => some (i * 1, 1)) := .array tar112 tmk112 rfl
instance : KBd Tryd.prog 112 [.slice none 0 0, .slice none 0 0] (fun i => some (i * 1, 1)) := ⟨tbd112⟩

end Go.Proofs.YtlihpalpkdgclaaDoor
