/-
  NARROWER THAN 'FOR EVERY INPUT', by the rows' own cells (each row's printed sentence says how): RealizeTurned: laid · RealizeDushnik: laid · RealizeHiraguchi: laid · HeytingImplies: laid · HeytingRegular: laid · HeytingResiduates: laid · HeytingCloses: laid · ScribePrints: laid · ScribeReads: laid · ScribeTurns: laid · ScribeLeast: laid.
  DERIVED. THE GIVEN ROWS OF THIS SEAT. 11 by the template 'for every input the law returns true; each argument reads behind the call as it read before'; 0 by the template 'total and deterministic' (their statements: YtgojkabjgagjcaaDoorTotals.lean).
  GIVEN WITH THE SEED: the statements are not yours to turn. If you find one false, say at which input.
  Laid BY PROGRAM, IN A SANDBOX (cutbox-rows.mjs): the forced cells as the released guide's own fill.sh prints them over the translation f5fa66f649d7db9d… (all of the seat's roots in one cut). By AI agents, Wed Nov 11 2026. No macro, syntax, notation, axiom, sorry.
-/
import Derived.Test.YtgojkabjgagjcaaDoorChecked
import GoSem.Claim
import GoSem.ClaimJoined
import GoSem.ClaimMapViews
import Derived.JoinedTies
import Derived.KernelRfl
namespace Go.Proofs.YtgojkabjgagjcaaDoor
/- THE CELL 'sum', in the pinned program and in every row, IS THE sha256 OF THE DUMP (.gsa) THAT YtgojkabjgagjcaaDoorProg.lean LOADS. Nothing in Lean hashes anything: it is a label: what it is worth is what the hold of that sum in a sandbox is worth. -/
noncomputable def Tryd.pinned : Pinned := { name := "ytgojkabjgagjcaadoor", sum := "f5fa66f649d7db9d39fe7f1453faad2116c1adc4cf054c89143cd4fb768c86cd", checked := Tryd.checked }
namespace Rows
def none {H : Type} : Left H := { results := [], args := [] }

/- WHAT THE LISTED PACKAGE-LEVEL VARIABLES READ AS WHEN THE CALL BEGINS. Each datum BY PROGRAM (the guide's laid-datum.mjs) off the statement by which the dump's own 'gosem.cut.vars' lays the variable. In a bare row this is a premise. The card (YtgojkabjgagjcaaDoorCards.lean) ties it to the program's text. -/
def laid_math_bits_deBruijn32tab {H : Type} : DataW H := .agg [.lit (.int .u8 0), .lit (.int .u8 1), .lit (.int .u8 28), .lit (.int .u8 2), .lit (.int .u8 29), .lit (.int .u8 14), .lit (.int .u8 24), .lit (.int .u8 3), .lit (.int .u8 30), .lit (.int .u8 22), .lit (.int .u8 20), .lit (.int .u8 15), .lit (.int .u8 25), .lit (.int .u8 17), .lit (.int .u8 4), .lit (.int .u8 8), .lit (.int .u8 31), .lit (.int .u8 27), .lit (.int .u8 13), .lit (.int .u8 23), .lit (.int .u8 21), .lit (.int .u8 19), .lit (.int .u8 16), .lit (.int .u8 7), .lit (.int .u8 26), .lit (.int .u8 12), .lit (.int .u8 18), .lit (.int .u8 6), .lit (.int .u8 11), .lit (.int .u8 5), .lit (.int .u8 10), .lit (.int .u8 9)]
def laid_math_bits_deBruijn64tab {H : Type} : DataW H := .agg [.lit (.int .u8 0), .lit (.int .u8 1), .lit (.int .u8 56), .lit (.int .u8 2), .lit (.int .u8 57), .lit (.int .u8 49), .lit (.int .u8 28), .lit (.int .u8 3), .lit (.int .u8 61), .lit (.int .u8 58), .lit (.int .u8 42), .lit (.int .u8 50), .lit (.int .u8 38), .lit (.int .u8 29), .lit (.int .u8 17), .lit (.int .u8 4), .lit (.int .u8 62), .lit (.int .u8 47), .lit (.int .u8 59), .lit (.int .u8 36), .lit (.int .u8 45), .lit (.int .u8 43), .lit (.int .u8 51), .lit (.int .u8 22), .lit (.int .u8 53), .lit (.int .u8 39), .lit (.int .u8 33), .lit (.int .u8 30), .lit (.int .u8 24), .lit (.int .u8 18), .lit (.int .u8 12), .lit (.int .u8 5), .lit (.int .u8 63), .lit (.int .u8 55), .lit (.int .u8 48), .lit (.int .u8 27), .lit (.int .u8 60), .lit (.int .u8 41), .lit (.int .u8 37), .lit (.int .u8 16), .lit (.int .u8 46), .lit (.int .u8 35), .lit (.int .u8 44), .lit (.int .u8 21), .lit (.int .u8 52), .lit (.int .u8 32), .lit (.int .u8 23), .lit (.int .u8 11), .lit (.int .u8 54), .lit (.int .u8 26), .lit (.int .u8 40), .lit (.int .u8 15), .lit (.int .u8 34), .lit (.int .u8 20), .lit (.int .u8 31), .lit (.int .u8 10), .lit (.int .u8 25), .lit (.int .u8 14), .lit (.int .u8 19), .lit (.int .u8 9), .lit (.int .u8 13), .lit (.int .u8 8), .lit (.int .u8 7), .lit (.int .u8 6)]
def laid_internal_strconv_uint64pow10 {H : Type} : DataW H := .agg [.lit (.int .u64 1), .lit (.int .u64 10), .lit (.int .u64 100), .lit (.int .u64 1000), .lit (.int .u64 10000), .lit (.int .u64 100000), .lit (.int .u64 1000000), .lit (.int .u64 10000000), .lit (.int .u64 100000000), .lit (.int .u64 1000000000), .lit (.int .u64 10000000000), .lit (.int .u64 100000000000), .lit (.int .u64 1000000000000), .lit (.int .u64 10000000000000), .lit (.int .u64 100000000000000), .lit (.int .u64 1000000000000000), .lit (.int .u64 10000000000000000), .lit (.int .u64 100000000000000000), .lit (.int .u64 1000000000000000000), .lit (.int .u64 10000000000000000000)]

/-- 'hasselaw.RealizeTurned': WHATEVER THE INPUT: true; the input reads as it did. -/
def realizeTurnedSpec : ChangeSpec := { name := "realizeTurned", fn := fun _ => fun
  | [d] => { results := [.lit (.bool true)], args := [d] }
  | _ => none }
def realizeTurnedRow : OpenClaim := { program := "ytgojkabjgagjcaadoor", sum := "f5fa66f649d7db9d39fe7f1453faad2116c1adc4cf054c89143cd4fb768c86cd", func := "hasse/hasselaw.RealizeTurned", spec := "realizeTurned", unfollowed := true, recurses := true, named := ["math/bits.deBruijn32tab", "math/bits.deBruijn64tab"], apart := false, laid := [("math/bits.deBruijn32tab", laid_math_bits_deBruijn32tab), ("math/bits.deBruijn64tab", laid_math_bits_deBruijn64tab)] }
def RealizeTurnedSaid : Prop := realizeTurnedRow.holds Tryd.pinned (OpenSpec.ofChange realizeTurnedSpec)

/-- ITS FALSE NEIGHBOUR: 'it returns false'. Refute it at one input. -/
def realizeTurnedWrong : ChangeSpec := { name := "realizeTurned", fn := fun _ => fun
  | [d] => { results := [.lit (.bool false)], args := [d] }
  | _ => none }
def RealizeTurnedWrongFalsely : Prop := realizeTurnedRow.holds Tryd.pinned (OpenSpec.ofChange realizeTurnedWrong)

/-- 'hasselaw.RealizeDushnik': WHATEVER THE INPUT: true; the input reads as it did. -/
def realizeDushnikSpec : ChangeSpec := { name := "realizeDushnik", fn := fun _ => fun
  | [d1, d2] => { results := [.lit (.bool true)], args := [d1, d2] }
  | _ => none }
def realizeDushnikRow : OpenClaim := { program := "ytgojkabjgagjcaadoor", sum := "f5fa66f649d7db9d39fe7f1453faad2116c1adc4cf054c89143cd4fb768c86cd", func := "hasse/hasselaw.RealizeDushnik", spec := "realizeDushnik", unfollowed := true, recurses := true, named := ["math/bits.deBruijn32tab", "math/bits.deBruijn64tab"], apart := false, laid := [("math/bits.deBruijn32tab", laid_math_bits_deBruijn32tab), ("math/bits.deBruijn64tab", laid_math_bits_deBruijn64tab)] }
def RealizeDushnikSaid : Prop := realizeDushnikRow.holds Tryd.pinned (OpenSpec.ofChange realizeDushnikSpec)

/-- ITS FALSE NEIGHBOUR: 'it returns false'. Refute it at one input. -/
def realizeDushnikWrong : ChangeSpec := { name := "realizeDushnik", fn := fun _ => fun
  | [d1, d2] => { results := [.lit (.bool false)], args := [d1, d2] }
  | _ => none }
def RealizeDushnikWrongFalsely : Prop := realizeDushnikRow.holds Tryd.pinned (OpenSpec.ofChange realizeDushnikWrong)

/-- 'hasselaw.RealizeHiraguchi': WHATEVER THE INPUT: true; the input reads as it did. -/
def realizeHiraguchiSpec : ChangeSpec := { name := "realizeHiraguchi", fn := fun _ => fun
  | [d] => { results := [.lit (.bool true)], args := [d] }
  | _ => none }
def realizeHiraguchiRow : OpenClaim := { program := "ytgojkabjgagjcaadoor", sum := "f5fa66f649d7db9d39fe7f1453faad2116c1adc4cf054c89143cd4fb768c86cd", func := "hasse/hasselaw.RealizeHiraguchi", spec := "realizeHiraguchi", unfollowed := true, recurses := true, named := ["math/bits.deBruijn32tab", "math/bits.deBruijn64tab"], apart := false, laid := [("math/bits.deBruijn32tab", laid_math_bits_deBruijn32tab), ("math/bits.deBruijn64tab", laid_math_bits_deBruijn64tab)] }
def RealizeHiraguchiSaid : Prop := realizeHiraguchiRow.holds Tryd.pinned (OpenSpec.ofChange realizeHiraguchiSpec)

/-- ITS FALSE NEIGHBOUR: 'it returns false'. Refute it at one input. -/
def realizeHiraguchiWrong : ChangeSpec := { name := "realizeHiraguchi", fn := fun _ => fun
  | [d] => { results := [.lit (.bool false)], args := [d] }
  | _ => none }
def RealizeHiraguchiWrongFalsely : Prop := realizeHiraguchiRow.holds Tryd.pinned (OpenSpec.ofChange realizeHiraguchiWrong)

/-- 'hasselaw.HeytingImplies': WHATEVER THE INPUT: true; the input reads as it did. -/
def heytingImpliesSpec : ChangeSpec := { name := "heytingImplies", fn := fun _ => fun
  | [d1, d2, d3] => { results := [.lit (.bool true)], args := [d1, d2, d3] }
  | _ => none }
def heytingImpliesRow : OpenClaim := { program := "ytgojkabjgagjcaadoor", sum := "f5fa66f649d7db9d39fe7f1453faad2116c1adc4cf054c89143cd4fb768c86cd", func := "hasse/hasselaw.HeytingImplies", spec := "heytingImplies", inPlace := ["sync/atomic.LoadUint32", "(*internal/sync.Mutex).Lock", "internal/race.Disable", "sync/atomic.CompareAndSwapInt32", "internal/race.Enable", "internal/race.Acquire", "(*internal/sync.Mutex).lockSlow", "internal/sync.runtime_canSpin", "internal/sync.runtime_doSpin", "internal/sync.throw", "internal/sync.runtime_nanotime", "internal/sync.runtime_SemacquireMutex", "sync/atomic.AddInt32", "(*internal/sync.Mutex).Unlock", "internal/race.ReleaseMerge", "(*internal/sync.Mutex).unlockSlow", "internal/sync.fatal", "internal/sync.runtime_Semrelease", "sync/atomic.StoreUint32"], unfollowed := true, recurses := true, named := ["math/bits.deBruijn32tab", "math/bits.deBruijn64tab"], apart := false, laid := [("math/bits.deBruijn32tab", laid_math_bits_deBruijn32tab), ("math/bits.deBruijn64tab", laid_math_bits_deBruijn64tab)] }
def HeytingImpliesSaid : Prop := heytingImpliesRow.holds Tryd.pinned (OpenSpec.ofChange heytingImpliesSpec)

/-- ITS FALSE NEIGHBOUR: 'it returns false'. Refute it at one input. -/
def heytingImpliesWrong : ChangeSpec := { name := "heytingImplies", fn := fun _ => fun
  | [d1, d2, d3] => { results := [.lit (.bool false)], args := [d1, d2, d3] }
  | _ => none }
def HeytingImpliesWrongFalsely : Prop := heytingImpliesRow.holds Tryd.pinned (OpenSpec.ofChange heytingImpliesWrong)

/-- 'hasselaw.HeytingRegular': WHATEVER THE INPUT: true; the input reads as it did. -/
def heytingRegularSpec : ChangeSpec := { name := "heytingRegular", fn := fun _ => fun
  | [d] => { results := [.lit (.bool true)], args := [d] }
  | _ => none }
def heytingRegularRow : OpenClaim := { program := "ytgojkabjgagjcaadoor", sum := "f5fa66f649d7db9d39fe7f1453faad2116c1adc4cf054c89143cd4fb768c86cd", func := "hasse/hasselaw.HeytingRegular", spec := "heytingRegular", inPlace := ["sync/atomic.LoadUint32", "(*internal/sync.Mutex).Lock", "internal/race.Disable", "sync/atomic.CompareAndSwapInt32", "internal/race.Enable", "internal/race.Acquire", "(*internal/sync.Mutex).lockSlow", "internal/sync.runtime_canSpin", "internal/sync.runtime_doSpin", "internal/sync.throw", "internal/sync.runtime_nanotime", "internal/sync.runtime_SemacquireMutex", "sync/atomic.AddInt32", "(*internal/sync.Mutex).Unlock", "internal/race.ReleaseMerge", "(*internal/sync.Mutex).unlockSlow", "internal/sync.fatal", "internal/sync.runtime_Semrelease", "sync/atomic.StoreUint32"], unfollowed := true, recurses := true, named := ["math/bits.deBruijn32tab", "math/bits.deBruijn64tab"], apart := false, laid := [("math/bits.deBruijn32tab", laid_math_bits_deBruijn32tab), ("math/bits.deBruijn64tab", laid_math_bits_deBruijn64tab)] }
def HeytingRegularSaid : Prop := heytingRegularRow.holds Tryd.pinned (OpenSpec.ofChange heytingRegularSpec)

/-- ITS FALSE NEIGHBOUR: 'it returns false'. Refute it at one input. -/
def heytingRegularWrong : ChangeSpec := { name := "heytingRegular", fn := fun _ => fun
  | [d] => { results := [.lit (.bool false)], args := [d] }
  | _ => none }
def HeytingRegularWrongFalsely : Prop := heytingRegularRow.holds Tryd.pinned (OpenSpec.ofChange heytingRegularWrong)

/-- 'hasselaw.HeytingResiduates': WHATEVER THE INPUT: true; the input reads as it did. -/
def heytingResiduatesSpec : ChangeSpec := { name := "heytingResiduates", fn := fun _ => fun
  | [d1, d2, d3, d4] => { results := [.lit (.bool true)], args := [d1, d2, d3, d4] }
  | _ => none }
def heytingResiduatesRow : OpenClaim := { program := "ytgojkabjgagjcaadoor", sum := "f5fa66f649d7db9d39fe7f1453faad2116c1adc4cf054c89143cd4fb768c86cd", func := "hasse/hasselaw.HeytingResiduates", spec := "heytingResiduates", inPlace := ["sync/atomic.LoadUint32", "(*internal/sync.Mutex).Lock", "internal/race.Disable", "sync/atomic.CompareAndSwapInt32", "internal/race.Enable", "internal/race.Acquire", "(*internal/sync.Mutex).lockSlow", "internal/sync.runtime_canSpin", "internal/sync.runtime_doSpin", "internal/sync.throw", "internal/sync.runtime_nanotime", "internal/sync.runtime_SemacquireMutex", "sync/atomic.AddInt32", "(*internal/sync.Mutex).Unlock", "internal/race.ReleaseMerge", "(*internal/sync.Mutex).unlockSlow", "internal/sync.fatal", "internal/sync.runtime_Semrelease", "sync/atomic.StoreUint32"], unfollowed := true, recurses := true, named := ["math/bits.deBruijn32tab", "math/bits.deBruijn64tab"], apart := false, laid := [("math/bits.deBruijn32tab", laid_math_bits_deBruijn32tab), ("math/bits.deBruijn64tab", laid_math_bits_deBruijn64tab)] }
def HeytingResiduatesSaid : Prop := heytingResiduatesRow.holds Tryd.pinned (OpenSpec.ofChange heytingResiduatesSpec)

/-- ITS FALSE NEIGHBOUR: 'it returns false'. Refute it at one input. -/
def heytingResiduatesWrong : ChangeSpec := { name := "heytingResiduates", fn := fun _ => fun
  | [d1, d2, d3, d4] => { results := [.lit (.bool false)], args := [d1, d2, d3, d4] }
  | _ => none }
def HeytingResiduatesWrongFalsely : Prop := heytingResiduatesRow.holds Tryd.pinned (OpenSpec.ofChange heytingResiduatesWrong)

/-- 'hasselaw.HeytingCloses': WHATEVER THE INPUT: true; the input reads as it did. -/
def heytingClosesSpec : ChangeSpec := { name := "heytingCloses", fn := fun _ => fun
  | [d] => { results := [.lit (.bool true)], args := [d] }
  | _ => none }
def heytingClosesRow : OpenClaim := { program := "ytgojkabjgagjcaadoor", sum := "f5fa66f649d7db9d39fe7f1453faad2116c1adc4cf054c89143cd4fb768c86cd", func := "hasse/hasselaw.HeytingCloses", spec := "heytingCloses", inPlace := ["sync/atomic.LoadUint32", "(*internal/sync.Mutex).Lock", "internal/race.Disable", "sync/atomic.CompareAndSwapInt32", "internal/race.Enable", "internal/race.Acquire", "(*internal/sync.Mutex).lockSlow", "internal/sync.runtime_canSpin", "internal/sync.runtime_doSpin", "internal/sync.throw", "internal/sync.runtime_nanotime", "internal/sync.runtime_SemacquireMutex", "sync/atomic.AddInt32", "(*internal/sync.Mutex).Unlock", "internal/race.ReleaseMerge", "(*internal/sync.Mutex).unlockSlow", "internal/sync.fatal", "internal/sync.runtime_Semrelease", "sync/atomic.StoreUint32"], unfollowed := true, recurses := true, named := ["math/bits.deBruijn32tab", "math/bits.deBruijn64tab"], apart := false, laid := [("math/bits.deBruijn32tab", laid_math_bits_deBruijn32tab), ("math/bits.deBruijn64tab", laid_math_bits_deBruijn64tab)] }
def HeytingClosesSaid : Prop := heytingClosesRow.holds Tryd.pinned (OpenSpec.ofChange heytingClosesSpec)

/-- ITS FALSE NEIGHBOUR: 'it returns false'. Refute it at one input. -/
def heytingClosesWrong : ChangeSpec := { name := "heytingCloses", fn := fun _ => fun
  | [d] => { results := [.lit (.bool false)], args := [d] }
  | _ => none }
def HeytingClosesWrongFalsely : Prop := heytingClosesRow.holds Tryd.pinned (OpenSpec.ofChange heytingClosesWrong)

/-- 'hasselaw.ScribePrints': WHATEVER THE INPUT: true; the input reads as it did. -/
def scribePrintsSpec : ChangeSpec := { name := "scribePrints", fn := fun _ => fun
  | [d] => { results := [.lit (.bool true)], args := [d] }
  | _ => none }
def scribePrintsRow : OpenClaim := { program := "ytgojkabjgagjcaadoor", sum := "f5fa66f649d7db9d39fe7f1453faad2116c1adc4cf054c89143cd4fb768c86cd", func := "hasse/hasselaw.ScribePrints", spec := "scribePrints", inPlace := ["internal/abi.NoEscape"], recurses := true, named := ["internal/strconv.uint64pow10", "math/bits.deBruijn32tab", "math/bits.deBruijn64tab"], apart := false, laid := [("math/bits.deBruijn32tab", laid_math_bits_deBruijn32tab), ("math/bits.deBruijn64tab", laid_math_bits_deBruijn64tab), ("internal/strconv.uint64pow10", laid_internal_strconv_uint64pow10)] }
def ScribePrintsSaid : Prop := scribePrintsRow.holds Tryd.pinned (OpenSpec.ofChange scribePrintsSpec)

/-- ITS FALSE NEIGHBOUR: 'it returns false'. Refute it at one input. -/
def scribePrintsWrong : ChangeSpec := { name := "scribePrints", fn := fun _ => fun
  | [d] => { results := [.lit (.bool false)], args := [d] }
  | _ => none }
def ScribePrintsWrongFalsely : Prop := scribePrintsRow.holds Tryd.pinned (OpenSpec.ofChange scribePrintsWrong)

/-- 'hasselaw.ScribeReads': WHATEVER THE INPUT: true; the input reads as it did. -/
def scribeReadsSpec : ChangeSpec := { name := "scribeReads", fn := fun _ => fun
  | [d] => { results := [.lit (.bool true)], args := [d] }
  | _ => none }
def scribeReadsRow : OpenClaim := { program := "ytgojkabjgagjcaadoor", sum := "f5fa66f649d7db9d39fe7f1453faad2116c1adc4cf054c89143cd4fb768c86cd", func := "hasse/hasselaw.ScribeReads", spec := "scribeReads", inPlace := ["internal/abi.NoEscape"], unfollowed := true, recurses := true, named := ["internal/strconv.uint64pow10", "math/bits.deBruijn32tab", "math/bits.deBruijn64tab"], apart := false, laid := [("math/bits.deBruijn32tab", laid_math_bits_deBruijn32tab), ("math/bits.deBruijn64tab", laid_math_bits_deBruijn64tab), ("internal/strconv.uint64pow10", laid_internal_strconv_uint64pow10)] }
def ScribeReadsSaid : Prop := scribeReadsRow.holds Tryd.pinned (OpenSpec.ofChange scribeReadsSpec)

/-- ITS FALSE NEIGHBOUR: 'it returns false'. Refute it at one input. -/
def scribeReadsWrong : ChangeSpec := { name := "scribeReads", fn := fun _ => fun
  | [d] => { results := [.lit (.bool false)], args := [d] }
  | _ => none }
def ScribeReadsWrongFalsely : Prop := scribeReadsRow.holds Tryd.pinned (OpenSpec.ofChange scribeReadsWrong)

/-- 'hasselaw.ScribeTurns': WHATEVER THE INPUT: true; the input reads as it did. -/
def scribeTurnsSpec : ChangeSpec := { name := "scribeTurns", fn := fun _ => fun
  | [d] => { results := [.lit (.bool true)], args := [d] }
  | _ => none }
def scribeTurnsRow : OpenClaim := { program := "ytgojkabjgagjcaadoor", sum := "f5fa66f649d7db9d39fe7f1453faad2116c1adc4cf054c89143cd4fb768c86cd", func := "hasse/hasselaw.ScribeTurns", spec := "scribeTurns", inPlace := ["internal/abi.NoEscape"], unfollowed := true, recurses := true, named := ["internal/strconv.uint64pow10", "math/bits.deBruijn32tab", "math/bits.deBruijn64tab"], apart := false, laid := [("math/bits.deBruijn32tab", laid_math_bits_deBruijn32tab), ("math/bits.deBruijn64tab", laid_math_bits_deBruijn64tab), ("internal/strconv.uint64pow10", laid_internal_strconv_uint64pow10)] }
def ScribeTurnsSaid : Prop := scribeTurnsRow.holds Tryd.pinned (OpenSpec.ofChange scribeTurnsSpec)

/-- ITS FALSE NEIGHBOUR: 'it returns false'. Refute it at one input. -/
def scribeTurnsWrong : ChangeSpec := { name := "scribeTurns", fn := fun _ => fun
  | [d] => { results := [.lit (.bool false)], args := [d] }
  | _ => none }
def ScribeTurnsWrongFalsely : Prop := scribeTurnsRow.holds Tryd.pinned (OpenSpec.ofChange scribeTurnsWrong)

/-- 'hasselaw.ScribeLeast': WHATEVER THE INPUT: true; the input reads as it did. -/
def scribeLeastSpec : ChangeSpec := { name := "scribeLeast", fn := fun _ => fun
  | [d] => { results := [.lit (.bool true)], args := [d] }
  | _ => none }
def scribeLeastRow : OpenClaim := { program := "ytgojkabjgagjcaadoor", sum := "f5fa66f649d7db9d39fe7f1453faad2116c1adc4cf054c89143cd4fb768c86cd", func := "hasse/hasselaw.ScribeLeast", spec := "scribeLeast", inPlace := ["internal/abi.NoEscape"], unfollowed := true, recurses := true, named := ["internal/strconv.uint64pow10", "math/bits.deBruijn32tab", "math/bits.deBruijn64tab"], apart := false, laid := [("math/bits.deBruijn32tab", laid_math_bits_deBruijn32tab), ("math/bits.deBruijn64tab", laid_math_bits_deBruijn64tab), ("internal/strconv.uint64pow10", laid_internal_strconv_uint64pow10)] }
def ScribeLeastSaid : Prop := scribeLeastRow.holds Tryd.pinned (OpenSpec.ofChange scribeLeastSpec)

/-- ITS FALSE NEIGHBOUR: 'it returns false'. Refute it at one input. -/
def scribeLeastWrong : ChangeSpec := { name := "scribeLeast", fn := fun _ => fun
  | [d] => { results := [.lit (.bool false)], args := [d] }
  | _ => none }
def ScribeLeastWrongFalsely : Prop := scribeLeastRow.holds Tryd.pinned (OpenSpec.ofChange scribeLeastWrong)

/- THE SECOND FORM. 'bulk': how many values and letters a reading holds, each counted each time it is reached (what is shared counts as often as it is met; a slice's spare places count too). A statement '..UptoSaid' is the law's where the arguments, and the package variables that the reading takes, are together of bulk at most 1048576: NARROWER than '..Said'. Prove '..Said' where nothing that the law and all that it calls make is longer than what came in: it says more and counts as full. Else prove '..UptoSaid'. A law counts once. -/
mutual
def uptoBulk {H : Type} : DataW H → Nat
  | .lit (.string bytes) => bytes.length + 1
  | .lit _ => 1
  | .nil => 1
  | .ptr d => uptoBulk d + 1
  | .slice elems spare => uptoBulkAll elems + uptoBulkAll spare + 1
  | .agg parts => uptoBulkAll parts + 1
  | .iface _ d => uptoBulk d + 1
  | .map entries => uptoBulkEntries entries + 1
  | .held _ => 1
def uptoBulkAll {H : Type} : List (DataW H) → Nat
  | [] => 0
  | d :: r => uptoBulk d + uptoBulkAll r
def uptoBulkEntries {H : Type} : List (Lit × DataW H) → Nat
  | [] => 0
  | x :: r => uptoBulkEntry x + uptoBulkEntries r
def uptoBulkEntry {H : Type} : Lit × DataW H → Nat
  | (.string bytes, d) => bytes.length + uptoBulk d + 1
  | (_, d) => uptoBulk d + 1
 end
def uptoSmall : (H : Type) → List (DataW H) → Bool := fun _ ds => decide (uptoBulkAll ds ≤ 1048576)
def OpenSpec.upto (s : _root_.Go.ChangeSpec) : _root_.Go.OpenSpec := { _root_.Go.OpenSpec.ofChange s with cond := some uptoSmall }

/-- 'hasselaw.RealizeTurned', WHERE WHAT IT READS IS OF BULK AT MOST 1048576: true; the input reads as it did. -/
def realizeTurnedUptoRow : OpenClaim := { program := "ytgojkabjgagjcaadoor", sum := "f5fa66f649d7db9d39fe7f1453faad2116c1adc4cf054c89143cd4fb768c86cd", func := "hasse/hasselaw.RealizeTurned", spec := "realizeTurned", unfollowed := true, recurses := true, named := ["math/bits.deBruijn32tab", "math/bits.deBruijn64tab"], apart := false, laid := [("math/bits.deBruijn32tab", laid_math_bits_deBruijn32tab), ("math/bits.deBruijn64tab", laid_math_bits_deBruijn64tab)], narrowed := true }
def RealizeTurnedUptoSaid : Prop := realizeTurnedUptoRow.holds Tryd.pinned (OpenSpec.upto realizeTurnedSpec)

/-- 'hasselaw.RealizeDushnik', WHERE WHAT IT READS IS OF BULK AT MOST 1048576: true; the input reads as it did. -/
def realizeDushnikUptoRow : OpenClaim := { program := "ytgojkabjgagjcaadoor", sum := "f5fa66f649d7db9d39fe7f1453faad2116c1adc4cf054c89143cd4fb768c86cd", func := "hasse/hasselaw.RealizeDushnik", spec := "realizeDushnik", unfollowed := true, recurses := true, named := ["math/bits.deBruijn32tab", "math/bits.deBruijn64tab"], apart := false, laid := [("math/bits.deBruijn32tab", laid_math_bits_deBruijn32tab), ("math/bits.deBruijn64tab", laid_math_bits_deBruijn64tab)], narrowed := true }
def RealizeDushnikUptoSaid : Prop := realizeDushnikUptoRow.holds Tryd.pinned (OpenSpec.upto realizeDushnikSpec)

/-- 'hasselaw.RealizeHiraguchi', WHERE WHAT IT READS IS OF BULK AT MOST 1048576: true; the input reads as it did. -/
def realizeHiraguchiUptoRow : OpenClaim := { program := "ytgojkabjgagjcaadoor", sum := "f5fa66f649d7db9d39fe7f1453faad2116c1adc4cf054c89143cd4fb768c86cd", func := "hasse/hasselaw.RealizeHiraguchi", spec := "realizeHiraguchi", unfollowed := true, recurses := true, named := ["math/bits.deBruijn32tab", "math/bits.deBruijn64tab"], apart := false, laid := [("math/bits.deBruijn32tab", laid_math_bits_deBruijn32tab), ("math/bits.deBruijn64tab", laid_math_bits_deBruijn64tab)], narrowed := true }
def RealizeHiraguchiUptoSaid : Prop := realizeHiraguchiUptoRow.holds Tryd.pinned (OpenSpec.upto realizeHiraguchiSpec)

/-- 'hasselaw.HeytingImplies', WHERE WHAT IT READS IS OF BULK AT MOST 1048576: true; the input reads as it did. -/
def heytingImpliesUptoRow : OpenClaim := { program := "ytgojkabjgagjcaadoor", sum := "f5fa66f649d7db9d39fe7f1453faad2116c1adc4cf054c89143cd4fb768c86cd", func := "hasse/hasselaw.HeytingImplies", spec := "heytingImplies", inPlace := ["sync/atomic.LoadUint32", "(*internal/sync.Mutex).Lock", "internal/race.Disable", "sync/atomic.CompareAndSwapInt32", "internal/race.Enable", "internal/race.Acquire", "(*internal/sync.Mutex).lockSlow", "internal/sync.runtime_canSpin", "internal/sync.runtime_doSpin", "internal/sync.throw", "internal/sync.runtime_nanotime", "internal/sync.runtime_SemacquireMutex", "sync/atomic.AddInt32", "(*internal/sync.Mutex).Unlock", "internal/race.ReleaseMerge", "(*internal/sync.Mutex).unlockSlow", "internal/sync.fatal", "internal/sync.runtime_Semrelease", "sync/atomic.StoreUint32"], unfollowed := true, recurses := true, named := ["math/bits.deBruijn32tab", "math/bits.deBruijn64tab"], apart := false, laid := [("math/bits.deBruijn32tab", laid_math_bits_deBruijn32tab), ("math/bits.deBruijn64tab", laid_math_bits_deBruijn64tab)], narrowed := true }
def HeytingImpliesUptoSaid : Prop := heytingImpliesUptoRow.holds Tryd.pinned (OpenSpec.upto heytingImpliesSpec)

/-- 'hasselaw.HeytingRegular', WHERE WHAT IT READS IS OF BULK AT MOST 1048576: true; the input reads as it did. -/
def heytingRegularUptoRow : OpenClaim := { program := "ytgojkabjgagjcaadoor", sum := "f5fa66f649d7db9d39fe7f1453faad2116c1adc4cf054c89143cd4fb768c86cd", func := "hasse/hasselaw.HeytingRegular", spec := "heytingRegular", inPlace := ["sync/atomic.LoadUint32", "(*internal/sync.Mutex).Lock", "internal/race.Disable", "sync/atomic.CompareAndSwapInt32", "internal/race.Enable", "internal/race.Acquire", "(*internal/sync.Mutex).lockSlow", "internal/sync.runtime_canSpin", "internal/sync.runtime_doSpin", "internal/sync.throw", "internal/sync.runtime_nanotime", "internal/sync.runtime_SemacquireMutex", "sync/atomic.AddInt32", "(*internal/sync.Mutex).Unlock", "internal/race.ReleaseMerge", "(*internal/sync.Mutex).unlockSlow", "internal/sync.fatal", "internal/sync.runtime_Semrelease", "sync/atomic.StoreUint32"], unfollowed := true, recurses := true, named := ["math/bits.deBruijn32tab", "math/bits.deBruijn64tab"], apart := false, laid := [("math/bits.deBruijn32tab", laid_math_bits_deBruijn32tab), ("math/bits.deBruijn64tab", laid_math_bits_deBruijn64tab)], narrowed := true }
def HeytingRegularUptoSaid : Prop := heytingRegularUptoRow.holds Tryd.pinned (OpenSpec.upto heytingRegularSpec)

/-- 'hasselaw.HeytingResiduates', WHERE WHAT IT READS IS OF BULK AT MOST 1048576: true; the input reads as it did. -/
def heytingResiduatesUptoRow : OpenClaim := { program := "ytgojkabjgagjcaadoor", sum := "f5fa66f649d7db9d39fe7f1453faad2116c1adc4cf054c89143cd4fb768c86cd", func := "hasse/hasselaw.HeytingResiduates", spec := "heytingResiduates", inPlace := ["sync/atomic.LoadUint32", "(*internal/sync.Mutex).Lock", "internal/race.Disable", "sync/atomic.CompareAndSwapInt32", "internal/race.Enable", "internal/race.Acquire", "(*internal/sync.Mutex).lockSlow", "internal/sync.runtime_canSpin", "internal/sync.runtime_doSpin", "internal/sync.throw", "internal/sync.runtime_nanotime", "internal/sync.runtime_SemacquireMutex", "sync/atomic.AddInt32", "(*internal/sync.Mutex).Unlock", "internal/race.ReleaseMerge", "(*internal/sync.Mutex).unlockSlow", "internal/sync.fatal", "internal/sync.runtime_Semrelease", "sync/atomic.StoreUint32"], unfollowed := true, recurses := true, named := ["math/bits.deBruijn32tab", "math/bits.deBruijn64tab"], apart := false, laid := [("math/bits.deBruijn32tab", laid_math_bits_deBruijn32tab), ("math/bits.deBruijn64tab", laid_math_bits_deBruijn64tab)], narrowed := true }
def HeytingResiduatesUptoSaid : Prop := heytingResiduatesUptoRow.holds Tryd.pinned (OpenSpec.upto heytingResiduatesSpec)

/-- 'hasselaw.HeytingCloses', WHERE WHAT IT READS IS OF BULK AT MOST 1048576: true; the input reads as it did. -/
def heytingClosesUptoRow : OpenClaim := { program := "ytgojkabjgagjcaadoor", sum := "f5fa66f649d7db9d39fe7f1453faad2116c1adc4cf054c89143cd4fb768c86cd", func := "hasse/hasselaw.HeytingCloses", spec := "heytingCloses", inPlace := ["sync/atomic.LoadUint32", "(*internal/sync.Mutex).Lock", "internal/race.Disable", "sync/atomic.CompareAndSwapInt32", "internal/race.Enable", "internal/race.Acquire", "(*internal/sync.Mutex).lockSlow", "internal/sync.runtime_canSpin", "internal/sync.runtime_doSpin", "internal/sync.throw", "internal/sync.runtime_nanotime", "internal/sync.runtime_SemacquireMutex", "sync/atomic.AddInt32", "(*internal/sync.Mutex).Unlock", "internal/race.ReleaseMerge", "(*internal/sync.Mutex).unlockSlow", "internal/sync.fatal", "internal/sync.runtime_Semrelease", "sync/atomic.StoreUint32"], unfollowed := true, recurses := true, named := ["math/bits.deBruijn32tab", "math/bits.deBruijn64tab"], apart := false, laid := [("math/bits.deBruijn32tab", laid_math_bits_deBruijn32tab), ("math/bits.deBruijn64tab", laid_math_bits_deBruijn64tab)], narrowed := true }
def HeytingClosesUptoSaid : Prop := heytingClosesUptoRow.holds Tryd.pinned (OpenSpec.upto heytingClosesSpec)

/-- 'hasselaw.ScribePrints', WHERE WHAT IT READS IS OF BULK AT MOST 1048576: true; the input reads as it did. -/
def scribePrintsUptoRow : OpenClaim := { program := "ytgojkabjgagjcaadoor", sum := "f5fa66f649d7db9d39fe7f1453faad2116c1adc4cf054c89143cd4fb768c86cd", func := "hasse/hasselaw.ScribePrints", spec := "scribePrints", inPlace := ["internal/abi.NoEscape"], recurses := true, named := ["internal/strconv.uint64pow10", "math/bits.deBruijn32tab", "math/bits.deBruijn64tab"], apart := false, laid := [("math/bits.deBruijn32tab", laid_math_bits_deBruijn32tab), ("math/bits.deBruijn64tab", laid_math_bits_deBruijn64tab), ("internal/strconv.uint64pow10", laid_internal_strconv_uint64pow10)], narrowed := true }
def ScribePrintsUptoSaid : Prop := scribePrintsUptoRow.holds Tryd.pinned (OpenSpec.upto scribePrintsSpec)

/-- 'hasselaw.ScribeReads', WHERE WHAT IT READS IS OF BULK AT MOST 1048576: true; the input reads as it did. -/
def scribeReadsUptoRow : OpenClaim := { program := "ytgojkabjgagjcaadoor", sum := "f5fa66f649d7db9d39fe7f1453faad2116c1adc4cf054c89143cd4fb768c86cd", func := "hasse/hasselaw.ScribeReads", spec := "scribeReads", inPlace := ["internal/abi.NoEscape"], unfollowed := true, recurses := true, named := ["internal/strconv.uint64pow10", "math/bits.deBruijn32tab", "math/bits.deBruijn64tab"], apart := false, laid := [("math/bits.deBruijn32tab", laid_math_bits_deBruijn32tab), ("math/bits.deBruijn64tab", laid_math_bits_deBruijn64tab), ("internal/strconv.uint64pow10", laid_internal_strconv_uint64pow10)], narrowed := true }
def ScribeReadsUptoSaid : Prop := scribeReadsUptoRow.holds Tryd.pinned (OpenSpec.upto scribeReadsSpec)

/-- 'hasselaw.ScribeTurns', WHERE WHAT IT READS IS OF BULK AT MOST 1048576: true; the input reads as it did. -/
def scribeTurnsUptoRow : OpenClaim := { program := "ytgojkabjgagjcaadoor", sum := "f5fa66f649d7db9d39fe7f1453faad2116c1adc4cf054c89143cd4fb768c86cd", func := "hasse/hasselaw.ScribeTurns", spec := "scribeTurns", inPlace := ["internal/abi.NoEscape"], unfollowed := true, recurses := true, named := ["internal/strconv.uint64pow10", "math/bits.deBruijn32tab", "math/bits.deBruijn64tab"], apart := false, laid := [("math/bits.deBruijn32tab", laid_math_bits_deBruijn32tab), ("math/bits.deBruijn64tab", laid_math_bits_deBruijn64tab), ("internal/strconv.uint64pow10", laid_internal_strconv_uint64pow10)], narrowed := true }
def ScribeTurnsUptoSaid : Prop := scribeTurnsUptoRow.holds Tryd.pinned (OpenSpec.upto scribeTurnsSpec)

/-- 'hasselaw.ScribeLeast', WHERE WHAT IT READS IS OF BULK AT MOST 1048576: true; the input reads as it did. -/
def scribeLeastUptoRow : OpenClaim := { program := "ytgojkabjgagjcaadoor", sum := "f5fa66f649d7db9d39fe7f1453faad2116c1adc4cf054c89143cd4fb768c86cd", func := "hasse/hasselaw.ScribeLeast", spec := "scribeLeast", inPlace := ["internal/abi.NoEscape"], unfollowed := true, recurses := true, named := ["internal/strconv.uint64pow10", "math/bits.deBruijn32tab", "math/bits.deBruijn64tab"], apart := false, laid := [("math/bits.deBruijn32tab", laid_math_bits_deBruijn32tab), ("math/bits.deBruijn64tab", laid_math_bits_deBruijn64tab), ("internal/strconv.uint64pow10", laid_internal_strconv_uint64pow10)], narrowed := true }
def ScribeLeastUptoSaid : Prop := scribeLeastUptoRow.holds Tryd.pinned (OpenSpec.upto scribeLeastSpec)

end Rows
end Go.Proofs.YtgojkabjgagjcaaDoor
