/-
  NARROWER THAN 'FOR EVERY INPUT', by the rows' own cells (each row's printed sentence says how): SeriesZigs: laid · SeriesSplits: laid · SeriesValdes: laid · SeriesTurns: loops, laid · SeriesRows: loops, laid · SeriesBuilds: loops, laid · HeytingChecks: loops, laid · HeytingForces: loops, laid · HeytingValues: loops, laid · HeytingValid: loops, laid · HeytingGlivenko: loops, laid · HeytingKripke: loops, laid.
  DERIVED. THE GIVEN ROWS OF THIS SEAT. 12 by the template 'for every input the law returns true; each argument reads behind the call as it read before'; 0 by the template 'total and deterministic' (their statements: YtbgecpjlopdkfaaDoorTotals.lean).
  GIVEN WITH THE SEED: the statements are not yours to turn. If you find one false, say at which input.
  Laid BY PROGRAM, IN A SANDBOX (cutbox-rows.mjs): the forced cells as the released guide's own fill.sh prints them over the translation 0e8715b785a4523c… (all of the seat's roots in one cut). By AI agents, Wed Nov 11 2026. No macro, syntax, notation, axiom, sorry.
-/
import Derived.Test.YtbgecpjlopdkfaaDoorChecked
import GoSem.Claim
import GoSem.ClaimJoined
import GoSem.ClaimMapViews
import Derived.JoinedTies
import Derived.KernelRfl
namespace Go.Proofs.YtbgecpjlopdkfaaDoor
/- THE CELL 'sum', in the pinned program and in every row, IS THE sha256 OF THE DUMP (.gsa) THAT YtbgecpjlopdkfaaDoorProg.lean LOADS. Nothing in Lean hashes anything: it is a label: what it is worth is what the hold of that sum in a sandbox is worth. -/
noncomputable def Tryd.pinned : Pinned := { name := "ytbgecpjlopdkfaadoor", sum := "0e8715b785a4523cf545a4a9717c1e8e8c3c367af8934426c878b1297447dbf3", checked := Tryd.checked }
namespace Rows
def none {H : Type} : Left H := { results := [], args := [] }

/- WHAT THE LISTED PACKAGE-LEVEL VARIABLES READ AS WHEN THE CALL BEGINS. Each datum BY PROGRAM (the guide's laid-datum.mjs) off the statement by which the dump's own 'gosem.cut.vars' lays the variable. In a bare row this is a premise. The card (YtbgecpjlopdkfaaDoorCards.lean) ties it to the program's text. -/
def laid_math_bits_deBruijn32tab {H : Type} : DataW H := .agg [.lit (.int .u8 0), .lit (.int .u8 1), .lit (.int .u8 28), .lit (.int .u8 2), .lit (.int .u8 29), .lit (.int .u8 14), .lit (.int .u8 24), .lit (.int .u8 3), .lit (.int .u8 30), .lit (.int .u8 22), .lit (.int .u8 20), .lit (.int .u8 15), .lit (.int .u8 25), .lit (.int .u8 17), .lit (.int .u8 4), .lit (.int .u8 8), .lit (.int .u8 31), .lit (.int .u8 27), .lit (.int .u8 13), .lit (.int .u8 23), .lit (.int .u8 21), .lit (.int .u8 19), .lit (.int .u8 16), .lit (.int .u8 7), .lit (.int .u8 26), .lit (.int .u8 12), .lit (.int .u8 18), .lit (.int .u8 6), .lit (.int .u8 11), .lit (.int .u8 5), .lit (.int .u8 10), .lit (.int .u8 9)]
def laid_math_bits_deBruijn64tab {H : Type} : DataW H := .agg [.lit (.int .u8 0), .lit (.int .u8 1), .lit (.int .u8 56), .lit (.int .u8 2), .lit (.int .u8 57), .lit (.int .u8 49), .lit (.int .u8 28), .lit (.int .u8 3), .lit (.int .u8 61), .lit (.int .u8 58), .lit (.int .u8 42), .lit (.int .u8 50), .lit (.int .u8 38), .lit (.int .u8 29), .lit (.int .u8 17), .lit (.int .u8 4), .lit (.int .u8 62), .lit (.int .u8 47), .lit (.int .u8 59), .lit (.int .u8 36), .lit (.int .u8 45), .lit (.int .u8 43), .lit (.int .u8 51), .lit (.int .u8 22), .lit (.int .u8 53), .lit (.int .u8 39), .lit (.int .u8 33), .lit (.int .u8 30), .lit (.int .u8 24), .lit (.int .u8 18), .lit (.int .u8 12), .lit (.int .u8 5), .lit (.int .u8 63), .lit (.int .u8 55), .lit (.int .u8 48), .lit (.int .u8 27), .lit (.int .u8 60), .lit (.int .u8 41), .lit (.int .u8 37), .lit (.int .u8 16), .lit (.int .u8 46), .lit (.int .u8 35), .lit (.int .u8 44), .lit (.int .u8 21), .lit (.int .u8 52), .lit (.int .u8 32), .lit (.int .u8 23), .lit (.int .u8 11), .lit (.int .u8 54), .lit (.int .u8 26), .lit (.int .u8 40), .lit (.int .u8 15), .lit (.int .u8 34), .lit (.int .u8 20), .lit (.int .u8 31), .lit (.int .u8 10), .lit (.int .u8 25), .lit (.int .u8 14), .lit (.int .u8 19), .lit (.int .u8 9), .lit (.int .u8 13), .lit (.int .u8 8), .lit (.int .u8 7), .lit (.int .u8 6)]

/-- 'hasselaw.SeriesZigs': WHATEVER THE INPUT: true; the input reads as it did. -/
def seriesZigsSpec : ChangeSpec := { name := "seriesZigs", fn := fun _ => fun
  | [d] => { results := [.lit (.bool true)], args := [d] }
  | _ => none }
def seriesZigsRow : OpenClaim := { program := "ytbgecpjlopdkfaadoor", sum := "0e8715b785a4523cf545a4a9717c1e8e8c3c367af8934426c878b1297447dbf3", func := "hasse/hasselaw.SeriesZigs", spec := "seriesZigs", unfollowed := true, recurses := true, named := ["math/bits.deBruijn32tab", "math/bits.deBruijn64tab"], apart := false, laid := [("math/bits.deBruijn32tab", laid_math_bits_deBruijn32tab), ("math/bits.deBruijn64tab", laid_math_bits_deBruijn64tab)] }
def SeriesZigsSaid : Prop := seriesZigsRow.holds Tryd.pinned (OpenSpec.ofChange seriesZigsSpec)

/-- ITS FALSE NEIGHBOUR: 'it returns false'. Refute it at one input. -/
def seriesZigsWrong : ChangeSpec := { name := "seriesZigs", fn := fun _ => fun
  | [d] => { results := [.lit (.bool false)], args := [d] }
  | _ => none }
def SeriesZigsWrongFalsely : Prop := seriesZigsRow.holds Tryd.pinned (OpenSpec.ofChange seriesZigsWrong)

/-- 'hasselaw.SeriesSplits': WHATEVER THE INPUT: true; the input reads as it did. -/
def seriesSplitsSpec : ChangeSpec := { name := "seriesSplits", fn := fun _ => fun
  | [d] => { results := [.lit (.bool true)], args := [d] }
  | _ => none }
def seriesSplitsRow : OpenClaim := { program := "ytbgecpjlopdkfaadoor", sum := "0e8715b785a4523cf545a4a9717c1e8e8c3c367af8934426c878b1297447dbf3", func := "hasse/hasselaw.SeriesSplits", spec := "seriesSplits", unfollowed := true, recurses := true, named := ["math/bits.deBruijn32tab", "math/bits.deBruijn64tab"], apart := false, laid := [("math/bits.deBruijn32tab", laid_math_bits_deBruijn32tab), ("math/bits.deBruijn64tab", laid_math_bits_deBruijn64tab)] }
def SeriesSplitsSaid : Prop := seriesSplitsRow.holds Tryd.pinned (OpenSpec.ofChange seriesSplitsSpec)

/-- ITS FALSE NEIGHBOUR: 'it returns false'. Refute it at one input. -/
def seriesSplitsWrong : ChangeSpec := { name := "seriesSplits", fn := fun _ => fun
  | [d] => { results := [.lit (.bool false)], args := [d] }
  | _ => none }
def SeriesSplitsWrongFalsely : Prop := seriesSplitsRow.holds Tryd.pinned (OpenSpec.ofChange seriesSplitsWrong)

/-- 'hasselaw.SeriesValdes': WHATEVER THE INPUT: true; the input reads as it did. -/
def seriesValdesSpec : ChangeSpec := { name := "seriesValdes", fn := fun _ => fun
  | [d] => { results := [.lit (.bool true)], args := [d] }
  | _ => none }
def seriesValdesRow : OpenClaim := { program := "ytbgecpjlopdkfaadoor", sum := "0e8715b785a4523cf545a4a9717c1e8e8c3c367af8934426c878b1297447dbf3", func := "hasse/hasselaw.SeriesValdes", spec := "seriesValdes", unfollowed := true, recurses := true, named := ["math/bits.deBruijn32tab", "math/bits.deBruijn64tab"], apart := false, laid := [("math/bits.deBruijn32tab", laid_math_bits_deBruijn32tab), ("math/bits.deBruijn64tab", laid_math_bits_deBruijn64tab)] }
def SeriesValdesSaid : Prop := seriesValdesRow.holds Tryd.pinned (OpenSpec.ofChange seriesValdesSpec)

/-- ITS FALSE NEIGHBOUR: 'it returns false'. Refute it at one input. -/
def seriesValdesWrong : ChangeSpec := { name := "seriesValdes", fn := fun _ => fun
  | [d] => { results := [.lit (.bool false)], args := [d] }
  | _ => none }
def SeriesValdesWrongFalsely : Prop := seriesValdesRow.holds Tryd.pinned (OpenSpec.ofChange seriesValdesWrong)

/-- 'hasselaw.SeriesTurns': WHATEVER THE INPUT: true; the input reads as it did. -/
def seriesTurnsSpec : ChangeSpec := { name := "seriesTurns", fn := fun _ => fun
  | [d] => { results := [.lit (.bool true)], args := [d] }
  | _ => none }
def seriesTurnsRow : OpenClaim := { program := "ytbgecpjlopdkfaadoor", sum := "0e8715b785a4523cf545a4a9717c1e8e8c3c367af8934426c878b1297447dbf3", func := "hasse/hasselaw.SeriesTurns", spec := "seriesTurns", unfollowed := true, recurses := true, named := ["math/bits.deBruijn32tab", "math/bits.deBruijn64tab"], loops := true, apart := false, laid := [("math/bits.deBruijn32tab", laid_math_bits_deBruijn32tab), ("math/bits.deBruijn64tab", laid_math_bits_deBruijn64tab)] }
def SeriesTurnsSaid : Prop := seriesTurnsRow.holds Tryd.pinned (OpenSpec.ofChange seriesTurnsSpec)

/-- ITS FALSE NEIGHBOUR: 'it returns false'. Refute it at one input. -/
def seriesTurnsWrong : ChangeSpec := { name := "seriesTurns", fn := fun _ => fun
  | [d] => { results := [.lit (.bool false)], args := [d] }
  | _ => none }
def SeriesTurnsWrongFalsely : Prop := seriesTurnsRow.holds Tryd.pinned (OpenSpec.ofChange seriesTurnsWrong)

/-- 'hasselaw.SeriesRows': WHATEVER THE INPUT: true; the input reads as it did. -/
def seriesRowsSpec : ChangeSpec := { name := "seriesRows", fn := fun _ => fun
  | [d] => { results := [.lit (.bool true)], args := [d] }
  | _ => none }
def seriesRowsRow : OpenClaim := { program := "ytbgecpjlopdkfaadoor", sum := "0e8715b785a4523cf545a4a9717c1e8e8c3c367af8934426c878b1297447dbf3", func := "hasse/hasselaw.SeriesRows", spec := "seriesRows", unfollowed := true, recurses := true, named := ["math/bits.deBruijn32tab", "math/bits.deBruijn64tab"], loops := true, apart := false, laid := [("math/bits.deBruijn32tab", laid_math_bits_deBruijn32tab), ("math/bits.deBruijn64tab", laid_math_bits_deBruijn64tab)] }
def SeriesRowsSaid : Prop := seriesRowsRow.holds Tryd.pinned (OpenSpec.ofChange seriesRowsSpec)

/-- ITS FALSE NEIGHBOUR: 'it returns false'. Refute it at one input. -/
def seriesRowsWrong : ChangeSpec := { name := "seriesRows", fn := fun _ => fun
  | [d] => { results := [.lit (.bool false)], args := [d] }
  | _ => none }
def SeriesRowsWrongFalsely : Prop := seriesRowsRow.holds Tryd.pinned (OpenSpec.ofChange seriesRowsWrong)

/-- 'hasselaw.SeriesBuilds': WHATEVER THE INPUT: true; the input reads as it did. -/
def seriesBuildsSpec : ChangeSpec := { name := "seriesBuilds", fn := fun _ => fun
  | [d] => { results := [.lit (.bool true)], args := [d] }
  | _ => none }
def seriesBuildsRow : OpenClaim := { program := "ytbgecpjlopdkfaadoor", sum := "0e8715b785a4523cf545a4a9717c1e8e8c3c367af8934426c878b1297447dbf3", func := "hasse/hasselaw.SeriesBuilds", spec := "seriesBuilds", unfollowed := true, recurses := true, named := ["math/bits.deBruijn32tab", "math/bits.deBruijn64tab"], loops := true, apart := false, laid := [("math/bits.deBruijn32tab", laid_math_bits_deBruijn32tab), ("math/bits.deBruijn64tab", laid_math_bits_deBruijn64tab)] }
def SeriesBuildsSaid : Prop := seriesBuildsRow.holds Tryd.pinned (OpenSpec.ofChange seriesBuildsSpec)

/-- ITS FALSE NEIGHBOUR: 'it returns false'. Refute it at one input. -/
def seriesBuildsWrong : ChangeSpec := { name := "seriesBuilds", fn := fun _ => fun
  | [d] => { results := [.lit (.bool false)], args := [d] }
  | _ => none }
def SeriesBuildsWrongFalsely : Prop := seriesBuildsRow.holds Tryd.pinned (OpenSpec.ofChange seriesBuildsWrong)

/-- 'hasselaw.HeytingChecks': WHATEVER THE INPUT: true; the input reads as it did. -/
def heytingChecksSpec : ChangeSpec := { name := "heytingChecks", fn := fun _ => fun
  | [d] => { results := [.lit (.bool true)], args := [d] }
  | _ => none }
def heytingChecksRow : OpenClaim := { program := "ytbgecpjlopdkfaadoor", sum := "0e8715b785a4523cf545a4a9717c1e8e8c3c367af8934426c878b1297447dbf3", func := "hasse/hasselaw.HeytingChecks", spec := "heytingChecks", inPlace := ["sync/atomic.LoadUint32", "(*internal/sync.Mutex).Lock", "internal/race.Disable", "sync/atomic.CompareAndSwapInt32", "internal/race.Enable", "internal/race.Acquire", "(*internal/sync.Mutex).lockSlow", "internal/sync.runtime_canSpin", "internal/sync.runtime_doSpin", "internal/sync.throw", "internal/sync.runtime_nanotime", "internal/sync.runtime_SemacquireMutex", "sync/atomic.AddInt32", "(*internal/sync.Mutex).Unlock", "internal/race.ReleaseMerge", "(*internal/sync.Mutex).unlockSlow", "internal/sync.fatal", "internal/sync.runtime_Semrelease", "sync/atomic.StoreUint32"], unfollowed := true, recurses := true, named := ["math/bits.deBruijn32tab", "math/bits.deBruijn64tab"], loops := true, apart := false, laid := [("math/bits.deBruijn32tab", laid_math_bits_deBruijn32tab), ("math/bits.deBruijn64tab", laid_math_bits_deBruijn64tab)] }
def HeytingChecksSaid : Prop := heytingChecksRow.holds Tryd.pinned (OpenSpec.ofChange heytingChecksSpec)

/-- ITS FALSE NEIGHBOUR: 'it returns false'. Refute it at one input. -/
def heytingChecksWrong : ChangeSpec := { name := "heytingChecks", fn := fun _ => fun
  | [d] => { results := [.lit (.bool false)], args := [d] }
  | _ => none }
def HeytingChecksWrongFalsely : Prop := heytingChecksRow.holds Tryd.pinned (OpenSpec.ofChange heytingChecksWrong)

/-- 'hasselaw.HeytingForces': WHATEVER THE INPUT: true; the input reads as it did. -/
def heytingForcesSpec : ChangeSpec := { name := "heytingForces", fn := fun _ => fun
  | [d1, d2, d3, d4] => { results := [.lit (.bool true)], args := [d1, d2, d3, d4] }
  | _ => none }
def heytingForcesRow : OpenClaim := { program := "ytbgecpjlopdkfaadoor", sum := "0e8715b785a4523cf545a4a9717c1e8e8c3c367af8934426c878b1297447dbf3", func := "hasse/hasselaw.HeytingForces", spec := "heytingForces", inPlace := ["sync/atomic.LoadUint32", "(*internal/sync.Mutex).Lock", "internal/race.Disable", "sync/atomic.CompareAndSwapInt32", "internal/race.Enable", "internal/race.Acquire", "(*internal/sync.Mutex).lockSlow", "internal/sync.runtime_canSpin", "internal/sync.runtime_doSpin", "internal/sync.throw", "internal/sync.runtime_nanotime", "internal/sync.runtime_SemacquireMutex", "sync/atomic.AddInt32", "(*internal/sync.Mutex).Unlock", "internal/race.ReleaseMerge", "(*internal/sync.Mutex).unlockSlow", "internal/sync.fatal", "internal/sync.runtime_Semrelease", "sync/atomic.StoreUint32"], unfollowed := true, recurses := true, named := ["math/bits.deBruijn32tab", "math/bits.deBruijn64tab"], loops := true, apart := false, laid := [("math/bits.deBruijn32tab", laid_math_bits_deBruijn32tab), ("math/bits.deBruijn64tab", laid_math_bits_deBruijn64tab)] }
def HeytingForcesSaid : Prop := heytingForcesRow.holds Tryd.pinned (OpenSpec.ofChange heytingForcesSpec)

/-- ITS FALSE NEIGHBOUR: 'it returns false'. Refute it at one input. -/
def heytingForcesWrong : ChangeSpec := { name := "heytingForces", fn := fun _ => fun
  | [d1, d2, d3, d4] => { results := [.lit (.bool false)], args := [d1, d2, d3, d4] }
  | _ => none }
def HeytingForcesWrongFalsely : Prop := heytingForcesRow.holds Tryd.pinned (OpenSpec.ofChange heytingForcesWrong)

/-- 'hasselaw.HeytingValues': WHATEVER THE INPUT: true; the input reads as it did. -/
def heytingValuesSpec : ChangeSpec := { name := "heytingValues", fn := fun _ => fun
  | [d1, d2, d3] => { results := [.lit (.bool true)], args := [d1, d2, d3] }
  | _ => none }
def heytingValuesRow : OpenClaim := { program := "ytbgecpjlopdkfaadoor", sum := "0e8715b785a4523cf545a4a9717c1e8e8c3c367af8934426c878b1297447dbf3", func := "hasse/hasselaw.HeytingValues", spec := "heytingValues", inPlace := ["sync/atomic.LoadUint32", "(*internal/sync.Mutex).Lock", "internal/race.Disable", "sync/atomic.CompareAndSwapInt32", "internal/race.Enable", "internal/race.Acquire", "(*internal/sync.Mutex).lockSlow", "internal/sync.runtime_canSpin", "internal/sync.runtime_doSpin", "internal/sync.throw", "internal/sync.runtime_nanotime", "internal/sync.runtime_SemacquireMutex", "sync/atomic.AddInt32", "(*internal/sync.Mutex).Unlock", "internal/race.ReleaseMerge", "(*internal/sync.Mutex).unlockSlow", "internal/sync.fatal", "internal/sync.runtime_Semrelease", "sync/atomic.StoreUint32"], unfollowed := true, recurses := true, named := ["math/bits.deBruijn32tab", "math/bits.deBruijn64tab"], loops := true, apart := false, laid := [("math/bits.deBruijn32tab", laid_math_bits_deBruijn32tab), ("math/bits.deBruijn64tab", laid_math_bits_deBruijn64tab)] }
def HeytingValuesSaid : Prop := heytingValuesRow.holds Tryd.pinned (OpenSpec.ofChange heytingValuesSpec)

/-- ITS FALSE NEIGHBOUR: 'it returns false'. Refute it at one input. -/
def heytingValuesWrong : ChangeSpec := { name := "heytingValues", fn := fun _ => fun
  | [d1, d2, d3] => { results := [.lit (.bool false)], args := [d1, d2, d3] }
  | _ => none }
def HeytingValuesWrongFalsely : Prop := heytingValuesRow.holds Tryd.pinned (OpenSpec.ofChange heytingValuesWrong)

/-- 'hasselaw.HeytingValid': WHATEVER THE INPUT: true; the input reads as it did. -/
def heytingValidSpec : ChangeSpec := { name := "heytingValid", fn := fun _ => fun
  | [d1, d2] => { results := [.lit (.bool true)], args := [d1, d2] }
  | _ => none }
def heytingValidRow : OpenClaim := { program := "ytbgecpjlopdkfaadoor", sum := "0e8715b785a4523cf545a4a9717c1e8e8c3c367af8934426c878b1297447dbf3", func := "hasse/hasselaw.HeytingValid", spec := "heytingValid", inPlace := ["sync/atomic.LoadUint32", "(*internal/sync.Mutex).Lock", "internal/race.Disable", "sync/atomic.CompareAndSwapInt32", "internal/race.Enable", "internal/race.Acquire", "(*internal/sync.Mutex).lockSlow", "internal/sync.runtime_canSpin", "internal/sync.runtime_doSpin", "internal/sync.throw", "internal/sync.runtime_nanotime", "internal/sync.runtime_SemacquireMutex", "sync/atomic.AddInt32", "(*internal/sync.Mutex).Unlock", "internal/race.ReleaseMerge", "(*internal/sync.Mutex).unlockSlow", "internal/sync.fatal", "internal/sync.runtime_Semrelease", "sync/atomic.StoreUint32"], unfollowed := true, recurses := true, named := ["math/bits.deBruijn32tab", "math/bits.deBruijn64tab"], loops := true, apart := false, laid := [("math/bits.deBruijn32tab", laid_math_bits_deBruijn32tab), ("math/bits.deBruijn64tab", laid_math_bits_deBruijn64tab)] }
def HeytingValidSaid : Prop := heytingValidRow.holds Tryd.pinned (OpenSpec.ofChange heytingValidSpec)

/-- ITS FALSE NEIGHBOUR: 'it returns false'. Refute it at one input. -/
def heytingValidWrong : ChangeSpec := { name := "heytingValid", fn := fun _ => fun
  | [d1, d2] => { results := [.lit (.bool false)], args := [d1, d2] }
  | _ => none }
def HeytingValidWrongFalsely : Prop := heytingValidRow.holds Tryd.pinned (OpenSpec.ofChange heytingValidWrong)

/-- 'hasselaw.HeytingGlivenko': WHATEVER THE INPUT: true; the input reads as it did. -/
def heytingGlivenkoSpec : ChangeSpec := { name := "heytingGlivenko", fn := fun _ => fun
  | [d1, d2] => { results := [.lit (.bool true)], args := [d1, d2] }
  | _ => none }
def heytingGlivenkoRow : OpenClaim := { program := "ytbgecpjlopdkfaadoor", sum := "0e8715b785a4523cf545a4a9717c1e8e8c3c367af8934426c878b1297447dbf3", func := "hasse/hasselaw.HeytingGlivenko", spec := "heytingGlivenko", inPlace := ["sync/atomic.LoadUint32", "(*internal/sync.Mutex).Lock", "internal/race.Disable", "sync/atomic.CompareAndSwapInt32", "internal/race.Enable", "internal/race.Acquire", "(*internal/sync.Mutex).lockSlow", "internal/sync.runtime_canSpin", "internal/sync.runtime_doSpin", "internal/sync.throw", "internal/sync.runtime_nanotime", "internal/sync.runtime_SemacquireMutex", "sync/atomic.AddInt32", "(*internal/sync.Mutex).Unlock", "internal/race.ReleaseMerge", "(*internal/sync.Mutex).unlockSlow", "internal/sync.fatal", "internal/sync.runtime_Semrelease", "sync/atomic.StoreUint32"], unfollowed := true, recurses := true, named := ["math/bits.deBruijn32tab", "math/bits.deBruijn64tab"], loops := true, apart := false, laid := [("math/bits.deBruijn32tab", laid_math_bits_deBruijn32tab), ("math/bits.deBruijn64tab", laid_math_bits_deBruijn64tab)] }
def HeytingGlivenkoSaid : Prop := heytingGlivenkoRow.holds Tryd.pinned (OpenSpec.ofChange heytingGlivenkoSpec)

/-- ITS FALSE NEIGHBOUR: 'it returns false'. Refute it at one input. -/
def heytingGlivenkoWrong : ChangeSpec := { name := "heytingGlivenko", fn := fun _ => fun
  | [d1, d2] => { results := [.lit (.bool false)], args := [d1, d2] }
  | _ => none }
def HeytingGlivenkoWrongFalsely : Prop := heytingGlivenkoRow.holds Tryd.pinned (OpenSpec.ofChange heytingGlivenkoWrong)

/-- 'hasselaw.HeytingKripke': WHATEVER THE INPUT: true; the input reads as it did. -/
def heytingKripkeSpec : ChangeSpec := { name := "heytingKripke", fn := fun _ => fun
  | [d1, d2, d3] => { results := [.lit (.bool true)], args := [d1, d2, d3] }
  | _ => none }
def heytingKripkeRow : OpenClaim := { program := "ytbgecpjlopdkfaadoor", sum := "0e8715b785a4523cf545a4a9717c1e8e8c3c367af8934426c878b1297447dbf3", func := "hasse/hasselaw.HeytingKripke", spec := "heytingKripke", inPlace := ["sync/atomic.LoadUint32", "(*internal/sync.Mutex).Lock", "internal/race.Disable", "sync/atomic.CompareAndSwapInt32", "internal/race.Enable", "internal/race.Acquire", "(*internal/sync.Mutex).lockSlow", "internal/sync.runtime_canSpin", "internal/sync.runtime_doSpin", "internal/sync.throw", "internal/sync.runtime_nanotime", "internal/sync.runtime_SemacquireMutex", "sync/atomic.AddInt32", "(*internal/sync.Mutex).Unlock", "internal/race.ReleaseMerge", "(*internal/sync.Mutex).unlockSlow", "internal/sync.fatal", "internal/sync.runtime_Semrelease", "sync/atomic.StoreUint32"], unfollowed := true, recurses := true, named := ["math/bits.deBruijn32tab", "math/bits.deBruijn64tab"], loops := true, apart := false, laid := [("math/bits.deBruijn32tab", laid_math_bits_deBruijn32tab), ("math/bits.deBruijn64tab", laid_math_bits_deBruijn64tab)] }
def HeytingKripkeSaid : Prop := heytingKripkeRow.holds Tryd.pinned (OpenSpec.ofChange heytingKripkeSpec)

/-- ITS FALSE NEIGHBOUR: 'it returns false'. Refute it at one input. -/
def heytingKripkeWrong : ChangeSpec := { name := "heytingKripke", fn := fun _ => fun
  | [d1, d2, d3] => { results := [.lit (.bool false)], args := [d1, d2, d3] }
  | _ => none }
def HeytingKripkeWrongFalsely : Prop := heytingKripkeRow.holds Tryd.pinned (OpenSpec.ofChange heytingKripkeWrong)

/- THE SECOND FORM. 'bulk': how many values and letters a reading holds, each counted each time it is reached (what is shared counts as often as it is met; a slice's spare places count too). A statement '..UptoSaid' is the law's where the arguments, and the package variables that the reading takes, are together of bulk at most 1048576: NARROWER than '..Said'. Prove '..Said' where nothing that the law and all that it calls make is longer than what came in: it says more and counts as full. Else prove '..UptoSaid'. A law counts once. -/
mutual
def uptoBulk {H : Type} : DataW H → Nat
  | .lit (.string bytes) => bytes.length + 1
  | .lit _ => 1
  | .nil => 1
  | .ptr d => uptoBulk d + 1
  | .slice elems spare => uptoBulkAll elems + uptoBulkAll spare + 1
  | .agg parts => uptoBulkAll parts + 1
  | .iface _ d => uptoBulk d + 1
  | .map entries => uptoBulkEntries entries + 1
  | .held _ => 1
def uptoBulkAll {H : Type} : List (DataW H) → Nat
  | [] => 0
  | d :: r => uptoBulk d + uptoBulkAll r
def uptoBulkEntries {H : Type} : List (Lit × DataW H) → Nat
  | [] => 0
  | x :: r => uptoBulkEntry x + uptoBulkEntries r
def uptoBulkEntry {H : Type} : Lit × DataW H → Nat
  | (.string bytes, d) => bytes.length + uptoBulk d + 1
  | (_, d) => uptoBulk d + 1
 end
def uptoSmall : (H : Type) → List (DataW H) → Bool := fun _ ds => decide (uptoBulkAll ds ≤ 1048576)
def OpenSpec.upto (s : _root_.Go.ChangeSpec) : _root_.Go.OpenSpec := { _root_.Go.OpenSpec.ofChange s with cond := some uptoSmall }

/-- 'hasselaw.SeriesZigs', WHERE WHAT IT READS IS OF BULK AT MOST 1048576: true; the input reads as it did. -/
def seriesZigsUptoRow : OpenClaim := { program := "ytbgecpjlopdkfaadoor", sum := "0e8715b785a4523cf545a4a9717c1e8e8c3c367af8934426c878b1297447dbf3", func := "hasse/hasselaw.SeriesZigs", spec := "seriesZigs", unfollowed := true, recurses := true, named := ["math/bits.deBruijn32tab", "math/bits.deBruijn64tab"], apart := false, laid := [("math/bits.deBruijn32tab", laid_math_bits_deBruijn32tab), ("math/bits.deBruijn64tab", laid_math_bits_deBruijn64tab)], narrowed := true }
def SeriesZigsUptoSaid : Prop := seriesZigsUptoRow.holds Tryd.pinned (OpenSpec.upto seriesZigsSpec)

/-- 'hasselaw.SeriesSplits', WHERE WHAT IT READS IS OF BULK AT MOST 1048576: true; the input reads as it did. -/
def seriesSplitsUptoRow : OpenClaim := { program := "ytbgecpjlopdkfaadoor", sum := "0e8715b785a4523cf545a4a9717c1e8e8c3c367af8934426c878b1297447dbf3", func := "hasse/hasselaw.SeriesSplits", spec := "seriesSplits", unfollowed := true, recurses := true, named := ["math/bits.deBruijn32tab", "math/bits.deBruijn64tab"], apart := false, laid := [("math/bits.deBruijn32tab", laid_math_bits_deBruijn32tab), ("math/bits.deBruijn64tab", laid_math_bits_deBruijn64tab)], narrowed := true }
def SeriesSplitsUptoSaid : Prop := seriesSplitsUptoRow.holds Tryd.pinned (OpenSpec.upto seriesSplitsSpec)

/-- 'hasselaw.SeriesValdes', WHERE WHAT IT READS IS OF BULK AT MOST 1048576: true; the input reads as it did. -/
def seriesValdesUptoRow : OpenClaim := { program := "ytbgecpjlopdkfaadoor", sum := "0e8715b785a4523cf545a4a9717c1e8e8c3c367af8934426c878b1297447dbf3", func := "hasse/hasselaw.SeriesValdes", spec := "seriesValdes", unfollowed := true, recurses := true, named := ["math/bits.deBruijn32tab", "math/bits.deBruijn64tab"], apart := false, laid := [("math/bits.deBruijn32tab", laid_math_bits_deBruijn32tab), ("math/bits.deBruijn64tab", laid_math_bits_deBruijn64tab)], narrowed := true }
def SeriesValdesUptoSaid : Prop := seriesValdesUptoRow.holds Tryd.pinned (OpenSpec.upto seriesValdesSpec)

/-- 'hasselaw.SeriesTurns', WHERE WHAT IT READS IS OF BULK AT MOST 1048576: true; the input reads as it did. -/
def seriesTurnsUptoRow : OpenClaim := { program := "ytbgecpjlopdkfaadoor", sum := "0e8715b785a4523cf545a4a9717c1e8e8c3c367af8934426c878b1297447dbf3", func := "hasse/hasselaw.SeriesTurns", spec := "seriesTurns", unfollowed := true, recurses := true, named := ["math/bits.deBruijn32tab", "math/bits.deBruijn64tab"], loops := true, apart := false, laid := [("math/bits.deBruijn32tab", laid_math_bits_deBruijn32tab), ("math/bits.deBruijn64tab", laid_math_bits_deBruijn64tab)], narrowed := true }
def SeriesTurnsUptoSaid : Prop := seriesTurnsUptoRow.holds Tryd.pinned (OpenSpec.upto seriesTurnsSpec)

/-- 'hasselaw.SeriesRows', WHERE WHAT IT READS IS OF BULK AT MOST 1048576: true; the input reads as it did. -/
def seriesRowsUptoRow : OpenClaim := { program := "ytbgecpjlopdkfaadoor", sum := "0e8715b785a4523cf545a4a9717c1e8e8c3c367af8934426c878b1297447dbf3", func := "hasse/hasselaw.SeriesRows", spec := "seriesRows", unfollowed := true, recurses := true, named := ["math/bits.deBruijn32tab", "math/bits.deBruijn64tab"], loops := true, apart := false, laid := [("math/bits.deBruijn32tab", laid_math_bits_deBruijn32tab), ("math/bits.deBruijn64tab", laid_math_bits_deBruijn64tab)], narrowed := true }
def SeriesRowsUptoSaid : Prop := seriesRowsUptoRow.holds Tryd.pinned (OpenSpec.upto seriesRowsSpec)

/-- 'hasselaw.SeriesBuilds', WHERE WHAT IT READS IS OF BULK AT MOST 1048576: true; the input reads as it did. -/
def seriesBuildsUptoRow : OpenClaim := { program := "ytbgecpjlopdkfaadoor", sum := "0e8715b785a4523cf545a4a9717c1e8e8c3c367af8934426c878b1297447dbf3", func := "hasse/hasselaw.SeriesBuilds", spec := "seriesBuilds", unfollowed := true, recurses := true, named := ["math/bits.deBruijn32tab", "math/bits.deBruijn64tab"], loops := true, apart := false, laid := [("math/bits.deBruijn32tab", laid_math_bits_deBruijn32tab), ("math/bits.deBruijn64tab", laid_math_bits_deBruijn64tab)], narrowed := true }
def SeriesBuildsUptoSaid : Prop := seriesBuildsUptoRow.holds Tryd.pinned (OpenSpec.upto seriesBuildsSpec)

/-- 'hasselaw.HeytingChecks', WHERE WHAT IT READS IS OF BULK AT MOST 1048576: true; the input reads as it did. -/
def heytingChecksUptoRow : OpenClaim := { program := "ytbgecpjlopdkfaadoor", sum := "0e8715b785a4523cf545a4a9717c1e8e8c3c367af8934426c878b1297447dbf3", func := "hasse/hasselaw.HeytingChecks", spec := "heytingChecks", inPlace := ["sync/atomic.LoadUint32", "(*internal/sync.Mutex).Lock", "internal/race.Disable", "sync/atomic.CompareAndSwapInt32", "internal/race.Enable", "internal/race.Acquire", "(*internal/sync.Mutex).lockSlow", "internal/sync.runtime_canSpin", "internal/sync.runtime_doSpin", "internal/sync.throw", "internal/sync.runtime_nanotime", "internal/sync.runtime_SemacquireMutex", "sync/atomic.AddInt32", "(*internal/sync.Mutex).Unlock", "internal/race.ReleaseMerge", "(*internal/sync.Mutex).unlockSlow", "internal/sync.fatal", "internal/sync.runtime_Semrelease", "sync/atomic.StoreUint32"], unfollowed := true, recurses := true, named := ["math/bits.deBruijn32tab", "math/bits.deBruijn64tab"], loops := true, apart := false, laid := [("math/bits.deBruijn32tab", laid_math_bits_deBruijn32tab), ("math/bits.deBruijn64tab", laid_math_bits_deBruijn64tab)], narrowed := true }
def HeytingChecksUptoSaid : Prop := heytingChecksUptoRow.holds Tryd.pinned (OpenSpec.upto heytingChecksSpec)

/-- 'hasselaw.HeytingForces', WHERE WHAT IT READS IS OF BULK AT MOST 1048576: true; the input reads as it did. -/
def heytingForcesUptoRow : OpenClaim := { program := "ytbgecpjlopdkfaadoor", sum := "0e8715b785a4523cf545a4a9717c1e8e8c3c367af8934426c878b1297447dbf3", func := "hasse/hasselaw.HeytingForces", spec := "heytingForces", inPlace := ["sync/atomic.LoadUint32", "(*internal/sync.Mutex).Lock", "internal/race.Disable", "sync/atomic.CompareAndSwapInt32", "internal/race.Enable", "internal/race.Acquire", "(*internal/sync.Mutex).lockSlow", "internal/sync.runtime_canSpin", "internal/sync.runtime_doSpin", "internal/sync.throw", "internal/sync.runtime_nanotime", "internal/sync.runtime_SemacquireMutex", "sync/atomic.AddInt32", "(*internal/sync.Mutex).Unlock", "internal/race.ReleaseMerge", "(*internal/sync.Mutex).unlockSlow", "internal/sync.fatal", "internal/sync.runtime_Semrelease", "sync/atomic.StoreUint32"], unfollowed := true, recurses := true, named := ["math/bits.deBruijn32tab", "math/bits.deBruijn64tab"], loops := true, apart := false, laid := [("math/bits.deBruijn32tab", laid_math_bits_deBruijn32tab), ("math/bits.deBruijn64tab", laid_math_bits_deBruijn64tab)], narrowed := true }
def HeytingForcesUptoSaid : Prop := heytingForcesUptoRow.holds Tryd.pinned (OpenSpec.upto heytingForcesSpec)

/-- 'hasselaw.HeytingValues', WHERE WHAT IT READS IS OF BULK AT MOST 1048576: true; the input reads as it did. -/
def heytingValuesUptoRow : OpenClaim := { program := "ytbgecpjlopdkfaadoor", sum := "0e8715b785a4523cf545a4a9717c1e8e8c3c367af8934426c878b1297447dbf3", func := "hasse/hasselaw.HeytingValues", spec := "heytingValues", inPlace := ["sync/atomic.LoadUint32", "(*internal/sync.Mutex).Lock", "internal/race.Disable", "sync/atomic.CompareAndSwapInt32", "internal/race.Enable", "internal/race.Acquire", "(*internal/sync.Mutex).lockSlow", "internal/sync.runtime_canSpin", "internal/sync.runtime_doSpin", "internal/sync.throw", "internal/sync.runtime_nanotime", "internal/sync.runtime_SemacquireMutex", "sync/atomic.AddInt32", "(*internal/sync.Mutex).Unlock", "internal/race.ReleaseMerge", "(*internal/sync.Mutex).unlockSlow", "internal/sync.fatal", "internal/sync.runtime_Semrelease", "sync/atomic.StoreUint32"], unfollowed := true, recurses := true, named := ["math/bits.deBruijn32tab", "math/bits.deBruijn64tab"], loops := true, apart := false, laid := [("math/bits.deBruijn32tab", laid_math_bits_deBruijn32tab), ("math/bits.deBruijn64tab", laid_math_bits_deBruijn64tab)], narrowed := true }
def HeytingValuesUptoSaid : Prop := heytingValuesUptoRow.holds Tryd.pinned (OpenSpec.upto heytingValuesSpec)

/-- 'hasselaw.HeytingValid', WHERE WHAT IT READS IS OF BULK AT MOST 1048576: true; the input reads as it did. -/
def heytingValidUptoRow : OpenClaim := { program := "ytbgecpjlopdkfaadoor", sum := "0e8715b785a4523cf545a4a9717c1e8e8c3c367af8934426c878b1297447dbf3", func := "hasse/hasselaw.HeytingValid", spec := "heytingValid", inPlace := ["sync/atomic.LoadUint32", "(*internal/sync.Mutex).Lock", "internal/race.Disable", "sync/atomic.CompareAndSwapInt32", "internal/race.Enable", "internal/race.Acquire", "(*internal/sync.Mutex).lockSlow", "internal/sync.runtime_canSpin", "internal/sync.runtime_doSpin", "internal/sync.throw", "internal/sync.runtime_nanotime", "internal/sync.runtime_SemacquireMutex", "sync/atomic.AddInt32", "(*internal/sync.Mutex).Unlock", "internal/race.ReleaseMerge", "(*internal/sync.Mutex).unlockSlow", "internal/sync.fatal", "internal/sync.runtime_Semrelease", "sync/atomic.StoreUint32"], unfollowed := true, recurses := true, named := ["math/bits.deBruijn32tab", "math/bits.deBruijn64tab"], loops := true, apart := false, laid := [("math/bits.deBruijn32tab", laid_math_bits_deBruijn32tab), ("math/bits.deBruijn64tab", laid_math_bits_deBruijn64tab)], narrowed := true }
def HeytingValidUptoSaid : Prop := heytingValidUptoRow.holds Tryd.pinned (OpenSpec.upto heytingValidSpec)

/-- 'hasselaw.HeytingGlivenko', WHERE WHAT IT READS IS OF BULK AT MOST 1048576: true; the input reads as it did. -/
def heytingGlivenkoUptoRow : OpenClaim := { program := "ytbgecpjlopdkfaadoor", sum := "0e8715b785a4523cf545a4a9717c1e8e8c3c367af8934426c878b1297447dbf3", func := "hasse/hasselaw.HeytingGlivenko", spec := "heytingGlivenko", inPlace := ["sync/atomic.LoadUint32", "(*internal/sync.Mutex).Lock", "internal/race.Disable", "sync/atomic.CompareAndSwapInt32", "internal/race.Enable", "internal/race.Acquire", "(*internal/sync.Mutex).lockSlow", "internal/sync.runtime_canSpin", "internal/sync.runtime_doSpin", "internal/sync.throw", "internal/sync.runtime_nanotime", "internal/sync.runtime_SemacquireMutex", "sync/atomic.AddInt32", "(*internal/sync.Mutex).Unlock", "internal/race.ReleaseMerge", "(*internal/sync.Mutex).unlockSlow", "internal/sync.fatal", "internal/sync.runtime_Semrelease", "sync/atomic.StoreUint32"], unfollowed := true, recurses := true, named := ["math/bits.deBruijn32tab", "math/bits.deBruijn64tab"], loops := true, apart := false, laid := [("math/bits.deBruijn32tab", laid_math_bits_deBruijn32tab), ("math/bits.deBruijn64tab", laid_math_bits_deBruijn64tab)], narrowed := true }
def HeytingGlivenkoUptoSaid : Prop := heytingGlivenkoUptoRow.holds Tryd.pinned (OpenSpec.upto heytingGlivenkoSpec)

/-- 'hasselaw.HeytingKripke', WHERE WHAT IT READS IS OF BULK AT MOST 1048576: true; the input reads as it did. -/
def heytingKripkeUptoRow : OpenClaim := { program := "ytbgecpjlopdkfaadoor", sum := "0e8715b785a4523cf545a4a9717c1e8e8c3c367af8934426c878b1297447dbf3", func := "hasse/hasselaw.HeytingKripke", spec := "heytingKripke", inPlace := ["sync/atomic.LoadUint32", "(*internal/sync.Mutex).Lock", "internal/race.Disable", "sync/atomic.CompareAndSwapInt32", "internal/race.Enable", "internal/race.Acquire", "(*internal/sync.Mutex).lockSlow", "internal/sync.runtime_canSpin", "internal/sync.runtime_doSpin", "internal/sync.throw", "internal/sync.runtime_nanotime", "internal/sync.runtime_SemacquireMutex", "sync/atomic.AddInt32", "(*internal/sync.Mutex).Unlock", "internal/race.ReleaseMerge", "(*internal/sync.Mutex).unlockSlow", "internal/sync.fatal", "internal/sync.runtime_Semrelease", "sync/atomic.StoreUint32"], unfollowed := true, recurses := true, named := ["math/bits.deBruijn32tab", "math/bits.deBruijn64tab"], loops := true, apart := false, laid := [("math/bits.deBruijn32tab", laid_math_bits_deBruijn32tab), ("math/bits.deBruijn64tab", laid_math_bits_deBruijn64tab)], narrowed := true }
def HeytingKripkeUptoSaid : Prop := heytingKripkeUptoRow.holds Tryd.pinned (OpenSpec.upto heytingKripkeSpec)

end Rows
end Go.Proofs.YtbgecpjlopdkfaaDoor
