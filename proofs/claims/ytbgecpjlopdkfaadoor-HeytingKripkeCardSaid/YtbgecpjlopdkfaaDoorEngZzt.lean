import Derived.Test.YtbgecpjlopdkfaaDoorEngZd
import Derived.Test.YtbgecpjlopdkfaaDoorEngZp
import Derived.Test.YtbgecpjlopdkfaaDoorEngZzh
import Derived.Test.YtbgecpjlopdkfaaDoorEngT
import Derived.Test.YtbgecpjlopdkfaaDoorEngA
import Derived.Laws.LoneSync
import Derived.Laws.Tables
import Derived.StringKeys
import Derived.Laws.IdiomStrings
import Derived.Laws.Slices
set_option linter.unusedSimpArgs false
set_option linter.unusedVariables false
set_option linter.unusedSectionVars false
namespace Go.Proofs.YtbgecpjlopdkfaaDoor
open Go.RowKit
section
variable {P : Program} {ops : Array Oper} {md : Region.Mode} {C S : World → Prop}
def sinkG (md : Region.Mode) (ops : Array Oper) (n : Nat) (L0 fin : Array Bool) : Bool :=
  (List.range ops.size).all fun i => !fin.getD i false || L0.getD i false || (List.range ops.size).any fun j => decide (i < j) && (decide (j = n) || (fin.getD j false && !L0.getD j false)) && Region.waitsFor md ops j i
def chainG (md : Region.Mode) (ops : Array Oper) (n : Nat) (fin : Array Bool) : Bool :=
  (List.range ops.size).all fun t => fin.getD t false || decide (t = n) || (List.range ops.size).any fun j => !fin.getD j false && Region.waitsFor md ops t j
structure HInv (md : Region.Mode) (ops : Array Oper) (L0 fin listed : Array Bool) : Prop where
  size : listed.size = ops.size
  closed : ∀ j oj, ops[j]? = some oj → listed.getD j false = true → ∀ e ∈ oj.after, Region.binds md e = true → listed.getD e.on false = true
  up : ∀ i, L0.getD i false = true → listed.getD i false = true
  sub : ∀ i, listed.getD i false = true → fin.getD i false = true
theorem HInv.set {i : Nat} {L0 fin listed : Array Bool} (inv : HInv md ops L0 fin listed) (hi : i ∈ Region.ready md ops listed) (hf : fin.getD i false = true) : HInv md ops L0 fin (listed.setIfInBounds i true) := by
  obtain ⟨_, oi, hoi, hall⟩ := mem_ready.1 hi
  have his : i < listed.size := by rw [inv.size]; exact (Array.getElem?_eq_some_iff.1 hoi).1
  have hset : ∀ j, listed.getD j false = true → (listed.setIfInBounds i true).getD j false = true := fun j hj => by
    by_cases hij : i = j
    · subst hij; simp [his]
    · rw [getD_set_ne false hij]; exact hj
  refine ⟨by simp [inv.size], fun j oj hj hl e he hb => ?_, fun j hj => hset j (inv.up j hj), fun j hj => ?_⟩
  · by_cases hij : i = j
    · subst hij
      have : oj = oi := Option.some.inj (hj.symm.trans hoi)
      subst this
      exact hset _ (hall e he hb)
    · rw [getD_set_ne false hij] at hl
      exact hset _ (inv.closed j oj hj hl e he hb)
  · by_cases hij : i = j
    · subst hij; exact hf
    · rw [getD_set_ne false hij] at hj
      exact inv.sub j hj
def anyHd (P : Program) (md : Region.Mode) (ops : Array Oper) (C : World → Prop) (L : Array Bool → Act → Prop) : Nat → Array Bool → Act → Prop
  | 0, listed, a => L listed a
  | f + 1, listed, a => Region.ready md ops listed ≠ [] ∧ ∀ i ∈ Region.ready md ops listed, qOp P ops C i (anyHd P md ops C L f (listed.setIfInBounds i true)) a
/-- What is not of the stage waits. -/
def Waits (md : Region.Mode) (ops : Array Oper) (L0 fin : Array Bool) : Prop := ∀ listed, HInv md ops L0 fin listed → ∀ i, i < ops.size → fin.getD i false = true → listed.getD i true = false → ∀ t, fin.getD t false = false → t ∉ Region.ready md ops listed
def lexTo (md : Region.Mode) (ops : Array Oper) (fin : Array Bool) : List Nat → Array Bool → Bool
  | [], listed => decide (listed = fin) && (Region.ready md ops listed).all fun j => !fin.getD j false
  | k :: is, listed => (Region.ready md ops listed).contains k && Region.free md ops listed k && fin.getD k false && lexTo md ops fin is (listed.setIfInBounds k true)
def invG (md : Region.Mode) (ops : Array Oper) (fin listed : Array Bool) : Bool :=
  decide (listed.size = ops.size) && ((List.range ops.size).all fun j => !listed.getD j false || (match ops[j]? with | some oj => oj.after.all fun e => !Region.binds md e || listed.getD e.on false | none => true)) && (List.range ops.size).all fun t => !listed.getD t false || fin.getD t false
def stgB (ops : Array Oper) (n : Nat) (is : List Nat) (listed fin : Array Bool) : Bool :=
  Region.noSelect ops && sinkG .any ops n listed fin && chainG .any ops n fin && invG .any ops fin listed && lexTo .any ops fin is listed && !fin.getD n false
end
section
variable {P : Program} {k : Nat} {cx : Cx k} {ops : Array Oper} {st : St} {K : St → Prop} {S : World → Prop}
def reB (ops : Array Oper) (is : List Nat) (listed fin : Array Bool) : Bool :=
  Region.noSelect ops && ((List.range ops.size).all fun t => fin.getD t false) && invG .any ops fin listed && lexTo .any ops fin is listed && (Region.ready .any ops fin).isEmpty
end
end Go.Proofs.YtbgecpjlopdkfaaDoor
set_option linter.unusedSimpArgs false
set_option linter.unusedVariables false
set_option linter.unusedSectionVars false
namespace Go.Proofs.YtbgecpjlopdkfaaDoor
open Go.RowKit
def bytc (l : List Nat) : List Dat := l.map fun (b : Nat) => .val (.int .u8 (b : Int))
/-- A string of bytes. -/
def strK (l : List Nat) : Value := .string ⟨(l.map UInt8.ofNat).toArray⟩
section
variable {P : Program} {st : St} {d : Option Tmp} {ty : TypeId} {pos : String} {af : Array Edge} {g : Option (Nat × Bool)}
/-! An own row of rows. -/
theorem Q_ix_ownR {x ix : Operand} {T e e' : TypeId} {l : List (List Int)} {id : Nat} {i : Int} {o : Nat} (hx : st.ev x = .own id) (hob : st.objs[id]? = some (.row e' 1 (rowc l))) (hi : st.ev ix = .val (.int .i64 i)) (ho : i = (o : Int)) (ht : SlT P T e 1) (h : o < l.length) :
    QOp P ⟨d, .indexAddr T x ix, ty, pos, af, g⟩ st (.ept id o) := by
  have := Q_index_own (P := P) (d := d) (ty := ty) (pos := pos) (af := af) (g := g) (x := x) (ix := ix) hx hob hi ht (rowc_len l) (by decide) ⟨by omega, by omega⟩
  rw [show i.toNat * 1 = o by omega] at this
  exact this
theorem Q_ld_ownR {x : Operand} {T e : TypeId} {l : List (List Int)} {id o : Nat} (hx : st.ev x = .ept id o) (hob : st.objs[id]? = some (.row e 1 (rowc l))) (h : o < l.length) (ht : ScT P T) :
    QOp P ⟨d, .load T x, ty, pos, af, g⟩ st (ints (l.getD o [])) :=
  Q_load_ept (P := P) (d := d) (ty := ty) (pos := pos) (af := af) (g := g) (dt := .sl 1 (intc (l.getD o []))) hx hob (by
    unfold rowc
    rw [List.getElem?_map, List.getElem?_eq_getElem h, List.getD_eq_getElem?_getD, List.getElem?_eq_getElem h]; rfl) ht
end
end Go.Proofs.YtbgecpjlopdkfaaDoor
set_option linter.unusedSimpArgs false
set_option linter.unusedVariables false
set_option linter.unusedSectionVars false
namespace Go.Proofs.YtbgecpjlopdkfaaDoor
open Go.RowKit
theorem a_holdRN [Zs] {P : Program} {k : Nat} {cx : Cx k} {st : St} {id : Nat} {l : List Oper} {n : Nat} {Q : Exit → St → Prop} (hm : P.follows .mixedOrders = true) (hn : l.length = n) (h : rL P cx l.toArray (fun st => Q .normal st) n (List.replicate n false) st) : aC P cx (.region id l.toArray true) Q st :=
  a_mono (a_holdR (Q := Q) hm hn h) fun e st h => by cases e <;> exact h
end Go.Proofs.YtbgecpjlopdkfaaDoor
set_option linter.unusedSimpArgs false
set_option linter.unusedVariables false
set_option linter.unusedSectionVars false
namespace Go.Proofs.YtbgecpjlopdkfaaDoor
open Go.RowKit
/-- A function without a text, which the model stands in for. -/
structure ExtF (P : Program) (f : FuncId) (fn : Func) : Prop where
  hf : P.funcs[f]? = some fn
  nm : (fn.name == "runtime.NumGoroutine") = false
  bd : fn.body.isNone = true
  nx : Extern.findNext fn = none
/-- A cell of a box is turned. -/
theorem box_turn [Zs] {ρ : Ids} {w : World} {objs : List AO} (hgd : Good ρ w objs) {id o b : Nat} {cells : List AV} {arr : Array Value} {T' : TypeId} {av : AV} {u : Value} (ho : objs[id]? = some (.box cells)) (hlt : o < cells.length)
    (hρ : ρ[id]? = some [.pointer (some ⟨b, 0, none⟩)]) (hh : w.heap[b]? = some (.cells arr T' (0, 0))) (hsz : arr.size = cells.length) (hcs : ∀ (i : Nat) (av : AV), cells[i]? = some av → ∃ v, arr[i]? = some v ∧ Gm ρ w (Ban ρ objs) av v) (hu : Gm ρ w (Ban ρ objs) av u) :
    Same (Own ρ objs) w (w.setCell ⟨b, o, none⟩ u) ∧ (∀ b', Own ρ (objs.set id (.box (cells.set o av))) b' → Own ρ objs b') ∧ Good ρ (w.setCell ⟨b, o, none⟩ u) (objs.set id (.box (cells.set o av))) := by
  rw [setCell_eq_setRow w b o arr T' (0, 0) u hh]
  have hsm : Same (fun x => x = b) w (w.setRow b (arr.setIfInBounds o u)) := ⟨rfl, rfl, rfl, by simp, fun k _ hn => setRow_other w b k _ hn⟩
  have hheap := setRow_heap w b arr (arr.setIfInBounds o u) T' (0, 0) hh
  have key := hgd.turn (o' := .box (cells.set o av)) ho rfl hρ (b := b) rfl hsm
  generalize w.setRow b (arr.setIfInBounds o u) = w' at *
  have hids : ∀ b', Own ρ (objs.set id (.box (cells.set o av))) b' → Own ρ objs b' := by
    rintro b' ⟨i, h⟩
    rcases foot_set (List.getElem?_eq_some_iff.1 ho).1 h with ⟨rfl, _, l, h3, h4⟩ | ⟨_, h⟩
    · exact ⟨i, _, l, ho, rfl, h3, h4⟩
    · exact ⟨i, h⟩
  have hsm' : Same (Own ρ objs) w w' := ⟨hsm.os, hsm.tape, hsm.output, hsm.size, fun k hk hn => hsm.block k hk (fun e => hn (e ▸ ⟨id, _, _, ho, rfl, hρ, _, List.mem_singleton.2 rfl, rfl⟩))⟩
  have hgm : ∀ {av' : AV} {v : Value}, Gm ρ w (Ban ρ objs) av' v → Gm ρ w' (Ban ρ (objs.set id (.box (cells.set o av)))) av' v := fun h => h.ext hsm' (fun _ _ h => h) (fun b' _ h => hids b' h)
  have hfin := key ⟨b, _, T', hρ, hheap, by simp [hsz], fun i av' hi => by
    by_cases hio : i = o
    · subst hio
      rw [List.getElem?_set_self hlt] at hi
      obtain rfl := Option.some.inj hi
      exact ⟨u, by simp [hsz, hlt], hgm hu⟩
    · rw [List.getElem?_set_ne (Ne.symm hio)] at hi
      obtain ⟨v, hv, hgv⟩ := hcs i av' hi
      exact ⟨v, by rw [Array.getElem?_setIfInBounds_ne (Ne.symm hio)]; exact hv, hgm hgv⟩⟩
  exact ⟨hsm', hids, hfin.1⟩
section
variable {P : Program} {k : Nat} {cx : Cx k} {ops : Array Oper} {Q : Exit → St → Prop} {rest : List Oper} {ty : TypeId} {pos : String} {af : Array Edge} {n : Nat} {vars : List (Nat × AV)} {objs objs' : List AO} {d : Nat} {f : FuncId} {fn : Func} {g : Operand} {ats : Array TypeId}
theorem box_frozen {w : World} {b o : Nat} {arr : Array Value} {T : TypeId} (hh : w.heap[b]? = some (.cells arr T (0, 0))) : w.frozen? ⟨b, o, none⟩ = false := by
  simp [World.frozen?, hh]
end
end Go.Proofs.YtbgecpjlopdkfaaDoor
