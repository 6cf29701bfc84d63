/- What a call's own memory looks like, and what may be read of older memory: the notions on which the walks of this family stand. -/
import Derived.WalkKit
import Derived.WalkSpells
import Derived.Deep.Quiet
import Derived.StillTail
import Derived.Deep.LoopGhost
set_option linter.unusedSimpArgs false
set_option linter.unusedVariables false
namespace Go.Proofs.Ythchhaaplimafaa
open Go.RowKit

/-- What may be read: a value of one cell, or a slice, its cells one behind the other. -/
inductive Dat where
  | val (v : Value)
  | sl (sz : Nat) (cs : List Dat)

def ablk : Value → Option Nat
  | .slice (some a) _ _ => some a.block
  | .pointer (some a) => some a.block
  | _ => none

/-- v reads as d, and no cell on the way lies in a block of M. -/
inductive Rd (w : World) (M : Nat → Prop) : Value → Dat → Prop where
  | val (v : Value) : Rd w M v (.val v)
  | nil (sz : Nat) : Rd w M (.slice none 0 0) (.sl sz [])
  | sl (a : Addr) (n cap sz : Nat) (cs : List Dat) (us : Nat → Value) (hn : cs.length = n * sz) (hsp : True)
      (hM : ∀ k, k < cs.length → ¬ M a.block)
      (hc : ∀ k d, cs[k]? = some d → w.cell? (a.add k) = some (us k))
      (hr : ∀ k d, cs[k]? = some d → Rd w M (us k) d) : Rd w M (.slice (some a) n cap) (.sl sz cs)

/-- Outside the blocks of M nothing has turned. -/
structure Same (M : Nat → Prop) (w w' : World) : Prop where
  os : w'.os = w.os
  tape : w'.tape = w.tape
  output : w'.output = w.output
  size : w.heap.size ≤ w'.heap.size
  block : ∀ k, k < w.heap.size → ¬ M k → w'.heap[k]? = w.heap[k]?

theorem Same.refl (M : Nat → Prop) (w : World) : Same M w w := ⟨rfl, rfl, rfl, Nat.le_refl _, fun _ _ _ => rfl⟩

theorem Same.trans {M M' : Nat → Prop} {a b c : World} (h : Same M a b) (k : Same M' b c) (hM : ∀ x, x < a.heap.size → M' x → M x) : Same M a c :=
  ⟨k.os.trans h.os, k.tape.trans h.tape, k.output.trans h.output, Nat.le_trans h.size k.size,
   fun i hi hn => (k.block i (Nat.lt_of_lt_of_le hi h.size) (fun hm => hn (hM i hi hm))).trans (h.block i hi hn)⟩

theorem Same.of_below {w w' : World} (h : Below w.heap.size w w') (M : Nat → Prop) : Same M w w' :=
  ⟨h.os, h.tape, h.output, h.size, fun k hk _ => h.block k hk⟩

theorem Same.below {M : Nat → Prop} {w w' : World} (h : Same M w w') (hM : ∀ x, x < w.heap.size → ¬ M x) : Below w.heap.size w w' :=
  ⟨h.os, h.tape, h.output, h.size, fun k hk => h.block k hk (hM k hk)⟩

theorem Same.alloc (w : World) (o : Obj) (M : Nat → Prop) : Same M w (w.alloc o) :=
  ⟨rfl, rfl, rfl, by simp, fun k hk _ => Below.heap_alloc w o k hk⟩

theorem Same.drew (w : World) (M : Nat → Prop) : Same M w w.drew := ⟨rfl, rfl, rfl, Nat.le_refl _, fun _ _ _ => rfl⟩

theorem Same.setCell (w : World) (p : Addr) (u : Value) (M : Nat → Prop) (h : p.block < w.heap.size → M p.block) : Same M w (w.setCell p u) :=
  ⟨rfl, rfl, rfl, by simp, fun k hk hn => Below.heap_setCell _ _ _ _ (fun e => hn (e ▸ h (e ▸ hk)))⟩

theorem Same.grown {w w' : World} {row : Option Nat} (h : w.grownBy w' row) (M : Nat → Prop) (hM : ∀ b, row = some b → M b) : Same M w w' :=
  ⟨h.os, h.tape, h.output, h.size, fun k hk hn => h.block k hk (fun e => hn (hM k e.symm))⟩

theorem Same.cell {M : Nat → Prop} {w w' : World} (h : Same M w w') {p : Addr} {v : Value} (hv : w.cell? p = some v) (hM : ¬ M p.block) : w'.cell? p = some v := by
  rw [World.cell?_of_block (w := w) (h.block p.block (World.block_lt_of_cell? w p hv) hM)]; exact hv

theorem Rd.mono {w w' : World} {M M' : Nat → Prop} (h : Same M w w') (hM : ∀ b, b < w.heap.size → M' b → M b) {v : Value} {d : Dat} (hr : Rd w M v d) : Rd w' M' v d := by
  induction hr with
  | val v => exact .val v
  | nil sz => exact .nil sz
  | sl a n cap sz cs us hn hsp hMk hc _ ih =>
    refine .sl a n cap sz cs us hn hsp ?_ ?_ ih
    · intro k hk hm
      have hkd : cs[k]? = some cs[k] := List.getElem?_eq_getElem hk
      have hb := World.block_lt_of_cell? w _ (hc k _ hkd)
      have hb' : (a.add k).block = a.block := by unfold Addr.add; split <;> rfl
      rw [hb'] at hb
      exact hMk k hk (hM _ hb hm)
    · intro k d hd
      have hk := (List.getElem?_eq_some_iff.1 hd).1
      have hb' : (a.add k).block = a.block := by unfold Addr.add; split <;> rfl
      exact h.cell (hc k d hd) (by rw [hb']; exact hMk k hk)

/-- What a slot holds, as the walk knows it. own, ptr, ept speak of the call's own objects by their number. -/
inductive AV where
  | val (v : Value)
  | ro (d : Dat)
  | own (id : Nat)
  | ptr (id off : Nat)
  | ept (id k : Nat)
  | rpt (cs : List Dat) (off : Nat)
  | agg (l : List AV)
  | tup (l : List AV)
  | clo (f : FuncId) (l : List AV)
  | any

/-- An object of the call's own: a box of known cells; a slice that it alone holds; a slice of such slices; one that is no more looked at. -/
inductive AO where
  | box (cells : List AV)
  | row (e : TypeId) (sz : Nat) (cs : List Dat)
  | mat (e e' : TypeId) (m : List (List Value))
  | gone

def AO.live : AO → Bool
  | .gone => false
  | _ => true

abbrev Ids := List (List Value)

def foot (ρ : Ids) (objs : List AO) (id b : Nat) : Prop :=
  ∃ o l, objs[id]? = some o ∧ o.live = true ∧ ρ[id]? = some l ∧ ∃ v, v ∈ l ∧ ablk v = some b
def Own (ρ : Ids) (objs : List AO) (b : Nat) : Prop := ∃ id, foot ρ objs id b
/-- Blocks that the call was not handed, whatever they are: nothing that it reads lies there. -/
class Zs where z : Nat → Prop
def Ban [Zs] (ρ : Ids) (objs : List AO) (b : Nat) : Prop := Own ρ objs b ∨ Zs.z b
theorem Ban.mono [Zs] {ρ ρ' : Ids} {objs objs' : List AO} {P : Nat → Prop} (h : ∀ b, P b → Own ρ' objs' b → Own ρ objs b) : ∀ b, P b → Ban ρ' objs' b → Ban ρ objs b :=
  fun b hb hx => hx.elim (fun h' => .inl (h b hb h')) .inr
theorem Same.ban [Zs] {ρ : Ids} {objs : List AO} {w w' : World} (h : Same (Own ρ objs) w w') : Same (Ban ρ objs) w w' :=
  ⟨h.os, h.tape, h.output, h.size, fun k hk hn => h.block k hk (fun hx => hn (.inl hx))⟩

/-- What a value is. -/
inductive Gm (ρ : Ids) (w : World) (M : Nat → Prop) : AV → Value → Prop where
  | val (v : Value) : Gm ρ w M (.val v) v
  | ro (d : Dat) (v : Value) (h : Rd w M v d) : Gm ρ w M (.ro d) v
  | own (id : Nat) (v : Value) (l : List Value) (h : ρ[id]? = some (v :: l)) (h1 : v.oneCell' = true) : Gm ρ w M (.own id) v
  | ptr (id off b : Nat) (l : List Value) (h : ρ[id]? = some (.pointer (some ⟨b, 0, none⟩) :: l)) : Gm ρ w M (.ptr id off) (.pointer (some ⟨b, off, none⟩))
  | ept (id k b n cap : Nat) (l : List Value) (h : ρ[id]? = some (.slice (some ⟨b, 0, none⟩) n cap :: l)) : Gm ρ w M (.ept id k) (.pointer (some ⟨b, k, none⟩))
  | rpt (a : Addr) (cs : List Dat) (off : Nat) (us : Nat → Value) (hsp : True) (hM : ∀ k, k < cs.length → ¬ M a.block)
      (hc : ∀ k d, cs[k]? = some d → w.cell? (a.add k) = some (us k)) (hr : ∀ k d, cs[k]? = some d → Rd w M (us k) d) : Gm ρ w M (.rpt cs off) (.pointer (some (a.add off)))
  | agg (l : List AV) (vs : Array Value) (hl : l.length = vs.size) (h : ∀ (i : Nat) (av : AV) (v : Value), l[i]? = some av → vs[i]? = some v → Gm ρ w M av v) : Gm ρ w M (.agg l) (.agg vs)
  | tup (l : List AV) (vs : Array Value) (hl : l.length = vs.size) (h : ∀ (i : Nat) (av : AV) (v : Value), l[i]? = some av → vs[i]? = some v → Gm ρ w M av v) : Gm ρ w M (.tup l) (.tuple vs)
  | clo (f : FuncId) (l : List AV) (vs : Array Value) (hl : l.length = vs.size) (h : ∀ (i : Nat) (av : AV) (v : Value), l[i]? = some av → vs[i]? = some v → Gm ρ w M av v) : Gm ρ w M (.clo f l) (.func (.func f) #[] vs)
  | any (v : Value) : Gm ρ w M .any v

theorem Gm.mono {ρ ρ' : Ids} {w w' : World} {M M' : Nat → Prop} (h : Same M w w') (hM : ∀ b, b < w.heap.size → M' b → M b)
    (hρ : ∀ (id : Nat) l, ρ[id]? = some l → ρ'[id]? = some l) {av : AV} {v : Value} (hg : Gm ρ w M av v) : Gm ρ' w' M' av v := by
  induction hg with
  | val v => exact .val v
  | ro d v hr => exact .ro d v (hr.mono h hM)
  | own id v l hv h1 => exact .own id v l (hρ _ _ hv) h1
  | ptr id off b l hv => exact .ptr id off b l (hρ _ _ hv)
  | ept id k b n cap l hv => exact .ept id k b n cap l (hρ _ _ hv)
  | rpt a cs off us hsp hMk hc hr =>
    have hb' : ∀ k, (a.add k).block = a.block := fun k => by unfold Addr.add; split <;> rfl
    refine .rpt a cs off us hsp ?_ ?_ (fun k d hd => (hr k d hd).mono h hM)
    · intro k hk hm
      have hb := World.block_lt_of_cell? w _ (hc k _ (List.getElem?_eq_getElem hk))
      rw [hb'] at hb
      exact hMk k hk (hM _ hb hm)
    · intro k d hd
      exact h.cell (hc k d hd) (by rw [hb']; exact hMk k (List.getElem?_eq_some_iff.1 hd).1)
  | agg l vs hl _ ih => exact .agg l vs hl ih
  | tup l vs hl _ ih => exact .tup l vs hl ih
  | clo f l vs hl _ ih => exact .clo f l vs hl ih
  | any v => exact .any v

theorem Gm.val_inv {ρ : Ids} {w : World} {M : Nat → Prop} {v u : Value} (h : Gm ρ w M (.val v) u) : u = v := by cases h; rfl
theorem Gm.ro_inv {ρ : Ids} {w : World} {M : Nat → Prop} {d : Dat} {u : Value} (h : Gm ρ w M (.ro d) u) : Rd w M u d := by cases h; assumption
theorem Gm.own_inv {ρ : Ids} {w : World} {M : Nat → Prop} {id : Nat} {u : Value} (h : Gm ρ w M (.own id) u) : ∃ l, ρ[id]? = some (u :: l) := by cases h with | own _ _ l h _ => exact ⟨l, h⟩
theorem Gm.ptr_inv {ρ : Ids} {w : World} {M : Nat → Prop} {id off : Nat} {u : Value} (h : Gm ρ w M (.ptr id off) u) :
    ∃ b l, u = .pointer (some ⟨b, off, none⟩) ∧ ρ[id]? = some (.pointer (some ⟨b, 0, none⟩) :: l) := by cases h with | ptr _ _ b l h => exact ⟨b, l, rfl, h⟩
theorem Gm.ept_inv {ρ : Ids} {w : World} {M : Nat → Prop} {id k : Nat} {u : Value} (h : Gm ρ w M (.ept id k) u) :
    ∃ b n cap l, u = .pointer (some ⟨b, k, none⟩) ∧ ρ[id]? = some (.slice (some ⟨b, 0, none⟩) n cap :: l) := by cases h with | ept _ _ b n cap l h => exact ⟨b, n, cap, l, rfl, h⟩
theorem Gm.rpt_inv {ρ : Ids} {w : World} {M : Nat → Prop} {cs : List Dat} {off : Nat} {u : Value} (h : Gm ρ w M (.rpt cs off) u) :
    ∃ (a : Addr) (us : Nat → Value), u = .pointer (some (a.add off)) ∧ True ∧ (∀ k, k < cs.length → ¬ M a.block) ∧ (∀ (k : Nat) d, cs[k]? = some d → w.cell? (a.add k) = some (us k)) ∧ ∀ (k : Nat) d, cs[k]? = some d → Rd w M (us k) d := by
  cases h with | rpt a _ _ us h1 h2 h3 h4 => exact ⟨a, us, rfl, h1, h2, h3, h4⟩
theorem Gm.agg_inv {ρ : Ids} {w : World} {M : Nat → Prop} {l : List AV} {u : Value} (h : Gm ρ w M (.agg l) u) :
    ∃ vs : Array Value, u = .agg vs ∧ l.length = vs.size ∧ ∀ (i : Nat) (av : AV) (v : Value), l[i]? = some av → vs[i]? = some v → Gm ρ w M av v := by
  cases h with | agg _ vs h1 h2 => exact ⟨vs, rfl, h1, h2⟩
theorem Gm.tup_inv {ρ : Ids} {w : World} {M : Nat → Prop} {l : List AV} {u : Value} (h : Gm ρ w M (.tup l) u) :
    ∃ vs : Array Value, u = .tuple vs ∧ l.length = vs.size ∧ ∀ (i : Nat) (av : AV) (v : Value), l[i]? = some av → vs[i]? = some v → Gm ρ w M av v := by
  cases h with | tup _ vs h1 h2 => exact ⟨vs, rfl, h1, h2⟩
theorem Gm.clo_inv {ρ : Ids} {w : World} {M : Nat → Prop} {f : FuncId} {l : List AV} {u : Value} (h : Gm ρ w M (.clo f l) u) :
    ∃ vs : Array Value, u = .func (.func f) #[] vs ∧ l.length = vs.size ∧ ∀ (i : Nat) (av : AV) (v : Value), l[i]? = some av → vs[i]? = some v → Gm ρ w M av v := by
  cases h with | clo _ _ vs h1 h2 => exact ⟨vs, rfl, h1, h2⟩

/-- What an object is, in the world. -/
def SatO (ρ : Ids) (w : World) (M : Nat → Prop) (id : Nat) : AO → Prop
  | .box cs => ∃ b arr T, ρ[id]? = some [.pointer (some ⟨b, 0, none⟩)] ∧ w.heap[b]? = some (.cells arr T (0, 0)) ∧ arr.size = cs.length ∧
      ∀ (i : Nat) (av : AV), cs[i]? = some av → ∃ v, arr[i]? = some v ∧ Gm ρ w M av v
  | .row e sz cs => ∃ v n us, ρ[id]? = some [v] ∧ w.ownsRow 0 e sz v n us ∧ us.length = cs.length ∧ ∀ (i : Nat) (d : Dat), cs[i]? = some d → ∃ u, us[i]? = some u ∧ Rd w M u d
  | .mat e e' m => ∃ v us, ρ[id]? = some (v :: us) ∧ w.ownsRow 0 e 1 v us.length us ∧ us.length = m.length ∧
      (∀ (i : Nat) (r : List Value), m[i]? = some r → ∃ u, us[i]? = some u ∧ w.ownsRow 0 e' 1 u r.length r) ∧
      (∀ (i j : Nat) u u' b, (v :: us)[i]? = some u → (v :: us)[j]? = some u' → ablk u = some b → ablk u' = some b → i = j)
  | .gone => True

theorem ownsRow_same {M : Nat → Prop} {w w' : World} (h : Same M w w') {e : TypeId} {sz n : Nat} {v : Value} {xs : List Value} (hb : ∀ b, ablk v = some b → ¬ M b)
    (ho : w.ownsRow 0 e sz v n xs) : w'.ownsRow 0 e sz v n xs := by
  refine ⟨ho.1, ?_⟩
  rcases ho.2 with hn | ⟨g, cap, cur, rfl, hbg, hgg, rest⟩
  · exact .inl hn
  · refine .inr ⟨g, cap, cur, rfl, hbg, ?_, rest⟩
    rw [h.block g (Array.getElem?_eq_some_iff.1 hgg).1 (hb g rfl)]
    exact hgg

/-- The objects, all together: each is what it is said to be, and no two share a block. -/
structure Good [Zs] (ρ : Ids) (w : World) (objs : List AO) : Prop where
  len : ρ.length = objs.length
  sat : ∀ id o, objs[id]? = some o → SatO ρ w (Ban ρ objs) id o
  dis : ∀ i j b, foot ρ objs i b → foot ρ objs j b → i = j
  zf : ∀ id b, foot ρ objs id b → ¬ Zs.z b
  zl : ∀ b, Zs.z b → b < w.heap.size

theorem foot_lt [Zs] {ρ : Ids} {w : World} {objs : List AO} (hg : Good ρ w objs) {id b : Nat} (h : foot ρ objs id b) : b < w.heap.size := by
  obtain ⟨o, l, ho, hl, hr, v, hv, hb⟩ := h
  have hs := hg.sat id o ho
  have row : ∀ {e : TypeId} {sz n : Nat} {u : Value} {xs : List Value}, w.ownsRow 0 e sz u n xs → ablk u = some b → b < w.heap.size := by
    intro e sz n u xs hw hb
    rcases hw.2 with ⟨rfl, _⟩ | ⟨g, cap, cur, rfl, _, hh, _⟩
    · simp [ablk] at hb
    · simp only [ablk, Option.some.injEq] at hb
      subst hb
      exact (Array.getElem?_eq_some_iff.1 hh).1
  cases o with
  | gone => cases hl
  | box cs =>
    obtain ⟨b', arr, T, h1, h2, _⟩ := hs
    rw [h1] at hr
    obtain rfl := Option.some.inj hr
    simp only [List.mem_singleton] at hv
    subst hv
    simp only [ablk, Option.some.injEq] at hb
    subst hb
    exact (Array.getElem?_eq_some_iff.1 h2).1
  | row e sz cs =>
    obtain ⟨v', n, us, h1, h2, _⟩ := hs
    rw [h1] at hr
    obtain rfl := Option.some.inj hr
    simp only [List.mem_singleton] at hv
    subst hv
    exact row h2 hb
  | mat e e' m =>
    obtain ⟨v', us, h1, h2, hlen, h3, _⟩ := hs
    rw [h1] at hr
    obtain rfl := Option.some.inj hr
    rcases List.mem_cons.1 hv with rfl | hv
    · exact row h2 hb
    · obtain ⟨i, hi, rfl⟩ := List.getElem_of_mem hv
      obtain ⟨u, hu, hw⟩ := h3 i (m[i]'(by omega)) (List.getElem?_eq_getElem _)
      rw [List.getElem?_eq_getElem hi] at hu
      obtain rfl := Option.some.inj hu
      exact row hw hb

/-- What is known between two operations. -/
structure St where
  n : Nat
  vars : List (Nat × AV)
  objs : List AO

def getv : List (Nat × AV) → Nat → AV
  | [], _ => .any
  | (t', v) :: r, t => bif Nat.beq t' t then v else getv r t
def St.get (s : St) (t : Nat) : AV := getv s.vars t
def St.put (s : St) (t : Nat) (v : AV) : St := ⟨s.n, (t, v) :: s.vars, s.objs⟩
def St.ev (s : St) : Operand → AV
  | .tmp t => s.get t
  | .const v => .val v
  | .global g => .val (.pointer (some ⟨g, 0, none⟩))
  | .func f => .val (.func (.func f) #[] #[])
def St.add (s : St) (o : AO) : St := ⟨s.n, s.vars, s.objs ++ [o]⟩
def St.set (s : St) (id : Nat) (o : AO) : St := ⟨s.n, s.vars, s.objs.set id o⟩

structure RelB [Zs] (ρ : Ids) (w : World) (st : St) (a : Act) : Prop where
  frame : ∀ t, Gm ρ w (Ban ρ st.objs) (st.get t) (a.tmps.getD t undef)
  size : a.tmps.size = st.n
  defers : a.defers = []
  good : Good ρ w st.objs

/-- How the call began: its world, the blocks that it was handed to write, the objects that it was handed. -/
structure Cx (k : Nat) where
  w0 : World
  M0 : Nat → Prop
  ρ0 : Ids
  len : ρ0.length = k

structure Rel [Zs] {k : Nat} (cx : Cx k) (st : St) (a : Act) (w : World) : Prop where
  base : ∃ ρ : Ids, RelB ρ w st a ∧ (∀ id b, foot ρ st.objs id b → b < cx.w0.heap.size → cx.M0 b) ∧ ∀ (id : Nat) l, cx.ρ0[id]? = some l → ρ[id]? = some l
  same : Same cx.M0 cx.w0 w

theorem RelB.ev [Zs] {ρ : Ids} {w : World} {st : St} {a : Act} (h : RelB ρ w st a) (x : Operand) : Gm ρ w (Ban ρ st.objs) (st.ev x) (a.eval x) := by
  cases x with
  | tmp t => exact h.frame t
  | const v => exact .val v
  | global g => exact .val _
  | func f => exact .val _

theorem RelB.evv [Zs] {ρ : Ids} {w : World} {st : St} {a : Act} (h : RelB ρ w st a) {x : Operand} {v : Value} (hx : st.ev x = .val v) : a.eval x = v := by
  have := h.ev x
  rw [hx] at this
  exact this.val_inv

theorem getv_cons (t t' : Nat) (v : AV) (r : List (Nat × AV)) : getv ((t', v) :: r) t = if t' = t then v else getv r t := by
  simp only [getv]
  by_cases h : t' = t
  · subst h; simp
  · rw [if_neg h]
    have : Nat.beq t' t = false := by
      cases hb : Nat.beq t' t
      · rfl
      · exact absurd (Nat.eq_of_beq_eq_true hb) h
    rw [this]; rfl

theorem RelB.put [Zs] {ρ : Ids} {w : World} {st : St} {a : Act} (h : RelB ρ w st a) {d : Nat} {av : AV} {v : Value} (hd : Nat.blt d st.n = true) (hv : Gm ρ w (Ban ρ st.objs) av v) :
    RelB ρ w (st.put d av) (a.put (some d) v) := by
  have hd' : d < st.n := by simpa [Nat.blt_eq] using hd
  refine ⟨fun t => ?_, by simp [Act.put, h.size, St.put], by simp [Act.put, h.defers], h.good⟩
  show Gm ρ w (Ban ρ st.objs) (getv ((d, av) :: st.vars) t) _
  rw [getv_cons]
  by_cases ht : d = t
  · subst ht
    rw [if_pos rfl]
    have : (a.put (some d) v).tmps.getD d undef = v := by simp [Act.put, h.size, hd']
    rw [this]; exact hv
  · rw [if_neg ht]
    have : (a.put (some d) v).tmps.getD t undef = a.tmps.getD t undef := by
      simp [Act.put, ht]
    rw [this]; exact h.frame t

theorem RelB.put_none [Zs] {ρ : Ids} {w : World} {st : St} {a : Act} (h : RelB ρ w st a) (v : Value) : RelB ρ w st (a.put none v) := h

/-- Memory has grown; the objects are what they were. -/
theorem RelB.mono [Zs] {ρ : Ids} {w w' : World} {st : St} {a : Act} (h : RelB ρ w st a) (hs : Below w.heap.size w w') : RelB ρ w' st a := by
  have hsm := Same.of_below hs (Ban ρ st.objs)
  have hg : ∀ {av v}, Gm ρ w (Ban ρ st.objs) av v → Gm ρ w' (Ban ρ st.objs) av v := fun g => g.mono hsm (fun _ _ h => h) (fun _ _ h => h)
  have hrow : ∀ {e : TypeId} {sz n : Nat} {u : Value} {xs : List Value}, w.ownsRow 0 e sz u n xs → w'.ownsRow 0 e sz u n xs := fun ho =>
    ownsRow_same (M := fun _ => False) (Same.of_below hs _) (fun _ _ h => h) ho
  refine ⟨fun t => hg (h.frame t), h.size, h.defers, h.good.len, fun id o ho => ?_, h.good.dis, h.good.zf, fun b hb => Nat.lt_of_lt_of_le (h.good.zl b hb) hs.size⟩
  have hsat := h.good.sat id o ho
  cases o with
  | gone => trivial
  | box cs =>
    obtain ⟨b, arr, T, h1, h2, h3, h4⟩ := hsat
    refine ⟨b, arr, T, h1, ?_, h3, fun i av hi => ?_⟩
    · rw [hs.block b (Array.getElem?_eq_some_iff.1 h2).1]; exact h2
    · obtain ⟨v, hv, hgm⟩ := h4 i av hi
      exact ⟨v, hv, hg hgm⟩
  | row e sz cs =>
    obtain ⟨v, n, us, h1, h2, h3, h4⟩ := hsat
    refine ⟨v, n, us, h1, hrow h2, h3, fun i d hi => ?_⟩
    obtain ⟨u, hu, hr⟩ := h4 i d hi
    exact ⟨u, hu, hr.mono hsm (fun _ _ h => h)⟩
  | mat e e' m =>
    obtain ⟨v, us, h1, h2, h3, h4, h5⟩ := hsat
    refine ⟨v, us, h1, hrow h2, h3, fun i r hi => ?_, h5⟩
    obtain ⟨u, hu, hr⟩ := h4 i r hi
    exact ⟨u, hu, hrow hr⟩

theorem Rel.mono [Zs] {k : Nat} {cx : Cx k} {st : St} {a : Act} {w w' : World} (h : Rel cx st a w) (hs : Below w.heap.size w w') : Rel cx st a w' := by
  obtain ⟨⟨ρ, hb, hf, h0⟩, hsame⟩ := h
  exact ⟨⟨ρ, hb.mono hs, hf, h0⟩, hsame.trans (Same.of_below hs (fun _ => False)) (fun _ _ h => h.elim)⟩

end Go.Proofs.Ythchhaaplimafaa
