/- What a call's own memory looks like, and what may be read of older memory: the notions on which the walks of this family stand. -/
import Derived.WalkKit
import Derived.WalkSpells
import Derived.Deep.Quiet
import Derived.StillTail
import Derived.Deep.LoopGhost
set_option linter.unusedSimpArgs false
set_option linter.unusedVariables false
set_option linter.unusedSectionVars false
namespace Go.Proofs.YtbgecpjlopdkfaaDoor
open Go.RowKit
/-! Short names for what lays lists out (they stand in every walk). -/
theorem obA {α : Type} (a : α) (l r : List α) : (a :: l) ++ r = a :: (l ++ r) := rfl
theorem obB {α : Type} (l : List α) : [] ++ l = l := rfl
theorem obD {α : Type} (a b : α) (l : List α) : (a :: l).set 0 b = b :: l := rfl
theorem obE {α : Type} (a b : α) (l : List α) (n : Nat) : (a :: l).set (n + 1) b = a :: l.set n b := rfl
theorem obF {α : Type} (a : α) (l : List α) : (a :: l).length = l.length + 1 := rfl
theorem obG {α : Type} : ([] : List α).length = 0 := rfl
theorem obI (n : Nat) : n + 0 = n := rfl

/-- Outside the blocks of M nothing has turned. -/
structure Same (M : Nat → Prop) (w w' : World) : Prop where
  os : w'.os = w.os
  tape : w'.tape = w.tape
  output : w'.output = w.output
  size : w.heap.size ≤ w'.heap.size
  block : ∀ k, k < w.heap.size → ¬ M k → w'.heap[k]? = w.heap[k]?

/-- A value of one cell of which something holds, as long as memory outside some blocks stands. -/
structure FnD where
  p : World → (Nat → Prop) → Value → Prop
  one : ∀ w M v, p w M v → v.oneCell' = true
  mono : ∀ (w w' : World) (M M' : Nat → Prop) (v : Value), Same M w w' → (∀ b, b < w.heap.size → M' b → M b) → p w M v → p w' M' v
/-- What may be read: a value of one cell, or a slice, its cells one behind the other; a function. -/
inductive Dat where
  | val (v : Value)
  | sl (sz : Nat) (cs : List Dat)
  | fn (F : FnD)

def ablk : Value → Option Nat
  | .slice (some a) _ _ => some a.block
  | .pointer (some a) => some a.block
  | .map (some b) => some b
  | _ => none

/-- v reads as d, and no cell on the way lies in a block of M. -/
inductive Rd (w : World) (M : Nat → Prop) : Value → Dat → Prop where
  | val (v : Value) : Rd w M v (.val v)
  | nil (sz : Nat) : Rd w M (.slice none 0 0) (.sl sz [])
  | sl (a : Addr) (n cap sz : Nat) (cs : List Dat) (us : Nat → Value) (hn : cs.length = n * sz) (hsp : n ≤ cap)
      (hM : ∀ k, k < cs.length → ¬ M a.block)
      (hc : ∀ k d, cs[k]? = some d → w.cell? (a.add k) = some (us k))
      (hr : ∀ k d, cs[k]? = some d → Rd w M (us k) d) : Rd w M (.slice (some a) n cap) (.sl sz cs)
  | fn (F : FnD) (v : Value) (h : F.p w M v) : Rd w M v (.fn F)

theorem Same.refl (M : Nat → Prop) (w : World) : Same M w w := ⟨rfl, rfl, rfl, Nat.le_refl _, fun _ _ _ => rfl⟩

theorem Same.trans {M M' : Nat → Prop} {a b c : World} (h : Same M a b) (k : Same M' b c) (hM : ∀ x, x < a.heap.size → M' x → M x) : Same M a c :=
  ⟨k.os.trans h.os, k.tape.trans h.tape, k.output.trans h.output, Nat.le_trans h.size k.size,
   fun i hi hn => (k.block i (Nat.lt_of_lt_of_le hi h.size) (fun hm => hn (hM i hi hm))).trans (h.block i hi hn)⟩

theorem Same.of_below {w w' : World} (h : Below w.heap.size w w') (M : Nat → Prop) : Same M w w' :=
  ⟨h.os, h.tape, h.output, h.size, fun k hk _ => h.block k hk⟩

theorem Same.below {M : Nat → Prop} {w w' : World} (h : Same M w w') (hM : ∀ x, x < w.heap.size → ¬ M x) : Below w.heap.size w w' :=
  ⟨h.os, h.tape, h.output, h.size, fun k hk => h.block k hk (hM k hk)⟩

theorem Same.alloc (w : World) (o : Obj) (M : Nat → Prop) : Same M w (w.alloc o) :=
  ⟨rfl, rfl, rfl, by simp, fun k hk _ => Below.heap_alloc w o k hk⟩

theorem Same.drew (w : World) (M : Nat → Prop) : Same M w w.drew := ⟨rfl, rfl, rfl, Nat.le_refl _, fun _ _ _ => rfl⟩

theorem Same.setCell (w : World) (p : Addr) (u : Value) (M : Nat → Prop) (h : p.block < w.heap.size → M p.block) : Same M w (w.setCell p u) :=
  ⟨rfl, rfl, rfl, by simp, fun k hk hn => Below.heap_setCell _ _ _ _ (fun e => hn (e ▸ h (e ▸ hk)))⟩

theorem Same.grown {w w' : World} {row : Option Nat} (h : w.grownBy w' row) (M : Nat → Prop) (hM : ∀ b, row = some b → M b) : Same M w w' :=
  ⟨h.os, h.tape, h.output, h.size, fun k hk hn => h.block k hk (fun e => hn (hM k e.symm))⟩

theorem Same.cell {M : Nat → Prop} {w w' : World} (h : Same M w w') {p : Addr} {v : Value} (hv : w.cell? p = some v) (hM : ¬ M p.block) : w'.cell? p = some v := by
  rw [World.cell?_of_block (w := w) (h.block p.block (World.block_lt_of_cell? w p hv) hM)]; exact hv

theorem Rd.mono {w w' : World} {M M' : Nat → Prop} (h : Same M w w') (hM : ∀ b, b < w.heap.size → M' b → M b) {v : Value} {d : Dat} (hr : Rd w M v d) : Rd w' M' v d := by
  induction hr with
  | val v => exact .val v
  | nil sz => exact .nil sz
  | fn F v hp => exact .fn F v (F.mono _ _ _ _ _ h hM hp)
  | sl a n cap sz cs us hn hsp hMk hc _ ih =>
    refine .sl a n cap sz cs us hn hsp ?_ ?_ ih
    · intro k hk hm
      have hkd : cs[k]? = some cs[k] := List.getElem?_eq_getElem hk
      have hb := World.block_lt_of_cell? w _ (hc k _ hkd)
      have hb' : (a.add k).block = a.block := by unfold Addr.add; split <;> rfl
      rw [hb'] at hb
      exact hMk k hk (hM _ hb hm)
    · intro k d hd
      have hk := (List.getElem?_eq_some_iff.1 hd).1
      have hb' : (a.add k).block = a.block := by unfold Addr.add; split <;> rfl
      exact h.cell (hc k d hd) (by rw [hb']; exact hMk k hk)

/-- What a slot holds, as the walk knows it. own, ptr, ept speak of the call's own objects by their number. -/
inductive AV where
  | val (v : Value)
  | ro (d : Dat)
  | own (id : Nat)
  | ptr (id off : Nat)
  | ept (id k : Nat)
  | rpt (cs : List Dat) (off : Nat)
  | agg (l : List AV)
  | tup (l : List AV)
  | clo (f : FuncId) (l : List AV)
  | any

/-- An object of the call's own: a box of known cells; a slice that it alone holds; a slice of such slices; one that is no more looked at. -/
inductive AO where
  | box (cells : List AV)
  | row (e : TypeId) (sz : Nat) (cs : List Dat)
  | mat (e e' : TypeId) (m : List (Value × List Value))
  | mp (m : List (Value × Value))
  | bld (T e : TypeId) (cs : List Value)
  | gone

def AO.live : AO → Bool
  | .gone => false
  | _ => true

abbrev Ids := List (List Value)

def foot (ρ : Ids) (objs : List AO) (id b : Nat) : Prop :=
  ∃ o l, objs[id]? = some o ∧ o.live = true ∧ ρ[id]? = some l ∧ ∃ v, v ∈ l ∧ ablk v = some b
def Own (ρ : Ids) (objs : List AO) (b : Nat) : Prop := ∃ id, foot ρ objs id b
/-- Blocks that the call was not handed, whatever they are: nothing that it reads lies there. -/
class Zs where z : Nat → Prop
def Ban [Zs] (ρ : Ids) (objs : List AO) (b : Nat) : Prop := Own ρ objs b ∨ Zs.z b
theorem Ban.mono [Zs] {ρ ρ' : Ids} {objs objs' : List AO} {P : Nat → Prop} (h : ∀ b, P b → Own ρ' objs' b → Own ρ objs b) : ∀ b, P b → Ban ρ' objs' b → Ban ρ objs b :=
  fun b hb hx => hx.elim (fun h' => .inl (h b hb h')) .inr
theorem Same.ban [Zs] {ρ : Ids} {objs : List AO} {w w' : World} (h : Same (Own ρ objs) w w') : Same (Ban ρ objs) w w' :=
  ⟨h.os, h.tape, h.output, h.size, fun k hk hn => h.block k hk (fun hx => hn (.inl hx))⟩

/-- What a value is. -/
inductive Gm (ρ : Ids) (w : World) (M : Nat → Prop) : AV → Value → Prop where
  | val (v : Value) : Gm ρ w M (.val v) v
  | ro (d : Dat) (v : Value) (h : Rd w M v d) : Gm ρ w M (.ro d) v
  | own (id : Nat) (v : Value) (l : List Value) (h : ρ[id]? = some (v :: l)) (h1 : v.oneCell' = true) : Gm ρ w M (.own id) v
  | ptr (id off b : Nat) (l : List Value) (h : ρ[id]? = some (.pointer (some ⟨b, 0, none⟩) :: l)) : Gm ρ w M (.ptr id off) (.pointer (some ⟨b, off, none⟩))
  | ept (id k b n cap : Nat) (l : List Value) (h : ρ[id]? = some (.slice (some ⟨b, 0, none⟩) n cap :: l)) : Gm ρ w M (.ept id k) (.pointer (some ⟨b, k, none⟩))
  | rpt (a : Addr) (cs : List Dat) (off : Nat) (us : Nat → Value) (hsp : True) (hM : ∀ k, k < cs.length → ¬ M a.block)
      (hc : ∀ k d, cs[k]? = some d → w.cell? (a.add k) = some (us k)) (hr : ∀ k d, cs[k]? = some d → Rd w M (us k) d) : Gm ρ w M (.rpt cs off) (.pointer (some (a.add off)))
  | agg (l : List AV) (vs : Array Value) (hl : l.length = vs.size) (h : ∀ (i : Nat) (av : AV) (v : Value), l[i]? = some av → vs[i]? = some v → Gm ρ w M av v) : Gm ρ w M (.agg l) (.agg vs)
  | tup (l : List AV) (vs : Array Value) (hl : l.length = vs.size) (h : ∀ (i : Nat) (av : AV) (v : Value), l[i]? = some av → vs[i]? = some v → Gm ρ w M av v) : Gm ρ w M (.tup l) (.tuple vs)
  | clo (f : FuncId) (l : List AV) (vs : Array Value) (hl : l.length = vs.size) (h : ∀ (i : Nat) (av : AV) (v : Value), l[i]? = some av → vs[i]? = some v → Gm ρ w M av v) : Gm ρ w M (.clo f l) (.func (.func f) #[] vs)
  | any (v : Value) : Gm ρ w M .any v

theorem Gm.mono {ρ ρ' : Ids} {w w' : World} {M M' : Nat → Prop} (h : Same M w w') (hM : ∀ b, b < w.heap.size → M' b → M b)
    (hρ : ∀ (id : Nat) l, ρ[id]? = some l → ρ'[id]? = some l) {av : AV} {v : Value} (hg : Gm ρ w M av v) : Gm ρ' w' M' av v := by
  induction hg with
  | val v => exact .val v
  | ro d v hr => exact .ro d v (hr.mono h hM)
  | own id v l hv h1 => exact .own id v l (hρ _ _ hv) h1
  | ptr id off b l hv => exact .ptr id off b l (hρ _ _ hv)
  | ept id k b n cap l hv => exact .ept id k b n cap l (hρ _ _ hv)
  | rpt a cs off us hsp hMk hc hr =>
    have hb' : ∀ k, (a.add k).block = a.block := fun k => by unfold Addr.add; split <;> rfl
    refine .rpt a cs off us hsp ?_ ?_ (fun k d hd => (hr k d hd).mono h hM)
    · intro k hk hm
      have hb := World.block_lt_of_cell? w _ (hc k _ (List.getElem?_eq_getElem hk))
      rw [hb'] at hb
      exact hMk k hk (hM _ hb hm)
    · intro k d hd
      exact h.cell (hc k d hd) (by rw [hb']; exact hMk k (List.getElem?_eq_some_iff.1 hd).1)
  | agg l vs hl _ ih => exact .agg l vs hl ih
  | tup l vs hl _ ih => exact .tup l vs hl ih
  | clo f l vs hl _ ih => exact .clo f l vs hl ih
  | any v => exact .any v

theorem Gm.val_inv {ρ : Ids} {w : World} {M : Nat → Prop} {v u : Value} (h : Gm ρ w M (.val v) u) : u = v := by cases h; rfl
theorem Gm.ro_inv {ρ : Ids} {w : World} {M : Nat → Prop} {d : Dat} {u : Value} (h : Gm ρ w M (.ro d) u) : Rd w M u d := by cases h; assumption
theorem Gm.own_inv {ρ : Ids} {w : World} {M : Nat → Prop} {id : Nat} {u : Value} (h : Gm ρ w M (.own id) u) : ∃ l, ρ[id]? = some (u :: l) := by cases h with | own _ _ l h _ => exact ⟨l, h⟩
theorem Gm.ptr_inv {ρ : Ids} {w : World} {M : Nat → Prop} {id off : Nat} {u : Value} (h : Gm ρ w M (.ptr id off) u) :
    ∃ b l, u = .pointer (some ⟨b, off, none⟩) ∧ ρ[id]? = some (.pointer (some ⟨b, 0, none⟩) :: l) := by cases h with | ptr _ _ b l h => exact ⟨b, l, rfl, h⟩
theorem Gm.ept_inv {ρ : Ids} {w : World} {M : Nat → Prop} {id k : Nat} {u : Value} (h : Gm ρ w M (.ept id k) u) :
    ∃ b n cap l, u = .pointer (some ⟨b, k, none⟩) ∧ ρ[id]? = some (.slice (some ⟨b, 0, none⟩) n cap :: l) := by cases h with | ept _ _ b n cap l h => exact ⟨b, n, cap, l, rfl, h⟩
theorem Gm.rpt_inv {ρ : Ids} {w : World} {M : Nat → Prop} {cs : List Dat} {off : Nat} {u : Value} (h : Gm ρ w M (.rpt cs off) u) :
    ∃ (a : Addr) (us : Nat → Value), u = .pointer (some (a.add off)) ∧ True ∧ (∀ k, k < cs.length → ¬ M a.block) ∧ (∀ (k : Nat) d, cs[k]? = some d → w.cell? (a.add k) = some (us k)) ∧ ∀ (k : Nat) d, cs[k]? = some d → Rd w M (us k) d := by
  cases h with | rpt a _ _ us h1 h2 h3 h4 => exact ⟨a, us, rfl, h1, h2, h3, h4⟩
theorem Gm.agg_inv {ρ : Ids} {w : World} {M : Nat → Prop} {l : List AV} {u : Value} (h : Gm ρ w M (.agg l) u) :
    ∃ vs : Array Value, u = .agg vs ∧ l.length = vs.size ∧ ∀ (i : Nat) (av : AV) (v : Value), l[i]? = some av → vs[i]? = some v → Gm ρ w M av v := by
  cases h with | agg _ vs h1 h2 => exact ⟨vs, rfl, h1, h2⟩
theorem Gm.tup_inv {ρ : Ids} {w : World} {M : Nat → Prop} {l : List AV} {u : Value} (h : Gm ρ w M (.tup l) u) :
    ∃ vs : Array Value, u = .tuple vs ∧ l.length = vs.size ∧ ∀ (i : Nat) (av : AV) (v : Value), l[i]? = some av → vs[i]? = some v → Gm ρ w M av v := by
  cases h with | tup _ vs h1 h2 => exact ⟨vs, rfl, h1, h2⟩
theorem Gm.clo_inv {ρ : Ids} {w : World} {M : Nat → Prop} {f : FuncId} {l : List AV} {u : Value} (h : Gm ρ w M (.clo f l) u) :
    ∃ vs : Array Value, u = .func (.func f) #[] vs ∧ l.length = vs.size ∧ ∀ (i : Nat) (av : AV) (v : Value), l[i]? = some av → vs[i]? = some v → Gm ρ w M av v := by
  cases h with | clo _ _ vs h1 h2 => exact ⟨vs, rfl, h1, h2⟩

/-- A map's entries, the first one first. -/
def MapAt (w : World) (v : Value) (m : List (Value × Value)) : Prop :=
  ∃ b es, v = .map (some b) ∧ w.heap[b]? = some (.map es es.size) ∧ (∀ (i : Nat) (e : MapEntry), es[i]? = some e → e.born = i) ∧ es.toList.map (fun e => (e.key, e.val)) = m
theorem MapAt.kept {w w' : World} {v : Value} {m : List (Value × Value)} (h : MapAt w v m) (hk : ∀ b, ablk v = some b → b < w.heap.size → w'.heap[b]? = w.heap[b]?) : MapAt w' v m := by
  obtain ⟨b, es, rfl, h2, h3, h4⟩ := h
  exact ⟨b, es, rfl, by rw [hk b rfl (Array.getElem?_eq_some_iff.1 h2).1]; exact h2, h3, h4⟩
/-- A block of two cells: a pointer to itself, or to nothing, and a slice. -/
def BldAt (w : World) (b : Nat) (v : Value) (T : TypeId) : Prop :=
  ∃ p, (p = .pointer none ∨ p = .pointer (some ⟨b, 0, none⟩)) ∧ w.heap[b]? = some (.cells #[p, v] T (0, 0))
theorem BldAt.kept {w w' : World} {b : Nat} {v : Value} {T : TypeId} (h : BldAt w b v T) (hk : b < w.heap.size → w'.heap[b]? = w.heap[b]?) : BldAt w' b v T := by
  obtain ⟨p, h1, h2⟩ := h
  exact ⟨p, h1, by rw [hk (Array.getElem?_eq_some_iff.1 h2).1]; exact h2⟩
/-- What an object is, in the world. -/
def SatO (ρ : Ids) (w : World) (M : Nat → Prop) (id : Nat) : AO → Prop
  | .box cs => ∃ b arr T, ρ[id]? = some [.pointer (some ⟨b, 0, none⟩)] ∧ w.heap[b]? = some (.cells arr T (0, 0)) ∧ arr.size = cs.length ∧
      ∀ (i : Nat) (av : AV), cs[i]? = some av → ∃ v, arr[i]? = some v ∧ Gm ρ w M av v
  | .row e sz cs => ∃ v n us, ρ[id]? = some [v] ∧ w.ownsRow 0 e sz v n us ∧ us.length = cs.length ∧ ∀ (i : Nat) (d : Dat), cs[i]? = some d → ∃ u, us[i]? = some u ∧ Rd w M u d
  | .mat e e' m => ∃ v us, ρ[id]? = some (v :: us) ∧ w.ownsRow 0 e 1 v us.length us ∧ us.length = m.length ∧
      (∀ (i : Nat) (r : Value × List Value), m[i]? = some r → us[i]? = some r.1 ∧ w.ownsRow 0 e' 1 r.1 r.2.length r.2) ∧
      (∀ (i j : Nat) u u' b, (v :: us)[i]? = some u → (v :: us)[j]? = some u' → ablk u = some b → ablk u' = some b → i = j)
  | .mp m => ∃ v us, ρ[id]? = some (v :: us) ∧ us = [] ∧ MapAt w v m
  | .bld T e cs => ∃ b v, ρ[id]? = some [.pointer (some ⟨b, 0, none⟩), v] ∧ BldAt w b v T ∧ w.ownsRow 0 e 1 v cs.length cs ∧ ablk v ≠ some b
  | .gone => True

theorem ownsRow_same {M : Nat → Prop} {w w' : World} (h : Same M w w') {e : TypeId} {sz n : Nat} {v : Value} {xs : List Value} (hb : ∀ b, ablk v = some b → ¬ M b)
    (ho : w.ownsRow 0 e sz v n xs) : w'.ownsRow 0 e sz v n xs := by
  refine ⟨ho.1, ?_⟩
  rcases ho.2 with hn | ⟨g, cap, cur, rfl, hbg, hgg, rest⟩
  · exact .inl hn
  · refine .inr ⟨g, cap, cur, rfl, hbg, ?_, rest⟩
    rw [h.block g (Array.getElem?_eq_some_iff.1 hgg).1 (hb g rfl)]
    exact hgg

/-- Cells of bytes. -/
def tabN (l : List Nat) : List Value := l.map fun (z : Nat) => .int .u8 (z : Int)
/-- Package-level tables that are laid when the call begins: the block of each, and its cells. -/
def Tab : List (Nat × List Value) := [(1, tabN [0, 1, 56, 2, 57, 49, 28, 3, 61, 58, 42, 50, 38, 29, 17, 4, 62, 47, 59, 36, 45, 43, 51, 22, 53, 39, 33, 30, 24, 18, 12, 5, 63, 55, 48, 27, 60, 41, 37, 16, 46, 35, 44, 21, 52, 32, 23, 11, 54, 26, 40, 15, 34, 20, 31, 10, 25, 14, 19, 9, 13, 8, 7, 6])]
/-- The tables stand where they were laid, and the call's own objects lie elsewhere. -/
structure TabG (ρ : Ids) (w : World) (objs : List AO) : Prop where
  tf : ∀ p, p ∈ Tab → ¬ Own ρ objs p.1
  tl : ∀ p, p ∈ Tab → p.1 < w.heap.size
  tb : ∀ p, p ∈ Tab → ∀ k v, p.2[k]? = some v → w.cell? ⟨p.1, k, none⟩ = some v
theorem TabG.step {ρ ρ' : Ids} {w w' : World} {objs objs' : List AO} (h : TabG ρ w objs) (hs : Same (Own ρ objs) w w') (hM : ∀ b, b < w.heap.size → Own ρ' objs' b → Own ρ objs b) : TabG ρ' w' objs' :=
  ⟨fun p hp ho => h.tf p hp (hM _ (h.tl p hp) ho), fun p hp => Nat.lt_of_lt_of_le (h.tl p hp) hs.size, fun p hp k v hv => hs.cell (h.tb p hp k v hv) (h.tf p hp)⟩
/-- The objects, all together: each is what it is said to be, and no two share a block. -/
structure Good [Zs] (ρ : Ids) (w : World) (objs : List AO) : Prop where
  len : ρ.length = objs.length
  sat : ∀ id o, objs[id]? = some o → SatO ρ w (Ban ρ objs) id o
  dis : ∀ i j b, foot ρ objs i b → foot ρ objs j b → i = j
  zf : ∀ id b, foot ρ objs id b → ¬ Zs.z b
  zl : ∀ b, Zs.z b → b < w.heap.size
  tt : TabG ρ w objs

theorem foot_lt [Zs] {ρ : Ids} {w : World} {objs : List AO} (hg : Good ρ w objs) {id b : Nat} (h : foot ρ objs id b) : b < w.heap.size := by
  obtain ⟨o, l, ho, hl, hr, v, hv, hb⟩ := h
  have hs := hg.sat id o ho
  have row : ∀ {e : TypeId} {sz n : Nat} {u : Value} {xs : List Value}, w.ownsRow 0 e sz u n xs → ablk u = some b → b < w.heap.size := by
    intro e sz n u xs hw hb
    rcases hw.2 with ⟨rfl, _⟩ | ⟨g, cap, cur, rfl, _, hh, _⟩
    · simp [ablk] at hb
    · simp only [ablk, Option.some.injEq] at hb
      subst hb
      exact (Array.getElem?_eq_some_iff.1 hh).1
  cases o with
  | gone => cases hl
  | box cs =>
    obtain ⟨b', arr, T, h1, h2, _⟩ := hs
    rw [h1] at hr
    obtain rfl := Option.some.inj hr
    simp only [List.mem_singleton] at hv
    subst hv
    simp only [ablk, Option.some.injEq] at hb
    subst hb
    exact (Array.getElem?_eq_some_iff.1 h2).1
  | row e sz cs =>
    obtain ⟨v', n, us, h1, h2, _⟩ := hs
    rw [h1] at hr
    obtain rfl := Option.some.inj hr
    simp only [List.mem_singleton] at hv
    subst hv
    exact row h2 hb
  | mat e e' m =>
    obtain ⟨v', us, h1, h2, hlen, h3, _⟩ := hs
    rw [h1] at hr
    obtain rfl := Option.some.inj hr
    rcases List.mem_cons.1 hv with rfl | hv
    · exact row h2 hb
    · obtain ⟨i, hi, rfl⟩ := List.getElem_of_mem hv
      obtain ⟨hu, hw⟩ := h3 i (m[i]'(by omega)) (List.getElem?_eq_getElem _)
      rw [List.getElem?_eq_getElem hi] at hu
      rw [Option.some.inj hu] at hb
      exact row hw hb
  | mp m =>
    obtain ⟨v', us, h1, rfl, b', es, rfl, h2, _⟩ := hs
    rw [h1] at hr
    obtain rfl := Option.some.inj hr
    simp only [List.mem_singleton] at hv
    subst hv
    simp only [ablk, Option.some.injEq] at hb
    subst hb
    exact (Array.getElem?_eq_some_iff.1 h2).1
  | bld T e cs =>
    obtain ⟨b', v', h1, ⟨p, _, h2⟩, h3, _⟩ := hs
    rw [h1] at hr
    obtain rfl := Option.some.inj hr
    rcases List.mem_cons.1 hv with rfl | hv
    · simp only [ablk, Option.some.injEq] at hb
      subst hb
      exact (Array.getElem?_eq_some_iff.1 h2).1
    · rw [List.mem_singleton] at hv
      subst hv
      exact row h3 hb

/-- What is known between two operations. -/
structure St where
  n : Nat
  vars : List (Nat × AV)
  objs : List AO

def getv : List (Nat × AV) → Nat → AV
  | [], _ => .any
  | (t', v) :: r, t => bif Nat.beq t' t then v else getv r t
def St.get (s : St) (t : Nat) : AV := getv s.vars t
def St.put (s : St) (t : Nat) (v : AV) : St := ⟨s.n, (t, v) :: s.vars, s.objs⟩
def St.ev (s : St) : Operand → AV
  | .tmp t => s.get t
  | .const v => .val v
  | .global g => .val (.pointer (some ⟨g, 0, none⟩))
  | .func f => .val (.func (.func f) #[] #[])
def St.add (s : St) (o : AO) : St := ⟨s.n, s.vars, s.objs ++ [o]⟩
def St.set (s : St) (id : Nat) (o : AO) : St := ⟨s.n, s.vars, s.objs.set id o⟩

structure RelB [Zs] (ρ : Ids) (w : World) (st : St) (a : Act) : Prop where
  frame : ∀ t, Gm ρ w (Ban ρ st.objs) (st.get t) (a.tmps.getD t undef)
  size : a.tmps.size = st.n
  defers : a.defers = []
  good : Good ρ w st.objs

/-- How the call began: its world, the blocks that it was handed to write, the objects that it was handed. -/
structure Cx (k : Nat) where
  w0 : World
  M0 : Nat → Prop
  ρ0 : Ids
  len : ρ0.length = k

structure Rel [Zs] {k : Nat} (cx : Cx k) (st : St) (a : Act) (w : World) : Prop where
  base : ∃ ρ : Ids, RelB ρ w st a ∧ (∀ id b, foot ρ st.objs id b → b < cx.w0.heap.size → cx.M0 b) ∧ ∀ (id : Nat) l, cx.ρ0[id]? = some l → ρ[id]? = some l
  same : Same cx.M0 cx.w0 w

theorem RelB.ev [Zs] {ρ : Ids} {w : World} {st : St} {a : Act} (h : RelB ρ w st a) (x : Operand) : Gm ρ w (Ban ρ st.objs) (st.ev x) (a.eval x) := by
  cases x with
  | tmp t => exact h.frame t
  | const v => exact .val v
  | global g => exact .val _
  | func f => exact .val _

theorem RelB.evv [Zs] {ρ : Ids} {w : World} {st : St} {a : Act} (h : RelB ρ w st a) {x : Operand} {v : Value} (hx : st.ev x = .val v) : a.eval x = v := by
  have := h.ev x
  rw [hx] at this
  exact this.val_inv

theorem getv_cons (t t' : Nat) (v : AV) (r : List (Nat × AV)) : getv ((t', v) :: r) t = if t' = t then v else getv r t := by
  simp only [getv]
  by_cases h : t' = t
  · subst h; simp
  · rw [if_neg h]
    have : Nat.beq t' t = false := by
      cases hb : Nat.beq t' t
      · rfl
      · exact absurd (Nat.eq_of_beq_eq_true hb) h
    rw [this]; rfl

theorem RelB.put [Zs] {ρ : Ids} {w : World} {st : St} {a : Act} (h : RelB ρ w st a) {d : Nat} {av : AV} {v : Value} (hd : Nat.blt d st.n = true) (hv : Gm ρ w (Ban ρ st.objs) av v) :
    RelB ρ w (st.put d av) (a.put (some d) v) := by
  have hd' : d < st.n := by simpa [Nat.blt_eq] using hd
  refine ⟨fun t => ?_, by simp [Act.put, h.size, St.put], by simp [Act.put, h.defers], h.good⟩
  show Gm ρ w (Ban ρ st.objs) (getv ((d, av) :: st.vars) t) _
  rw [getv_cons]
  by_cases ht : d = t
  · subst ht
    rw [if_pos rfl]
    have : (a.put (some d) v).tmps.getD d undef = v := by simp [Act.put, h.size, hd']
    rw [this]; exact hv
  · rw [if_neg ht]
    have : (a.put (some d) v).tmps.getD t undef = a.tmps.getD t undef := by
      simp [Act.put, ht]
    rw [this]; exact h.frame t

/-- Memory has grown; the objects are what they were. -/
theorem RelB.mono [Zs] {ρ : Ids} {w w' : World} {st : St} {a : Act} (h : RelB ρ w st a) (hs : Below w.heap.size w w') : RelB ρ w' st a := by
  have hsm := Same.of_below hs (Ban ρ st.objs)
  have hg : ∀ {av v}, Gm ρ w (Ban ρ st.objs) av v → Gm ρ w' (Ban ρ st.objs) av v := fun g => g.mono hsm (fun _ _ h => h) (fun _ _ h => h)
  have hrow : ∀ {e : TypeId} {sz n : Nat} {u : Value} {xs : List Value}, w.ownsRow 0 e sz u n xs → w'.ownsRow 0 e sz u n xs := fun ho =>
    ownsRow_same (M := fun _ => False) (Same.of_below hs _) (fun _ _ h => h) ho
  refine ⟨fun t => hg (h.frame t), h.size, h.defers, h.good.len, fun id o ho => ?_, h.good.dis, h.good.zf, fun b hb => Nat.lt_of_lt_of_le (h.good.zl b hb) hs.size, h.good.tt.step (Same.of_below hs _) fun _ _ h => h⟩
  have hsat := h.good.sat id o ho
  cases o with
  | gone => trivial
  | box cs =>
    obtain ⟨b, arr, T, h1, h2, h3, h4⟩ := hsat
    refine ⟨b, arr, T, h1, ?_, h3, fun i av hi => ?_⟩
    · rw [hs.block b (Array.getElem?_eq_some_iff.1 h2).1]; exact h2
    · obtain ⟨v, hv, hgm⟩ := h4 i av hi
      exact ⟨v, hv, hg hgm⟩
  | row e sz cs =>
    obtain ⟨v, n, us, h1, h2, h3, h4⟩ := hsat
    refine ⟨v, n, us, h1, hrow h2, h3, fun i d hi => ?_⟩
    obtain ⟨u, hu, hr⟩ := h4 i d hi
    exact ⟨u, hu, hr.mono hsm (fun _ _ h => h)⟩
  | mat e e' m =>
    obtain ⟨v, us, h1, h2, h3, h4, h5⟩ := hsat
    refine ⟨v, us, h1, hrow h2, h3, fun i r hi => ?_, h5⟩
    obtain ⟨hu, hr⟩ := h4 i r hi
    exact ⟨hu, hrow hr⟩
  | mp m =>
    obtain ⟨v, us, h1, h2, h3⟩ := hsat
    exact ⟨v, us, h1, h2, h3.kept fun b _ hb => hs.block b hb⟩
  | bld T e cs =>
    obtain ⟨b, v, h1, h2, h3, h4⟩ := hsat
    exact ⟨b, v, h1, h2.kept fun hb => hs.block b hb, hrow h3, h4⟩

theorem Rel.mono [Zs] {k : Nat} {cx : Cx k} {st : St} {a : Act} {w w' : World} (h : Rel cx st a w) (hs : Below w.heap.size w w') : Rel cx st a w' := by
  obtain ⟨⟨ρ, hb, hf, h0⟩, hsame⟩ := h
  exact ⟨⟨ρ, hb.mono hs, hf, h0⟩, hsame.trans (Same.of_below hs (fun _ => False)) (fun _ _ h => h.elim)⟩

end Go.Proofs.YtbgecpjlopdkfaaDoor

/- Weakening of what is known, and contracts of calls. -/
namespace Go.Proofs.YtbgecpjlopdkfaaDoor
open Go.RowKit

/-- av, as known beside the objects objs, may be taken as av', whose numbers are read through σ. -/
inductive Vw (objs : List AO) (σ : List Nat) : AV → AV → Prop where
  | val (v : Value) : Vw objs σ (.val v) (.val v)
  | ro (d : Dat) : Vw objs σ (.ro d) (.ro d)
  | own (id id' : Nat) (h : σ[id']? = some id) : Vw objs σ (.own id) (.own id')
  | ptr (id id' off : Nat) (h : σ[id']? = some id) : Vw objs σ (.ptr id off) (.ptr id' off)
  | ept (id id' k : Nat) (h : σ[id']? = some id) : Vw objs σ (.ept id k) (.ept id' k)
  | rpt (cs : List Dat) (off : Nat) : Vw objs σ (.rpt cs off) (.rpt cs off)
  | valro (v : Value) : Vw objs σ (.val v) (.ro (.val v))
  | nilro (sz : Nat) : Vw objs σ (.val (.slice none 0 0)) (.ro (.sl sz []))
  | rowro (id : Nat) (e : TypeId) (sz : Nat) (cs : List Dat) (h : objs[id]? = some (.row e sz cs)) (hn : id ∉ σ) : Vw objs σ (.own id) (.ro (.sl sz cs))
  | matro (id : Nat) (e e' : TypeId) (m : List (Value × List Value)) (h : objs[id]? = some (.mat e e' m)) (hn : id ∉ σ) : Vw objs σ (.own id) (.ro (.sl 1 (m.map fun r => .sl 1 (r.2.map .val))))
  | boxrpt (id off : Nat) (cells : List AV) (ds : List Dat) (h : objs[id]? = some (.box cells)) (hn : id ∉ σ)
      (avs : Nat → AV) (hc : ∀ (k : Nat) (d : Dat), ds[k]? = some d → cells[off + k]? = some (avs k)) (hd : ∀ (k : Nat) (d : Dat), ds[k]? = some d → Vw objs σ (avs k) (.ro d)) : Vw objs σ (.ptr id off) (.rpt ds 0)
  | agg (l l' : List AV) (hl : l.length = l'.length) (h : ∀ (i : Nat) (a b : AV), l[i]? = some a → l'[i]? = some b → Vw objs σ a b) : Vw objs σ (.agg l) (.agg l')
  | tup (l l' : List AV) (hl : l.length = l'.length) (h : ∀ (i : Nat) (a b : AV), l[i]? = some a → l'[i]? = some b → Vw objs σ a b) : Vw objs σ (.tup l) (.tup l')
  | clo (f : FuncId) (l l' : List AV) (hl : l.length = l'.length) (h : ∀ (i : Nat) (a b : AV), l[i]? = some a → l'[i]? = some b → Vw objs σ a b) : Vw objs σ (.clo f l) (.clo f l')
  | any (av : AV) : Vw objs σ av .any

inductive VwO (objs : List AO) (σ : List Nat) : AO → AO → Prop where
  | box (l l' : List AV) (hl : l.length = l'.length) (h : ∀ (i : Nat) (a b : AV), l[i]? = some a → l'[i]? = some b → Vw objs σ a b) : VwO objs σ (.box l) (.box l')
  | row (e : TypeId) (sz : Nat) (cs : List Dat) : VwO objs σ (.row e sz cs) (.row e sz cs)
  | mat (e e' : TypeId) (m : List (Value × List Value)) : VwO objs σ (.mat e e' m) (.mat e e' m)
  | mp (m : List (Value × Value)) : VwO objs σ (.mp m) (.mp m)
  | bld (T e : TypeId) (cs : List Value) : VwO objs σ (.bld T e cs) (.bld T e cs)
  | gone (o : AO) : VwO objs σ o .gone

/-- Each new object is an old one: the one whose number stands in σ. -/
def VwOs (objs : List AO) (σ : List Nat) (objs' : List AO) : Prop :=
  σ.length = objs'.length ∧ σ.Nodup ∧ ∀ (id' : Nat) (o' : AO), objs'[id']? = some o' → ∃ id o, σ[id']? = some id ∧ objs[id]? = some o ∧ VwO objs σ o o'

def reId (ρ : Ids) (σ : List Nat) : Ids := σ.map fun id => ρ.getD id []

theorem reId_get {ρ : Ids} {σ : List Nat} {id' id : Nat} {l : List Value} (h : σ[id']? = some id) (hl : ρ[id]? = some l) : (reId ρ σ)[id']? = some l := by
  simp [reId, h, hl]

theorem reId_inv {ρ : Ids} {σ : List Nat} {id' : Nat} {l : List Value} (h : (reId ρ σ)[id']? = some l) (hσ : ∀ id, id ∈ σ → id < ρ.length) : ∃ id, σ[id']? = some id ∧ ρ[id]? = some l := by
  simp only [reId, List.getElem?_map, Option.map_eq_some_iff] at h
  obtain ⟨id, h1, h2⟩ := h
  have hlt := hσ id (List.mem_of_getElem? h1)
  refine ⟨id, h1, ?_⟩
  rw [← h2]
  simp [hlt]

theorem foot_view [Zs] {ρ : Ids} {w : World} {objs objs' : List AO} {σ : List Nat} (hg : Good ρ w objs) (ho : VwOs objs σ objs') {id' b : Nat} (h : foot (reId ρ σ) objs' id' b) :
    ∃ id, σ[id']? = some id ∧ foot ρ objs id b := by
  obtain ⟨o', l, h1, h2, h3, v, h4, h5⟩ := h
  obtain ⟨id, o, h6, h7, h8⟩ := ho.2.2 id' o' h1
  have hin : ∀ id, id ∈ σ → id < ρ.length := by
    intro id hid
    obtain ⟨i, hi, rfl⟩ := List.getElem_of_mem hid
    have hi' : i < objs'.length := by rw [← ho.1]; exact hi
    obtain ⟨id2, o2, a1, a2, _⟩ := ho.2.2 i _ (List.getElem?_eq_getElem hi')
    rw [List.getElem?_eq_getElem hi] at a1
    have := (List.getElem?_eq_some_iff.1 a2).1
    rw [hg.len]
    cases a1
    exact this
  obtain ⟨id2, h9, h10⟩ := reId_inv h3 hin
  rw [h6] at h9
  obtain rfl := Option.some.inj h9
  refine ⟨id, h6, o, l, h7, ?_, h10, v, h4, h5⟩
  cases h8 with
  | box => rfl
  | row => rfl
  | mat => rfl
  | mp => rfl
  | bld => rfl
  | gone => cases h2

theorem own_view [Zs] {ρ : Ids} {w : World} {objs objs' : List AO} {σ : List Nat} (hg : Good ρ w objs) (ho : VwOs objs σ objs') {b : Nat} (h : Own (reId ρ σ) objs' b) : Own ρ objs b := by
  obtain ⟨id', h⟩ := h
  obtain ⟨id, _, h⟩ := foot_view hg ho h
  exact ⟨id, h⟩

theorem ban_view [Zs] {ρ : Ids} {w : World} {objs objs' : List AO} {σ : List Nat} (hg : Good ρ w objs) (ho : VwOs objs σ objs') {b : Nat} (h : Ban (reId ρ σ) objs' b) : Ban ρ objs b :=
  h.elim (fun h => .inl (own_view hg ho h)) .inr

theorem not_own_view [Zs] {ρ : Ids} {w : World} {objs objs' : List AO} {σ : List Nat} (hg : Good ρ w objs) (ho : VwOs objs σ objs') {id b : Nat} (hf : foot ρ objs id b) (hn : id ∉ σ) : ¬ Ban (reId ρ σ) objs' b := by
  rintro (⟨id', h⟩ | h)
  rotate_left 1
  · exact hg.zf id b hf h
  obtain ⟨id2, h1, h2⟩ := foot_view hg ho h
  have := hg.dis id id2 b hf h2
  subst this
  exact hn (List.mem_of_getElem? h1)

theorem row_rd {w : World} {M' : Nat → Prop} {e : TypeId} {sz n : Nat} {v : Value} {us : List Value} {cs : List Dat} (ho : w.ownsRow 0 e sz v n us) (hl : us.length = cs.length)
    (hM : ∀ b, ablk v = some b → ¬ M' b) (h : ∀ (i : Nat) (d : Dat), cs[i]? = some d → ∃ u, us[i]? = some u ∧ Rd w M' u d) : Rd w M' v (.sl sz cs) := by
  rcases ho.2 with ⟨rfl, rfl⟩ | ⟨g, cap, cur, rfl, _, hgg, hnc, hcm, hcs, htake⟩
  · have hx : cs = [] := by
      apply List.eq_nil_of_length_eq_zero
      rw [← hl, ho.1]; simp
    subst hx
    exact .nil sz
  · refine .sl ⟨g, 0, none⟩ n cap sz cs (fun k => us.getD k undef) (by rw [← hl]; exact ho.1) hnc (fun _ _ => hM g rfl) ?_ ?_
    · intro k d hd
      obtain ⟨u, hu, _⟩ := h k d hd
      have := ho.cells (g := g) rfl k u hu
      rw [this]
      simp [hu]
    · intro k d hd
      obtain ⟨u, hu, hr⟩ := h k d hd
      have : us.getD k undef = u := by simp [hu]
      rw [this]; exact hr

theorem Vw.gm [Zs] {ρ : Ids} {w : World} {objs objs' : List AO} {σ : List Nat} (hg : Good ρ w objs) (ho : VwOs objs σ objs') {av av' : AV} (hv : Vw objs σ av av') :
    ∀ v, Gm ρ w (Ban ρ objs) av v → Gm (reId ρ σ) w (Ban (reId ρ σ) objs') av' v := by
  have rd : ∀ {v d}, Rd w (Ban ρ objs) v d → Rd w (Ban (reId ρ σ) objs') v d := fun h => h.mono (Same.refl (Ban ρ objs) w) (fun b _ hb => ban_view hg ho hb)
  induction hv with
  | val v => intro u hu; cases hu; exact .val _
  | ro d => intro u hu; cases hu with | ro _ _ h => exact .ro d u (rd h)
  | own id id' h => intro u hu; cases hu with | own _ _ l hl h1 => exact .own id' u l (reId_get h hl) h1
  | ptr id id' off h => intro u hu; cases hu with | ptr _ _ b l hl => exact .ptr id' off b l (reId_get h hl)
  | ept id id' k h => intro u hu; cases hu with | ept _ _ b n cap l hl => exact .ept id' k b n cap l (reId_get h hl)
  | rpt cs off =>
    intro u hu
    cases hu with
    | rpt a _ _ us hsp hM hc hr =>
      exact .rpt a cs off us hsp (fun k hk hm => hM k hk (ban_view hg ho hm)) hc (fun k d hd => rd (hr k d hd))
  | valro v => intro u hu; cases hu; exact .ro _ _ (.val _)
  | nilro sz => intro u hu; cases hu; exact .ro _ _ (.nil sz)
  | rowro id e sz cs h hn =>
    intro u hu
    cases hu with
    | own _ _ l hl _ =>
      obtain ⟨v, n, us, h1, h2, h3, h4⟩ := hg.sat id _ h
      rw [h1] at hl
      obtain ⟨rfl, rfl⟩ := List.cons.inj (Option.some.inj hl)
      refine .ro _ _ (row_rd h2 h3 (fun b hb => not_own_view hg ho ⟨_, _, h, rfl, h1, v, by simp, hb⟩ hn) fun i d hd => ?_)
      obtain ⟨u, hu, hr⟩ := h4 i d hd
      exact ⟨u, hu, rd hr⟩
  | matro id e e' m h hn =>
    intro u hu
    cases hu with
    | own _ _ l hl _ =>
      obtain ⟨v, us, h1, h2, h3, h4, h5⟩ := hg.sat id _ h
      rw [h1] at hl
      obtain ⟨rfl, rfl⟩ := List.cons.inj (Option.some.inj hl)
      refine .ro _ _ (row_rd h2 (by simp [h3]) (fun b hb => not_own_view hg ho ⟨_, _, h, rfl, h1, v, by simp, hb⟩ hn) fun i d hd => ?_)
      simp only [List.getElem?_map, Option.map_eq_some_iff] at hd
      obtain ⟨r, hr, rfl⟩ := hd
      obtain ⟨hu, how⟩ := h4 i r hr
      refine ⟨r.1, hu, row_rd how (by simp) (fun b hb => not_own_view hg ho ⟨_, _, h, rfl, h1, r.1, List.mem_cons_of_mem _ (List.mem_of_getElem? hu), hb⟩ hn) fun k d hd => ?_⟩
      simp only [List.getElem?_map, Option.map_eq_some_iff] at hd
      obtain ⟨x, hx, rfl⟩ := hd
      exact ⟨x, hx, .val x⟩
  | boxrpt id off cells ds h hn avs hc hd ih =>
    intro u hu
    cases hu with
    | ptr _ _ b l hl =>
      obtain ⟨b', arr, T, h1, h2, h3, h4⟩ := hg.sat id _ h
      rw [h1] at hl
      simp only [Option.some.injEq, List.cons.injEq, Value.pointer.injEq, Addr.mk.injEq] at hl
      obtain ⟨⟨rfl, _⟩, rfl⟩ := hl
      have key : ∀ (k : Nat) (d : Dat), ds[k]? = some d → ∃ x, arr[off + k]? = some x ∧ Gm (reId ρ σ) w (Ban (reId ρ σ) objs') (.ro d) x := by
        intro k d hk
        obtain ⟨x, hx, hgm⟩ := h4 _ _ (hc k d hk)
        exact ⟨x, hx, ih k d hk x hgm⟩
      have hadd : ∀ k, (⟨b', off, none⟩ : Addr).add k = ⟨b', off + k, none⟩ := fun k => by unfold Addr.add; split <;> simp_all
      refine .rpt ⟨b', off, none⟩ ds 0 (fun k => arr.getD (off + k) undef) trivial (fun k _ => ?_) ?_ ?_
      · exact not_own_view hg ho ⟨_, _, h, rfl, h1, .pointer (some ⟨b', 0, none⟩), by simp, rfl⟩ hn
      · intro k d hk
        obtain ⟨x, hx, _⟩ := key k d hk
        rw [hadd, cell_of_row w b' (off + k) arr T (0, 0) h2, hx]
        simp [hx]
      · intro k d hk
        obtain ⟨x, hx, hgm⟩ := key k d hk
        have : arr.getD (off + k) undef = x := by simp [hx]
        rw [this]
        cases hgm with | ro _ _ h => exact h
  | agg l l' hl h ih =>
    intro u hu
    cases hu with
    | agg _ vs hlen hi =>
      refine .agg l' vs (by rw [← hl]; exact hlen) fun i b v hb hv => ?_
      have hlt : i < l.length := by rw [hl]; exact (List.getElem?_eq_some_iff.1 hb).1
      exact ih i _ b (List.getElem?_eq_getElem hlt) hb v (hi i _ v (List.getElem?_eq_getElem hlt) hv)
  | tup l l' hl h ih =>
    intro u hu
    cases hu with
    | tup _ vs hlen hi =>
      refine .tup l' vs (by rw [← hl]; exact hlen) fun i b v hb hv => ?_
      have hlt : i < l.length := by rw [hl]; exact (List.getElem?_eq_some_iff.1 hb).1
      exact ih i _ b (List.getElem?_eq_getElem hlt) hb v (hi i _ v (List.getElem?_eq_getElem hlt) hv)
  | clo f l l' hl h ih =>
    intro u hu
    cases hu with
    | clo _ _ vs hlen hi =>
      refine .clo f l' vs (by rw [← hl]; exact hlen) fun i b v hb hv => ?_
      have hlt : i < l.length := by rw [hl]; exact (List.getElem?_eq_some_iff.1 hb).1
      exact ih i _ b (List.getElem?_eq_getElem hlt) hb v (hi i _ v (List.getElem?_eq_getElem hlt) hv)
  | any av => intro u _; exact .any u

theorem Good.view [Zs] {ρ : Ids} {w : World} {objs objs' : List AO} {σ : List Nat} (hg : Good ρ w objs) (ho : VwOs objs σ objs') : Good (reId ρ σ) w objs' := by
  refine ⟨by rw [← ho.1]; simp [reId], ?_, ?_, ?_, ?_, hg.tt.step (Same.refl _ _) fun b _ hb => own_view hg ho hb⟩
  · intro id' o' h'
    obtain ⟨id, o, h1, h2, h3⟩ := ho.2.2 id' o' h'
    have hs := hg.sat id o h2
    have rd : ∀ {v d}, Rd w (Ban ρ objs) v d → Rd w (Ban (reId ρ σ) objs') v d := fun h => h.mono (Same.refl (Ban ρ objs) w) (fun b _ hb => ban_view hg ho hb)
    cases h3 with
    | gone => trivial
    | box l l' hl h =>
      obtain ⟨b, arr, T, a1, a2, a3, a4⟩ := hs
      refine ⟨b, arr, T, reId_get h1 a1, a2, a3.trans hl, fun i av hi => ?_⟩
      have hlt : i < l.length := by rw [hl]; exact (List.getElem?_eq_some_iff.1 hi).1
      obtain ⟨v, hv, hgm⟩ := a4 i _ (List.getElem?_eq_getElem hlt)
      exact ⟨v, hv, (h i _ av (List.getElem?_eq_getElem hlt) hi).gm hg ho v hgm⟩
    | row e sz cs =>
      obtain ⟨v, n, us, a1, a2, a3, a4⟩ := hs
      refine ⟨v, n, us, reId_get h1 a1, a2, a3, fun i d hi => ?_⟩
      obtain ⟨u, hu, hr⟩ := a4 i d hi
      exact ⟨u, hu, rd hr⟩
    | mat e e' m =>
      obtain ⟨v, us, a1, a2⟩ := hs
      exact ⟨v, us, reId_get h1 a1, a2⟩
    | mp m =>
      obtain ⟨v, us, a1, a2⟩ := hs
      exact ⟨v, us, reId_get h1 a1, a2⟩
    | bld T e cs =>
      obtain ⟨b, v, a1, a2⟩ := hs
      exact ⟨b, v, reId_get h1 a1, a2⟩
  rotate_left 1
  · exact fun id b h => (foot_view hg ho h).elim fun id2 h2 => hg.zf id2 b h2.2
  · exact hg.zl
  · intro i j b hi hj
    obtain ⟨i2, h1, h2⟩ := foot_view hg ho hi
    obtain ⟨j2, h3, h4⟩ := foot_view hg ho hj
    have := hg.dis i2 j2 b h2 h4
    subst this
    have hi' := (List.getElem?_eq_some_iff.1 h1).1
    exact (List.getElem?_inj hi' ho.2.1).1 (h1.trans h3.symm)

/-- What is known as st may be taken as st'. -/
structure St.le (st st' : St) (σ : List Nat) : Prop where
  n : st.n = st'.n
  objs : VwOs st.objs σ st'.objs
  vars : ∀ t, Vw st.objs σ (st.get t) (st'.get t)

theorem RelB.le [Zs] {ρ : Ids} {w : World} {st st' : St} {a : Act} {σ : List Nat} (h : RelB ρ w st a) (hle : st.le st' σ) : RelB (reId ρ σ) w st' a :=
  ⟨fun t => (hle.vars t).gm h.good hle.objs _ (h.frame t), h.size.trans hle.n, h.defers, h.good.view hle.objs⟩

/-- What came in keeps its number. -/
def fixB : Nat → List Nat → Bool
  | 0, _ => true
  | k + 1, σ => fixB k σ && (match σ[k]? with | some j => Nat.beq j k | none => false)

theorem fixB_spec : ∀ {k : Nat} {σ : List Nat}, fixB k σ = true → ∀ i, i < k → σ[i]? = some i
  | 0, _, _, i, hi => by omega
  | k + 1, σ, h, i, hi => by
    simp only [fixB, Bool.and_eq_true] at h
    rcases Nat.lt_succ_iff_lt_or_eq.1 hi with hi | rfl
    · exact fixB_spec h.1 i hi
    · have h2 := h.2
      split at h2
      · rename_i j hj; rw [hj, Nat.eq_of_beq_eq_true h2]
      · cases h2

theorem Rel.le [Zs] {k : Nat} {cx : Cx k} {st st' : St} {a : Act} {w : World} {σ : List Nat} (h : Rel cx st a w) (hle : st.le st' σ) (hσ : fixB k σ = true) : Rel cx st' a w := by
  obtain ⟨⟨ρ, hb, hf, h0⟩, hs⟩ := h
  refine ⟨⟨reId ρ σ, hb.le hle, fun id' b h hlt => ?_, fun id l hl => ?_⟩, hs⟩
  · obtain ⟨id, _, h2⟩ := foot_view hb.good hle.objs h
    exact hf id b h2 hlt
  · have hlt := (List.getElem?_eq_some_iff.1 hl).1
    rw [cx.len] at hlt
    exact reId_get (fixB_spec hσ id hlt) (h0 id l hl)

/-! Weakening, checked slot by slot. -/
def LeV (st : St) (σ : List Nat) : List (Nat × AV) → Prop
  | [] => True
  | (t, av) :: r => Vw st.objs σ (st.get t) av ∧ LeV st σ r

theorem leV_get {st : St} {σ : List Nat} : ∀ {vars : List (Nat × AV)}, LeV st σ vars → ∀ t, Vw st.objs σ (st.get t) (getv vars t)
  | [], _, t => .any _
  | (t', av) :: r, h, t => by
    rw [getv_cons]
    by_cases ht : t' = t
    · subst ht; rw [if_pos rfl]; exact h.1
    · rw [if_neg ht]; exact leV_get h.2 t

theorem St.le_mk {st : St} {σ : List Nat} {n : Nat} {vars : List (Nat × AV)} {objs : List AO} (hn : st.n = n) (ho : VwOs st.objs σ objs) (hv : LeV st σ vars) : st.le ⟨n, vars, objs⟩ σ :=
  ⟨hn, ho, fun t => leV_get hv t⟩

def LeO (objs : List AO) (σ : List Nat) : List Nat → List AO → Prop
  | [], [] => True
  | id :: s, o' :: r => (∃ o, objs[id]? = some o ∧ VwO objs σ o o') ∧ LeO objs σ s r
  | _, _ => False

theorem leO_spec {objs : List AO} {σ : List Nat} : ∀ {s : List Nat} {r : List AO}, LeO objs σ s r → s.length = r.length ∧ ∀ (id' : Nat) (o' : AO), r[id']? = some o' → ∃ id o, s[id']? = some id ∧ objs[id]? = some o ∧ VwO objs σ o o'
  | [], [], _ => ⟨rfl, fun id' o' h => by simp at h⟩
  | id :: s, o' :: r, h => by
    obtain ⟨⟨o, h1, h2⟩, h3⟩ := h
    obtain ⟨h4, h5⟩ := leO_spec h3
    refine ⟨by simp [h4], fun id' o'' hh => ?_⟩
    cases id' with
    | zero => simp only [List.getElem?_cons_zero, Option.some.injEq] at hh; subst hh; exact ⟨id, o, rfl, h1, h2⟩
    | succ k => simp only [List.getElem?_cons_succ] at hh ⊢; exact h5 k o'' hh

theorem VwOs.mk {objs : List AO} {σ : List Nat} {objs' : List AO} (hn : σ.Nodup) (h : LeO objs σ σ objs') : VwOs objs σ objs' := by
  obtain ⟨h1, h2⟩ := leO_spec h
  exact ⟨h1, hn, h2⟩

def VwL (objs : List AO) (σ : List Nat) : List AV → List AV → Prop
  | [], [] => True
  | a :: l, b :: r => Vw objs σ a b ∧ VwL objs σ l r
  | _, _ => False

theorem vwL_spec {objs : List AO} {σ : List Nat} : ∀ {l l' : List AV}, VwL objs σ l l' → l.length = l'.length ∧ ∀ (i : Nat) (a b : AV), l[i]? = some a → l'[i]? = some b → Vw objs σ a b
  | [], [], _ => ⟨rfl, fun i a b h => by simp at h⟩
  | x :: l, y :: r, h => by
    obtain ⟨h1, h2⟩ := h
    obtain ⟨h4, h5⟩ := vwL_spec h2
    refine ⟨by simp [h4], fun i a b ha hb => ?_⟩
    cases i with
    | zero => simp only [List.getElem?_cons_zero, Option.some.injEq] at ha hb; subst ha; subst hb; exact h1
    | succ k => simp only [List.getElem?_cons_succ] at ha hb; exact h5 k a b ha hb

theorem Vw.agg' {objs : List AO} {σ : List Nat} {l l' : List AV} (h : VwL objs σ l l') : Vw objs σ (.agg l) (.agg l') := .agg l l' (vwL_spec h).1 (vwL_spec h).2
theorem Vw.tup' {objs : List AO} {σ : List Nat} {l l' : List AV} (h : VwL objs σ l l') : Vw objs σ (.tup l) (.tup l') := .tup l l' (vwL_spec h).1 (vwL_spec h).2
theorem Vw.clo' {objs : List AO} {σ : List Nat} {f : FuncId} {l l' : List AV} (h : VwL objs σ l l') : Vw objs σ (.clo f l) (.clo f l') := .clo f l l' (vwL_spec h).1 (vwL_spec h).2
theorem VwO.box' {objs : List AO} {σ : List Nat} {l l' : List AV} (h : VwL objs σ l l') : VwO objs σ (.box l) (.box l') := .box l l' (vwL_spec h).1 (vwL_spec h).2

def DatV (objs : List AO) (σ : List Nat) (cells : List AV) : List Dat → Nat → Prop
  | [], _ => True
  | d :: r, k => (k < cells.length ∧ Vw objs σ (cells.getD k .any) (.ro d)) ∧ DatV objs σ cells r (k + 1)

theorem datV_spec {objs : List AO} {σ : List Nat} {cells : List AV} : ∀ {ds : List Dat} {off : Nat}, DatV objs σ cells ds off → ∀ (k : Nat) (d : Dat), ds[k]? = some d → cells[off + k]? = some (cells.getD (off + k) .any) ∧ Vw objs σ (cells.getD (off + k) .any) (.ro d)
  | [], _, _, k, d, h => by simp at h
  | x :: r, off, h, k, d, hk => by
    obtain ⟨⟨h0, h1⟩, h2⟩ := h
    cases k with
    | zero =>
      simp only [List.getElem?_cons_zero, Option.some.injEq] at hk; subst hk
      exact ⟨by simp [h0], h1⟩
    | succ k =>
      simp only [List.getElem?_cons_succ] at hk
      have := datV_spec h2 k d hk
      rw [show off + 1 + k = off + (k + 1) by omega] at this
      exact this

theorem Vw.boxrpt' {objs : List AO} {σ : List Nat} {id off : Nat} {cells : List AV} {ds : List Dat} (h : objs[id]? = some (.box cells)) (hn : id ∉ σ) (hd : DatV objs σ cells ds off) :
    Vw objs σ (.ptr id off) (.rpt ds 0) :=
  .boxrpt id off cells ds h hn (fun k => cells.getD (off + k) .any) (fun k d hk => (datV_spec hd k d hk).1) (fun k d hk => (datV_spec hd k d hk).2)

/-! Contracts. -/
def Enters (P : Program) (f : FuncId) : Prop := ∃ fn, P.funcs[f]? = some fn ∧ (fn.name == "runtime.NumGoroutine") = false ∧ fn.body.isNone = false

theorem Enters.run {P : Program} {f : FuncId} (h : Enters P f) (args : Array Value) (w : World) : (callFunc f args).run P w = .ok (.enter f args) w := by
  obtain ⟨fn, h1, h2, h3⟩ := h
  simp only [callFunc, Sem.run_bind, run_program, Result.andThen_ok, h1, h2, h3, Bool.false_eq_true, if_false, Sem.run_pure]

/-- A call of f with args, beside objs that it may write, gives back res, beside objs'; it touches nothing else that was there. -/
def AC (P : Program) (f : FuncId) (args : List AV) (objs : List AO) (res : AV) (objs' : List AO) : Prop :=
  Enters P f ∧ ∀ [Zs] (ρ : Ids) (w : World) (vs : Array Value), Good ρ w objs → vs.size = args.length → (∀ (i : Nat) (av : AV) (v : Value), args[i]? = some av → vs[i]? = some v → Gm ρ w (Ban ρ objs) av v) →
    Calls P f vs w fun e w' => ∃ v ρ', e = .returned v ∧ Same (Own ρ objs) w w' ∧ Good ρ' w' objs' ∧ Gm ρ' w' (Ban ρ' objs') res v ∧
      (∀ (id : Nat) l, ρ[id]? = some l → ρ'[id]? = some l) ∧ (∀ b, Own ρ' objs' b → b < w.heap.size → Own ρ objs b)

def lift [Zs] {k : Nat} (cx : Cx k) (Q : Exit → St → Prop) : Exit → Act → World → Prop := fun e a w => ∃ st, Q e st ∧ Rel cx st a w

/-- The code c, begun where st is known, ends where Q is. -/
def aC [Zs] (P : Program) {k : Nat} (cx : Cx k) (c : Code) (Q : Exit → St → Prop) (st : St) : Prop :=
  ∀ a w, Rel cx st a w → c.wp P (lift cx Q) a w

def argv : Nat → List AV → List (Nat × AV)
  | _, [] => []
  | i, a :: r => (i, a) :: argv (i + 1) r

theorem getv_argv : ∀ (l : List AV) (i t : Nat), getv (argv i l) t = if i ≤ t then l.getD (t - i) .any else .any
  | [], i, t => by simp [argv, getv]
  | a :: r, i, t => by
    rw [argv, getv_cons, getv_argv r (i + 1) t]
    by_cases h : i = t
    · subst h; simp
    · rw [if_neg h]
      by_cases h2 : i ≤ t
      · rw [if_pos h2, if_pos (by omega), show t - i = (t - (i + 1)) + 1 by omega]; simp
      · rw [if_neg h2, if_neg (by omega)]

/-! Types, as the walk asks of them. -/
def SzOf (P : Program) (t : TypeId) (n : Nat) : Prop := (P.info? t).map (·.size) = some n
def scalarD : TypeDesc → Bool
  | .struct _ | .array _ _ => false
  | _ => true
/-- A type of one cell. -/
def ScT (P : Program) (t : TypeId) : Prop := ∃ d, P.underlying t = some d ∧ scalarD d = true
/-- A struct or an array of n cells. -/
def AgT (P : Program) (t : TypeId) (n : Nat) : Prop := (∃ d, P.underlying t = some d ∧ scalarD d = false) ∧ SzOf P t n
def SlT (P : Program) (t e : TypeId) (sz : Nat) : Prop := P.underlying t = some (.slice e) ∧ SzOf P e sz
def ArT (P : Program) (t : TypeId) (n : Nat) (e : TypeId) (sz : Nat) : Prop := P.underlying t = some (.array n e) ∧ SzOf P e sz
def FlT (P : Program) (t : TypeId) (f off : Nat) : Prop := ∃ fs fd n, P.underlying t = some (.struct fs) ∧ fs[f]? = some fd ∧ SzOf P fd.type (n + 1) ∧ fd.offset = off
def MkT (P : Program) (e : TypeId) (z : Value) (sz bytes : Nat) : Prop := (P.info? e).map (fun i => (i.zero, i.size, i.bytes)) = some (some z, sz, bytes)

theorem SzOf.run {P : Program} {t : TypeId} {n : Nat} (h : SzOf P t n) (w : World) : (sizeOf t).run P w = .ok n w := by
  unfold SzOf at h
  cases hi : P.info? t with
  | none => rw [hi] at h; cases h
  | some i =>
    rw [hi] at h
    simp only [Option.map_some, Option.some.injEq] at h
    subst h
    simp [sizeOf, typeInfo, hi]

theorem ScT.run {P : Program} {t : TypeId} (h : ScT P t) (w : World) : (isAgg t).run P w = .ok false w := by
  obtain ⟨d, h1, h2⟩ := h
  simp only [isAgg, Sem.run_bind, run_underlying h1, Result.andThen_ok]
  cases d <;> first | rfl | cases h2

theorem AgT.run {P : Program} {t : TypeId} {n : Nat} (h : AgT P t n) (w : World) : (isAgg t).run P w = .ok true w := by
  obtain ⟨⟨d, h1, h2⟩, _⟩ := h
  simp only [isAgg, Sem.run_bind, run_underlying h1, Result.andThen_ok]
  cases d <;> first | rfl | cases h2

theorem run_loadCellsFrom {P : Program} {w : World} (a : Addr) : ∀ (n i : Nat) (vs : List Value) (acc : Array Value), vs.length = n → (∀ (j : Nat) v, vs[j]? = some v → w.cell? (a.add (i + j)) = some v) →
    (loadCellsFrom a i n acc).run P w = .ok (acc ++ vs.toArray) w
  | 0, i, vs, acc, hl, _ => by
    have : vs = [] := List.eq_nil_of_length_eq_zero hl
    subst this
    simp [loadCellsFrom]
  | n + 1, i, [], acc, hl, _ => by cases hl
  | n + 1, i, v :: vs, acc, hl, h => by
    have h0 := h 0 v rfl
    rw [Nat.add_zero] at h0
    have ih := run_loadCellsFrom (P := P) (w := w) a n (i + 1) vs (acc.push v) (by simpa using hl) (fun j u hu => by
      have := h (j + 1) u hu
      rw [show i + 1 + j = i + (j + 1) by omega]; exact this)
    simp only [loadCellsFrom, Sem.run_bind, run_load, h0, Result.andThen_ok, ih]
    simp

theorem run_loadAgg {P : Program} {w : World} {t : TypeId} {n : Nat} (ht : AgT P t n) (a : Addr) (vs : List Value) (hl : vs.length = n) (h : ∀ (j : Nat) v, vs[j]? = some v → w.cell? (a.add j) = some v) :
    (loadVar t a).run P w = .ok (.agg vs.toArray) w := by
  have := run_loadCellsFrom (P := P) (w := w) a n 0 vs #[] hl (fun j v hv => by rw [Nat.zero_add]; exact h j v hv)
  simp [loadVar, ht.run, ht.2.run, loadCells, this]

theorem run_loadSc {P : Program} {w : World} {t : TypeId} (ht : ScT P t) (a : Addr) {v : Value} (h : w.cell? a = some v) : (loadVar t a).run P w = .ok v w := by
  simp [loadVar, ht.run, run_load, h]

/-- A box's cells, in the world. -/
theorem box_cells [Zs] {ρ : Ids} {w : World} {objs : List AO} (hg : Good ρ w objs) {id off : Nat} {cells : List AV} {u : Value} (ho : objs[id]? = some (.box cells)) (hu : Gm ρ w (Ban ρ objs) (.ptr id off) u) :
    ∃ b arr T, u = .pointer (some ⟨b, off, none⟩) ∧ ρ[id]? = some [.pointer (some ⟨b, 0, none⟩)] ∧ w.heap[b]? = some (.cells arr T (0, 0)) ∧ arr.size = cells.length ∧
      (∀ i, w.cell? ⟨b, i, none⟩ = arr[i]?) ∧ ∀ (i : Nat) (av : AV), cells[i]? = some av → ∃ v, arr[i]? = some v ∧ Gm ρ w (Ban ρ objs) av v := by
  obtain ⟨b, arr, T, h1, h2, h3, h4⟩ := hg.sat id _ ho
  obtain ⟨b', l, rfl, h6⟩ := hu.ptr_inv
  rw [h1] at h6
  simp only [Option.some.injEq, List.cons.injEq, Value.pointer.injEq, Addr.mk.injEq] at h6
  obtain ⟨⟨rfl, _⟩, _⟩ := h6
  exact ⟨b, arr, T, rfl, h1, h2, h3, fun i => cell_of_row w b i arr T (0, 0) h2, h4⟩

/-- What stands in a result's variable. -/
def ResV (P : Program) (st : St) : ResultVar → AV → Prop
  | .tmp t, av => st.get t = av
  | .cell a T, av => ∃ id cells, st.get a = .ptr id 0 ∧ st.objs[id]? = some (.box cells) ∧ ((AgT P T cells.length ∧ av = .agg cells) ∨ (ScT P T ∧ cells[0]? = some av))

def ResVs (P : Program) (st : St) : List ResultVar → List AV → Prop
  | [], [] => True
  | r :: rs, av :: avs => ResV P st r av ∧ ResVs P st rs avs
  | _, _ => False

def tupOf : List AV → AV
  | [av] => av
  | avs => .tup avs

/-- How a function's body must end: σ numbers the objects that are left; those that came in keep their numbers. -/
def Ends (P : Program) (k : Nat) (rs : List ResultVar) (res : AV) (objs' : List AO) (st : St) : Prop :=
  ∃ avs σ, ResVs P st rs avs ∧ VwOs st.objs σ objs' ∧ Vw st.objs σ (tupOf avs) res ∧ fixB k σ = true

def retA (P : Program) (k : Nat) (rs : List ResultVar) (res : AV) (objs' : List AO) : Exit → St → Prop
  | .normal, st => Ends P k rs res objs' st
  | .ret, st => Ends P k rs res objs' st
  | _, _ => False

theorem gm_resV [Zs] {ρ : Ids} {w : World} {st : St} {a : Act} (h : RelB ρ w st a) {P : Program} {r : ResultVar} {av : AV} (hr : ResV P st r av) :
    ∃ v, (∀ g : ResultVar → Sem Value, (∀ t, g (.tmp t) = pure (a.tmps.getD t undef)) → (∀ ad T, g (.cell ad T) = (do loadVar T (← asAddr (a.tmps.getD ad undef)))) → (g r).run P w = .ok v w) ∧ Gm ρ w (Ban ρ st.objs) av v := by
  cases r with
  | tmp t =>
    have : st.get t = av := hr
    subst this
    exact ⟨_, fun g h1 _ => by rw [h1]; rfl, h.frame t⟩
  | cell ad T =>
    obtain ⟨id, cells, h1, h2, h3⟩ := hr
    have hp := h.frame ad
    rw [h1] at hp
    obtain ⟨b, arr, T', hu, _, hh, hsz, hcell, hc⟩ := box_cells h.good h2 hp
    have hadd : ∀ j, (⟨b, 0, none⟩ : Addr).add j = ⟨b, j, none⟩ := fun j => by unfold Addr.add; split <;> simp_all
    rcases h3 with ⟨ht, rfl⟩ | ⟨ht, hav⟩
    · refine ⟨.agg arr, fun g _ hg => ?_, .agg cells arr hsz.symm fun i av v h4 h5 => ?_⟩
      · have := run_loadAgg (P := P) (w := w) ht ⟨b, 0, none⟩ arr.toList (by simpa using hsz) (fun j v hv => by rw [hadd, hcell]; simpa using hv)
        simp only [hg, hu, asAddr, Sem.run_bind, Sem.run_pure, Result.andThen_ok, this]
      · obtain ⟨v', h6, h7⟩ := hc i av h4
        rw [h5] at h6
        obtain rfl := Option.some.inj h6
        exact h7
    · obtain ⟨v, h6, h7⟩ := hc 0 av hav
      refine ⟨v, fun g _ hg => ?_, h7⟩
      have := run_loadSc (P := P) (w := w) ht ⟨b, 0, none⟩ (v := v) (by rw [hcell]; exact h6)
      simp only [hg, hu, asAddr, Sem.run_bind, Sem.run_pure, Result.andThen_ok, this]

theorem gm_results [Zs] {ρ : Ids} {w : World} {st : St} {a : Act} (h : RelB ρ w st a) {fn : Func} {rs : List ResultVar} {avs : List AV} (hr : fn.results = rs.toArray) {P : Program} (hv : ResVs P st rs avs) :
    ∃ v, (results fn a.tmps).run P w = .ok v w ∧ Gm ρ w (Ban ρ st.objs) (tupOf avs) v := by
  have hm : ∀ (rs : List ResultVar) (avs : List AV), ResVs P st rs avs → ∃ vs : List Value, vs.length = avs.length ∧ (∀ (i : Nat) (av : AV) (v : Value), avs[i]? = some av → vs[i]? = some v → Gm ρ w (Ban ρ st.objs) av v) ∧
      ∀ g : ResultVar → Sem Value, (∀ t, g (.tmp t) = pure (a.tmps.getD t undef)) → (∀ ad T, g (.cell ad T) = (do loadVar T (← asAddr (a.tmps.getD ad undef)))) → (rs.mapM g).run P w = .ok vs w := by
    intro rs
    induction rs with
    | nil =>
      intro avs h'
      cases avs with
      | nil => exact ⟨[], rfl, fun i av v h => by simp at h, fun g _ _ => rfl⟩
      | cons _ _ => cases h'
    | cons r rs ih =>
      intro avs h'
      cases avs with
      | nil => cases h'
      | cons av avs =>
        obtain ⟨h1, h2⟩ := h'
        obtain ⟨v, hv, hg⟩ := gm_resV h h1
        obtain ⟨vs, h3, h4, h5⟩ := ih avs h2
        refine ⟨v :: vs, by simp [h3], fun i av' v' ha hv' => ?_, fun g hg1 hg2 => ?_⟩
        · cases i with
          | zero => simp only [List.getElem?_cons_zero, Option.some.injEq] at ha hv'; subst ha; subst hv'; exact hg
          | succ i => simp only [List.getElem?_cons_succ] at ha hv'; exact h4 i av' v' ha hv'
        · simp only [List.mapM_cons, Sem.run_bind, hv g hg1 hg2, h5 g hg1 hg2, Result.andThen_ok, Sem.run_pure]
  obtain ⟨vs, h1, h2, h3⟩ := hm rs avs hv
  have hrun : (results fn a.tmps).run P w = .ok (if h : (vs.toArray).size = 1 then (vs.toArray)[0] else .tuple vs.toArray) w := by
    unfold results
    rw [hr, List.mapM_toArray]
    rw [Sem.run_bind, Sem.run_map, h3 _ (fun t => rfl) (fun ad T => rfl)]
    rfl
  refine ⟨_, hrun, ?_⟩
  clear hrun h3 hm hv
  match avs, vs, h1, h2 with
  | [], [], _, _ => exact .tup [] #[] rfl (fun i av v h => by simp at h)
  | [av], [v], _, h2 => exact h2 0 av v rfl rfl
  | av :: av' :: avs, v :: v' :: vs, hl, h2 =>
    have : ¬ (v :: v' :: vs).toArray.size = 1 := by simp
    rw [dif_neg this]
    exact .tup _ _ (by simpa using hl.symm) fun i av v h4 h5 => h2 i av v h4 (by simpa using h5)

theorem AC.mk {P : Program} {f : FuncId} {fn : Func} {c : Code} {n : Nat} {rs : List ResultVar} {args : List AV} {objs : List AO} {res : AV} {objs' : List AO}
    (hf : P.funcs[f]? = some fn) (hnm : (fn.name == "runtime.NumGoroutine") = false) (hb : fn.body = some c) (hn : fn.ntmps = n) (hle' : Nat.ble args.length n = true) (hr : fn.results = rs.toArray)
    (h : ∀ [Zs] (cx : Cx objs.length), aC P cx c (retA P objs.length rs res objs') ⟨n, argv 0 args, objs⟩) : AC P f args objs res objs' := by
  refine ⟨⟨fn, hf, hnm, by rw [hb]; rfl⟩, ?_⟩
  have hle : args.length ≤ n := Nat.le_of_ble_eq_true hle'
  intro _ ρ w vs hg hsz hargs
  refine calls_of_wp hf hb ?_
  have hrel : Rel (⟨w, Own ρ objs, ρ, hg.len⟩ : Cx objs.length) ⟨n, argv 0 args, objs⟩ { tmps := vs ++ Array.replicate (fn.ntmps - vs.size) undef, defers := [] } w := by
    refine ⟨⟨ρ, ⟨fun t => ?_, by simp; omega, rfl, hg⟩, fun id b hfo _ => ⟨id, hfo⟩, fun _ _ h => h⟩, Same.refl _ _⟩
    show Gm ρ w (Ban ρ objs) (getv (argv 0 args) t) _
    rw [getv_argv, if_pos (Nat.zero_le _)]
    by_cases ht : t < args.length
    · have h1 : args[t]? = some args[t] := List.getElem?_eq_getElem ht
      have ht' : t < vs.size := by omega
      have h2 : vs[t]? = some vs[t] := Array.getElem?_eq_getElem ht'
      have h3 : (vs ++ Array.replicate (fn.ntmps - vs.size) undef).getD t undef = vs[t] := by simp [ht', Array.getElem?_append]
      rw [h3]
      simp only [Nat.sub_zero, List.getD_eq_getElem?_getD, h1, Option.getD_some]
      exact hargs t _ _ h1 h2
    · have : args.getD (t - 0) AV.any = .any := by simp; rw [List.getElem?_eq_none (by omega)]; rfl
      rw [this]
      exact .any _
  refine wp_mono (h _ _ _ hrel) ?_
  intro e a w' ⟨st, hq, ⟨ρ1, hb1, hf1, h01⟩, hs1⟩
  have fin : Ends P objs.length rs res objs' st → bodyPost P fn (fun e w' => ∃ v ρ', e = .returned v ∧ Same (Own ρ objs) w w' ∧ Good ρ' w' objs' ∧ Gm ρ' w' (Ban ρ' objs') res v ∧
      (∀ (id : Nat) l, ρ[id]? = some l → ρ'[id]? = some l) ∧ (∀ b, Own ρ' objs' b → b < w.heap.size → Own ρ objs b)) .ret a w' := by
    rintro ⟨avs, σ, hrv, ho, hv, hσ⟩
    obtain ⟨v, hrun, hgm⟩ := gm_results hb1 hr hrv
    refine ⟨hb1.defers, v, hrun, v, reId ρ1 σ, rfl, hs1, hb1.good.view ho, hv.gm hb1.good ho v hgm, fun id l hl => ?_, fun b hb hlt => ?_⟩
    · have hlt := (List.getElem?_eq_some_iff.1 hl).1
      rw [hg.len] at hlt
      exact reId_get (fixB_spec hσ id hlt) (h01 id l hl)
    · obtain ⟨id', hfo⟩ := hb
      obtain ⟨id, _, hfo'⟩ := foot_view hb1.good ho hfo
      exact hf1 id b hfo' hlt
  cases e with
  | normal => exact fin hq
  | ret => exact fin hq
  | _ => exact hq.elim

end Go.Proofs.YtbgecpjlopdkfaaDoor

/- The rules of code and of regions. -/
namespace Go.Proofs.YtbgecpjlopdkfaaDoor
open Go.RowKit
section
variable {P : Program} {k : Nat} {cx : Cx k}

def thenA (K : St → Prop) (Q : Exit → St → Prop) : Exit → St → Prop
  | .normal, st => K st
  | e, st => Q e st
def blockA (id : Nat) (Q : Exit → St → Prop) : Exit → St → Prop
  | .exit id', st => bif Nat.beq id' id then Q .normal st else Q (.exit id') st
  | e, st => Q e st

theorem a_mono [Zs] {c : Code} {Q Q' : Exit → St → Prop} {st : St} (h : aC P cx c Q st) (hq : ∀ e st, Q e st → Q' e st) : aC P cx c Q' st :=
  fun a w hr => wp_mono (h a w hr) fun e _ _ ⟨st', q, r⟩ => ⟨st', hq e st' q, r⟩

theorem a_le [Zs] {c : Code} {Q : Exit → St → Prop} {st : St} (st' : St) (σ : List Nat) (hle : st.le st' σ) (hσ : fixB k σ = true) (h : aC P cx c Q st') : aC P cx c Q st :=
  fun a w hr => h a w (hr.le hle hσ)

theorem a_skip [Zs] {Q : Exit → St → Prop} {st : St} (h : Q .normal st) : aC P cx .skip Q st := fun _ _ hr => wp_skip ⟨st, h, hr⟩
theorem a_label [Zs] {l : Nat} {Q : Exit → St → Prop} {st : St} (h : Q .normal st) : aC P cx (.label l) Q st := fun _ _ hr => wp_label ⟨st, h, hr⟩
theorem a_exit [Zs] {id : Nat} {Q : Exit → St → Prop} {st : St} (h : Q (.exit id) st) : aC P cx (.exit id) Q st := fun _ _ hr => wp_exit ⟨st, h, hr⟩
theorem a_ret [Zs] {Q : Exit → St → Prop} {st : St} (h : Q .ret st) : aC P cx .ret Q st := fun _ _ hr => wp_ret ⟨st, h, hr⟩

theorem a_seq [Zs] {x y : Code} {Q : Exit → St → Prop} {st : St} (h : aC P cx x (thenA (fun st => aC P cx y Q st) Q) st) : aC P cx (.seq x y) Q st := by
  intro a w hr
  refine wp_seq (wp_mono (h a w hr) ?_)
  rintro e a' w' ⟨st', q, r⟩
  cases e with
  | normal => exact q a' w' r
  | exit id => exact ⟨st', q, r⟩
  | goto l => exact ⟨st', q, r⟩
  | ret => exact ⟨st', q, r⟩
  | panic ch => exact ⟨st', q, r⟩
  | outgrown => exact ⟨st', q, r⟩

theorem a_cond [Zs] {c : Operand} {x y : Code} {Q : Exit → St → Prop} {st : St} {b : Bool} (hc : st.ev c = .val (.bool b)) (ht : b = true → aC P cx x Q st) (hf : b = false → aC P cx y Q st) :
    aC P cx (.cond c x y) Q st := by
  intro a w hr
  have hv : a.eval c = .bool b := by
    obtain ⟨ρ, hb, _⟩ := hr.base
    exact hb.evv hc
  cases b with
  | true => exact wp_cond_true hv (ht rfl a w hr)
  | false => exact wp_cond_false hv (hf rfl a w hr)

theorem a_block [Zs] {id : Nat} {c : Code} {Q : Exit → St → Prop} {st : St} (h : aC P cx c (blockA id Q) st) : aC P cx (.block id c) Q st := by
  intro a w hr
  refine wp_block (wp_mono (h a w hr) ?_)
  rintro e a' w' ⟨st', q, r⟩
  cases e with
  | exit id' =>
    simp only [blockA] at q
    simp only [Exit.inBlock]
    by_cases h : id' = id
    · subst h; rw [if_pos rfl]; simp at q; exact ⟨st', q, r⟩
    · rw [if_neg h]
      have hb : Nat.beq id' id = false := by
        cases hb : Nat.beq id' id
        · rfl
        · exact absurd (Nat.eq_of_beq_eq_true hb) h
      rw [hb] at q
      exact ⟨st', q, r⟩
  | normal => exact ⟨st', q, r⟩
  | goto l => exact ⟨st', q, r⟩
  | ret => exact ⟨st', q, r⟩
  | panic ch => exact ⟨st', q, r⟩
  | outgrown => exact ⟨st', q, r⟩

/-- What is handed on at the end of a round. -/
def Hand {k : Nat} (X : Type) (inv : X → St) (I : X → Prop) (μ : X → Nat) (m : Nat) (st : St) : Prop :=
  ∃ x σ, I x ∧ μ x < m ∧ st.le (inv x) σ ∧ fixB k σ = true

/-- A loop: at the head of each round the state is inv x, for an x of which I holds; μ goes down. -/
theorem a_loop [Zs] {c : Code} {Q : Exit → St → Prop} {st : St} {X : Type} (inv : X → St) (I : X → Prop) (μ : X → Nat) (x0 : X) (σ0 : List Nat) (h0 : I x0) (hle : st.le (inv x0) σ0) (hσ : fixB k σ0 = true)
    (round : ∀ x, I x → aC P cx c (thenA (Hand (k := k) X inv I μ (μ x)) Q) (inv x)) : aC P cx (.loop c) Q st := by
  intro a w hr
  refine wp_loop_ghost (fun n a w => ∃ x, μ x = n ∧ I x ∧ Rel cx (inv x) a w) (μ x0) ⟨x0, rfl, h0, hr.le hle hσ⟩ ?_
  rintro n a w ⟨x, rfl, hI, hrel⟩
  refine wp_mono (round x hI a w hrel) ?_
  rintro e a' w' ⟨st', q, r⟩
  cases e with
  | normal =>
    obtain ⟨x', σ, h1, h2, h3, h4⟩ := q
    exact ⟨μ x', h2, x', rfl, h1, r.le h3 h4⟩
  | exit id => exact ⟨st', q, r⟩
  | goto l => exact ⟨st', q, r⟩
  | ret => exact ⟨st', q, r⟩
  | panic ch => exact ⟨st', q, r⟩
  | outgrown => exact ⟨st', q, r⟩

/-- Ways that meet again: behind x the state is inv y, for a y of which I holds. -/
theorem a_cut [Zs] {x y : Code} {Q : Exit → St → Prop} {st : St} {X : Type} (inv : X → St) (I : X → Prop)
    (h1 : aC P cx x (thenA (fun st => ∃ z σ, I z ∧ st.le (inv z) σ ∧ fixB k σ = true) Q) st) (h2 : ∀ z, I z → aC P cx y Q (inv z)) : aC P cx (.seq x y) Q st := by
  refine a_seq (a_mono h1 ?_)
  intro e st' q
  cases e with
  | normal => obtain ⟨z, σ, a1, a2, a3⟩ := q; exact a_le _ σ a2 a3 (h2 z a1)
  | exit id => exact q
  | goto l => exact q
  | ret => exact q
  | panic ch => exact q
  | outgrown => exact q

/-! Regions in the text's order. -/
def aL [Zs] (P : Program) {k : Nat} (cx : Cx k) (ops : Array Oper) (Q : Exit → St → Prop) (rest : List Oper) (st : St) : Prop :=
  ∀ a w, Rel cx st a w → wpList P ops (lift cx Q) rest a w

theorem a_region [Zs] {id : Nat} {l : List Oper} {Q : Exit → St → Prop} {st : St} (h : aL P cx l.toArray Q l st) : aC P cx (.region id l.toArray false) Q st :=
  fun a w hr => wp_region_lit (h a w hr)

theorem l_nil [Zs] {ops : Array Oper} {Q : Exit → St → Prop} {st : St} (h : Q .normal st) : aL P cx ops Q [] st := fun _ _ hr => ⟨st, h, hr⟩

/-- An operation that leaves memory as it is, and what it gives. -/
def QOp (P : Program) (o : Oper) (st : St) (av : AV) : Prop :=
  ∀ (_ : Zs) (ρ : Ids) (w : World) (a : Act), RelB ρ w st a → ∃ v, Gm ρ w (Ban ρ st.objs) av v ∧ ∀ w1, Below w.heap.size w w1 → Oper.quietAt P o a (Below w.heap.size w) w1 v

theorem yielded_of [Zs] {st : St} {a : Act} {ρ : Ids} {w : World} (hb : RelB ρ w st a) {ops : Array Oper} {j dj : Nat} {b : Bool} (hj : (ops[j]?).bind (·.dst) = some dj) (hv : st.get dj = .val (.bool b)) :
    yielded ops a.tmps j = some b := by
  have h := hb.frame dj
  rw [hv] at h
  have h2 : a.tmps.getD dj undef = .bool b := h.val_inv
  have h3 : a.tmps[dj]? = some (.bool b) := by
    cases hx : a.tmps[dj]? with
    | none => simp [hx, undef] at h2
    | some u => simp [hx] at h2; rw [h2]
  unfold yielded
  rw [hj]
  simp [h3]

theorem yielded_none [Zs] {st : St} {a : Act} {ρ : Ids} {w : World} (hb : RelB ρ w st a) {ops : Array Oper} {j dj : Nat} (hj : (ops[j]?).bind (·.dst) = some dj) (hv : st.get dj = .val undef) : yielded ops a.tmps j = none := by
  have h := hb.frame dj
  rw [hv] at h
  have h2 : a.tmps.getD dj undef = undef := h.val_inv
  unfold yielded
  rw [hj]
  cases hx : a.tmps[dj]? with
  | none => simp [hx]
  | some u => simp [hx] at h2; simp [hx, h2, undef]
theorem l_guard_u [Zs] {ops : Array Oper} {Q : Exit → St → Prop} {st : St} {rest : List Oper} {d : Nat} {op : Op} {ty : TypeId} {pos : String} {af : Array Edge} {j : Nat} {want : Bool} {dj : Nat}
    (hj : (ops[j]?).bind (·.dst) = some dj) (hv : st.get dj = .val undef) (hd : Nat.blt d st.n = true)
    (no : aL P cx ops Q rest (st.put d (.val undef))) : aL P cx ops Q (⟨some d, op, ty, pos, af, some (j, want)⟩ :: rest) st := by
  intro a w hr
  obtain ⟨ρ, hb, hf, h0⟩ := hr.base
  have hy := yielded_none hb hj hv
  unfold wpList
  rw [if_neg (by simp [Region.wanted, hy])]
  exact no _ _ ⟨⟨ρ, hb.put hd (.val _), hf, h0⟩, hr.same⟩

theorem l_guard [Zs] {ops : Array Oper} {Q : Exit → St → Prop} {st : St} {rest : List Oper} {d : Nat} {op : Op} {ty : TypeId} {pos : String} {af : Array Edge} {j : Nat} {want : Bool} {dj : Nat} {b : Bool}
    (hj : (ops[j]?).bind (·.dst) = some dj) (hv : st.get dj = .val (.bool b)) (hd : Nat.blt d st.n = true)
    (yes : b = want → aL P cx ops Q (⟨some d, op, ty, pos, af, none⟩ :: rest) st)
    (no : b = !want → aL P cx ops Q rest (st.put d (.val undef))) : aL P cx ops Q (⟨some d, op, ty, pos, af, some (j, want)⟩ :: rest) st := by
  intro a w hr
  obtain ⟨ρ, hb, hf, h0⟩ := hr.base
  have hy := yielded_of hb hj hv
  unfold wpList
  by_cases h : b = want
  · subst h
    rw [if_pos (by simp [Region.wanted, hy])]
    have := yes rfl a w hr
    unfold wpList at this
    rw [if_pos (by simp [Region.wanted])] at this
    exact this
  · rw [if_neg (by simp [Region.wanted, hy, h])]
    have hn : b = !want := by cases b <;> cases want <;> simp_all
    exact no hn _ _ ⟨⟨ρ, hb.put hd (.val _), hf, h0⟩, hr.same⟩

theorem upon_of_quiet {o : Oper} {a : Act} {w : World} {v : Value} {next : Act → World → Prop} {Q : Exit → Act → World → Prop} (h : Oper.quietAt P o a (Below w.heap.size w) w v)
    (hn : ∀ w', Below w.heap.size w w' → next (a.put o.dst v) w') : o.wp P a w next Q := by
  unfold Oper.quietAt at h
  unfold Oper.wp
  generalize (execOp a.eval o).run P w = r at *
  cases r with
  | ok n w' =>
    cases n <;> simp only [Oper.quietUpon] at h <;> simp only [Oper.upon]
    case value u =>
      obtain ⟨e1, e2⟩ := h
      subst e1; subst e2
      exact hn _ (Below.refl _ _)
    case skip =>
      obtain ⟨e1, e2⟩ := h
      subst e1; subst e2
      exact hn _ (Below.refl _ _)
    case enter f args =>
      obtain ⟨e1, hc⟩ := h
      subst e1
      exact hc.mono fun e w'' ⟨he, hw''⟩ => by subst he; exact hn _ hw''
  | halt x w' => simp only [Oper.quietUpon] at h

theorem l_q [Zs] {ops : Array Oper} {Q : Exit → St → Prop} {st : St} {rest : List Oper} {d : Nat} {op : Op} {ty : TypeId} {pos : String} {af : Array Edge} {av : AV}
    (hq : QOp P ⟨some d, op, ty, pos, af, none⟩ st av) (hd : Nat.blt d st.n = true) (h : aL P cx ops Q rest (st.put d av)) : aL P cx ops Q (⟨some d, op, ty, pos, af, none⟩ :: rest) st := by
  intro a w hr
  obtain ⟨ρ, hb, hf, h0⟩ := hr.base
  obtain ⟨v, hg, hv⟩ := hq _ ρ w a hb
  unfold wpList
  rw [if_pos (by simp [Region.wanted])]
  refine .inl (upon_of_quiet (hv w (Below.refl _ _)) fun w' hw' => h _ _ ?_)
  have hr' := hr.mono hw'
  refine ⟨⟨ρ, (hb.mono hw').put hd (hg.mono (Same.of_below hw' _) (fun _ _ h => h) (fun _ _ h => h)), hf, h0⟩, hr'.same⟩

/-! Regions that draw their order, all of whose operations leave memory as it is. -/
def qL [Zs] (P : Program) (ops : Array Oper) (K : St → Prop) (rest : List Oper) (st : St) : Prop :=
  ∀ (ρ : Ids) (w : World) (a : Act), RelB ρ w st a → wpQuiet P ops (Below w.heap.size w) (fun a' => ∃ st', K st' ∧ st'.objs = st.objs ∧ RelB ρ w st' a') rest a

theorem wpQuiet_mono {ops : Array Oper} {C : World → Prop} {Q Q' : Act → Prop} (h : ∀ a, Q a → Q' a) : ∀ (l : List Oper) (a : Act), wpQuiet P ops C Q l a → wpQuiet P ops C Q' l a
  | [], a, hq => h a hq
  | o :: l, a, hq => by
    unfold wpQuiet at *
    split
    · rename_i hw; rw [if_pos hw] at hq; exact Oper.quiet_mono (wpQuiet_mono h l) hq
    · rename_i hw; rw [if_neg hw] at hq; exact wpQuiet_mono h l _ hq

theorem a_draw [Zs] {id : Nat} {l : List Oper} {Q : Exit → St → Prop} {st : St} (hm : P.follows .mixedOrders = true) (hB : Region.lexB .any l.toArray = true)
    (h : qL P l.toArray (fun st => Q .normal st) l st) : aC P cx (.region id l.toArray true) Q st := by
  intro a w hr
  obtain ⟨ρ, hb, hf, h0⟩ := hr.base
  refine wp_region_quiet (C := Below w.heap.size w) hm hB ⟨rfl, rfl, rfl, Nat.le_refl _, fun _ _ => rfl⟩ ?_
  simp only []
  refine wpQuiet_mono ?_ _ _ (h ρ w a hb)
  rintro a' ⟨st', hK, ho, hb'⟩ w' hw'
  refine ⟨st', hK, ⟨ρ, hb'.mono hw', ?_, h0⟩, (hr.mono hw').same⟩
  rw [ho]; exact hf

theorem q_nil [Zs] {ops : Array Oper} {K : St → Prop} {st : St} (h : K st) : qL P ops K [] st := fun _ _ _ hb => ⟨st, h, rfl, hb⟩

theorem q_q [Zs] {ops : Array Oper} {K : St → Prop} {st : St} {rest : List Oper} {d : Nat} {op : Op} {ty : TypeId} {pos : String} {af : Array Edge} {av : AV}
    (hq : QOp P ⟨some d, op, ty, pos, af, none⟩ st av) (hd : Nat.blt d st.n = true) (h : qL P ops K rest (st.put d av)) : qL P ops K (⟨some d, op, ty, pos, af, none⟩ :: rest) st := by
  intro ρ w a hb
  obtain ⟨v, hg, hv⟩ := hq _ ρ w a hb
  unfold wpQuiet
  rw [if_pos (by simp [Region.wanted])]
  exact ⟨v, hv, h ρ w _ (hb.put hd hg)⟩

theorem q_guard [Zs] {ops : Array Oper} {K : St → Prop} {st : St} {rest : List Oper} {d : Nat} {op : Op} {ty : TypeId} {pos : String} {af : Array Edge} {j : Nat} {want : Bool} {dj : Nat} {b : Bool}
    (hj : (ops[j]?).bind (·.dst) = some dj) (hv : st.get dj = .val (.bool b)) (hd : Nat.blt d st.n = true)
    (yes : b = want → qL P ops K (⟨some d, op, ty, pos, af, none⟩ :: rest) st)
    (no : b = !want → qL P ops K rest (st.put d (.val undef))) : qL P ops K (⟨some d, op, ty, pos, af, some (j, want)⟩ :: rest) st := by
  intro ρ w a hb
  have hy := yielded_of hb hj hv
  unfold wpQuiet
  by_cases h : b = want
  · subst h
    rw [if_pos (by simp [Region.wanted, hy])]
    have := yes rfl ρ w a hb
    unfold wpQuiet at this
    rw [if_pos (by simp [Region.wanted])] at this
    exact this
  · rw [if_neg (by simp [Region.wanted, hy, h])]
    have hn : b = !want := by cases b <;> cases want <;> simp_all
    exact no hn ρ w _ (hb.put hd (.val _))
end
end Go.Proofs.YtbgecpjlopdkfaaDoor

/- The quiet operations, one law each. -/
namespace Go.Proofs.YtbgecpjlopdkfaaDoor
open Go.RowKit
section
variable {P : Program} {st : St} {d : Option Tmp} {ty : TypeId} {pos : String} {af : Array Edge} {g : Option (Nat × Bool)}

theorem QOp.run {o : Oper} {av : AV} (h : ∀ [Zs] (ρ : Ids) (w : World) (a : Act), RelB ρ w st a → ∃ v, Gm ρ w (Ban ρ st.objs) av v ∧ ∀ w1, Below w.heap.size w w1 → (execOp a.eval o).run P w1 = .ok (.value v) w1) :
    QOp P o st av := by
  intro _ ρ w a hb
  obtain ⟨v, h1, h2⟩ := h ρ w a hb
  refine ⟨v, h1, fun w1 hw => ?_⟩
  unfold Oper.quietAt
  rw [h2 w1 hw]
  exact ⟨rfl, rfl⟩

theorem Q_move {x : Operand} {av : AV} (hx : st.ev x = av) : QOp P ⟨d, .move x, ty, pos, af, g⟩ st av :=
  .run fun _ _ a hb => ⟨a.eval x, hx ▸ hb.ev x, fun _ _ => rfl⟩
theorem Q_assign {x : Operand} {av : AV} (hx : st.ev x = av) : QOp P ⟨d, .assign x, ty, pos, af, g⟩ st av :=
  .run fun _ _ a hb => ⟨a.eval x, hx ▸ hb.ev x, fun _ _ => rfl⟩

theorem Q_pick_t {c x y : Operand} {b : Bool} {av : AV} (hc : st.ev c = .val (.bool b)) (hb : b = true) (hx : st.ev x = av) : QOp P ⟨d, .pick c x y, ty, pos, af, g⟩ st av :=
  .run fun _ _ a hr => ⟨a.eval x, hx ▸ hr.ev x, fun w1 _ => by
    have := hr.evv hc
    subst hb
    simp [execOp, this, asBool]⟩
theorem Q_pick_f {c x y : Operand} {b : Bool} {av : AV} (hc : st.ev c = .val (.bool b)) (hb : b = false) (hx : st.ev y = av) : QOp P ⟨d, .pick c x y, ty, pos, af, g⟩ st av :=
  .run fun _ _ a hr => ⟨a.eval y, hx ▸ hr.ev y, fun w1 _ => by
    have := hr.evv hc
    subst hb
    simp [execOp, this, asBool]⟩

theorem run_eqGuard_int (op : BinOp) (T : TypeId) (x y : Operand) (k k' : IntKind) (m n : Int) (w : World) : (eqGuard op T x y (.int k m) (.int k' n)).run P w = .ok () w := by
  cases op <;> rfl

theorem Q_bin {op : BinOp} {T T' : TypeId} {x y : Operand} {k k' : IntKind} {m n : Int} {v : Value} (hx : st.ev x = .val (.int k m)) (hy : st.ev y = .val (.int k' n))
    (h : ∀ w, (binOp op T (.int k m) (.int k' n)).run P w = .ok v w) : QOp P ⟨d, .binOp op T x y T', ty, pos, af, g⟩ st (.val v) :=
  .run fun _ _ a hr => ⟨v, .val v, fun w1 _ => by
    simp only [execOp, hr.evv hx, hr.evv hy, Sem.run_bind, run_eqGuard_int, Result.andThen_ok, h, Sem.run_pure]⟩

section
variable {T T' : TypeId} {x y : Operand} {m n : Int}
theorem Q_lss (hx : st.ev x = .val (.int .i64 m)) (hy : st.ev y = .val (.int .i64 n)) : QOp P ⟨d, .binOp .lss T x y T', ty, pos, af, g⟩ st (.val (.bool (decide (m < n)))) := Q_bin hx hy fun _ => rfl
theorem Q_leq (hx : st.ev x = .val (.int .i64 m)) (hy : st.ev y = .val (.int .i64 n)) : QOp P ⟨d, .binOp .leq T x y T', ty, pos, af, g⟩ st (.val (.bool (decide (m ≤ n)))) := Q_bin hx hy fun _ => rfl
theorem Q_gtr (hx : st.ev x = .val (.int .i64 m)) (hy : st.ev y = .val (.int .i64 n)) : QOp P ⟨d, .binOp .gtr T x y T', ty, pos, af, g⟩ st (.val (.bool (decide (n < m)))) := Q_bin hx hy fun _ => rfl
theorem Q_geq (hx : st.ev x = .val (.int .i64 m)) (hy : st.ev y = .val (.int .i64 n)) : QOp P ⟨d, .binOp .geq T x y T', ty, pos, af, g⟩ st (.val (.bool (decide (n ≤ m)))) := Q_bin hx hy fun _ => rfl
theorem beq_dec (m n : Int) : (m == n) = decide (m = n) := by by_cases h : m = n <;> simp [h]
theorem bne_dec (m n : Int) : (m != n) = decide (m ≠ n) := by by_cases h : m = n <;> simp [h]
theorem Q_eql (hx : st.ev x = .val (.int .i64 m)) (hy : st.ev y = .val (.int .i64 n)) : QOp P ⟨d, .binOp .eql T x y T', ty, pos, af, g⟩ st (.val (.bool (decide (m = n)))) := Q_bin hx hy fun _ => by rw [← beq_dec]; rfl
theorem Q_neq (hx : st.ev x = .val (.int .i64 m)) (hy : st.ev y = .val (.int .i64 n)) : QOp P ⟨d, .binOp .neq T x y T', ty, pos, af, g⟩ st (.val (.bool (decide (m ≠ n)))) := Q_bin hx hy fun _ => by rw [← bne_dec]; rfl

theorem Q_add (hx : st.ev x = .val (.int .i64 m)) (hy : st.ev y = .val (.int .i64 n)) (h : -9223372036854775808 ≤ m + n ∧ m + n ≤ 9223372036854775807) :
    QOp P ⟨d, .binOp .add T x y T', ty, pos, af, g⟩ st (.val (.int .i64 (m + n))) := Q_bin hx hy fun _ => by
  show Result.ok (Value.int .i64 (IntKind.i64.wrap (m + n))) _ = _
  rw [IntWalk.i64_in _ h]
theorem Q_sub (hx : st.ev x = .val (.int .i64 m)) (hy : st.ev y = .val (.int .i64 n)) (h : -9223372036854775808 ≤ m - n ∧ m - n ≤ 9223372036854775807) :
    QOp P ⟨d, .binOp .sub T x y T', ty, pos, af, g⟩ st (.val (.int .i64 (m - n))) := Q_bin hx hy fun _ => by
  show Result.ok (Value.int .i64 (IntKind.i64.wrap (m - n))) _ = _
  rw [IntWalk.i64_in _ h]
theorem Q_mul (hx : st.ev x = .val (.int .i64 m)) (hy : st.ev y = .val (.int .i64 n)) (h : -9223372036854775808 ≤ m * n ∧ m * n ≤ 9223372036854775807) :
    QOp P ⟨d, .binOp .mul T x y T', ty, pos, af, g⟩ st (.val (.int .i64 (m * n))) := Q_bin hx hy fun _ => by
  show Result.ok (Value.int .i64 (IntKind.i64.wrap (m * n))) _ = _
  rw [IntWalk.i64_in _ h]
/-- Of two numbers from nought on. -/
theorem Q_quo (hx : st.ev x = .val (.int .i64 m)) (hy : st.ev y = .val (.int .i64 n)) (h : 0 ≤ m ∧ m ≤ 9223372036854775807 ∧ 1 ≤ n) :
    QOp P ⟨d, .binOp .quo T x y T', ty, pos, af, g⟩ st (.val (.int .i64 (m / n))) := Q_bin hx hy fun w => by
  have h0 : ¬ n = 0 := by omega
  have h1 := IntWalk.i64_quo m n h
  simp [binOp, Op.intDiv, h0, h1]
theorem Q_rem (hx : st.ev x = .val (.int .i64 m)) (hy : st.ev y = .val (.int .i64 n)) (h : 0 ≤ m ∧ 1 ≤ n) :
    QOp P ⟨d, .binOp .rem T x y T', ty, pos, af, g⟩ st (.val (.int .i64 (m % n))) := Q_bin hx hy fun w => by
  have h0 : ¬ n = 0 := by omega
  have h1 := Int.tmod_eq_emod_of_nonneg h.1 (b := n)
  simp [binOp, Op.intDiv, h0, h1]
theorem shl_eq (n : Nat) (hn : n < 64) : min n IntKind.i64.bits = n := by simp [IntKind.bits]; omega

theorem Q_shl (hx : st.ev x = .val (.int .i64 m)) (hy : st.ev y = .val (.int .i64 n)) (h0 : 0 ≤ n ∧ n < 64) (h : -9223372036854775808 ≤ m * 2 ^ n.toNat ∧ m * 2 ^ n.toNat ≤ 9223372036854775807) :
    QOp P ⟨d, .binOp .shl T x y T', ty, pos, af, g⟩ st (.val (.int .i64 (m * 2 ^ n.toNat))) := Q_bin hx hy fun w => by
  have h1 : ¬ n < 0 := by omega
  have h2 : min n.toNat IntKind.i64.bits = n.toNat := shl_eq _ (by omega)
  have h3 := IntWalk.i64_in _ h
  simp only [binOp, Op.shift, if_neg h1, h2, h3]
  rfl
theorem Q_shr (hx : st.ev x = .val (.int .i64 m)) (hy : st.ev y = .val (.int .i64 n)) (h0 : 0 ≤ n ∧ n < 64) :
    QOp P ⟨d, .binOp .shr T x y T', ty, pos, af, g⟩ st (.val (.int .i64 (m / 2 ^ n.toNat))) := Q_bin hx hy fun w => by
  have h1 : ¬ n < 0 := by omega
  have h2 : min n.toNat IntKind.i64.bits = n.toNat := shl_eq _ (by omega)
  have h3 : m.fdiv (2 ^ n.toNat) = m / 2 ^ n.toNat := Int.fdiv_eq_ediv_of_nonneg _ (Int.le_of_lt (Int.pow_pos (by decide)))
  simp only [binOp, Op.shift, if_neg h1, h2, h3]
  rfl

theorem bv_nat {m : Int} (h : 0 ≤ m) : BitVec.ofInt 64 m = BitVec.ofNat 64 m.toNat := by
  obtain ⟨k, rfl⟩ := Int.eq_ofNat_of_zero_le h
  simp

theorem toNat_lt63 {m : Int} (h : m ≤ 9223372036854775807) : m.toNat < 2 ^ 63 := by omega

theorem Q_and (hx : st.ev x = .val (.int .i64 m)) (hy : st.ev y = .val (.int .i64 n)) (h1 : 0 ≤ m ∧ m ≤ 9223372036854775807) (h2 : 0 ≤ n ∧ n ≤ 9223372036854775807) :
    QOp P ⟨d, .binOp .and T x y T', ty, pos, af, g⟩ st (.val (.int .i64 ((m.toNat &&& n.toNat : Nat) : Int))) := Q_bin hx hy fun w => by
  have hm := toNat_lt63 h1.2
  have hn := toNat_lt63 h2.2
  have hlt : m.toNat &&& n.toNat < 2 ^ 63 := Nat.and_lt_two_pow _ hn
  have e : (BitVec.ofInt 64 m &&& BitVec.ofInt 64 n).toNat = m.toNat &&& n.toNat := by
    rw [bv_nat h1.1, bv_nat h2.1, BitVec.toNat_and, BitVec.toNat_ofNat, BitVec.toNat_ofNat, Nat.mod_eq_of_lt (by omega), Nat.mod_eq_of_lt (by omega)]
  have hw : IntKind.i64.wrap ((m.toNat &&& n.toNat : Nat) : Int) = ((m.toNat &&& n.toNat : Nat) : Int) := IntWalk.i64_in _ (by omega)
  show Result.ok (Value.int .i64 (IntKind.i64.wrap ((BitVec.ofInt 64 m &&& BitVec.ofInt 64 n).toNat : Int))) w = _
  rw [e, hw]
theorem Q_or (hx : st.ev x = .val (.int .i64 m)) (hy : st.ev y = .val (.int .i64 n)) (h1 : 0 ≤ m ∧ m ≤ 9223372036854775807) (h2 : 0 ≤ n ∧ n ≤ 9223372036854775807) :
    QOp P ⟨d, .binOp .or T x y T', ty, pos, af, g⟩ st (.val (.int .i64 ((m.toNat ||| n.toNat : Nat) : Int))) := Q_bin hx hy fun w => by
  have hm := toNat_lt63 h1.2
  have hn := toNat_lt63 h2.2
  have hlt : m.toNat ||| n.toNat < 2 ^ 63 := Nat.or_lt_two_pow hm hn
  have e : (BitVec.ofInt 64 m ||| BitVec.ofInt 64 n).toNat = m.toNat ||| n.toNat := by
    rw [bv_nat h1.1, bv_nat h2.1, BitVec.toNat_or, BitVec.toNat_ofNat, BitVec.toNat_ofNat, Nat.mod_eq_of_lt (by omega), Nat.mod_eq_of_lt (by omega)]
  have hw : IntKind.i64.wrap ((m.toNat ||| n.toNat : Nat) : Int) = ((m.toNat ||| n.toNat : Nat) : Int) := IntWalk.i64_in _ (by omega)
  show Result.ok (Value.int .i64 (IntKind.i64.wrap ((BitVec.ofInt 64 m ||| BitVec.ofInt 64 n).toNat : Int))) w = _
  rw [e, hw]
/-- What m has and n has not, bit by bit. -/
def ndiff (m n : Nat) : Nat := m ^^^ (m &&& n)
theorem ndiff_lt {m n k : Nat} (h : m < 2 ^ k) : ndiff m n < 2 ^ k := Nat.xor_lt_two_pow h (Nat.lt_of_le_of_lt Nat.and_le_left h)
theorem testBit_ndiff (m n i : Nat) : (ndiff m n).testBit i = (m.testBit i && !n.testBit i) := by
  unfold ndiff; rw [Nat.testBit_xor, Nat.testBit_and]; cases m.testBit i <;> cases n.testBit i <;> rfl

theorem Q_andNot (hx : st.ev x = .val (.int .i64 m)) (hy : st.ev y = .val (.int .i64 n)) (h1 : 0 ≤ m ∧ m ≤ 9223372036854775807) (h2 : 0 ≤ n ∧ n ≤ 9223372036854775807) :
    QOp P ⟨d, .binOp .andNot T x y T', ty, pos, af, g⟩ st (.val (.int .i64 ((ndiff m.toNat n.toNat : Nat) : Int))) := Q_bin hx hy fun w => by
  have hm := toNat_lt63 h1.2
  have hn := toNat_lt63 h2.2
  have hlt : ndiff m.toNat n.toNat < 2 ^ 63 := ndiff_lt hm
  have e : (BitVec.ofInt 64 m &&& ~~~ BitVec.ofInt 64 n).toNat = ndiff m.toNat n.toNat := by
    apply Nat.eq_of_testBit_eq
    intro i
    rw [bv_nat h1.1, bv_nat h2.1, testBit_ndiff, ← BitVec.getLsbD, BitVec.getLsbD_and, BitVec.getLsbD_not, BitVec.getLsbD_ofNat, BitVec.getLsbD_ofNat]
    by_cases hi : i < 64
    · simp [hi]
    · have : m.toNat.testBit i = false := Nat.testBit_lt_two_pow (Nat.lt_of_lt_of_le hm (Nat.pow_le_pow_right (by decide) (by omega)))
      simp [hi, this]
  have hw : IntKind.i64.wrap ((ndiff m.toNat n.toNat : Nat) : Int) = ((ndiff m.toNat n.toNat : Nat) : Int) := IntWalk.i64_in _ (by omega)
  show Result.ok (Value.int .i64 (IntKind.i64.wrap ((BitVec.ofInt 64 m &&& ~~~ BitVec.ofInt 64 n).toNat : Int))) w = _
  rw [e, hw]
end

theorem Q_not {x : Operand} {T : TypeId} {b : Bool} (hx : st.ev x = .val (.bool b)) : QOp P ⟨d, .unOp .not T x, ty, pos, af, g⟩ st (.val (.bool (!b))) :=
  .run fun _ _ a hr => ⟨_, .val _, fun w1 _ => by simp only [execOp, hr.evv hx]; rfl⟩
/-! Parts of what is known. -/
theorem Q_extract {x : Operand} {i : Nat} {l : List AV} {av : AV} (hx : st.ev x = .tup l) (hi : l[i]? = some av) : QOp P ⟨d, .extract x i, ty, pos, af, g⟩ st av :=
  .run fun ρ w a hr => by
    have h := hr.ev x
    rw [hx] at h
    obtain ⟨vs, he, hl, hvs⟩ := h.tup_inv
    have hlt : i < vs.size := by rw [← hl]; exact (List.getElem?_eq_some_iff.1 hi).1
    refine ⟨vs[i], hvs i av _ hi (Array.getElem?_eq_getElem hlt), fun w1 _ => ?_⟩
    simp [execOp, he, Instr.extract, hlt]
theorem add_add' (a : Addr) (i j : Nat) : (a.add i).add j = a.add (i + j) := by
  unfold Addr.add
  by_cases hi : i = 0
  · subst hi; simp
  · by_cases hj : j = 0
    · subst hj; simp
    · simp [hi, hj, Nat.add_assoc]
theorem spot_add {a : Addr} (h : a.spot = none) (n : Nat) : a.add n = ⟨a.block, a.off + n, none⟩ := by
  unfold Addr.add; split
  · subst_vars; cases a; simp_all
  · rfl

theorem run_fieldAt {T : TypeId} {f off : Nat} (ht : FlT P T f off) (a : Addr) (w : World) : (Instr.fieldAt T (.pointer (some a)) f).run P w = .ok (.pointer (some (a.add off))) w := by
  obtain ⟨fs, fd, n, h1, h2, h3, rfl⟩ := ht
  simp [Instr.fieldAt, run_underlying h1, h2, Instr.sureAddr, fieldPlace, h3.run]

theorem Q_fieldAddr_ptr {x : Operand} {T : TypeId} {f off id o : Nat} (hx : st.ev x = .ptr id o) (ht : FlT P T f off) : QOp P ⟨d, .fieldAddr T x f, ty, pos, af, g⟩ st (.ptr id (o + off)) :=
  .run fun ρ w a hr => by
    have h := hr.ev x
    rw [hx] at h
    obtain ⟨b, l, he, hl⟩ := h.ptr_inv
    refine ⟨.pointer (some ⟨b, o + off, none⟩), .ptr id _ b l hl, fun w1 _ => ?_⟩
    simp [execOp, he, run_fieldAt ht, spot_add]
theorem Q_fieldAddr_rpt {x : Operand} {T : TypeId} {f off : Nat} {cs : List Dat} {o : Nat} (hx : st.ev x = .rpt cs o) (ht : FlT P T f off) : QOp P ⟨d, .fieldAddr T x f, ty, pos, af, g⟩ st (.rpt cs (o + off)) :=
  .run fun ρ w a hr => by
    have h := hr.ev x
    rw [hx] at h
    obtain ⟨ad, us, he, hsp, hM, hc, hd⟩ := h.rpt_inv
    have e : (ad.add o).add off = ad.add (o + off) := add_add' ad _ _
    refine ⟨.pointer (some (ad.add (o + off))), .rpt ad cs (o + off) us hsp hM hc hd, fun w1 _ => ?_⟩
    simp [execOp, he, run_fieldAt ht, e]

def ofD : Dat → AV
  | .val v => .val v
  | d => .ro d

theorem gm_ofD {ρ : Ids} {w : World} {M : Nat → Prop} {v : Value} {d : Dat} (h : Rd w M v d) : Gm ρ w M (ofD d) v := by
  cases d with
  | val u => cases h; exact .val _
  | sl sz cs => exact .ro _ _ h
  | fn F => exact .ro _ _ h

/-- A load of one cell of a box. -/
theorem Q_load_ptr {x : Operand} {T : TypeId} {id o : Nat} {cells : List AV} {av : AV} (hx : st.ev x = .ptr id o) (ho : st.objs[id]? = some (.box cells)) (hc : cells[o]? = some av) (ht : ScT P T) :
    QOp P ⟨d, .load T x, ty, pos, af, g⟩ st av :=
  .run fun ρ w a hr => by
    have h := hr.ev x
    rw [hx] at h
    obtain ⟨b, arr, T', he, _, hh, _, hcell, hcs⟩ := box_cells hr.good ho h
    obtain ⟨v, h1, h2⟩ := hcs o av hc
    refine ⟨v, h2, fun w1 hw => ?_⟩
    have : w1.cell? ⟨b, o, none⟩ = some v := by
      rw [hw.cell (p := ⟨b, o, none⟩) (Array.getElem?_eq_some_iff.1 hh).1, hcell]; exact h1
    simp [execOp, he, Instr.loadAt, Instr.sureAddr, run_loadSc ht _ this]

/-- A load of a whole struct or array out of a box: the cells from o on. -/
theorem Q_load_ptr_agg {x : Operand} {T : TypeId} {id o n : Nat} {cells l : List AV} (hx : st.ev x = .ptr id o) (ho : st.objs[id]? = some (.box cells)) (hl : (cells.drop o).take n = l) (hn : l.length = n) (ht : AgT P T n) :
    QOp P ⟨d, .load T x, ty, pos, af, g⟩ st (.agg l) :=
  .run fun ρ w a hr => by
    have h := hr.ev x
    rw [hx] at h
    obtain ⟨b, arr, T', he, _, hh, hsz, hcell, hcs⟩ := box_cells hr.good ho h
    subst hl
    have hlen : o + n ≤ cells.length ∨ n = 0 := by
      rw [List.length_take, List.length_drop] at hn; omega
    have hlv : ((arr.toList.drop o).take n).length = n := by
      rw [List.length_take, List.length_drop] at hn ⊢
      simp only [Array.length_toList, hsz]; exact hn
    refine ⟨.agg ((arr.toList.drop o).take n).toArray, .agg _ _ (by rw [hn]; simpa using hlv.symm) fun i av v h1 h2 => ?_, fun w1 hw => ?_⟩
    · have hi : i < n := by rw [← hn]; exact (List.getElem?_eq_some_iff.1 h1).1
      rw [List.getElem?_take, if_pos hi, List.getElem?_drop] at h1
      simp only [List.getElem?_toArray, List.getElem?_take, if_pos hi, List.getElem?_drop, Array.getElem?_toList] at h2
      obtain ⟨v', h3, h4⟩ := hcs _ av h1
      rw [h3] at h2
      obtain rfl := Option.some.inj h2
      exact h4
    · have := run_loadAgg (P := P) (w := w1) ht ⟨b, o, none⟩ ((arr.toList.drop o).take n) hlv fun j v hv => by
        have hj : j < n := by rw [← hlv]; exact (List.getElem?_eq_some_iff.1 hv).1
        rw [List.getElem?_take, if_pos hj, List.getElem?_drop, Array.getElem?_toList] at hv
        rw [spot_add rfl, hw.cell (p := ⟨b, o + j, none⟩) (Array.getElem?_eq_some_iff.1 hh).1, hcell]
        exact hv
      simp [execOp, he, Instr.loadAt, Instr.sureAddr, this]

theorem Q_load_rpt {x : Operand} {T : TypeId} {cs : List Dat} {o : Nat} {dt : Dat} (hx : st.ev x = .rpt cs o) (hc : cs[o]? = some dt) (ht : ScT P T) : QOp P ⟨d, .load T x, ty, pos, af, g⟩ st (ofD dt) :=
  .run fun ρ w a hr => by
    have h := hr.ev x
    rw [hx] at h
    obtain ⟨ad, us, he, hsp, hM, hcl, hd⟩ := h.rpt_inv
    refine ⟨us o, gm_ofD (hd o dt hc), fun w1 hw => ?_⟩
    have hc1 := hcl o dt hc
    have hlt := World.block_lt_of_cell? w _ hc1
    have : w1.cell? (ad.add o) = some (us o) := by rw [hw.cell hlt]; exact hc1
    simp [execOp, he, Instr.loadAt, Instr.sureAddr, run_loadSc ht _ this]

theorem Q_load_rpt_agg {x : Operand} {T : TypeId} {cs : List Dat} {o n : Nat} {ds : List Dat} (hx : st.ev x = .rpt cs o) (hc : ∀ (j : Nat) dt, ds[j]? = some dt → cs[o + j]? = some dt) (hn : ds.length = n) (ht : AgT P T n) :
    QOp P ⟨d, .load T x, ty, pos, af, g⟩ st (.agg (ds.map ofD)) :=
  .run fun ρ w a hr => by
    have h := hr.ev x
    rw [hx] at h
    obtain ⟨ad, us, he, hsp, hM, hcl, hd⟩ := h.rpt_inv
    refine ⟨.agg ((List.range n).map fun j => us (o + j)).toArray, .agg _ _ (by simp [hn]) fun i av v h1 h2 => ?_, fun w1 hw => ?_⟩
    · simp only [List.getElem?_map, Option.map_eq_some_iff] at h1
      obtain ⟨dt, h3, rfl⟩ := h1
      have hi : i < n := by rw [← hn]; exact (List.getElem?_eq_some_iff.1 h3).1
      simp [hi] at h2
      subst h2
      exact gm_ofD (hd _ dt (hc i dt h3))
    · have := run_loadAgg (P := P) (w := w1) ht (ad.add o) ((List.range n).map fun j => us (o + j)) (by simp) fun j v hv => by
        simp only [List.getElem?_map, Option.map_eq_some_iff] at hv
        obtain ⟨j', h3, rfl⟩ := hv
        have hj : j < n := by simpa using (List.getElem?_eq_some_iff.1 h3).1
        obtain rfl : j = j' := by simpa [hj] using h3
        have hcj := hcl (o + j) _ (hc j _ (List.getElem?_eq_getElem (by omega)))
        have e : (ad.add o).add j = ad.add (o + j) := add_add' ad _ _
        rw [e, hw.cell (World.block_lt_of_cell? w _ hcj)]
        exact hcj
      simp [execOp, he, Instr.loadAt, Instr.sureAddr, this]

/-- An own row's cells, in the world. -/
theorem row_cells [Zs] {ρ : Ids} {w : World} {objs : List AO} (hg : Good ρ w objs) {id : Nat} {e : TypeId} {sz : Nat} {cs : List Dat} {u : Value} (ho : objs[id]? = some (.row e sz cs)) (hu : Gm ρ w (Ban ρ objs) (.own id) u) :
    ρ[id]? = some [u] ∧ ((u = .slice none 0 0 ∧ cs = []) ∨ ∃ b n cap, u = .slice (some ⟨b, 0, none⟩) n cap ∧ cs.length = n * sz ∧ b < w.heap.size ∧
      (∀ i, w.frozen? ⟨b, i, none⟩ = false) ∧ ∀ (i : Nat) dt, cs[i]? = some dt → ∃ v, w.cell? ⟨b, i, none⟩ = some v ∧ Rd w (Ban ρ objs) v dt) := by
  obtain ⟨v, n, us, h1, h2, h3, h4⟩ := hg.sat id _ ho
  obtain ⟨l, hl⟩ := hu.own_inv
  rw [h1] at hl
  obtain ⟨rfl, rfl⟩ := List.cons.inj (Option.some.inj hl)
  refine ⟨h1, ?_⟩
  rcases h2.2 with ⟨rfl, rfl⟩ | ⟨b, cap, cur, rfl, _, hh, _⟩
  · left
    refine ⟨rfl, List.eq_nil_of_length_eq_zero ?_⟩
    rw [← h3, h2.1]; simp
  · right
    refine ⟨b, n, cap, rfl, by rw [← h3]; exact h2.1, (Array.getElem?_eq_some_iff.1 hh).1, fun i => frozen_of_row w b i cur e hh, fun i dt hi => ?_⟩
    obtain ⟨u, hu, hr⟩ := h4 i dt hi
    have := h2.cells (g := b) rfl i u hu
    rw [spot_add rfl] at this
    exact ⟨u, by simpa using this, hr⟩

/-- A load of a cell of an own row. -/
theorem Q_load_ept {x : Operand} {T : TypeId} {id o : Nat} {e : TypeId} {sz : Nat} {cs : List Dat} {dt : Dat} (hx : st.ev x = .ept id o) (ho : st.objs[id]? = some (.row e sz cs)) (hc : cs[o]? = some dt) (ht : ScT P T) :
    QOp P ⟨d, .load T x, ty, pos, af, g⟩ st (ofD dt) :=
  .run fun ρ w a hr => by
    have h := hr.ev x
    rw [hx] at h
    obtain ⟨b, n, cap, l, he, hl⟩ := h.ept_inv
    obtain ⟨hρ, hrow⟩ := row_cells hr.good ho (.own id _ l hl rfl)
    rcases hrow with ⟨h1, _⟩ | ⟨b', n', cap', h1, h2, h3, _, h4⟩
    · cases h1
    · cases h1
      obtain ⟨v, hv, hrd⟩ := h4 o dt hc
      refine ⟨v, gm_ofD hrd, fun w1 hw => ?_⟩
      have : w1.cell? ⟨b, o, none⟩ = some v := by rw [hw.cell (p := ⟨b, o, none⟩) h3]; exact hv
      simp [execOp, he, Instr.loadAt, Instr.sureAddr, run_loadSc ht _ this]

theorem run_indexAt_slice {T e : TypeId} {sz : Nat} (ht : SlT P T e sz) (a : Addr) (n cap : Nat) (k : IntKind) (i : Int) (h0 : 0 ≤ i) (hn : i < n) (w : World) :
    (Instr.indexAt T (.slice (some a) n cap) (.int k i)).run P w = .ok (.pointer (some (a.add (i.toNat * sz)))) w := by
  simp [Instr.indexAt, asIntOf, run_underlying ht.1, ht.2.run, h0, hn]

theorem Q_index_ro {x ix : Operand} {T e : TypeId} {sz : Nat} {cs : List Dat} {i : Int} {n : Nat} (hx : st.ev x = .ro (.sl sz cs)) (hi : st.ev ix = .val (.int .i64 i)) (ht : SlT P T e sz) (hn : cs.length = n * sz) (hsz : 0 < sz)
    (h : 0 ≤ i ∧ i < n) : QOp P ⟨d, .indexAddr T x ix, ty, pos, af, g⟩ st (.rpt cs (i.toNat * sz)) :=
  .run fun ρ w a hr => by
    have hg := hr.ev x
    rw [hx] at hg
    have hrd := hg.ro_inv
    obtain ⟨u, hu⟩ : ∃ u, a.eval x = u := ⟨_, rfl⟩
    rw [hu] at hrd
    cases hrd with
    | nil _ => have := Nat.mul_eq_zero.1 hn.symm; simp only [List.length_nil] at hn; rcases this with h1 | h1 <;> omega
    | sl ad n' cap _ _ us hn' hsp hM hc hd =>
      have hnn : n = n' := Nat.eq_of_mul_eq_mul_right hsz (hn.symm.trans hn')
      subst hnn
      refine ⟨.pointer (some (ad.add (i.toNat * sz))), .rpt ad cs _ us trivial hM hc hd, fun w1 _ => ?_⟩
      simp only [execOp, hu, hr.evv hi, Sem.run_bind, run_indexAt_slice (P := P) ht ad n cap .i64 i h.1 h.2 w1, Result.andThen_ok, Sem.run_pure]
theorem Q_index_own {x ix : Operand} {T e e' : TypeId} {sz : Nat} {cs : List Dat} {id : Nat} {i : Int} {n : Nat} (hx : st.ev x = .own id) (ho : st.objs[id]? = some (.row e' sz cs)) (hi : st.ev ix = .val (.int .i64 i)) (ht : SlT P T e sz)
    (hn : cs.length = n * sz) (hsz : 0 < sz) (h : 0 ≤ i ∧ i < n) : QOp P ⟨d, .indexAddr T x ix, ty, pos, af, g⟩ st (.ept id (i.toNat * sz)) :=
  .run fun ρ w a hr => by
    have hg := hr.ev x
    rw [hx] at hg
    obtain ⟨hρ, hrow⟩ := row_cells hr.good ho hg
    rcases hrow with ⟨h1, h2⟩ | ⟨b, n', cap, h1, h2, h3, _, h4⟩
    · rw [h2] at hn; have := Nat.mul_eq_zero.1 hn.symm; rcases this with h1 | h1 <;> omega
    · have hnn : n = n' := Nat.eq_of_mul_eq_mul_right hsz (hn.symm.trans h2)
      subst hnn
      refine ⟨.pointer (some ⟨b, i.toNat * sz, none⟩), .ept id _ b n cap [] (by rw [hρ, h1]), fun w1 _ => ?_⟩
      have := run_indexAt_slice (P := P) ht ⟨b, 0, none⟩ n cap .i64 i h.1 h.2 w1
      rw [spot_add rfl] at this
      simp only [execOp, h1, hr.evv hi, Sem.run_bind, this, Result.andThen_ok, Sem.run_pure]
      simp

/-- An element of an array in a box. -/
theorem Q_index_arr {x ix : Operand} {T e : TypeId} {sz n : Nat} {id o : Nat} {i : Int} (hx : st.ev x = .ptr id o) (hi : st.ev ix = .val (.int .i64 i)) (ht : ArT P T n e sz) (h : 0 ≤ i ∧ i < n) :
    QOp P ⟨d, .indexAddr T x ix, ty, pos, af, g⟩ st (.ptr id (o + i.toNat * sz)) :=
  .run fun ρ w a hr => by
    have hg := hr.ev x
    rw [hx] at hg
    obtain ⟨b, l, he, hl⟩ := hg.ptr_inv
    refine ⟨.pointer (some ⟨b, o + i.toNat * sz, none⟩), .ptr id _ b l hl, fun w1 _ => ?_⟩
    simp [execOp, he, hr.evv hi, Instr.indexAt, Instr.sureAddr, asIntOf, run_underlying ht.1, ht.2.run, h.1, h.2, spot_add]
/-! Lengths. -/
theorem Q_len_ro {x : Operand} {T e : TypeId} {sz : Nat} {cs : List Dat} {n : Nat} {cl : Callee} {ats : Array TypeId} (hcl : cl = .builtin .len) (hx : st.ev x = .ro (.sl sz cs)) (hats : ats = #[T]) (ht : SlT P T e sz) (hn : cs.length = n * sz) (hsz : 0 < sz) :
    QOp P ⟨d, .call ⟨cl, #[x], ats⟩, ty, pos, af, g⟩ st (.val (.int .i64 (n : Int))) :=
  .run fun ρ w a hr => by
    subst hcl; subst hats
    have hg := hr.ev x
    rw [hx] at hg
    have hrd := hg.ro_inv
    refine ⟨_, .val _, fun w1 _ => ?_⟩
    have key : ∃ b c, a.eval x = .slice b n c := by
      generalize a.eval x = u at *
      cases hrd with
      | nil _ =>
        have := Nat.mul_eq_zero.1 hn.symm
        simp only [List.length_nil] at hn
        have : n = 0 := by rcases this with h | h <;> omega
        subst this
        exact ⟨_, _, rfl⟩
      | sl ad n' cap _ _ us hn' =>
        have hnn : n = n' := Nat.eq_of_mul_eq_mul_right hsz (hn.symm.trans hn')
        subst hnn
        exact ⟨_, _, rfl⟩
    obtain ⟨b, c, hk⟩ := key
    simp [execOp, resolve, invoke, builtin, hk, Builtin.len_, run_underlying ht.1, goInt]
theorem Q_len_own {x : Operand} {T e e' : TypeId} {sz : Nat} {cs : List Dat} {n id : Nat} {cl : Callee} {ats : Array TypeId} (hcl : cl = .builtin .len) (hx : st.ev x = .own id) (ho : st.objs[id]? = some (.row e' sz cs)) (hats : ats = #[T]) (ht : SlT P T e sz)
    (hn : cs.length = n * sz) (hsz : 0 < sz) : QOp P ⟨d, .call ⟨cl, #[x], ats⟩, ty, pos, af, g⟩ st (.val (.int .i64 (n : Int))) :=
  .run fun ρ w a hr => by
    subst hcl; subst hats
    have hg := hr.ev x
    rw [hx] at hg
    obtain ⟨_, hrow⟩ := row_cells hr.good ho hg
    refine ⟨_, .val _, fun w1 _ => ?_⟩
    have key : ∃ b c, a.eval x = .slice b n c := by
      rcases hrow with ⟨h1, h2⟩ | ⟨b, n', cap, h1, h2, _⟩
      · rw [h2] at hn
        have := Nat.mul_eq_zero.1 hn.symm
        simp only [List.length_nil] at hn
        have : n = 0 := by rcases this with h | h <;> omega
        subst this
        exact ⟨_, _, h1⟩
      · have hnn : n = n' := Nat.eq_of_mul_eq_mul_right hsz (hn.symm.trans h2)
        subst hnn
        exact ⟨_, _, h1⟩
    obtain ⟨b, c, hk⟩ := key
    simp [execOp, resolve, invoke, builtin, hk, Builtin.len_, run_underlying ht.1, goInt]
theorem Q_len_nil {x : Operand} {T e : TypeId} {sz : Nat} {cl : Callee} {ats : Array TypeId} (hcl : cl = .builtin .len) (hx : st.ev x = .val (.slice none 0 0)) (hats : ats = #[T]) (ht : SlT P T e sz) :
    QOp P ⟨d, .call ⟨cl, #[x], ats⟩, ty, pos, af, g⟩ st (.val (.int .i64 0)) :=
  .run fun ρ w a hr => ⟨_, .val _, fun w1 _ => by
    subst hcl; subst hats
    simp [execOp, resolve, invoke, builtin, hr.evv hx, Builtin.len_, run_underlying ht.1, goInt]⟩

theorem Q_max {x y : Operand} {m n : Int} {cl : Callee} {ats : Array TypeId} (hcl : cl = .builtin .max) (hx : st.ev x = .val (.int .i64 m)) (hy : st.ev y = .val (.int .i64 n)) :
    QOp P ⟨d, .call ⟨cl, #[x, y], ats⟩, ty, pos, af, g⟩ st (.val (.int .i64 (max m n))) :=
  .run fun ρ w a hr => ⟨_, .val _, fun w1 _ => by
    subst hcl
    have : (if n > m then n else m) = max m n := by omega
    simp [execOp, resolve, invoke, builtin, hr.evv hx, hr.evv hy, Builtin.max_, Builtin.max2, this]⟩
theorem Q_min {x y : Operand} {m n : Int} {cl : Callee} {ats : Array TypeId} (hcl : cl = .builtin .min) (hx : st.ev x = .val (.int .i64 m)) (hy : st.ev y = .val (.int .i64 n)) :
    QOp P ⟨d, .call ⟨cl, #[x, y], ats⟩, ty, pos, af, g⟩ st (.val (.int .i64 (min m n))) :=
  .run fun ρ w a hr => ⟨_, .val _, fun w1 _ => by
    subst hcl
    have : (if n < m then n else m) = min m n := by omega
    simp [execOp, resolve, invoke, builtin, hr.evv hx, hr.evv hy, Builtin.min_, Builtin.min2, this]⟩
end
end Go.Proofs.YtbgecpjlopdkfaaDoor

/- The operations that make memory, or write to the call's own. -/
namespace Go.Proofs.YtbgecpjlopdkfaaDoor
open Go.RowKit

theorem Gm.ext [Zs] {ρ ρ' : Ids} {w w' : World} {objs objs' : List AO} (hs : Same (Own ρ objs) w w') (hρ : ∀ (id : Nat) l, ρ[id]? = some l → ρ'[id]? = some l) (hM : ∀ b, b < w.heap.size → Own ρ' objs' b → Own ρ objs b)
    {av : AV} {v : Value} (h : Gm ρ w (Ban ρ objs) av v) : Gm ρ' w' (Ban ρ' objs') av v := h.mono hs.ban (Ban.mono hM) hρ

/-- An object that nobody has touched is what it was. -/
theorem SatO.keep [Zs] {ρ ρ' : Ids} {w w' : World} {objs objs' : List AO} {id : Nat} {o : AO} (h : SatO ρ w (Ban ρ objs) id o) (hs : Same (Own ρ objs) w w') (hρ : ∀ (id : Nat) l, ρ[id]? = some l → ρ'[id]? = some l)
    (hM : ∀ b, b < w.heap.size → Own ρ' objs' b → Own ρ objs b) (hf : ∀ l v b, ρ[id]? = some l → v ∈ l → ablk v = some b → b < w.heap.size → w'.heap[b]? = w.heap[b]?) : SatO ρ' w' (Ban ρ' objs') id o := by
  have hrow : ∀ {l : List Value} {e : TypeId} {sz n : Nat} {u : Value} {xs : List Value}, ρ[id]? = some l → u ∈ l → w.ownsRow 0 e sz u n xs → w'.ownsRow 0 e sz u n xs := by
    intro l e sz n u xs hl hu ho
    refine ⟨ho.1, ?_⟩
    rcases ho.2 with hn | ⟨g, cap, cur, rfl, hbg, hgg, rest⟩
    · exact .inl hn
    · refine .inr ⟨g, cap, cur, rfl, hbg, ?_, rest⟩
      rw [hf l _ g hl hu rfl (Array.getElem?_eq_some_iff.1 hgg).1]
      exact hgg
  cases o with
  | gone => trivial
  | box cs =>
    obtain ⟨b, arr, T, h1, h2, h3, h4⟩ := h
    refine ⟨b, arr, T, hρ _ _ h1, ?_, h3, fun i av hi => ?_⟩
    · rw [hf _ _ b h1 (List.mem_singleton.2 rfl) rfl (Array.getElem?_eq_some_iff.1 h2).1]; exact h2
    · obtain ⟨v, hv, hg⟩ := h4 i av hi
      exact ⟨v, hv, hg.ext hs hρ hM⟩
  | row e sz cs =>
    obtain ⟨v, n, us, h1, h2, h3, h4⟩ := h
    refine ⟨v, n, us, hρ _ _ h1, hrow h1 (List.mem_singleton.2 rfl) h2, h3, fun i d hi => ?_⟩
    obtain ⟨u, hu, hr⟩ := h4 i d hi
    exact ⟨u, hu, hr.mono hs.ban (Ban.mono hM)⟩
  | mat e e' m =>
    obtain ⟨v, us, h1, h2, h3, h4, h5⟩ := h
    refine ⟨v, us, hρ _ _ h1, hrow h1 (List.mem_cons_self ..) h2, h3, fun i r hi => ?_, h5⟩
    obtain ⟨hu, hr⟩ := h4 i r hi
    exact ⟨hu, hrow h1 (List.mem_cons_of_mem _ (List.mem_of_getElem? hu)) hr⟩
  | mp m =>
    obtain ⟨v, us, h1, h2, h3⟩ := h
    exact ⟨v, us, hρ _ _ h1, h2, h3.kept fun b hb hlt => hf _ v b h1 (List.mem_cons_self ..) hb hlt⟩
  | bld T e cs =>
    obtain ⟨b, v, h1, h2, h3, h4⟩ := h
    exact ⟨b, v, hρ _ _ h1, h2.kept fun hlt => hf _ _ b h1 (List.mem_cons_self ..) rfl hlt, hrow h1 (List.mem_cons_of_mem _ (List.mem_cons_self ..)) h3, h4⟩

/-- The numbers that stay apart: one object turned, others as they were, new ones behind. -/
theorem foot_set {ρ : Ids} {objs : List AO} {id id' : Nat} {o : AO} {b : Nat} (hid : id < objs.length) (h : foot ρ (objs.set id o) id' b) : (id' = id ∧ o.live = true ∧ ∃ l, ρ[id]? = some l ∧ ∃ v, v ∈ l ∧ ablk v = some b) ∨ (id' ≠ id ∧ foot ρ objs id' b) := by
  obtain ⟨o', l, h1, h2, h3, h4⟩ := h
  by_cases he : id' = id
  · subst he
    rw [List.getElem?_set_self hid] at h1
    obtain rfl := Option.some.inj h1
    exact .inl ⟨rfl, h2, l, h3, h4⟩
  · rw [List.getElem?_set_ne (Ne.symm he)] at h1
    exact .inr ⟨he, o', l, h1, h2, h3, h4⟩

theorem foot_app {ρ ls : Ids} {objs os : List AO} (hlen : ρ.length = objs.length) {id b : Nat} (h : foot (ρ ++ ls) (objs ++ os) id b) : (id < objs.length ∧ foot ρ objs id b) ∨ (objs.length ≤ id ∧ foot (ρ ++ ls) (objs ++ os) id b) := by
  by_cases hid : id < objs.length
  · left
    obtain ⟨o, l, h1, h2, h3, h4⟩ := h
    rw [List.getElem?_append_left hid] at h1
    rw [List.getElem?_append_left (by omega)] at h3
    exact ⟨hid, o, l, h1, h2, h3, h4⟩
  · exact .inr ⟨by omega, h⟩

theorem ext_app (ρ ls : Ids) : ∀ (id : Nat) l, ρ[id]? = some l → (ρ ++ ls)[id]? = some l := by
  intro id l h
  rw [List.getElem?_append_left (List.getElem?_eq_some_iff.1 h).1]
  exact h

/-- New objects behind the old ones. -/
theorem Good.app [Zs] {ρ ls : Ids} {w w' : World} {objs os : List AO} (hg : Good ρ w objs) (hs : Same (Own ρ objs) w w') (hk : ∀ b, Own ρ objs b → w'.heap[b]? = w.heap[b]?) (hlen : ls.length = os.length)
    (hfr : ∀ id b, objs.length ≤ id → foot (ρ ++ ls) (objs ++ os) id b → w.heap.size ≤ b)
    (hdis : ∀ i j b, objs.length ≤ i → objs.length ≤ j → foot (ρ ++ ls) (objs ++ os) i b → foot (ρ ++ ls) (objs ++ os) j b → i = j)
    (hsat : ∀ i o, os[i]? = some o → SatO (ρ ++ ls) w' (Ban (ρ ++ ls) (objs ++ os)) (objs.length + i) o) : Good (ρ ++ ls) w' (objs ++ os) ∧ ∀ b, b < w.heap.size → Own (ρ ++ ls) (objs ++ os) b → Own ρ objs b := by
  have hM : ∀ b, b < w.heap.size → Own (ρ ++ ls) (objs ++ os) b → Own ρ objs b := by
    rintro b hb ⟨id, h⟩
    rcases foot_app hg.len h with ⟨_, h⟩ | ⟨h1, h2⟩
    · exact ⟨id, h⟩
    · have := hfr id b h1 h2; omega
  have hzf : ∀ id b, foot (ρ ++ ls) (objs ++ os) id b → ¬ Zs.z b := fun id b h hz => by
    rcases foot_app hg.len h with ⟨_, h⟩ | ⟨h1, h2⟩
    · exact hg.zf id b h hz
    · have := hfr id b h1 h2
      have := hg.zl b hz
      omega
  refine ⟨⟨by simp [hg.len, hlen], fun id o ho => ?_, fun i j b hi hj => ?_, hzf, fun b hz => Nat.lt_of_lt_of_le (hg.zl b hz) hs.size, hg.tt.step hs hM⟩, hM⟩
  · by_cases hid : id < objs.length
    · rw [List.getElem?_append_left hid] at ho
      have hsat0 := hg.sat id o ho
      by_cases hl : o.live = true
      · exact hsat0.keep hs (ext_app ρ ls) hM fun l v b h1 h2 h3 _ => hk b ⟨id, o, l, ho, hl, h1, v, h2, h3⟩
      · cases o with
        | gone => trivial
        | _ => exact absurd rfl hl
    · rw [List.getElem?_append_right (by omega)] at ho
      have := hsat _ o ho
      rw [show objs.length + (id - objs.length) = id by omega] at this
      exact this
  · rcases foot_app hg.len hi with ⟨a1, a2⟩ | ⟨a1, a2⟩ <;> rcases foot_app hg.len hj with ⟨b1, b2⟩ | ⟨b1, b2⟩
    · exact hg.dis i j b a2 b2
    · have h1 := foot_lt hg a2; have h2 := hfr j b b1 b2; omega
    · have h1 := foot_lt hg b2; have h2 := hfr i b a1 a2; omega
    · exact hdis i j b a1 b1 a2 b2

/-- An object is no more looked at. -/
theorem Good.drop [Zs] {ρ : Ids} {w : World} {objs : List AO} (hg : Good ρ w objs) (id : Nat) : Good ρ w (objs.set id .gone) ∧ ∀ b, Own ρ (objs.set id .gone) b → Own ρ objs b := by
  by_cases hid : id < objs.length
  case neg =>
    rw [List.set_eq_of_length_le (by omega)]
    exact ⟨hg, fun _ h => h⟩
  have hM : ∀ b, Own ρ (objs.set id .gone) b → Own ρ objs b := by
    rintro b ⟨id', h⟩
    rcases foot_set hid h with ⟨_, h, _⟩ | ⟨_, h⟩
    · cases h
    · exact ⟨id', h⟩
  have hzf : ∀ id' b, foot ρ (objs.set id .gone) id' b → ¬ Zs.z b := fun id' b h hz => by
    rcases foot_set hid h with ⟨_, h, _⟩ | ⟨_, h⟩
    · cases h
    · exact hg.zf id' b h hz
  refine ⟨⟨by simp [hg.len], fun id' o ho => ?_, fun i j b hi hj => ?_, hzf, hg.zl, hg.tt.step (Same.refl _ _) fun b _ h => hM b h⟩, hM⟩
  · by_cases he : id' = id
    · subst he
      rw [List.getElem?_set_self hid] at ho
      obtain rfl := Option.some.inj ho
      trivial
    · rw [List.getElem?_set_ne (Ne.symm he)] at ho
      exact (hg.sat id' o ho).keep (Same.refl _ _) (fun _ _ h => h) (fun b _ h => hM b h) (fun _ _ _ _ _ _ _ => rfl)
  · rcases foot_set hid hi with ⟨_, h, _⟩ | ⟨_, h1⟩
    · cases h
    · rcases foot_set hid hj with ⟨_, h, _⟩ | ⟨_, h2⟩
      · cases h
      · exact hg.dis i j b h1 h2

/-- One object of one block turns, in its own block. -/
theorem Good.turn [Zs] {ρ : Ids} {w w' : World} {objs : List AO} (hg : Good ρ w objs) {id : Nat} {o o' : AO} (ho : objs[id]? = some o) (hl : o.live = true) {v : Value} {b : Nat} (hρ : ρ[id]? = some [v]) (hb : ablk v = some b)
    (hs : Same (fun x => x = b) w w') (hsat : SatO ρ w' (Ban ρ (objs.set id o')) id o') : Good ρ w' (objs.set id o') ∧ (∀ b, Own ρ (objs.set id o') b → Own ρ objs b) ∧ Same (Own ρ objs) w w' := by
  have hid := (List.getElem?_eq_some_iff.1 ho).1
  have hfb : foot ρ objs id b := ⟨o, [v], ho, hl, hρ, v, List.mem_singleton.2 rfl, hb⟩
  have hsm : Same (Own ρ objs) w w' := ⟨hs.os, hs.tape, hs.output, hs.size, fun k hk hn => hs.block k hk (fun e => hn (e ▸ ⟨id, hfb⟩))⟩
  have hfoot : ∀ {i x}, foot ρ (objs.set id o') i x → foot ρ objs i x := by
    intro i x h
    rcases foot_set hid h with ⟨rfl, _, l, h1, u, h2, h3⟩ | ⟨_, h⟩
    · rw [hρ] at h1
      obtain rfl := Option.some.inj h1
      obtain rfl := List.mem_singleton.1 h2
      rw [hb] at h3
      obtain rfl := Option.some.inj h3
      exact hfb
    · exact h
  have hM : ∀ b, Own ρ (objs.set id o') b → Own ρ objs b := fun x ⟨i, h⟩ => ⟨i, hfoot h⟩
  refine ⟨⟨by simp [hg.len], fun id' o2 ho2 => ?_, fun i j x hi hj => hg.dis i j x (hfoot hi) (hfoot hj), fun i x h => hg.zf i x (hfoot h), fun x hz => Nat.lt_of_lt_of_le (hg.zl x hz) hs.size, hg.tt.step hsm fun b _ h => hM b h⟩, hM, hsm⟩
  by_cases he : id' = id
  · subst he
    rw [List.getElem?_set_self hid] at ho2
    obtain rfl := Option.some.inj ho2
    exact hsat
  · rw [List.getElem?_set_ne (Ne.symm he)] at ho2
    by_cases hl2 : o2.live = true
    · refine (hg.sat id' o2 ho2).keep hsm (fun _ _ h => h) (fun x _ h => hM x h) fun l u x h1 h2 h3 hx => hs.block x hx ?_
      rintro rfl
      exact he (hg.dis id' id x ⟨o2, l, ho2, hl2, h1, u, h2, h3⟩ hfb)
    · cases o2 with
      | gone => trivial
      | _ => exact absurd rfl hl2

theorem new_id {ρ : Ids} {objs : List AO} (h : ρ.length = objs.length) (l : List Value) : (ρ ++ [l])[objs.length]? = some l := by
  rw [List.getElem?_append_right (by rw [h]; exact Nat.le_refl _), h, Nat.sub_self]; rfl

theorem MkT.info {P : Program} {e : TypeId} {z : Value} {sz by' : Nat} (h : MkT P e z sz by') : ∃ i, P.info? e = some i ∧ i.zero = some z ∧ i.size = sz ∧ i.bytes = by' := by
  unfold MkT at h
  cases hi : P.info? e with
  | none => rw [hi] at h; cases h
  | some i =>
    rw [hi] at h
    simp only [Option.map_some, Option.some.injEq, Prod.mk.injEq] at h
    exact ⟨i, rfl, h⟩

section
variable {P : Program} {k : Nat} {cx : Cx k} {ops : Array Oper} {Q : Exit → St → Prop} {st : St} {rest : List Oper} {ty : TypeId} {pos : String} {af : Array Edge}

theorem Rel.step [Zs] {a : Act} {w w' : World} {ρ ρ' : Ids} {st2 : St} {a' : Act} (hr : Rel cx st a w) (hf : ∀ id b, foot ρ st.objs id b → b < cx.w0.heap.size → cx.M0 b) (h0 : ∀ (id : Nat) l, cx.ρ0[id]? = some l → ρ[id]? = some l)
    (hs : Same (Own ρ st.objs) w w') (hρ : ∀ (id : Nat) l, ρ[id]? = some l → ρ'[id]? = some l) (hM : ∀ b, b < w.heap.size → Own ρ' st2.objs b → Own ρ st.objs b) (hb : RelB ρ' w' st2 a') : Rel cx st2 a' w' := by
  refine ⟨⟨ρ', hb, fun id b h hlt => ?_, fun id l h => hρ _ _ (h0 id l h)⟩, hr.same.trans hs fun x hx ⟨id, h⟩ => hf id x h hx⟩
  obtain ⟨id2, h2⟩ := hM b (Nat.lt_of_lt_of_le hlt hr.same.size) ⟨id, h⟩
  exact hf id2 b h2 hlt

/-- An operation that gives back a value. -/
theorem l_step [Zs] {d : Tmp} {op : Op} {st2 : St} {av : AV} (hd : Nat.blt d st2.n = true) (hn : st.n = st2.n)
    (h : ∀ (ρ : Ids) (w : World) (a : Act), RelB ρ w st a → ∃ v w' ρ', (execOp a.eval ⟨some d, op, ty, pos, af, none⟩).run P w = .ok (.value v) w' ∧ Same (Own ρ st.objs) w w' ∧ (∀ (id : Nat) l, ρ[id]? = some l → ρ'[id]? = some l) ∧
      (∀ b, b < w.heap.size → Own ρ' st2.objs b → Own ρ st.objs b) ∧ Good ρ' w' st2.objs ∧ Gm ρ' w' (Ban ρ' st2.objs) av v)
    (hv : st.vars = st2.vars) (hk : aL P cx ops Q rest (st2.put d av)) : aL P cx ops Q (⟨some d, op, ty, pos, af, none⟩ :: rest) st := by
  intro a w hr
  obtain ⟨ρ, hb, hf, h0⟩ := hr.base
  obtain ⟨v, w', ρ', hrun, hs, hρ, hM, hg, hgm⟩ := h ρ w a hb
  unfold wpList
  rw [if_pos (by simp [Region.wanted])]
  left
  unfold Oper.wp
  rw [hrun]
  refine hk _ _ (Rel.step hr hf h0 hs hρ (st2 := st2.put d av) hM (RelB.put (st := st2) ⟨fun t => ?_, hb.size.trans hn, hb.defers, hg⟩ hd hgm))
  have := (hb.frame t).ext hs hρ hM
  unfold St.get at this ⊢
  rw [← hv]; exact this

/-- An operation that gives nothing back. -/
theorem l_skip [Zs] {op : Op} {st2 : St} (hn : st.n = st2.n)
    (h : ∀ (ρ : Ids) (w : World) (a : Act), RelB ρ w st a → ∃ w' ρ', (execOp a.eval ⟨none, op, ty, pos, af, none⟩).run P w = .ok .skip w' ∧ Same (Own ρ st.objs) w w' ∧ (∀ (id : Nat) l, ρ[id]? = some l → ρ'[id]? = some l) ∧
      (∀ b, b < w.heap.size → Own ρ' st2.objs b → Own ρ st.objs b) ∧ Good ρ' w' st2.objs)
    (hv : st.vars = st2.vars) (hk : aL P cx ops Q rest st2) : aL P cx ops Q (⟨none, op, ty, pos, af, none⟩ :: rest) st := by
  intro a w hr
  obtain ⟨ρ, hb, hf, h0⟩ := hr.base
  obtain ⟨w', ρ', hrun, hs, hρ, hM, hg⟩ := h ρ w a hb
  unfold wpList
  rw [if_pos (by simp [Region.wanted])]
  left
  unfold Oper.wp
  rw [hrun]
  refine hk _ _ (Rel.step hr hf h0 hs hρ (st2 := st2) hM ⟨fun t => ?_, hb.size.trans hn, hb.defers, hg⟩)
  have := (hb.frame t).ext hs hρ hM
  unfold St.get at this ⊢
  rw [← hv]; exact this

/-- A new object of one block. -/
theorem app_one [Zs] {ρ : Ids} {w : World} {objs : List AO} (hg : Good ρ w objs) {w' : World} {o : AO} {v : Value} (hs : Below w.heap.size w w') (hfr : ∀ b, ablk v = some b → w.heap.size ≤ b)
    (hsat : (ρ ++ [[v]])[objs.length]? = some [v] → (∀ b, b < w.heap.size → Own (ρ ++ [[v]]) (objs ++ [o]) b → Own ρ objs b) → SatO (ρ ++ [[v]]) w' (Ban (ρ ++ [[v]]) (objs ++ [o])) objs.length o) :
    Same (Own ρ objs) w w' ∧ (∀ (id : Nat) l, ρ[id]? = some l → (ρ ++ [[v]])[id]? = some l) ∧ (∀ b, b < w.heap.size → Own (ρ ++ [[v]]) (objs ++ [o]) b → Own ρ objs b) ∧ Good (ρ ++ [[v]]) w' (objs ++ [o]) := by
  have hlast : ∀ id b, objs.length ≤ id → foot (ρ ++ [[v]]) (objs ++ [o]) id b → id = objs.length ∧ ablk v = some b := by
    rintro id b h ⟨o', l, h1, _, h3, u, h4, h5⟩
    have hlt := (List.getElem?_eq_some_iff.1 h1).1
    simp at hlt
    obtain rfl : id = objs.length := by omega
    rw [List.getElem?_append_right (by rw [hg.len]; exact Nat.le_refl _), hg.len, Nat.sub_self] at h3
    obtain rfl := Option.some.inj h3
    obtain rfl := List.mem_singleton.1 h4
    exact ⟨rfl, h5⟩
  have hM : ∀ b, b < w.heap.size → Own (ρ ++ [[v]]) (objs ++ [o]) b → Own ρ objs b := by
    rintro b hb ⟨id, h⟩
    rcases foot_app hg.len h with ⟨_, h⟩ | ⟨h1, h2⟩
    · exact ⟨id, h⟩
    · have := hfr b (hlast id b h1 h2).2; omega
  have hnew : (ρ ++ [[v]])[objs.length]? = some [v] := by
    rw [List.getElem?_append_right (by rw [hg.len]; exact Nat.le_refl _), hg.len, Nat.sub_self]; rfl
  have := hg.app (ls := [[v]]) (os := [o]) (Same.of_below hs _) (fun b ⟨id, h⟩ => hs.block b (foot_lt hg h)) rfl (fun id b h1 h2 => hfr b (hlast id b h1 h2).2)
    (fun i j b h1 h2 h3 h4 => (hlast i b h1 h3).1.trans (hlast j b h2 h4).1.symm) (fun i o' h => by
      cases i with
      | zero => simp at h; subst h; exact hsat hnew hM
      | succ i => simp at h)
  exact ⟨Same.of_below hs _, ext_app ρ _, this.2, this.1⟩

def AV.cells : AV → List AV
  | .agg l => l
  | .val v => v.cells.toList.map .val
  | av => [av]
def AV.one : AV → Bool
  | .val v => v.oneCell'
  | .ro (.val v) => v.oneCell'
  | .agg _ | .tup _ | .any => false
  | _ => true

theorem cells_one {v : Value} (h : v.oneCell' = true) : v.cells = #[v] := by cases v <;> first | rfl | cases h

theorem Gm.one {ρ : Ids} {w : World} {M : Nat → Prop} {av : AV} {v : Value} (h : Gm ρ w M av v) (ho : av.one = true) : v.oneCell' = true := by
  cases h with
  | val v => exact ho
  | ro d v hr => cases hr with
    | val v => exact ho
    | nil => rfl
    | sl => rfl
    | fn F _ hp => exact F.one _ _ _ hp
  | own id v l hl h1 => exact h1
  | ptr => rfl
  | ept => rfl
  | rpt => rfl
  | agg => cases ho
  | tup => cases ho
  | clo => rfl
  | any => cases ho

/-- The cells of a value, as known. -/
theorem gm_cells {ρ : Ids} {w : World} {M : Nat → Prop} {av : AV} {v : Value} {l : List AV} (h : Gm ρ w M av v) (hl : av.cells = l) (ho : ∀ a ∈ l, a.one = true) :
    v.cells.size = l.length ∧ (∀ (i : Nat) (a : AV) (u : Value), l[i]? = some a → v.cells[i]? = some u → Gm ρ w M a u) ∧ ∀ u ∈ v.cells.toList, u.oneCell' = true := by
  have key : v.cells.size = l.length ∧ ∀ (i : Nat) (a : AV) (u : Value), l[i]? = some a → v.cells[i]? = some u → Gm ρ w M a u := by
    have one : av.cells = [av] → v.oneCell' = true → v.cells.size = l.length ∧ ∀ (i : Nat) (a : AV) (u : Value), l[i]? = some a → v.cells[i]? = some u → Gm ρ w M a u := by
      intro h1 h2
      rw [h1] at hl
      subst hl
      rw [cells_one h2]
      refine ⟨rfl, fun i a u h3 h4 => ?_⟩
      cases i with
      | zero => simp at h3 h4; subst h3; subst h4; exact h
      | succ i => simp at h3
    have hone : av.cells = [av] → av.one = true := fun h1 => by
      rw [h1] at hl; subst hl; exact ho av (List.mem_singleton.2 rfl)
    cases h with
    | val v =>
      subst hl
      refine ⟨by simp [AV.cells], fun i a u h3 h4 => ?_⟩
      simp only [AV.cells, List.getElem?_map, Array.getElem?_toList, h4, Option.map_some, Option.some.injEq] at h3
      subst h3
      exact .val u
    | agg l' vs hlen hv =>
      subst hl
      exact ⟨hlen.symm, fun i a u h3 h4 => hv i a u h3 h4⟩
    | ro d v hr => exact one rfl ((Gm.ro d v hr : Gm ρ w M _ v).one (hone rfl))
    | own id v l hl h1 => exact one rfl h1
    | ptr => exact one rfl rfl
    | ept => exact one rfl rfl
    | rpt => exact one rfl rfl
    | tup => exact absurd (hone rfl) (by simp [AV.one])
    | clo => exact one rfl rfl
    | any => exact absurd (hone rfl) (by simp [AV.one])
  refine ⟨key.1, key.2, fun u hu => ?_⟩
  obtain ⟨i, hi, rfl⟩ := List.getElem_of_mem hu
  simp only [Array.length_toList] at hi
  have hi' : i < l.length := by rw [← key.1]; exact hi
  exact (key.2 i _ _ (List.getElem?_eq_getElem hi') (by simp [hi])).one (ho _ (List.getElem_mem hi'))

theorem l_box [Zs] {d : Tmp} {T : TypeId} {x : Operand} {av : AV} {l : List AV} (hx : st.ev x = av) (hl : av.cells = l) (ho' : l.all AV.one = true) (hd : Nat.blt d st.n = true)
    (hk : aL P cx ops Q rest ((st.add (.box l)).put d (.ptr st.objs.length 0))) : aL P cx ops Q (⟨some d, .box T x, ty, pos, af, none⟩ :: rest) st := by
  have ho : ∀ a ∈ l, a.one = true := List.all_eq_true.1 ho'
  refine l_step (st2 := st.add (.box l)) hd rfl ?_ rfl hk
  intro ρ w a hb
  have hg := hb.ev x
  rw [hx] at hg
  obtain ⟨h1, h2, _⟩ := gm_cells hg hl ho
  have hbel : Below w.heap.size w (w.alloc (.cells (a.eval x).cells T)) := (Below.refl _ _).alloc (Nat.le_refl _) _
  have happ := app_one hb.good (o := .box l) (v := .pointer (some ⟨w.heap.size, 0, none⟩)) hbel (fun b hb' => by cases hb'; exact Nat.le_refl _) fun hnew hM => ⟨w.heap.size, (a.eval x).cells, T, hnew, heap_alloc_new w _, h1, fun i av' hi => by
    have hi' : i < (a.eval x).cells.size := by rw [h1]; exact (List.getElem?_eq_some_iff.1 hi).1
    exact ⟨_, Array.getElem?_eq_getElem hi', (h2 i av' _ hi (Array.getElem?_eq_getElem hi')).ext (Same.of_below hbel _) (ext_app ρ _) hM⟩⟩
  refine ⟨.pointer (some ⟨w.heap.size, 0, none⟩), _, _, ?_, happ.1, happ.2.1, happ.2.2.1, happ.2.2.2, .ptr _ 0 _ [] (new_id hb.good.len _)⟩
  simp [execOp, Instr.box, newVar, newRow]

/-- A new variable of a type whose nought is written out. -/
theorem l_alloc [Zs] {d : Tmp} {T : TypeId} {z : Value} {sz by' : Nat} {l : List AV} (ht : MkT P T z sz by') (hl : (AV.val z).cells = l) (ho' : l.all AV.one = true) (hd : Nat.blt d st.n = true)
    (hk : aL P cx ops Q rest ((st.add (.box l)).put d (.ptr st.objs.length 0))) : aL P cx ops Q (⟨some d, .alloc T, ty, pos, af, none⟩ :: rest) st := by
  have ho : ∀ a ∈ l, a.one = true := List.all_eq_true.1 ho'
  refine l_step (st2 := st.add (.box l)) hd rfl ?_ rfl hk
  intro ρ w a hb
  have hg : Gm ρ w (Ban ρ st.objs) (.val z) z := .val z
  obtain ⟨h1, h2, _⟩ := gm_cells hg hl ho
  have hbel : Below w.heap.size w (w.alloc (.cells z.cells T)) := (Below.refl _ _).alloc (Nat.le_refl _) _
  have happ := app_one hb.good (o := .box l) (v := .pointer (some ⟨w.heap.size, 0, none⟩)) hbel (fun b hb' => by cases hb'; exact Nat.le_refl _) fun hnew hM => ⟨w.heap.size, z.cells, T, hnew, heap_alloc_new w _, h1, fun i av' hi => by
    have hi' : i < z.cells.size := by rw [h1]; exact (List.getElem?_eq_some_iff.1 hi).1
    exact ⟨_, Array.getElem?_eq_getElem hi', (h2 i av' _ hi (Array.getElem?_eq_getElem hi')).ext (Same.of_below hbel _) (ext_app ρ _) hM⟩⟩
  refine ⟨.pointer (some ⟨w.heap.size, 0, none⟩), _, _, ?_, happ.1, happ.2.1, happ.2.2.1, happ.2.2.2, .ptr _ 0 _ [] (new_id hb.good.len _)⟩
  obtain ⟨i, hi, hz⟩ := ht.info
  simp [execOp, Instr.alloc, newVar, newRow, zeroValue, typeInfo, hi, hz.1]

/-- A store of one cell into a box. -/
theorem l_store_ptr [Zs] {T : TypeId} {x y : Operand} {id o : Nat} {cells : List AV} {av : AV} (hx : st.ev x = .ptr id o) (ho : st.objs[id]? = some (.box cells)) (hlt : Nat.blt o cells.length = true) (hy : st.ev y = av) (h1 : av.one = true) (ht : SzOf P T 1)
    (hk : aL P cx ops Q rest (st.set id (.box (cells.set o av)))) : aL P cx ops Q (⟨none, .store T x y, ty, pos, af, none⟩ :: rest) st := by
  refine l_skip (st2 := st.set id (.box (cells.set o av))) rfl ?_ rfl hk
  intro ρ w a hb
  have hlt' : o < cells.length := by simpa [Nat.blt_eq] using hlt
  have hg := hb.ev x
  rw [hx] at hg
  obtain ⟨b, arr, T', he, hρ, hh, hsz, hcell, hcs⟩ := box_cells hb.good ho hg
  have hgy := hb.ev y
  rw [hy] at hgy
  have hone := hgy.one h1
  have hrun := run_storeCells_at P b o T' [a.eval y] 0 arr w hh (by simp; omega) (by simpa using hone)
  have hsm : Same (fun x => x = b) w (w.setRow b (arr.toList.take (o + 0) ++ [a.eval y] ++ arr.toList.drop (o + 0 + [a.eval y].length)).toArray) :=
    ⟨rfl, rfl, rfl, by simp, fun k _ hn => setRow_other w b k _ hn⟩
  have hheap := setRow_heap w b arr (arr.toList.take (o + 0) ++ [a.eval y] ++ arr.toList.drop (o + 0 + [a.eval y].length)).toArray T' (0, 0) hh
  have key := hb.good.turn (o' := .box (cells.set o av)) ho rfl hρ (b := b) rfl hsm
  generalize hw : w.setRow b (arr.toList.take (o + 0) ++ [a.eval y] ++ arr.toList.drop (o + 0 + [a.eval y].length)).toArray = w' at *
  have hids : ∀ b', Own ρ (st.objs.set id (.box (cells.set o av))) b' → Own ρ st.objs b' := by
    rintro b' ⟨i, h⟩
    rcases foot_set (List.getElem?_eq_some_iff.1 ho).1 h with ⟨rfl, _, l, h3, h4⟩ | ⟨_, h⟩
    · exact ⟨i, _, l, ho, rfl, h3, h4⟩
    · exact ⟨i, h⟩
  have hsm' : Same (Own ρ st.objs) w w' := ⟨hsm.os, hsm.tape, hsm.output, hsm.size, fun k hk hn => hsm.block k hk (fun e => hn (e ▸ ⟨id, _, _, ho, rfl, hρ, _, List.mem_singleton.2 rfl, rfl⟩))⟩
  have hgm : ∀ {av' : AV} {v : Value}, Gm ρ w (Ban ρ st.objs) av' v → Gm ρ w' (Ban ρ (st.objs.set id (.box (cells.set o av)))) av' v := fun h => h.ext hsm' (fun _ _ h => h) (fun b' _ h => hids b' h)
  have hfin := key ⟨b, _, T', hρ, hheap, by simp [hsz]; omega, fun i av' hi => by
    by_cases hio : i = o
    · subst hio
      rw [List.getElem?_set_self hlt'] at hi
      obtain rfl := Option.some.inj hi
      refine ⟨a.eval y, ?_, hgm hgy⟩
      have hl : (arr.toList.take i).length = i := by simp; omega
      simp [hl]
    · rw [List.getElem?_set_ne (Ne.symm hio)] at hi
      obtain ⟨v, hv, hgv⟩ := hcs i av' hi
      refine ⟨v, ?_, hgm hgv⟩
      have hi2 : i < arr.size := (Array.getElem?_eq_some_iff.1 hv).1
      rw [← hv]
      simp only [Nat.add_zero, List.length_singleton, List.getElem?_toArray, List.append_assoc, List.singleton_append]
      rw [List.getElem?_append]
      have hl : (arr.toList.take o).length = o := by simp; omega
      rw [hl]
      by_cases hlt2 : i < o
      · rw [if_pos hlt2, List.getElem?_take, if_pos hlt2]; simp
      · rw [if_neg hlt2, show i - o = (i - o - 1) + 1 by omega, List.getElem?_cons_succ, List.getElem?_drop, show o + 1 + (i - o - 1) = i by omega]; simp⟩
  refine ⟨w', ρ, ?_, hsm', fun _ _ h => h, fun b' _ h => hids b' h, hfin.1⟩
  simp only [execOp, he, Instr.storeAt, Instr.sureAddr, storeVar, cells_one hone, Sem.run_bind, Sem.run_pure, Result.andThen_ok, ht.run]
  simp [hrun]
end
end Go.Proofs.YtbgecpjlopdkfaaDoor

/- Slices that the call makes: made, laid out, appended to, stored into; structs laid out. -/
namespace Go.Proofs.YtbgecpjlopdkfaaDoor
open Go.RowKit

def Dat.one : Dat → Bool
  | .val v => v.oneCell'
  | _ => true

theorem Rd.one {w : World} {M : Nat → Prop} {v : Value} {dt : Dat} (h : Rd w M v dt) (h1 : dt.one = true) : v.oneCell' = true := by
  cases h with
  | val => exact h1
  | nil => rfl
  | sl => rfl
  | fn F _ hp => exact F.one _ _ _ hp

theorem gm_ofD_inv {ρ : Ids} {w : World} {M : Nat → Prop} {v : Value} {dt : Dat} (h : Gm ρ w M (ofD dt) v) : Rd w M v dt := by
  cases dt with
  | val u => have := h.val_inv; subst this; exact .val _
  | sl sz cs => exact h.ro_inv
  | fn F => exact h.ro_inv

theorem one_ofD {dt : Dat} (h : dt.one = true) : (ofD dt).one = true := by
  cases dt with
  | val v => exact h
  | sl => rfl
  | fn F => rfl

/-- A slice that the call itself made, as an object. -/
theorem sat_row {ρ : Ids} {w : World} {M : Nat → Prop} {id : Nat} {e : TypeId} {sz : Nat} {cs : List Dat} {v : Value} {n : Nat} {us : List Value} (hρ : ρ[id]? = some [v]) (ho : w.ownsRow 0 e sz v n us) (hl : us.length = cs.length)
    (h : ∀ (i : Nat) (dt : Dat), cs[i]? = some dt → ∃ u, us[i]? = some u ∧ Rd w M u dt) : SatO ρ w M id (.row e sz cs) := ⟨v, n, us, hρ, ho, hl, h⟩

theorem ownsRow_new {w : World} (cur : Array Value) (e : TypeId) (sz n cap : Nat) (us : List Value) (hu : us.length = n * sz) (hc : cur.size = cap * sz) (hn : n ≤ cap) (hm : cap ≤ maxLen) (ht : cur.toList.take (n * sz) = us) :
    (w.alloc (.cells cur e)).ownsRow 0 e sz (.slice (some ⟨w.heap.size, 0, none⟩) n cap) n us :=
  ⟨hu, .inr ⟨w.heap.size, cap, cur, rfl, Nat.zero_le _, heap_alloc_new w _, hn, hm, hc, ht⟩⟩

section
variable {P : Program} {k : Nat} {cx : Cx k} {ops : Array Oper} {Q : Exit → St → Prop} {st : St} {rest : List Oper} {ty : TypeId} {pos : String} {af : Array Edge}

theorem madeCells_list (z : Value) (z0 : Value) (sz n : Nat) (hz : z.cells.toList = List.replicate sz z0) (hsz : 0 < sz) : (madeCells z.cells (n * sz)).toList = List.replicate (n * sz) z0 := by
  have hsize : z.cells.size = sz := by rw [← Array.length_toList, hz]; simp
  apply List.ext_getElem
  · simp [madeCells]
  · intro i h1 h2
    have h3 : i % sz < z.cells.size := by rw [hsize]; exact Nat.mod_lt _ hsz
    have h4 : z.cells.toList[i % sz]? = some z0 := by rw [hz]; simp [Nat.mod_lt _ hsz]
    have h5 : z.cells[i % sz] = z0 := by
      rw [Array.getElem?_toList, Array.getElem?_eq_getElem h3] at h4
      exact Option.some.inj h4
    simp only [madeCells, hsize, Array.toList_map, Array.toList_range, List.getElem_map, List.getElem_range, List.getElem_replicate]
    rw [getElem!_pos z.cells _ h3]
    exact h5

/-! Cells laid out one part behind the other. -/
theorem foldl_set (off : Nat) : ∀ (vs : List Value) (j : Nat) (cells : Array Value), off + j + vs.length ≤ cells.size →
    ((vs.zipIdx j).foldl (fun cs (p : Value × Nat) => cs.setIfInBounds (off + p.2) p.1) cells).toList = cells.toList.take (off + j) ++ vs ++ cells.toList.drop (off + j + vs.length)
  | [], j, cells, _ => by simp
  | v :: vs, j, cells, h => by
    simp only [List.length_cons] at h
    rw [List.zipIdx_cons, List.foldl_cons, foldl_set off vs (j + 1) (cells.setIfInBounds (off + j) v) (by simp; omega)]
    have hlt : off + j < cells.toList.length := by simp; omega
    simp only [Array.toList_setIfInBounds, List.length_cons]
    rw [show off + (j + 1) = (off + j) + 1 by omega]
    rw [List.take_succ_eq_append_getElem (by simpa using hlt)]
    rw [show off + j + 1 + vs.length = off + j + (vs.length + 1) by omega]
    simp only [List.getElem_set_self, List.take_set, List.append_assoc, List.singleton_append]
    rw [List.drop_set_of_lt (by omega), List.set_eq_of_length_le (by rw [List.length_take]; exact Nat.min_le_left _ _)]

theorem run_fill (place : Nat → Option (Nat × Nat)) (cells : Array Value) (i : Nat) (v : Value) (rest : List (Nat × Value)) (off : Nat) (hp : place i = some (off, v.cells.size)) (h : off + v.cells.size ≤ cells.size) :
    Instr.fill place cells ((i, v) :: rest) = Instr.fill place (cells.toList.take off ++ v.cells.toList ++ cells.toList.drop (off + v.cells.size)).toArray rest := by
  have hlt : ¬ (off + v.cells.size > cells.size) := by omega
  simp only [Instr.fill, hp, ne_eq, not_true_eq_false, hlt, decide_false, Bool.or_self, Bool.false_eq_true, if_false]
  congr 1
  apply Array.toList_inj.1
  have := foldl_set off v.cells.toList 0 cells (by simpa using h)
  simp only [Nat.add_zero, Array.length_toList] at this
  rw [← this]
  rw [← Array.foldl_toList]
  simp

def enumP (j : Nat) : List Operand → List (Nat × Operand)
  | [] => []
  | x :: r => (j, x) :: enumP (j + 1) r

theorem run_fillSlice (sz : Nat) : ∀ (vs : List Value) (j : Nat) (cells : Array Value) (f : List Operand) (ev : Operand → Value), f.map ev = vs → (∀ v ∈ vs, v.cells.size = sz) → (j + vs.length) * sz ≤ cells.size →
    Instr.fill (fun i => some (i * sz, sz)) cells ((enumP j f).map fun p => (p.1, ev p.2)) = some (cells.toList.take (j * sz) ++ vs.flatMap (fun v => v.cells.toList) ++ cells.toList.drop ((j + vs.length) * sz)).toArray
  | [], j, cells, [], ev, _, _, _ => by simp [enumP, Instr.fill]
  | v :: vs, j, cells, x :: f, ev, hf, hs, hl => by
    simp only [List.map_cons, List.cons.injEq] at hf
    obtain ⟨hv, hf⟩ := hf
    have hvs := hs v (List.mem_cons_self ..)
    simp only [enumP, List.map_cons, hv]
    have h1 : j * sz + v.cells.size ≤ cells.size := by
      rw [hvs]
      have : (j + 1) * sz ≤ (j + (v :: vs).length) * sz := Nat.mul_le_mul_right _ (by simp only [List.length_cons]; omega)
      have e : (j + 1) * sz = j * sz + sz := by rw [Nat.add_mul, Nat.one_mul]
      omega
    rw [run_fill _ cells j v _ (j * sz) (by rw [hvs]) h1]
    have hlen : (cells.toList.take (j * sz) ++ v.cells.toList ++ cells.toList.drop (j * sz + v.cells.size)).length = cells.size := by
      simp only [List.length_append, List.length_take, List.length_drop, Array.length_toList]
      omega
    rw [run_fillSlice sz vs (j + 1) _ f ev hf (fun u hu => hs u (List.mem_cons_of_mem _ hu)) (by
      rw [List.size_toArray, hlen]; simp only [List.length_cons] at hl; rw [show j + 1 + vs.length = j + (vs.length + 1) by omega]; exact hl)]
    congr 2
    have e1 : (j + 1) * sz = (cells.toList.take (j * sz) ++ v.cells.toList).length := by
      simp only [List.length_append, List.length_take, Array.length_toList, hvs]
      rw [Nat.add_mul, Nat.one_mul]
      omega
    have e2 : (j + 1 + vs.length) * sz = j * sz + sz + vs.length * sz := by rw [Nat.add_mul, Nat.add_mul, Nat.one_mul]
    have e3 : (j + (v :: vs).length) * sz = j * sz + sz + vs.length * sz := by simp only [List.length_cons]; rw [← e2]; congr 1; omega
    simp only [List.flatMap_cons, List.append_assoc]
    rw [← List.append_assoc (cells.toList.take (j * sz))]
    have htake : ((cells.toList.take (j * sz) ++ v.cells.toList) ++ cells.toList.drop (j * sz + v.cells.size)).take ((j + 1) * sz) = cells.toList.take (j * sz) ++ v.cells.toList := by rw [e1]; exact List.take_left
    have hdrop : ((cells.toList.take (j * sz) ++ v.cells.toList) ++ cells.toList.drop (j * sz + v.cells.size)).drop ((j + 1 + vs.length) * sz) = cells.toList.drop ((j + (v :: vs).length) * sz) := by
      rw [show (j + 1 + vs.length) * sz = (j + 1) * sz + vs.length * sz by rw [Nat.add_mul], e1, List.drop_append, List.drop_drop, hvs, e3]
      rw [List.drop_eq_nil_of_le (by omega), List.nil_append]
      congr 1
      omega
    rw [htake, hdrop]
    simp only [List.append_assoc]
  | [], _, _, _ :: _, _, h, _, _ => by simp at h
  | _ :: _, _, _, [], _, h, _, _ => by simp at h

/-- What the parts of a literal come to, cell by cell. -/
def PartD (st : St) (sz : Nat) : List Operand → List Dat → Prop
  | [], cs => cs = []
  | x :: r, cs => ∃ ds cs', (st.ev x).cells = ds.map ofD ∧ ds.length = sz ∧ ds.all Dat.one = true ∧ PartD st sz r cs' ∧ cs = ds ++ cs'

theorem partD_spec [Zs] {ρ : Ids} {w : World} {a : Act} (hb : RelB ρ w st a) (sz : Nat) : ∀ (xs : List Operand) (cs : List Dat), PartD st sz xs cs →
    (∀ v ∈ xs.map a.eval, v.cells.size = sz) ∧ ((xs.map a.eval).flatMap fun v => v.cells.toList).length = cs.length ∧ cs.length = xs.length * sz ∧
    ∀ (i : Nat) (dt : Dat), cs[i]? = some dt → ∃ u, ((xs.map a.eval).flatMap fun v => v.cells.toList)[i]? = some u ∧ Rd w (Ban ρ st.objs) u dt ∧ u.oneCell' = true
  | [], cs, h => by subst h; simp
  | x :: r, cs, h => by
    obtain ⟨ds, cs', h1, h2, h3', h4, rfl⟩ := h
    have h3 := List.all_eq_true.1 h3'
    obtain ⟨i1, i2, i3, i4⟩ := partD_spec hb sz r cs' h4
    obtain ⟨g1, g2, g3⟩ := gm_cells (hb.ev x) h1 (fun av hav => by
      obtain ⟨dt, hdt, rfl⟩ := List.mem_map.1 hav
      exact one_ofD (h3 dt hdt))
    have hsz : (a.eval x).cells.size = sz := by rw [g1]; simp [h2]
    refine ⟨?_, ?_, ?_, ?_⟩
    · intro v hv
      rcases List.mem_cons.1 hv with rfl | hv
      · exact hsz
      · exact i1 v hv
    · simp only [List.map_cons, List.flatMap_cons, List.length_append, Array.length_toList, hsz, i2, h2]
    · simp only [List.length_append, h2, i3, List.length_cons]; rw [Nat.add_mul, Nat.one_mul]; omega
    · intro i dt hi
      simp only [List.map_cons, List.flatMap_cons]
      by_cases hlt : i < sz
      · rw [List.getElem?_append_left (by omega)] at hi
        rw [List.getElem?_append_left (by simpa [hsz] using hlt)]
        have hlt' : i < (a.eval x).cells.size := by omega
        refine ⟨(a.eval x).cells[i], by simp [hlt'], ?_, ?_⟩
        · have := g2 i (ofD dt) _ (by rw [List.getElem?_map, hi]; rfl) (Array.getElem?_eq_getElem hlt')
          exact gm_ofD_inv this
        · exact g3 _ (by simp)
      · rw [List.getElem?_append_right (by omega)] at hi
        rw [List.getElem?_append_right (by simpa [hsz] using hlt)]
        obtain ⟨u, hu, hr⟩ := i4 _ dt hi
        refine ⟨u, ?_, hr⟩
        rw [← hu, h2]
        simp [hsz]

/-- []T{x, y, ..}: the parts in their order, each given. -/
theorem l_lit [Zs] {d : Tmp} {T e : TypeId} {sz by' n : Nat} {z : Value} {parts : Array (Nat × Operand)} {xs : List Operand} {cs : List Dat} (hp : parts = (enumP 0 xs).toArray) (hn : xs.length = n) (ht : SlT P T e sz) (hm : MkT P e z sz by')
    (hsz : 0 < sz) (hbig : Nat.ble (n * sz) 16777216 = true) (hcs : PartD st sz xs cs) (hd : Nat.blt d st.n = true)
    (hk : aL P cx ops Q rest ((st.add (.row e sz cs)).put d (.own st.objs.length))) : aL P cx ops Q (⟨some d, .buildSlice T n parts, ty, pos, af, none⟩ :: rest) st := by
  refine l_step (st2 := st.add (.row e sz cs)) hd rfl ?_ rfl hk
  intro ρ w a hb
  subst hp; subst hn
  obtain ⟨i, hi, hz1, hsz1, hby1⟩ := hm.info
  obtain ⟨h1, h2, h3, h4⟩ := partD_spec hb sz xs cs hcs
  have hbig' : xs.length * sz ≤ 16777216 := Nat.le_of_ble_eq_true hbig
  have hnb : ¬ (xs.length * sz > 2 ^ 24) := by omega
  generalize hzc : ((if xs.length * sz = 0 then (#[] : Array Value) else z.cells)) = zc
  have hfill := run_fillSlice sz (xs.map a.eval) 0 ((Array.range (xs.length * sz)).map (zc[· % zc.size]!)) xs a.eval rfl h1 (by simp)
  simp only [Nat.zero_mul, List.take_zero, List.nil_append, Nat.zero_add, List.length_map] at hfill
  rw [show List.drop (xs.length * sz) ((Array.range (xs.length * sz)).map (zc[· % zc.size]!)).toList = [] from List.drop_eq_nil_of_le (by simp), List.append_nil] at hfill
  generalize hcells : (xs.map a.eval).flatMap (fun v => v.cells.toList) = cells at hfill h2 h4
  have hbel : Below w.heap.size w (w.alloc (.cells cells.toArray e)) := (Below.refl _ _).alloc (Nat.le_refl _) _
  have happ := app_one hb.good (o := .row e sz cs) (v := .slice (some ⟨w.heap.size, 0, none⟩) xs.length xs.length) hbel (fun b hb' => by cases hb'; exact Nat.le_refl _) fun hnew hM =>
    sat_row hnew (ownsRow_new _ e sz xs.length xs.length cells (by omega) (by simp; omega) (Nat.le_refl _) (by
      have : xs.length ≤ xs.length * sz := Nat.le_mul_of_pos_right _ hsz
      unfold maxLen; omega) (by simp [← h3, ← h2])) h2 fun j dt hj => by
        obtain ⟨u, hu, hr, _⟩ := h4 j dt hj
        exact ⟨u, hu, hr.mono (Same.of_below hbel _) (Ban.mono hM)⟩
  refine ⟨.slice (some ⟨w.heap.size, 0, none⟩) xs.length xs.length, _, _, ?_, happ.1, happ.2.1, happ.2.2.1, happ.2.2.2, .own _ _ [] (new_id hb.good.len _) rfl⟩
  have hmap : ((enumP 0 xs).toArray.map fun p => (p.1, a.eval p.2)).toList = (enumP 0 xs).map fun p => (p.1, a.eval p.2) := by simp
  have hmap' : ∀ g : Nat × Operand → Nat × Value, (∀ p, g p = (p.1, a.eval p.2)) → ((enumP 0 xs).toArray.map g).toList = (enumP 0 xs).map fun p => (p.1, a.eval p.2) := by
    intro g hg
    rw [show g = fun p => (p.1, a.eval p.2) from funext hg]
    exact hmap
  have hbs : ∀ ps : Array (Nat × Value), ps.toList = (enumP 0 xs).map (fun p => (p.1, a.eval p.2)) → (Instr.buildSlice T xs.length ps).run P w = .ok (.slice (some ⟨w.heap.size, 0, none⟩) xs.length xs.length) (w.alloc (.cells cells.toArray e)) := by
    intro ps hps
    simp only [Instr.buildSlice, Sem.run_bind, run_underlying ht.1, Result.andThen_ok, ht.2.run, if_neg hnb, hps]
    by_cases h0 : xs.length * sz = 0
    · rw [if_pos h0] at hzc ⊢
      subst hzc
      simp only [Sem.run_bind, Sem.run_pure, Result.andThen_ok, hfill]
      rfl
    · rw [if_neg h0] at hzc ⊢
      subst hzc
      simp only [Sem.run_pure, Result.andThen_ok, Sem.run_bind, zeroValue, typeInfo, run_program, hi, hz1, hfill]
      rfl
  simp only [execOp, Sem.run_bind, hbs _ (hmap' _ (fun _ => rfl)), Result.andThen_ok, Sem.run_pure]
end
end Go.Proofs.YtbgecpjlopdkfaaDoor

/- Appending; stores into an own row; stores of structs; literals of structs; function values; calls. -/
namespace Go.Proofs.YtbgecpjlopdkfaaDoor
open Go.RowKit

theorem run_append_none {P : Program} {w : World} {T e ty : TypeId} {sz : Nat} (ht : SlT P T e sz) (v : Value) (hv : ∃ b n c, v = .slice b n c ∧ n ≤ c) : (Builtin.append_ #[T, T] ty #[v, .slice none 0 0]).run P w = .ok v w := by
  obtain ⟨b, n, c, rfl, hnc⟩ := hv
  cases b <;> simp [Builtin.append_, run_underlying ht.1, ht.2.run, Builtin.lenOf, Builtin.firstCells, hnc, storeCells]

theorem run_append_zero {P : Program} {w : World} {T e ty : TypeId} {sz : Nat} (ht : SlT P T e sz) (v : Value) (hv : ∃ b n c, v = .slice b n c ∧ n ≤ c) (ad : Addr) (c' : Nat) : (Builtin.append_ #[T, T] ty #[v, .slice (some ad) 0 c']).run P w = .ok v w := by
  obtain ⟨b, n, c, rfl, hnc⟩ := hv
  cases b <;> simp [Builtin.append_, run_underlying ht.1, ht.2.run, Builtin.lenOf, Builtin.firstCells, hnc, storeCells, loadCells, loadCellsFrom]

section
variable {P : Program} {k : Nat} {cx : Cx k} {ops : Array Oper} {Q : Exit → St → Prop} {st : St} {rest : List Oper} {ty : TypeId} {pos : String} {af : Array Edge}

/-- What an appended slice reads as. -/
def SrcD (st : St) (sz : Nat) (av : AV) (cs : List Dat) : Prop :=
  av = .ro (.sl sz cs) ∨ (∃ id e, av = .own id ∧ st.objs[id]? = some (.row e sz cs)) ∨ (av = .val (.slice none 0 0) ∧ cs = [])

theorem src_vals [Zs] {ρ : Ids} {w : World} {a : Act} (hb : RelB ρ w st a) {sz : Nat} {x : Operand} {cs : List Dat} (h : SrcD st sz (st.ev x) cs) :
    (a.eval x = .slice none 0 0 ∧ cs = []) ∨ ∃ (ad : Addr) (m c : Nat) (us : List Value), a.eval x = .slice (some ad) m c ∧ cs.length = m * sz ∧ us.length = cs.length ∧ (∀ (j : Nat) u, us[j]? = some u → w.cell? (ad.add j) = some u) ∧
      ∀ (i : Nat) (dt : Dat), cs[i]? = some dt → ∃ u, us[i]? = some u ∧ Rd w (fun b => Ban ρ st.objs b ∧ ablk (a.eval x) ≠ some b) u dt ∧ Rd w (Ban ρ st.objs) u dt := by
  have weak : ∀ {u : Value} {dt : Dat}, Rd w (Ban ρ st.objs) u dt → Rd w (fun b => Ban ρ st.objs b ∧ ablk (a.eval x) ≠ some b) u dt := fun h => h.mono (Same.refl _ _) (fun _ _ h => h.1)
  have hg := hb.ev x
  rcases h with h | ⟨id, e, h, ho⟩ | ⟨h, rfl⟩
  · rw [h] at hg
    have hr := hg.ro_inv
    obtain ⟨u, hu⟩ : ∃ u, a.eval x = u := ⟨_, rfl⟩
    rw [hu] at hr weak ⊢
    cases hr with
    | nil => exact .inl ⟨rfl, rfl⟩
    | sl ad m c _ _ us hn hsp hM hc hr =>
      refine .inr ⟨ad, m, c, (List.range cs.length).map us, rfl, hn, by simp, fun j v hv => ?_, fun i dt hi => ?_⟩
      · simp only [List.getElem?_map, Option.map_eq_some_iff] at hv
        obtain ⟨j', h1, rfl⟩ := hv
        have hj : j < cs.length := by simpa using (List.getElem?_eq_some_iff.1 h1).1
        obtain rfl : j = j' := by simpa [hj] using h1
        exact hc j _ (List.getElem?_eq_getElem hj)
      · have hi' := (List.getElem?_eq_some_iff.1 hi).1
        exact ⟨us i, by simp [hi'], weak (hr i dt hi), hr i dt hi⟩
  · rw [h] at hg
    obtain ⟨_, hrow⟩ := row_cells hb.good ho hg
    obtain ⟨v, n, us, h1, h2, h3, h4⟩ := hb.good.sat id _ ho
    obtain ⟨l, hl⟩ := hg.own_inv
    rw [h1] at hl
    obtain ⟨rfl, rfl⟩ := List.cons.inj (Option.some.inj hl)
    rcases h2.2 with ⟨hv, rfl⟩ | ⟨b, cap, cur, hv, _, hh, _⟩
    · exact .inl ⟨hv, List.eq_nil_of_length_eq_zero (by rw [← h3, h2.1]; simp)⟩
    · refine .inr ⟨⟨b, 0, none⟩, n, cap, us, hv, by rw [← h3]; exact h2.1, h3, fun j u hu => h2.cells (g := b) (by rw [hv]; rfl) j u hu, fun i dt hi => ?_⟩
      obtain ⟨u, hu, hr⟩ := h4 i dt hi
      exact ⟨u, hu, weak hr, hr⟩
  · rw [h] at hg
    exact .inl ⟨hg.val_inv, rfl⟩

/-- append(s, xs...) where s is an own row; it is spent. -/
theorem l_append [Zs] {d : Tmp} {T e : TypeId} {sz by' id n m : Nat} {z : Value} {x y : Operand} {cs cs2 : List Dat} {cl : Callee} {ats : Array TypeId} (hcl : cl = .builtin .append) (hats : ats = #[T, T]) (hx : st.ev x = .own id) (ho : st.objs[id]? = some (.row e sz cs))
    (hy : SrcD st sz (st.ev y) cs2) (ht : SlT P T e sz) (hm : MkT P e z sz by') (hz : z.cells.size = sz) (hn : cs.length = n * sz) (hm2 : cs2.length = m * sz) (hsz : 0 < sz) (hone : ∀ dt ∈ cs2, dt.one = true)
    (hpos : 0 < by') (hbig : (n + m) * by' ≤ 140737488355328) (hd : Nat.blt d st.n = true)
    (hk : aL P cx ops Q rest (((st.set id .gone).add (.row e sz (cs ++ cs2))).put d (.own st.objs.length))) : aL P cx ops Q (⟨some d, .call ⟨cl, #[x, y], ats⟩, ty, pos, af, none⟩ :: rest) st := by
  subst hcl; subst hats
  refine l_step (st2 := (st.set id .gone).add (.row e sz (cs ++ cs2))) (av := .own st.objs.length) hd rfl ?_ rfl hk
  intro ρ w a hb
  obtain ⟨i, hi, hz1, hsz1, hby1⟩ := hm.info
  have hg := hb.ev x
  rw [hx] at hg
  obtain ⟨v, n', us, h1, h2, h3, h4⟩ := hb.good.sat id _ ho
  obtain ⟨l, hl⟩ := hg.own_inv
  rw [h1] at hl
  obtain ⟨hv, rfl⟩ := List.cons.inj (Option.some.inj hl)
  have hnn : n = n' := Nat.eq_of_mul_eq_mul_right hsz (hn.symm.trans (h3.symm.trans h2.1))
  subst hnn
  have hsmall : n + m ≤ 140737488355328 := Nat.le_trans (Nat.le_mul_of_pos_right _ hpos) hbig
  have hid := (List.getElem?_eq_some_iff.1 ho).1
  have hdrop := hb.good.drop id
  -- the value and the world behind
  have hres : ∃ v' w' us', (Builtin.append_ #[T, T] ty #[v, a.eval y]).run P w = .ok v' w' ∧ w'.ownsRow 0 e sz v' (n + m) us' ∧ w.grownBy w' v.ownBlock ∧ us'.length = (cs ++ cs2).length ∧ (∀ b, ablk v' = some b → ablk v = some b ∨ w.heap.size ≤ b) ∧
      v'.oneCell' = true ∧ ∀ (i : Nat) (dt : Dat), (cs ++ cs2)[i]? = some dt → ∃ u, us'[i]? = some u ∧ Rd w (Ban ρ st.objs) u dt := by
    have hvs : ∃ b n0 c, v = .slice b n0 c ∧ n0 ≤ c := by
      rcases h2.2 with ⟨rfl, _⟩ | ⟨b, cap, cur, rfl, _, _, hnc, _⟩
      · exact ⟨_, _, _, rfl, Nat.le_refl _⟩
      · exact ⟨_, _, _, rfl, hnc⟩
    rcases src_vals hb hy with ⟨hy1, rfl⟩ | ⟨ad, m', c, us2, hy1, hm3, hl2, hc2, hr2⟩
    · have hm0 : m = 0 := by
        simp only [List.length_nil] at hm2
        rcases Nat.mul_eq_zero.1 hm2.symm with h | h
        · exact h
        · omega
      subst hm0
      refine ⟨v, w, us, ?_, h2, ⟨rfl, rfl, rfl, Nat.le_refl _, fun _ _ _ => rfl⟩, by simpa using h3, fun b hb' => .inl hb', ?_, by simpa using h4⟩
      · rw [hy1]; exact run_append_none ht v hvs
      · obtain ⟨_, _, _, rfl, _⟩ := hvs; rfl
    · have hmm : m = m' := Nat.eq_of_mul_eq_mul_right hsz (hm2.symm.trans hm3)
      subst hmm
      have h1c : ∀ u ∈ us2, u.oneCell' = true := by
        intro u hu
        obtain ⟨j, hj, rfl⟩ := List.getElem_of_mem hu
        obtain ⟨u', hu', hr', _⟩ := hr2 j _ (List.getElem?_eq_getElem (by omega))
        rw [List.getElem?_eq_getElem hj] at hu'
        obtain rfl := Option.some.inj hu'
        exact hr'.one (hone _ (List.getElem_mem _))
      obtain ⟨v', w', hrun, how, hgr, _⟩ := run_append_own (P := P) w 0 T ty e i z sz by' ht.1 hi hz1 hsz1 hby1 hz hsz v n us h2 ad m c us2 (by rw [hl2, hm3]) hc2 h1c (by unfold maxLen; omega) hbig (Nat.zero_le _)
      refine ⟨v', w', us ++ us2, by rw [hy1]; exact hrun, how, hgr, by simp [h3, hl2], ?_, ?_, ?_⟩
      · intro b hb'
        rcases how.2 with ⟨rfl, _⟩ | ⟨b', cap, cur, rfl, _, hh, _⟩
        · cases hb'
        · cases hb'
          rcases h2.2 with ⟨rfl, rfl⟩ | ⟨g, cap0, cur0, rfl, _, hg0, hnc0, _, hcs0, htk0⟩
          · right
            have hm0 : 0 < m := by
              rcases Nat.eq_zero_or_pos m with h0 | h0
              · subst h0
                have h5 := run_append_zero (P := P) (w := w) (ty := ty) ht (.slice none 0 0) ⟨_, _, _, rfl, Nat.le_refl _⟩ ad c
                rw [hrun] at h5
                cases h5
              · exact h0
            have h5 := run_append_nil (P := P) w T ty e i z ht.1 hi hz1 ad m c us2 (by rw [hl2, hm3, hsz1]) hc2 hm0 (by omega) (by rw [hby1]; have := Nat.zero_add m ▸ hbig; omega)
            rw [hrun] at h5
            simp only [Result.ok.injEq, Value.slice.injEq, Option.some.injEq, Addr.mk.injEq] at h5
            exact Nat.le_of_eq h5.1.1.1.symm
          · by_cases hroom : n + m ≤ cap0
            · left
              have h5 := run_append_room (P := P) w T ty e i ht.1 hi g n cap0 cur0 hg0 ad m c us2 (by rw [hl2, hm3, hsz1]) hc2 h1c hroom (by rw [hl2, hm3, hsz1, hcs0, ← Nat.add_mul]; exact Nat.mul_le_mul_right _ hroom)
              rw [hrun] at h5
              cases h5
              rfl
            · right
              have h5 := run_append_grow (P := P) w T ty e i z ht.1 hi hz1 ⟨g, 0, none⟩ n cap0 us (by rw [hsz1]; exact h2.1) (h2.cells (g := g) rfl) ad m c us2 (by rw [hl2, hm3, hsz1]) hc2 (by omega) (by omega) (growslice_fits (by omega) (by rw [hby1]; exact hbig))
              rw [hrun] at h5
              cases h5
              exact Nat.le_refl _
      · rcases how.2 with ⟨rfl, _⟩ | ⟨b', cap, cur, rfl, _⟩ <;> rfl
      · intro j dt hj
        by_cases hlt : j < cs.length
        · rw [List.getElem?_append_left hlt] at hj
          obtain ⟨u, hu, hr⟩ := h4 j dt hj
          exact ⟨u, by rw [List.getElem?_append_left (by omega)]; exact hu, hr⟩
        · rw [List.getElem?_append_right (by omega)] at hj
          obtain ⟨u, hu, _, hr⟩ := hr2 _ dt hj
          exact ⟨u, by rw [List.getElem?_append_right (by omega), h3]; exact hu, hr⟩
  obtain ⟨v', w', us', hrun, how, hgr, hlen, hblk, hone', hrd⟩ := hres
  have hsm : Same (Own ρ st.objs) w w' := Same.grown hgr _ fun b hb' => ⟨id, _, _, ho, rfl, h1, v, List.mem_singleton.2 rfl, by
    rcases h2.2 with ⟨rfl, _⟩ | ⟨b', cap, cur, rfl, _⟩
    · cases hb'
    · exact hb'⟩
  have hlenρ : ρ.length = (st.objs.set id .gone).length := by simp [hb.good.len]
  have hlast : ∀ id' b, (st.objs.set id .gone).length ≤ id' → foot (ρ ++ [[v']]) (st.objs.set id .gone ++ [.row e sz (cs ++ cs2)]) id' b → id' = (st.objs.set id .gone).length ∧ ablk v' = some b := by
    rintro id' b h ⟨o', l, h5, _, h6, u, h7, h8⟩
    have hlt := (List.getElem?_eq_some_iff.1 h5).1
    simp at hlt h
    obtain rfl : id' = st.objs.length := by omega
    rw [show st.objs.length = (st.objs.set id .gone).length by simp, new_id hlenρ] at h6
    obtain rfl := Option.some.inj h6
    obtain rfl := List.mem_singleton.1 h7
    exact ⟨by simp, h8⟩
  have hM : ∀ b, b < w.heap.size → Own (ρ ++ [[v']]) (st.objs.set id .gone ++ [.row e sz (cs ++ cs2)]) b → Own ρ st.objs b := by
    rintro b hlt ⟨id', h⟩
    rcases foot_app hlenρ h with ⟨_, h⟩ | ⟨h5, h6⟩
    · exact hdrop.2 b ⟨id', h⟩
    · rcases hblk b (hlast id' b h5 h6).2 with h7 | h7
      · exact ⟨id, _, _, ho, rfl, h1, v, List.mem_singleton.2 rfl, h7⟩
      · omega
  have hnew : (ρ ++ [[v']])[st.objs.length]? = some [v'] := new_id hb.good.len _
  refine ⟨v', w', ρ ++ [[v']], ?_, hsm, ext_app ρ _, hM, ⟨by simp [St.add, St.set, hb.good.len], ?_, ?_, fun id' b h hz => ?_, fun b hz => Nat.lt_of_lt_of_le (hb.good.zl b hz) hsm.size, hb.good.tt.step hsm hM⟩, .own _ _ [] hnew hone'⟩
  rotate_left 3
  · obtain ⟨id2, h2'⟩ := hM b (hb.good.zl b hz) ⟨id', h⟩
    exact hb.good.zf id2 b h2' hz
  · rw [hv] at hrun
    simp [execOp, resolve, invoke, builtin, hrun]
  · intro id' o' ho'
    show SatO _ _ (Ban _ (st.objs.set id .gone ++ [.row e sz (cs ++ cs2)])) id' o'
    change (st.objs.set id .gone ++ [.row e sz (cs ++ cs2)])[id']? = some o' at ho'
    by_cases hlt : id' < st.objs.length
    · rw [List.getElem?_append_left (by simpa using hlt)] at ho'
      by_cases he : id' = id
      · subst he
        rw [List.getElem?_set_self hid] at ho'
        obtain rfl := Option.some.inj ho'
        trivial
      · rw [List.getElem?_set_ne (Ne.symm he)] at ho'
        by_cases hlive : o'.live = true
        · refine (hb.good.sat id' o' ho').keep hsm (ext_app ρ _) hM fun l' u b h5 h6 h7 hbl => hgr.block b hbl fun e' => he ?_
          refine hb.good.dis id' id b ⟨o', l', ho', hlive, h5, u, h6, h7⟩ ⟨_, _, ho, rfl, h1, v, List.mem_singleton.2 rfl, ?_⟩
          rcases h2.2 with ⟨rfl, _⟩ | ⟨b', cap, cur, rfl, _⟩
          · cases e'
          · exact e'.symm
        · cases o' with
          | gone => trivial
          | _ => exact absurd rfl hlive
    · rw [List.getElem?_append_right (by simpa using hlt)] at ho'
      have hlt2 := (List.getElem?_eq_some_iff.1 ho').1
      simp at hlt2
      obtain rfl : id' = st.objs.length := by omega
      simp at ho'
      subst ho'
      exact sat_row hnew how hlen fun j dt hj => by
        obtain ⟨u, hu, hr⟩ := hrd j dt hj
        exact ⟨u, hu, hr.mono hsm.ban (Ban.mono hM)⟩
  · intro i j b hi hj
    change foot _ (st.objs.set id .gone ++ [.row e sz (cs ++ cs2)]) i b at hi
    change foot _ (st.objs.set id .gone ++ [.row e sz (cs ++ cs2)]) j b at hj
    have old : ∀ {i b}, foot ρ (st.objs.set id .gone) i b → ablk v' = some b → False := by
      intro i b h5 h6
      rcases foot_set hid h5 with ⟨_, h, _⟩ | ⟨hne, h7⟩
      · cases h
      · rcases hblk b h6 with h8 | h8
        · exact hne (hb.good.dis i id b h7 ⟨_, _, ho, rfl, h1, v, List.mem_singleton.2 rfl, h8⟩)
        · have := foot_lt hb.good h7; omega
    rcases foot_app hlenρ hi with ⟨_, a2⟩ | ⟨a1, a2⟩ <;> rcases foot_app hlenρ hj with ⟨_, b2⟩ | ⟨b1, b2⟩
    · exact hdrop.1.dis i j b a2 b2
    · exact (old a2 (hlast j b b1 b2).2).elim
    · exact (old b2 (hlast i b a1 a2).2).elim
    · exact (hlast i b a1 a2).1.trans (hlast j b b1 b2).1.symm
end
end Go.Proofs.YtbgecpjlopdkfaaDoor

/- Stores into an own row; stores of structs; literals of structs; function values; calls. -/
namespace Go.Proofs.YtbgecpjlopdkfaaDoor
open Go.RowKit
section
variable {P : Program} {k : Nat} {cx : Cx k} {ops : Array Oper} {Q : Exit → St → Prop} {st : St} {rest : List Oper} {ty : TypeId} {pos : String} {af : Array Edge}

/-- A nil slice in a slot is an own row without elements. -/
theorem rel_nilown [Zs] {a : Act} {w : World} (t : Nat) (e : TypeId) (sz : Nat) (h : st.get t = .val (.slice none 0 0)) (hr : Rel cx st a w) : Rel cx ((st.add (.row e sz [])).put t (.own st.objs.length)) a w := by
  obtain ⟨ρ, hb, hf, h0⟩ := hr.base
  have happ := app_one hb.good (o := .row e sz []) (v := .slice none 0 0) (Below.refl _ _) (fun b hb' => by cases hb') fun hnew _ => sat_row hnew (World.ownsRow_nil w 0 e sz) rfl (fun i dt hi => by simp at hi)
  refine Rel.step hr hf h0 happ.1 happ.2.1 happ.2.2.1 ⟨fun t' => ?_, hb.size, hb.defers, happ.2.2.2⟩
  show Gm _ _ _ (getv ((t, .own st.objs.length) :: st.vars) t') _
  rw [getv_cons]
  by_cases ht : t = t'
  · subst ht
    rw [if_pos rfl]
    have := hb.frame t
    rw [h] at this
    rw [this.val_inv]
    exact .own _ _ [] (new_id hb.good.len _) rfl
  · rw [if_neg ht]
    exact (hb.frame t').ext happ.1 happ.2.1 happ.2.2.1
theorem a_nilown [Zs] {c : Code} (t : Nat) (e : TypeId) (sz : Nat) (h : st.get t = .val (.slice none 0 0)) (hk : aC P cx c Q ((st.add (.row e sz [])).put t (.own st.objs.length))) : aC P cx c Q st :=
  fun a w hr => hk a w (rel_nilown t e sz h hr)

/-- The same for a nil slice in a cell of a box. -/
theorem rel_nilbox [Zs] {a : Act} {w : World} (id o : Nat) (cells : List AV) (e : TypeId) (sz : Nat) (ho : st.objs[id]? = some (.box cells)) (hc : cells[o]? = some (.val (.slice none 0 0))) (hr : Rel cx st a w) :
    Rel cx ((st.add (.row e sz [])).set id (.box (cells.set o (.own st.objs.length)))) a w := by
  obtain ⟨ρ, hb, hf, h0⟩ := hr.base
  have happ := app_one hb.good (o := .row e sz []) (v := .slice none 0 0) (Below.refl _ _) (fun b hb' => by cases hb') fun hnew _ => sat_row hnew (World.ownsRow_nil w 0 e sz) rfl (fun i dt hi => by simp at hi)
  have hid := (List.getElem?_eq_some_iff.1 ho).1
  have ho2 : (st.objs ++ [AO.row e sz []])[id]? = some (.box cells) := by rw [List.getElem?_append_left hid]; exact ho
  obtain ⟨b, arr, T, h1, h2, h3, h4⟩ := happ.2.2.2.sat id _ ho2
  have hoc := (List.getElem?_eq_some_iff.1 hc).1
  have hfoot : ∀ {i x}, foot (ρ ++ [[.slice none 0 0]]) ((st.objs ++ [AO.row e sz []]).set id (.box (cells.set o (.own st.objs.length)))) i x → foot (ρ ++ [[.slice none 0 0]]) (st.objs ++ [AO.row e sz []]) i x := by
    intro i x h
    rcases foot_set (by simp; omega) h with ⟨rfl, _, l, h5, h6⟩ | ⟨_, h⟩
    · exact ⟨_, l, ho2, rfl, h5, h6⟩
    · exact h
  have hM2 : ∀ b, Own (ρ ++ [[.slice none 0 0]]) ((st.objs ++ [AO.row e sz []]).set id (.box (cells.set o (.own st.objs.length)))) b → Own (ρ ++ [[.slice none 0 0]]) (st.objs ++ [AO.row e sz []]) b := fun b ⟨i, h⟩ => ⟨i, hfoot h⟩
  have hgm : ∀ {av v}, Gm (ρ ++ [[.slice none 0 0]]) w (Ban (ρ ++ [[.slice none 0 0]]) (st.objs ++ [AO.row e sz []])) av v → Gm (ρ ++ [[.slice none 0 0]]) w (Ban (ρ ++ [[.slice none 0 0]]) ((st.objs ++ [AO.row e sz []]).set id (.box (cells.set o (.own st.objs.length))))) av v :=
    fun h => h.ext (Same.refl _ _) (fun _ _ h => h) (fun b _ h => hM2 b h)
  refine Rel.step hr hf h0 happ.1 happ.2.1 (fun b hlt h => happ.2.2.1 b hlt (hM2 b h)) ⟨fun t' => hgm ((hb.frame t').ext happ.1 happ.2.1 happ.2.2.1), hb.size, hb.defers, ⟨?_, ?_, fun i j x hi hj => happ.2.2.2.dis i j x (hfoot hi) (hfoot hj), fun i x h => happ.2.2.2.zf i x (hfoot h), happ.2.2.2.zl, happ.2.2.2.tt.step (Same.refl _ _) fun b _ h => hM2 b h⟩⟩
  · simp [St.set, St.add, hb.good.len]
  · intro id' o' ho'
    change ((st.objs ++ [AO.row e sz []]).set id _)[id']? = some o' at ho'
    by_cases he : id' = id
    · subst he
      rw [List.getElem?_set_self (by simp; omega)] at ho'
      obtain rfl := Option.some.inj ho'
      refine ⟨b, arr, T, h1, h2, by simpa using h3, fun i av hi => ?_⟩
      by_cases hio : i = o
      · subst hio
        rw [List.getElem?_set_self hoc] at hi
        obtain rfl := Option.some.inj hi
        obtain ⟨v, hv, hg⟩ := h4 i _ hc
        refine ⟨v, hv, ?_⟩
        rw [hg.val_inv]
        exact .own _ _ [] (new_id hb.good.len _) rfl
      · rw [List.getElem?_set_ne (Ne.symm hio)] at hi
        obtain ⟨v, hv, hg⟩ := h4 i _ hi
        exact ⟨v, hv, hgm hg⟩
    · rw [List.getElem?_set_ne (Ne.symm he)] at ho'
      exact (happ.2.2.2.sat id' o' ho').keep (Same.refl _ _) (fun _ _ h => h) (fun b _ h => hM2 b h) (fun _ _ _ _ _ _ _ => rfl)
theorem a_nilbox [Zs] {c : Code} (id o : Nat) {cells : List AV} (e : TypeId) (sz : Nat) (ho : st.objs[id]? = some (.box cells)) (hc : cells[o]? = some (.val (.slice none 0 0)))
    (hk : aC P cx c Q ((st.add (.row e sz [])).set id (.box (cells.set o (.own st.objs.length))))) : aC P cx c Q st := fun a w hr => hk a w (rel_nilbox id o cells e sz ho hc hr)

/-- A store of one cell into an own row. -/
theorem l_store_ept [Zs] {T : TypeId} {x y : Operand} {id o : Nat} {e : TypeId} {sz : Nat} {cs : List Dat} {dt : Dat} (hx : st.ev x = .ept id o) (ho : st.objs[id]? = some (.row e sz cs)) (hlt : o < cs.length) (hy : st.ev y = ofD dt) (h1 : dt.one = true) (ht : SzOf P T 1)
    (hk : aL P cx ops Q rest (st.set id (.row e sz (cs.set o dt)))) : aL P cx ops Q (⟨none, .store T x y, ty, pos, af, none⟩ :: rest) st := by
  refine l_skip (st2 := st.set id (.row e sz (cs.set o dt))) rfl ?_ rfl hk
  intro ρ w a hb
  have hg := hb.ev x
  rw [hx] at hg
  obtain ⟨b, n, cap, l, he, hl⟩ := hg.ept_inv
  obtain ⟨v, n', us, hρ, how, hlen, hcs⟩ := hb.good.sat id _ ho
  rw [hρ] at hl
  obtain ⟨rfl, rfl⟩ := List.cons.inj (Option.some.inj hl)
  have hgy := hb.ev y
  rw [hy] at hgy
  have hrd := gm_ofD_inv hgy
  have hone := hrd.one h1
  rcases how.2 with ⟨hv, _⟩ | ⟨b', cap', cur, hv, _, hh, hnc, hcm, hcsz, htake⟩
  · cases hv
  cases hv
  have hous : o < us.length := by omega
  have hocur : o < cur.size := by
    have : us.length ≤ cur.size := by rw [← htake, List.length_take]; simp; omega
    omega
  have hrun := run_storeCells_at P b o e [a.eval y] 0 cur w hh (by simp; omega) (by simpa using hone)
  have hsm : Same (fun x => x = b) w (w.setRow b (cur.toList.take (o + 0) ++ [a.eval y] ++ cur.toList.drop (o + 0 + [a.eval y].length)).toArray) :=
    ⟨rfl, rfl, rfl, by simp, fun k _ hn => setRow_other w b k _ hn⟩
  have hheap := setRow_heap w b cur (cur.toList.take (o + 0) ++ [a.eval y] ++ cur.toList.drop (o + 0 + [a.eval y].length)).toArray e (0, 0) hh
  have hset : cur.toList.take (o + 0) ++ [a.eval y] ++ cur.toList.drop (o + 0 + [a.eval y].length) = cur.toList.set o (a.eval y) := by
    rw [List.set_eq_take_append_cons_drop, if_pos (by simpa using hocur)]
    simp
  rw [hset] at hsm hheap hrun
  have key := hb.good.turn (o' := .row e sz (cs.set o dt)) ho rfl hρ (b := b) rfl hsm
  generalize hw : w.setRow b (cur.toList.set o (a.eval y)).toArray = w' at *
  have hids : ∀ b', Own ρ (st.objs.set id (.row e sz (cs.set o dt))) b' → Own ρ st.objs b' := by
    rintro b' ⟨i, h⟩
    rcases foot_set (List.getElem?_eq_some_iff.1 ho).1 h with ⟨rfl, _, l, h3, h4⟩ | ⟨_, h⟩
    · exact ⟨i, _, l, ho, rfl, h3, h4⟩
    · exact ⟨i, h⟩
  have hsm' : Same (Own ρ st.objs) w w' := ⟨hsm.os, hsm.tape, hsm.output, hsm.size, fun k hk hn => hsm.block k hk (fun e => hn (e ▸ ⟨id, _, _, ho, rfl, hρ, _, List.mem_singleton.2 rfl, rfl⟩))⟩
  have hrdm : ∀ {dt' : Dat} {v : Value}, Rd w (Ban ρ st.objs) v dt' → Rd w' (Ban ρ (st.objs.set id (.row e sz (cs.set o dt)))) v dt' := fun h => h.mono hsm'.ban (Ban.mono fun b' _ h => hids b' h)
  have hfin := key (sat_row hρ (us := us.set o (a.eval y)) ⟨by rw [List.length_set]; exact how.1, .inr ⟨b, cap, _, rfl, Nat.zero_le _, hheap, hnc, hcm, by simpa using hcsz, by
      simp only [List.take_set, htake]⟩⟩ (by simp [hlen]) fun i dt' hi => by
    by_cases hio : i = o
    · subst hio
      rw [List.getElem?_set_self hlt] at hi
      obtain rfl := Option.some.inj hi
      exact ⟨a.eval y, by rw [List.getElem?_set_self hous], hrdm hrd⟩
    · rw [List.getElem?_set_ne (Ne.symm hio)] at hi
      obtain ⟨u, hu, hr⟩ := hcs i dt' hi
      exact ⟨u, by rw [List.getElem?_set_ne (Ne.symm hio)]; exact hu, hrdm hr⟩)
  refine ⟨w', ρ, ?_, hsm', fun _ _ h => h, fun b' _ h => hids b' h, hfin.1⟩
  simp only [execOp, he, Instr.storeAt, Instr.sureAddr, storeVar, cells_one hone, Sem.run_bind, Sem.run_pure, Result.andThen_ok, ht.run]
  simp [hrun]

/-- A store of a whole struct or array into a box. -/
theorem l_store_agg [Zs] {T : TypeId} {x y : Operand} {id o n : Nat} {cells l : List AV} (hx : st.ev x = .ptr id o) (ho : st.objs[id]? = some (.box cells)) (hlt : Nat.ble (o + n) cells.length = true) (hy : (st.ev y).cells = l) (hl : l.length = n) (h1' : l.all AV.one = true) (ht : SzOf P T n)
    (hk : aL P cx ops Q rest (st.set id (.box (cells.take o ++ l ++ cells.drop (o + n))))) : aL P cx ops Q (⟨none, .store T x y, ty, pos, af, none⟩ :: rest) st := by
  refine l_skip (st2 := st.set id (.box (cells.take o ++ l ++ cells.drop (o + n)))) rfl ?_ rfl hk
  intro ρ w a hb
  have hlt' : o + n ≤ cells.length := Nat.le_of_ble_eq_true hlt
  have h1 := List.all_eq_true.1 h1'
  have hg := hb.ev x
  rw [hx] at hg
  obtain ⟨b, arr, T', he, hρ, hh, hsz, hcell, hcs⟩ := box_cells hb.good ho hg
  obtain ⟨g1, g2, g3⟩ := gm_cells (hb.ev y) hy h1
  have hvl : (a.eval y).cells.toList.length = n := by simp [g1, hl]
  have hrun := run_storeCells_at P b o T' (a.eval y).cells.toList 0 arr w hh (by rw [hvl]; omega) g3
  rw [hvl] at hrun
  generalize hnew : arr.toList.take (o + 0) ++ (a.eval y).cells.toList ++ arr.toList.drop (o + 0 + n) = nl at hrun
  have hsm : Same (fun x => x = b) w (w.setRow b nl.toArray) := ⟨rfl, rfl, rfl, by simp, fun k _ hn => setRow_other w b k _ hn⟩
  have hheap := setRow_heap w b arr nl.toArray T' (0, 0) hh
  have key := hb.good.turn (o' := .box (cells.take o ++ l ++ cells.drop (o + n))) ho rfl hρ (b := b) rfl hsm
  generalize hw : w.setRow b nl.toArray = w' at *
  have hids : ∀ b', Own ρ (st.objs.set id (.box (cells.take o ++ l ++ cells.drop (o + n)))) b' → Own ρ st.objs b' := by
    rintro b' ⟨i, h⟩
    rcases foot_set (List.getElem?_eq_some_iff.1 ho).1 h with ⟨rfl, _, l, h3, h4⟩ | ⟨_, h⟩
    · exact ⟨i, _, l, ho, rfl, h3, h4⟩
    · exact ⟨i, h⟩
  have hsm' : Same (Own ρ st.objs) w w' := ⟨hsm.os, hsm.tape, hsm.output, hsm.size, fun k hk hn => hsm.block k hk (fun e => hn (e ▸ ⟨id, _, _, ho, rfl, hρ, _, List.mem_singleton.2 rfl, rfl⟩))⟩
  have hgm : ∀ {av' : AV} {v : Value}, Gm ρ w (Ban ρ st.objs) av' v → Gm ρ w' (Ban ρ (st.objs.set id (.box (cells.take o ++ l ++ cells.drop (o + n))))) av' v := fun h => h.mono hsm'.ban (Ban.mono fun b' _ h => hids b' h) (fun _ _ h => h)
  have hfin := key ⟨b, _, T', hρ, hheap, by rw [← hnew]; simp [g1, hl, hsz], fun i av' hi => by
    have ha : (arr.toList.take o).length = o := by simp; omega
    have hc : (cells.take o).length = o := by simp; omega
    rw [← hnew]
    rw [List.append_assoc] at hi
    simp only [Nat.add_zero, List.getElem?_toArray]
    rw [List.append_assoc (List.take o arr.toList)]
    rw [List.getElem?_append, hc] at hi
    rw [List.getElem?_append, ha]
    by_cases h5 : i < o
    · rw [if_pos h5, List.getElem?_take, if_pos h5] at hi
      obtain ⟨v, hv, hgv⟩ := hcs i av' hi
      exact ⟨v, by rw [if_pos h5, List.getElem?_take, if_pos h5]; simpa using hv, hgm hgv⟩
    · rw [if_neg h5] at hi ⊢
      rw [List.getElem?_append] at hi ⊢
      rw [hl] at hi
      rw [hvl]
      by_cases h6 : i - o < n
      · rw [if_pos h6] at hi ⊢
        have h7 : i - o < (a.eval y).cells.size := by rw [g1, hl]; exact h6
        exact ⟨_, by simp [h7], hgm (g2 _ _ _ hi (Array.getElem?_eq_getElem h7))⟩
      · rw [if_neg h6] at hi ⊢
        rw [List.getElem?_drop] at hi ⊢
        obtain ⟨v, hv, hgv⟩ := hcs _ av' hi
        exact ⟨v, by simpa using hv, hgm hgv⟩⟩
  refine ⟨w', ρ, ?_, hsm', fun _ _ h => h, fun b' _ h => hids b' h, hfin.1⟩
  have hszv : (a.eval y).cells.size = n := by rw [g1, hl]
  simp only [execOp, he, Instr.storeAt, Instr.sureAddr, storeVar, Sem.run_bind, Sem.run_pure, Result.andThen_ok, ht.run, hszv]
  simp [hrun]

/-! Calls. -/
def evs (st : St) (xs : Array Operand) : List AV := xs.toList.map st.ev

/-- The callee, and what it has captured. -/
def Callee' (st : St) (g : Operand) (f : FuncId) (caps : List AV) : Prop := (st.ev g = .val (.func (.func f) #[] #[]) ∧ caps = []) ∨ st.ev g = .clo f caps

theorem callee_val [Zs] {ρ : Ids} {w : World} {a : Act} (hb : RelB ρ w st a) {g : Operand} {f : FuncId} {caps : List AV} (h : Callee' st g f caps) :
    ∃ cs : Array Value, a.eval g = .func (.func f) #[] cs ∧ cs.size = caps.length ∧ ∀ (i : Nat) (av : AV) (v : Value), caps[i]? = some av → cs[i]? = some v → Gm ρ w (Ban ρ st.objs) av v := by
  have hg := hb.ev g
  rcases h with ⟨h, rfl⟩ | h
  · rw [h] at hg
    exact ⟨#[], hg.val_inv, rfl, fun i av v h => by simp at h⟩
  · rw [h] at hg
    obtain ⟨vs, h1, h2, h3⟩ := hg.clo_inv
    exact ⟨vs, h1, h2.symm, h3⟩

theorem exec_call {d : Option Tmp} {g : Operand} {xs : Array Operand} {ats : Array TypeId} {a : Act} {f : FuncId} {cs : Array Value} (he : Enters P f) (hg : a.eval g = .func (.func f) #[] cs) (w : World) (gd : Option (Nat × Bool)) :
    (execOp a.eval ⟨d, .call ⟨.value g, xs, ats⟩, ty, pos, af, gd⟩).run P w = .ok (.enter f (xs.map a.eval ++ cs)) w := by
  simp only [execOp, resolve, hg, Deferred.ofValue, Sem.run_bind, Sem.run_pure, Result.andThen_ok, invoke, he.run]
  simp

theorem args_gm [Zs] {ρ : Ids} {w : World} {a : Act} (hb : RelB ρ w st a) {xs : Array Operand} {cs : Array Value} {caps : List AV} (hsz : cs.size = caps.length)
    (hcs : ∀ (i : Nat) (av : AV) (v : Value), caps[i]? = some av → cs[i]? = some v → Gm ρ w (Ban ρ st.objs) av v) {args : List AV} {σ : List Nat} {objs' : List AO} (ho : VwOs st.objs σ objs') (hv : VwL st.objs σ (evs st xs ++ caps) args) :
    (xs.map a.eval ++ cs).size = args.length ∧ ∀ (i : Nat) (av : AV) (v : Value), args[i]? = some av → (xs.map a.eval ++ cs)[i]? = some v → Gm (reId ρ σ) w (Ban (reId ρ σ) objs') av v := by
  obtain ⟨h1, h2⟩ := vwL_spec hv
  refine ⟨?_, fun i av v hi hv' => ?_⟩
  · rw [← h1]; simp [evs, hsz]
  · have hlt : i < (evs st xs ++ caps).length := by rw [h1]; exact (List.getElem?_eq_some_iff.1 hi).1
    refine (h2 i _ av (List.getElem?_eq_getElem hlt) hi).gm hb.good ho v ?_
    by_cases hx : i < xs.size
    · have e1 : (evs st xs ++ caps)[i] = st.ev xs[i] := by
        rw [List.getElem_append_left (by simpa [evs] using hx)]; simp [evs]
      have e2 : v = a.eval xs[i] := by
        rw [Array.getElem?_append_left (by simpa using hx)] at hv'
        simp [hx] at hv'
        exact hv'.symm
      rw [e1, e2]
      exact hb.ev _
    · have hl : (evs st xs).length = xs.size := by simp [evs]
      rw [Array.getElem?_append_right (by simpa using Nat.le_of_not_lt hx)] at hv'
      simp only [Array.size_map] at hv'
      refine hcs (i - xs.size) _ v ?_ hv'
      rw [List.getElem_append_right (by rw [hl]; omega)]
      simp only [hl]
      exact List.getElem?_eq_getElem _

/-- A call that gives back a value that hangs on no memory, and leaves memory as it was. -/
theorem Q_call {d : Option Tmp} {g : Operand} {xs : Array Operand} {ats : Array TypeId} {f : FuncId} {caps args : List AV} {v : Value} {objs' : List AO} (hf : Callee' st g f caps) (hc : AC P f args [] (.val v) objs') (hv : VwL st.objs [] (evs st xs ++ caps) args) {gd : Option (Nat × Bool)} :
    QOp P ⟨d, .call ⟨.value g, xs, ats⟩, ty, pos, af, gd⟩ st (.val v) := by
  intro _ ρ w a hb
  refine ⟨v, .val v, fun w1 hw => ?_⟩
  have hb1 := hb.mono hw
  obtain ⟨cs, h1, h2, h3⟩ := callee_val hb1 hf
  have ho : VwOs st.objs [] [] := ⟨rfl, List.nodup_nil, fun id' o' h => by simp at h⟩
  obtain ⟨h4, h5⟩ := args_gm hb1 h2 h3 ho hv
  unfold Oper.quietAt
  rw [exec_call hc.1 h1]
  refine ⟨rfl, (hc.2 (reId ρ []) w1 _ (hb1.good.view ho) h4 h5).mono ?_⟩
  rintro e w' ⟨u, ρ', rfl, hs, _, hg, _, _⟩
  have hsm := hs.below (fun x _ ⟨id, h⟩ => by obtain ⟨o, l, h6, _⟩ := h; simp at h6)
  rw [hg.val_inv]
  exact ⟨rfl, hw.trans (hsm.mono hw.size)⟩

mutual
def AV.sh (m : Nat) : AV → AV
  | .own id => .own (m + id)
  | .ptr id off => .ptr (m + id) off
  | .ept id o => .ept (m + id) o
  | .agg l => .agg (AV.shl m l)
  | .tup l => .tup (AV.shl m l)
  | .clo f l => .clo f (AV.shl m l)
  | .val v => .val v
  | .ro d => .ro d
  | .rpt cs o => .rpt cs o
  | .any => .any
def AV.shl (m : Nat) : List AV → List AV
  | [] => []
  | a :: l => a.sh m :: AV.shl m l
end
def AO.sh (m : Nat) : AO → AO
  | .box l => .box (AV.shl m l)
  | .row e sz cs => .row e sz cs
  | .mat e e' r => .mat e e' r
  | .mp r => .mp r
  | .bld T e cs => .bld T e cs
  | .gone => .gone

/-- Nothing in it hangs on older memory. -/
inductive Flat : AV → Prop where
  | val (v : Value) : Flat (.val v)
  | own (id : Nat) : Flat (.own id)
  | ptr (id o : Nat) : Flat (.ptr id o)
  | agg (l : List AV) (h : ∀ av ∈ l, Flat av) : Flat (.agg l)
  | tup (l : List AV) (h : ∀ av ∈ l, Flat av) : Flat (.tup l)
  | any : Flat .any
inductive FlatO : AO → Prop where
  | box (l : List AV) (h : ∀ av ∈ l, Flat av) : FlatO (.box l)
  | row (e : TypeId) (sz : Nat) (cs : List Dat) (h : ∀ dt ∈ cs, ∃ v, dt = .val v) : FlatO (.row e sz cs)
  | mat (e e' : TypeId) (m : List (Value × List Value)) : FlatO (.mat e e' m)
  | mp (m : List (Value × Value)) : FlatO (.mp m)
  | bld (T e : TypeId) (cs : List Value) : FlatO (.bld T e cs)
  | gone : FlatO .gone

theorem shl_get (m : Nat) : ∀ (l : List AV) (i : Nat), (AV.shl m l)[i]? = (l[i]?).map (AV.sh m)
  | [], i => by simp [AV.shl]
  | a :: l, 0 => by simp [AV.shl]
  | a :: l, i + 1 => by simp [AV.shl, shl_get m l i]
theorem shl_len (m : Nat) : ∀ (l : List AV), (AV.shl m l).length = l.length
  | [] => rfl
  | a :: l => by simp [AV.shl, shl_len m l]

theorem flat_gm {ρ ρ' : Ids} {w : World} {M M' : Nat → Prop} {m : Nat} (hρ : ∀ (id : Nat) l, ρ[id]? = some l → ρ'[m + id]? = some l) {av : AV} (hf : Flat av) : ∀ v, Gm ρ w M av v → Gm ρ' w M' (av.sh m) v := by
  have lst : ∀ {l : List AV} {vs : Array Value}, (∀ av ∈ l, ∀ v, Gm ρ w M av v → Gm ρ' w M' (av.sh m) v) → (∀ (i : Nat) (av : AV) (v : Value), l[i]? = some av → vs[i]? = some v → Gm ρ w M av v) →
      ∀ (i : Nat) (av : AV) (v : Value), (AV.shl m l)[i]? = some av → vs[i]? = some v → Gm ρ' w M' av v := by
    intro l vs ih h i av v hi hv
    rw [shl_get] at hi
    obtain ⟨av0, h1, rfl⟩ := Option.map_eq_some_iff.1 hi
    exact ih av0 (List.mem_of_getElem? h1) v (h i av0 v h1 hv)
  induction hf with
  | val v => intro u hu; rw [hu.val_inv]; exact .val _
  | own id => intro u hu; cases hu with | own _ _ l h h1 => exact .own _ _ l (hρ _ _ h) h1
  | ptr id o => intro u hu; obtain ⟨b, l, rfl, h⟩ := hu.ptr_inv; exact .ptr _ _ b l (hρ _ _ h)
  | agg l _ ih => intro u hu; obtain ⟨vs, rfl, h1, h2⟩ := hu.agg_inv; exact .agg _ vs (by rw [shl_len]; exact h1) (lst ih h2)
  | tup l _ ih => intro u hu; obtain ⟨vs, rfl, h1, h2⟩ := hu.tup_inv; exact .tup _ vs (by rw [shl_len]; exact h1) (lst ih h2)
  | any => intro u _; exact .any u

/-- A call that makes new objects: they stand behind the caller's. -/
theorem l_call [Zs] {d : Tmp} {g : Operand} {xs : Array Operand} {ats : Array TypeId} {f : FuncId} {caps args : List AV} {res : AV} {objs' : List AO} (hf : Callee' st g f caps) (hc : AC P f args [] res objs') (hv : VwL st.objs [] (evs st xs ++ caps) args)
    (hfl : Flat res) (hfo : ∀ o ∈ objs', FlatO o) (hd : Nat.blt d st.n = true)
    (hk : aL P cx ops Q rest (St.put ⟨st.n, st.vars, st.objs ++ objs'.map (AO.sh st.objs.length)⟩ d (res.sh st.objs.length))) : aL P cx ops Q (⟨some d, .call ⟨.value g, xs, ats⟩, ty, pos, af, none⟩ :: rest) st := by
  intro a w hr
  obtain ⟨ρ, hb, hfoot, h0⟩ := hr.base
  obtain ⟨cs, h1, h2, h3⟩ := callee_val hb hf
  have ho : VwOs st.objs [] [] := ⟨rfl, List.nodup_nil, fun id' o' h => by simp at h⟩
  obtain ⟨h4, h5⟩ := args_gm hb h2 h3 ho hv
  unfold wpList
  rw [if_pos (by simp [Region.wanted])]
  left
  unfold Oper.wp
  rw [exec_call hc.1 h1]
  refine (hc.2 (reId ρ []) w _ (hb.good.view ho) h4 h5).mono ?_
  rintro e w' ⟨u, ρ', rfl, hs, hg', hgm, _, hfr⟩
  have hbel := hs.below (fun x _ ⟨id, h⟩ => by obtain ⟨o, l, h6, _⟩ := h; simp at h6)
  have hfr' : ∀ b, Own ρ' objs' b → w.heap.size ≤ b := by
    intro b h
    rcases Nat.lt_or_ge b w.heap.size with hlt | hge
    · obtain ⟨id, o, l, h6, _⟩ := hfr b h hlt; simp at h6
    · exact hge
  have hlen := hb.good.len
  have hext : ∀ (id : Nat) l, ρ'[id]? = some l → (ρ ++ ρ')[st.objs.length + id]? = some l := by
    intro id l h
    rw [List.getElem?_append_right (by omega), hlen, Nat.add_sub_cancel_left]; exact h
  have hfnew : ∀ id b, st.objs.length ≤ id → foot (ρ ++ ρ') (st.objs ++ objs'.map (AO.sh st.objs.length)) id b → foot ρ' objs' (id - st.objs.length) b := by
    rintro id b hle ⟨o, l, h6, h7, h8, h9⟩
    rw [List.getElem?_append_right hle, List.getElem?_map] at h6
    obtain ⟨o0, h10, rfl⟩ := Option.map_eq_some_iff.1 h6
    rw [List.getElem?_append_right (by omega), hlen] at h8
    refine ⟨o0, l, h10, ?_, h8, h9⟩
    cases o0 <;> first | rfl | cases h7
  have happ := hb.good.app (w' := w') (ls := ρ') (os := objs'.map (AO.sh st.objs.length)) (Same.of_below hbel _) (fun b ⟨id, h⟩ => hbel.block b (foot_lt hb.good h)) (by simp [hg'.len])
    (fun id b h6 h7 => hfr' b ⟨_, hfnew id b h6 h7⟩) (fun i j b h6 h7 h8 h9 => by have := hg'.dis _ _ b (hfnew i b h6 h8) (hfnew j b h7 h9); omega) (fun i o hi => by
      rw [List.getElem?_map] at hi
      obtain ⟨o0, h10, rfl⟩ := Option.map_eq_some_iff.1 hi
      have hsat := hg'.sat i o0 h10
      have hflo := hfo o0 (List.mem_of_getElem? h10)
      cases hflo with
      | gone => trivial
      | mat e e' m => obtain ⟨v, us, a1, a2⟩ := hsat; exact ⟨v, us, hext _ _ a1, a2⟩
      | mp m => obtain ⟨v, us, a1, a2⟩ := hsat; exact ⟨v, us, hext _ _ a1, a2⟩
      | bld T e cs => obtain ⟨b, v, a1, a2⟩ := hsat; exact ⟨b, v, hext _ _ a1, a2⟩
      | row e sz cs h =>
        obtain ⟨v, n, us, a1, a2, a3, a4⟩ := hsat
        refine ⟨v, n, us, hext _ _ a1, a2, a3, fun i dt hi => ?_⟩
        obtain ⟨u, hu, hr⟩ := a4 i dt hi
        obtain ⟨x, rfl⟩ := h dt (List.mem_of_getElem? hi)
        cases hr
        exact ⟨_, hu, .val _⟩
      | box l h =>
        obtain ⟨b, arr, T, a1, a2, a3, a4⟩ := hsat
        refine ⟨b, arr, T, hext _ _ a1, a2, by rw [shl_len]; exact a3, fun i av hi => ?_⟩
        rw [shl_get] at hi
        obtain ⟨av0, h11, rfl⟩ := Option.map_eq_some_iff.1 hi
        obtain ⟨v, hv, hgv⟩ := a4 i av0 h11
        exact ⟨v, hv, flat_gm hext (h av0 (List.mem_of_getElem? h11)) v hgv⟩)
  refine hk _ _ (Rel.step (st2 := St.put ⟨st.n, st.vars, st.objs ++ objs'.map (AO.sh st.objs.length)⟩ d (res.sh st.objs.length)) hr hfoot h0 (Same.of_below hbel _) (ext_app ρ ρ') happ.2
    (RelB.put (st := ⟨st.n, st.vars, st.objs ++ objs'.map (AO.sh st.objs.length)⟩) ⟨fun t => (hb.frame t).ext (Same.of_below hbel _) (ext_app ρ ρ') happ.2, hb.size, hb.defers, happ.1⟩ hd (flat_gm hext hfl u hgm)))
end
end Go.Proofs.YtbgecpjlopdkfaaDoor

/- Literals of structs and arrays; function values; fields of struct values; slices' parts. -/
namespace Go.Proofs.YtbgecpjlopdkfaaDoor
open Go.RowKit

/-- How a struct or an array is laid out of its parts: its nought, and each part's place. -/
def BdT (P : Program) (T : TypeId) (zs : List Value) (place : Nat → Option (Nat × Nat)) : Prop :=
  ∀ (w : World) (parts : Array (Nat × Value)) (cells : Array Value), Instr.fill place zs.toArray parts.toList = some cells → (Instr.build T parts).run P w = .ok (.agg cells) w

theorem run_places {P : Program} {w : World} : ∀ (fs : List Field) (szs : List Nat), (fs.map fun f => (P.info? f.type).map (·.size)) = szs.map some →
    (fs.mapM (m := Sem) fun f => do pure (f.offset, ← sizeOf f.type)).run P w = .ok ((fs.map (·.offset)).zip szs) w
  | [], szs, h => by cases szs with | nil => rfl | cons => simp at h
  | f :: fs, [], h => by simp at h
  | f :: fs, s :: szs, h => by
    simp only [List.map_cons, List.cons.injEq] at h
    have h1 : SzOf P f.type s := h.1
    have ih := run_places (P := P) (w := w) fs szs h.2
    simp only [List.mapM_cons, Sem.run_bind, h1.run, Result.andThen_ok, Sem.run_pure, ih]
    rfl

theorem BdT.struct {P : Program} {T : TypeId} {fs : Array Field} {z : Value} {zs : List Value} {szs : List Nat} {n by' : Nat} (hu : P.underlying T = some (.struct fs)) (hz : MkT P T z n by') (hzs : z.cells = zs.toArray)
    (hs : (fs.toList.map fun f => (P.info? f.type).map (·.size)) = szs.map some) : BdT P T zs (fun i => ((fs.toList.map (·.offset)).zip szs)[i]?) := by
  intro w parts cells hf
  obtain ⟨i, hi, hz1, _⟩ := hz.info
  have hpl := run_places (P := P) (w := w) fs.toList szs hs
  have hpl' : (fs.mapM (m := Sem) fun f => do pure (f.offset, ← sizeOf f.type)).run P w = .ok ((fs.toList.map (·.offset)).zip szs).toArray w := by
    rw [← Array.toArray_toList (xs := fs), List.mapM_toArray, Sem.run_map]
    simp only [hpl, Result.andThen_ok]
  simp only [Instr.build, Sem.run_bind, zeroValue, typeInfo, run_program, hi, hz1, Result.andThen_ok, Sem.run_pure, run_underlying hu, hpl', hzs]
  have hfun : (fun i : Nat => (((fs.toList.map (·.offset)).zip szs).toArray)[i]?) = (fun i : Nat => ((fs.toList.map (·.offset)).zip szs)[i]?) := by funext i; simp
  rw [hfun, hf]
  rfl

theorem BdT.array {P : Program} {T e : TypeId} {z : Value} {zs : List Value} {sz n m by' : Nat} (ht : ArT P T m e sz) (hz : MkT P T z n by') (hzs : z.cells = zs.toArray) : BdT P T zs (fun i => some (i * sz, sz)) := by
  intro w parts cells hf
  obtain ⟨i, hi, hz1, _⟩ := hz.info
  simp only [Instr.build, Sem.run_bind, zeroValue, typeInfo, run_program, hi, hz1, Result.andThen_ok, Sem.run_pure, run_underlying ht.1, ht.2.run, hzs, hf]

/-- The parts, laid one by one into what is there. -/
def PartA (st : St) (place : Nat → Option (Nat × Nat)) : List (Nat × Operand) → List AV → List AV → Prop
  | [], cur, out => out = cur
  | (i, x) :: r, cur, out => ∃ off l, place i = some (off, l.length) ∧ (st.ev x).cells = l ∧ l.all AV.one = true ∧ Nat.ble (off + l.length) cur.length = true ∧ PartA st place r (cur.take off ++ l ++ cur.drop (off + l.length)) out

section
variable {P : Program} {st : St} {d : Option Tmp} {ty : TypeId} {pos : String} {af : Array Edge} {g : Option (Nat × Bool)}

theorem partA_spec [Zs] {ρ : Ids} {w : World} {a : Act} (hb : RelB ρ w st a) (place : Nat → Option (Nat × Nat)) : ∀ (ps : List (Nat × Operand)) (cur out : List AV) (vs : Array Value), PartA st place ps cur out → cur.length = vs.size →
    (∀ (i : Nat) (av : AV) (v : Value), cur[i]? = some av → vs[i]? = some v → Gm ρ w (Ban ρ st.objs) av v) →
    ∃ vs', Instr.fill place vs (ps.map fun p => (p.1, a.eval p.2)) = some vs' ∧ out.length = vs'.size ∧ ∀ (i : Nat) (av : AV) (v : Value), out[i]? = some av → vs'[i]? = some v → Gm ρ w (Ban ρ st.objs) av v
  | [], cur, out, vs, h, hl, hg => by
    have : out = cur := h
    subst this
    exact ⟨vs, by simp [Instr.fill], hl, hg⟩
  | (i, x) :: r, cur, out, vs, h, hl, hg => by
    obtain ⟨off, l, h1, h2, h3', h4, h5⟩ := h
    have h3 := List.all_eq_true.1 h3'
    obtain ⟨g1, g2, _⟩ := gm_cells (hb.ev x) h2 h3
    have h4' : off + l.length ≤ cur.length := Nat.le_of_ble_eq_true h4
    have hfill := run_fill place vs i (a.eval x) (r.map fun p => (p.1, a.eval p.2)) off (by rw [g1]; exact h1) (by rw [g1]; omega)
    have ih := partA_spec hb place r _ out (vs.toList.take off ++ (a.eval x).cells.toList ++ vs.toList.drop (off + (a.eval x).cells.size)).toArray h5 (by simp [g1]; omega) (by
      intro j av v hj hv
      have hc : (cur.take off).length = off := by simp; omega
      have ha : (vs.toList.take off).length = off := by simp; omega
      have hx : (a.eval x).cells.toList.length = l.length := by simpa using g1
      rw [List.append_assoc] at hj
      simp only [List.getElem?_toArray] at hv
      rw [List.append_assoc (List.take off vs.toList)] at hv
      rw [List.getElem?_append, hc] at hj
      rw [List.getElem?_append, ha] at hv
      by_cases h5 : j < off
      · rw [if_pos h5, List.getElem?_take, if_pos h5] at hj hv
        exact hg j av v hj (by simpa using hv)
      · rw [if_neg h5] at hj hv
        rw [List.getElem?_append] at hj hv
        rw [hx] at hv
        by_cases h6 : j - off < l.length
        · rw [if_pos h6] at hj hv
          exact g2 _ av v hj (by simpa using hv)
        · rw [if_neg h6, List.getElem?_drop] at hj hv
          rw [g1] at hv
          exact hg _ av v hj (by simpa using hv))
    obtain ⟨vs', i1, i2, i3⟩ := ih
    refine ⟨vs', ?_, i2, i3⟩
    simp only [List.map_cons]
    rw [hfill]
    exact i1

theorem Q_build {T : TypeId} {zs : List Value} {place : Nat → Option (Nat × Nat)} {parts : Array (Nat × Operand)} {ps : List (Nat × Operand)} {out : List AV} (hb : BdT P T zs place) (hp : parts = ps.toArray) (hcs : PartA st place ps (zs.map .val) out) :
    QOp P ⟨d, .build T parts, ty, pos, af, g⟩ st (.agg out) :=
  .run fun ρ w a hr => by
    subst hp
    obtain ⟨vs', h1, h2, h3⟩ := partA_spec hr place ps (zs.map .val) out zs.toArray hcs (by simp) (by
      intro i av v hi hv
      simp only [List.getElem?_map, List.getElem?_toArray] at hi hv
      rw [hv] at hi
      obtain rfl := Option.some.inj hi
      exact .val v)
    refine ⟨.agg vs', .agg _ _ h2 h3, fun w1 _ => ?_⟩
    have hmap : ∀ f : Nat × Operand → Nat × Value, (∀ p, f p = (p.1, a.eval p.2)) → (ps.toArray.map f).toList = ps.map fun p => (p.1, a.eval p.2) := by
      intro f hf
      rw [show f = fun p => (p.1, a.eval p.2) from funext hf]
      simp
    simp only [execOp, Sem.run_bind, hb w1 _ vs' (by rw [hmap _ (fun _ => rfl)]; exact h1), Result.andThen_ok, Sem.run_pure]

/-- A function value that has captured something. -/
theorem Q_clo {f : FuncId} {xs : Array Operand} : QOp P ⟨d, .makeFunc (.func f) #[] xs, ty, pos, af, g⟩ st (.clo f (evs st xs)) :=
  .run fun ρ w a hr => by
    refine ⟨.func (.func f) #[] (xs.map a.eval), .clo f _ _ (by simp [evs]) fun i av v h1 h2 => ?_, fun w1 _ => by simp [execOp, Instr.makeFunc]⟩
    simp only [evs, List.getElem?_map, Array.getElem?_toList, Option.map_eq_some_iff] at h1
    obtain ⟨x, hx, rfl⟩ := h1
    simp only [Array.getElem?_map, hx, Option.map_some, Option.some.injEq] at h2
    subst h2
    exact hr.ev x
/-- An element of an array value. -/
theorem Q_index_v {T e : TypeId} {x ix : Operand} {n : Nat} {l : List AV} {av : AV} {i : Int} (hx : st.ev x = .agg l) (hi : st.ev ix = .val (.int .i64 i)) (ht : ArT P T n e 1) (hs : ScT P e) (h : 0 ≤ i ∧ i < n) (hl : l[i.toNat]? = some av) :
    QOp P ⟨d, .index T x ix, ty, pos, af, g⟩ st av :=
  .run fun ρ w a hr => by
    have hg := hr.ev x
    rw [hx] at hg
    obtain ⟨vs, he, h1, h2⟩ := hg.agg_inv
    have hlt : i.toNat < vs.size := by rw [← h1]; exact (List.getElem?_eq_some_iff.1 hl).1
    refine ⟨vs[i.toNat], h2 _ av _ hl (Array.getElem?_eq_getElem hlt), fun w1 _ => ?_⟩
    simp [execOp, he, hr.evv hi, Instr.index, asIntOf, run_underlying ht.1, ht.2.run, h.1, h.2, part, hs.run, hlt]

/-- From one integer type to another. -/
theorem Q_conv {S T : TypeId} {x : Operand} {k k' ku : IntKind} {n : Int} (hx : st.ev x = .val (.int k n)) (hs : P.underlying S = some (.int ku)) (ht : P.underlying T = some (.int k')) (hw : k'.wrap n = n) :
    QOp P ⟨d, .convert S T x, ty, pos, af, g⟩ st (.val (.int k' n)) :=
  .run fun ρ w a hr => ⟨_, .val _, fun w1 _ => by
    simp only [execOp, Go.convert, Sem.run_bind, run_underlying hs, run_underlying ht, Result.andThen_ok, hr.evv hx, Conv.intToInt, hw, Sem.run_pure]⟩
end
end Go.Proofs.YtbgecpjlopdkfaaDoor

/- Slices of numbers, of pairs of numbers, of truths, of slices of numbers. -/
namespace Go.Proofs.YtbgecpjlopdkfaaDoor
open Go.RowKit

def vi (n : Int) : Value := .int .i64 n
def intc (l : List Int) : List Dat := l.map fun n => .val (.int .i64 n)
def boolc (l : List Bool) : List Dat := l.map fun b => .val (.bool b)
def pairc : List (Int × Int) → List Dat
  | [] => []
  | p :: r => .val (.int .i64 p.1) :: .val (.int .i64 p.2) :: pairc r
def rowc (m : List (List Int)) : List Dat := m.map fun r => .sl 1 (intc r)
def ints (l : List Int) : AV := .ro (.sl 1 (intc l))
def pairs (l : List (Int × Int)) : AV := .ro (.sl 2 (pairc l))
def rows (m : List (List Int)) : AV := .ro (.sl 1 (rowc m))

theorem intc_len (l : List Int) : (intc l).length = l.length * 1 := by simp [intc]
theorem intc_len' (l : List Int) : (intc l).length = l.length := by simp [intc]
theorem rowc_len (l : List (List Int)) : (rowc l).length = l.length * 1 := by simp [rowc]
theorem pairc_len : ∀ (l : List (Int × Int)), (pairc l).length = l.length * 2
  | [] => rfl
  | p :: r => by simp [pairc, pairc_len r]; omega

theorem intc_get {l : List Int} {o : Nat} (h : o < l.length) : (intc l)[o]? = some (.val (.int .i64 (l.getD o 0))) := by simp [intc, h]
theorem rowc_get {l : List (List Int)} {o : Nat} (h : o < l.length) : (rowc l)[o]? = some (.sl 1 (intc (l.getD o []))) := by simp [rowc, h]
theorem pairc_get : ∀ {l : List (Int × Int)} {o : Nat}, o < l.length → (pairc l)[o * 2]? = some (.val (.int .i64 (l.getD o (0, 0)).1)) ∧ (pairc l)[o * 2 + 1]? = some (.val (.int .i64 (l.getD o (0, 0)).2))
  | [], o, h => by simp at h
  | p :: r, 0, _ => ⟨rfl, rfl⟩
  | p :: r, o + 1, h => by
    have ih := pairc_get (l := r) (o := o) (by simpa using h)
    rw [show (o + 1) * 2 = o * 2 + 1 + 1 by omega]
    simpa [pairc] using ih

theorem intc_set (l : List Int) (o : Nat) (v : Int) : (intc l).set o (.val (.int .i64 v)) = intc (l.set o v) := by simp [intc, List.map_set]
theorem intc_app (l : List Int) (r : List Int) : intc l ++ intc r = intc (l ++ r) := by simp [intc]
theorem rowc_app (l : List (List Int)) (r : List (List Int)) : rowc l ++ rowc r = rowc (l ++ r) := by simp [rowc]
theorem pairc_app : ∀ (l r : List (Int × Int)), pairc l ++ pairc r = pairc (l ++ r)
  | [], r => rfl
  | p :: l, r => by simp [pairc, pairc_app l r]
theorem intc_rep (n : Nat) (v : Int) : List.replicate (n * 1) (.val (.int .i64 v)) = intc (List.replicate n v) := by simp [intc]
theorem intc_one (l : List Int) : ∀ dt ∈ intc l, dt.one = true := by
  intro dt h
  obtain ⟨n, _, rfl⟩ := List.mem_map.1 h
  rfl
theorem pairc_one : ∀ (l : List (Int × Int)), ∀ dt ∈ pairc l, dt.one = true
  | [], dt, h => by cases h
  | p :: r, dt, h => by
    simp only [pairc, List.mem_cons] at h
    rcases h with rfl | rfl | h
    · rfl
    · rfl
    · exact pairc_one r dt h
theorem rowc_one (l : List (List Int)) : ∀ dt ∈ rowc l, dt.one = true := by
  intro dt h
  obtain ⟨n, _, rfl⟩ := List.mem_map.1 h
  rfl
theorem flat_ints (e : TypeId) (l : List Int) : FlatO (.row e 1 (intc l)) := .row _ _ _ fun dt h => by
  obtain ⟨n, _, rfl⟩ := List.mem_map.1 h
  exact ⟨_, rfl⟩
section
variable {P : Program} {k : Nat} {cx : Cx k} {ops : Array Oper} {Q : Exit → St → Prop} {st : St} {rest : List Oper} {d : Option Tmp} {ty : TypeId} {pos : String} {af : Array Edge} {g : Option (Nat × Bool)}

/-! An element of a slice that is read: its number is i. -/
theorem Q_ix_ints {x ix : Operand} {T e : TypeId} {l : List Int} {i : Int} {o : Nat} (hx : st.ev x = ints l) (hi : st.ev ix = .val (.int .i64 i)) (ho : i = (o : Int)) (ht : SlT P T e 1) (h : o < l.length) :
    QOp P ⟨d, .indexAddr T x ix, ty, pos, af, g⟩ st (.rpt (intc l) o) := by
  have := Q_index_ro (P := P) (d := d) (ty := ty) (pos := pos) (af := af) (g := g) (x := x) (ix := ix) hx hi ht (intc_len l) (by decide) ⟨by omega, by omega⟩
  rw [show i.toNat * 1 = o by omega] at this
  exact this
theorem Q_ix_rows {x ix : Operand} {T e : TypeId} {l : List (List Int)} {i : Int} {o : Nat} (hx : st.ev x = rows l) (hi : st.ev ix = .val (.int .i64 i)) (ho : i = (o : Int)) (ht : SlT P T e 1) (h : o < l.length) :
    QOp P ⟨d, .indexAddr T x ix, ty, pos, af, g⟩ st (.rpt (rowc l) o) := by
  have := Q_index_ro (P := P) (d := d) (ty := ty) (pos := pos) (af := af) (g := g) (x := x) (ix := ix) hx hi ht (rowc_len l) (by decide) ⟨by omega, by omega⟩
  rw [show i.toNat * 1 = o by omega] at this
  exact this
theorem Q_ix_pairs {x ix : Operand} {T e : TypeId} {l : List (Int × Int)} {i : Int} {o : Nat} (hx : st.ev x = pairs l) (hi : st.ev ix = .val (.int .i64 i)) (ho : i = (o : Int)) (ht : SlT P T e 2) (h : o < l.length) :
    QOp P ⟨d, .indexAddr T x ix, ty, pos, af, g⟩ st (.rpt (pairc l) (o * 2)) := by
  have := Q_index_ro (P := P) (d := d) (ty := ty) (pos := pos) (af := af) (g := g) (x := x) (ix := ix) hx hi ht (pairc_len l) (by decide) ⟨by omega, by omega⟩
  rw [show i.toNat * 2 = o * 2 by omega] at this
  exact this
theorem Q_ix_own {x ix : Operand} {T e e' : TypeId} {l : List Int} {id : Nat} {i : Int} {o : Nat} (hx : st.ev x = .own id) (hob : st.objs[id]? = some (.row e' 1 (intc l))) (hi : st.ev ix = .val (.int .i64 i)) (ho : i = (o : Int)) (ht : SlT P T e 1) (h : o < l.length) :
    QOp P ⟨d, .indexAddr T x ix, ty, pos, af, g⟩ st (.ept id o) := by
  have := Q_index_own (P := P) (d := d) (ty := ty) (pos := pos) (af := af) (g := g) (x := x) (ix := ix) hx hob hi ht (intc_len l) (by decide) ⟨by omega, by omega⟩
  rw [show i.toNat * 1 = o by omega] at this
  exact this
theorem Q_ix_arr {x ix : Operand} {T e : TypeId} {sz n id o : Nat} {i : Int} {j : Nat} (hx : st.ev x = .ptr id o) (hi : st.ev ix = .val (.int .i64 i)) (hj : i = (j : Int)) (ht : ArT P T n e sz) (h : j < n) :
    QOp P ⟨d, .indexAddr T x ix, ty, pos, af, g⟩ st (.ptr id (o + j * sz)) := by
  have := Q_index_arr (P := P) (d := d) (ty := ty) (pos := pos) (af := af) (g := g) (x := x) (ix := ix) hx hi ht ⟨by omega, by omega⟩
  rw [show i.toNat = j by omega] at this
  exact this
/-! What stands there. -/
theorem Q_ld_ints {x : Operand} {T : TypeId} {l : List Int} {o : Nat} (hx : st.ev x = .rpt (intc l) o) (h : o < l.length) (ht : ScT P T) : QOp P ⟨d, .load T x, ty, pos, af, g⟩ st (.val (.int .i64 (l.getD o 0))) :=
  Q_load_rpt hx (intc_get h) ht
theorem Q_ld_rows {x : Operand} {T : TypeId} {l : List (List Int)} {o : Nat} (hx : st.ev x = .rpt (rowc l) o) (h : o < l.length) (ht : ScT P T) : QOp P ⟨d, .load T x, ty, pos, af, g⟩ st (ints (l.getD o [])) :=
  Q_load_rpt hx (rowc_get h) ht
theorem Q_ld_pair {x : Operand} {T : TypeId} {l : List (Int × Int)} {o : Nat} (hx : st.ev x = .rpt (pairc l) (o * 2)) (h : o < l.length) (ht : AgT P T 2) :
    QOp P ⟨d, .load T x, ty, pos, af, g⟩ st (.agg [.val (.int .i64 (l.getD o (0, 0)).1), .val (.int .i64 (l.getD o (0, 0)).2)]) :=
  Q_load_rpt_agg (ds := [.val (.int .i64 (l.getD o (0, 0)).1), .val (.int .i64 (l.getD o (0, 0)).2)]) hx (fun j dt hj => by
    match j, hj with
    | 0, hj => simp only [List.getElem?_cons_zero, Option.some.injEq] at hj; rw [← hj]; exact (pairc_get h).1
    | 1, hj => simp only [List.getElem?_cons_succ, List.getElem?_cons_zero, Option.some.injEq] at hj; rw [← hj]; exact (pairc_get h).2
    | j + 2, hj => simp at hj) rfl ht
theorem Q_ld_own {x : Operand} {T e : TypeId} {l : List Int} {id o : Nat} (hx : st.ev x = .ept id o) (hob : st.objs[id]? = some (.row e 1 (intc l))) (h : o < l.length) (ht : ScT P T) : QOp P ⟨d, .load T x, ty, pos, af, g⟩ st (.val (.int .i64 (l.getD o 0))) :=
  Q_load_ept hx hob (intc_get h) ht
theorem Q_len_ints {x : Operand} {T e : TypeId} {l : List Int} (hx : st.ev x = ints l) (ht : SlT P T e 1) : QOp P ⟨d, .call ⟨.builtin .len, #[x], #[T]⟩, ty, pos, af, g⟩ st (.val (.int .i64 (l.length : Int))) :=
  Q_len_ro rfl hx rfl ht (intc_len l) (by decide)
theorem Q_len_rows {x : Operand} {T e : TypeId} {l : List (List Int)} (hx : st.ev x = rows l) (ht : SlT P T e 1) : QOp P ⟨d, .call ⟨.builtin .len, #[x], #[T]⟩, ty, pos, af, g⟩ st (.val (.int .i64 (l.length : Int))) :=
  Q_len_ro rfl hx rfl ht (rowc_len l) (by decide)
theorem Q_len_pairs {x : Operand} {T e : TypeId} {l : List (Int × Int)} (hx : st.ev x = pairs l) (ht : SlT P T e 2) : QOp P ⟨d, .call ⟨.builtin .len, #[x], #[T]⟩, ty, pos, af, g⟩ st (.val (.int .i64 (l.length : Int))) :=
  Q_len_ro rfl hx rfl ht (pairc_len l) (by decide)
theorem Q_len_own' {x : Operand} {T e e' : TypeId} {l : List Int} {id : Nat} (hx : st.ev x = .own id) (hob : st.objs[id]? = some (.row e' 1 (intc l))) (ht : SlT P T e 1) : QOp P ⟨d, .call ⟨.builtin .len, #[x], #[T]⟩, ty, pos, af, g⟩ st (.val (.int .i64 (l.length : Int))) :=
  Q_len_own rfl hx hob rfl ht (intc_len l) (by decide)
theorem Q_len_nil' {x : Operand} {T e : TypeId} {sz : Nat} (hx : st.ev x = .val (.slice none 0 0)) (ht : SlT P T e sz) : QOp P ⟨d, .call ⟨.builtin .len, #[x], #[T]⟩, ty, pos, af, g⟩ st (.val (.int .i64 0)) :=
  Q_len_nil rfl hx rfl ht
end

section
variable {P : Program} {k : Nat} {cx : Cx k} {ops : Array Oper} {Q : Exit → St → Prop} {st : St} {rest : List Oper} {d : Tmp} {ty : TypeId} {pos : String} {af : Array Edge}

theorem l_st_ints [Zs] {T e : TypeId} {x y : Operand} {id o : Nat} {l : List Int} {v : Int} (hx : st.ev x = .ept id o) (hob : st.objs[id]? = some (.row e 1 (intc l))) (hy : st.ev y = .val (.int .i64 v)) (ht : SzOf P T 1) (h : o < l.length)
    (hk : aL P cx ops Q rest (st.set id (.row e 1 (intc (l.set o v))))) : aL P cx ops Q (⟨none, .store T x y, ty, pos, af, none⟩ :: rest) st :=
  l_store_ept (dt := .val (.int .i64 v)) hx hob (by rw [intc_len']; exact h) hy rfl ht (by rw [intc_set]; exact hk)
/-- append(s, x), s an own row of numbers; the one number lies in an own row of its own. -/
theorem l_ap_ints [Zs] {T e : TypeId} {x y : Operand} {id id2 : Nat} {l r : List Int} {e2 : TypeId} (hx : st.ev x = .own id) (hob : st.objs[id]? = some (.row e 1 (intc l))) (hy : st.ev y = .own id2) (hob2 : st.objs[id2]? = some (.row e2 1 (intc r))) (ht : SlT P T e 1) (hm : MkT P e (.int .i64 0) 1 8)
    (hbig : l.length + r.length ≤ 10000000000) (hd : Nat.blt d st.n = true)
    (hk : aL P cx ops Q rest (((st.set id .gone).add (.row e 1 (intc (l ++ r)))).put d (.own st.objs.length))) : aL P cx ops Q (⟨some d, .call ⟨.builtin .append, #[x, y], #[T, T]⟩, ty, pos, af, none⟩ :: rest) st :=
  l_append (cs := intc l) (cs2 := intc r) rfl rfl hx hob (.inr (.inl ⟨id2, e2, hy, hob2⟩)) ht hm rfl (intc_len l) (intc_len r) (by decide) (intc_one r) (by decide) (by omega) hd (by rw [intc_app]; exact hk)

/-- []int{x, y, ..}. -/
def Ints (st : St) : List Operand → List Int → Prop
  | [], [] => True
  | x :: r, n :: l => st.ev x = .val (.int .i64 n) ∧ Ints st r l
  | _, _ => False
theorem ints_part : ∀ {xs : List Operand} {l : List Int}, Ints st xs l → PartD st 1 xs (intc l)
  | [], [], _ => rfl
  | x :: r, n :: l, h => ⟨[.val (.int .i64 n)], intc l, by rw [h.1]; rfl, rfl, rfl, ints_part h.2, rfl⟩
theorem l_lit_ints [Zs] {T e : TypeId} {n : Nat} {parts : Array (Nat × Operand)} {xs : List Operand} {l : List Int} (hp : parts = (enumP 0 xs).toArray) (hn : xs.length = n) (ht : SlT P T e 1) (hm : MkT P e (.int .i64 0) 1 8) (hbig : Nat.ble (n * 1) 16777216 = true)
    (hl : Ints st xs l) (hd : Nat.blt d st.n = true) (hk : aL P cx ops Q rest ((st.add (.row e 1 (intc l))).put d (.own st.objs.length))) : aL P cx ops Q (⟨some d, .buildSlice T n parts, ty, pos, af, none⟩ :: rest) st :=
  l_lit hp hn ht hm (by decide) hbig (ints_part hl) hd hk
end
end Go.Proofs.YtbgecpjlopdkfaaDoor

/- Facts on types, found by their numbers; the laws once more, over states that are written out. -/
namespace Go.Proofs.YtbgecpjlopdkfaaDoor
open Go.RowKit
class KSz (P : Program) (T : TypeId) (n : outParam Nat) : Prop where h : SzOf P T n
class KSc (P : Program) (T : TypeId) : Prop where h : ScT P T
class KAg (P : Program) (T : TypeId) (n : outParam Nat) : Prop where h : AgT P T n
class KSl (P : Program) (T : TypeId) (e : outParam TypeId) (sz : outParam Nat) : Prop where h : SlT P T e sz
class KAr (P : Program) (T : TypeId) (n : outParam Nat) (e : outParam TypeId) (sz : outParam Nat) : Prop where h : ArT P T n e sz
class KFl (P : Program) (T : TypeId) (f : Nat) (off : outParam Nat) : Prop where h : FlT P T f off
class KMk (P : Program) (e : TypeId) (z : outParam Value) (sz : outParam Nat) (by' : outParam Nat) : Prop where h : MkT P e z sz by'
class KBd (P : Program) (T : TypeId) (zs : outParam (List Value)) (place : outParam (Nat → Option (Nat × Nat))) : Prop where h : BdT P T zs place

section
variable {P : Program} {k : Nat} {cx : Cx k} {ops : Array Oper} {Q : Exit → St → Prop} {rest : List Oper} {ty : TypeId} {pos : String} {af : Array Edge} {n : Nat} {vars : List (Nat × AV)} {objs objs' : List AO} {K : St → Prop} {d m : Nat}

theorem w_q [Zs] {op : Op} {av : AV} (hq : QOp P ⟨some d, op, ty, pos, af, none⟩ ⟨n, vars, objs⟩ av) (hd : Nat.blt d n = true) (h : aL P cx ops Q rest ⟨n, (d, av) :: vars, objs⟩) : aL P cx ops Q (⟨some d, op, ty, pos, af, none⟩ :: rest) ⟨n, vars, objs⟩ := l_q hq hd h
theorem w_qq [Zs] {op : Op} {av : AV} (hq : QOp P ⟨some d, op, ty, pos, af, none⟩ ⟨n, vars, objs⟩ av) (hd : Nat.blt d n = true) (h : qL P ops K rest ⟨n, (d, av) :: vars, objs⟩) : qL P ops K (⟨some d, op, ty, pos, af, none⟩ :: rest) ⟨n, vars, objs⟩ := q_q hq hd h

theorem w_guard [Zs] {op : Op} {j : Nat} {want : Bool} {dj : Nat} {b : Bool} (hj : (ops[j]?).bind (·.dst) = some dj) (hv : (⟨n, vars, objs⟩ : St).get dj = .val (.bool b)) (hd : Nat.blt d n = true)
    (yes : b = want → aL P cx ops Q (⟨some d, op, ty, pos, af, none⟩ :: rest) ⟨n, vars, objs⟩) (no : b = !want → aL P cx ops Q rest ⟨n, (d, .val undef) :: vars, objs⟩) : aL P cx ops Q (⟨some d, op, ty, pos, af, some (j, want)⟩ :: rest) ⟨n, vars, objs⟩ := l_guard hj hv hd yes no
theorem w_qguard [Zs] {op : Op} {j : Nat} {want : Bool} {dj : Nat} {b : Bool} (hj : (ops[j]?).bind (·.dst) = some dj) (hv : (⟨n, vars, objs⟩ : St).get dj = .val (.bool b)) (hd : Nat.blt d n = true)
    (yes : b = want → qL P ops K (⟨some d, op, ty, pos, af, none⟩ :: rest) ⟨n, vars, objs⟩) (no : b = !want → qL P ops K rest ⟨n, (d, .val undef) :: vars, objs⟩) : qL P ops K (⟨some d, op, ty, pos, af, some (j, want)⟩ :: rest) ⟨n, vars, objs⟩ := q_guard hj hv hd yes no
/-- What the guard looks at was not carried out. -/
theorem w_guard_u [Zs] {op : Op} {j : Nat} {want : Bool} {dj : Nat} (hj : (ops[j]?).bind (·.dst) = some dj) (hv : (⟨n, vars, objs⟩ : St).get dj = .val undef) (hd : Nat.blt d n = true)
    (no : aL P cx ops Q rest ⟨n, (d, .val undef) :: vars, objs⟩) : aL P cx ops Q (⟨some d, op, ty, pos, af, some (j, want)⟩ :: rest) ⟨n, vars, objs⟩ := l_guard_u hj hv hd no
/-- The guard is known. -/
theorem w_guard_y [Zs] {op : Op} {j : Nat} {want : Bool} {dj : Nat} {b : Bool} (hj : (ops[j]?).bind (·.dst) = some dj) (hv : (⟨n, vars, objs⟩ : St).get dj = .val (.bool b)) (hd : Nat.blt d n = true) (hb : b = want)
    (yes : aL P cx ops Q (⟨some d, op, ty, pos, af, none⟩ :: rest) ⟨n, vars, objs⟩) : aL P cx ops Q (⟨some d, op, ty, pos, af, some (j, want)⟩ :: rest) ⟨n, vars, objs⟩ := l_guard hj hv hd (fun _ => yes) (fun h => by rw [hb] at h; cases want <;> cases h)
theorem w_guard_n [Zs] {op : Op} {j : Nat} {want : Bool} {dj : Nat} {b : Bool} (hj : (ops[j]?).bind (·.dst) = some dj) (hv : (⟨n, vars, objs⟩ : St).get dj = .val (.bool b)) (hd : Nat.blt d n = true) (hb : b = !want)
    (no : aL P cx ops Q rest ⟨n, (d, .val undef) :: vars, objs⟩) : aL P cx ops Q (⟨some d, op, ty, pos, af, some (j, want)⟩ :: rest) ⟨n, vars, objs⟩ := l_guard hj hv hd (fun h => by rw [hb] at h; cases want <;> cases h) (fun _ => no)
theorem w_qguard_y [Zs] {op : Op} {j : Nat} {want : Bool} {dj : Nat} {b : Bool} (hj : (ops[j]?).bind (·.dst) = some dj) (hv : (⟨n, vars, objs⟩ : St).get dj = .val (.bool b)) (hd : Nat.blt d n = true) (hb : b = want)
    (yes : qL P ops K (⟨some d, op, ty, pos, af, none⟩ :: rest) ⟨n, vars, objs⟩) : qL P ops K (⟨some d, op, ty, pos, af, some (j, want)⟩ :: rest) ⟨n, vars, objs⟩ := q_guard hj hv hd (fun _ => yes) (fun h => by rw [hb] at h; cases want <;> cases h)
theorem w_qguard_n [Zs] {op : Op} {j : Nat} {want : Bool} {dj : Nat} {b : Bool} (hj : (ops[j]?).bind (·.dst) = some dj) (hv : (⟨n, vars, objs⟩ : St).get dj = .val (.bool b)) (hd : Nat.blt d n = true) (hb : b = !want)
    (no : qL P ops K rest ⟨n, (d, .val undef) :: vars, objs⟩) : qL P ops K (⟨some d, op, ty, pos, af, some (j, want)⟩ :: rest) ⟨n, vars, objs⟩ := q_guard hj hv hd (fun h => by rw [hb] at h; cases want <;> cases h) (fun _ => no)

theorem w_box [Zs] {T : TypeId} {x : Operand} {l : List AV} (hx : (⟨n, vars, objs⟩ : St).ev x = .agg l) (h1 : l.all AV.one = true) (ho : objs ++ [.box l] = objs') (hm : objs.length = m) (hd : Nat.blt d n = true)
    (hk : aL P cx ops Q rest ⟨n, (d, .ptr m 0) :: vars, objs'⟩) : aL P cx ops Q (⟨some d, .box T x, ty, pos, af, none⟩ :: rest) ⟨n, vars, objs⟩ := by subst ho; subst hm; exact l_box hx rfl h1 hd hk
theorem w_box1 [Zs] {T : TypeId} {x : Operand} {av : AV} (hx : (⟨n, vars, objs⟩ : St).ev x = av) (hc : av.cells = [av]) (h1 : av.one = true) (ho : objs ++ [.box [av]] = objs') (hm : objs.length = m) (hd : Nat.blt d n = true)
    (hk : aL P cx ops Q rest ⟨n, (d, .ptr m 0) :: vars, objs'⟩) : aL P cx ops Q (⟨some d, .box T x, ty, pos, af, none⟩ :: rest) ⟨n, vars, objs⟩ := by subst ho; subst hm; exact l_box hx hc (by simp [h1]) hd hk
theorem w_alloc [Zs] {T : TypeId} {z : Value} {sz by' : Nat} {l : List AV} (ht : MkT P T z sz by') (hl : (AV.val z).cells = l) (h1 : l.all AV.one = true) (ho : objs ++ [.box l] = objs') (hm : objs.length = m) (hd : Nat.blt d n = true)
    (hk : aL P cx ops Q rest ⟨n, (d, .ptr m 0) :: vars, objs'⟩) : aL P cx ops Q (⟨some d, .alloc T, ty, pos, af, none⟩ :: rest) ⟨n, vars, objs⟩ := by subst ho; subst hm; exact l_alloc ht hl h1 hd hk
theorem w_store [Zs] {T : TypeId} {x y : Operand} {id o : Nat} {cells cells' : List AV} {av : AV} (hx : (⟨n, vars, objs⟩ : St).ev x = .ptr id o) (hob : objs[id]? = some (.box cells)) (hlt : Nat.blt o cells.length = true) (hy : (⟨n, vars, objs⟩ : St).ev y = av) (h1 : av.one = true)
    (ht : SzOf P T 1) (hc : cells.set o av = cells') (ho : objs.set id (.box cells') = objs') (hk : aL P cx ops Q rest ⟨n, vars, objs'⟩) : aL P cx ops Q (⟨none, .store T x y, ty, pos, af, none⟩ :: rest) ⟨n, vars, objs⟩ := by subst hc; subst ho; exact l_store_ptr hx hob hlt hy h1 ht hk
/-- A store of a whole struct over all of a box. -/
theorem w_store_all [Zs] {T : TypeId} {x y : Operand} {id : Nat} {cells l : List AV} (hx : (⟨n, vars, objs⟩ : St).ev x = .ptr id 0) (hob : objs[id]? = some (.box cells)) (hy : (⟨n, vars, objs⟩ : St).ev y = .agg l) (hl : l.length = cells.length) (h1 : l.all AV.one = true)
    (ht : SzOf P T cells.length) (ho : objs.set id (.box l) = objs') (hk : aL P cx ops Q rest ⟨n, vars, objs'⟩) : aL P cx ops Q (⟨none, .store T x y, ty, pos, af, none⟩ :: rest) ⟨n, vars, objs⟩ := by
  subst ho
  refine l_store_agg (l := l) hx hob (Nat.ble_eq_true_of_le (by omega)) (by rw [hy]; rfl) hl h1 ht ?_
  simpa [St.set] using hk
theorem w_st_ints [Zs] {T e : TypeId} {x y : Operand} {id o : Nat} {l : List Int} {v : Int} (hx : (⟨n, vars, objs⟩ : St).ev x = .ept id o) (hob : objs[id]? = some (.row e 1 (intc l))) (hy : (⟨n, vars, objs⟩ : St).ev y = .val (.int .i64 v)) (ht : SzOf P T 1) (h : o < l.length)
    (ho : objs.set id (.row e 1 (intc (l.set o v))) = objs') (hk : aL P cx ops Q rest ⟨n, vars, objs'⟩) : aL P cx ops Q (⟨none, .store T x y, ty, pos, af, none⟩ :: rest) ⟨n, vars, objs⟩ := by subst ho; exact l_st_ints hx hob hy ht h hk
theorem w_ap_ints [Zs] {T e : TypeId} {x y : Operand} {id id2 : Nat} {l r : List Int} {e2 : TypeId} (hx : (⟨n, vars, objs⟩ : St).ev x = .own id) (hob : objs[id]? = some (.row e 1 (intc l))) (hy : (⟨n, vars, objs⟩ : St).ev y = .own id2) (hob2 : objs[id2]? = some (.row e2 1 (intc r)))
    (ht : SlT P T e 1) (hmk : MkT P e (.int .i64 0) 1 8) (hbig : l.length + r.length ≤ 10000000000) (ho : objs.set id .gone ++ [.row e 1 (intc (l ++ r))] = objs') (hm : objs.length = m) (hd : Nat.blt d n = true)
    (hk : aL P cx ops Q rest ⟨n, (d, .own m) :: vars, objs'⟩) : aL P cx ops Q (⟨some d, .call ⟨.builtin .append, #[x, y], #[T, T]⟩, ty, pos, af, none⟩ :: rest) ⟨n, vars, objs⟩ := by
  subst ho; subst hm; exact l_ap_ints hx hob hy hob2 ht hmk hbig hd hk
theorem w_lit_ints [Zs] {T e : TypeId} {len : Nat} {parts : Array (Nat × Operand)} {xs : List Operand} {l : List Int} (hp : parts = (enumP 0 xs).toArray) (hn : xs.length = len) (ht : SlT P T e 1) (hmk : MkT P e (.int .i64 0) 1 8) (hbig : Nat.ble (len * 1) 16777216 = true)
    (hl : Ints ⟨n, vars, objs⟩ xs l) (ho : objs ++ [.row e 1 (intc l)] = objs') (hm : objs.length = m) (hd : Nat.blt d n = true) (hk : aL P cx ops Q rest ⟨n, (d, .own m) :: vars, objs'⟩) :
    aL P cx ops Q (⟨some d, .buildSlice T len parts, ty, pos, af, none⟩ :: rest) ⟨n, vars, objs⟩ := by subst ho; subst hm; exact l_lit_ints hp hn ht hmk hbig hl hd hk
/-- The whole of a box. -/
theorem Q_load_all {dd : Option Tmp} {g : Option (Nat × Bool)} {x : Operand} {T : TypeId} {id : Nat} {cells : List AV} (hx : (⟨n, vars, objs⟩ : St).ev x = .ptr id 0) (ho : objs[id]? = some (.box cells)) (ht : AgT P T cells.length) :
    QOp P ⟨dd, .load T x, ty, pos, af, g⟩ ⟨n, vars, objs⟩ (.agg cells) := Q_load_ptr_agg (cells := cells) hx ho (by simp) rfl ht
theorem w_nilownC [Zs] {c : Code} (t : Nat) (e : TypeId) (sz : Nat) (h : (⟨n, vars, objs⟩ : St).get t = .val (.slice none 0 0)) (ho : objs ++ [.row e sz []] = objs') (hm : objs.length = m) (hk : aC P cx c Q ⟨n, (t, .own m) :: vars, objs'⟩) : aC P cx c Q ⟨n, vars, objs⟩ := by
  subst ho; subst hm; exact a_nilown t e sz h hk
theorem w_call [Zs] {g : Operand} {xs : Array Operand} {ats : Array TypeId} {f : FuncId} {caps args : List AV} {res res' : AV} {news : List AO} (hf : Callee' ⟨n, vars, objs⟩ g f caps) (hc : AC P f args [] res news) (hv : VwL objs [] (evs ⟨n, vars, objs⟩ xs ++ caps) args)
    (hfl : Flat res) (hfo : ∀ o ∈ news, FlatO o) (ho : objs ++ news.map (AO.sh objs.length) = objs') (hr : res.sh objs.length = res') (hd : Nat.blt d n = true) (hk : aL P cx ops Q rest ⟨n, (d, res') :: vars, objs'⟩) :
    aL P cx ops Q (⟨some d, .call ⟨.value g, xs, ats⟩, ty, pos, af, none⟩ :: rest) ⟨n, vars, objs⟩ := by subst ho; subst hr; exact l_call hf hc hv hfl hfo hd hk
end
end Go.Proofs.YtbgecpjlopdkfaaDoor

/- Numbers from nought on, as sets and as counts. -/
namespace Go.Proofs.YtbgecpjlopdkfaaDoor
open Go.RowKit

/-- A list of numbers from nought on. -/
def nl (l : List Nat) : List Int := l.map fun (n : Nat) => (n : Int)
theorem nat_in {q : Nat} (h : q ≤ 9223372036854775807) : -9223372036854775808 ≤ (q : Int) ∧ (q : Int) ≤ 9223372036854775807 := by omega
theorem nl_len (l : List Nat) : (nl l).length = l.length := by simp [nl]
theorem nl_get (l : List Nat) (k : Nat) : (nl l).getD k 0 = ((l.getD k 0 : Nat) : Int) := by
  simp only [nl, List.getD_eq_getElem?_getD, List.getElem?_map]
  cases l[k]? <;> simp
theorem nl_set (l : List Nat) (k v : Nat) : (nl l).set k (v : Int) = nl (l.set k v) := by simp [nl, List.map_set]
theorem nl_app (l r : List Nat) : nl l ++ nl r = nl (l ++ r) := by simp [nl]
theorem nl_rep (n v : Nat) : List.replicate n (v : Int) = nl (List.replicate n v) := by simp [nl]
theorem nl_of {l : List Int} (h : ∀ x ∈ l, 0 ≤ x) : l = nl (l.map Int.toNat) := by
  apply List.ext_getElem
  · simp [nl]
  · intro i h1 h2
    simp only [nl, List.getElem_map]
    have := h l[i] (List.getElem_mem _)
    omega
section
variable {P : Program} {st : St} {d : Option Tmp} {ty : TypeId} {pos : String} {af : Array Edge} {g : Option (Nat × Bool)} {T T' : TypeId} {x y : Operand} {m n : Nat}

theorem Q_ld_nats {l : List Nat} {o : Nat} (hx : st.ev x = .rpt (intc (nl l)) o) (h : o < l.length) (ht : ScT P T) : QOp P ⟨d, .load T x, ty, pos, af, g⟩ st (.val (.int .i64 ((l.getD o 0 : Nat) : Int))) := by
  rw [← nl_get]
  exact Q_ld_ints hx (by rw [nl_len]; exact h) ht
theorem Q_ix_nats {ix : Operand} {e : TypeId} {l : List Nat} {i : Int} {o : Nat} (hx : st.ev x = ints (nl l)) (hi : st.ev ix = .val (.int .i64 i)) (ho : i = (o : Int)) (ht : SlT P T e 1) (h : o < l.length) :
    QOp P ⟨d, .indexAddr T x ix, ty, pos, af, g⟩ st (.rpt (intc (nl l)) o) := Q_ix_ints hx hi ho ht (by rw [nl_len]; exact h)
theorem Q_len_nats {e : TypeId} {l : List Nat} (hx : st.ev x = ints (nl l)) (ht : SlT P T e 1) : QOp P ⟨d, .call ⟨.builtin .len, #[x], #[T]⟩, ty, pos, af, g⟩ st (.val (.int .i64 (l.length : Int))) := by
  rw [← nl_len]; exact Q_len_ints hx ht
theorem Q_ld_ownN {e : TypeId} {l : List Nat} {id o : Nat} (hx : st.ev x = .ept id o) (hob : st.objs[id]? = some (.row e 1 (intc (nl l)))) (h : o < l.length) (ht : ScT P T) : QOp P ⟨d, .load T x, ty, pos, af, g⟩ st (.val (.int .i64 ((l.getD o 0 : Nat) : Int))) := by
  rw [← nl_get]
  exact Q_ld_own hx hob (by rw [nl_len]; exact h) ht
theorem Q_ix_ownN {ix : Operand} {e e' : TypeId} {l : List Nat} {id : Nat} {i : Int} {o : Nat} (hx : st.ev x = .own id) (hob : st.objs[id]? = some (.row e' 1 (intc (nl l)))) (hi : st.ev ix = .val (.int .i64 i)) (ho : i = (o : Int)) (ht : SlT P T e 1) (h : o < l.length) :
    QOp P ⟨d, .indexAddr T x ix, ty, pos, af, g⟩ st (.ept id o) := Q_ix_own hx hob hi ho ht (by rw [nl_len]; exact h)
theorem Q_shrN (hx : st.ev x = .val (.int .i64 (m : Int))) (hy : st.ev y = .val (.int .i64 (n : Int))) (h : n < 64) : QOp P ⟨d, .binOp .shr T x y T', ty, pos, af, g⟩ st (.val (.int .i64 ((m / 2 ^ n : Nat) : Int))) := by
  have := Q_shr (P := P) (d := d) (ty := ty) (pos := pos) (af := af) (g := g) (T := T) (T' := T') hx hy ⟨by omega, by omega⟩
  rw [show ((m / 2 ^ n : Nat) : Int) = (m : Int) / 2 ^ (n : Int).toNat by simp]
  exact this
theorem Q_and1 (hx : st.ev x = .val (.int .i64 (m : Int))) (hy : st.ev y = .val (.int .i64 1)) : QOp P ⟨d, .binOp .and T x y T', ty, pos, af, g⟩ st (.val (.int .i64 ((m % 2 : Nat) : Int))) := Q_bin hx hy fun w => by
  have e : (BitVec.ofInt 64 (m : Int) &&& BitVec.ofInt 64 1).toNat = m % 2 := by
    have h1 : (BitVec.ofInt 64 (m : Int)) = BitVec.ofNat 64 m := by simp
    have h2 : (BitVec.ofInt 64 1).toNat = 1 := by decide
    rw [h1, BitVec.toNat_and, h2, BitVec.toNat_ofNat, Nat.and_one_is_mod]
    omega
  have hw : IntKind.i64.wrap ((m % 2 : Nat) : Int) = ((m % 2 : Nat) : Int) := IntWalk.i64_in _ (by omega)
  show Result.ok (Value.int .i64 (IntKind.i64.wrap ((BitVec.ofInt 64 (m : Int) &&& BitVec.ofInt 64 1).toNat : Int))) w = _
  rw [e, hw]
theorem Q_andN (hx : st.ev x = .val (.int .i64 (m : Int))) (hy : st.ev y = .val (.int .i64 (n : Int))) (h1 : m ≤ 9223372036854775807) (h2 : n ≤ 9223372036854775807) : QOp P ⟨d, .binOp .and T x y T', ty, pos, af, g⟩ st (.val (.int .i64 ((m &&& n : Nat) : Int))) := by
  have := Q_and (P := P) (d := d) (ty := ty) (pos := pos) (af := af) (g := g) (T := T) (T' := T') hx hy ⟨by omega, by omega⟩ ⟨by omega, by omega⟩
  simpa using this
theorem Q_orN (hx : st.ev x = .val (.int .i64 (m : Int))) (hy : st.ev y = .val (.int .i64 (n : Int))) (h1 : m ≤ 9223372036854775807) (h2 : n ≤ 9223372036854775807) : QOp P ⟨d, .binOp .or T x y T', ty, pos, af, g⟩ st (.val (.int .i64 ((m ||| n : Nat) : Int))) := by
  have := Q_or (P := P) (d := d) (ty := ty) (pos := pos) (af := af) (g := g) (T := T) (T' := T') hx hy ⟨by omega, by omega⟩ ⟨by omega, by omega⟩
  simpa using this
theorem Q_andNotN (hx : st.ev x = .val (.int .i64 (m : Int))) (hy : st.ev y = .val (.int .i64 (n : Int))) (h1 : m ≤ 9223372036854775807) (h2 : n ≤ 9223372036854775807) : QOp P ⟨d, .binOp .andNot T x y T', ty, pos, af, g⟩ st (.val (.int .i64 ((ndiff m n : Nat) : Int))) := by
  have := Q_andNot (P := P) (d := d) (ty := ty) (pos := pos) (af := af) (g := g) (T := T) (T' := T') hx hy ⟨by omega, by omega⟩ ⟨by omega, by omega⟩
  simpa using this
/-- 1 << n. -/
theorem Q_bit (hx : st.ev x = .val (.int .i64 1)) (hy : st.ev y = .val (.int .i64 (n : Int))) (h : n < 62) : QOp P ⟨d, .binOp .shl T x y T', ty, pos, af, g⟩ st (.val (.int .i64 ((2 ^ n : Nat) : Int))) := by
  have hlt : 2 ^ n ≤ 9223372036854775807 := by
    have h1 : 2 ^ n < 2 ^ 62 := Nat.pow_lt_pow_right (by decide) h
    omega
  have e : (1 : Int) * 2 ^ (n : Int).toNat = ((2 ^ n : Nat) : Int) := by simp
  have := Q_shl (P := P) (d := d) (ty := ty) (pos := pos) (af := af) (g := g) (T := T) (T' := T') hx hy ⟨by omega, by omega⟩ (by rw [e]; exact nat_in hlt)
  rw [e] at this
  exact this
theorem Q_quo2 (hx : st.ev x = .val (.int .i64 (m : Int))) (hy : st.ev y = .val (.int .i64 2)) (h : m ≤ 9223372036854775807) : QOp P ⟨d, .binOp .quo T x y T', ty, pos, af, g⟩ st (.val (.int .i64 ((m / 2 : Nat) : Int))) :=
  Q_quo hx hy ⟨by omega, by omega, by omega⟩
theorem Q_rem2 (hx : st.ev x = .val (.int .i64 (m : Int))) (hy : st.ev y = .val (.int .i64 2)) : QOp P ⟨d, .binOp .rem T x y T', ty, pos, af, g⟩ st (.val (.int .i64 ((m % 2 : Nat) : Int))) :=
  Q_rem hx hy ⟨by omega, by omega⟩
end

section
variable {P : Program} {k : Nat} {cx : Cx k} {ops : Array Oper} {Q : Exit → St → Prop} {rest : List Oper} {ty : TypeId} {pos : String} {af : Array Edge} {n : Nat} {vars : List (Nat × AV)} {objs objs' : List AO} {K : St → Prop} {d m : Nat}
theorem w_st_nats [Zs] {T e : TypeId} {x y : Operand} {id o : Nat} {l : List Nat} {v : Nat} (hx : (⟨n, vars, objs⟩ : St).ev x = .ept id o) (hob : objs[id]? = some (.row e 1 (intc (nl l)))) (hy : (⟨n, vars, objs⟩ : St).ev y = .val (.int .i64 (v : Int))) (ht : SzOf P T 1) (h : o < l.length)
    (ho : objs.set id (.row e 1 (intc (nl (l.set o v)))) = objs') (hk : aL P cx ops Q rest ⟨n, vars, objs'⟩) : aL P cx ops Q (⟨none, .store T x y, ty, pos, af, none⟩ :: rest) ⟨n, vars, objs⟩ :=
  w_st_ints hx hob hy ht (by rw [nl_len]; exact h) (by rw [nl_set]; exact ho) hk
theorem w_ap_nats [Zs] {T e : TypeId} {x y : Operand} {id id2 : Nat} {l r : List Nat} {e2 : TypeId} (hx : (⟨n, vars, objs⟩ : St).ev x = .own id) (hob : objs[id]? = some (.row e 1 (intc (nl l)))) (hy : (⟨n, vars, objs⟩ : St).ev y = .own id2) (hob2 : objs[id2]? = some (.row e2 1 (intc (nl r))))
    (ht : SlT P T e 1) (hmk : MkT P e (.int .i64 0) 1 8) (hbig : l.length + r.length ≤ 10000000000) (ho : objs.set id .gone ++ [.row e 1 (intc (nl (l ++ r)))] = objs') (hm : objs.length = m) (hd : Nat.blt d n = true)
    (hk : aL P cx ops Q rest ⟨n, (d, .own m) :: vars, objs'⟩) : aL P cx ops Q (⟨some d, .call ⟨.builtin .append, #[x, y], #[T, T]⟩, ty, pos, af, none⟩ :: rest) ⟨n, vars, objs⟩ :=
  w_ap_ints hx hob hy hob2 ht hmk (by rw [nl_len, nl_len]; exact hbig) (by rw [nl_app]; exact ho) hm hd hk
def Nats (st : St) : List Operand → List Nat → Prop
  | [], [] => True
  | x :: r, n :: l => st.ev x = .val (.int .i64 (n : Int)) ∧ Nats st r l
  | _, _ => False
end

/-- Of what is known, the slots that are named. -/
def keepv : List Nat → List (Nat × AV) → List (Nat × AV)
  | [], _ => []
  | t :: r, vs => (t, getv vs t) :: keepv r vs

section
variable {P : Program} {k : Nat} {cx : Cx k} {Q : Exit → St → Prop} {n : Nat} {vars : List (Nat × AV)} {objs : List AO}
/-- A loop: what the slots of keep hold stays; the others that live are told by mv, the objects by ob. -/
theorem w_loop [Zs] {c : Code} {X : Type} (keep : List Nat) {vars0 : List (Nat × AV)} (hv : keepv keep vars = vars0) (mv : X → List (Nat × AV)) (ob : X → List AO) (I : X → Prop) (μ : X → Nat) (x0 : X) (σ0 : List Nat) (h0 : I x0)
    (hle : St.le ⟨n, vars, objs⟩ ⟨n, mv x0 ++ vars0, ob x0⟩ σ0) (hσ : fixB k σ0 = true)
    (round : ∀ x, I x → aC P cx c (thenA (Hand (k := k) X (fun x => ⟨n, mv x ++ vars0, ob x⟩) I μ (μ x)) Q) ⟨n, mv x ++ vars0, ob x⟩) : aC P cx (.loop c) Q ⟨n, vars, objs⟩ :=
  have _ := hv
  a_loop (fun x => ⟨n, mv x ++ vars0, ob x⟩) I μ x0 σ0 h0 hle hσ round
theorem w_cut [Zs] {x y : Code} {X : Type} (keep : List Nat) {vars0 : List (Nat × AV)} (hv : keepv keep vars = vars0) (mv : X → List (Nat × AV)) (ob : X → List AO) (I : X → Prop)
    (h1 : aC P cx x (thenA (fun st => ∃ z σ, I z ∧ st.le ⟨n, mv z ++ vars0, ob z⟩ σ ∧ fixB k σ = true) Q) ⟨n, vars, objs⟩) (h2 : ∀ z, I z → aC P cx y Q ⟨n, mv z ++ vars0, ob z⟩) : aC P cx (.seq x y) Q ⟨n, vars, objs⟩ :=
  have _ := hv
  a_cut (fun z => ⟨n, mv z ++ vars0, ob z⟩) I h1 h2
end

theorem resV_tmp {P : Program} {st : St} {t : Nat} {av : AV} (h : st.get t = av) : ResV P st (.tmp t) av := h
theorem resV_cell {P : Program} {st : St} {t T : Nat} {id : Nat} {cells : List AV} (h : st.get t = .ptr id 0) (ho : st.objs[id]? = some (.box cells)) (ht : AgT P T cells.length) : ResV P st (.cell t T) (.agg cells) := ⟨id, cells, h, ho, .inl ⟨ht, rfl⟩⟩
theorem Vw.int' {objs : List AO} {σ : List Nat} {v v' : Int} (h : v = v') : Vw objs σ (.val (.int .i64 v)) (.val (.int .i64 v')) := h ▸ .val _
theorem Vw.bool' {objs : List AO} {σ : List Nat} {v v' : Bool} (h : v = v') : Vw objs σ (.val (.bool v)) (.val (.bool v')) := h ▸ .val _
end Go.Proofs.YtbgecpjlopdkfaaDoor

/- Slices of orders (a number and a slice of numbers, one behind the other); literals of one part; slices of pairs that grow. -/
namespace Go.Proofs.YtbgecpjlopdkfaaDoor
open Go.RowKit

def ordc : List (Int × List Int) → List Dat
  | [] => []
  | p :: r => .val (.int .i64 p.1) :: .sl 1 (intc p.2) :: ordc r
def ords (l : List (Int × List Int)) : AV := .ro (.sl 2 (ordc l))
theorem ordc_len : ∀ (l : List (Int × List Int)), (ordc l).length = l.length * 2
  | [] => rfl
  | p :: r => by simp [ordc, ordc_len r]; omega
theorem ordc_get : ∀ {l : List (Int × List Int)} {o : Nat}, o < l.length → (ordc l)[o * 2]? = some (.val (.int .i64 (l.getD o (0, [])).1)) ∧ (ordc l)[o * 2 + 1]? = some (.sl 1 (intc (l.getD o (0, [])).2))
  | [], o, h => by simp at h
  | p :: r, 0, _ => ⟨rfl, rfl⟩
  | p :: r, o + 1, h => by
    have ih := ordc_get (l := r) (o := o) (by simpa using h)
    rw [show (o + 1) * 2 = o * 2 + 1 + 1 by omega]
    simpa [ordc] using ih

section
variable {P : Program} {k : Nat} {cx : Cx k} {ops : Array Oper} {Q : Exit → St → Prop} {st : St} {rest : List Oper} {d : Option Tmp} {ty : TypeId} {pos : String} {af : Array Edge} {g : Option (Nat × Bool)}
theorem Q_ix_ords {x ix : Operand} {T e : TypeId} {l : List (Int × List Int)} {i : Int} {o : Nat} (hx : st.ev x = ords l) (hi : st.ev ix = .val (.int .i64 i)) (ho : i = (o : Int)) (ht : SlT P T e 2) (h : o < l.length) :
    QOp P ⟨d, .indexAddr T x ix, ty, pos, af, g⟩ st (.rpt (ordc l) (o * 2)) := by
  have := Q_index_ro (P := P) (d := d) (ty := ty) (pos := pos) (af := af) (g := g) (x := x) (ix := ix) hx hi ht (ordc_len l) (by decide) ⟨by omega, by omega⟩
  rw [show i.toNat * 2 = o * 2 by omega] at this
  exact this
theorem Q_ld_ord {x : Operand} {T : TypeId} {l : List (Int × List Int)} {o : Nat} (hx : st.ev x = .rpt (ordc l) (o * 2)) (h : o < l.length) (ht : AgT P T 2) :
    QOp P ⟨d, .load T x, ty, pos, af, g⟩ st (.agg [.val (.int .i64 (l.getD o (0, [])).1), ints (l.getD o (0, [])).2]) :=
  Q_load_rpt_agg (ds := [.val (.int .i64 (l.getD o (0, [])).1), .sl 1 (intc (l.getD o (0, [])).2)]) hx (fun j dt hj => by
    match j, hj with
    | 0, hj => simp only [List.getElem?_cons_zero, Option.some.injEq] at hj; rw [← hj]; exact (ordc_get h).1
    | 1, hj => simp only [List.getElem?_cons_succ, List.getElem?_cons_zero, Option.some.injEq] at hj; rw [← hj]; exact (ordc_get h).2
    | j + 2, hj => simp at hj) rfl ht
theorem Q_len_ords {x : Operand} {T e : TypeId} {l : List (Int × List Int)} (hx : st.ev x = ords l) (ht : SlT P T e 2) : QOp P ⟨d, .call ⟨.builtin .len, #[x], #[T]⟩, ty, pos, af, g⟩ st (.val (.int .i64 (l.length : Int))) :=
  Q_len_ro rfl hx rfl ht (ordc_len l) (by decide)
end

section
variable {P : Program} {k : Nat} {cx : Cx k} {ops : Array Oper} {Q : Exit → St → Prop} {rest : List Oper} {ty : TypeId} {pos : String} {af : Array Edge} {n : Nat} {vars : List (Nat × AV)} {objs objs' : List AO} {d m : Nat}
theorem w_lit_ord [Zs] {T e : TypeId} {by' : Nat} {z : Value} {x : Operand} {N : Int} {l : List Int} (hx : (⟨n, vars, objs⟩ : St).ev x = .agg [.val (.int .i64 N), ints l]) (ht : SlT P T e 2) (hmk : MkT P e z 2 by')
    (ho : objs ++ [.row e 2 (ordc [(N, l)])] = objs') (hm : objs.length = m) (hd : Nat.blt d n = true) (hk : aL P cx ops Q rest ⟨n, (d, .own m) :: vars, objs'⟩) :
    aL P cx ops Q (⟨some d, .buildSlice T 1 #[(0, x)], ty, pos, af, none⟩ :: rest) ⟨n, vars, objs⟩ := by
  subst ho; subst hm
  exact l_lit (xs := [x]) rfl rfl ht hmk (by decide) (by decide) ⟨[.val (.int .i64 N), .sl 1 (intc l)], [], by rw [hx]; rfl, rfl, rfl, rfl, rfl⟩ hd hk
theorem w_lit_int [Zs] {T e : TypeId} {x : Operand} {v : Int} (hx : (⟨n, vars, objs⟩ : St).ev x = .val (.int .i64 v)) (ht : SlT P T e 1) (hmk : MkT P e (.int .i64 0) 1 8)
    (ho : objs ++ [.row e 1 (intc [v])] = objs') (hm : objs.length = m) (hd : Nat.blt d n = true) (hk : aL P cx ops Q rest ⟨n, (d, .own m) :: vars, objs'⟩) :
    aL P cx ops Q (⟨some d, .buildSlice T 1 #[(0, x)], ty, pos, af, none⟩ :: rest) ⟨n, vars, objs⟩ :=
  w_lit_ints (xs := [x]) (l := [v]) rfl rfl ht hmk (by decide) ⟨hx, trivial⟩ ho hm hd hk
theorem w_lit_nat [Zs] {T e : TypeId} {x : Operand} {v : Nat} (hx : (⟨n, vars, objs⟩ : St).ev x = .val (.int .i64 (v : Int))) (ht : SlT P T e 1) (hmk : MkT P e (.int .i64 0) 1 8)
    (ho : objs ++ [.row e 1 (intc (nl [v]))] = objs') (hm : objs.length = m) (hd : Nat.blt d n = true) (hk : aL P cx ops Q rest ⟨n, (d, .own m) :: vars, objs'⟩) :
    aL P cx ops Q (⟨some d, .buildSlice T 1 #[(0, x)], ty, pos, af, none⟩ :: rest) ⟨n, vars, objs⟩ :=
  w_lit_int hx ht hmk ho hm hd hk
theorem w_lit_pair [Zs] {T e : TypeId} {by' : Nat} {z : Value} {x : Operand} {a b : Int} (hx : (⟨n, vars, objs⟩ : St).ev x = .agg [.val (.int .i64 a), .val (.int .i64 b)]) (ht : SlT P T e 2) (hmk : MkT P e z 2 by')
    (ho : objs ++ [.row e 2 (pairc [(a, b)])] = objs') (hm : objs.length = m) (hd : Nat.blt d n = true) (hk : aL P cx ops Q rest ⟨n, (d, .own m) :: vars, objs'⟩) :
    aL P cx ops Q (⟨some d, .buildSlice T 1 #[(0, x)], ty, pos, af, none⟩ :: rest) ⟨n, vars, objs⟩ := by
  subst ho; subst hm
  exact l_lit (xs := [x]) rfl rfl ht hmk (by decide) (by decide) ⟨[.val (.int .i64 a), .val (.int .i64 b)], [], by rw [hx]; rfl, rfl, rfl, rfl, rfl⟩ hd hk
theorem w_ap_pairs [Zs] {T e : TypeId} {x y : Operand} {id id2 : Nat} {l r : List (Int × Int)} {e2 : TypeId} (hx : (⟨n, vars, objs⟩ : St).ev x = .own id) (hob : objs[id]? = some (.row e 2 (pairc l))) (hy : (⟨n, vars, objs⟩ : St).ev y = .own id2) (hob2 : objs[id2]? = some (.row e2 2 (pairc r)))
    (ht : SlT P T e 2) (hmk : MkT P e (.agg #[.int .i64 0, .int .i64 0]) 2 16) (hbig : l.length + r.length ≤ 10000000000) (ho : objs.set id .gone ++ [.row e 2 (pairc (l ++ r))] = objs') (hm : objs.length = m) (hd : Nat.blt d n = true)
    (hk : aL P cx ops Q rest ⟨n, (d, .own m) :: vars, objs'⟩) : aL P cx ops Q (⟨some d, .call ⟨.builtin .append, #[x, y], #[T, T]⟩, ty, pos, af, none⟩ :: rest) ⟨n, vars, objs⟩ := by
  subst ho; subst hm
  exact l_append (cs := pairc l) (cs2 := pairc r) rfl rfl hx hob (.inr (.inl ⟨id2, e2, hy, hob2⟩)) ht hmk rfl (pairc_len l) (pairc_len r) (by decide) (pairc_one r) (by decide) (by omega) hd (by rw [pairc_app]; exact hk)
end
theorem Vw.rowro2 {objs : List AO} {σ : List Nat} {id : Nat} {av : AV} {e : TypeId} {sz : Nat} {cs : List Dat} (h : objs[id]? = some (.row e sz cs)) (hn : id ∉ σ) (ha : AV.ro (.sl sz cs) = av) : Vw objs σ (.own id) av := ha ▸ .rowro id e sz cs h hn
end Go.Proofs.YtbgecpjlopdkfaaDoor

/- Regions that draw their order, of which only the end turns memory: what comes ahead of the end only reads, in whatever order; the end goes in its order. -/
namespace Go.Proofs.YtbgecpjlopdkfaaDoor
open Go.RowKit

section
variable {P : Program} {ops : Array Oper} {md : Region.Mode} {C : World → Prop}

/-- Whatever order is picked of the n first, as long as the fuel lasts. -/
def anyHead (P : Program) (md : Region.Mode) (ops : Array Oper) (C : World → Prop) (n : Nat) (L : Array Bool → Act → Prop) : Nat → Array Bool → Act → Prop
  | 0, listed, a => L listed a
  | f + 1, listed, a => Region.ready md ops listed ≠ [] ∧ ∀ i ∈ Region.ready md ops listed, i < n ∧ qOp P ops C i (anyHead P md ops C n L f (listed.setIfInBounds i true)) a

theorem any_of_head {n g : Nat} {L : Array Bool → Act → Prop} {Q' : Exit → Act → World → Prop} (hL : ∀ listed a w, C w → L listed a → wpAny P md ops Q' g listed a w) :
    ∀ (f : Nat) (listed : Array Bool) (a : Act) (w : World), C w → anyHead P md ops C n L f listed a → wpAny P md ops Q' (f + g) listed a w
  | 0, listed, a, w, hw, h => by rw [Nat.zero_add]; exact hL _ _ _ hw h
  | f + 1, listed, a, w, hw, h => by
    rw [show f + 1 + g = (f + g) + 1 by omega]
    exact ⟨fun h0 => absurd h0 h.1, fun i hi => wpOp_of_qOp hw (fun a' w' hw' h' => any_of_head hL f _ a' w' hw' h') (h.2 i hi).2⟩

theorem anyHead_first {n i : Nat} {oi : Oper} {v : Value} {L : Array Bool → Act → Prop} (hi : ops[i]? = some oi) (hsel : ∀ (j : Nat) (o : Oper) cs b, ops[j]? = some o → o.op ≠ .select cs b)
    (hs : Region.sinkB md ops n = true) (hc : Region.chainB md ops n = true) (hn : n < ops.size) (hin : i < n) (hdone : ∀ listed a, L listed a → ∀ j ∈ Region.ready md ops listed, n ≤ j) :
    ∀ (f : Nat) (listed : Array Bool) (a : Act), HeadInv md ops n listed →
      (∀ j oj, ops[j]? = some oj → j ≠ i → listed.getD j true = false → (∀ e ∈ oj.after, Region.binds md e = true → e.on ≠ i) → oi.apart ops oj = true) →
      i ∈ Region.ready md ops listed → YieldsIn P ops C oi v a → anyHead P md ops C n L f (listed.setIfInBounds i true) (a.put oi.dst v) → anyHead P md ops C n L (f + 1) listed a := by
  intro f
  induction f with
  | zero =>
    intro listed a inv _ hr hy H
    have hun := (mem_ready.1 hr).1
    refine ⟨fun h => (by rw [h] at hr; cases hr), fun j hj => ?_⟩
    have hjn : j < n := by
      rcases Nat.lt_or_ge j n with h | h
      · exact h
      · exact absurd hj (tail_waits hs hc hn inv _ i rfl hin hun j h)
    refine ⟨hjn, ?_⟩
    by_cases hji : j = i
    · subst hji; exact hy.qOp hi H
    · have := hdone _ _ H j (ready_mono hj hji)
      omega
  | succ f ih =>
    intro listed a inv hfree hr hy H
    have hun := (mem_ready.1 hr).1
    refine ⟨fun h => (by rw [h] at hr; cases hr), fun j hj => ?_⟩
    have hjn : j < n := by
      rcases Nat.lt_or_ge j n with h | h
      · exact h
      · exact absurd hj (tail_waits hs hc hn inv _ i rfl hin hun j h)
    refine ⟨hjn, ?_⟩
    by_cases hji : j = i
    · subst hji; exact hy.qOp hi H
    · have h1 := (H.2 j (ready_mono hj hji)).2
      obtain ⟨hjun, oj, hoj, hall⟩ := mem_ready.1 hj
      have hnot : ∀ e ∈ oj.after, Region.binds md e = true → e.on ≠ i := fun e he hb heq => by
        have h1 := hall e he hb
        rw [heq, getD_both hun] at h1
        cases h1
      have h2 := qOp_put hoj (hfree j oj hoj hji hjun hnot) (fun cs b => hsel i oi cs b hi) (fun cs b => hsel j oj cs b hoj) hy h1
      have hfree' : ∀ k ok, ops[k]? = some ok → k ≠ i → (listed.setIfInBounds j true).getD k true = false →
          (∀ e ∈ ok.after, Region.binds md e = true → e.on ≠ i) → oi.apart ops ok = true := fun k ok hk hki hun hno => by
        refine hfree k ok hk hki ?_ hno
        by_cases hjk : j = k
        · subst hjk; exact hjun
        · rw [getD_set_ne true hjk] at hun; exact hun
      refine qOp_mono (fun a' h3 => ih (listed.setIfInBounds j true) a' (inv.set hj hjn) hfree' (ready_mono hr (Ne.symm hji)) h3.1 ?_) h2
      rw [Array.setIfInBounds_comm _ _ hji]
      exact h3.2

theorem anyHead_lex {n g : Nat} {Lq : Act → Prop} (hsel : Region.noSelect ops = true) (hs : Region.sinkB md ops n = true) (hc : Region.chainB md ops n = true) (hn : n < ops.size) :
    ∀ (l : List Oper) (k : Nat) (listed : Array Bool) (a : Act), (∀ j, j < l.length → l[j]? = ops[k + j]?) → k + l.length = n → HeadInv md ops n listed →
    Region.lexHead md ops g l.length k listed = true → wpQuiet P ops C Lq l a →
    anyHead P md ops C n (fun listed' a' => Region.seqB md ops g n listed' = true ∧ Lq a') l.length listed a
  | [], k, listed, a, _, hk, _, hB, h => by
    have : k = n := by simpa using hk
    subst this
    exact ⟨by simpa [Region.lexHead] using hB, h⟩
  | o :: l, k, listed, a, hl, hk, inv, hB, h => by
    have h0 : ops[k]? = some o := by simpa using (hl 0 (by simp)).symm
    simp only [List.length_cons, Region.lexHead, Bool.and_eq_true] at hB
    obtain ⟨⟨hr, hf⟩, hB'⟩ := hB
    have hkn : k < n := by simp only [List.length_cons] at hk; omega
    have hr' : k ∈ Region.ready md ops listed := by simpa using hr
    have hst : qOp P ops C k (wpQuiet P ops C Lq l) a := by unfold qOp; simp only [h0]; exact h
    obtain ⟨v, hy, hK⟩ := yieldsIn_of_qOp h0 hst
    exact anyHead_first h0 (Region.noSelect_spec hsel) hs hc hn hkn (fun listed' a' hL => seqB_ready hL.1) l.length listed a inv (Region.free_spec h0 hf) hr' hy
      (anyHead_lex hsel hs hc hn l (k + 1) _ _ (fun j hj => by have := hl (j + 1) (by simp; omega); simpa [Nat.add_assoc, Nat.add_comm 1 j] using this) (by simp only [List.length_cons] at hk; omega) (inv.set hr' hkn) hB' hK)

theorem wp_region_quiet_tail {id : Nat} {Q : Exit → Act → World → Prop} {a : Act} {w : World} {l : List Oper} (n : Nat) (hm : P.follows .mixedOrders = true) (hB : Region.lexTailB .any l.toArray n = true) (hC : C { w with drawn := w.drawn + 1 })
    (h : wpQuiet P l.toArray C (fun a' => ∀ w', C w' → wpList P l.toArray Q (l.drop n) a' w') (l.take n) a) : (Code.region id l.toArray true).wp P Q a w := by
  simp only [Region.lexTailB, Bool.and_eq_true, decide_eq_true_eq] at hB
  obtain ⟨⟨⟨⟨hsel, hn⟩, hs⟩, hc⟩, hlex⟩ := hB
  have hn' : n < l.length := by simpa using hn
  have htl : (l.take n).length = n := by simp; omega
  have hdl : (l.drop n).length = l.toArray.size - n := by simp
  have inv0 : HeadInv .any l.toArray n (Array.replicate l.toArray.size false) :=
    ⟨by simp, fun j oj _ hl => (by rw [getD_replicate_false] at hl; cases hl), fun t _ ht => getD_in (by simpa using ht) (getD_replicate_false _ _)⟩
  have H := anyHead_lex (md := .any) (g := l.toArray.size - n) hsel hs hc hn (l.take n) 0 _ a (fun j hj => by
    have hj' : j < n := by rw [htl] at hj; exact hj
    simp [hj']) (by simpa using htl) inv0 (by rw [htl]; exact hlex) h
  refine wp_region_any hm ?_
  have := any_of_head (Q' := Q) (g := l.toArray.size - n) (fun listed a' w' hw' hL => by
    have := wpAny_of_seq (md := .any) (Q' := Q) (l.drop n) n listed a' w' (fun j => by simp [List.getElem?_drop]) (by rw [hdl]; exact hL.1) (hL.2 w' hw')
    rwa [hdl] at this) _ _ _ _ hC H
  rw [htl, show n + (l.toArray.size - n) = l.toArray.size by omega] at this
  exact this
end

theorem a_drawT [Zs] {P : Program} {k : Nat} {cx : Cx k} {id : Nat} {l l1 l2 : List Oper} {Q : Exit → St → Prop} {st : St} (n : Nat) (hm : P.follows .mixedOrders = true) (hB : Region.lexTailB .any l.toArray n = true) (h1 : l.take n = l1) (h2 : l.drop n = l2)
    (h : qL P l.toArray (fun st => aL P cx l.toArray Q l2 st) l1 st) : aC P cx (.region id l.toArray true) Q st := by
  subst h1; subst h2
  intro a w hr
  obtain ⟨ρ, hb, hf, h0⟩ := hr.base
  refine wp_region_quiet_tail (C := Below w.heap.size w) n hm hB ⟨rfl, rfl, rfl, Nat.le_refl _, fun _ _ => rfl⟩ ?_
  refine wpQuiet_mono ?_ _ _ (h ρ w a hb)
  rintro a' ⟨st', hK, ho, hb'⟩ w' hw'
  refine hK a' w' ⟨⟨ρ, hb'.mono hw', ?_, h0⟩, (hr.mono hw').same⟩
  rw [ho]; exact hf
end Go.Proofs.YtbgecpjlopdkfaaDoor

/- Values of several cells that are put together; pairs of points. -/
namespace Go.Proofs.YtbgecpjlopdkfaaDoor
open Go.RowKit

section
variable {P : Program} {st : St} {d : Option Tmp} {ty : TypeId} {pos : String} {af : Array Edge} {g : Option (Nat × Bool)}
theorem Q_build0 {T : TypeId} {zs : List Value} {place : Nat → Option (Nat × Nat)} {out : List AV} (hb : BdT P T zs place) (ho : zs.map .val = out) : QOp P ⟨d, .build T #[], ty, pos, af, g⟩ st (.agg out) :=
  Q_build (ps := []) hb rfl ho.symm
theorem Q_build1 {T : TypeId} {zs : List Value} {place : Nat → Option (Nat × Nat)} {i off : Nat} {x : Operand} {av : AV} {l out : List AV} (hb : BdT P T zs place) (hx0 : st.ev x = av) (hx : av.cells = l) (hp : place i = some (off, l.length)) (h1 : l.all AV.one = true)
    (hl : Nat.ble (off + l.length) (zs.map AV.val).length = true) (ho : (zs.map AV.val).take off ++ l ++ (zs.map AV.val).drop (off + l.length) = out) : QOp P ⟨d, .build T #[(i, x)], ty, pos, af, g⟩ st (.agg out) :=
  Q_build (ps := [(i, x)]) hb rfl ⟨off, l, hp, hx0 ▸ hx, h1, hl, ho.symm⟩
theorem Q_build2 {T : TypeId} {zs : List Value} {place : Nat → Option (Nat × Nat)} {i off j off' : Nat} {x y : Operand} {av av' : AV} {l l' c out : List AV} (hb : BdT P T zs place) (hx0 : st.ev x = av) (hx : av.cells = l) (hp : place i = some (off, l.length)) (h1 : l.all AV.one = true)
    (hl : Nat.ble (off + l.length) (zs.map AV.val).length = true) (hc : (zs.map AV.val).take off ++ l ++ (zs.map AV.val).drop (off + l.length) = c)
    (hx0' : st.ev y = av') (hx' : av'.cells = l') (hp' : place j = some (off', l'.length)) (h1' : l'.all AV.one = true) (hl' : Nat.ble (off' + l'.length) c.length = true) (ho : c.take off' ++ l' ++ c.drop (off' + l'.length) = out) : QOp P ⟨d, .build T #[(i, x), (j, y)], ty, pos, af, g⟩ st (.agg out) := by
  subst hc
  exact Q_build (ps := [(i, x), (j, y)]) hb rfl ⟨off, l, hp, hx0 ▸ hx, h1, hl, off', l', hp', hx0' ▸ hx', h1', hl', ho.symm⟩
end

def pn (l : List (Nat × Nat)) : List (Int × Int) := l.map fun p => ((p.1 : Int), (p.2 : Int))
theorem pn_len (l : List (Nat × Nat)) : (pn l).length = l.length := by simp [pn]
theorem pn_get (l : List (Nat × Nat)) (k : Nat) : (pn l).getD k (0, 0) = (((l.getD k (0, 0)).1 : Int), ((l.getD k (0, 0)).2 : Int)) := by
  simp only [pn, List.getD_eq_getElem?_getD, List.getElem?_map]
  cases l[k]? <;> rfl
theorem pn_app (l r : List (Nat × Nat)) : pn l ++ pn r = pn (l ++ r) := by simp [pn]
section
variable {P : Program} {k : Nat} {cx : Cx k} {ops : Array Oper} {Q : Exit → St → Prop} {st : St} {rest : List Oper} {d : Option Tmp} {ty : TypeId} {pos : String} {af : Array Edge} {g : Option (Nat × Bool)}
theorem Q_ix_pairsN {x ix : Operand} {T e : TypeId} {l : List (Nat × Nat)} {i : Int} {o : Nat} (hx : st.ev x = pairs (pn l)) (hi : st.ev ix = .val (.int .i64 i)) (ho : i = (o : Int)) (ht : SlT P T e 2) (h : o < l.length) :
    QOp P ⟨d, .indexAddr T x ix, ty, pos, af, g⟩ st (.rpt (pairc (pn l)) (o * 2)) := Q_ix_pairs hx hi ho ht (by rw [pn_len]; exact h)
theorem Q_ld_pairN {x : Operand} {T : TypeId} {l : List (Nat × Nat)} {o : Nat} (hx : st.ev x = .rpt (pairc (pn l)) (o * 2)) (h : o < l.length) (ht : AgT P T 2) :
    QOp P ⟨d, .load T x, ty, pos, af, g⟩ st (.agg [.val (.int .i64 ((l.getD o (0, 0)).1 : Int)), .val (.int .i64 ((l.getD o (0, 0)).2 : Int))]) := by
  have := Q_ld_pair (P := P) (d := d) (ty := ty) (pos := pos) (af := af) (g := g) hx (by rw [pn_len]; exact h) ht
  rw [pn_get] at this
  exact this
theorem Q_len_pairsN {x : Operand} {T e : TypeId} {l : List (Nat × Nat)} (hx : st.ev x = pairs (pn l)) (ht : SlT P T e 2) : QOp P ⟨d, .call ⟨.builtin .len, #[x], #[T]⟩, ty, pos, af, g⟩ st (.val (.int .i64 (l.length : Int))) := by
  have := Q_len_pairs (P := P) (d := d) (ty := ty) (pos := pos) (af := af) (g := g) hx ht
  rw [pn_len] at this
  exact this
end

/-- k rounds, told their number. -/
def iterN {α : Type} : Nat → (Nat → α → α) → α → α
  | 0, _, x => x
  | k + 1, f, x => f k (iterN k f x)
/-- n sets of points below n. -/
def Vld (n : Nat) (ns : List Nat) : Prop := ns.length = n ∧ ∀ x ∈ ns, x < 2 ^ n
theorem Vld.get {n : Nat} {ns : List Nat} (h : Vld n ns) (b : Nat) : ns.getD b 0 < 2 ^ n := by
  rw [List.getD_eq_getElem?_getD]
  cases hk : ns[b]? with
  | none => exact Nat.pow_pos (by decide)
  | some x => exact h.2 x (List.mem_of_getElem? hk)
theorem Vld.set {n : Nat} {ns : List Nat} (h : Vld n ns) {b x : Nat} (hx : x < 2 ^ n) : Vld n (ns.set b x) :=
  ⟨by rw [List.length_set]; exact h.1, fun y hy => by
    rcases List.mem_or_eq_of_mem_set hy with h1 | h1
    · exact h.2 y h1
    · rw [h1]; exact hx⟩
mutual
def flatB : AV → Bool
  | .val _ => true
  | .own _ => true
  | .ptr _ _ => true
  | .agg l => flatBs l
  | .tup l => flatBs l
  | .any => true
  | _ => false
def flatBs : List AV → Bool
  | [] => true
  | a :: l => flatB a && flatBs l
end
mutual
theorem flat_of : ∀ {av : AV}, flatB av = true → Flat av
  | .val _, _ => .val _
  | .own _, _ => .own _
  | .ptr _ _, _ => .ptr _ _
  | .agg l, h => .agg l (flats_of (by simpa [flatB] using h))
  | .tup l, h => .tup l (flats_of (by simpa [flatB] using h))
  | .any, _ => .any
theorem flats_of : ∀ {l : List AV}, flatBs l = true → ∀ av ∈ l, Flat av
  | [], _, _, h => by cases h
  | a :: l, h, av, hm => by
    simp only [flatBs, Bool.and_eq_true] at h
    rcases List.mem_cons.1 hm with hq | hm
    · rw [hq]; exact flat_of h.1
    · exact flats_of h.2 av hm
end
def FlatOs : List AO → Prop
  | [] => True
  | o :: r => FlatO o ∧ FlatOs r
theorem flatOs_spec : ∀ {l : List AO}, FlatOs l → ∀ o ∈ l, FlatO o
  | [], _, _, h => by cases h
  | a :: l, h, o, hm => by
    rcases List.mem_cons.1 hm with rfl | hm
    · exact h.1
    · exact flatOs_spec h.2 o hm
section
variable {P : Program} {k : Nat} {cx : Cx k} {ops : Array Oper} {Q : Exit → St → Prop} {rest : List Oper} {ty : TypeId} {pos : String} {af : Array Edge} {n : Nat} {vars : List (Nat × AV)} {objs objs' : List AO} {d m : Nat}
theorem w_callR [Zs] {g : Operand} {xs : Array Operand} {ats : Array TypeId} {f : FuncId} {caps args : List AV} {res res0 res' : AV} {news news0 : List AO} (hf : Callee' ⟨n, vars, objs⟩ g f caps) (hc : AC P f args [] res0 news0) (h0 : res0 = res) (h1 : news0 = news)
    (hv : VwL objs [] (evs ⟨n, vars, objs⟩ xs ++ caps) args)
    (hfl : flatB res = true) (hfo : FlatOs news) (ho : objs ++ news.map (AO.sh objs.length) = objs') (hr : res.sh objs.length = res') (hd : Nat.blt d n = true) (hk : aL P cx ops Q rest ⟨n, (d, res') :: vars, objs'⟩) :
    aL P cx ops Q (⟨some d, .call ⟨.value g, xs, ats⟩, ty, pos, af, none⟩ :: rest) ⟨n, vars, objs⟩ := by
  subst h0; subst h1
  exact w_call hf hc hv (flat_of hfl) (flatOs_spec hfo) ho hr hd hk
end
end Go.Proofs.YtbgecpjlopdkfaaDoor

/- An own slice that is from now on only read; literals of a few parts. -/
namespace Go.Proofs.YtbgecpjlopdkfaaDoor
open Go.RowKit

section
variable {P : Program} {k : Nat} {cx : Cx k} {ops : Array Oper} {Q : Exit → St → Prop} {st : St} {rest : List Oper}
theorem rel_freeze [Zs] {a : Act} {w : World} (t id : Nat) {e : TypeId} {sz : Nat} {cs : List Dat} (h : st.get t = .own id) (ho : st.objs[id]? = some (.row e sz cs)) (hr : Rel cx st a w) : Rel cx ((st.set id .gone).put t (.ro (.sl sz cs))) a w := by
  obtain ⟨ρ, hb, hf, h0⟩ := hr.base
  obtain ⟨hg, hM⟩ := hb.good.drop id
  have hid := (List.getElem?_eq_some_iff.1 ho).1
  refine Rel.step hr hf h0 (Same.refl _ _) (fun _ _ h => h) (fun b _ h => hM b h) (ρ' := ρ) ⟨fun t' => ?_, hb.size, hb.defers, hg⟩
  show Gm ρ w (Ban ρ (st.objs.set id .gone)) (getv ((t, .ro (.sl sz cs)) :: st.vars) t') _
  rw [getv_cons]
  by_cases ht : t = t'
  · subst ht
    rw [if_pos rfl]
    have hfr := hb.frame t
    rw [h] at hfr
    obtain ⟨l, hl⟩ := hfr.own_inv
    obtain ⟨v, n, us, h1, h2, h3, h4⟩ := hb.good.sat id _ ho
    rw [h1] at hl
    obtain ⟨hv, _⟩ := List.cons.inj (Option.some.inj hl)
    rw [← hv]
    refine .ro _ _ (row_rd h2 h3 (fun b hb' hown => ?_) fun i d hd => ?_)
    · rcases hown with ⟨id', hft⟩ | hz
      rotate_left 1
      · exact hb.good.zf _ _ ⟨_, _, ho, rfl, h1, v, by simp, hb'⟩ hz
      rcases foot_set hid hft with ⟨_, hlive, _⟩ | ⟨hne, hft'⟩
      · cases hlive
      · exact hne (hb.good.dis _ _ _ hft' ⟨_, _, ho, rfl, h1, v, by simp, hb'⟩)
    · obtain ⟨u, hu, hrd⟩ := h4 i d hd
      exact ⟨u, hu, hrd.mono (Same.refl (Ban ρ st.objs) w) (Ban.mono fun b _ h => hM b h)⟩
  · rw [if_neg ht]
    exact (hb.frame t').ext (Same.refl _ _) (fun _ _ h => h) (fun b _ h => hM b h)
end

section
variable {P : Program} {k : Nat} {cx : Cx k} {ops : Array Oper} {Q : Exit → St → Prop} {rest : List Oper} {ty : TypeId} {pos : String} {af : Array Edge} {n : Nat} {vars : List (Nat × AV)} {objs objs' : List AO} {d m : Nat}
theorem w_freeze [Zs] (t id : Nat) {e : TypeId} {sz : Nat} {cs : List Dat} (h : (⟨n, vars, objs⟩ : St).get t = .own id) (ho : objs[id]? = some (.row e sz cs)) (hs : objs.set id .gone = objs') (hk : aL P cx ops Q rest ⟨n, (t, .ro (.sl sz cs)) :: vars, objs'⟩) : aL P cx ops Q rest ⟨n, vars, objs⟩ := by
  subst hs
  exact fun a w hr => hk a w (rel_freeze t id h ho hr)
theorem w_lit_i2 [Zs] {T e : TypeId} {x y : Operand} {u v : Int} (hx : (⟨n, vars, objs⟩ : St).ev x = .val (.int .i64 u)) (hy : (⟨n, vars, objs⟩ : St).ev y = .val (.int .i64 v)) (ht : SlT P T e 1) (hmk : MkT P e (.int .i64 0) 1 8)
    (ho : objs ++ [.row e 1 (intc [u, v])] = objs') (hm : objs.length = m) (hd : Nat.blt d n = true) (hk : aL P cx ops Q rest ⟨n, (d, .own m) :: vars, objs'⟩) :
    aL P cx ops Q (⟨some d, .buildSlice T 2 #[(0, x), (1, y)], ty, pos, af, none⟩ :: rest) ⟨n, vars, objs⟩ :=
  w_lit_ints (xs := [x, y]) (l := [u, v]) rfl rfl ht hmk (by decide) ⟨hx, hy, trivial⟩ ho hm hd hk
theorem w_lit_i3 [Zs] {T e : TypeId} {x y z : Operand} {u v r : Int} (hx : (⟨n, vars, objs⟩ : St).ev x = .val (.int .i64 u)) (hy : (⟨n, vars, objs⟩ : St).ev y = .val (.int .i64 v)) (hz : (⟨n, vars, objs⟩ : St).ev z = .val (.int .i64 r)) (ht : SlT P T e 1) (hmk : MkT P e (.int .i64 0) 1 8)
    (ho : objs ++ [.row e 1 (intc [u, v, r])] = objs') (hm : objs.length = m) (hd : Nat.blt d n = true) (hk : aL P cx ops Q rest ⟨n, (d, .own m) :: vars, objs'⟩) :
    aL P cx ops Q (⟨some d, .buildSlice T 3 #[(0, x), (1, y), (2, z)], ty, pos, af, none⟩ :: rest) ⟨n, vars, objs⟩ :=
  w_lit_ints (xs := [x, y, z]) (l := [u, v, r]) rfl rfl ht hmk (by decide) ⟨hx, hy, hz, trivial⟩ ho hm hd hk
/-- []T{x}, x a slice that is read. -/
theorem w_lit_r1 [Zs] {T e : TypeId} {by' : Nat} {z : Value} {x : Operand} {r : List Int} (hx : (⟨n, vars, objs⟩ : St).ev x = ints r) (ht : SlT P T e 1) (hmk : MkT P e z 1 by')
    (ho : objs ++ [.row e 1 (rowc [r])] = objs') (hm : objs.length = m) (hd : Nat.blt d n = true) (hk : aL P cx ops Q rest ⟨n, (d, .own m) :: vars, objs'⟩) :
    aL P cx ops Q (⟨some d, .buildSlice T 1 #[(0, x)], ty, pos, af, none⟩ :: rest) ⟨n, vars, objs⟩ := by
  subst ho; subst hm
  exact l_lit (xs := [x]) rfl rfl ht hmk (by decide) (by decide) ⟨[.sl 1 (intc r)], [], by rw [hx]; rfl, rfl, rfl, rfl, rfl⟩ hd hk
end
section
variable {P : Program} {st : St} {d : Option Tmp} {T : TypeId} {x y : Operand} {ty : TypeId} {pos : String} {af : Array Edge} {g : Option (Nat × Bool)} {m n : Nat} {T1 T2 : TypeId}
theorem Q_maxN (hx : st.ev x = .val (.int .i64 (m : Int))) (hy : st.ev y = .val (.int .i64 (n : Int))) : QOp P ⟨d, .call ⟨.builtin .max, #[x, y], #[T1, T2]⟩, ty, pos, af, g⟩ st (.val (.int .i64 ((max m n : Nat) : Int))) := by
  have := Q_max (P := P) (d := d) (ty := ty) (pos := pos) (af := af) (g := g) (ats := #[T1, T2]) rfl hx hy
  rwa [show max (m : Int) (n : Int) = ((max m n : Nat) : Int) by omega] at this
theorem Q_minN (hx : st.ev x = .val (.int .i64 (m : Int))) (hy : st.ev y = .val (.int .i64 (n : Int))) : QOp P ⟨d, .call ⟨.builtin .min, #[x, y], #[T1, T2]⟩, ty, pos, af, g⟩ st (.val (.int .i64 ((min m n : Nat) : Int))) := by
  have := Q_min (P := P) (d := d) (ty := ty) (pos := pos) (af := af) (g := g) (ats := #[T1, T2]) rfl hx hy
  rwa [show min (m : Int) (n : Int) = ((min m n : Nat) : Int) by omega] at this
end
end Go.Proofs.YtbgecpjlopdkfaaDoor
