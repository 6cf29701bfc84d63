import Derived.Test.YtpfldhaaiglgdaaDoorEngA
import Derived.Test.YtpfldhaaiglgdaaDoorEngZm
import Derived.RangeFuncNested
set_option linter.unusedSimpArgs false
set_option linter.unusedVariables false
set_option linter.unusedSectionVars false
namespace Go.Proofs.YtpfldhaaiglgdaaDoor
open Go.RowKit
def apD (a : Act) (D : List Deferred) : Act := { a with defers := a.defers ++ D }
theorem apD_put (a : Act) (D : List Deferred) (d : Option Tmp) (v : Value) : apD (a.put d v) D = (apD a D).put d v := by cases d <;> rfl
/-- All functions, within a round or not. -/
def Fr (ro : Option Nat) : Fence := { Fence.wide with round := ro }
def noD (l : List Oper) : Bool := l.all fun o => match o.op with | .defer _ => false | _ => true
theorem noD_spec {l : List Oper} (h : noD l = true) : ∀ o ∈ l, ∀ c, o.op ≠ .defer c := by
  intro o ho c hc
  have := List.all_eq_true.1 h o ho
  rw [hc] at this
  cases this
theorem no_out [Zs] {k : Nat} {cx : Cx k} {Q : Exit → St → Prop} (h : ∀ st, ¬ Q .outgrown st) : ¬ LetsOut (lift cx Q) := fun ⟨_, _, st, q, _⟩ => h st q
/-- The state is s, and nothing else. -/
def onlyA (s : St) : Exit → St → Prop
  | .normal, st => st = s
  | _, _ => False
/-! Within a round. -/
def aR [Zs] (P : Program) {k : Nat} (cx : Cx k) (l : Nat) (c : Code) (Q : Exit → St → Prop) (st : St) : Prop :=
  ∀ a w, Rel cx st a w → c.wpIn (Fr (some l)) 0 P (lift cx Q) a w
/-! Behind the loop. -/
def mark (r : Nat) : Deferred := { target := .collected r, args := #[] }
def RelM [zs : Zs] {k : Nat} (cx : Cx k) (st : St) (a : Act) (w : World) (D : List Deferred) : Prop :=
  (D = [] ∧ Rel cx st a w) ∨ ∃ r, D = [mark r] ∧ cx.w0.heap.size ≤ r ∧ ∃ zs1 : Zs, (∀ b, zs.z b → zs1.z b) ∧ zs1.z r ∧ w.heap[r]? = some (.deferred (some [])) ∧ @Rel zs1 k cx st a w
def liftM [Zs] {k : Nat} (cx : Cx k) (Q : Exit → St → Prop) : Exit → Act → World → Prop := fun e a w => ∃ a0 st D, a = apD a0 D ∧ Q e st ∧ RelM cx st a0 w D
def aM [Zs] (P : Program) {k : Nat} (cx : Cx k) (c : Code) (Q : Exit → St → Prop) (st : St) : Prop :=
  ∀ a w D, RelM cx st a w D → c.wpIn Fence.wide 0 P (liftM cx Q) (apD a D) w
def aS [Zs] (P : Program) {k : Nat} (cx : Cx k) (c : Code) (Q : Exit → St → Prop) (st : St) : Prop :=
  ∀ a w, Rel cx st a w → c.wpIn Fence.wide 0 P (liftM cx Q) a w

/-! An object in another world, and with other blocks set aside. -/
theorem SatO.chg {ρ : Ids} {w w' : World} {M M' : Nat → Prop} {id : Nat} {o : AO} (h : SatO ρ w M id o) (hs : Same M w w') (hM : ∀ b, b < w.heap.size → M' b → M b)
    (hf : o.live = true → ∀ l v b, ρ[id]? = some l → v ∈ l → ablk v = some b → b < w.heap.size → w'.heap[b]? = w.heap[b]?) : SatO ρ w' M' id o := by
  have hrow : o.live = true → ∀ {l : List Value} {e : TypeId} {sz n : Nat} {u : Value} {xs : List Value}, ρ[id]? = some l → u ∈ l → w.ownsRow 0 e sz u n xs → w'.ownsRow 0 e sz u n xs := by
    intro hlv l e sz n u xs hl hu ho
    refine ⟨ho.1, ?_⟩
    rcases ho.2 with hn | ⟨g, cap, cur, rfl, hbg, hgg, rest⟩
    · exact .inl hn
    · refine .inr ⟨g, cap, cur, rfl, hbg, ?_, rest⟩
      rw [hf hlv l _ g hl hu rfl (Array.getElem?_eq_some_iff.1 hgg).1]
      exact hgg
  cases o with
  | gone => trivial
  | box cs =>
    obtain ⟨b, arr, T, h1, h2, h3, h4⟩ := h
    refine ⟨b, arr, T, h1, ?_, h3, fun i av hi => ?_⟩
    · rw [hf rfl _ _ b h1 (List.mem_singleton.2 rfl) rfl (Array.getElem?_eq_some_iff.1 h2).1]; exact h2
    · obtain ⟨v, hv, hg⟩ := h4 i av hi
      exact ⟨v, hv, hg.mono hs hM fun _ _ h => h⟩
  | row e sz cs =>
    obtain ⟨v, n, us, h1, h2, h3, h4⟩ := h
    refine ⟨v, n, us, h1, hrow rfl h1 (List.mem_singleton.2 rfl) h2, h3, fun i d hi => ?_⟩
    obtain ⟨u, hu, hr⟩ := h4 i d hi
    exact ⟨u, hu, hr.mono hs hM⟩
  | mat e e' m =>
    obtain ⟨v, us, h1, h2, h3, h4, h5⟩ := h
    refine ⟨v, us, h1, hrow rfl h1 (List.mem_cons_self ..) h2, h3, fun i r hi => ?_, h5⟩
    obtain ⟨hu, hr⟩ := h4 i r hi
    exact ⟨hu, hrow rfl h1 (List.mem_cons_of_mem _ (List.mem_of_getElem? hu)) hr⟩
  | mp m =>
    obtain ⟨v, us, h1, h2, h3⟩ := h
    exact ⟨v, us, h1, h2, h3.kept fun b hb hlt => hf rfl _ v b h1 (List.mem_cons_self ..) hb hlt⟩
  | bld T e cs =>
    obtain ⟨b, v, h1, h2, h3, h4⟩ := h
    exact ⟨b, v, h1, h2.kept fun hlt => hf rfl _ _ b h1 (List.mem_cons_self ..) rfl hlt, hrow rfl h1 (List.mem_cons_of_mem _ (List.mem_cons_self ..)) h3, h4⟩
/-- What is known stays known where only blocks that were set aside have turned, and others are set aside. -/
theorem RelB.chg {z0 z1 : Zs} {ρ : Ids} {w w' : World} {st : St} {a : Act} {M : Nat → Prop} (h : @RelB z0 ρ w st a) (hs : Same M w w') (h1 : ∀ b, b < w.heap.size → M b → z0.z b) (ht : ∀ p, p ∈ Tab → ¬ M p.1)
    (h2 : ∀ b, b < w.heap.size → z1.z b → z0.z b) (h3 : ∀ b, z1.z b → b < w'.heap.size) : @RelB z1 ρ w' st a := by
  have hs2 : Same (@Ban z0 ρ st.objs) w w' := ⟨hs.os, hs.tape, hs.output, hs.size, fun k hk hn => hs.block k hk fun hm => hn (.inr (h1 k hk hm))⟩
  have hM : ∀ b, b < w.heap.size → @Ban z1 ρ st.objs b → @Ban z0 ρ st.objs b := fun b hb hx => hx.elim .inl fun hz => .inr (h2 b hb hz)
  obtain ⟨fr, sz, df, hg⟩ := h
  have hfl : ∀ {id b}, foot ρ st.objs id b → b < w.heap.size := fun hfo => @foot_lt z0 _ _ _ hg _ _ hfo
  obtain ⟨gl, gs, gd, gz, gzl, ⟨ttf, ttl, ttb⟩⟩ := hg
  refine ⟨fun t => (fr t).mono hs2 hM fun _ _ h => h, sz, df, gl, fun id o ho => ?_, gd, fun id b hfo hz => gz id b hfo (h2 b (hfl hfo) hz), h3, ⟨ttf, fun p hp => Nat.lt_of_lt_of_le (ttl p hp) hs.size, fun p hp k v hv => ?_⟩⟩
  · refine (gs id o ho).chg hs2 hM fun hlv l v b hl hv hb hlt => hs.block b hlt fun hm => ?_
    exact gz id b ⟨o, l, ho, hlv, hl, v, hv, hb⟩ (h1 b hlt hm)
  · exact hs.cell (ttb p hp k v hv) (ht p hp)
/-- It hangs on no memory but the call's own. -/
def plA : AV → Bool
  | .val _ => true
  | .own _ => true
  | .ptr _ _ => true
  | .any => true
  | _ => false
def plD : Dat → Bool
  | .val _ => true
  | _ => false
def plO : AO → Bool
  | .box l => l.all plA
  | .row _ _ cs => cs.all plD
  | _ => true
theorem SatO.plain {ρ : Ids} {w : World} {M M' : Nat → Prop} {id : Nat} {o : AO} (h : SatO ρ w M id o) (hp : plO o = true) : SatO ρ w M' id o := by
  cases o with
  | gone => trivial
  | box cs =>
    obtain ⟨b, arr, T, h1, h2, h3, h4⟩ := h
    refine ⟨b, arr, T, h1, h2, h3, fun i av hi => ?_⟩
    obtain ⟨v, hv, hg⟩ := h4 i av hi
    refine ⟨v, hv, ?_⟩
    have := List.all_eq_true.1 hp av (List.mem_of_getElem? hi)
    cases hg <;> first | exact .val _ | (exact .own _ _ _ ‹_› ‹_›) | (exact .ptr _ _ _ _ ‹_›) | exact .any _ | cases this
  | row e sz cs =>
    obtain ⟨v, n, us, h1, h2, h3, h4⟩ := h
    refine ⟨v, n, us, h1, h2, h3, fun i d hi => ?_⟩
    obtain ⟨u, hu, hr⟩ := h4 i d hi
    refine ⟨u, hu, ?_⟩
    have := List.all_eq_true.1 hp d (List.mem_of_getElem? hi)
    cases hr <;> first | exact .val _ | cases this
  | mat e e' m => exact h
  | mp m => exact h
  | bld T e cs => exact h
end Go.Proofs.YtpfldhaaiglgdaaDoor
set_option linter.unusedSimpArgs false
set_option linter.unusedVariables false
set_option linter.unusedSectionVars false
namespace Go.Proofs.YtpfldhaaiglgdaaDoor
open Go.RowKit
/-- What a function that is ranged over promises: it hands on L's values, one behind the other, until it is told to stop. -/
def IterC (P : Program) (gm : FuncId) (caps : List AV) {α : Type} (enc : α → AV) (L : List α) : Prop :=
  Enters P gm ∧ ∀ [Zs] (l : Nat) (M : Nat → Prop) (J Jx : List α → World → Prop) (w : World) (vs : Array Value),
    (∀ b, M b → Zs.z b) → (∀ p, p ∈ Tab → ¬ M p.1) → Good [] w [] →
    (∀ pre W W' Mi, (∀ b, Mi b → w.heap.size ≤ b) → w.heap.size ≤ W.heap.size → Same Mi W W' → J pre W → J pre W') →
    (∀ pre W W' Mi, (∀ b, Mi b → w.heap.size ≤ b) → w.heap.size ≤ W.heap.size → Same Mi W W' → Jx pre W → Jx pre W') →
    (∀ pre x W v, pre ++ [x] <+: L → J pre W → w.heap.size ≤ W.heap.size → Good [] W [] → Gm [] W (Ban [] []) (enc x) v →
      YieldAt Fence.wide 0 P l #[v] W fun e W' => (e = .returned (.bool true) ∧ Same M W W' ∧ J (pre ++ [x]) W') ∨ (e = .returned (.bool false) ∧ Same M W W' ∧ Jx (pre ++ [x]) W')) →
    J [] w → vs.size = caps.length → (∀ (i : Nat) (av : AV) (v : Value), caps[i]? = some av → vs[i]? = some v → Gm [] w (Ban [] []) av v) →
    Calls P gm (#[.func (.yield l) #[] #[]] ++ vs) w fun e w' => (∃ v, e = .returned v) ∧ (J L w' ∨ ∃ pre, pre <+: L ∧ Jx pre w')
def roundA (o o' : List AO) (Y X : Prop) : Exit → St → Prop
  | .normal, st => Y ∧ st.objs = o
  | .ret, st => X ∧ st.objs = o'
  | _, _ => False
end Go.Proofs.YtpfldhaaiglgdaaDoor
