/- The law of a range over a function, and the contract of what it ranges over. -/
import Derived.Test.YtdkkalplgfhpdaaEngZq
set_option linter.unusedSimpArgs false
set_option linter.unusedVariables false
set_option linter.unusedSectionVars false
namespace Go.Proofs.Ytdkkalplgfhpdaa
open Go.RowKit
theorem Same.wk {M M' : Nat → Prop} {w w' : World} (h : Same M w w') (hM : ∀ b, b < w.heap.size → M b → M' b) : Same M' w w' :=
  ⟨h.os, h.tape, h.output, h.size, fun k hk hn => h.block k hk fun hm => hn (hM k hk hm)⟩
theorem same_put {w : World} {r : Nat} {o : Obj} : Same (fun b => b = r) w (w.putObj r o) :=
  ⟨rfl, rfl, rfl, by rw [World.putObj_size]; exact Nat.le_refl _, fun k _ hn => World.putObj_heap_other hn⟩
theorem ids_eq {ρ ρ' : Ids} (h : ∀ (id : Nat) l, ρ[id]? = some l → ρ'[id]? = some l) (hl : ρ'.length = ρ.length) : ρ' = ρ := by
  apply List.ext_getElem?
  intro i
  by_cases hi : i < ρ.length
  · rw [List.getElem?_eq_getElem hi]; exact h i _ (List.getElem?_eq_getElem hi)
  · rw [List.getElem?_eq_none (by omega), List.getElem?_eq_none (by omega)]
/-- What a function that is ranged over promises: it hands on L's values, one behind the other, until it is told to stop. -/
def IterC (P : Program) (gm : FuncId) (caps : List AV) {α : Type} (enc : α → AV) (L : List α) : Prop :=
  Enters P gm ∧ ∀ [Zs] (l : Nat) (M : Nat → Prop) (J Jx : List α → World → Prop) (w : World) (vs : Array Value),
    (∀ b, M b → Zs.z b) → (∀ p, p ∈ Tab → ¬ M p.1) → Good [] w [] →
    (∀ pre W W' Mi, (∀ b, Mi b → w.heap.size ≤ b) → w.heap.size ≤ W.heap.size → Same Mi W W' → J pre W → J pre W') →
    (∀ pre W W' Mi, (∀ b, Mi b → w.heap.size ≤ b) → w.heap.size ≤ W.heap.size → Same Mi W W' → Jx pre W → Jx pre W') →
    (∀ pre x W v, pre ++ [x] <+: L → J pre W → w.heap.size ≤ W.heap.size → Good [] W [] → Gm [] W (Ban [] []) (enc x) v →
      YieldAt Fence.wide 0 P l #[v] W fun e W' => (e = .returned (.bool true) ∧ Same M W W' ∧ J (pre ++ [x]) W') ∨ (e = .returned (.bool false) ∧ Same M W W' ∧ Jx (pre ++ [x]) W')) →
    J [] w → vs.size = caps.length → (∀ (i : Nat) (av : AV) (v : Value), caps[i]? = some av → vs[i]? = some v → Gm [] w (Ban [] []) av v) →
    Calls P gm (#[.func (.yield l) #[] #[]] ++ vs) w fun e w' => (∃ v, e = .returned v) ∧ (J L w' ∨ ∃ pre, pre <+: L ∧ Jx pre w')
def roundA (o o' : List AO) (Y X : Prop) : Exit → St → Prop
  | .normal, st => Y ∧ st.objs = o
  | .ret, st => X ∧ st.objs = o'
  | _, _ => False
theorem s_range [zs : Zs] {P : Program} {k : Nat} {cx : Cx k} {g : Operand} {p : Tmp} {assign body : Code} {Q : Exit → St → Prop} {n : Nat} {vars : List (Nat × AV)} {gm : FuncId} {caps : List AV} {α : Type} {enc : α → AV} {L : List α}
    (ob ob' : List α → List AO) (Y X : List α → Prop) (v1 : α → List (Nat × AV)) (hg : St.ev ⟨n, vars, ob []⟩ g = .clo gm caps) (hro : roL caps = true) (hit : IterC P gm caps enc L) (hen : ∀ x, roA (enc x) = true) (hp : Nat.blt p n = true)
    (hle : ∀ pre, (ob pre).length = (ob []).length ∧ (ob' pre).length = (ob []).length)
    (hlv : ∀ (pre : List α) (i : Nat) (o : AO), ((ob pre)[i]? = some o ∨ (ob' pre)[i]? = some o) → o.live = true → ∃ o0 : AO, (ob [])[i]? = some o0 ∧ o0.live = true)
    (hpl : ∀ pre, (ob pre).all plO = true ∧ (ob' pre).all plO = true)
    (has : ∀ [Zs] {k' : Nat} (cx' : Cx k') (l : Nat) (pre : List α) (x : α), pre ++ [x] <+: L → aR P cx' l assign (thenA (fun st => st = ⟨n, v1 x, ob pre⟩) (fun _ _ => False)) ⟨n, (p, enc x) :: vars, ob pre⟩)
    (h0Y : Y []) (hbody : ∀ [Zs] {k' : Nat} (cx' : Cx k') (l : Nat) (pre : List α) (x : α), pre ++ [x] <+: L → Y pre → aR P cx' l body (roundA (ob (pre ++ [x])) (ob' (pre ++ [x])) (Y (pre ++ [x])) (X (pre ++ [x]))) ⟨n, v1 x, ob pre⟩)
    (hdone : Y L → Q .normal ⟨n, vars, ob L⟩) (hstop : ∀ pre, pre <+: L → X pre → Q .ret ⟨n, vars, ob' pre⟩) :
    aS P cx (.rangeFunc g #[p] assign body) Q ⟨n, vars, ob []⟩ := by
  intro a w hr
  obtain ⟨⟨ρ, hb, hf, h0⟩, hs⟩ := hr
  have hgv := hb.ev g
  rw [hg] at hgv
  obtain ⟨vs, e1, e2, e3⟩ := hgv.clo_inv
  have hdf : a.defers = [] := hb.defers
  refine wpIn_rangeFunc ?_
  intro fn hfn
  obtain ⟨rec, hrec⟩ : ∃ rec : LoopState → Option Code → Loop, rec = fun st pe => { state := st, pending := pe, fn, tmps := a.tmps, params := #[p], assign, body, defers := w.heap.size } := ⟨_, rfl⟩
  obtain ⟨W1, hW1⟩ : ∃ W1, (w.alloc (.deferred (some []))).alloc (.loop (rec .ready none)) = W1 := ⟨_, rfl⟩
  have hsz1 : W1.heap.size = w.heap.size + 2 := by rw [← hW1]; simp
  have hL1 : W1.heap[w.heap.size + 1]? = some (.loop (rec .ready none)) := by
    rw [← hW1]; have := World.alloc_heap_new (w.alloc (.deferred (some []))) (.loop (rec .ready none)); rwa [World.size_alloc] at this
  have hK1 : W1.heap[w.heap.size]? = some (.deferred (some [])) := by
    rw [← hW1]; exact (Below.heap_alloc _ _ _ (by simp)).trans (World.alloc_heap_new w _)
  have hS1 : Same (fun _ => False) w W1 := by
    rw [← hW1]; exact (Same.alloc _ _ _).trans (Same.alloc _ _ _) fun _ _ h => h
  have hfl : ∀ {id b}, foot ρ (ob []) id b → b < w.heap.size := fun hfo => foot_lt hb.good hfo
  obtain ⟨hfr, hsz, _, hgd⟩ := hb
  have hgg := hgd
  obtain ⟨gl, gs, gd, gz, gzl, gt⟩ := hgg
  -- the state at a later time, as the rounds see it
  have hG : ∀ (zr : Zs) (o : List AO) (W : World), (∀ b, zr.z b → zs.z b ∨ b = w.heap.size ∨ b = w.heap.size + 1) → o.length = (ob []).length → (∀ (i : Nat) (o1 : AO), o[i]? = some o1 → o1.live = true → ∃ o0 : AO, (ob [])[i]? = some o0 ∧ o0.live = true) →
      Same (Own ρ (ob [])) w W → (∀ (id : Nat) (o1 : AO), o[id]? = some o1 → SatO ρ W (fun _ => True) id o1) → w.heap.size + 2 ≤ W.heap.size → @RelB zr ρ W ⟨n, vars, o⟩ a := by
    intro zr o W hz hlen hx hsm hsat hsize
    have hft : ∀ {id b}, foot ρ o id b → foot ρ (ob []) id b := by
      rintro id b ⟨o1, l, a1, a2, a3, a4⟩
      obtain ⟨o0, b1, b2⟩ := hx id o1 a1 a2
      exact ⟨o0, l, b1, b2, a3, a4⟩
    have hown : ∀ b, Own ρ o b → Own ρ (ob []) b := fun b ⟨id, h⟩ => ⟨id, hft h⟩
    refine ⟨fun t => (hfr t).mono (@Same.ban zs _ _ _ _ hsm) (fun b hb hx => ?_) fun _ _ h => h, hsz, hdf, gl.trans hlen.symm, fun id o1 h1 => ?_, fun i j b hi hj => gd i j b (hft hi) (hft hj), fun id b hfo hzb => ?_, fun b hzb => ?_, gt.step hsm fun b _ h => hown b h⟩
    · rcases hx with h | h
      · exact .inl (hown b h)
      · rcases hz b h with h | h | h
        · exact .inr h
        · omega
        · omega
    · exact (hsat id o1 h1).chg (Same.refl _ _) (fun _ _ _ => trivial) fun _ _ _ _ _ _ _ _ => rfl
    · have := hfl (hft hfo)
      rcases hz b hzb with h | h | h
      · exact gz id b (hft hfo) h
      · omega
      · omega
    · rcases hz b hzb with h | h | h
      · have := gzl b h; omega
      · omega
      · omega
  have hv1 := fun pre i o h => hlv pre i o (.inl h)
  have hv2 := fun pre i o h => hlv pre i o (.inr h)
  have hTab : ∀ p, p ∈ Tab → ¬ (Own ρ (ob []) p.1 ∨ p.1 = w.heap.size + 1) := by
    rintro p hp (h | h)
    · exact gt.tf p hp h
    · have := gt.tl p hp; omega
  have hsat0 : ∀ (o : List AO), o.all plO = true → ∀ {M : Nat → Prop} {W : World}, (∀ (id : Nat) (o1 : AO), o[id]? = some o1 → SatO ρ W M id o1) → ∀ (id : Nat) (o1 : AO), o[id]? = some o1 → SatO ρ W (fun _ => True) id o1 :=
    fun o ho M W h id o1 h1 => (h id o1 h1).plain (List.all_eq_true.1 ho o1 (List.mem_of_getElem? h1))
  -- such a state abides what turns elsewhere
  have hA : ∀ (o : List AO) (W W' : World) (Mi : Nat → Prop), (∀ (i : Nat) (o1 : AO), o[i]? = some o1 → o1.live = true → ∃ o0 : AO, (ob [])[i]? = some o0 ∧ o0.live = true) → (∀ b, Mi b → w.heap.size ≤ b) → Same Mi W W' → w.heap.size ≤ W.heap.size →
      Same (Own ρ (ob [])) w W → (∀ (id : Nat) (o1 : AO), o[id]? = some o1 → SatO ρ W (fun _ => True) id o1) → Same (Own ρ (ob [])) w W' ∧ ∀ (id : Nat) (o1 : AO), o[id]? = some o1 → SatO ρ W' (fun _ => True) id o1 := by
    intro o W W' Mi hx hMi hsi hsz' h1 h2
    refine ⟨h1.trans hsi fun x hx hm => absurd (hMi x hm) (by omega), fun id o1 ho => (h2 id o1 ho).chg (hsi.wk fun _ _ _ => trivial) (fun _ _ _ => trivial) fun hlv' l v b hl hv hb hlt => hsi.block b hlt fun hm => ?_⟩
    obtain ⟨o0, b1, b2⟩ := hx id o1 ho hlv'
    have := hfl ⟨o0, l, b1, b2, hl, v, hv, hb⟩
    have := hMi b hm
    omega
  obtain ⟨J, hJ⟩ : ∃ J : List α → World → Prop, J = fun pre W => Y pre ∧ (Same (Own ρ (ob [])) w W ∧ ∀ (id : Nat) (o1 : AO), (ob pre)[id]? = some o1 → SatO ρ W (fun _ => True) id o1) ∧ W.heap[w.heap.size + 1]? = some (.loop (rec .ready none)) ∧ W.heap[w.heap.size]? = some (.deferred (some [])) := ⟨_, rfl⟩
  obtain ⟨Jx, hJx⟩ : ∃ Jx : List α → World → Prop, Jx = fun pre W => X pre ∧ (Same (Own ρ (ob [])) w W ∧ ∀ (id : Nat) (o1 : AO), (ob' pre)[id]? = some o1 → SatO ρ W (fun _ => True) id o1) ∧ W.heap[w.heap.size + 1]? = some (.loop (rec .done (some .ret))) ∧ W.heap[w.heap.size]? = some (.deferred (some [])) := ⟨_, rfl⟩
  refine ⟨w.heap.size + 1, [mark w.heap.size], W1, { target := .fn (.func gm) vs, args := #[.func (.yield (w.heap.size + 1)) #[] #[]] }, W1, gm,
    #[.func (.yield (w.heap.size + 1)) #[] #[]] ++ vs, W1, ?_, ?_, fun _ _ => trivial, ?_, fun h => (by cases h), ?_⟩
  · rw [← hW1, hrec]; exact run_enterLoop_outer _ _ _ _ _
  · simp only [resolve, e1]
    simp [go_sem]
  · simp [invoke, go_sem, hit.1.run]
  refine callsIn_wide.2 ((@hit.2 ⟨fun b => (Own ρ (ob []) b ∨ zs.z b) ∨ b = w.heap.size ∨ b = w.heap.size + 1⟩ (w.heap.size + 1) (fun b => Own ρ (ob []) b ∨ b = w.heap.size + 1) J Jx W1 vs ?_ hTab ?_ ?_ ?_ ?_ ?_ e2.symm ?_).mono ?_)
  · rintro b (h | h)
    · exact .inl (.inl h)
    · exact .inr (.inr h)
  · refine @Good.mk ⟨fun b => (Own ρ (ob []) b ∨ zs.z b) ∨ b = w.heap.size ∨ b = w.heap.size + 1⟩ [] W1 [] rfl (fun id o h => by simp at h) (fun i j b ⟨o, l, h, _⟩ => by simp at h) (fun i b ⟨o, l, h, _⟩ => by simp at h) (fun b hz => ?_) (gt.step (hS1.wk fun _ _ h => h.elim) fun b _ ⟨id, o, l, h, _⟩ => by simp at h)
    rcases hz with (⟨id, h⟩ | h) | h | h
    · have := hfl h; omega
    · have := gzl b h; omega
    · omega
    · omega
  · intro pre W W' Mi hMi hWs hsi hj
    rw [hJ] at hj ⊢
    obtain ⟨a0, ⟨a1, a2⟩, a3, a4⟩ := hj
    refine ⟨a0, hA _ W W' Mi (hv1 pre) (fun b hm => by have := hMi b hm; omega) hsi (by omega) a1 a2, ?_, ?_⟩
    · rw [hsi.block _ (by omega) fun hm => by have := hMi _ hm; omega]; exact a3
    · rw [hsi.block _ (by omega) fun hm => by have := hMi _ hm; omega]; exact a4
  · intro pre W W' Mi hMi hWs hsi hj
    rw [hJx] at hj ⊢
    obtain ⟨a0, ⟨a1, a2⟩, a3, a4⟩ := hj
    refine ⟨a0, hA _ W W' Mi (hv2 pre) (fun b hm => by have := hMi b hm; omega) hsi (by omega) a1 a2, ?_, ?_⟩
    · rw [hsi.block _ (by omega) fun hm => by have := hMi _ hm; omega]; exact a3
    · rw [hsi.block _ (by omega) fun hm => by have := hMi _ hm; omega]; exact a4
  · -- one round
    intro pre x W v hpre hj hWs hgo hxv
    rw [hJ] at hj
    obtain ⟨hYp, ⟨a1, a2⟩, hl, hk⟩ := hj
    have hrb := hG ⟨fun b => zs.z b ∨ b = w.heap.size ∨ b = w.heap.size + 1⟩ (ob pre) W (fun b h => h) (hle pre).1 (hv1 pre) a1 a2 (by omega)
    have hy : (Instr.yield (w.heap.size + 1) #[v]).run P W = .ok (.round (w.heap.size + 1) fn (a.tmps.setIfInBounds p v) assign body) W := by
      have := run_yield (P := P) (args := #[v]) hl (by rw [hrec]; rfl)
      rw [hrec] at this
      simpa using this
    refine ⟨fn, _, assign, body, hy, roundIn_of_wpIn hfn ?_⟩
    clear hy
    generalize hzr : (⟨fun b => zs.z b ∨ b = w.heap.size ∨ b = w.heap.size + 1⟩ : Zs) = zr at hrb
    have hzl : zr.z (w.heap.size + 1) := by subst hzr; exact .inr (.inr rfl)
    have hzk : zr.z w.heap.size := by subst hzr; exact .inr (.inl rfl)
    have hltl : w.heap.size + 1 < W.heap.size := by omega
    have hxv' : Gm ρ W (@Ban zr ρ (ob pre)) (enc x) v := by
      refine roA_gm (ρ := []) (hxv.mono (Same.refl _ _) (fun b _ hx => ?_) fun _ _ h => h) (hen x)
      rcases hx with ⟨id, o1, l, b1, b2, b3, b4⟩ | h
      · obtain ⟨o0, c1, c2⟩ := hv1 pre id o1 b1 b2
        exact .inr (.inl (.inl ⟨id, o0, l, c1, c2, b3, b4⟩))
      · subst hzr
        rcases h with h | h
        · exact .inr (.inl (.inr h))
        · exact .inr (.inr h)
    have hownp : ∀ b, Own ρ (ob pre) b → Own ρ (ob []) b := by
      rintro b ⟨id, o1, l, b1, b2, b3, b4⟩
      obtain ⟨o0, c1, c2⟩ := hv1 pre id o1 b1 b2
      exact ⟨id, o0, l, c1, c2, b3, b4⟩
    have hownl : ∀ b, Own ρ (ob []) b → b < w.heap.size := fun b ⟨id, h⟩ => hfl h
    have hput := @RelB.put zr ρ W ⟨n, vars, ob pre⟩ a hrb p (enc x) v hp hxv'
    have hact : a.put (some p) v = { tmps := a.tmps.setIfInBounds p v, defers := [] } := by
      show ({ a with tmps := a.tmps.setIfInBounds p v } : Act) = _
      rw [hdf]
    rw [hact] at hput
    have hlp : ρ.length = (ob pre).length := by rw [(hle pre).1]; exact gl
    have hrel1 : @Rel zr _ (⟨W, Own ρ (ob pre), ρ, hlp⟩ : Cx (ob pre).length) ⟨n, (p, enc x) :: vars, ob pre⟩ { tmps := a.tmps.setIfInBounds p v, defers := [] } W :=
      ⟨⟨ρ, hput, fun id b h _ => ⟨id, h⟩, fun _ _ h => h⟩, Same.refl _ _⟩
    refine wpIn_mono (@has zr _ (⟨W, Own ρ (ob pre), ρ, hlp⟩ : Cx (ob pre).length) (w.heap.size + 1) pre x hpre _ W hrel1) ?_
    rintro e A2 w2 ⟨st2, q2, r2⟩
    cases e with
    | normal =>
      obtain rfl : st2 = ⟨n, v1 x, ob pre⟩ := q2
      obtain ⟨⟨ρ2, hb2, hf2, h02⟩, hs2⟩ := r2
      obtain rfl : ρ2 = ρ := ids_eq h02 (by have := hb2; obtain ⟨_, _, _, g2, _⟩ := this; exact g2.trans hlp.symm)
      have hl2 : w2.heap[w.heap.size + 1]? = some (.loop (rec .ready none)) := by
        rw [hs2.block _ hltl fun h => by have := hownl _ (hownp _ h); omega]; exact hl
      have hk2 : w2.heap[w.heap.size]? = some (.deferred (some [])) := by
        rw [hs2.block _ (by show w.heap.size < W.heap.size; omega) fun h => by have := hownl _ (hownp _ h); omega]; exact hk
      have hlt2 : w.heap.size + 1 < w2.heap.size := Nat.lt_of_lt_of_le hltl hs2.size
      refine ⟨_, run_beginRound hl2 (by rw [hrec]), ?_⟩
      generalize hw3 : w2.putObj (w.heap.size + 1) (.loop { rec .ready none with state := .busy }) = w3
      have hs3 : Same (fun b => b = w.heap.size + 1) w2 w3 := by rw [← hw3]; exact same_put
      have hl3 : w3.heap[w.heap.size + 1]? = some (.loop { rec .ready none with state := .busy }) := by rw [← hw3]; exact World.putObj_heap_same hlt2
      have hk3 : w3.heap[w.heap.size]? = some (.deferred (some [])) := by rw [← hw3]; exact (World.putObj_heap_other (by omega)).trans hk2
      have hb3 : @RelB zr ρ2 w3 ⟨n, v1 x, ob pre⟩ A2 := by
        refine @RelB.chg zr zr ρ2 w2 w3 _ A2 _ hb2 hs3 (fun b _ h => by rw [h]; exact hzl) (fun p hp h => ?_) (fun _ _ h => h) (fun b h => ?_)
        · have := gt.tl p hp; omega
        · obtain ⟨_, _, _, _, _, _, _, g2, _⟩ := hb2
          exact Nat.lt_of_lt_of_le (g2 b h) hs3.size
      have hrel3 : @Rel zr _ (⟨w3, Own ρ2 (ob pre), ρ2, hlp⟩ : Cx (ob pre).length) ⟨n, v1 x, ob pre⟩ A2 w3 := ⟨⟨ρ2, hb3, fun id b h _ => ⟨id, h⟩, fun _ _ h => h⟩, Same.refl _ _⟩
      refine wpIn_mono (@hbody zr _ (⟨w3, Own ρ2 (ob pre), ρ2, hlp⟩ : Cx (ob pre).length) (w.heap.size + 1) pre x hpre hYp A2 w3 hrel3) ?_
      rintro e A4 w4 ⟨st4, q4, ⟨⟨ρ4, hb4, hf4, h04⟩, hs4⟩⟩
      have hlt3 : w.heap.size + 1 < w3.heap.size := Nat.lt_of_lt_of_le hlt2 hs3.size
      have hl4 : w4.heap[w.heap.size + 1]? = some (.loop { rec .ready none with state := .busy }) := by
        rw [hs4.block _ hlt3 fun h => by have := hownl _ (hownp _ h); omega]; exact hl3
      have hk4 : w4.heap[w.heap.size]? = some (.deferred (some [])) := by
        rw [hs4.block _ (by show w.heap.size < w3.heap.size; omega) fun h => by have := hownl _ (hownp _ h); omega]; exact hk3
      have hlt4 : w.heap.size + 1 < w4.heap.size := Nat.lt_of_lt_of_le hlt3 hs4.size
      -- the round is over
      have fin : ∀ (jump : Option Code) (o : List AO), st4.objs = o → o.length = (ob []).length → o.all plO = true → (∀ (i : Nat) (o1 : AO), o[i]? = some o1 → o1.live = true → ∃ o0 : AO, (ob [])[i]? = some o0 ∧ o0.live = true) →
          ∃ w5, (Instr.endRound (w.heap.size + 1) jump).run P w4 = .ok (.bool jump.isNone) w5 ∧ Same (fun b => Own ρ2 (ob []) b ∨ b = w.heap.size + 1) W w5 ∧
            (Same (Own ρ2 (ob [])) w w5 ∧ ∀ (id : Nat) (o1 : AO), o[id]? = some o1 → SatO ρ2 w5 (fun _ => True) id o1) ∧ w5.heap[w.heap.size + 1]? = some (.loop (rec (if jump.isNone then .ready else .done) jump)) ∧ w5.heap[w.heap.size]? = some (.deferred (some [])) := by
        rintro jump o rfl ho hop hox
        have hr5 := run_endRound (P := P) jump hl4
        rw [hrec] at hr5 ⊢
        refine ⟨_, hr5, ?_, ⟨?_, ?_⟩, World.putObj_heap_same hlt4, (World.putObj_heap_other (by omega)).trans hk4⟩
        · refine ((hs2.wk fun b _ h => Or.inl (hownp b h)).trans hs3 fun x _ h => Or.inr h).trans ((hs4.wk fun b _ h => Or.inl (hownp b h)).trans same_put fun x _ h => Or.inr h) fun x _ h => h
        · refine ((((a1.trans hs2 fun x _ h => hownp x h).trans hs3 fun x hx h => ?_).trans hs4 fun x _ h => hownp x h).trans same_put fun x hx h => ?_)
          · omega
          · omega
        · obtain ⟨_, _, _, ⟨g4l, g4s, g4d, g4z, _, _⟩⟩ := hb4
          obtain rfl : ρ4 = ρ2 := ids_eq h04 (by rw [g4l, ho]; exact gl.symm)
          intro id o1 h1
          refine (hsat0 _ hop g4s id o1 h1).chg (same_put.wk fun _ _ _ => trivial) (fun _ _ _ => trivial) fun hlv' l v b hl hv hb hlt => World.putObj_heap_other ?_
          rintro rfl
          exact g4z id _ ⟨o1, l, h1, hlv', hl, v, hv, hb⟩ hzl
      cases e with
      | normal =>
        obtain ⟨w5, b1, b2, b3, b4, b5⟩ := fin none _ q4.2 (hle _).1 (hpl _).1 (hv1 _)
        exact ⟨_, w5, b1, .inl ⟨rfl, b2, by rw [hJ]; exact ⟨q4.1, b3, b4, b5⟩⟩⟩
      | ret =>
        obtain ⟨w5, b1, b2, b3, b4, b5⟩ := fin (some .ret) _ q4.2 (hle _).2 (hpl _).2 (hv2 _)
        exact ⟨_, w5, b1, .inr ⟨rfl, b2, by rw [hJx]; exact ⟨q4.1, b3, b4, b5⟩⟩⟩
      | _ => exact q4.elim
    | _ => exact q2.elim
  · rw [hJ]
    refine ⟨h0Y, ⟨hS1.wk fun _ _ h => h.elim, fun id o1 ho => ?_⟩, hL1, hK1⟩
    refine ((gs id o1 ho).plain (List.all_eq_true.1 (hpl []).1 o1 (List.mem_of_getElem? ho))).chg (hS1.wk fun _ _ h => h.elim) (fun _ _ _ => trivial) fun hlv' l v b hl hv hb hlt => hS1.block b hlt fun h => h
  · intro i av v h1 h2
    refine roA_gm (ρ := ρ) ((e3 i av v h1 h2).mono (@Same.ban zs _ _ _ _ (hS1.wk fun _ _ h => h.elim)) (fun b hb hx => ?_) fun _ _ h => h) (roL_get hro h1)
    rcases hx with ⟨id, o, l, h, _⟩ | (h | h) | h | h
    · simp at h
    · exact .inl h
    · exact .inr h
    · omega
    · omega
  · -- behind the loop
    have key : ∀ (o : List AO) (W2 w4 : World), w4 = W2.putObj (w.heap.size + 1) (.loop { rec .ready none with state := .exhausted }) ∨ w4 = W2.putObj (w.heap.size + 1) (.loop { rec .done (some .ret) with state := .exhausted }) → o.length = (ob []).length →
        (∀ (i : Nat) (o1 : AO), o[i]? = some o1 → o1.live = true → ∃ o0 : AO, (ob [])[i]? = some o0 ∧ o0.live = true) → Same (Own ρ (ob [])) w W2 → (∀ (id : Nat) (o1 : AO), o[id]? = some o1 → SatO ρ W2 (fun _ => True) id o1) →
        w.heap.size + 1 < W2.heap.size → W2.heap[w.heap.size]? = some (.deferred (some [])) → RelM cx ⟨n, vars, o⟩ a w4 [mark w.heap.size] := by
      intro o W2 w4 hw4 ho hox h1 h2 hlt hk
      have hp : Same (fun b => b = w.heap.size + 1) W2 w4 := by rcases hw4 with rfl | rfl <;> exact same_put
      have hk4 : w4.heap[w.heap.size]? = some (.deferred (some [])) := by rw [hp.block _ (by omega) (by omega)]; exact hk
      obtain ⟨c1, c2⟩ := hA o W2 w4 _ hox (fun b h => by omega) hp (by omega) h1 h2
      refine .inr ⟨w.heap.size, rfl, hs.size, ⟨fun b => zs.z b ∨ b = w.heap.size ∨ b = w.heap.size + 1⟩, fun b h => .inl h, .inr (.inl rfl), hk4, ?_⟩
      refine @Rel.mk ⟨fun b => zs.z b ∨ b = w.heap.size ∨ b = w.heap.size + 1⟩ _ _ _ _ _ ⟨ρ, hG ⟨fun b => zs.z b ∨ b = w.heap.size ∨ b = w.heap.size + 1⟩ o w4 (fun b h => h) ho hox c1 c2 (by have := hp.size; omega), fun id b hfo hlt' => ?_, h0⟩ (hs.trans c1 fun x hx h => ?_)
      · obtain ⟨o1, l, b1, b2, b3, b4⟩ := hfo
        obtain ⟨o0, d1, d2⟩ := hox id o1 b1 b2
        exact hf id b ⟨o0, l, d1, d2, b3, b4⟩ hlt'
      · obtain ⟨id, h⟩ := h
        exact hf id x h hx
    have happ : ({ a with defers := [mark w.heap.size] ++ a.defers } : Act) = apD a [mark w.heap.size] := by
      unfold apD; rw [hdf]; rfl
    rintro e W2 ⟨⟨v, rfl⟩, hj | ⟨pre, hpre, hj⟩⟩
    · rw [hJ] at hj
      obtain ⟨hYL, ⟨b1, b2⟩, hl, hk⟩ := hj
      refine ⟨none, _, (by have := run_endLoop (P := P) hl (by rw [hrec]; simp); rw [hrec] at this; exact this), ?_⟩
      show liftM cx Q .normal _ _
      rw [happ]
      exact ⟨a, _, _, rfl, hdone hYL, key (ob L) W2 _ (.inl (by rw [hrec])) (hle L).1 (hv1 L) b1 b2 (Array.getElem?_eq_some_iff.1 hl).1 hk⟩
    · rw [hJx] at hj
      obtain ⟨hX, ⟨b1, b2⟩, hl, hk⟩ := hj
      refine ⟨some .ret, _, (by have := run_endLoop (P := P) hl (by rw [hrec]; simp); rw [hrec] at this; exact this), ?_⟩
      rw [happ]
      exact wpIn_ret ⟨a, _, _, rfl, hstop pre hpre hX, key (ob' pre) W2 _ (.inr (by rw [hrec])) (hle pre).2 (hv2 pre) b1 b2 (Array.getElem?_eq_some_iff.1 hl).1 hk⟩
/-- A function that holds a range over a function. -/
theorem AC.mkM {P : Program} {f : FuncId} {fn : Func} {c : Code} {n : Nat} {rs : List ResultVar} {args : List AV} {objs : List AO} {res : AV} {objs' : List AO}
    (hf : P.funcs[f]? = some fn) (hnm : (fn.name == "runtime.NumGoroutine") = false) (hb : fn.body = some c) (hn : fn.ntmps = n) (hle' : Nat.ble args.length n = true) (hr : fn.results = rs.toArray)
    (h : ∀ [Zs] (cx : Cx objs.length), aS P cx c (retA P objs.length rs res objs') ⟨n, argv 0 args, objs⟩) : AC P f args objs res objs' := by
  refine ⟨⟨fn, hf, hnm, by rw [hb]; rfl⟩, ?_⟩
  have hle : args.length ≤ n := Nat.le_of_ble_eq_true hle'
  intro zs ρ w vs hg hsz hargs
  have htl := hg.tt.tl
  refine callsIn_wide.1 (callsIn_of_wp_marks (n := 0) hf hb trivial ?_ rfl)
  have hrel : Rel (⟨w, Own ρ objs, ρ, hg.len⟩ : Cx objs.length) ⟨n, argv 0 args, objs⟩ { tmps := vs ++ Array.replicate (fn.ntmps - vs.size) undef, defers := [] } w := by
    refine ⟨⟨ρ, ⟨fun t => ?_, by simp; omega, rfl, hg⟩, fun id b hfo _ => ⟨id, hfo⟩, fun _ _ h => h⟩, Same.refl _ _⟩
    show Gm ρ w (Ban ρ objs) (getv (argv 0 args) t) _
    rw [getv_argv, if_pos (Nat.zero_le _)]
    by_cases ht : t < args.length
    · have h1 : args[t]? = some args[t] := List.getElem?_eq_getElem ht
      have ht' : t < vs.size := by omega
      have h2 : vs[t]? = some vs[t] := Array.getElem?_eq_getElem ht'
      have h3 : (vs ++ Array.replicate (fn.ntmps - vs.size) undef).getD t undef = vs[t] := by simp [ht', Array.getElem?_append]
      rw [h3]
      simp only [Nat.sub_zero, List.getD_eq_getElem?_getD, h1, Option.getD_some]
      exact hargs t _ _ h1 h2
    · have : args.getD (t - 0) AV.any = .any := by simp; rw [List.getElem?_eq_none (by omega)]; rfl
      rw [this]
      exact .any _
  refine wpIn_mono (h _ _ _ hrel) ?_
  rintro e a w' ⟨a0, st, D, rfl, hq, hM⟩
  have fin : Ends P objs.length rs res objs' st → ∀ w2, Rel (⟨w, Own ρ objs, ρ, hg.len⟩ : Cx objs.length) st a0 w2 → ∃ v, (results fn a0.tmps).run P w2 = .ok v w2 ∧ ∃ v' ρ', Ending.returned v = .returned v' ∧ Same (Own ρ objs) w w2 ∧ Good ρ' w2 objs' ∧ Gm ρ' w2 (Ban ρ' objs') res v' ∧
      (∀ (id : Nat) l, ρ[id]? = some l → ρ'[id]? = some l) ∧ (∀ b, Own ρ' objs' b → b < w.heap.size → Own ρ objs b) := by
    rintro ⟨avs, σ, hrv, ho, hv, hσ⟩ w2 ⟨⟨ρ1, hb1, hf1, h01⟩, hs1⟩
    obtain ⟨v, hrun, hgm⟩ := gm_results hb1 hr hrv
    refine ⟨v, hrun, v, reId ρ1 σ, rfl, hs1, hb1.good.view ho, hv.gm hb1.good ho v hgm, fun id l hl => ?_, fun b hb hlt => ?_⟩
    · have hlt := (List.getElem?_eq_some_iff.1 hl).1
      rw [hg.len] at hlt
      exact reId_get (fixB_spec hσ id hlt) (h01 id l hl)
    · obtain ⟨id', hfo⟩ := hb
      obtain ⟨id, _, hfo'⟩ := foot_view hb1.good ho hfo
      exact hf1 id b hfo' hlt
  have fin2 : Ends P objs.length rs res objs' st → LeavesInM Fence.wide 0 P fn (apD a0 D).tmps (fun e w' => ∃ v ρ', e = .returned v ∧ Same (Own ρ objs) w w' ∧ Good ρ' w' objs' ∧ Gm ρ' w' (Ban ρ' objs') res v ∧
      (∀ (id : Nat) l, ρ[id]? = some l → ρ'[id]? = some l) ∧ (∀ b, Own ρ' objs' b → b < w.heap.size → Own ρ objs b)) (apD a0 D).defers .returning w' := by
    intro hE
    rcases hM with ⟨rfl, hr0⟩ | ⟨r, rfl, hrw, zs1, hz, hzr, hw, hr0⟩
    · have hd : a0.defers = [] := by obtain ⟨_, hb0, _⟩ := hr0.base; exact hb0.defers
      rw [apD_nil, hd]
      exact fin hE w' hr0
    · obtain ⟨⟨ρ1, hb1, hf1, h01⟩, hs1⟩ := hr0
      have hd : a0.defers = [] := by obtain ⟨_, _, hd, _⟩ := hb1; exact hd
      have hput : Same (fun b => b = r) w' (w'.putObj r (.deferred none)) := same_put
      have htab : ∀ p, p ∈ Tab → ¬ p.1 = r := by
        rintro p hp rfl
        have := htl p hp
        have hrw : w.heap.size ≤ p.1 := hrw
        omega
      have hb2 : @RelB zs ρ1 (w'.putObj r (.deferred none)) st a0 := by
        refine @RelB.chg zs1 zs ρ1 w' _ st a0 _ hb1 hput (fun b _ h => by rw [h]; exact hzr) htab (fun b _ h => hz b h) fun b h => ?_
        obtain ⟨_, _, _, _, _, _, _, g2, _⟩ := hb1
        exact Nat.lt_of_lt_of_le (g2 b (hz b h)) hput.size
      show LeavesInM Fence.wide 0 P fn (apD a0 [mark r]).tmps _ (a0.defers ++ [mark r]) .returning w'
      rw [hd]
      refine ⟨by simp, .inl ⟨r, w'.putObj r (.deferred none), rfl, run_takeDeferred hw, ?_⟩⟩
      have hrw : w.heap.size ≤ r := hrw
      exact fin hE _ (@Rel.mk zs _ _ _ _ _ ⟨ρ1, hb2, hf1, h01⟩ (hs1.trans hput fun x hx h => by
        have hx : x < w.heap.size := hx
        omega))
  cases e with
  | normal => exact fin2 hq
  | ret => exact fin2 hq
  | _ => exact hq.elim
end Go.Proofs.Ytdkkalplgfhpdaa
