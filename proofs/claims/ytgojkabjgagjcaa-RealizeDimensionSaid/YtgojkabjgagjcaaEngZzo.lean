import Derived.Test.YtgojkabjgagjcaaEngZza
set_option linter.unusedSimpArgs false
set_option linter.unusedVariables false
set_option linter.unusedSectionVars false
namespace Go.Proofs.Ytgojkabjgagjcaa
open Go.RowKit
/-- As IterD; what is handed on (N: its blocks) is the loop's from then on. -/
def IterG (P : Program) (gm : FuncId) (caps : List AV) {α : Type} (enc : α → AV) (L : List α) : Prop :=
  Enters P gm ∧ ∀ [zs : Zs] (l : Nat) (M : Nat → Prop) (J Jx : List α → (Nat → Prop) → World → Prop) (w : World) (vs : Array Value),
    (∀ b, M b → zs.z b) → (∀ p, p ∈ Tab → ¬ M p.1) → Good [] w [] →
    (∀ pre D W W' Mi, (∀ b, Mi b → w.heap.size ≤ b ∧ ¬ D b) → w.heap.size ≤ W.heap.size → Same Mi W W' → J pre D W → J pre D W') →
    (∀ pre D W W' Mi, (∀ b, Mi b → w.heap.size ≤ b ∧ ¬ D b) → w.heap.size ≤ W.heap.size → Same Mi W W' → Jx pre D W → Jx pre D W') →
    (∀ pre x D (N : Nat → Prop) W v, pre ++ [x] <+: L → J pre D W → w.heap.size ≤ W.heap.size → (∀ b, N b → w.heap.size ≤ b ∧ b < W.heap.size) → Gm [] W (fun b => zs.z b ∨ D b ∨ (w.heap.size ≤ b ∧ ¬ N b)) (enc x) v →
      YieldAt Fence.wide 0 P l #[v] W fun e W' => ∃ D' : Nat → Prop, (∀ b, D' b → D b ∨ N b ∨ W.heap.size ≤ b) ∧ (∀ b, D b → D' b) ∧ (∀ b, D' b → b < W'.heap.size) ∧ (∀ b, D' b → w.heap.size ≤ b) ∧ Same (fun b => M b ∨ D b) W W' ∧ ((e = .returned (.bool true) ∧ J (pre ++ [x]) D' W') ∨ (e = .returned (.bool false) ∧ Jx (pre ++ [x]) D' W'))) →
    J [] (fun _ => False) w → vs.size = caps.length → (∀ (i : Nat) (av : AV) (v : Value), caps[i]? = some av → vs[i]? = some v → Gm [] w (Ban [] []) av v) →
    Calls P gm (#[.func (.yield l) #[] #[]] ++ vs) w fun e w' => (∃ v, e = .returned v) ∧ ((∃ D, J L D w') ∨ ∃ pre D, pre <+: L ∧ Jx pre D w')
theorem s_rangeG [zs : Zs] {P : Program} {k : Nat} {cx : Cx k} {g : Operand} {p : Tmp} {assign body : Code} {Q : Exit → St → Prop} {n : Nat} {vars : List (Nat × AV)} {gm : FuncId} {caps : List AV} {α : Type} {enc : α → AV} {L : List α}
    (ob ob' : List α → List AO) (Y X : List α → Prop) (v1 : α → List (Nat × AV)) (hg : St.ev ⟨n, vars, ob []⟩ g = .clo gm caps) (hro : roL caps = true) (hit : IterG P gm caps enc L) (hen : ∀ x, roA (enc x) = true) (hp : Nat.blt p n = true)
    (has : ∀ [Zs] {k' : Nat} (cx' : Cx k') (l : Nat) (pre : List α) (x : α), pre ++ [x] <+: L → aR P cx' l assign (thenA (fun st => st = ⟨n, v1 x, ob pre⟩) (fun _ _ => False)) ⟨n, (p, enc x) :: vars, ob pre⟩)
    (h0Y : Y []) (hbody : ∀ [Zs] (cx' : Cx (ob []).length) (l : Nat) (pre : List α) (x : α), pre ++ [x] <+: L → Y pre → aR P cx' l body (roundA (ob (pre ++ [x])) (ob' (pre ++ [x])) (Y (pre ++ [x])) (X (pre ++ [x]))) ⟨n, v1 x, ob pre⟩)
    (hdone : Y L → Q .normal ⟨n, vars, ob L⟩) (hstop : ∀ pre, pre <+: L → X pre → Q .ret ⟨n, vars, ob' pre⟩) :
    aS P cx (.rangeFunc g #[p] assign body) Q ⟨n, vars, ob []⟩ := by
  intro a w hr
  obtain ⟨⟨ρ, hb, hf, h0⟩, hs⟩ := hr
  have hgv := hb.ev g
  rw [hg] at hgv
  obtain ⟨vs, e1, e2, e3⟩ := hgv.clo_inv
  have hdf : a.defers = [] := hb.defers
  refine wpIn_rangeFunc ?_
  intro fn hfn
  obtain ⟨rec, hrec⟩ : ∃ rec : LoopState → Option Code → Loop, rec = fun st pe => { state := st, pending := pe, fn, tmps := a.tmps, params := #[p], assign, body, defers := w.heap.size } := ⟨_, rfl⟩
  obtain ⟨W1, hW1⟩ : ∃ W1, (w.alloc (.deferred (some []))).alloc (.loop (rec .ready none)) = W1 := ⟨_, rfl⟩
  have hsz1 : W1.heap.size = w.heap.size + 2 := by rw [← hW1]; simp
  have hL1 : W1.heap[w.heap.size + 1]? = some (.loop (rec .ready none)) := by
    rw [← hW1]; have := World.alloc_heap_new (w.alloc (.deferred (some []))) (.loop (rec .ready none)); rwa [World.size_alloc] at this
  have hK1 : W1.heap[w.heap.size]? = some (.deferred (some [])) := by
    rw [← hW1]; exact (Below.heap_alloc _ _ _ (by simp)).trans (World.alloc_heap_new w _)
  have hS1 : Same (fun _ => False) w W1 := by
    rw [← hW1]; exact (Same.alloc _ _ _).trans (Same.alloc _ _ _) fun _ _ h => h
  have hfl : ∀ {id b}, foot ρ (ob []) id b → b < w.heap.size := fun hfo => foot_lt hb.good hfo
  obtain ⟨hfr, hsz, _, hgd⟩ := hb
  have hgg := hgd
  obtain ⟨gl, gs, gd, gz, gzl, gt⟩ := hgg
  have hown0 : ∀ b, Own ρ (ob []) b → b < w.heap.size := fun b ⟨id, h⟩ => hfl h
  -- what holds of the loop's objects at a later time
  obtain ⟨St, hSt⟩ : ∃ St : Ids → List AO → (Nat → Prop) → World → Prop, St = fun ρ' o D W => (∀ (id : Nat) l, ρ[id]? = some l → ρ'[id]? = some l) ∧ ρ'.length = o.length ∧ (∀ (id : Nat) (o1 : AO), o[id]? = some o1 → SatO ρ' W (fun b => Own ρ' o b ∨ zs.z b ∨ (w.heap.size ≤ b ∧ ¬ D b)) id o1) ∧
      (∀ i j b, foot ρ' o i b → foot ρ' o j b → i = j) ∧ (∀ b, Own ρ' o b → Own ρ (ob []) b ∨ D b) ∧ Same (Own ρ (ob [])) w W ∧ (∀ b, D b → w.heap.size + 2 ≤ b ∧ b < W.heap.size) ∧ w.heap.size + 2 ≤ W.heap.size := ⟨_, rfl⟩
  have hownlt : ∀ {ρ' o D W}, St ρ' o D W → ∀ b, Own ρ' o b → b < W.heap.size := by
    intro ρ' o D W h b hb
    rw [hSt] at h
    obtain ⟨_, _, _, _, d1, d2, d3, d4⟩ := h
    rcases d1 b hb with h | h
    · have := hown0 b h; omega
    · exact (d3 b h).2
  have hG : ∀ (zr : Zs) (ρ' : Ids) (o : List AO) (D : Nat → Prop) (W : World), (∀ b, zr.z b → zs.z b ∨ (w.heap.size ≤ b ∧ b < W.heap.size ∧ ¬ D b)) → St ρ' o D W → @RelB zr ρ' W ⟨n, vars, o⟩ a := by
    intro zr ρ' o D W hz hst
    have hlt := hownlt hst
    rw [hSt] at hst
    obtain ⟨d1, d2, d3, d4, d5, d6, d7, d8⟩ := hst
    refine ⟨fun t => (hfr t).mono (@Same.ban zs _ _ _ _ d6) (fun b hb hx => ?_) d1, hsz, hdf, d2, fun id o1 h1 => ?_, d4, fun id b hfo hzb => ?_, fun b hzb => ?_, ?_⟩
    · rcases hx with h | h
      · rcases d5 b h with h | h
        · exact .inl h
        · have := (d7 b h).1; omega
      · rcases hz b h with h | h
        · exact .inr h
        · omega
    · refine (d3 id o1 h1).chg (Same.refl _ _) (fun b _ hx => ?_) fun _ _ _ _ _ _ _ _ => rfl
      rcases hx with h | h
      · exact .inl h
      · rcases hz b h with h | h
        · exact .inr (.inl h)
        · exact .inr (.inr ⟨h.1, h.2.2⟩)
    · have h5 := d5 b ⟨id, hfo⟩
      rcases hz b hzb with h | h
      · rcases h5 with ⟨id0, h5⟩ | h5
        · exact gz id0 b h5 h
        · have := gzl b h; have := (d7 b h5).1; omega
      · rcases h5 with h5 | h5
        · have := hown0 b h5; omega
        · exact h.2.2 h5
    · rcases hz b hzb with h | h
      · have := gzl b h; omega
      · exact h.2.1
    · refine gt.step d6 fun b hb h => ?_
      rcases d5 b h with h | h
      · exact h
      · have := (d7 b h).1; omega
  have hTab : ∀ p, p ∈ Tab → ¬ (Own ρ (ob []) p.1 ∨ p.1 = w.heap.size + 1) := by
    rintro p hp (h | h)
    · exact gt.tf p hp h
    · have := gt.tl p hp; omega
  -- such a state abides what turns elsewhere
  have hA : ∀ (ρ' : Ids) (o : List AO) (D : Nat → Prop) (W W' : World) (Mi : Nat → Prop), (∀ b, Mi b → w.heap.size ≤ b ∧ ¬ D b) → Same Mi W W' → St ρ' o D W → St ρ' o D W' := by
    intro ρ' o D W W' Mi hMi hsi hst
    rw [hSt] at hst ⊢
    obtain ⟨d1, d2, d3, d4, d5, d6, d7, d8⟩ := hst
    refine ⟨d1, d2, fun id o1 ho => ?_, d4, d5, d6.trans hsi fun x hx hm => absurd (hMi x hm).1 (by omega), fun b hb => ⟨(d7 b hb).1, Nat.lt_of_lt_of_le (d7 b hb).2 hsi.size⟩, Nat.le_trans d8 hsi.size⟩
    refine (d3 id o1 ho).chg (hsi.wk fun b _ h => .inr (.inr (hMi b h))) (fun _ _ h => h) fun hlv' l v b hl hv hb hlt => hsi.block b hlt fun hm => ?_
    rcases d5 b ⟨id, o1, l, ho, hlv', hl, v, hv, hb⟩ with h | h
    · have := hown0 b h; have := (hMi b hm).1; omega
    · exact (hMi b hm).2 h
  obtain ⟨J, hJ⟩ : ∃ J : List α → (Nat → Prop) → World → Prop, J = fun pre D W => Y pre ∧ (∃ ρ', St ρ' (ob pre) D W) ∧ W.heap[w.heap.size + 1]? = some (.loop (rec .ready none)) ∧ W.heap[w.heap.size]? = some (.deferred (some [])) := ⟨_, rfl⟩
  obtain ⟨Jx, hJx⟩ : ∃ Jx : List α → (Nat → Prop) → World → Prop, Jx = fun pre D W => X pre ∧ (∃ ρ', St ρ' (ob' pre) D W) ∧ W.heap[w.heap.size + 1]? = some (.loop (rec .done (some .ret))) ∧ W.heap[w.heap.size]? = some (.deferred (some [])) := ⟨_, rfl⟩
  refine ⟨w.heap.size + 1, [mark w.heap.size], W1, { target := .fn (.func gm) vs, args := #[.func (.yield (w.heap.size + 1)) #[] #[]] }, W1, gm,
    #[.func (.yield (w.heap.size + 1)) #[] #[]] ++ vs, W1, ?_, ?_, fun _ _ => trivial, ?_, fun h => (by cases h), ?_⟩
  · rw [← hW1, hrec]; exact run_enterLoop_outer _ _ _ _ _
  · simp only [resolve, e1]
    simp [go_sem]
  · simp [invoke, go_sem, hit.1.run]
  refine callsIn_wide.2 ((@hit.2 ⟨fun b => (Own ρ (ob []) b ∨ zs.z b) ∨ b = w.heap.size ∨ b = w.heap.size + 1⟩ (w.heap.size + 1) (fun b => Own ρ (ob []) b ∨ b = w.heap.size + 1) J Jx W1 vs ?_ hTab ?_ ?_ ?_ ?_ ?_ e2.symm ?_).mono ?_)
  · rintro b (h | h)
    · exact .inl (.inl h)
    · exact .inr (.inr h)
  · refine @Good.mk ⟨fun b => (Own ρ (ob []) b ∨ zs.z b) ∨ b = w.heap.size ∨ b = w.heap.size + 1⟩ [] W1 [] rfl (fun id o h => by simp at h) (fun i j b ⟨o, l, h, _⟩ => by simp at h) (fun i b ⟨o, l, h, _⟩ => by simp at h) (fun b hz => ?_) (gt.step (hS1.wk fun _ _ h => h.elim) fun b _ ⟨id, o, l, h, _⟩ => by simp at h)
    rcases hz with (⟨id, h⟩ | h) | h | h
    · have := hfl h; omega
    · have := gzl b h; omega
    · omega
    · omega
  · intro pre D W W' Mi hMi hWs hsi hj
    rw [hJ] at hj ⊢
    obtain ⟨a0, ⟨ρ', a1⟩, a3, a4⟩ := hj
    refine ⟨a0, ⟨ρ', hA ρ' _ D W W' Mi (fun b hm => ⟨by have := (hMi b hm).1; omega, (hMi b hm).2⟩) hsi a1⟩, ?_, ?_⟩
    · rw [hsi.block _ (by omega) fun hm => by have := (hMi _ hm).1; omega]; exact a3
    · rw [hsi.block _ (by omega) fun hm => by have := (hMi _ hm).1; omega]; exact a4
  · intro pre D W W' Mi hMi hWs hsi hj
    rw [hJx] at hj ⊢
    obtain ⟨a0, ⟨ρ', a1⟩, a3, a4⟩ := hj
    refine ⟨a0, ⟨ρ', hA ρ' _ D W W' Mi (fun b hm => ⟨by have := (hMi b hm).1; omega, (hMi b hm).2⟩) hsi a1⟩, ?_, ?_⟩
    · rw [hsi.block _ (by omega) fun hm => by have := (hMi _ hm).1; omega]; exact a3
    · rw [hsi.block _ (by omega) fun hm => by have := (hMi _ hm).1; omega]; exact a4
  · -- one round
    intro pre x D N W v hpre hj hWs hN hxv
    rw [hJ] at hj
    obtain ⟨hYp, ⟨ρ', hst⟩, hl, hk⟩ := hj
    have hrb := hG ⟨fun b => zs.z b ∨ (w.heap.size ≤ b ∧ b < W.heap.size ∧ ¬ D b ∧ ¬ N b)⟩ ρ' (ob pre) D W (fun b h => h.imp id fun h => ⟨h.1, h.2.1, h.2.2.1⟩) hst
    have hownl := hownlt hst
    have hst0 := hst
    rw [hSt] at hst
    obtain ⟨d1, d2, d3, d4, d5, d6, d7, d8⟩ := hst
    have hy : (Instr.yield (w.heap.size + 1) #[v]).run P W = .ok (.round (w.heap.size + 1) fn (a.tmps.setIfInBounds p v) assign body) W := by
      have := run_yield (P := P) (args := #[v]) hl (by rw [hrec]; rfl)
      rw [hrec] at this
      simpa using this
    refine ⟨fn, _, assign, body, hy, roundIn_of_wpIn hfn ?_⟩
    clear hy
    have hltl : w.heap.size + 1 < W.heap.size := by omega
    have hzrs : ∀ b, zs.z b ∨ (w.heap.size ≤ b ∧ b < W.heap.size ∧ ¬ D b ∧ ¬ N b) → @Zs.z ⟨fun b => zs.z b ∨ (w.heap.size ≤ b ∧ b < W.heap.size ∧ ¬ D b ∧ ¬ N b)⟩ b := fun b h => h
    have hzrs2 : ∀ b, @Zs.z ⟨fun b => zs.z b ∨ (w.heap.size ≤ b ∧ b < W.heap.size ∧ ¬ D b ∧ ¬ N b)⟩ b → zs.z b ∨ (w.heap.size ≤ b ∧ b < W.heap.size ∧ ¬ D b ∧ ¬ N b) := fun b h => h
    generalize (⟨fun b => zs.z b ∨ (w.heap.size ≤ b ∧ b < W.heap.size ∧ ¬ D b ∧ ¬ N b)⟩ : Zs) = zr at hrb hzrs hzrs2
    have hzl : zr.z (w.heap.size + 1) := hzrs _ (.inr ⟨by omega, hltl, fun h => by have := (d7 _ h).1; omega, fun h => by have := (hN _ h).1; omega⟩)
    have hzk : zr.z w.heap.size := hzrs _ (.inr ⟨by omega, by omega, fun h => by have := (d7 _ h).1; omega, fun h => by have := (hN _ h).1; omega⟩)
    have hxv' : Gm ρ' W (@Ban zr ρ' (ob pre)) (enc x) v := by
      refine roA_gm (ρ := []) (hxv.mono (Same.refl _ _) (fun b _ hx => ?_) fun _ _ h => h) (hen x)
      rcases hx with h | h
      · rcases d5 b h with h | h
        · exact .inl (.inl (.inl h))
        · exact .inr (.inl h)
      · rcases hzrs2 b h with h | ⟨h1, h2, h3, h4⟩
        · exact .inl (.inl (.inr h))
        · by_cases hb : b = w.heap.size ∨ b = w.heap.size + 1
          · exact .inl (.inr hb)
          · exact .inr (.inr ⟨by omega, h4⟩)
    have hne : ∀ b, Own ρ' (ob pre) b → b ≠ w.heap.size ∧ b ≠ w.heap.size + 1 := fun b h => by
      rcases d5 b h with h | h
      · have := hown0 b h; omega
      · have := (d7 b h).1; omega
    have hput := @RelB.put zr ρ' W ⟨n, vars, ob pre⟩ a hrb p (enc x) v hp hxv'
    have hact : a.put (some p) v = { tmps := a.tmps.setIfInBounds p v, defers := [] } := by
      show ({ a with tmps := a.tmps.setIfInBounds p v } : Act) = _
      rw [hdf]
    rw [hact] at hput
    have hrel1 : @Rel zr _ (⟨W, Own ρ' (ob pre), ρ', d2⟩ : Cx (ob pre).length) ⟨n, (p, enc x) :: vars, ob pre⟩ { tmps := a.tmps.setIfInBounds p v, defers := [] } W :=
      ⟨⟨ρ', hput, fun id b h _ => ⟨id, h⟩, fun _ _ h => h⟩, Same.refl _ _⟩
    refine wpIn_mono (@has zr _ (⟨W, Own ρ' (ob pre), ρ', d2⟩ : Cx (ob pre).length) (w.heap.size + 1) pre x hpre _ W hrel1) ?_
    rintro e A2 w2 ⟨st2, q2, r2⟩
    cases e with
    | normal =>
      obtain rfl : st2 = ⟨n, v1 x, ob pre⟩ := q2
      obtain ⟨⟨ρ2, hb2, hf2, h02⟩, hs2⟩ := r2
      obtain rfl : ρ2 = ρ' := ids_eq h02 (by have := hb2; obtain ⟨_, _, _, g2, _⟩ := this; exact g2.trans d2.symm)
      have hl2 : w2.heap[w.heap.size + 1]? = some (.loop (rec .ready none)) := by
        rw [hs2.block _ hltl fun h => (hne _ h).2 rfl]; exact hl
      have hk2 : w2.heap[w.heap.size]? = some (.deferred (some [])) := by
        rw [hs2.block _ (by show w.heap.size < W.heap.size; omega) fun h => (hne _ h).1 rfl]; exact hk
      have hlt2 : w.heap.size + 1 < w2.heap.size := Nat.lt_of_lt_of_le hltl hs2.size
      refine ⟨_, run_beginRound hl2 (by rw [hrec]), ?_⟩
      generalize hw3 : w2.putObj (w.heap.size + 1) (.loop { rec .ready none with state := .busy }) = w3
      have hs3 : Same (fun b => b = w.heap.size + 1) w2 w3 := by rw [← hw3]; exact same_put
      have hz3 : w3.heap.size = w2.heap.size := by rw [← hw3]; exact World.putObj_size ..
      have hl3 : w3.heap[w.heap.size + 1]? = some (.loop { rec .ready none with state := .busy }) := by rw [← hw3]; exact World.putObj_heap_same hlt2
      have hk3 : w3.heap[w.heap.size]? = some (.deferred (some [])) := by rw [← hw3]; exact (World.putObj_heap_other (by omega)).trans hk2
      have hb3 : @RelB zr ρ2 w3 ⟨n, v1 x, ob pre⟩ A2 := by
        refine @RelB.chg zr zr ρ2 w2 w3 _ A2 _ hb2 hs3 (fun b _ h => by rw [h]; exact hzl) (fun p hp h => ?_) (fun _ _ h => h) (fun b h => ?_)
        · have := gt.tl p hp; omega
        · obtain ⟨_, _, _, _, _, _, _, g2, _⟩ := hb2
          exact Nat.lt_of_lt_of_le (g2 b h) hs3.size
      have hrel3 : @Rel zr _ (⟨w3, Own ρ2 (ob pre), ρ, gl⟩ : Cx (ob []).length) ⟨n, v1 x, ob pre⟩ A2 w3 := ⟨⟨ρ2, hb3, fun id b h _ => ⟨id, h⟩, d1⟩, Same.refl _ _⟩
      refine wpIn_mono (@hbody zr (⟨w3, Own ρ2 (ob pre), ρ, gl⟩ : Cx (ob []).length) (w.heap.size + 1) pre x hpre hYp A2 w3 hrel3) ?_
      rintro e A4 w4 ⟨st4, q4, ⟨⟨ρ4, hb4, hf4, h04⟩, hs4⟩⟩
      have hlt3 : w.heap.size + 1 < w3.heap.size := Nat.lt_of_lt_of_le hlt2 hs3.size
      have hl4 : w4.heap[w.heap.size + 1]? = some (.loop { rec .ready none with state := .busy }) := by
        rw [hs4.block _ hlt3 fun h => (hne _ h).2 rfl]; exact hl3
      have hk4 : w4.heap[w.heap.size]? = some (.deferred (some [])) := by
        rw [hs4.block _ (by show w.heap.size < w3.heap.size; omega) fun h => (hne _ h).1 rfl]; exact hk3
      have hlt4 : w.heap.size + 1 < w4.heap.size := Nat.lt_of_lt_of_le hlt3 hs4.size
      have hWw3 : W.heap.size ≤ w3.heap.size := Nat.le_trans hs2.size hs3.size
      -- the round is over
      have fin : ∀ (jump : Option Code) (o : List AO), st4.objs = o →
          ∃ w5, (Instr.endRound (w.heap.size + 1) jump).run P w4 = .ok (.bool jump.isNone) w5 ∧ ∃ D' : Nat → Prop, (∀ b, D' b → D b ∨ N b ∨ W.heap.size ≤ b) ∧ (∀ b, D b → D' b) ∧ (∀ b, D' b → b < w5.heap.size) ∧ (∀ b, D' b → W1.heap.size ≤ b) ∧ Same (fun b => (Own ρ (ob []) b ∨ b = w.heap.size + 1) ∨ D b) W w5 ∧
            (∃ ρ', St ρ' o D' w5) ∧ w5.heap[w.heap.size + 1]? = some (.loop (rec (if jump.isNone then .ready else .done) jump)) ∧ w5.heap[w.heap.size]? = some (.deferred (some [])) := by
        rintro jump o rfl
        have hr5 := run_endRound (P := P) jump hl4
        rw [hrec] at hr5 ⊢
        obtain ⟨_, _, _, hg4⟩ := hb4
        have hfl4 : ∀ {id b}, foot ρ4 st4.objs id b → b < w4.heap.size := fun h => @foot_lt zr _ _ _ hg4 _ _ h
        obtain ⟨g4l, g4s, g4d, g4z, _, _⟩ := hg4
        generalize hw5 : w4.putObj (w.heap.size + 1) _ = w5 at hr5
        have hs5 : Same (fun b => b = w.heap.size + 1) w4 w5 := by rw [← hw5]; exact same_put
        have hall : Same (fun b => (Own ρ (ob []) b ∨ b = w.heap.size + 1) ∨ D b) W w5 := by
          refine ((hs2.wk fun b _ h => ?_).trans hs3 fun x _ h => Or.inl (Or.inr h)).trans ((hs4.wk fun b _ h => ?_).trans hs5 fun x _ h => Or.inl (Or.inr h)) fun x _ h => h
          · rcases d5 b h with h | h
            · exact .inl (.inl h)
            · exact .inr h
          · rcases d5 b h with h | h
            · exact .inl (.inl h)
            · exact .inr h
        refine ⟨w5, hr5, fun b => D b ∨ N b ∨ (W.heap.size ≤ b ∧ b < w5.heap.size), fun b h => h.imp id fun h => h.imp id (·.1), fun b h => .inl h, ?_, ?_, hall, ⟨ρ4, ?_⟩, by rw [← hw5]; exact World.putObj_heap_same hlt4, by rw [← hw5]; exact (World.putObj_heap_other (by omega)).trans hk4⟩
        · rintro b (h | h | h)
          · exact Nat.lt_of_lt_of_le (d7 b h).2 hall.size
          · exact Nat.lt_of_lt_of_le (hN b h).2 hall.size
          · exact h.2
        · rintro b (h | h | h)
          · have := (d7 b h).1; omega
          · exact (hN b h).1
          · omega
        · rw [hSt]
          refine ⟨fun id l h => h04 id l h, g4l, fun id o1 h1 => ?_, g4d, ?_, ?_, ?_, ?_⟩
          · refine (g4s id o1 h1).chg (hs5.wk fun b _ h => .inr (by rw [h]; exact hzl)) (fun b hb hx => ?_) fun hlv' l v b hl hv hb hlt => hs5.block b hlt ?_
            · rcases hx with h | h | ⟨h, hd⟩
              · exact .inl h
              · exact .inr (hzrs b (.inl h))
              · refine .inr (hzrs b (.inr ⟨h, ?_, fun h' => hd (.inl h'), fun h' => hd (.inr (.inl h'))⟩))
                rcases Nat.lt_or_ge b W.heap.size with h' | h'
                · exact h'
                · exact absurd (.inr (.inr ⟨h', Nat.lt_of_lt_of_le hb hs5.size⟩)) hd
            · rintro rfl
              exact g4z id _ ⟨o1, l, h1, hlv', hl, v, hv, hb⟩ hzl
          · rintro b ⟨id, h⟩
            rcases Nat.lt_or_ge b w3.heap.size with hlt | hge
            · rcases d5 b (hf4 id b h hlt) with h | h
              · exact .inl h
              · exact .inr (.inl h)
            · exact .inr (.inr (.inr ⟨Nat.le_trans hWw3 hge, Nat.lt_of_lt_of_le (hfl4 h) hs5.size⟩))
          · refine d6.trans hall fun x hx h => ?_
            rcases h with (h | h) | h
            · exact h
            · omega
            · have := (d7 x h).1; omega
          · rintro b (h | h | h)
            · exact ⟨(d7 b h).1, Nat.lt_of_lt_of_le (d7 b h).2 hall.size⟩
            · have := hN b h; exact ⟨by omega, Nat.lt_of_lt_of_le this.2 hall.size⟩
            · exact ⟨by omega, h.2⟩
          · exact Nat.le_trans d8 hall.size
      cases e with
      | normal =>
        obtain ⟨w5, b1, D', c1, c2, c3, c4, c5, c6, b4, b5⟩ := fin none _ q4.2
        exact ⟨_, w5, b1, D', c1, c2, c3, c4, c5, .inl ⟨rfl, by rw [hJ]; exact ⟨q4.1, c6, b4, b5⟩⟩⟩
      | ret =>
        obtain ⟨w5, b1, D', c1, c2, c3, c4, c5, c6, b4, b5⟩ := fin (some .ret) _ q4.2
        exact ⟨_, w5, b1, D', c1, c2, c3, c4, c5, .inr ⟨rfl, by rw [hJx]; exact ⟨q4.1, c6, b4, b5⟩⟩⟩
      | _ => exact q4.elim
    | _ => exact q2.elim
  · rw [hJ]
    refine ⟨h0Y, ⟨ρ, ?_⟩, hL1, hK1⟩
    rw [hSt]
    refine ⟨fun _ _ h => h, gl, fun id o1 ho => ?_, gd, fun b h => .inl h, hS1.wk fun _ _ h => h.elim, fun b h => h.elim, by omega⟩
    refine (gs id o1 ho).chg (hS1.wk fun _ _ h => h.elim) (fun b hb hx => ?_) fun hlv' l v b hl hv hb hlt => hS1.block b hlt fun h => h
    rcases hx with h | h | h
    · exact .inl h
    · exact .inr h
    · omega
  · intro i av v h1 h2
    refine roA_gm (ρ := ρ) ((e3 i av v h1 h2).mono (@Same.ban zs _ _ _ _ (hS1.wk fun _ _ h => h.elim)) (fun b hb hx => ?_) fun _ _ h => h) (roL_get hro h1)
    rcases hx with ⟨id, o, l, h, _⟩ | (h | h) | h | h
    · simp at h
    · exact .inl h
    · exact .inr h
    · omega
    · omega
  · -- behind the loop
    have key : ∀ (o : List AO) (D : Nat → Prop) (W2 w4 : World), w4 = W2.putObj (w.heap.size + 1) (.loop { rec .ready none with state := .exhausted }) ∨ w4 = W2.putObj (w.heap.size + 1) (.loop { rec .done (some .ret) with state := .exhausted }) →
        (∃ ρ', St ρ' o D W2) → w.heap.size + 1 < W2.heap.size → W2.heap[w.heap.size]? = some (.deferred (some [])) → RelM cx ⟨n, vars, o⟩ a w4 [mark w.heap.size] := by
      rintro o D W2 w4 hw4 ⟨ρ', h1⟩ hlt hk
      have hp : Same (fun b => b = w.heap.size + 1) W2 w4 := by rcases hw4 with rfl | rfl <;> exact same_put
      have hk4 : w4.heap[w.heap.size]? = some (.deferred (some [])) := by rw [hp.block _ (by omega) (by omega)]; exact hk
      have hnd : ¬ D (w.heap.size + 1) := fun h => by
        rw [hSt] at h1
        obtain ⟨_, _, _, _, _, _, d7, _⟩ := h1
        have := (d7 _ h).1; omega
      have c1 := hA ρ' o D W2 w4 _ (fun b h => ⟨by omega, by rw [h]; exact hnd⟩) hp h1
      have hrb := hG ⟨fun b => zs.z b ∨ b = w.heap.size ∨ b = w.heap.size + 1⟩ ρ' o D w4 (fun b h => h.imp id fun h => (by
        have hc1 := c1
        rw [hSt] at hc1
        obtain ⟨_, _, _, _, _, _, d7, d8⟩ := hc1
        exact ⟨by omega, by omega, fun h' => by have := (d7 b h').1; omega⟩)) c1
      rw [hSt] at c1
      obtain ⟨d1, d2, d3, d4, d5, d6, d7, d8⟩ := c1
      refine .inr ⟨w.heap.size, rfl, hs.size, ⟨fun b => zs.z b ∨ b = w.heap.size ∨ b = w.heap.size + 1⟩, fun b h => .inl h, .inr (.inl rfl), hk4, ?_⟩
      refine @Rel.mk ⟨fun b => zs.z b ∨ b = w.heap.size ∨ b = w.heap.size + 1⟩ _ _ _ _ _ ⟨ρ', hrb, fun id b hfo hlt' => ?_, fun id l h => d1 id l (h0 id l h)⟩ (hs.trans d6 fun x hx h => ?_)
      · rcases d5 b ⟨id, hfo⟩ with ⟨id0, h⟩ | h
        · exact hf id0 b h hlt'
        · have := (d7 b h).1; have := hs.size; omega
      · obtain ⟨id, h⟩ := h
        exact hf id x h hx
    have happ : ({ a with defers := [mark w.heap.size] ++ a.defers } : Act) = apD a [mark w.heap.size] := by
      unfold apD; rw [hdf]; rfl
    rintro e W2 ⟨⟨v, rfl⟩, ⟨D, hj⟩ | ⟨pre, D, hpre, hj⟩⟩
    · rw [hJ] at hj
      obtain ⟨hYL, b1, hl, hk⟩ := hj
      refine ⟨none, _, (by have := run_endLoop (P := P) hl (by rw [hrec]; simp); rw [hrec] at this; exact this), ?_⟩
      show liftM cx Q .normal _ _
      rw [happ]
      exact ⟨a, _, _, rfl, hdone hYL, key (ob L) D W2 _ (.inl (by rw [hrec])) b1 (Array.getElem?_eq_some_iff.1 hl).1 hk⟩
    · rw [hJx] at hj
      obtain ⟨hX, b1, hl, hk⟩ := hj
      refine ⟨some .ret, _, (by have := run_endLoop (P := P) hl (by rw [hrec]; simp); rw [hrec] at this; exact this), ?_⟩
      rw [happ]
      exact wpIn_ret ⟨a, _, _, rfl, hstop pre hpre hX, key (ob' pre) D W2 _ (.inr (by rw [hrec])) b1 (Array.getElem?_eq_some_iff.1 hl).1 hk⟩
/-- What a round does with what it is given. -/
def YlG [zs : Zs] {P : Program} {α : Type} {L : List α} {enc : α → AV} {k : Nat} {cx : Cx k} (G : Gd P L enc cx) : Prop :=
  ∀ pre x D (N : Nat → Prop) W v, pre ++ [x] <+: L → G.JJ (pre, false) D W → cx.w0.heap.size ≤ W.heap.size → (∀ b, N b → cx.w0.heap.size ≤ b ∧ b < W.heap.size) → Gm [] W (fun b => zs.z b ∨ D b ∨ (cx.w0.heap.size ≤ b ∧ ¬ N b)) (enc x) v →
      YieldAt Fence.wide 0 P G.l #[v] W fun e W' => ∃ D' : Nat → Prop, (∀ b, D' b → D b ∨ N b ∨ W.heap.size ≤ b) ∧ (∀ b, D b → D' b) ∧ (∀ b, D' b → b < W'.heap.size) ∧ (∀ b, D' b → cx.w0.heap.size ≤ b) ∧ Same (fun b => G.M b ∨ D b) W W' ∧ ((e = .returned (.bool true) ∧ G.JJ (pre ++ [x], false) D' W') ∨ (e = .returned (.bool false) ∧ G.JJ (pre ++ [x], true) D' W'))
/-- An object is given away: its blocks are set aside. -/
theorem RelB.give {z0 : Zs} {ρ : Ids} {w : World} {st : St} {a : Act} {id : Nat} (h : @RelB z0 ρ w st a) : @RelB (ZD z0 (foot ρ st.objs id)) ρ w ⟨st.n, st.vars, st.objs.set id .gone⟩ a := by
  obtain ⟨fr, sz, df, hg⟩ := h
  have hfl : ∀ {id b}, foot ρ st.objs id b → b < w.heap.size := fun hfo => @foot_lt z0 _ _ _ hg _ _ hfo
  obtain ⟨gl, gs, gd, gz, gzl, gt⟩ := hg
  have hf : ∀ {j b}, foot ρ (st.objs.set id .gone) j b → foot ρ st.objs j b ∧ j ≠ id := by
    rintro j b ⟨o, l, a1, a2, a3, a4⟩
    rw [List.getElem?_set] at a1
    split at a1
    · split at a1
      · cases a1; cases a2
      · cases a1
    · rename_i hne
      exact ⟨⟨o, l, a1, a2, a3, a4⟩, fun e => hne e.symm⟩
  have hban : ∀ b, @Ban (ZD z0 (foot ρ st.objs id)) ρ (st.objs.set id .gone) b → @Ban z0 ρ st.objs b := by
    rintro b (⟨j, h⟩ | h | h)
    · exact .inl ⟨j, (hf h).1⟩
    · exact .inr h
    · exact .inl ⟨id, h⟩
  have hgood : @Good (ZD z0 (foot ρ st.objs id)) ρ w (st.objs.set id .gone) := by
    refine @Good.mk (ZD z0 (foot ρ st.objs id)) ρ w (st.objs.set id .gone) (gl.trans (show (st.objs.set id AO.gone).length = st.objs.length from List.length_set).symm) (fun j o ho => ?_) (fun i j b hi hj => gd i j b (hf hi).1 (hf hj).1) (fun j b hfo hz => ?_) (fun b hz => ?_) (gt.step (Same.refl (Own ρ st.objs) w) fun b _ h => h.elim fun j h => ⟨j, (hf h).1⟩)
    · rw [List.getElem?_set] at ho
      split at ho
      · split at ho
        · cases ho; trivial
        · cases ho
      · exact (gs j o ho).chg (Same.refl _ _) (fun b _ h => hban b h) fun _ _ _ _ _ _ _ _ => rfl
    · obtain ⟨h1, h2⟩ := hf hfo
      rcases hz with hz | hz
      · exact gz j b h1 hz
      · exact h2 (gd j id b h1 hz)
    · rcases hz with hz | hz
      · exact gzl b hz
      · exact hfl hz
  exact @RelB.mk (ZD z0 (foot ρ st.objs id)) ρ w ⟨st.n, st.vars, st.objs.set id .gone⟩ a (fun t => (fr t).mono (Same.refl _ _) (fun b _ h => hban b h) fun _ _ h => h) sz df hgood
section
variable {P : Program} {α : Type} {L : List α} {enc : α → AV} {k : Nat}
variable {Q : Exit → St → List α × Bool → Prop} {st : St} {g : List α × Bool}
/-- A region in which a row of the function's own is handed on, and given away. -/
theorem g_yield {zs : Zs} {cx : Cx k} {G : Gd P L enc cx} (hyl : YlG G) {id : Nat} {ops : List Oper} (i : Nat) {l2 : List Oper} {d : Tmp} {gy gx : Operand} {ats : Array TypeId} {ty : TypeId} {pos : String} {af : Array Edge} {gd : Option (Nat × Bool)} {s1 : St} {pre : List α} {x : α} {ig : Nat} {e : TypeId} {sz : Nat} {cs : List Dat}
    (hsp : ops.drop i = ⟨some d, .call ⟨.value gy, #[gx], ats⟩, ty, pos, af, gd⟩ :: l2) (hd1 : noD (ops.take i) = true) (hd2 : noD l2 = true) (hq : ∀ st g, ¬ Q .outgrown st g) (hqp : ∀ c st g, ¬ Q (.panic c) st g)
    (h1 : ∀ [Zs] (cx' : Cx st.objs.length), aL P cx' ops.toArray (onlyA s1) (ops.take i) st)
    (hw : gd = none ∨ ∃ j dj want, gd = some (j, want) ∧ (ops.toArray[j]?).bind (·.dst) = some dj ∧ s1.get dj = .val (.bool want))
    (hy : s1.ev gy = .val (.func (.yield G.l) #[] #[])) (hx : s1.ev gx = .own ig) (hox : s1.objs[ig]? = some (.row e sz cs)) (hcs : cs.all plD = true) (hex' : enc x = .ro (.sl sz cs)) (hp : pre ++ [x] <+: L) (hd : Nat.blt d s1.n = true) {objs2 : List AO} (ho2 : s1.objs.set ig .gone = objs2)
    (h2 : ∀ [Zs] (b : Bool) (cx' : Cx objs2.length), aL P cx' ops.toArray (fun e st' => Q e st' (pre ++ [x], !b)) l2 ((⟨s1.n, s1.vars, objs2⟩ : St).put d (.val (.bool b)))) : aD G (.region id ops.toArray false) Q st (pre, false) := by
  subst ho2
  intro D a w hr hj
  refine (wpIn_wide (n := 0)).1 (wpIn_region_lit ?_)
  have hops : ops = ops.take i ++ ⟨some d, .call ⟨.value gy, #[gx], ats⟩, ty, pos, af, gd⟩ :: l2 := by rw [← hsp, List.take_append_drop]
  suffices key : ∀ lst : List Oper, lst = ops.take i ++ ⟨some d, .call ⟨.value gy, #[gx], ats⟩, ty, pos, af, gd⟩ :: l2 →
      wpListIn Fence.wide 0 P ops.toArray (fun e a' w' => ∃ (st' : St) (g' : List α × Bool) (D' : Nat → Prop), Q e st' g' ∧ @Rel (ZD zs D') k cx st' a' w' ∧ G.JJ g' D' w') lst a w from key ops hops
  rintro lst rfl
  obtain ⟨⟨ρ, hb, hf, h0⟩, hs⟩ := hr
  have hlen : ρ.length = st.objs.length := by
    have hb' := hb
    obtain ⟨_, _, _, g2, _⟩ := hb'
    exact g2
  have hr1 : @Rel (ZD zs D) _ (⟨w, Own ρ st.objs, ρ, hlen⟩ : Cx st.objs.length) st a w := (@Rel.mk (ZD zs D) _ _ _ _ _ ⟨ρ, hb, fun id b h _ => (⟨id, h⟩ : Own ρ st.objs b), fun _ _ h => h⟩ (Same.refl _ _))
  have := list_in2 (ro := none) (n := 0) (Q := @lift (ZD zs D) _ (⟨w, Own ρ st.objs, ρ, hlen⟩ : Cx st.objs.length) (onlyA s1)) (Q' := fun e a' w' => ∃ (st' : St) (g' : List α × Bool) (D' : Nat → Prop), Q e st' g' ∧ @Rel (ZD zs D') k cx st' a' w' ∧ G.JJ g' D' w') (@no_out (ZD zs D) _ _ _ fun _ h => h) []
    (⟨some d, .call ⟨.value gy, #[gx], ats⟩, ty, pos, af, gd⟩ :: l2) ?_ (fun c a w ⟨_, h, _⟩ => h.elim) (ops.take i) (noD_spec hd1) a w (@h1 (ZD zs D) _ a w hr1)
  · rw [apD_nil] at this
    exact this
  rintro a1 w1 ⟨st1, e1, r1⟩
  obtain rfl : st1 = s1 := e1
  rw [apD_nil]
  have hrs := r1
  obtain ⟨_, hrs⟩ := hrs
  have hj1 : G.JJ (pre, false) D w1 := G.st _ D w w1 (Own ρ st.objs) (fun b hb' => by
    obtain ⟨_, _, _, hg⟩ := hb
    exact gd_own G hg hf hb') hs.size hrs hj
  have hrc : @Rel (ZD zs D) _ cx st1 a1 w1 := @Rel.via (ZD zs D) _ _ _ _ _ _ _ _ _ hf h0 hs r1
  obtain ⟨⟨ρ1, hb1, hf1, h01⟩, hs1⟩ := hrc
  have hwant : Region.wanted (⟨some d, .call ⟨.value gy, #[gx], ats⟩, ty, pos, af, gd⟩ : Oper) (yielded ops.toArray a1.tmps) = true := by
    rcases hw with rfl | ⟨j, dj, want, rfl, h3, h4⟩
    · simp [Region.wanted]
    · have := @yielded_of (ZD zs D) _ _ _ _ hb1 _ _ _ _ h3 h4
      simp [Region.wanted, this]
  have hgood1 : @Good (ZD zs D) ρ1 w1 st1.objs := by
    obtain ⟨_, _, _, hg⟩ := hb1
    exact hg
  have hN : ∀ b, foot ρ1 st1.objs ig b → cx.w0.heap.size ≤ b ∧ b < w1.heap.size := fun b h => ⟨(gd_own G hgood1 hf1 ⟨ig, h⟩).1, @foot_lt (ZD zs D) _ _ _ hgood1 _ _ h⟩
  have hgm2 : Gm [] w1 (fun b => zs.z b ∨ D b ∨ (cx.w0.heap.size ≤ b ∧ ¬ foot ρ1 st1.objs ig b)) (enc x) (a1.eval gx) := by
    have h1 := @RelB.ev (ZD zs D) _ _ _ _ hb1 gx
    rw [hx] at h1
    rw [hex']
    generalize a1.eval gx = u at *
    have hzf : ∀ b, foot ρ1 st1.objs ig b → ¬ (zs.z b ∨ D b) := fun b h => by
      obtain ⟨_, _, _, zf, _, _⟩ := hgood1
      exact zf ig b h
    obtain ⟨_, gs, _, _, _, _⟩ := hgood1
    obtain ⟨v, nn, us, a1, a2, a3, a4⟩ := gs ig _ hox
    obtain ⟨l, hl⟩ := h1.own_inv
    rw [a1] at hl
    obtain ⟨rfl, rfl⟩ := List.cons.inj (Option.some.inj hl)
    refine .ro _ _ (row_rd a2 a3 (fun b hb => ?_) fun i d hd => ?_)
    · have hfo : foot ρ1 st1.objs ig b := ⟨_, _, hox, rfl, a1, v, List.mem_singleton.2 rfl, hb⟩
      rintro (h | h | h)
      · exact hzf b hfo (.inl h)
      · exact hzf b hfo (.inr h)
      · exact h.2 hfo
    · obtain ⟨u, hu, hr⟩ := a4 i d hd
      refine ⟨u, hu, ?_⟩
      have hpd := List.all_eq_true.1 hcs d (List.mem_of_getElem? hd)
      cases d with
      | val v => cases hr; exact .val _
      | _ => cases hpd
  obtain ⟨fn, tmps, asg, body, hyr, hR⟩ := hyl pre x D _ w1 (a1.eval gx) hp hj1 hs1.size hN hgm2
  have hev : a1.eval gy = .func (.yield G.l) #[] #[] := @RelB.evv (ZD zs D) _ _ _ _ hb1 _ _ hy
  have hex : (execOp a1.eval ⟨some d, .call ⟨.value gy, #[gx], ats⟩, ty, pos, af, gd⟩).run P w1 = .ok (.round G.l fn tmps asg body) w1 := by
    simp only [execOp, resolve, hev, Deferred.ofValue, Sem.run_bind, Sem.run_pure, Result.andThen_ok, invoke]
    simpa using hyr
  unfold wpListIn
  rw [if_pos hwant]
  refine ⟨fun _ _ => trivial, ?_⟩
  show Oper.uponIn _ _ _ _ _ _ _ ((execOp a1.eval ⟨some d, .call ⟨.value gy, #[gx], ats⟩, ty, pos, af, gd⟩).run P w1)
  rw [hex]
  refine ⟨fun h => (by cases h), hR.mono ?_⟩
  have go : ∀ (b : Bool) (D' : Nat → Prop) (w2 : World), (∀ b, D' b → D b ∨ foot ρ1 st1.objs ig b ∨ w1.heap.size ≤ b) → (∀ b, D b → D' b) → (∀ b, D' b → b < w2.heap.size) → Same (fun b => G.M b ∨ D b) w1 w2 → G.JJ (pre ++ [x], !b) D' w2 →
      wpListIn Fence.wide 0 P ops.toArray (fun e a' w' => ∃ (st' : St) (g' : List α × Bool) (D' : Nat → Prop), Q e st' g' ∧ @Rel (ZD zs D') k cx st' a' w' ∧ G.JJ g' D' w') l2 (a1.put (some d) (.bool b)) w2 := by
    intro b D' w2 c1 c2 c3 hsm hj2
    have hbg := @RelB.give (ZD zs D) ρ1 w1 st1 a1 ig hb1
    have hb2 : @RelB (ZD zs D') ρ1 w2 ⟨st1.n, st1.vars, st1.objs.set ig .gone⟩ a1 := @RelB.chg (ZD (ZD zs D) (foot ρ1 st1.objs ig)) (ZD zs D') ρ1 w1 w2 _ a1 _ hbg hsm (fun b hb h => h.elim (fun h => .inl (.inl (G.mz b h))) fun h => .inl (.inr h)) (fun p hp h => by
        rcases h with h | h
        · exact G.mt p hp h
        · have := G.dz _ _ _ hj1 p.1 h; have := G.tb p hp; omega) (fun b hb h => by
        rcases h with h | h
        · exact .inl (.inl h)
        · rcases c1 b h with h | h | h
          · exact .inl (.inr h)
          · exact .inr h
          · omega) fun b h => by
        rcases h with h | h
        · obtain ⟨_, _, _, _, _, _, _, zl, _⟩ := hb1
          exact Nat.lt_of_lt_of_le (zl b (.inl h)) hsm.size
        · exact c3 b h
    have hf1g : ∀ id b, foot ρ1 (st1.objs.set ig .gone) id b → b < cx.w0.heap.size → cx.M0 b := by
      rintro j b ⟨o, l, a1, a2, a3, a4⟩ hlt
      rw [List.getElem?_set] at a1
      split at a1
      · split at a1
        · cases a1; cases a2
        · cases a1
      · exact hf1 j b ⟨o, l, a1, a2, a3, a4⟩ hlt
    have hb3 := @RelB.put (ZD zs D') _ _ _ _ hb2 d (.val (.bool b)) (.bool b) hd (.val _)
    have hs2 : Same cx.M0 cx.w0 w2 := hs1.trans hsm fun x hx h => by
      rcases h with h | h
      · exact (G.m0 x).2 h
      · have := G.dz _ _ _ hj1 x h; omega
    have hlen3 : ρ1.length = ((⟨st1.n, st1.vars, st1.objs.set ig .gone⟩ : St).put d (.val (.bool b))).objs.length := by
      obtain ⟨_, _, _, g2, _⟩ := hb3
      exact g2
    have hr2 : @Rel (ZD zs D') _ (⟨w2, Own ρ1 ((⟨st1.n, st1.vars, st1.objs.set ig .gone⟩ : St).put d (.val (.bool b))).objs, ρ1, hlen3⟩ : Cx ((⟨st1.n, st1.vars, st1.objs.set ig .gone⟩ : St).put d (.val (.bool b))).objs.length) ((⟨st1.n, st1.vars, st1.objs.set ig .gone⟩ : St).put d (.val (.bool b))) (a1.put (some d) (.bool b)) w2 := @Rel.mk (ZD zs D') _ _ _ _ _ ⟨ρ1, hb3, fun id b' h _ => (⟨id, h⟩ : Own ρ1 ((⟨st1.n, st1.vars, st1.objs.set ig .gone⟩ : St).put d (.val (.bool b))).objs b'), fun _ _ h => h⟩ (Same.refl _ _)
    have := list_in (ro := none) (n := 0) (Q' := fun e a' w' => ∃ (st' : St) (g' : List α × Bool) (D' : Nat → Prop), Q e st' g' ∧ @Rel (ZD zs D') k cx st' a' w' ∧ G.JJ g' D' w') (@no_out (ZD zs D') _ _ _ fun st h => hq st _ h) [] (fun e a' w' ⟨st', q, r⟩ => ?_) l2 (noD_spec hd2) _ w2 (@h2 (ZD zs D') b _ _ w2 hr2)
    · rw [apD_nil]
      have hrs2 := r
      obtain ⟨_, hrs2⟩ := hrs2
      exact ⟨st', _, D', q, @Rel.via (ZD zs D') _ _ _ _ _ _ _ _ _ hf1g h01 hs2 r, G.st _ D' w2 w' (Own ρ1 ((⟨st1.n, st1.vars, st1.objs.set ig .gone⟩ : St).put d (.val (.bool b))).objs) (fun b hb' => by
        obtain ⟨_, _, _, hg⟩ := hb3
        exact gd_own G hg hf1g hb') hs2.size hrs2 hj2⟩
    · rw [apD_nil] at this
      exact this
  rintro e w2 ⟨D', c1, c2, c3, c4, c5, ⟨rfl, hj2⟩ | ⟨rfl, hj2⟩⟩
  · exact go true D' w2 c1 c2 c3 c5 hj2
  · exact go false D' w2 c1 c2 c3 c5 hj2
end
theorem IterG.mk {P : Program} {gm : FuncId} {fn : Func} {c : Code} {n : Nat} {caps : List AV} {α : Type} {enc : α → AV} {L : List α}
    (hf : P.funcs[gm]? = some fn) (hnm : (fn.name == "runtime.NumGoroutine") = false) (hb : fn.body = some c) (hn : fn.ntmps = n) (hle' : Nat.ble (caps.length + 1) n = true) (hr : fn.results = ([] : List ResultVar).toArray) (hro : roL caps = true)
    (h : ∀ [Zs] (cx : Cx 0) (G : Gd P L enc cx), YlG G → aD G c (retJ L) ⟨n, argv 0 (.val (.func (.yield G.l) #[] #[]) :: caps), []⟩ ([], false)) : IterG P gm caps enc L := by
  refine ⟨⟨fn, hf, hnm, by rw [hb]; rfl⟩, ?_⟩
  have hle : caps.length + 1 ≤ n := Nat.le_of_ble_eq_true hle'
  intro zs l M J Jx w vs hMz hMt hg hJ hJx hY h0 hsz hargs
  refine calls_of_wp hf hb ?_
  have hrel : @Rel zs _ (⟨w, M, [], rfl⟩ : Cx 0) ⟨n, argv 0 (.val (.func (.yield l) #[] #[]) :: caps), []⟩ { tmps := #[Value.func (.yield l) #[] #[]] ++ vs ++ Array.replicate (fn.ntmps - (#[Value.func (.yield l) #[] #[]] ++ vs).size) undef, defers := [] } w := by
    refine ⟨⟨[], ⟨fun t => ?_, by simp; omega, rfl, hg⟩, fun id b ⟨o, l, h, _⟩ _ => by simp at h, fun _ _ h => h⟩, Same.refl _ _⟩
    show Gm [] w (Ban [] []) (getv (argv 0 (.val (.func (.yield l) #[] #[]) :: caps)) t) _
    rw [getv_argv, if_pos (Nat.zero_le _), Nat.sub_zero]
    cases t with
    | zero =>
      have e : (#[Value.func (.yield l) #[] #[]] ++ vs ++ Array.replicate (fn.ntmps - (#[Value.func (.yield l) #[] #[]] ++ vs).size) undef).getD 0 undef = .func (.yield l) #[] #[] := by simp [Array.getElem?_append]
      rw [e]
      exact .val _
    | succ t =>
      by_cases ht : t < caps.length
      · have h1 : caps[t]? = some caps[t] := List.getElem?_eq_getElem ht
        have ht' : t < vs.size := by omega
        have h2 : vs[t]? = some vs[t] := Array.getElem?_eq_getElem ht'
        have h3 : (#[Value.func (.yield l) #[] #[]] ++ vs ++ Array.replicate (fn.ntmps - (#[Value.func (.yield l) #[] #[]] ++ vs).size) undef).getD (t + 1) undef = vs[t] := by
          have : t + 1 < 1 + vs.size := by omega
          simp [Array.getElem?_append, ht', this]
        rw [h3]
        simp only [List.getD_eq_getElem?_getD, List.getElem?_cons_succ, h1, Option.getD_some]
        exact hargs t _ _ h1 h2
      · have : (AV.val (.func (.yield l) #[] #[]) :: caps).getD (t + 1) AV.any = .any := by simp; rw [List.getElem?_eq_none (by omega)]; rfl
        rw [this]
        exact .any _
  obtain ⟨G, hGl, hGJ, hGy⟩ : ∃ G : Gd P L enc (⟨w, M, [], rfl⟩ : Cx 0), G.l = l ∧ (G.JJ = fun g D W => (∀ b, D b → w.heap.size ≤ b) ∧ if g.2 then Jx g.1 D W else J g.1 D W) ∧ YlG G :=
    ⟨⟨l, M, fun g D W => (∀ b, D b → w.heap.size ≤ b) ∧ if g.2 then Jx g.1 D W else J g.1 D W, hMz, hMt, fun _ => Iff.rfl, hg.tt.tl, fun g D W h => h.1, fun g D W W' Mi h1 h2 h3 h4 => by
      obtain ⟨pre, b⟩ := g
      cases b with
      | true => exact ⟨h4.1, hJx pre D W W' Mi h1 h2 h3 h4.2⟩
      | false => exact ⟨h4.1, hJ pre D W W' Mi h1 h2 h3 h4.2⟩⟩, rfl, rfl, fun pre x D N W v h1 h2 h3 hn h4 => (by
        obtain ⟨fn, tmps, asg, body, hyr, hR⟩ := hY pre x D N W v h1 h2.2 h3 hn h4
        refine ⟨fn, tmps, asg, body, hyr, hR.mono ?_⟩
        rintro e W' ⟨D', c1, c2, c3, c4, c5, ⟨c6, c7⟩ | ⟨c6, c7⟩⟩
        · exact ⟨D', c1, c2, c3, c4, c5, .inl ⟨c6, c4, c7⟩⟩
        · exact ⟨D', c1, c2, c3, c4, c5, .inr ⟨c6, c4, c7⟩⟩)⟩
  subst hGl
  have hZ : ZD zs (fun _ => False) = zs := by cases zs; simp [ZD]
  refine wp_mono (h _ G hGy (fun _ => False) _ _ (by rw [hZ]; exact hrel) (by rw [hGJ]; exact ⟨fun b h => h.elim, h0⟩)) ?_
  rintro e a w' ⟨st, ⟨pre, b⟩, D, q, r, j⟩
  obtain ⟨⟨ρ1, hb1, _, _⟩, _⟩ := r
  have fin : ((pre, b) = (L, false) ∨ (b = true ∧ pre <+: L)) → bodyPost P fn (fun e w' => (∃ v, e = .returned v) ∧ ((∃ D, J L D w') ∨ ∃ pre D, pre <+: L ∧ Jx pre D w')) .ret a w' := by
    intro hq
    obtain ⟨v, hrun, _⟩ := @gm_results (ZD zs D) ρ1 w' st a hb1 fn [] [] hr P trivial
    have hdf : a.defers = [] := by
      obtain ⟨_, _, df, _⟩ := hb1
      exact df
    refine ⟨hdf, v, hrun, ⟨v, rfl⟩, ?_⟩
    rw [hGJ] at j
    rcases hq with h | ⟨rfl, h⟩
    · simp only [Prod.mk.injEq] at h
      obtain ⟨rfl, rfl⟩ := h
      exact .inl ⟨D, j.2⟩
    · exact .inr ⟨pre, D, h, j.2⟩
  cases e with
  | normal => exact fin q
  | ret => exact fin q
  | _ => exact q.elim
end Go.Proofs.Ytgojkabjgagjcaa
