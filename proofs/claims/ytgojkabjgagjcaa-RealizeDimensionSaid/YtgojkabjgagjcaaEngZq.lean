import Derived.Test.YtgojkabjgagjcaaEngA
import Derived.Test.YtgojkabjgagjcaaCd
import Derived.RangeFuncNested
set_option linter.unusedSimpArgs false
set_option linter.unusedVariables false
set_option linter.unusedSectionVars false
namespace Go.Proofs.Ytgojkabjgagjcaa
open Go.RowKit
def apD (a : Act) (D : List Deferred) : Act := { a with defers := a.defers ++ D }
theorem apD_nil (a : Act) : apD a [] = a := by cases a; simp [apD]
theorem apD_put (a : Act) (D : List Deferred) (d : Option Tmp) (v : Value) : apD (a.put d v) D = (apD a D).put d v := by cases d <;> rfl
/-- All functions, within a round or not. -/
def Fr (ro : Option Nat) : Fence := { Fence.wide with round := ro }
theorem calls_fr {ro : Option Nat} {n : Nat} {P : Program} {f : FuncId} {args : Array Value} {w : World} {R : Ending → World → Prop} (h : Calls P f args w R) : CallsIn (Fr ro) n P f args w R :=
  (callsIn_wide (n := n)).2 h
theorem rows_fr {ro : Option Nat} {n : Nat} {P : Program} {row : String} {args : Array Value} {w : World} {R : Value → World → Prop} (h : Rows P row args w R) : RowsIn (Fr ro) n P row args w R :=
  fun c cs _ => let ⟨v, w', r, s⟩ := h c cs; ⟨v, w', r, stepsIn_wide.2 s⟩
theorem upon_in {ro : Option Nat} {n : Nat} {P : Program} {o : Oper} {a : Act} {D : List Deferred} {next next' : Act → World → Prop} {Q Q' : Exit → Act → World → Prop} (hq : ¬ LetsOut Q)
    (hn : ∀ a w, next a w → next' (apD a D) w) (hQ : ∀ c a w, Q (.panic c) a w → Q' (.panic c) (apD a D) w) {r : Result Next} (h : o.upon P a next Q r) : o.uponIn (Fr ro) n P (apD a D) next' Q' r := by
  cases r with
  | ok x w' =>
    cases x with
    | value v => have := hn _ _ h; rw [apD_put] at this; exact this
    | skip => have := hn _ _ h; rw [apD_put] at this; exact this
    | defer d => have := hn _ _ h; rw [apD_put] at this; exact this
    | enter f args =>
      refine ⟨fun h => (by cases h), calls_fr (Calls.mono h ?_)⟩
      intro e w'' he
      cases e with
      | returned v => have := hn _ _ he; rw [apD_put] at this; exact this
      | panicked chain => exact hQ _ _ _ he
      | outgrown => exact absurd he hq
    | row row args =>
      refine ⟨fun h => (by cases h), rows_fr (Rows.mono h ?_)⟩
      intro v w'' he
      have := hn _ _ he
      rw [apD_put] at this
      exact this
    | _ => exact h.elim
  | halt x w' =>
    cases x with
    | panic v => exact hQ _ _ _ h
    | _ => exact h.elim
theorem list_in2 {ro : Option Nat} {n : Nat} {P : Program} {ops : Array Oper} {Q Q' : Exit → Act → World → Prop} (hq : ¬ LetsOut Q) (D : List Deferred) (l2 : List Oper) (hn : ∀ a w, Q .normal a w → wpListIn (Fr ro) n P ops Q' l2 (apD a D) w) (hQ : ∀ c a w, Q (.panic c) a w → Q' (.panic c) (apD a D) w) :
    ∀ (l : List Oper), (∀ o ∈ l, ∀ c, o.op ≠ .defer c) → ∀ a w, wpList P ops Q l a w → wpListIn (Fr ro) n P ops Q' (l ++ l2) (apD a D) w
  | [], _, a, w, h => hn _ _ h
  | o :: l, ho, a, w, h => by
    have ih := list_in2 (ro := ro) (n := n) (P := P) (ops := ops) hq D l2 hn hQ l fun o' h' => ho o' (List.mem_cons_of_mem _ h')
    unfold wpList at h
    rw [List.cons_append]
    unfold wpListIn
    show if Region.wanted o (yielded ops a.tmps) = true then _ else _
    split at h
    · rename_i hw
      rw [if_pos hw]
      rcases h with h | ⟨_, h⟩
      · refine ⟨fun _ _ => trivial, ?_⟩
        rw [Oper.semAt_eq _ _ _ (ho o List.mem_cons_self)]
        exact upon_in hq ih hQ h
      · exact absurd h hq
    · rename_i hw
      rw [if_neg hw]
      refine ⟨fun _ _ => trivial, ?_⟩
      have := ih _ _ h
      rw [apD_put] at this
      exact this
theorem list_in {ro : Option Nat} {n : Nat} {P : Program} {ops : Array Oper} {Q Q' : Exit → Act → World → Prop} (hq : ¬ LetsOut Q) (D : List Deferred) (hQ : ∀ e a w, Q e a w → Q' e (apD a D) w)
    (l : List Oper) (ho : ∀ o ∈ l, ∀ c, o.op ≠ .defer c) (a : Act) (w : World) (h : wpList P ops Q l a w) : wpListIn (Fr ro) n P ops Q' l (apD a D) w := by
  have := list_in2 (ro := ro) (n := n) hq D [] (fun a w h => hQ .normal a w h) (fun c a w h => hQ _ a w h) l ho a w h
  rw [List.append_nil] at this
  exact this
def noD (l : List Oper) : Bool := l.all fun o => match o.op with | .defer _ => false | _ => true
theorem noD_spec {l : List Oper} (h : noD l = true) : ∀ o ∈ l, ∀ c, o.op ≠ .defer c := by
  intro o ho c hc
  have := List.all_eq_true.1 h o ho
  rw [hc] at this
  cases this
theorem no_out [Zs] {k : Nat} {cx : Cx k} {Q : Exit → St → Prop} (h : ∀ st, ¬ Q .outgrown st) : ¬ LetsOut (lift cx Q) := fun ⟨_, _, st, q, _⟩ => h st q
/-- The state is s, and nothing else. -/
def onlyA (s : St) : Exit → St → Prop
  | .normal, st => st = s
  | _, _ => False
/-! Within a round. -/
def aR [Zs] (P : Program) {k : Nat} (cx : Cx k) (l : Nat) (c : Code) (Q : Exit → St → Prop) (st : St) : Prop :=
  ∀ a w, Rel cx st a w → c.wpIn (Fr (some l)) 0 P (lift cx Q) a w
section
variable {P : Program} {k : Nat} {cx : Cx k} {ln : Nat} {Q : Exit → St → Prop} {st : St}
theorem r_skip [Zs] (h : Q .normal st) : aR P cx ln .skip Q st := fun _ _ hr => wpIn_skip ⟨st, h, hr⟩
theorem r_ret [Zs] (h : Q .ret st) : aR P cx ln .ret Q st := fun _ _ hr => wpIn_ret ⟨st, h, hr⟩
theorem r_seq [Zs] {x y : Code} (h : aR P cx ln x (thenA (fun st => aR P cx ln y Q st) Q) st) : aR P cx ln (.seq x y) Q st := by
  intro a w hr
  refine wpIn_seq (wpIn_mono (h a w hr) ?_)
  rintro e a' w' ⟨st', q, r⟩
  cases e with
  | normal => exact q a' w' r
  | _ => exact ⟨st', q, r⟩
theorem r_cond [Zs] {c : Operand} {x y : Code} {b : Bool} (hc : st.ev c = .val (.bool b)) (ht : b = true → aR P cx ln x Q st) (hf : b = false → aR P cx ln y Q st) :
    aR P cx ln (.cond c x y) Q st := by
  intro a w hr
  have hv : a.eval c = .bool b := by
    obtain ⟨ρ, hb, _⟩ := hr.base
    exact hb.evv hc
  cases b with
  | true => exact wpIn_cond_true hv (ht rfl a w hr)
  | false => exact wpIn_cond_false hv (hf rfl a w hr)
theorem r_block [Zs] {id : Nat} {c : Code} (h : aR P cx ln c (blockA id Q) st) : aR P cx ln (.block id c) Q st := by
  intro a w hr
  refine wpIn_block (wpIn_mono (h a w hr) ?_)
  rintro e a' w' ⟨st', q, r⟩
  cases e with
  | exit id' =>
    simp only [blockA] at q
    simp only [Exit.inBlock]
    by_cases h : id' = id
    · subst h; rw [if_pos rfl]; simp at q; exact ⟨st', q, r⟩
    · rw [if_neg h]
      have hb : Nat.beq id' id = false := by
        cases hb : Nat.beq id' id
        · rfl
        · exact absurd (Nat.eq_of_beq_eq_true hb) h
      rw [hb] at q
      exact ⟨st', q, r⟩
  | _ => exact ⟨st', q, r⟩
theorem r_region [Zs] {id : Nat} {l : List Oper} (hd : noD l = true) (hq : ∀ st, ¬ Q .outgrown st) (h : aL P cx l.toArray Q l st) : aR P cx ln (.region id l.toArray false) Q st := by
  intro a w hr
  refine wpIn_region_lit ?_
  have := list_in (ro := some ln) (n := 0) (Q' := lift cx Q) (no_out hq) [] (fun e a w h => by rw [apD_nil]; exact h) l (noD_spec hd) a w (h a w hr)
  rw [apD_nil] at this
  exact this
end
/-! Behind the loop. -/
def mark (r : Nat) : Deferred := { target := .collected r, args := #[] }
def RelM [zs : Zs] {k : Nat} (cx : Cx k) (st : St) (a : Act) (w : World) (D : List Deferred) : Prop :=
  (D = [] ∧ Rel cx st a w) ∨ ∃ r, D = [mark r] ∧ cx.w0.heap.size ≤ r ∧ ∃ zs1 : Zs, (∀ b, zs.z b → zs1.z b) ∧ zs1.z r ∧ w.heap[r]? = some (.deferred (some [])) ∧ @Rel zs1 k cx st a w
def liftM [Zs] {k : Nat} (cx : Cx k) (Q : Exit → St → Prop) : Exit → Act → World → Prop := fun e a w => ∃ a0 st D, a = apD a0 D ∧ Q e st ∧ RelM cx st a0 w D
def aM [Zs] (P : Program) {k : Nat} (cx : Cx k) (c : Code) (Q : Exit → St → Prop) (st : St) : Prop :=
  ∀ a w D, RelM cx st a w D → c.wpIn Fence.wide 0 P (liftM cx Q) (apD a D) w
def aS [Zs] (P : Program) {k : Nat} (cx : Cx k) (c : Code) (Q : Exit → St → Prop) (st : St) : Prop :=
  ∀ a w, Rel cx st a w → c.wpIn Fence.wide 0 P (liftM cx Q) a w
/-- A stretch that began where st was known: what is known behind it is known of the whole. -/
theorem Rel.via [Zs] {k : Nat} {cx : Cx k} {st st' : St} {a' : Act} {w w' : World} {ρ : Ids} {hl : ρ.length = st.objs.length} (hf : ∀ id b, foot ρ st.objs id b → b < cx.w0.heap.size → cx.M0 b)
    (h0 : ∀ (id : Nat) l, cx.ρ0[id]? = some l → ρ[id]? = some l) (hs : Same cx.M0 cx.w0 w) (h' : Rel (⟨w, Own ρ st.objs, ρ, hl⟩ : Cx st.objs.length) st' a' w') : Rel cx st' a' w' := by
  obtain ⟨⟨ρ', hb', hf', h0'⟩, hs'⟩ := h'
  refine ⟨⟨ρ', hb', fun id b hfo hlt => ?_, fun id l hl => h0' id l (h0 id l hl)⟩, hs.trans hs' fun x hx hM => ?_⟩
  · obtain ⟨id', h⟩ := hf' id b hfo (Nat.lt_of_lt_of_le hlt hs.size)
    exact hf id' b h hlt
  · obtain ⟨id', h⟩ := hM
    exact hf id' x h hx
section
variable {P : Program} {k : Nat} {cx : Cx k} {Q : Exit → St → Prop} {st : St}
theorem m_ret [Zs] (h : Q .ret st) : aM P cx .ret Q st := fun a _ D hr => wpIn_ret ⟨a, st, D, rfl, h, hr⟩
theorem m_seq [Zs] {x y : Code} (h : aM P cx x (thenA (fun st => aM P cx y Q st) Q) st) : aM P cx (.seq x y) Q st := by
  intro a w D hr
  refine wpIn_seq (wpIn_mono (h a w D hr) ?_)
  rintro e a' w' ⟨a0, st', D', rfl, q, r⟩
  cases e with
  | normal => exact q a0 w' D' r
  | _ => exact ⟨a0, st', D', rfl, q, r⟩
theorem m_region [zs : Zs] {id : Nat} {l : List Oper} (hd : noD l = true) (hq : ∀ st, ¬ Q .outgrown st) (h : ∀ [Zs] {k' : Nat} (cx' : Cx k'), aL P cx' l.toArray Q l st) : aM P cx (.region id l.toArray false) Q st := by
  intro a w D hM
  refine wpIn_region_lit ?_
  rcases hM with ⟨rfl, hr⟩ | ⟨r, rfl, hrw, zs1, hz, hzr, hw, hr⟩
  · exact list_in (ro := none) (n := 0) (Q' := liftM cx Q) (no_out hq) [] (fun e a w ⟨st', q, r⟩ => ⟨a, st', [], rfl, q, .inl ⟨rfl, r⟩⟩) l (noD_spec hd) a w (h cx a w hr)
  · have hrel := hr
    obtain ⟨⟨ρ, hb, hf, h0⟩, hs⟩ := hr
    have hr1 : @Rel zs1 _ (⟨w, Own ρ st.objs, ρ, hb.good.len⟩ : Cx st.objs.length) st a w := ⟨⟨ρ, hb, fun id b h _ => ⟨id, h⟩, fun _ _ h => h⟩, Same.refl _ _⟩
    refine list_in (ro := none) (n := 0) (Q := @lift zs1 _ ⟨w, Own ρ st.objs, ρ, hb.good.len⟩ Q) (Q' := @liftM zs _ cx Q) (@no_out zs1 _ _ _ hq) [mark r] ?_ l (noD_spec hd) a w (@h zs1 _ _ a w hr1)
    rintro e a' w' ⟨st', q, r'⟩
    refine ⟨a', st', [mark r], rfl, q, .inr ⟨r, rfl, hrw, zs1, hz, hzr, ?_, @Rel.via zs1 _ _ _ _ _ _ _ _ _ hf h0 hs r'⟩⟩
    rw [r'.same.block r (hb.good.zl r hzr) fun ⟨id, hfo⟩ => hb.good.zf id r hfo hzr]
    exact hw
theorem m_mono [Zs] {c : Code} {Q' : Exit → St → Prop} (h : aM P cx c Q st) (hq : ∀ e st, Q e st → Q' e st) : aM P cx c Q' st :=
  fun a w D hr => wpIn_mono (h a w D hr) fun _ _ _ ⟨a0, st', D', e, q, r⟩ => ⟨a0, st', D', e, hq _ _ q, r⟩
theorem m_regionS [zs : Zs] {id : Nat} {l : List Oper} {s1 : St} (hd : noD l = true) (h : ∀ [Zs] {k' : Nat} (cx' : Cx k'), aL P cx' l.toArray (onlyA s1) l st) (hQ : Q .normal s1) : aM P cx (.region id l.toArray false) Q st := by
  refine m_mono (m_region (Q := onlyA s1) hd (fun _ h => h) h) ?_
  intro e st' q
  cases e with
  | normal => obtain rfl : st' = s1 := q; exact hQ
  | _ => exact q.elim
theorem s_le [Zs] {c : Code} (st' : St) (σ : List Nat) (hle : st.le st' σ) (hσ : fixB k σ = true) (h : aS P cx c Q st') : aS P cx c Q st :=
  fun a w hr => h a w (hr.le hle hσ)
theorem s_seqA [Zs] {x y : Code} (h : aC P cx x (thenA (fun st => aS P cx y Q st) Q) st) : aS P cx (.seq x y) Q st := by
  intro a w hr
  refine wpIn_seq (wpIn_wide.2 (wp_mono (h a w hr) ?_))
  rintro e a' w' ⟨st', q, r⟩
  cases e with
  | normal => exact q a' w' r
  | _ => exact ⟨a', st', [], (apD_nil a').symm, q, .inl ⟨rfl, r⟩⟩
theorem s_seqM [Zs] {x y : Code} (h : aS P cx x (thenA (fun st => aM P cx y Q st) Q) st) : aS P cx (.seq x y) Q st := by
  intro a w hr
  refine wpIn_seq (wpIn_mono (h a w hr) ?_)
  rintro e a' w' ⟨a0, st', D', rfl, q, r⟩
  cases e with
  | normal => exact q a0 w' D' r
  | _ => exact ⟨a0, st', D', rfl, q, r⟩
theorem s_block [Zs] {id : Nat} {c : Code} (h : aS P cx c (blockA id Q) st) : aS P cx (.block id c) Q st := by
  intro a w hr
  refine wpIn_block (wpIn_mono (h a w hr) ?_)
  rintro e a' w' ⟨a0, st', D', rfl, q, r⟩
  cases e with
  | exit id' =>
    simp only [blockA] at q
    simp only [Exit.inBlock]
    by_cases h : id' = id
    · subst h; rw [if_pos rfl]; simp at q; exact ⟨a0, st', D', rfl, q, r⟩
    · rw [if_neg h]
      have hb : Nat.beq id' id = false := by
        cases hb : Nat.beq id' id
        · rfl
        · exact absurd (Nat.eq_of_beq_eq_true hb) h
      rw [hb] at q
      exact ⟨a0, st', D', rfl, q, r⟩
  | _ => exact ⟨a0, st', D', rfl, q, r⟩
end

/-! An object in another world, and with other blocks set aside. -/
theorem SatO.chg {ρ : Ids} {w w' : World} {M M' : Nat → Prop} {id : Nat} {o : AO} (h : SatO ρ w M id o) (hs : Same M w w') (hM : ∀ b, b < w.heap.size → M' b → M b)
    (hf : o.live = true → ∀ l v b, ρ[id]? = some l → v ∈ l → ablk v = some b → b < w.heap.size → w'.heap[b]? = w.heap[b]?) : SatO ρ w' M' id o := by
  have hrow : o.live = true → ∀ {l : List Value} {e : TypeId} {sz n : Nat} {u : Value} {xs : List Value}, ρ[id]? = some l → u ∈ l → w.ownsRow 0 e sz u n xs → w'.ownsRow 0 e sz u n xs := by
    intro hlv l e sz n u xs hl hu ho
    refine ⟨ho.1, ?_⟩
    rcases ho.2 with hn | ⟨g, cap, cur, rfl, hbg, hgg, rest⟩
    · exact .inl hn
    · refine .inr ⟨g, cap, cur, rfl, hbg, ?_, rest⟩
      rw [hf hlv l _ g hl hu rfl (Array.getElem?_eq_some_iff.1 hgg).1]
      exact hgg
  cases o with
  | gone => trivial
  | box cs =>
    obtain ⟨b, arr, T, h1, h2, h3, h4⟩ := h
    refine ⟨b, arr, T, h1, ?_, h3, fun i av hi => ?_⟩
    · rw [hf rfl _ _ b h1 (List.mem_singleton.2 rfl) rfl (Array.getElem?_eq_some_iff.1 h2).1]; exact h2
    · obtain ⟨v, hv, hg⟩ := h4 i av hi
      exact ⟨v, hv, hg.mono hs hM fun _ _ h => h⟩
  | row e sz cs =>
    obtain ⟨v, n, us, h1, h2, h3, h4⟩ := h
    refine ⟨v, n, us, h1, hrow rfl h1 (List.mem_singleton.2 rfl) h2, h3, fun i d hi => ?_⟩
    obtain ⟨u, hu, hr⟩ := h4 i d hi
    exact ⟨u, hu, hr.mono hs hM⟩
  | mat e e' m =>
    obtain ⟨v, us, h1, h2, h3, h4, h5⟩ := h
    refine ⟨v, us, h1, hrow rfl h1 (List.mem_cons_self ..) h2, h3, fun i r hi => ?_, h5⟩
    obtain ⟨hu, hr⟩ := h4 i r hi
    exact ⟨hu, hrow rfl h1 (List.mem_cons_of_mem _ (List.mem_of_getElem? hu)) hr⟩
  | mp m =>
    obtain ⟨v, us, h1, h2, h3⟩ := h
    exact ⟨v, us, h1, h2, h3.kept fun b hb hlt => hf rfl _ v b h1 (List.mem_cons_self ..) hb hlt⟩
/-- What is known stays known where only blocks that were set aside have turned, and others are set aside. -/
theorem RelB.chg {z0 z1 : Zs} {ρ : Ids} {w w' : World} {st : St} {a : Act} {M : Nat → Prop} (h : @RelB z0 ρ w st a) (hs : Same M w w') (h1 : ∀ b, b < w.heap.size → M b → z0.z b) (ht : ∀ p, p ∈ Tab → ¬ M p.1)
    (h2 : ∀ b, b < w.heap.size → z1.z b → z0.z b) (h3 : ∀ b, z1.z b → b < w'.heap.size) : @RelB z1 ρ w' st a := by
  have hs2 : Same (@Ban z0 ρ st.objs) w w' := ⟨hs.os, hs.tape, hs.output, hs.size, fun k hk hn => hs.block k hk fun hm => hn (.inr (h1 k hk hm))⟩
  have hM : ∀ b, b < w.heap.size → @Ban z1 ρ st.objs b → @Ban z0 ρ st.objs b := fun b hb hx => hx.elim .inl fun hz => .inr (h2 b hb hz)
  obtain ⟨fr, sz, df, hg⟩ := h
  have hfl : ∀ {id b}, foot ρ st.objs id b → b < w.heap.size := fun hfo => @foot_lt z0 _ _ _ hg _ _ hfo
  obtain ⟨gl, gs, gd, gz, gzl, ⟨ttf, ttl, ttb⟩⟩ := hg
  refine ⟨fun t => (fr t).mono hs2 hM fun _ _ h => h, sz, df, gl, fun id o ho => ?_, gd, fun id b hfo hz => gz id b hfo (h2 b (hfl hfo) hz), h3, ⟨ttf, fun p hp => Nat.lt_of_lt_of_le (ttl p hp) hs.size, fun p hp k v hv => ?_⟩⟩
  · refine (gs id o ho).chg hs2 hM fun hlv l v b hl hv hb hlt => hs.block b hlt fun hm => ?_
    exact gz id b ⟨o, l, ho, hlv, hl, v, hv, hb⟩ (h1 b hlt hm)
  · exact hs.cell (ttb p hp k v hv) (ht p hp)
/-- It hangs on no memory but the call's own. -/
def plA : AV → Bool
  | .val _ => true
  | .own _ => true
  | .ptr _ _ => true
  | .any => true
  | _ => false
def plD : Dat → Bool
  | .val _ => true
  | _ => false
def plO : AO → Bool
  | .box l => l.all plA
  | .row _ _ cs => cs.all plD
  | _ => true
theorem SatO.plain {ρ : Ids} {w : World} {M M' : Nat → Prop} {id : Nat} {o : AO} (h : SatO ρ w M id o) (hp : plO o = true) : SatO ρ w M' id o := by
  cases o with
  | gone => trivial
  | box cs =>
    obtain ⟨b, arr, T, h1, h2, h3, h4⟩ := h
    refine ⟨b, arr, T, h1, h2, h3, fun i av hi => ?_⟩
    obtain ⟨v, hv, hg⟩ := h4 i av hi
    refine ⟨v, hv, ?_⟩
    have := List.all_eq_true.1 hp av (List.mem_of_getElem? hi)
    cases hg <;> first | exact .val _ | (exact .own _ _ _ ‹_› ‹_›) | (exact .ptr _ _ _ _ ‹_›) | exact .any _ | cases this
  | row e sz cs =>
    obtain ⟨v, n, us, h1, h2, h3, h4⟩ := h
    refine ⟨v, n, us, h1, h2, h3, fun i d hi => ?_⟩
    obtain ⟨u, hu, hr⟩ := h4 i d hi
    refine ⟨u, hu, ?_⟩
    have := List.all_eq_true.1 hp d (List.mem_of_getElem? hi)
    cases hr <;> first | exact .val _ | cases this
  | mat e e' m => exact h
  | mp m => exact h
end Go.Proofs.Ytgojkabjgagjcaa
