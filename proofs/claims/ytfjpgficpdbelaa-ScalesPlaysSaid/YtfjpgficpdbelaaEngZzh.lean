import Derived.Test.YtfjpgficpdbelaaEngZd
import Derived.Test.YtfjpgficpdbelaaEngZh
import Derived.Test.YtfjpgficpdbelaaEngT
import Derived.Laws.CopyRow
set_option linter.unusedSimpArgs false
set_option linter.unusedVariables false
set_option linter.unusedSectionVars false
namespace Go.Proofs.Ytfjpgficpdbelaa
open Go.RowKit
section
variable {P : Program} {k : Nat} {cx : Cx k} {ops : Array Oper} {st : St} {K : St → Prop} {S : World → Prop}
/-- What is left, told by listed; nothing but own memory changes. -/
def rL [Zs] (P : Program) {k : Nat} (cx : Cx k) (ops : Array Oper) (K : St → Prop) (f : Nat) (listed : List Bool) (st : St) : Prop :=
  ∀ (ρ : Ids) (w : World) (a : Act), RelB ρ w st a → (∀ id b, foot ρ st.objs id b → b < cx.w0.heap.size → cx.M0 b) → (∀ (id : Nat) l, cx.ρ0[id]? = some l → ρ[id]? = some l) → Same cx.M0 cx.w0 w →
    wpAnyH P .any ops (lift cx (ThenK K)) (Same (Own ρ st.objs) w) f listed.toArray a w
def ROp (P : Program) (o : Oper) (st : St) (av : AV) : Prop :=
  ∀ (_ : Zs) (ρ : Ids) (w : World) (a : Act), RelB ρ w st a → ∃ v, Gm ρ w (Ban ρ st.objs) av v ∧ ∀ w1, Same (Own ρ st.objs) w w1 → (execOp a.eval o).run P w1 = .ok (.value v) w1
theorem POp.r {o : Oper} {av : AV} (h : POp P o st av) : ROp P o st av := fun zs ρ w a hb => by
  obtain ⟨v, h1, h2⟩ := h zs ρ w a hb
  exact ⟨v, h1, fun w1 _ => h2 w1⟩
theorem r_first [Zs] {f : Nat} {listed : List Bool} (i : Nat) {d : Tmp} {op : Op} {ty : TypeId} {pos : String} {af : Array Edge} {av : AV} (hi : ops[i]? = some ⟨some d, op, ty, pos, af, none⟩)
    (hb : (Region.noSelect ops && Region.free .any ops listed.toArray i && (Region.ready .any ops listed.toArray).contains i) = true)
    (hq : ROp P ⟨some d, op, ty, pos, af, none⟩ st av) (hd : Nat.blt d st.n = true) (h : rL P cx ops K f (listed.set i true) (st.put d av)) : rL P cx ops K (f + 1) listed st := by
  simp only [Bool.and_eq_true] at hb
  obtain ⟨⟨b1, b2⟩, b3⟩ := hb
  intro ρ w a hr hf h0 hs
  obtain ⟨v, hg, hv⟩ := hq _ ρ w a hr
  have e : listed.toArray.setIfInBounds i true = (listed.set i true).toArray := by simp
  refine wpAnyH_take hi b1 b2 b3 (fun c a w hp => ?_) (v := v) (.inl ⟨by simp [Region.wanted], hv⟩) (Same.refl _ _) ?_
  · obtain ⟨st', h1, _⟩ := hp
    exact h1.elim
  · rw [e]
    exact h ρ w _ (hr.put hd hg) hf h0 hs
theorem r_frame [Zs] {f : Nat} {listed : List Bool} (h : ∀ (cx1 : Cx st.objs.length) (S : World → Prop), xH P cx1 ops K S f listed st) : rL P cx ops K f listed st := by
  intro ρ w a hr hf h0 hs
  have hg := hr.good
  let cx1 : Cx st.objs.length := ⟨w, Own ρ st.objs, ρ, hg.len⟩
  have hrel : Rel cx1 st a w := ⟨⟨ρ, hr, fun id b hb _ => ⟨id, hb⟩, fun _ _ h => h⟩, Same.refl _ w⟩
  refine anyH_q ?_ ?_ _ _ _ _ (h cx1 (Same (Own ρ st.objs) w) (fun w1 h1 => h1) a w hrel)
  · rintro a' w' ⟨st', hK, hr'⟩
    obtain ⟨ρ', hb', hf', h0'⟩ := hr'.base
    have hsm : Same (Own ρ st.objs) w w' := hr'.same
    refine ⟨st', hK, ⟨ρ', hb', fun id b hb hlt => ?_, fun id l hl => h0' _ _ (h0 id l hl)⟩, hs.trans hsm fun x hx ⟨id, hfo⟩ => hf id x hfo hx⟩
    obtain ⟨id2, h2⟩ := hf' id b hb (Nat.lt_of_lt_of_le hlt hs.size)
    exact hf id2 b h2 hlt
  · intro e he
    funext a' w'
    apply propext
    constructor
    · rintro ⟨st', h1, _⟩
      cases e <;> first | exact absurd rfl he | exact h1.elim
    · rintro ⟨st', h1, _⟩
      cases e <;> first | exact absurd rfl he | exact h1.elim
theorem a_holdR [Zs] {id : Nat} {l : List Oper} {n : Nat} {Q : Exit → St → Prop} (hm : P.follows .mixedOrders = true) (hn : l.length = n) (h : rL P cx l.toArray K n (List.replicate n false) st) : aC P cx (.region id l.toArray true) (thenA K Q) st := by
  subst hn
  refine a_mono (Q := ThenK K) ?_ fun e st h => by cases e <;> first | exact h | exact h.elim
  intro a w hr
  have hr2 := hr.mono (w' := { w with drawn := w.drawn + 1 }) ⟨rfl, rfl, rfl, Nat.le_refl _, fun _ _ => rfl⟩
  obtain ⟨ρ, hb, hf, h0⟩ := hr2.base
  refine wp_region_held (S := Same (Own ρ st.objs) { w with drawn := w.drawn + 1 }) hm ?_
  have := h ρ _ a hb hf h0 hr2.same
  simpa using this
/-! Laws. -/
variable {ty : TypeId} {pos : String} {af : Array Edge} {d : Option Tmp} {g : Option (Nat × Bool)} {T : TypeId} {x : Operand}
theorem R_move {av : AV} (hx : st.ev x = av) : ROp P ⟨d, .move x, ty, pos, af, g⟩ st av := POp.r (P_move hx)
theorem R_fieldAddr {f off id o : Nat} (hx : st.ev x = .ptr id o) (ht : FlT P T f off) : ROp P ⟨d, .fieldAddr T x f, ty, pos, af, g⟩ st (.ptr id (o + off)) := POp.r (P_fieldAddr hx ht)
theorem P_fieldAddrR {f off : Nat} {cs : List Dat} {o : Nat} (hx : st.ev x = .rpt cs o) (ht : FlT P T f off) : POp P ⟨d, .fieldAddr T x f, ty, pos, af, g⟩ st (.rpt cs (o + off)) := fun _ ρ w a hr => by
  have h := hr.ev x
  rw [hx] at h
  obtain ⟨ad, us, he, hsp, hM, hc, hd⟩ := h.rpt_inv
  have e : (ad.add o).add off = ad.add (o + off) := add_add' ad _ _
  refine ⟨.pointer (some (ad.add (o + off))), .rpt ad cs (o + off) us hsp hM hc hd, fun w1 => ?_⟩
  simp [execOp, he, run_fieldAt ht, e]
theorem R_fieldAddr_rpt {f off : Nat} {cs : List Dat} {o : Nat} (hx : st.ev x = .rpt cs o) (ht : FlT P T f off) : ROp P ⟨d, .fieldAddr T x f, ty, pos, af, g⟩ st (.rpt cs (o + off)) := POp.r (P_fieldAddrR hx ht)
theorem R_ix_arp {ix : Operand} {e : TypeId} {sz n : Nat} {cs : List Dat} {o : Nat} {i : Int} {j : Nat} (hx : st.ev x = .rpt cs o) (hi : st.ev ix = .val (.int .i64 i)) (hj : i = (j : Int)) (ht : ArT P T n e sz) (h : j < n) :
    ROp P ⟨d, .indexAddr T x ix, ty, pos, af, g⟩ st (.rpt cs (o + j * sz)) := fun zs ρ w a hr => by
  have hq := Q_ix_arp (P := P) (d := d) (ty := ty) (pos := pos) (af := af) (g := g) (x := x) (ix := ix) hx hi hj ht h
  obtain ⟨v, h1, h2⟩ := hq zs ρ w a hr
  have hxv := hr.ev x
  rw [hx] at hxv
  obtain ⟨ad, us, he, _⟩ := hxv.rpt_inv
  subst hj
  have hrun : ∀ w1, (execOp a.eval ⟨d, .indexAddr T x ix, ty, pos, af, g⟩).run P w1 = .ok (.value (.pointer (some ((ad.add o).add (j * sz))))) w1 := fun w1 => by
    simp [execOp, he, hr.evv hi, Instr.indexAt, Instr.sureAddr, run_underlying ht.1, ht.2.run, asIntOf, h]
  have h3 := h2 w (Below.refl _ _)
  unfold Oper.quietAt at h3
  rw [hrun w] at h3
  obtain ⟨_, e2⟩ := h3
  subst e2
  exact ⟨_, h1, fun w1 _ => hrun w1⟩
theorem P_build {zs : List Value} {place : Nat → Option (Nat × Nat)} {parts : Array (Nat × Operand)} {ps : List (Nat × Operand)} {out : List AV} (hb : BdT P T zs place) (hp : parts = ps.toArray) (hcs : PartA st place ps (zs.map .val) out) :
    POp P ⟨d, .build T parts, ty, pos, af, g⟩ st (.agg out) := fun _ ρ w a hr => by
  subst hp
  obtain ⟨vs', h1, h2, h3⟩ := partA_spec hr place ps (zs.map .val) out zs.toArray hcs (by simp) (by
    intro i av v hi hv
    simp only [List.getElem?_map, List.getElem?_toArray] at hi hv
    rw [hv] at hi
    obtain rfl := Option.some.inj hi
    exact .val v)
  refine ⟨.agg vs', .agg _ _ h2 h3, fun w1 => ?_⟩
  have hmap : ∀ f : Nat × Operand → Nat × Value, (∀ p, f p = (p.1, a.eval p.2)) → (ps.toArray.map f).toList = ps.map fun p => (p.1, a.eval p.2) := by
    intro f hf
    rw [show f = fun p => (p.1, a.eval p.2) from funext hf]
    simp
  simp only [execOp, Sem.run_bind, hb w1 _ vs' (by rw [hmap _ (fun _ => rfl)]; exact h1), Result.andThen_ok, Sem.run_pure]
theorem R_build2 {zs : List Value} {place : Nat → Option (Nat × Nat)} {i off j off' : Nat} {x y : Operand} {av av' : AV} {l l' c out : List AV} (hb : BdT P T zs place) (hx0 : st.ev x = av) (hx : av.cells = l) (hp : place i = some (off, l.length)) (h1 : l.all AV.one = true)
    (hl : Nat.ble (off + l.length) (zs.map AV.val).length = true) (hc : (zs.map AV.val).take off ++ l ++ (zs.map AV.val).drop (off + l.length) = c)
    (hx0' : st.ev y = av') (hx' : av'.cells = l') (hp' : place j = some (off', l'.length)) (h1' : l'.all AV.one = true) (hl' : Nat.ble (off' + l'.length) c.length = true) (ho : c.take off' ++ l' ++ c.drop (off' + l'.length) = out) : ROp P ⟨d, .build T #[(i, x), (j, y)], ty, pos, af, g⟩ st (.agg out) := by
  subst hc
  exact POp.r (P_build (ps := [(i, x), (j, y)]) hb rfl ⟨off, l, hp, hx0 ▸ hx, h1, hl, off', l', hp', hx0' ▸ hx', h1', hl', ho.symm⟩)
theorem same_cell {ρ : Ids} {w w1 : World} {objs : List AO} [Zs] {ad : Addr} {j : Nat} {v : Value} (hM : ¬ Ban ρ objs ad.block) (hc : w.cell? (ad.add j) = some v) (hs : Same (Own ρ objs) w w1) : w1.cell? (ad.add j) = some v :=
  hs.cell hc fun h => hM (.inl (by rwa [show (ad.add j).block = ad.block by unfold Addr.add; split <;> rfl] at h))
theorem R_ld_rv {cs : List Dat} {o : Nat} {v : Value} (hx : st.ev x = .rpt cs o) (hc : cs[o]? = some (.val v)) (ht : ScT P T) : ROp P ⟨d, .load T x, ty, pos, af, g⟩ st (.val v) := fun zs ρ w a hr => by
  have h := hr.ev x
  rw [hx] at h
  obtain ⟨ad, us, he, hsp, hM, hcl, hd⟩ := h.rpt_inv
  have hu : us o = v := (show ∀ u, Rd w (Ban ρ st.objs) u (.val v) → u = v from fun u h => by cases h; rfl) _ (hd o _ hc)
  refine ⟨v, .val _, fun w1 hw => ?_⟩
  have := same_cell (hM o (List.getElem?_eq_some_iff.1 hc).1) (hcl o _ hc) hw
  rw [hu] at this
  simp [execOp, he, Instr.loadAt, Instr.sureAddr, run_loadSc ht _ this]
theorem R_ld_rs {cs : List Dat} {o : Nat} {dt : Dat} (hx : st.ev x = .rpt cs o) (hc : cs[o]? = some dt) (ht : ScT P T) : ROp P ⟨d, .load T x, ty, pos, af, g⟩ st (.ro dt) := fun zs ρ w a hr => by
  have h := hr.ev x
  rw [hx] at h
  obtain ⟨ad, us, he, hsp, hM, hcl, hd⟩ := h.rpt_inv
  refine ⟨us o, .ro _ _ (hd o dt hc), fun w1 hw => ?_⟩
  have := same_cell (hM o (List.getElem?_eq_some_iff.1 hc).1) (hcl o _ hc) hw
  simp [execOp, he, Instr.loadAt, Instr.sureAddr, run_loadSc ht _ this]
theorem R_ld_rpa {cs : List Dat} {n : Nat} {out : List AV} (hx : st.ev x = .rpt cs 0) (ht : AgT P T n) (hn : Nat.beq cs.length n = true) (ho : cs.map ofD = out) : ROp P ⟨d, .load T x, ty, pos, af, g⟩ st (.agg out) := fun zs ρ w a hr => by
  subst ho
  have hn := Nat.eq_of_beq_eq_true hn
  have h := hr.ev x
  rw [hx] at h
  obtain ⟨ad, us, he, hsp, hM, hcl, hd⟩ := h.rpt_inv
  refine ⟨.agg ((List.range n).map us).toArray, .agg _ _ (by simp [hn]) fun i av v h1 h2 => ?_, fun w1 hw => ?_⟩
  · simp only [List.getElem?_map, Option.map_eq_some_iff] at h1
    obtain ⟨dt, h3, rfl⟩ := h1
    have hi : i < n := by rw [← hn]; exact (List.getElem?_eq_some_iff.1 h3).1
    simp [hi] at h2
    subst h2
    exact gm_ofD (hd _ dt h3)
  · have := run_loadAgg (P := P) (w := w1) ht (ad.add 0) ((List.range n).map us) (by simp) fun j v hv => by
      simp only [List.getElem?_map, Option.map_eq_some_iff] at hv
      obtain ⟨j', h3, rfl⟩ := hv
      have hj : j < n := by simpa using (List.getElem?_eq_some_iff.1 h3).1
      obtain rfl : j = j' := by simpa [hj] using h3
      have e : (ad.add 0).add j = ad.add j := by rw [add_add', Nat.zero_add]
      rw [e]
      exact same_cell (hM j (by omega)) (hcl j _ (List.getElem?_eq_getElem (by omega))) hw
    simp [execOp, he, Instr.loadAt, Instr.sureAddr, this]
end
section
variable {P : Program} {k : Nat} {cx : Cx k} {ops : Array Oper} {K : St → Prop} {S : World → Prop} {ty : TypeId} {pos : String} {af : Array Edge} {d nn f : Nat} {vars : List (Nat × AV)} {objs objs' : List AO} {listed : List Bool}
theorem rw_first [Zs] (i : Nat) {op : Op} {av : AV} (hi : ops[i]? = some ⟨some d, op, ty, pos, af, none⟩) (hb : (Region.noSelect ops && Region.free .any ops listed.toArray i && (Region.ready .any ops listed.toArray).contains i) = true)
    (hq : ROp P ⟨some d, op, ty, pos, af, none⟩ ⟨nn, vars, objs⟩ av) (hd : Nat.blt d nn = true) (h : rL P cx ops K f (listed.set i true) ⟨nn, (d, av) :: vars, objs⟩) : rL P cx ops K (f + 1) listed ⟨nn, vars, objs⟩ := r_first i hi hb hq hd h
theorem rw_frame [Zs] (h : ∀ (cx1 : Cx objs.length) (S : World → Prop), xH P cx1 ops K S f listed ⟨nn, vars, objs⟩) : rL P cx ops K f listed ⟨nn, vars, objs⟩ := r_frame h
end
/-! copy(key[:], s): key an array variable of whole numbers, s read. -/
def pad (cur ns : List Nat) : List Nat := ns ++ cur.drop ns.length
def natV (l : List Nat) : List AV := l.map fun (v : Nat) => AV.val (.int .i64 v)
theorem a_copyArr [Zs] {P : Program} {k : Nat} {cx : Cx k} {id n : Nat} {vars : List (Nat × AV)} {objs objs' : List AO} {Q : Exit → St → Prop} {l : List Oper} {d0 d1 d2 d3 x y o f off : Nat} {T0 T1 T2 dT sT e : TypeId} {t0 t1 t2 t3 : TypeId} {p0 p1 p2 p3 : String} {f0 f1 f2 f3 : Array Edge} {cur ns : List Nat} {cs : List Dat}
    (hl : l = [⟨some d0, .slice T0 (.tmp x) none none none, t0, p0, f0, none⟩, ⟨some d1, .fieldAddr T1 (.tmp y) f, t1, p1, f1, none⟩, ⟨some d2, .load T2 (.tmp d1), t2, p2, f2, none⟩, ⟨some d3, .call ⟨.builtin .copy, #[.tmp d0, .tmp d2], #[dT, sT]⟩, t3, p3, f3, none⟩])
    (hm : P.follows .mixedOrders = true) (hB : Region.lexTailB .any l.toArray 3 = true)
    (hx : (⟨n, vars, objs⟩ : St).get x = .ptr o 0) (ho : objs[o]? = some (.box (natV cur))) (hy : (⟨n, vars, objs⟩ : St).get y = .rpt cs 0) (hc : cs[off]? = some (.sl 1 (intc (nl ns))))
    (hlen : ns.length ≤ cur.length) (ht0 : ArT P T0 cur.length e 1) (ht1 : FlT P T1 f off) (ht2 : ScT P T2) (ht3 : SlT P dT e 1)
    (hd0 : Nat.blt d0 n = true) (hd1 : Nat.blt d1 n = true) (hd2 : Nat.blt d2 n = true) (hd3 : Nat.blt d3 n = true) (hne1 : Nat.beq d0 d1 = false) (hne2 : Nat.beq d0 d2 = false) (hne3 : Nat.beq y d0 = false)
    (hob : objs.set o (.box (natV (pad cur ns))) = objs')
    (hk : Q .normal ⟨n, (d3, .val (.int .i64 (ns.length : Int))) :: (d2, ints (nl ns)) :: (d1, .rpt cs off) :: (d0, .any) :: vars, objs'⟩) : aC P cx (.region id l.toArray true) Q ⟨n, vars, objs⟩ := by
  subst hob
  have hne1 := Nat.ne_of_beq_eq_false hne1
  have hne2 := Nat.ne_of_beq_eq_false hne2
  have hne3 := Nat.ne_of_beq_eq_false hne3
  have hd0' : d0 < n := by simpa [Nat.blt_eq] using hd0
  have hd1' : d1 < n := by simpa [Nat.blt_eq] using hd1
  have hd2' : d2 < n := by simpa [Nat.blt_eq] using hd2
  intro a w hr
  obtain ⟨ρ, hb, hf, h0⟩ := hr.base
  have hxv := hb.ev (.tmp x)
  rw [show (⟨n, vars, objs⟩ : St).ev (.tmp x) = .ptr o 0 from hx] at hxv
  obtain ⟨b, arr, T', he, hρ, hh, hsz, hcell, hcs⟩ := box_cells hb.good ho hxv
  have hcl : (natV cur).length = cur.length := by simp [natV]
  subst hl
  refine wp_region_quiet_tail (C := Below w.heap.size w) 3 hm hB ⟨rfl, rfl, rfl, Nat.le_refl _, fun _ _ => rfl⟩ ?_
  show wpQuiet P _ _ _ [_, _, _] a
  unfold wpQuiet
  rw [if_pos (by simp [Region.wanted])]
  refine ⟨.slice (some ⟨b, 0, none⟩) cur.length cur.length, fun w1 hw1 => ?_, ?_⟩
  · unfold Oper.quietAt
    have : (execOp a.eval ⟨some d0, .slice T0 (.tmp x) none none none, t0, p0, f0, none⟩).run P w1 = .ok (.value (.slice (some ⟨b, 0, none⟩) cur.length cur.length)) w1 := by
      simp [execOp, he, Instr.sliceAt, Instr.sureAddr, run_underlying ht0.1, Instr.sliceBounds, ht0.2.run, Addr.add]
    rw [this]
    exact ⟨rfl, rfl⟩
  have hb1 : RelB ρ w ((⟨n, vars, objs⟩ : St).put d0 .any) (a.put (some d0) (.slice (some ⟨b, 0, none⟩) cur.length cur.length)) := hb.put hd0 (.any _)
  have hq1 := Q_fieldAddr_rpt (P := P) (d := some d1) (ty := t1) (pos := p1) (af := f1) (g := none) (st := (⟨n, vars, objs⟩ : St).put d0 .any) (x := .tmp y) (T := T1) (f := f) (off := off) (cs := cs) (o := 0) (by
    show getv ((d0, AV.any) :: vars) y = _
    rw [getv_cons, if_neg (fun e => hne3 e.symm)]; exact hy) ht1
  rw [Nat.zero_add] at hq1
  obtain ⟨v1, hg1, hv1⟩ := hq1 _ ρ w _ hb1
  unfold wpQuiet
  rw [if_pos (by simp [Region.wanted])]
  refine ⟨v1, hv1, ?_⟩
  have hb2 := hb1.put hd1 hg1
  have hq2 := Q_load_rpt (P := P) (d := some d2) (ty := t2) (pos := p2) (af := f2) (g := none) (st := ((⟨n, vars, objs⟩ : St).put d0 .any).put d1 (.rpt cs off)) (x := .tmp d1) (T := T2) (cs := cs) (o := off) (by
    show getv ((d1, AV.rpt cs off) :: _) d1 = _
    rw [getv_cons, if_pos rfl]) hc ht2
  obtain ⟨v2, hg2, hv2⟩ := hq2 _ ρ w _ hb2
  unfold wpQuiet
  rw [if_pos (by simp [Region.wanted])]
  refine ⟨v2, hv2, ?_⟩
  have hb3 := hb2.put hd2 hg2
  show ∀ w', _ → wpList P _ _ [_] _ w'
  intro w' hw'
  have hr2 := hr.mono hw'
  have hb4 := hb3.mono hw'
  have hrd : Rd w' (Ban ρ objs) v2 (.sl 1 (intc (nl ns))) := by
    have : Gm ρ w' (Ban ρ objs) (.ro (.sl 1 (intc (nl ns)))) v2 := hg2.mono (Same.of_below hw' _) (fun _ _ h => h) fun _ _ h => h
    exact this.ro_inv
  have hh' : w'.heap[b]? = some (.cells arr T' (0, 0)) := by rw [hw'.block b (Array.getElem?_eq_some_iff.1 hh).1]; exact hh
  have hval : arr.toList = cur.map fun (v : Nat) => Value.int .i64 v := by
    refine List.ext_getElem? fun i => ?_
    rw [List.getElem?_map, Array.getElem?_toList]
    cases hi : cur[i]? with
    | none =>
      rw [Array.getElem?_eq_none (by rw [hsz, hcl]; exact List.getElem?_eq_none_iff.1 hi)]; rfl
    | some v =>
      obtain ⟨u, hu, hgu⟩ := hcs i (.val (.int .i64 v)) (by unfold natV; rw [List.getElem?_map, hi]; rfl)
      cases hgu
      rw [hu]; rfl
  -- the copy
  have hcopy : ∃ w2, (Builtin.copy_ #[dT, sT] t3 #[.slice (some ⟨b, 0, none⟩) cur.length cur.length, v2]).run P w' = .ok (goInt ns.length) w2 ∧ w2 = w'.setRow b ((pad cur ns).map fun (v : Nat) => Value.int .i64 v).toArray := by
    have hin : (P.info? e).map (·.size) = some 1 := ht3.2
    have hbase : arr.toList.take 0 ++ (ns.map fun (v : Nat) => Value.int .i64 v) ++ arr.toList.drop (0 + (ns.map fun (v : Nat) => Value.int .i64 v).length) = (pad cur ns).map fun (v : Nat) => Value.int .i64 v := by
      rw [hval]; unfold pad
      rw [List.map_append, List.map_drop]
      simp
    generalize hI : intc (nl ns) = I at hrd
    cases hrd with
    | nil _ =>
      have hns : ns = [] := by
        have := congrArg List.length hI
        rw [intc_len', nl_len] at this
        exact List.length_eq_zero_iff.1 this
      subst hns
      refine ⟨w', ?_, ?_⟩
      · exact run_copy_nil P w' dT sT t3 e ⟨b, 0, none⟩ cur.length cur.length ht3.1 (by
          cases hq : P.info? e with
          | none => rw [hq] at hin; cases hin
          | some i => rfl)
      · rw [show ((pad cur []).map fun (v : Nat) => Value.int .i64 v).toArray = arr by unfold pad; simp only [List.nil_append, List.length_nil, List.drop_zero]; rw [← hval]]
        exact (setRow_self w' b arr T' (0, 0) hh').symm
    | sl ad n' cap _ _ us hn' hsp hM hc hd =>
      subst hI
      have hnn : ns.length = n' := by rw [intc_len', nl_len, Nat.mul_one] at hn'; exact hn'
      subst hnn
      refine ⟨_, ?_, rfl⟩
      have := run_copy_row P w' dT sT t3 e b 0 cur.length cur.length ad ns.length cap arr T' (ns.map fun (v : Nat) => Value.int .i64 v) ht3.1 hin hh' (by rw [List.length_map]; exact (Nat.min_eq_left hlen).symm) (fun j v hv => by
          rw [List.getElem?_map] at hv
          obtain ⟨z, hz, rfl⟩ := Option.map_eq_some_iff.1 hv
          have hj : (intc (nl ns))[j]? = some (.val (.int .i64 (z : Int))) := by simp [intc, nl, hz]
          rw [hc j _ hj, (show ∀ (W : World) (M : Nat → Prop) u, Rd W M u (.val (.int .i64 (z : Int))) → u = .int .i64 (z : Int) from fun _ _ u h => by cases h; rfl) _ _ _ (hd j _ hj)]) (by rw [List.length_map, hsz, hcl]; omega) (fun v hv => by
          obtain ⟨z, _, rfl⟩ := List.mem_map.1 hv; rfl)
      rw [hbase, List.length_map] at this
      exact this
  obtain ⟨w2, hrun, rfl⟩ := hcopy
  have hpl : (pad cur ns).length = cur.length := by unfold pad; rw [List.length_append, List.length_drop]; omega
  have hsm : Same (fun z => z = b) w' (w'.setRow b ((pad cur ns).map fun (v : Nat) => Value.int .i64 v).toArray) :=
    ⟨rfl, rfl, rfl, by simp [World.setRow], fun z _ hz => setRow_other w' b z _ (fun e => hz e)⟩
  obtain ⟨g1, g2, g3⟩ := hb4.good.turn (o' := .box (natV (pad cur ns))) ho rfl hρ (b := b) rfl hsm ⟨b, _, T', hρ, setRow_heap w' b _ _ _ _ hh', by simp [natV], fun i av hi => by
    unfold natV at hi
    rw [List.getElem?_map] at hi
    obtain ⟨z, hz, rfl⟩ := Option.map_eq_some_iff.1 hi
    exact ⟨.int .i64 z, by simp [hz], .val _⟩⟩
  unfold wpList
  rw [if_pos (by simp [Region.wanted])]
  left
  unfold Oper.wp
  have ha0 : (((a.put (some d0) (.slice (some ⟨b, 0, none⟩) cur.length cur.length)).put (some d1) v1).put (some d2) v2).eval (.tmp d0) = .slice (some ⟨b, 0, none⟩) cur.length cur.length := by
    have hs := hb.size
    have hs' : a.tmps.size = n := hs
    simp [Act.eval, Act.put, hs', hd0', Ne.symm hne1, Ne.symm hne2]
  have ha2 : (((a.put (some d0) (.slice (some ⟨b, 0, none⟩) cur.length cur.length)).put (some d1) v1).put (some d2) v2).eval (.tmp d2) = v2 := by
    have hs' : a.tmps.size = n := hb.size
    simp [Act.eval, Act.put, hs', hd2']
  have hex : (execOp (((a.put (some d0) (.slice (some ⟨b, 0, none⟩) cur.length cur.length)).put (some d1) v1).put (some d2) v2).eval ⟨some d3, .call ⟨.builtin .copy, #[.tmp d0, .tmp d2], #[dT, sT]⟩, t3, p3, f3, none⟩).run P w' = .ok (.value (goInt ns.length)) (w'.setRow b ((pad cur ns).map fun (v : Nat) => Value.int .i64 v).toArray) := by
    simp [execOp, resolve, invoke, builtin, ha0, ha2, hrun]
  rw [hex]
  refine ⟨_, hk, ?_⟩
  have hM : ∀ z, z < w'.heap.size → Own ρ (objs.set o (.box (natV (pad cur ns)))) z → Own ρ objs z := fun z _ h => g2 z h
  refine Rel.step hr2 hf h0 g3 (fun _ _ h => h) (st2 := ⟨n, _, _⟩) hM (RelB.put (st := ⟨n, (d2, ints (nl ns)) :: (d1, .rpt cs off) :: (d0, .any) :: vars, objs.set o (.box (natV (pad cur ns)))⟩) ⟨fun t => ?_, hb4.size, hb4.defers, g1⟩ hd3 (.val _))
  exact (hb4.frame t).ext g3 (fun _ _ h => h) hM
end Go.Proofs.Ytfjpgficpdbelaa
