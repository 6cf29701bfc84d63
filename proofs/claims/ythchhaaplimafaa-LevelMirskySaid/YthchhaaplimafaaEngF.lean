/- Slices that the call makes: made, laid out, appended to, stored into; structs laid out. -/
import Derived.Test.YthchhaaplimafaaEngE
set_option linter.unusedSimpArgs false
set_option linter.unusedVariables false
namespace Go.Proofs.Ythchhaaplimafaa
open Go.RowKit

def Dat.one : Dat → Bool
  | .val v => v.oneCell'
  | _ => true

theorem Rd.one {w : World} {M : Nat → Prop} {v : Value} {dt : Dat} (h : Rd w M v dt) (h1 : dt.one = true) : v.oneCell' = true := by
  cases h with
  | val => exact h1
  | nil => rfl
  | sl => rfl

theorem gm_ofD_inv {ρ : Ids} {w : World} {M : Nat → Prop} {v : Value} {dt : Dat} (h : Gm ρ w M (ofD dt) v) : Rd w M v dt := by
  cases dt with
  | val u => have := h.val_inv; subst this; exact .val _
  | sl sz cs => exact h.ro_inv

theorem one_ofD {dt : Dat} (h : dt.one = true) : (ofD dt).one = true := by
  cases dt with
  | val v => exact h
  | sl => rfl

/-- A slice that the call itself made, as an object. -/
theorem sat_row {ρ : Ids} {w : World} {M : Nat → Prop} {id : Nat} {e : TypeId} {sz : Nat} {cs : List Dat} {v : Value} {n : Nat} {us : List Value} (hρ : ρ[id]? = some [v]) (ho : w.ownsRow 0 e sz v n us) (hl : us.length = cs.length)
    (h : ∀ (i : Nat) (dt : Dat), cs[i]? = some dt → ∃ u, us[i]? = some u ∧ Rd w M u dt) : SatO ρ w M id (.row e sz cs) := ⟨v, n, us, hρ, ho, hl, h⟩

theorem ownsRow_new {w : World} (cur : Array Value) (e : TypeId) (sz n cap : Nat) (us : List Value) (hu : us.length = n * sz) (hc : cur.size = cap * sz) (hn : n ≤ cap) (hm : cap ≤ maxLen) (ht : cur.toList.take (n * sz) = us) :
    (w.alloc (.cells cur e)).ownsRow 0 e sz (.slice (some ⟨w.heap.size, 0, none⟩) n cap) n us :=
  ⟨hu, .inr ⟨w.heap.size, cap, cur, rfl, Nat.zero_le _, heap_alloc_new w _, hn, hm, hc, ht⟩⟩

section
variable {P : Program} {k : Nat} {cx : Cx k} {ops : Array Oper} {Q : Exit → St → Prop} {st : St} {rest : List Oper} {ty : TypeId} {pos : String} {af : Array Edge}

theorem madeCells_list (z : Value) (z0 : Value) (sz n : Nat) (hz : z.cells.toList = List.replicate sz z0) (hsz : 0 < sz) : (madeCells z.cells (n * sz)).toList = List.replicate (n * sz) z0 := by
  have hsize : z.cells.size = sz := by rw [← Array.length_toList, hz]; simp
  apply List.ext_getElem
  · simp [madeCells]
  · intro i h1 h2
    have h3 : i % sz < z.cells.size := by rw [hsize]; exact Nat.mod_lt _ hsz
    have h4 : z.cells.toList[i % sz]? = some z0 := by rw [hz]; simp [Nat.mod_lt _ hsz]
    have h5 : z.cells[i % sz] = z0 := by
      rw [Array.getElem?_toList, Array.getElem?_eq_getElem h3] at h4
      exact Option.some.inj h4
    simp only [madeCells, hsize, Array.toList_map, Array.toList_range, List.getElem_map, List.getElem_range, List.getElem_replicate]
    rw [getElem!_pos z.cells _ h3]
    exact h5

/-- make([]T, n). -/
theorem l_make [Zs] {d : Tmp} {T e : TypeId} {sz by' : Nat} {z z0 : Value} {dt : Dat} {x y : Operand} {n : Int} (hx : st.ev x = .val (.int .i64 n)) (hy : st.ev y = .val (.int .i64 n)) (ht : SlT P T e sz) (hm : MkT P e z sz by') (h0 : 0 ≤ n)
    (hby : by' * n.toNat ≤ 281474976710656) (hpos : 0 < by') (hz : z.cells.toList = List.replicate sz z0) (hsz : 0 < sz) (hdt : ∀ w M, Rd w M z0 dt) (hd : Nat.blt d st.n = true)
    (hk : aL P cx ops Q rest ((st.add (.row e sz (List.replicate (n.toNat * sz) dt))).put d (.own st.objs.length))) : aL P cx ops Q (⟨some d, .makeSlice T x y, ty, pos, af, none⟩ :: rest) st := by
  refine l_step (st2 := st.add (.row e sz (List.replicate (n.toNat * sz) dt))) hd rfl ?_ rfl hk
  intro ρ w a hb
  obtain ⟨i, hi, hz1, hsz1, hby1⟩ := hm.info
  have hn63 : n.toNat ≤ 281474976710656 := Nat.le_trans (Nat.le_mul_of_pos_left _ hpos) hby
  obtain ⟨N, rfl⟩ := Int.eq_ofNat_of_zero_le h0
  simp only [Int.toNat_natCast] at hby hn63
  have hrun := run_make (P := P) w T e i z ht.1 hi hz1 .i64 .i64 (N : Int) (N : Int) h0 (Int.le_refl _) (by rw [hby1, ← Int.natCast_mul]; exact Int.ofNat_le.2 hby) (by omega)
  have hbel : Below w.heap.size w (w.alloc (.cells (madeCells z.cells (N * i.size)) e)) := (Below.refl _ _).alloc (Nat.le_refl _) _
  simp only [Int.toNat_natCast] at hrun
  rw [hsz1] at hrun hbel
  have hl := madeCells_list z z0 sz N hz hsz
  have happ := app_one hb.good (o := .row e sz (List.replicate (N * sz) dt)) (v := .slice (some ⟨w.heap.size, 0, none⟩) N N) hbel (fun b hb' => by cases hb'; exact Nat.le_refl _) fun hnew _ =>
    sat_row hnew (ownsRow_new _ e sz N N (List.replicate (N * sz) z0) (by simp) (by rw [size_madeCells]) (Nat.le_refl _) (by unfold maxLen; omega) (by rw [hl]; simp)) (by simp) fun j dt' hj => by
      rw [List.getElem?_replicate] at hj
      split at hj
      · rename_i hj1
        obtain rfl := Option.some.inj hj
        exact ⟨z0, by rw [List.getElem?_replicate, if_pos hj1], hdt _ _⟩
      · cases hj
  refine ⟨.slice (some ⟨w.heap.size, 0, none⟩) N N, _, _, ?_, happ.1, happ.2.1, happ.2.2.1, happ.2.2.2, .own _ _ [] (new_id hb.good.len _) rfl⟩
  simp only [execOp, hb.evv hx, hb.evv hy, Sem.run_bind, hrun, Result.andThen_ok, Sem.run_pure]

/-! Cells laid out one part behind the other. -/
theorem foldl_set (off : Nat) : ∀ (vs : List Value) (j : Nat) (cells : Array Value), off + j + vs.length ≤ cells.size →
    ((vs.zipIdx j).foldl (fun cs (p : Value × Nat) => cs.setIfInBounds (off + p.2) p.1) cells).toList = cells.toList.take (off + j) ++ vs ++ cells.toList.drop (off + j + vs.length)
  | [], j, cells, _ => by simp
  | v :: vs, j, cells, h => by
    simp only [List.length_cons] at h
    rw [List.zipIdx_cons, List.foldl_cons, foldl_set off vs (j + 1) (cells.setIfInBounds (off + j) v) (by simp; omega)]
    have hlt : off + j < cells.toList.length := by simp; omega
    simp only [Array.toList_setIfInBounds, List.length_cons]
    rw [show off + (j + 1) = (off + j) + 1 by omega]
    rw [List.take_succ_eq_append_getElem (by simpa using hlt)]
    rw [show off + j + 1 + vs.length = off + j + (vs.length + 1) by omega]
    simp only [List.getElem_set_self, List.take_set, List.append_assoc, List.singleton_append]
    rw [List.drop_set_of_lt (by omega), List.set_eq_of_length_le (by rw [List.length_take]; exact Nat.min_le_left _ _)]

theorem run_fill (place : Nat → Option (Nat × Nat)) (cells : Array Value) (i : Nat) (v : Value) (rest : List (Nat × Value)) (off : Nat) (hp : place i = some (off, v.cells.size)) (h : off + v.cells.size ≤ cells.size) :
    Instr.fill place cells ((i, v) :: rest) = Instr.fill place (cells.toList.take off ++ v.cells.toList ++ cells.toList.drop (off + v.cells.size)).toArray rest := by
  have hlt : ¬ (off + v.cells.size > cells.size) := by omega
  simp only [Instr.fill, hp, ne_eq, not_true_eq_false, hlt, decide_false, Bool.or_self, Bool.false_eq_true, if_false]
  congr 1
  apply Array.toList_inj.1
  have := foldl_set off v.cells.toList 0 cells (by simpa using h)
  simp only [Nat.add_zero, Array.length_toList] at this
  rw [← this]
  rw [← Array.foldl_toList]
  simp

def enumP (j : Nat) : List Operand → List (Nat × Operand)
  | [] => []
  | x :: r => (j, x) :: enumP (j + 1) r

theorem run_fillSlice (sz : Nat) : ∀ (vs : List Value) (j : Nat) (cells : Array Value) (f : List Operand) (ev : Operand → Value), f.map ev = vs → (∀ v ∈ vs, v.cells.size = sz) → (j + vs.length) * sz ≤ cells.size →
    Instr.fill (fun i => some (i * sz, sz)) cells ((enumP j f).map fun p => (p.1, ev p.2)) = some (cells.toList.take (j * sz) ++ vs.flatMap (fun v => v.cells.toList) ++ cells.toList.drop ((j + vs.length) * sz)).toArray
  | [], j, cells, [], ev, _, _, _ => by simp [enumP, Instr.fill]
  | v :: vs, j, cells, x :: f, ev, hf, hs, hl => by
    simp only [List.map_cons, List.cons.injEq] at hf
    obtain ⟨hv, hf⟩ := hf
    have hvs := hs v (List.mem_cons_self ..)
    simp only [enumP, List.map_cons, hv]
    have h1 : j * sz + v.cells.size ≤ cells.size := by
      rw [hvs]
      have : (j + 1) * sz ≤ (j + (v :: vs).length) * sz := Nat.mul_le_mul_right _ (by simp only [List.length_cons]; omega)
      have e : (j + 1) * sz = j * sz + sz := by rw [Nat.add_mul, Nat.one_mul]
      omega
    rw [run_fill _ cells j v _ (j * sz) (by rw [hvs]) h1]
    have hlen : (cells.toList.take (j * sz) ++ v.cells.toList ++ cells.toList.drop (j * sz + v.cells.size)).length = cells.size := by
      simp only [List.length_append, List.length_take, List.length_drop, Array.length_toList]
      omega
    rw [run_fillSlice sz vs (j + 1) _ f ev hf (fun u hu => hs u (List.mem_cons_of_mem _ hu)) (by
      rw [List.size_toArray, hlen]; simp only [List.length_cons] at hl; rw [show j + 1 + vs.length = j + (vs.length + 1) by omega]; exact hl)]
    congr 2
    have e1 : (j + 1) * sz = (cells.toList.take (j * sz) ++ v.cells.toList).length := by
      simp only [List.length_append, List.length_take, Array.length_toList, hvs]
      rw [Nat.add_mul, Nat.one_mul]
      omega
    have e2 : (j + 1 + vs.length) * sz = j * sz + sz + vs.length * sz := by rw [Nat.add_mul, Nat.add_mul, Nat.one_mul]
    have e3 : (j + (v :: vs).length) * sz = j * sz + sz + vs.length * sz := by simp only [List.length_cons]; rw [← e2]; congr 1; omega
    simp only [List.flatMap_cons, List.append_assoc]
    rw [← List.append_assoc (cells.toList.take (j * sz))]
    have htake : ((cells.toList.take (j * sz) ++ v.cells.toList) ++ cells.toList.drop (j * sz + v.cells.size)).take ((j + 1) * sz) = cells.toList.take (j * sz) ++ v.cells.toList := by rw [e1]; exact List.take_left
    have hdrop : ((cells.toList.take (j * sz) ++ v.cells.toList) ++ cells.toList.drop (j * sz + v.cells.size)).drop ((j + 1 + vs.length) * sz) = cells.toList.drop ((j + (v :: vs).length) * sz) := by
      rw [show (j + 1 + vs.length) * sz = (j + 1) * sz + vs.length * sz by rw [Nat.add_mul], e1, List.drop_append, List.drop_drop, hvs, e3]
      rw [List.drop_eq_nil_of_le (by omega), List.nil_append]
      congr 1
      omega
    rw [htake, hdrop]
    simp only [List.append_assoc]
  | [], _, _, _ :: _, _, h, _, _ => by simp at h
  | _ :: _, _, _, [], _, h, _, _ => by simp at h

/-- What the parts of a literal come to, cell by cell. -/
def PartD (st : St) (sz : Nat) : List Operand → List Dat → Prop
  | [], cs => cs = []
  | x :: r, cs => ∃ ds cs', (st.ev x).cells = ds.map ofD ∧ ds.length = sz ∧ ds.all Dat.one = true ∧ PartD st sz r cs' ∧ cs = ds ++ cs'

theorem partD_spec [Zs] {ρ : Ids} {w : World} {a : Act} (hb : RelB ρ w st a) (sz : Nat) : ∀ (xs : List Operand) (cs : List Dat), PartD st sz xs cs →
    (∀ v ∈ xs.map a.eval, v.cells.size = sz) ∧ ((xs.map a.eval).flatMap fun v => v.cells.toList).length = cs.length ∧ cs.length = xs.length * sz ∧
    ∀ (i : Nat) (dt : Dat), cs[i]? = some dt → ∃ u, ((xs.map a.eval).flatMap fun v => v.cells.toList)[i]? = some u ∧ Rd w (Ban ρ st.objs) u dt ∧ u.oneCell' = true
  | [], cs, h => by subst h; simp
  | x :: r, cs, h => by
    obtain ⟨ds, cs', h1, h2, h3', h4, rfl⟩ := h
    have h3 := List.all_eq_true.1 h3'
    obtain ⟨i1, i2, i3, i4⟩ := partD_spec hb sz r cs' h4
    obtain ⟨g1, g2, g3⟩ := gm_cells (hb.ev x) h1 (fun av hav => by
      obtain ⟨dt, hdt, rfl⟩ := List.mem_map.1 hav
      exact one_ofD (h3 dt hdt))
    have hsz : (a.eval x).cells.size = sz := by rw [g1]; simp [h2]
    refine ⟨?_, ?_, ?_, ?_⟩
    · intro v hv
      rcases List.mem_cons.1 hv with rfl | hv
      · exact hsz
      · exact i1 v hv
    · simp only [List.map_cons, List.flatMap_cons, List.length_append, Array.length_toList, hsz, i2, h2]
    · simp only [List.length_append, h2, i3, List.length_cons]; rw [Nat.add_mul, Nat.one_mul]; omega
    · intro i dt hi
      simp only [List.map_cons, List.flatMap_cons]
      by_cases hlt : i < sz
      · rw [List.getElem?_append_left (by omega)] at hi
        rw [List.getElem?_append_left (by simpa [hsz] using hlt)]
        have hlt' : i < (a.eval x).cells.size := by omega
        refine ⟨(a.eval x).cells[i], by simp [hlt'], ?_, ?_⟩
        · have := g2 i (ofD dt) _ (by rw [List.getElem?_map, hi]; rfl) (Array.getElem?_eq_getElem hlt')
          exact gm_ofD_inv this
        · exact g3 _ (by simp)
      · rw [List.getElem?_append_right (by omega)] at hi
        rw [List.getElem?_append_right (by simpa [hsz] using hlt)]
        obtain ⟨u, hu, hr⟩ := i4 _ dt hi
        refine ⟨u, ?_, hr⟩
        rw [← hu, h2]
        simp [hsz]

/-- []T{x, y, ..}: the parts in their order, each given. -/
theorem l_lit [Zs] {d : Tmp} {T e : TypeId} {sz by' n : Nat} {z : Value} {parts : Array (Nat × Operand)} {xs : List Operand} {cs : List Dat} (hp : parts = (enumP 0 xs).toArray) (hn : xs.length = n) (ht : SlT P T e sz) (hm : MkT P e z sz by')
    (hsz : 0 < sz) (hbig : Nat.ble (n * sz) 16777216 = true) (hcs : PartD st sz xs cs) (hd : Nat.blt d st.n = true)
    (hk : aL P cx ops Q rest ((st.add (.row e sz cs)).put d (.own st.objs.length))) : aL P cx ops Q (⟨some d, .buildSlice T n parts, ty, pos, af, none⟩ :: rest) st := by
  refine l_step (st2 := st.add (.row e sz cs)) hd rfl ?_ rfl hk
  intro ρ w a hb
  subst hp; subst hn
  obtain ⟨i, hi, hz1, hsz1, hby1⟩ := hm.info
  obtain ⟨h1, h2, h3, h4⟩ := partD_spec hb sz xs cs hcs
  have hbig' : xs.length * sz ≤ 16777216 := Nat.le_of_ble_eq_true hbig
  have hnb : ¬ (xs.length * sz > 2 ^ 24) := by omega
  generalize hzc : ((if xs.length * sz = 0 then (#[] : Array Value) else z.cells)) = zc
  have hfill := run_fillSlice sz (xs.map a.eval) 0 ((Array.range (xs.length * sz)).map (zc[· % zc.size]!)) xs a.eval rfl h1 (by simp)
  simp only [Nat.zero_mul, List.take_zero, List.nil_append, Nat.zero_add, List.length_map] at hfill
  rw [show List.drop (xs.length * sz) ((Array.range (xs.length * sz)).map (zc[· % zc.size]!)).toList = [] from List.drop_eq_nil_of_le (by simp), List.append_nil] at hfill
  generalize hcells : (xs.map a.eval).flatMap (fun v => v.cells.toList) = cells at hfill h2 h4
  have hbel : Below w.heap.size w (w.alloc (.cells cells.toArray e)) := (Below.refl _ _).alloc (Nat.le_refl _) _
  have happ := app_one hb.good (o := .row e sz cs) (v := .slice (some ⟨w.heap.size, 0, none⟩) xs.length xs.length) hbel (fun b hb' => by cases hb'; exact Nat.le_refl _) fun hnew hM =>
    sat_row hnew (ownsRow_new _ e sz xs.length xs.length cells (by omega) (by simp; omega) (Nat.le_refl _) (by
      have : xs.length ≤ xs.length * sz := Nat.le_mul_of_pos_right _ hsz
      unfold maxLen; omega) (by simp [← h3, ← h2])) h2 fun j dt hj => by
        obtain ⟨u, hu, hr, _⟩ := h4 j dt hj
        exact ⟨u, hu, hr.mono (Same.of_below hbel _) (Ban.mono hM)⟩
  refine ⟨.slice (some ⟨w.heap.size, 0, none⟩) xs.length xs.length, _, _, ?_, happ.1, happ.2.1, happ.2.2.1, happ.2.2.2, .own _ _ [] (new_id hb.good.len _) rfl⟩
  have hmap : ((enumP 0 xs).toArray.map fun p => (p.1, a.eval p.2)).toList = (enumP 0 xs).map fun p => (p.1, a.eval p.2) := by simp
  have hmap' : ∀ g : Nat × Operand → Nat × Value, (∀ p, g p = (p.1, a.eval p.2)) → ((enumP 0 xs).toArray.map g).toList = (enumP 0 xs).map fun p => (p.1, a.eval p.2) := by
    intro g hg
    rw [show g = fun p => (p.1, a.eval p.2) from funext hg]
    exact hmap
  have hbs : ∀ ps : Array (Nat × Value), ps.toList = (enumP 0 xs).map (fun p => (p.1, a.eval p.2)) → (Instr.buildSlice T xs.length ps).run P w = .ok (.slice (some ⟨w.heap.size, 0, none⟩) xs.length xs.length) (w.alloc (.cells cells.toArray e)) := by
    intro ps hps
    simp only [Instr.buildSlice, Sem.run_bind, run_underlying ht.1, Result.andThen_ok, ht.2.run, if_neg hnb, hps]
    by_cases h0 : xs.length * sz = 0
    · rw [if_pos h0] at hzc ⊢
      subst hzc
      simp only [Sem.run_bind, Sem.run_pure, Result.andThen_ok, hfill]
      rfl
    · rw [if_neg h0] at hzc ⊢
      subst hzc
      simp only [Sem.run_pure, Result.andThen_ok, Sem.run_bind, zeroValue, typeInfo, run_program, hi, hz1, hfill]
      rfl
  simp only [execOp, Sem.run_bind, hbs _ (hmap' _ (fun _ => rfl)), Result.andThen_ok, Sem.run_pure]
end
end Go.Proofs.Ythchhaaplimafaa
