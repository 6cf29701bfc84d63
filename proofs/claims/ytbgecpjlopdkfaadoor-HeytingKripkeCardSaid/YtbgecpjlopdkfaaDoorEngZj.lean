import Derived.Test.YtbgecpjlopdkfaaDoorEngT
import Derived.Laws.Slices
import Derived.Lib.AppendZeros
set_option linter.unusedSimpArgs false
set_option linter.unusedVariables false
set_option linter.unusedSectionVars false
namespace Go.Proofs.YtbgecpjlopdkfaaDoor
open Go.RowKit

theorem slT_elemJ {P : Program} {T e : TypeId} {sz : Nat} (ht : SlT P T e sz) : P.elem T = e ∧ P.underlying T = some (.slice (P.elem T)) := by
  have h : P.elem T = e := by unfold Program.elem; rw [ht.1]
  exact ⟨h, by rw [h]; exact ht.1⟩
section
variable {P : Program} {k : Nat} {cx : Cx k} {ops : Array Oper} {Q : Exit → St → Prop} {st : St} {rest : List Oper} {ty : TypeId} {pos : String} {af : Array Edge}
/-- append([]T(nil), make([]T, n)...). -/
theorem l_apz [Zs] {d : Tmp} {T I e : TypeId} {sz by' : Nat} {z z0 : Value} {dt : Dat} {x y : Operand} {n : Int} {cl : Callee} {ats : Array TypeId} (hcl : cl = .builtin .append) (hats : ats = #[T, I])
    (hx : st.ev x = .val (.slice none 0 0)) (hy : st.ev y = .val (.int .i64 n)) (ht : SlT P T e sz) (hI : P.underlying I = some (.int .i64)) (hm : MkT P e z sz by') (h0 : 0 < n)
    (hby : n.toNat * by' ≤ 281474976710656) (hpos : 0 < by') (hz : z.cells.toList = List.replicate sz z0) (hsz : 0 < sz) (hdt : ∀ w M, Rd w M z0 dt) (hd : Nat.blt d st.n = true)
    (hk : aL P cx ops Q rest ((st.add (.row e sz (List.replicate (n.toNat * sz) dt))).put d (.own st.objs.length))) : aL P cx ops Q (⟨some d, .call ⟨cl, #[x, y], ats⟩, ty, pos, af, none⟩ :: rest) st := by
  subst hcl; subst hats
  refine l_step (st2 := st.add (.row e sz (List.replicate (n.toNat * sz) dt))) hd rfl ?_ rfl hk
  intro ρ w a hb
  obtain ⟨i, hi, hz1, hsz1, hby1⟩ := hm.info
  have hn48 : n.toNat ≤ 281474976710656 := Nat.le_trans (Nat.le_mul_of_pos_right _ hpos) hby
  obtain ⟨N, rfl⟩ := Int.eq_ofNat_of_zero_le (Int.le_of_lt h0)
  simp only [Int.toNat_natCast] at hby hn48
  have hrun := Go.Lib.run_append_nil_zeros (P := P) w T I ty e i z .i64 .i64 ht.1 hI hi hz1 N (by omega) (by omega) (by omega) (by rw [hby1]; exact hby)
  have hge := grownCap_ge w N 0 e
  have hle := grownCap_le_maxLen w N 0 e (by unfold maxLen; omega)
  generalize grownCap w N 0 e = cap at hrun hge hle
  have hzs : z.cells.size = sz := by rw [← Array.length_toList, hz]; simp
  have hl : (Builtin.zeroCells z.cells N).toList = List.replicate (N * sz) z0 := by
    have := madeCells_list z z0 sz N hz hsz
    rw [← this, ← hzs]; rfl
  have hbel : Below w.heap.size w (w.drew.alloc (.cells (Builtin.zeroCells z.cells N ++ Builtin.zeroCells z.cells (cap - N)) e)) := ((Below.refl _ _).drew).alloc (Nat.le_refl _) _
  have happ := app_one hb.good (o := .row e sz (List.replicate (N * sz) dt)) (v := .slice (some ⟨w.heap.size, 0, none⟩) N cap) hbel (fun b hb' => by cases hb'; exact Nat.le_refl _) fun hnew _ =>
    sat_row hnew (ownsRow_new (w := w.drew) _ e sz N cap (List.replicate (N * sz) z0) (by simp) (by rw [Array.size_append, size_zeroCells, size_zeroCells, hzs, ← Nat.add_mul]; congr 1; omega) hge hle (by
      rw [Array.toList_append, hl, List.take_append_of_le_length (by simp), List.take_of_length_le (by simp)])) (by simp) fun j dt' hj => by
      rw [List.getElem?_replicate] at hj
      split at hj
      · rename_i hj1
        obtain rfl := Option.some.inj hj
        exact ⟨z0, by rw [List.getElem?_replicate, if_pos hj1], hdt _ _⟩
      · cases hj
  refine ⟨.slice (some ⟨w.heap.size, 0, none⟩) N cap, _, _, ?_, happ.1, happ.2.1, happ.2.2.1, happ.2.2.2, .own _ _ [] (new_id hb.good.len _) rfl⟩
  have e1 : a.eval x = .slice none 0 0 := hb.evv hx
  have e2 : a.eval y = .int .i64 (N : Int) := hb.evv hy
  simp [execOp, resolve, invoke, builtin, e1, e2, hrun]

/-- s[:0] where s is an own row; it is spent. -/
theorem l_cut0 [Zs] {d : Tmp} {T e : TypeId} {sz id n : Nat} {x hi : Operand} {cs : List Dat} (hx : st.ev x = .own id) (ho : st.objs[id]? = some (.row e sz cs)) (hi' : st.ev hi = .val (.int .i64 0)) (ht : SlT P T e sz) (hd : Nat.blt d st.n = true)
    (hk : aL P cx ops Q rest (((st.set id .gone).add (.row e sz [])).put d (.own st.objs.length))) : aL P cx ops Q (⟨some d, .slice T x none (some hi) none, ty, pos, af, none⟩ :: rest) st := by
  refine l_step (st2 := (st.set id .gone).add (.row e sz [])) (av := .own st.objs.length) hd rfl ?_ rfl hk
  intro ρ w a hb
  have hg := hb.ev x
  rw [hx] at hg
  obtain ⟨v, n', us, h1, h2, h3, h4⟩ := hb.good.sat id _ ho
  obtain ⟨l, hl⟩ := hg.own_inv
  rw [h1] at hl
  obtain ⟨hv, rfl⟩ := List.cons.inj (Option.some.inj hl)
  have hid := (List.getElem?_eq_some_iff.1 ho).1
  have hdrop := hb.good.drop id
  obtain ⟨t1, t2⟩ := slT_elemJ ht
  have hz : (sizeOf (P.elem T)).run P w = .ok sz w := by rw [t1]; exact ht.2.run w
  have hres : ∃ v', (execOp a.eval ⟨some d, .slice T x none (some hi) none, ty, pos, af, none⟩).run P w = .ok (.value v') w ∧ w.ownsRow 0 e sz v' 0 [] ∧ (∀ b, ablk v' = some b → ablk v = some b) ∧ v'.oneCell' = true := by
    have e2 := hb.evv hi'
    rcases h2.2 with ⟨hvn, hn⟩ | ⟨b, cap, cur, hvn, hbase, hh, hnc, hcm, hcs, htk⟩
    · have e1 : a.eval x = .slice none 0 0 := hv.symm.trans hvn
      refine ⟨.slice none 0 0, ?_, ⟨by simp, .inl ⟨rfl, rfl⟩⟩, fun b hb' => (by cases hb'), rfl⟩
      simp only [execOp, e1, e2, Option.map, run_sliceAt_slice w T _ _ _ _ t2, Sem.run_bind, run_slice_h w T none 0 0 t2 .i64 (0 : Int) (by omega) (by omega), hz, Result.andThen_ok, Sem.run_pure]
      rfl
    · have e1 : a.eval x = .slice (some ⟨b, 0, none⟩) n' cap := hv.symm.trans hvn
      refine ⟨.slice (some ⟨b, 0, none⟩) 0 cap, ?_, ⟨by simp, .inr ⟨b, cap, cur, rfl, hbase, hh, Nat.zero_le _, hcm, hcs, by simp⟩⟩, fun b' hb' => (by rw [hvn]; exact hb'), rfl⟩
      simp only [execOp, e1, e2, Option.map, run_sliceAt_slice w T _ _ _ _ t2, Sem.run_bind, run_slice_h w T (some ⟨b, 0, none⟩) n' cap t2 .i64 (0 : Int) (by omega) (by omega), hz, Result.andThen_ok, Sem.run_pure, sliced]
      simp [Addr.add]
  obtain ⟨v', hrun, how, hblk, hone'⟩ := hres
  have hlenρ : ρ.length = (st.objs.set id .gone).length := by simp [hb.good.len]
  have hlast : ∀ id' b, (st.objs.set id .gone).length ≤ id' → foot (ρ ++ [[v']]) (st.objs.set id .gone ++ [.row e sz []]) id' b → id' = (st.objs.set id .gone).length ∧ ablk v' = some b := by
    rintro id' b h ⟨o', l, h5, _, h6, u, h7, h8⟩
    have hlt := (List.getElem?_eq_some_iff.1 h5).1
    simp at hlt h
    obtain rfl : id' = st.objs.length := by omega
    rw [show st.objs.length = (st.objs.set id .gone).length by simp, new_id hlenρ] at h6
    obtain rfl := Option.some.inj h6
    obtain rfl := List.mem_singleton.1 h7
    exact ⟨by simp, h8⟩
  have hM : ∀ b, b < w.heap.size → Own (ρ ++ [[v']]) (st.objs.set id .gone ++ [.row e sz []]) b → Own ρ st.objs b := by
    rintro b hlt ⟨id', h⟩
    rcases foot_app hlenρ h with ⟨_, h⟩ | ⟨h5, h6⟩
    · exact hdrop.2 b ⟨id', h⟩
    · exact ⟨id, _, _, ho, rfl, h1, v, List.mem_singleton.2 rfl, hblk b (hlast id' b h5 h6).2⟩
  have hnew : (ρ ++ [[v']])[st.objs.length]? = some [v'] := new_id hb.good.len _
  have hsm : Same (Own ρ st.objs) w w := Same.refl _ _
  refine ⟨v', w, ρ ++ [[v']], hrun, hsm, ext_app ρ _, hM, ⟨by simp [St.add, St.set, hb.good.len], ?_, ?_, fun id' b h hz => ?_, fun b hz => hb.good.zl b hz, hb.good.tt.step hsm hM⟩, .own _ _ [] hnew hone'⟩
  rotate_left 2
  · by_cases hlt : b < w.heap.size
    · obtain ⟨id2, h2'⟩ := hM b hlt ⟨id', h⟩
      exact hb.good.zf id2 b h2' hz
    · exact hlt (hb.good.zl b hz)
  · intro id' o' ho'
    show SatO _ _ (Ban _ (st.objs.set id .gone ++ [.row e sz []])) id' o'
    change (st.objs.set id .gone ++ [.row e sz []])[id']? = some o' at ho'
    by_cases hlt : id' < st.objs.length
    · rw [List.getElem?_append_left (by simpa using hlt)] at ho'
      by_cases he : id' = id
      · subst he
        rw [List.getElem?_set_self hid] at ho'
        obtain rfl := Option.some.inj ho'
        trivial
      · rw [List.getElem?_set_ne (Ne.symm he)] at ho'
        exact (hb.good.sat id' o' ho').keep hsm (ext_app ρ _) hM fun l' u b h5 h6 h7 hbl => rfl
    · rw [List.getElem?_append_right (by simpa using hlt)] at ho'
      have hlt2 := (List.getElem?_eq_some_iff.1 ho').1
      simp at hlt2
      obtain rfl : id' = st.objs.length := by omega
      simp at ho'
      subst ho'
      exact sat_row hnew how rfl fun j dt hj => by simp at hj
  · intro i j b hi hj
    change foot _ (st.objs.set id .gone ++ [.row e sz []]) i b at hi
    change foot _ (st.objs.set id .gone ++ [.row e sz []]) j b at hj
    have old : ∀ {i b}, foot ρ (st.objs.set id .gone) i b → ablk v' = some b → False := by
      intro i b h5 h6
      rcases foot_set hid h5 with ⟨_, h, _⟩ | ⟨hne, h7⟩
      · cases h
      · exact hne (hb.good.dis i id b h7 ⟨_, _, ho, rfl, h1, v, List.mem_singleton.2 rfl, hblk b h6⟩)
    rcases foot_app hlenρ hi with ⟨_, a2⟩ | ⟨a1, a2⟩ <;> rcases foot_app hlenρ hj with ⟨_, b2⟩ | ⟨b1, b2⟩
    · exact hdrop.1.dis i j b a2 b2
    · exact (old a2 (hlast j b b1 b2).2).elim
    · exact (old b2 (hlast i b a1 a2).2).elim
    · exact (hlast i b a1 a2).1.trans (hlast j b b1 b2).1.symm
end

section
variable {P : Program} {st : St} {d : Option Tmp} {ty : TypeId} {pos : String} {af : Array Edge} {g : Option (Nat × Bool)}
theorem Q_cap_nil {x : Operand} {T e : TypeId} {sz : Nat} (hx : st.ev x = .val (.slice none 0 0)) (ht : SlT P T e sz) : QOp P ⟨d, .call ⟨.builtin .cap, #[x], #[T]⟩, ty, pos, af, g⟩ st (.val (.int .i64 0)) :=
  .run fun ρ w a hr => ⟨_, .val _, fun w1 _ => by
    simp [execOp, resolve, invoke, builtin, hr.evv hx, Builtin.cap_, run_underlying ht.1, goInt]⟩
theorem Q_slice_nil {x hi : Operand} {T e : TypeId} {sz : Nat} (hx : st.ev x = .val (.slice none 0 0)) (hi' : st.ev hi = .val (.int .i64 0)) (ht : SlT P T e sz) :
    QOp P ⟨d, .slice T x none (some hi) none, ty, pos, af, g⟩ st (.val (.slice none 0 0)) :=
  .run fun ρ w a hr => ⟨_, .val _, fun w1 _ => by
    obtain ⟨h1, h2⟩ := slT_elemJ ht
    have hz : (sizeOf (P.elem T)).run P w1 = .ok sz w1 := by rw [h1]; exact ht.2.run w1
    simp only [execOp, hr.evv hx, hr.evv hi', Option.map, run_sliceAt_slice w1 T _ _ _ _ h2, Sem.run_bind, run_slice_h w1 T none 0 0 h2 .i64 (0 : Int) (by omega) (by omega), hz, Result.andThen_ok, Sem.run_pure]
    rfl⟩
/-! Slices of tables. -/
def tabc (l : List (List (List Int))) : List Dat := l.map fun t => .sl 1 (rowc t)
def tabs (l : List (List (List Int))) : AV := .ro (.sl 1 (tabc l))
theorem tabc_len (l : List (List (List Int))) : (tabc l).length = l.length * 1 := by simp [tabc]
theorem Q_len_tabs {x : Operand} {T e : TypeId} {l : List (List (List Int))} (hx : st.ev x = tabs l) (ht : SlT P T e 1) : QOp P ⟨d, .call ⟨.builtin .len, #[x], #[T]⟩, ty, pos, af, g⟩ st (.val (.int .i64 (l.length : Int))) :=
  Q_len_ro rfl hx rfl ht (tabc_len l) (by decide)
theorem Q_ix_tabs {x ix : Operand} {T e : TypeId} {l : List (List (List Int))} {i : Int} {o : Nat} (hx : st.ev x = tabs l) (hi : st.ev ix = .val (.int .i64 i)) (ho : i = (o : Int)) (ht : SlT P T e 1) (h : o < l.length) :
    QOp P ⟨d, .indexAddr T x ix, ty, pos, af, g⟩ st (.rpt (tabc l) o) := by
  have := Q_index_ro (P := P) (d := d) (ty := ty) (pos := pos) (af := af) (g := g) (x := x) (ix := ix) hx hi ht (tabc_len l) (by decide) ⟨by omega, by omega⟩
  rw [show i.toNat * 1 = o by omega] at this
  exact this
theorem Q_ld_tabs {x : Operand} {T : TypeId} {l : List (List (List Int))} {o : Nat} (hx : st.ev x = .rpt (tabc l) o) (h : o < l.length) (ht : ScT P T) :
    QOp P ⟨d, .load T x, ty, pos, af, g⟩ st (rows (l.getD o [])) :=
  Q_ld_rs (sz := 1) (cs' := rowc (l.getD o [])) hx (by
    unfold tabc
    rw [List.getElem?_map, List.getElem?_eq_getElem h, List.getD_eq_getElem?_getD, List.getElem?_eq_getElem h]; rfl) ht
/-! Lattices one behind the other. -/
def latc : List (Int × List (List Int) × List (List Int)) → List Dat
  | [] => []
  | p :: r => .val (.int .i64 p.1) :: .sl 1 (rowc p.2.1) :: .sl 1 (rowc p.2.2) :: latc r
def lats (l : List (Int × List (List Int) × List (List Int))) : AV := .ro (.sl 3 (latc l))
abbrev latA (N : Int) (m j : List (List Int)) : AV := .agg [.val (.int .i64 N), rows m, rows j]
end

section
variable {P : Program} {k : Nat} {cx : Cx k} {ops : Array Oper} {Q : Exit → St → Prop} {rest : List Oper} {ty : TypeId} {pos : String} {af : Array Edge} {n : Nat} {vars : List (Nat × AV)} {objs objs' : List AO} {d m : Nat}
theorem w_lit_tabs2 [Zs] {T e : TypeId} {by' : Nat} {z : Value} {x y : Operand} {a b : List (List Int)} (hx : (⟨n, vars, objs⟩ : St).ev x = rows a) (hy : (⟨n, vars, objs⟩ : St).ev y = rows b) (ht : SlT P T e 1) (hmk : MkT P e z 1 by')
    (ho : objs ++ [.row e 1 (tabc [a, b])] = objs') (hm : objs.length = m) (hd : Nat.blt d n = true) (hk : aL P cx ops Q rest ⟨n, (d, .own m) :: vars, objs'⟩) :
    aL P cx ops Q (⟨some d, .buildSlice T 2 #[(0, x), (1, y)], ty, pos, af, none⟩ :: rest) ⟨n, vars, objs⟩ := by
  subst ho; subst hm
  exact l_lit (xs := [x, y]) rfl rfl ht hmk (by decide) (by decide) ⟨[.sl 1 (rowc a)], _, by rw [hx]; rfl, rfl, rfl, ⟨[.sl 1 (rowc b)], [], by rw [hy]; rfl, rfl, rfl, rfl, rfl⟩, rfl⟩ hd hk
/-- append([]T(nil), make([]T, n)...), T a slice of numbers. -/
theorem w_apz [Zs] {T I e : TypeId} {x y : Operand} {N : Int} (hx : (⟨n, vars, objs⟩ : St).ev x = .val (.slice none 0 0)) (hy : (⟨n, vars, objs⟩ : St).ev y = .val (.int .i64 N)) (ht : SlT P T e 1) (hI : P.underlying I = some (.int .i64)) (hmk : MkT P e (.slice none 0 0) 1 24) (h0 : 0 < N ∧ N ≤ 5000000000)
    (ho : objs ++ [.row e 1 (List.replicate N.toNat (.sl 1 []))] = objs') (hm : objs.length = m) (hd : Nat.blt d n = true) (hk : aL P cx ops Q rest ⟨n, (d, .own m) :: vars, objs'⟩) :
    aL P cx ops Q (⟨some d, .call ⟨.builtin .append, #[x, y], #[T, I]⟩, ty, pos, af, none⟩ :: rest) ⟨n, vars, objs⟩ := by
  subst ho; subst hm
  refine l_apz (z0 := .slice none 0 0) (dt := .sl 1 []) rfl rfl hx hy ht hI hmk h0.1 (by omega) (by decide) rfl (by decide) (fun _ _ => .nil 1) hd ?_
  rw [Nat.mul_one]
  exact hk
theorem w_cut0 [Zs] {T e : TypeId} {sz id : Nat} {x hi : Operand} {cs : List Dat} (hx : (⟨n, vars, objs⟩ : St).ev x = .own id) (hob : objs[id]? = some (.row e sz cs)) (hi' : (⟨n, vars, objs⟩ : St).ev hi = .val (.int .i64 0)) (ht : SlT P T e sz)
    (ho : objs.set id .gone ++ [.row e sz []] = objs') (hm : objs.length = m) (hd : Nat.blt d n = true) (hk : aL P cx ops Q rest ⟨n, (d, .own m) :: vars, objs'⟩) :
    aL P cx ops Q (⟨some d, .slice T x none (some hi) none, ty, pos, af, none⟩ :: rest) ⟨n, vars, objs⟩ := by
  subst ho; subst hm
  exact l_cut0 (n := 0) hx hob hi' ht hd hk
end
end Go.Proofs.YtbgecpjlopdkfaaDoor
