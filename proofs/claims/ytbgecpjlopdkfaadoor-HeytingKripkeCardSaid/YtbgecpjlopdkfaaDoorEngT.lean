/- Functions that are handed over; what they have captured; cells that are only read. -/
import Derived.Test.YtbgecpjlopdkfaaDoorEngA
import Derived.Laws.Small
import Derived.ChangeKeysEq
import Derived.Scope
import Derived.OrdersHeld
set_option linter.unusedSimpArgs false
set_option linter.unusedVariables false
set_option linter.unusedSectionVars false
namespace Go.Proofs.YtbgecpjlopdkfaaDoor
open Go.RowKit

class KBo (P : Program) (T : TypeId) : Prop where h : P.underlying T = some .bool
/-- A value that stays what it is, whatever objects come and go. -/
class VwR (av : AV) : Prop where h : ∀ objs σ, Vw objs σ av av
class VwRL (l : List AV) : Prop where h : ∀ objs σ, VwL objs σ l l
theorem vwRL {l l' : List AV} [VwRL l'] {objs : List AO} {σ : List Nat} (h : l = l') : VwL objs σ l l' := by rw [h]; exact VwRL.h objs σ
theorem vwR {a b : AV} [VwR b] {objs : List AO} {σ : List Nat} (h : a = b) : Vw objs σ a b := by rw [h]; exact VwR.h objs σ
instance (v : Value) : VwR (.val v) := ⟨fun _ _ => .val v⟩
instance (d : Dat) : VwR (.ro d) := ⟨fun _ _ => .ro d⟩
instance (cs : List Dat) (o : Nat) : VwR (.rpt cs o) := ⟨fun _ _ => .rpt cs o⟩
instance : VwRL [] := ⟨fun _ _ => trivial⟩
instance (a : AV) (l : List AV) [VwR a] [VwRL l] : VwRL (a :: l) := ⟨fun objs σ => ⟨VwR.h objs σ, VwRL.h objs σ⟩⟩
instance (f : FuncId) (l : List AV) [VwRL l] : VwR (.clo f l) := ⟨fun objs σ => .clo' (VwRL.h objs σ)⟩

/-- The function g, with what it has captured. -/
def IsFn (cl : AV) (g : FuncId) (caps : List AV) : Prop := (cl = .val (.func (.func g) #[] #[]) ∧ caps = []) ∨ cl = .clo g caps
theorem callee_of {st : St} {x : Operand} {cl : AV} {g : FuncId} {caps : List AV} (hf : IsFn cl g caps) (h : st.ev x = cl) : Callee' st x g caps := by subst h; exact hf
theorem isFn_clo (g : FuncId) (caps : List AV) : IsFn (.clo g caps) g caps := .inr rfl

section
variable {P : Program} {st : St} {d : Option Tmp} {T : TypeId} {x y : Operand} {ty : TypeId} {pos : String} {af : Array Edge} {g : Option (Nat × Bool)}
theorem run_eqGuard_bool (op : BinOp) (T : TypeId) (x y : Operand) (u v : Bool) (w : World) : (eqGuard op T x y (.bool u) (.bool v)).run P w = .ok () w := by
  cases op <;> rfl
theorem Q_eqlB {u v : Bool} {T' : TypeId} (hx : st.ev x = .val (.bool u)) (hy : st.ev y = .val (.bool v)) (ht : P.underlying T = some .bool) : QOp P ⟨d, .binOp .eql T x y T', ty, pos, af, g⟩ st (.val (.bool (u == v))) :=
  .run fun _ _ a hr => ⟨_, .val _, fun w1 _ => by
    have h : (binOp .eql T (.bool u) (.bool v)).run P w1 = .ok (.bool (u == v)) w1 := by
      show (do pure (Value.bool (← Op.equal T (.bool u) (.bool v)))).run P w1 = _
      rw [Sem.run_bind, run_equal_bool _ _ _ _ ht]
      rfl
    simp only [execOp, hr.evv hx, hr.evv hy, Sem.run_bind, run_eqGuard_bool, Result.andThen_ok, h, Sem.run_pure]⟩
theorem Q_neqB {u v : Bool} {T' : TypeId} (hx : st.ev x = .val (.bool u)) (hy : st.ev y = .val (.bool v)) (ht : P.underlying T = some .bool) : QOp P ⟨d, .binOp .neq T x y T', ty, pos, af, g⟩ st (.val (.bool (!(u == v)))) :=
  .run fun _ _ a hr => ⟨_, .val _, fun w1 _ => by
    have h : (binOp .neq T (.bool u) (.bool v)).run P w1 = .ok (.bool (!(u == v))) w1 := by
      show (do pure (Value.bool (!(← Op.equal T (.bool u) (.bool v))))).run P w1 = _
      rw [Sem.run_bind, run_equal_bool _ _ _ _ ht]
      rfl
    simp only [execOp, hr.evv hx, hr.evv hy, Sem.run_bind, run_eqGuard_bool, Result.andThen_ok, h, Sem.run_pure]⟩
theorem Q_ld_rv {cs : List Dat} {o : Nat} {v : Value} (hx : st.ev x = .rpt cs o) (hc : cs[o]? = some (.val v)) (ht : ScT P T) : QOp P ⟨d, .load T x, ty, pos, af, g⟩ st (.val v) := Q_load_rpt hx hc ht
theorem Q_ld_rs {cs cs' : List Dat} {o sz : Nat} (hx : st.ev x = .rpt cs o) (hc : cs[o]? = some (.sl sz cs')) (ht : ScT P T) : QOp P ⟨d, .load T x, ty, pos, af, g⟩ st (.ro (.sl sz cs')) := Q_load_rpt hx hc ht
end

section
variable {P : Program} {k : Nat} {cx : Cx k} {ops : Array Oper} {Q : Exit → St → Prop} {rest : List Oper} {ty : TypeId} {pos : String} {af : Array Edge} {n : Nat} {vars : List (Nat × AV)} {objs objs' : List AO} {d m : Nat}
theorem w_ap_rows [Zs] {T e : TypeId} {x y : Operand} {id : Nat} {l r : List (List Int)} (hx : (⟨n, vars, objs⟩ : St).ev x = .own id) (hob : objs[id]? = some (.row e 1 (rowc l))) (hy : SrcD ⟨n, vars, objs⟩ 1 ((⟨n, vars, objs⟩ : St).ev y) (rowc r))
    (ht : SlT P T e 1) (hmk : MkT P e (.slice none 0 0) 1 24) (hbig : l.length + r.length ≤ 5000000000) (ho : objs.set id .gone ++ [.row e 1 (rowc (l ++ r))] = objs') (hm : objs.length = m) (hd : Nat.blt d n = true)
    (hk : aL P cx ops Q rest ⟨n, (d, .own m) :: vars, objs'⟩) : aL P cx ops Q (⟨some d, .call ⟨.builtin .append, #[x, y], #[T, T]⟩, ty, pos, af, none⟩ :: rest) ⟨n, vars, objs⟩ := by
  subst ho; subst hm
  exact l_append (cs := rowc l) (cs2 := rowc r) rfl rfl hx hob hy ht hmk rfl (rowc_len l) (rowc_len r) (by decide) (rowc_one r) (by decide) (by omega) hd (by rw [rowc_app]; exact hk)
end
end Go.Proofs.YtbgecpjlopdkfaaDoor

/- Slices of slices laid out; parts that are the call's own are only read from then on. -/
namespace Go.Proofs.YtbgecpjlopdkfaaDoor
open Go.RowKit
section
variable {P : Program} {k : Nat} {cx : Cx k} {ops : Array Oper} {Q : Exit → St → Prop} {rest : List Oper} {ty : TypeId} {pos : String} {af : Array Edge} {n : Nat} {vars : List (Nat × AV)} {objs objs1 objs' : List AO} {d m : Nat}
def Rws (st : St) : List Operand → List (List Int) → Prop
  | [], [] => True
  | x :: r, n :: l => st.ev x = ints n ∧ Rws st r l
  | _, _ => False
theorem rws_part {st : St} : ∀ {xs : List Operand} {l : List (List Int)}, Rws st xs l → PartD st 1 xs (rowc l)
  | [], [], _ => rfl
  | _ :: _, _ :: _, ⟨h, h'⟩ => ⟨[.sl 1 (intc _)], _, by rw [h]; rfl, rfl, rfl, rws_part h', rfl⟩
theorem w_lit_rows [Zs] {T e : TypeId} {by' N : Nat} {z : Value} {parts : Array (Nat × Operand)} {xs : List Operand} {l : List (List Int)} (hp : parts = (enumP 0 xs).toArray) (hn : xs.length = N) (ht : SlT P T e 1) (hmk : MkT P e z 1 by') (hbig : Nat.ble (N * 1) 16777216 = true)
    (hl : Rws ⟨n, vars, objs⟩ xs l) (ho : objs ++ [.row e 1 (rowc l)] = objs') (hm : objs.length = m) (hd : Nat.blt d n = true) (hk : aL P cx ops Q rest ⟨n, (d, .own m) :: vars, objs'⟩) : aL P cx ops Q (⟨some d, .buildSlice T N parts, ty, pos, af, none⟩ :: rest) ⟨n, vars, objs⟩ := by
  subst ho; subst hm
  exact l_lit hp hn ht hmk (by decide) hbig (rws_part hl) hd hk
theorem w_lit_r2 [Zs] {T e : TypeId} {by' : Nat} {z : Value} {x y : Operand} {a b : List Int} (hx : (⟨n, vars, objs⟩ : St).ev x = ints a) (hy : (⟨n, vars, objs⟩ : St).ev y = ints b) (ht : SlT P T e 1) (hmk : MkT P e z 1 by')
    (ho : objs ++ [.row e 1 (rowc [a, b])] = objs') (hm : objs.length = m) (hd : Nat.blt d n = true) (hk : aL P cx ops Q rest ⟨n, (d, .own m) :: vars, objs'⟩) :
    aL P cx ops Q (⟨some d, .buildSlice T 2 #[(0, x), (1, y)], ty, pos, af, none⟩ :: rest) ⟨n, vars, objs⟩ :=
  w_lit_rows (xs := [x, y]) (l := [a, b]) rfl rfl ht hmk (by decide) ⟨hx, hy, trivial⟩ ho hm hd hk
theorem w_lit_r1o [Zs] {T e e' : TypeId} {by' t id : Nat} {z : Value} {r : List Int} (hx : (⟨n, vars, objs⟩ : St).get t = .own id) (hob : objs[id]? = some (.row e' 1 (intc r))) (ht : SlT P T e 1) (hmk : MkT P e z 1 by')
    (ho1 : objs.set id .gone = objs1) (ho : objs1 ++ [.row e 1 (rowc [r])] = objs') (hm : objs1.length = m) (hd : Nat.blt d n = true) (hk : aL P cx ops Q rest ⟨n, (d, .own m) :: (t, ints r) :: vars, objs'⟩) :
    aL P cx ops Q (⟨some d, .buildSlice T 1 #[(0, .tmp t)], ty, pos, af, none⟩ :: rest) ⟨n, vars, objs⟩ :=
  w_freeze t id hx hob ho1 (w_lit_r1 (by show getv ((t, _) :: vars) t = _; rw [getv_cons, if_pos rfl]; rfl) ht hmk ho hm hd hk)
end
end Go.Proofs.YtbgecpjlopdkfaaDoor

/- Calls whose results hang on fresh memory, or on what the caller handed over to be read; slices of the call's own that are only read from then on, wherever they stand. -/
namespace Go.Proofs.YtbgecpjlopdkfaaDoor
open Go.RowKit

/-- av may be taken as av', with none of the call's own objects in it. -/
inductive Vs : AV → AV → Prop where
  | val (v : Value) : Vs (.val v) (.val v)
  | ro (d : Dat) : Vs (.ro d) (.ro d)
  | rpt (cs : List Dat) (off : Nat) : Vs (.rpt cs off) (.rpt cs off)
  | valro (v : Value) : Vs (.val v) (.ro (.val v))
  | nilro (sz : Nat) : Vs (.val (.slice none 0 0)) (.ro (.sl sz []))
  | agg (l l' : List AV) (hl : l.length = l'.length) (h : ∀ (i : Nat) (a b : AV), l[i]? = some a → l'[i]? = some b → Vs a b) : Vs (.agg l) (.agg l')
  | tup (l l' : List AV) (hl : l.length = l'.length) (h : ∀ (i : Nat) (a b : AV), l[i]? = some a → l'[i]? = some b → Vs a b) : Vs (.tup l) (.tup l')
  | clo (f : FuncId) (l l' : List AV) (hl : l.length = l'.length) (h : ∀ (i : Nat) (a b : AV), l[i]? = some a → l'[i]? = some b → Vs a b) : Vs (.clo f l) (.clo f l')
  | any (av : AV) : Vs av .any
def VsL : List AV → List AV → Prop
  | [], [] => True
  | a :: l, b :: r => Vs a b ∧ VsL l r
  | _, _ => False
theorem vsL_spec : ∀ {l l' : List AV}, VsL l l' → l.length = l'.length ∧ ∀ (i : Nat) (a b : AV), l[i]? = some a → l'[i]? = some b → Vs a b
  | [], [], _ => ⟨rfl, fun i a b h => by simp at h⟩
  | a :: l, b :: r, h => by
    obtain ⟨h1, h2⟩ := vsL_spec h.2
    refine ⟨by simp [h1], fun i x y hx hy => ?_⟩
    cases i with
    | zero => simp at hx hy; subst hx; subst hy; exact h.1
    | succ i => exact h2 i x y (by simpa using hx) (by simpa using hy)
theorem Vs.agg' {l l' : List AV} (h : VsL l l') : Vs (.agg l) (.agg l') := .agg l l' (vsL_spec h).1 (vsL_spec h).2
theorem Vs.tup' {l l' : List AV} (h : VsL l l') : Vs (.tup l) (.tup l') := .tup l l' (vsL_spec h).1 (vsL_spec h).2
theorem Vs.clo' {f : FuncId} {l l' : List AV} (h : VsL l l') : Vs (.clo f l) (.clo f l') := .clo f l l' (vsL_spec h).1 (vsL_spec h).2

theorem Vs.gm {ρ ρ' : Ids} {w : World} {M M' : Nat → Prop} (hM : ∀ b, M' b → M b) {av av' : AV} (hv : Vs av av') : ∀ v, Gm ρ w M av v → Gm ρ' w M' av' v := by
  have rd : ∀ {v d}, Rd w M v d → Rd w M' v d := fun h => h.mono (Same.refl M w) (fun b _ hb => hM b hb)
  have lst : ∀ {l l' : List AV} {vs : Array Value}, l.length = l'.length → l.length = vs.size → (∀ (i : Nat) (a b : AV), l[i]? = some a → l'[i]? = some b → ∀ v, Gm ρ w M a v → Gm ρ' w M' b v) →
      (∀ (i : Nat) (av : AV) (v : Value), l[i]? = some av → vs[i]? = some v → Gm ρ w M av v) → l'.length = vs.size ∧ ∀ (i : Nat) (av : AV) (v : Value), l'[i]? = some av → vs[i]? = some v → Gm ρ' w M' av v := by
    intro l l' vs hl hlen ih hi
    refine ⟨by rw [← hl]; exact hlen, fun i b v hb hv => ?_⟩
    have hlt : i < l.length := by rw [hl]; exact (List.getElem?_eq_some_iff.1 hb).1
    exact ih i _ b (List.getElem?_eq_getElem hlt) hb v (hi i _ v (List.getElem?_eq_getElem hlt) hv)
  induction hv with
  | val v => intro u hu; rw [hu.val_inv]; exact .val _
  | ro d => intro u hu; exact .ro d u (rd hu.ro_inv)
  | rpt cs off =>
    intro u hu
    obtain ⟨a, us, rfl, _, h2, h3, h4⟩ := hu.rpt_inv
    exact .rpt a cs off us trivial (fun k hk hm => h2 k hk (hM _ hm)) h3 (fun k d hd => rd (h4 k d hd))
  | valro v => intro u hu; rw [hu.val_inv]; exact .ro _ _ (.val _)
  | nilro sz => intro u hu; rw [hu.val_inv]; exact .ro _ _ (.nil sz)
  | agg l l' hl _ ih => intro u hu; obtain ⟨vs, rfl, h1, h2⟩ := hu.agg_inv; obtain ⟨a, b⟩ := lst hl h1 ih h2; exact .agg _ vs a b
  | tup l l' hl _ ih => intro u hu; obtain ⟨vs, rfl, h1, h2⟩ := hu.tup_inv; obtain ⟨a, b⟩ := lst hl h1 ih h2; exact .tup _ vs a b
  | clo f l l' hl _ ih => intro u hu; obtain ⟨vs, rfl, h1, h2⟩ := hu.clo_inv; obtain ⟨a, b⟩ := lst hl h1 ih h2; exact .clo f _ vs a b
  | any av => intro u _; exact .any u

/-- The numbers of its objects shifted, and less barred, it is what it was. -/
theorem sh_gm {ρ ρ' : Ids} {w : World} {M M' : Nat → Prop} {m : Nat} (hM : ∀ b, M' b → M b) (hρ : ∀ (id : Nat) l, ρ[id]? = some l → ρ'[m + id]? = some l) {av : AV} {v : Value} (h : Gm ρ w M av v) : Gm ρ' w M' (av.sh m) v := by
  have rd : ∀ {v d}, Rd w M v d → Rd w M' v d := fun h => h.mono (Same.refl M w) (fun b _ hb => hM b hb)
  have lst : ∀ {l : List AV} {vs : Array Value}, (∀ (i : Nat) (av : AV) (v : Value), l[i]? = some av → vs[i]? = some v → Gm ρ' w M' (av.sh m) v) →
      ∀ (i : Nat) (av : AV) (v : Value), (AV.shl m l)[i]? = some av → vs[i]? = some v → Gm ρ' w M' av v := by
    intro l vs h i av v hi hv
    rw [shl_get] at hi
    obtain ⟨av0, h1, rfl⟩ := Option.map_eq_some_iff.1 hi
    exact h i av0 v h1 hv
  induction h with
  | val v => exact .val v
  | ro d v hr => exact .ro d v (rd hr)
  | own id v l h h1 => exact .own _ v l (hρ _ _ h) h1
  | ptr id off b l h => exact .ptr _ off b l (hρ _ _ h)
  | ept id k b n cap l h => exact .ept _ k b n cap l (hρ _ _ h)
  | rpt a cs off us hsp h2 h3 h4 => exact .rpt a cs off us hsp (fun k hk hm => h2 k hk (hM _ hm)) h3 (fun k d hd => rd (h4 k d hd))
  | agg l vs hl _ ih => exact .agg _ vs (by rw [shl_len]; exact hl) (lst ih)
  | tup l vs hl _ ih => exact .tup _ vs (by rw [shl_len]; exact hl) (lst ih)
  | clo f l vs hl _ ih => exact .clo f _ vs (by rw [shl_len]; exact hl) (lst ih)
  | any v => exact .any v

/-! An own slice is only read from now on: what stands for it, wherever it stands. -/
mutual
def AV.fr (id : Nat) (d : Dat) : AV → AV
  | .own id' => bif Nat.beq id' id then .ro d else .own id'
  | .agg l => .agg (AV.frl id d l)
  | .tup l => .tup (AV.frl id d l)
  | .clo f l => .clo f (AV.frl id d l)
  | .val v => .val v
  | .ro d' => .ro d'
  | .ptr i o => .ptr i o
  | .ept i o => .ept i o
  | .rpt cs o => .rpt cs o
  | .any => .any
def AV.frl (id : Nat) (d : Dat) : List AV → List AV
  | [] => []
  | a :: l => a.fr id d :: AV.frl id d l
end
theorem frl_get (id : Nat) (d : Dat) : ∀ (l : List AV) (i : Nat), (AV.frl id d l)[i]? = (l[i]?).map (AV.fr id d)
  | [], i => by simp [AV.frl]
  | a :: l, 0 => by simp [AV.frl]
  | a :: l, i + 1 => by simp [AV.frl, frl_get id d l i]
theorem frl_len (id : Nat) (d : Dat) : ∀ (l : List AV), (AV.frl id d l).length = l.length
  | [] => rfl
  | a :: l => by simp [AV.frl, frl_len id d l]
def AO.fr (id : Nat) (d : Dat) : AO → AO
  | .box l => .box (AV.frl id d l)
  | .row e sz cs => .row e sz cs
  | .mat e e' m => .mat e e' m
  | .mp m => .mp m
  | .bld T e cs => .bld T e cs
  | .gone => .gone
def fro (id : Nat) (d : Dat) : List AO → List AO
  | [] => []
  | o :: l => o.fr id d :: fro id d l
theorem fro_get (id : Nat) (d : Dat) : ∀ (l : List AO) (i : Nat), (fro id d l)[i]? = (l[i]?).map (AO.fr id d)
  | [], i => by simp [fro]
  | a :: l, 0 => by simp [fro]
  | a :: l, i + 1 => by simp [fro, fro_get id d l i]
theorem fro_len (id : Nat) (d : Dat) : ∀ (l : List AO), (fro id d l).length = l.length
  | [] => rfl
  | a :: l => by simp [fro, fro_len id d l]
theorem fr_gm {ρ : Ids} {w : World} {M M' : Nat → Prop} {id : Nat} {d : Dat} (hM : ∀ b, M' b → M b) (hid : ∀ v l, ρ[id]? = some (v :: l) → Rd w M' v d) {av : AV} {v : Value} (h : Gm ρ w M av v) : Gm ρ w M' (av.fr id d) v := by
  have rd : ∀ {v d}, Rd w M v d → Rd w M' v d := fun h => h.mono (Same.refl M w) (fun b _ hb => hM b hb)
  have lst : ∀ {l : List AV} {vs : Array Value}, (∀ (i : Nat) (av : AV) (v : Value), l[i]? = some av → vs[i]? = some v → Gm ρ w M' (av.fr id d) v) →
      ∀ (i : Nat) (av : AV) (v : Value), (AV.frl id d l)[i]? = some av → vs[i]? = some v → Gm ρ w M' av v := by
    intro l vs h i av v hi hv
    rw [frl_get] at hi
    obtain ⟨av0, h1, rfl⟩ := Option.map_eq_some_iff.1 hi
    exact h i av0 v h1 hv
  induction h with
  | val v => exact .val v
  | ro d v hr => exact .ro d v (rd hr)
  | own i v l h h1 =>
    show Gm ρ w M' (bif Nat.beq i id then .ro d else .own i) v
    cases hbq : Nat.beq i id with
    | false => exact .own i v l h h1
    | true =>
      obtain rfl := Nat.eq_of_beq_eq_true hbq
      exact .ro d v (hid v l h)
  | ptr i off b l h => exact .ptr _ off b l h
  | ept i k b n cap l h => exact .ept _ k b n cap l h
  | rpt a cs off us hsp h2 h3 h4 => exact .rpt a cs off us hsp (fun k hk hm => h2 k hk (hM _ hm)) h3 (fun k d hd => rd (h4 k d hd))
  | agg l vs hl _ ih => exact .agg _ vs (by rw [frl_len]; exact hl) (lst ih)
  | tup l vs hl _ ih => exact .tup _ vs (by rw [frl_len]; exact hl) (lst ih)
  | clo f l vs hl _ ih => exact .clo f _ vs (by rw [frl_len]; exact hl) (lst ih)
  | any v => exact .any v
def frv (id : Nat) (d : Dat) : List (Nat × AV) → List (Nat × AV)
  | [] => []
  | (t, av) :: r => (t, av.fr id d) :: frv id d r
theorem getv_frv (id : Nat) (d : Dat) : ∀ (l : List (Nat × AV)) (t : Nat), getv (frv id d l) t = (getv l t).fr id d
  | [], _ => rfl
  | (t', av) :: r, t => by
    rw [frv, getv_cons, getv_cons, getv_frv id d r t]
    split <;> rfl

section
variable {P : Program} {k : Nat} {cx : Cx k} {ops : Array Oper} {Q : Exit → St → Prop} {st : St} {rest : List Oper} {ty : TypeId} {pos : String} {af : Array Edge}
/-- A call that is handed nothing of the caller's own: what it gives back may hang on what it was handed, and on new memory. -/
theorem l_callD [zs : Zs] {d : Tmp} {g : Operand} {xs : Array Operand} {ats : Array TypeId} {f : FuncId} {caps args : List AV} {res : AV} {objs' : List AO} (hf : Callee' st g f caps) (hc : AC P f args [] res objs') (hv : VsL (evs st xs ++ caps) args)
    (hd : Nat.blt d st.n = true)
    (hk : aL P cx ops Q rest (St.put ⟨st.n, st.vars, st.objs ++ objs'.map (AO.sh st.objs.length)⟩ d (res.sh st.objs.length))) : aL P cx ops Q (⟨some d, .call ⟨.value g, xs, ats⟩, ty, pos, af, none⟩ :: rest) st := by
  intro a w hr
  obtain ⟨ρ, hb, hfoot, h0⟩ := hr.base
  obtain ⟨cs, h1, h2, h3⟩ := callee_val hb hf
  obtain ⟨hv1, hv2⟩ := vsL_spec hv
  have hsz : (xs.map a.eval ++ cs).size = args.length := by rw [← hv1]; simp [evs, h2]
  unfold wpList
  rw [if_pos (by simp [Region.wanted])]
  left
  unfold Oper.wp
  rw [exec_call hc.1 h1]
  have nofoot : ∀ {ρ : Ids} {id b : Nat}, foot ρ [] id b → False := fun h => by obtain ⟨o, l, h6, _⟩ := h; simp at h6
  have hgood : @Good ⟨Ban ρ st.objs⟩ [] w [] := @Good.mk ⟨Ban ρ st.objs⟩ _ _ _ rfl (fun id o h => by simp at h) (fun i j b h => (nofoot h).elim) (fun i b h => (nofoot h).elim)
    (fun b hb' => Or.elim (show Own ρ st.objs b ∨ Zs.z b from hb') (fun ⟨id, h⟩ => foot_lt hb.good h) (hb.good.zl b)) (hb.good.tt.step (Same.refl _ _) fun b _ ⟨id, h⟩ => (nofoot h).elim)
  have hargs : ∀ (i : Nat) (av : AV) (v : Value), args[i]? = some av → (xs.map a.eval ++ cs)[i]? = some v → Gm [] w (@Ban ⟨Ban ρ st.objs⟩ [] []) av v := by
    intro i av v ha hv
    have hi : i < (evs st xs ++ caps).length := by rw [hv1]; exact (List.getElem?_eq_some_iff.1 ha).1
    have hx := hv2 i _ av (List.getElem?_eq_getElem hi) ha
    refine hx.gm (ρ := ρ) (M := Ban ρ st.objs) (fun b h => h.elim (fun ⟨id, h⟩ => (nofoot h).elim) id) v ?_
    have hxs : (evs st xs).length = xs.size := by simp [evs]
    by_cases hlt : i < xs.size
    · have e1 : (evs st xs ++ caps)[i] = st.ev xs[i] := by rw [List.getElem_append_left (by rw [hxs]; exact hlt)]; simp [evs]
      have e2 : v = a.eval xs[i] := by
        rw [Array.getElem?_append_left (by simpa using hlt)] at hv
        simp [hlt] at hv; exact hv.symm
      rw [e1, e2]; exact hb.ev _
    · rw [Array.getElem?_append_right (by simp; omega)] at hv
      have e1 : caps[i - xs.size]? = some (evs st xs ++ caps)[i] := by
        rw [← List.getElem?_eq_getElem hi, List.getElem?_append_right (by rw [hxs]; omega), hxs]
      exact h3 _ _ v e1 (by simpa using hv)
  obtain ⟨hc1, hc2⟩ := hc
  refine (@hc2 ⟨Ban ρ st.objs⟩ [] w _ hgood hsz hargs).mono ?_
  rintro e w' ⟨u, ρ', rfl, hs, ⟨gl, gs, gd, _, _, _⟩, hgm, _, hfr⟩
  have hbel := hs.below (fun x _ ⟨id, h⟩ => nofoot h)
  have hfr' : ∀ b, Own ρ' objs' b → w.heap.size ≤ b := by
    intro b h
    rcases Nat.lt_or_ge b w.heap.size with hlt | hge
    · obtain ⟨id, h6⟩ := hfr b h hlt; exact (nofoot h6).elim
    · exact hge
  have hlen := hb.good.len
  have hext : ∀ (id : Nat) l, ρ'[id]? = some l → (ρ ++ ρ')[st.objs.length + id]? = some l := by
    intro id l h
    rw [List.getElem?_append_right (by omega), hlen, Nat.add_sub_cancel_left]; exact h
  have hfnew : ∀ id b, st.objs.length ≤ id → foot (ρ ++ ρ') (st.objs ++ objs'.map (AO.sh st.objs.length)) id b → foot ρ' objs' (id - st.objs.length) b := by
    rintro id b hle ⟨o, l, h6, h7, h8, h9⟩
    rw [List.getElem?_append_right hle, List.getElem?_map] at h6
    obtain ⟨o0, h10, rfl⟩ := Option.map_eq_some_iff.1 h6
    rw [List.getElem?_append_right (by omega), hlen] at h8
    refine ⟨o0, l, h10, ?_, h8, h9⟩
    cases o0 <;> first | rfl | cases h7
  have hban : ∀ b, Ban (ρ ++ ρ') (st.objs ++ objs'.map (AO.sh st.objs.length)) b → @Ban ⟨Ban ρ st.objs⟩ ρ' objs' b := by
    rintro b (⟨id, h⟩ | hz)
    · rcases foot_app hlen h with ⟨_, h⟩ | ⟨h5, h6⟩
      · exact .inr (.inl ⟨id, h⟩)
      · exact .inl ⟨_, hfnew id b h5 h6⟩
    · exact .inr (.inr hz)
  have happ := hb.good.app (w' := w') (ls := ρ') (os := objs'.map (AO.sh st.objs.length)) (Same.of_below hbel _) (fun b ⟨id, h⟩ => hbel.block b (foot_lt hb.good h)) (by simp [gl])
    (fun id b h6 h7 => hfr' b ⟨_, hfnew id b h6 h7⟩) (fun i j b h6 h7 h8 h9 => by have := gd _ _ b (hfnew i b h6 h8) (hfnew j b h7 h9); omega) (fun i o hi => by
      rw [List.getElem?_map] at hi
      obtain ⟨o0, h10, rfl⟩ := Option.map_eq_some_iff.1 hi
      have hsat := gs i o0 h10
      cases o0 with
      | gone => trivial
      | mat e e' m => obtain ⟨v, us, a1, a2⟩ := hsat; exact ⟨v, us, hext _ _ a1, a2⟩
      | mp m => obtain ⟨v, us, a1, a2⟩ := hsat; exact ⟨v, us, hext _ _ a1, a2⟩
      | bld T e cs => obtain ⟨b, v, a1, a2⟩ := hsat; exact ⟨b, v, hext _ _ a1, a2⟩
      | row e sz cs =>
        obtain ⟨v, n, us, a1, a2, a3, a4⟩ := hsat
        refine ⟨v, n, us, hext _ _ a1, a2, a3, fun i dt hi => ?_⟩
        obtain ⟨u, hu, hr⟩ := a4 i dt hi
        exact ⟨u, hu, hr.mono (Same.refl _ _) (fun b _ h => hban b h)⟩
      | box l =>
        obtain ⟨b, arr, T, a1, a2, a3, a4⟩ := hsat
        refine ⟨b, arr, T, hext _ _ a1, a2, by rw [shl_len]; exact a3, fun i av hi => ?_⟩
        rw [shl_get] at hi
        obtain ⟨av0, h11, rfl⟩ := Option.map_eq_some_iff.1 hi
        obtain ⟨v, hv, hgv⟩ := a4 i av0 h11
        exact ⟨v, hv, sh_gm hban hext hgv⟩)
  refine hk _ _ (Rel.step (st2 := St.put ⟨st.n, st.vars, st.objs ++ objs'.map (AO.sh st.objs.length)⟩ d (res.sh st.objs.length)) hr hfoot h0 (Same.of_below hbel _) (ext_app ρ ρ') happ.2
    (RelB.put (st := ⟨st.n, st.vars, st.objs ++ objs'.map (AO.sh st.objs.length)⟩) ⟨fun t => (hb.frame t).ext (Same.of_below hbel _) (ext_app ρ ρ') happ.2, hb.size, hb.defers, happ.1⟩ hd (sh_gm hban hext hgm)))

/-- An own slice, wherever it stands, is only read from now on. -/
theorem rel_freezeA [Zs] {a : Act} {w : World} (id : Nat) {e : TypeId} {sz : Nat} {cs : List Dat} (ho : st.objs[id]? = some (.row e sz cs)) (hr : Rel cx st a w) :
    Rel cx ⟨st.n, frv id (.sl sz cs) st.vars, fro id (.sl sz cs) (st.objs.set id .gone)⟩ a w := by
  obtain ⟨ρ, hb, hf, h0⟩ := hr.base
  obtain ⟨hg, hM⟩ := hb.good.drop id
  have hid := (List.getElem?_eq_some_iff.1 ho).1
  have hfoot : ∀ {i b}, foot ρ (fro id (.sl sz cs) (st.objs.set id .gone)) i b → foot ρ (st.objs.set id .gone) i b := by
    rintro i b ⟨o, l, h1, h2, h3, h4⟩
    rw [fro_get] at h1
    obtain ⟨o0, h5, rfl⟩ := Option.map_eq_some_iff.1 h1
    refine ⟨o0, l, h5, ?_, h3, h4⟩
    cases o0 <;> first | rfl | cases h2
  have hban : ∀ b, Ban ρ (fro id (.sl sz cs) (st.objs.set id .gone)) b → Ban ρ st.objs b := by
    rintro b (⟨i, h⟩ | h)
    · exact .inl (hM b ⟨i, hfoot h⟩)
    · exact .inr h
  have hrd : ∀ v l, ρ[id]? = some (v :: l) → Rd w (Ban ρ (fro id (.sl sz cs) (st.objs.set id .gone))) v (.sl sz cs) := by
    intro v' l hl
    obtain ⟨v, n, us, h1, h2, h3, h4⟩ := hb.good.sat id _ ho
    rw [h1] at hl
    obtain ⟨hv, _⟩ := List.cons.inj (Option.some.inj hl)
    rw [← hv]
    refine row_rd h2 h3 (fun b hb' hown => ?_) fun i d hd => ?_
    · rcases hown with ⟨id', hft⟩ | hz
      rotate_left 1
      · exact hb.good.zf _ _ ⟨_, _, ho, rfl, h1, v, by simp, hb'⟩ hz
      rcases foot_set hid (hfoot hft) with ⟨_, hlive, _⟩ | ⟨hne, hft'⟩
      · cases hlive
      · exact hne (hb.good.dis _ _ _ hft' ⟨_, _, ho, rfl, h1, v, by simp, hb'⟩)
    · obtain ⟨u, hu, hrd⟩ := h4 i d hd
      exact ⟨u, hu, hrd.mono (Same.refl (Ban ρ st.objs) w) (fun b _ h => hban b h)⟩
  have hgm : ∀ {av v}, Gm ρ w (Ban ρ st.objs) av v → Gm ρ w (Ban ρ (fro id (.sl sz cs) (st.objs.set id .gone))) (av.fr id (.sl sz cs)) v := fun h => fr_gm hban hrd h
  refine Rel.step hr hf h0 (Same.refl _ _) (fun _ _ h => h) (fun b _ ⟨i, h⟩ => hM b ⟨i, hfoot h⟩) (ρ' := ρ) ⟨fun t' => ?_, hb.size, hb.defers, ?_⟩
  · show Gm ρ w _ (getv (frv id (.sl sz cs) st.vars) t') _
    rw [getv_frv]
    exact hgm (hb.frame t')
  · refine ⟨by rw [fro_len]; exact hg.len, fun i o hi => ?_, fun i j b h1 h2 => hg.dis i j b (hfoot h1) (hfoot h2), fun i b h => hg.zf i b (hfoot h), hg.zl, hg.tt.step (Same.refl _ _) fun b _ ⟨i, h⟩ => ⟨i, hfoot h⟩⟩
    show SatO ρ w (Ban ρ (fro id (.sl sz cs) (st.objs.set id .gone))) i o
    change (fro id (.sl sz cs) (st.objs.set id .gone))[i]? = some o at hi
    rw [fro_get] at hi
    obtain ⟨o0, h5, rfl⟩ := Option.map_eq_some_iff.1 hi
    by_cases he : i = id
    · subst he
      rw [List.getElem?_set_self hid] at h5
      obtain rfl := Option.some.inj h5
      trivial
    · rw [List.getElem?_set_ne (Ne.symm he)] at h5
      have hs := hb.good.sat i o0 h5
      cases o0 with
      | gone => trivial
      | mat e e' m => exact hs
      | mp m => exact hs
      | bld T e cs => exact hs
      | row e sz cs =>
        obtain ⟨v, n, us, a1, a2, a3, a4⟩ := hs
        refine ⟨v, n, us, a1, a2, a3, fun i dt hi => ?_⟩
        obtain ⟨u, hu, hr⟩ := a4 i dt hi
        exact ⟨u, hu, hr.mono (Same.refl _ _) (fun b _ h => hban b h)⟩
      | box l =>
        obtain ⟨b, arr, T, a1, a2, a3, a4⟩ := hs
        refine ⟨b, arr, T, a1, a2, by rw [frl_len]; exact a3, fun i av hi => ?_⟩
        rw [frl_get] at hi
        obtain ⟨av0, h11, rfl⟩ := Option.map_eq_some_iff.1 hi
        obtain ⟨v, hv, hgv⟩ := a4 i av0 h11
        exact ⟨v, hv, hgm hgv⟩
end

section
variable {P : Program} {k : Nat} {cx : Cx k} {ops : Array Oper} {Q : Exit → St → Prop} {rest : List Oper} {ty : TypeId} {pos : String} {af : Array Edge} {n : Nat} {vars vars' : List (Nat × AV)} {objs objs' : List AO} {d : Nat}
theorem w_callD [Zs] {g : Operand} {xs : Array Operand} {ats : Array TypeId} {f : FuncId} {caps args : List AV} {res res0 res' : AV} {news news0 : List AO} (hf : Callee' ⟨n, vars, objs⟩ g f caps) (hc : AC P f args [] res0 news0) (h0 : res0 = res) (h1 : news0 = news)
    (hv : VsL (evs ⟨n, vars, objs⟩ xs ++ caps) args)
    (ho : objs ++ news.map (AO.sh objs.length) = objs') (hr : res.sh objs.length = res') (hd : Nat.blt d n = true) (hk : aL P cx ops Q rest ⟨n, (d, res') :: vars, objs'⟩) :
    aL P cx ops Q (⟨some d, .call ⟨.value g, xs, ats⟩, ty, pos, af, none⟩ :: rest) ⟨n, vars, objs⟩ := by
  subst h0; subst h1; subst ho; subst hr
  exact l_callD hf hc hv hd hk
theorem w_callV [Zs] {g : Operand} {xs : Array Operand} {ats : Array TypeId} {f : FuncId} {caps args : List AV} {res res' : AV} (hf : Callee' ⟨n, vars, objs⟩ g f caps) (hc : AC P f args [] res []) 
    (hv : VsL (evs ⟨n, vars, objs⟩ xs ++ caps) args) (hr : res.sh objs.length = res') (hd : Nat.blt d n = true) (hk : aL P cx ops Q rest ⟨n, (d, res') :: vars, objs⟩) :
    aL P cx ops Q (⟨some d, .call ⟨.value g, xs, ats⟩, ty, pos, af, none⟩ :: rest) ⟨n, vars, objs⟩ := by
  subst hr
  have := l_callD (P := P) (cx := cx) (ops := ops) (Q := Q) (rest := rest) (ty := ty) (pos := pos) (af := af) (d := d) (ats := ats) hf hc hv hd
  simp only [List.map_nil, List.append_nil] at this
  exact this hk
theorem w_freezeA [Zs] (id : Nat) {e : TypeId} {sz : Nat} {cs : List Dat} (ho : objs[id]? = some (.row e sz cs)) (hs : fro id (.sl sz cs) (objs.set id .gone) = objs') (hv : frv id (.sl sz cs) vars = vars') (hk : aL P cx ops Q rest ⟨n, vars', objs'⟩) : aL P cx ops Q rest ⟨n, vars, objs⟩ := by
  subst hs; subst hv
  exact fun a w hr => hk a w (rel_freezeA id ho hr)
theorem w_freezeAC [Zs] (id : Nat) {c : Code} {e : TypeId} {sz : Nat} {cs : List Dat} (ho : objs[id]? = some (.row e sz cs)) (hs : fro id (.sl sz cs) (objs.set id .gone) = objs') (hv : frv id (.sl sz cs) vars = vars') (hk : aC P cx c Q ⟨n, vars', objs'⟩) : aC P cx c Q ⟨n, vars, objs⟩ := by
  subst hs; subst hv
  exact fun a w hr => hk a w (rel_freezeA id ho hr)
end
theorem sh_ints (m : Nat) (l : List Int) : (ints l).sh m = ints l := rfl
theorem sh_rows (m : Nat) (l : List (List Int)) : (rows l).sh m = rows l := rfl
theorem sh_pairs (m : Nat) (l : List (Int × Int)) : (pairs l).sh m = pairs l := rfl
theorem sh_ords (m : Nat) (l : List (Int × List Int)) : (ords l).sh m = ords l := rfl
theorem fr_ints (id : Nat) (d : Dat) (l : List Int) : (ints l).fr id d = ints l := rfl
theorem fr_rows (id : Nat) (d : Dat) (l : List (List Int)) : (rows l).fr id d = rows l := rfl
theorem fr_pairs (id : Nat) (d : Dat) (l : List (Int × Int)) : (pairs l).fr id d = pairs l := rfl
theorem fr_ords (id : Nat) (d : Dat) (l : List (Int × List Int)) : (ords l).fr id d = ords l := rfl
theorem fr_val (id : Nat) (d : Dat) (v : Value) : (AV.val v).fr id d = .val v := rfl
theorem fr_ro (id : Nat) (d d' : Dat) : (AV.ro d').fr id d = .ro d' := rfl
theorem fr_rpt (id : Nat) (d : Dat) (cs : List Dat) (o : Nat) : (AV.rpt cs o).fr id d = .rpt cs o := rfl
theorem fr_ptr (id : Nat) (d : Dat) (i o : Nat) : (AV.ptr i o).fr id d = .ptr i o := rfl
theorem fr_ept (id : Nat) (d : Dat) (i o : Nat) : (AV.ept i o).fr id d = .ept i o := rfl
theorem fr_agg (id : Nat) (d : Dat) (l : List AV) : (AV.agg l).fr id d = .agg (AV.frl id d l) := rfl
theorem fr_tup (id : Nat) (d : Dat) (l : List AV) : (AV.tup l).fr id d = .tup (AV.frl id d l) := rfl
theorem fr_clo (id : Nat) (d : Dat) (f : FuncId) (l : List AV) : (AV.clo f l).fr id d = .clo f (AV.frl id d l) := rfl
theorem fr_own (id : Nat) (d : Dat) (i : Nat) : (AV.own i).fr id d = if i = id then .ro d else .own i := by
  show (bif Nat.beq i id then _ else _) = _
  by_cases h : i = id
  · subst h; rw [if_pos rfl, Nat.beq_refl]; rfl
  · rw [if_neg h]
    cases hb : Nat.beq i id
    · rfl
    · exact absurd (Nat.eq_of_beq_eq_true hb) h
theorem frv_nil (id : Nat) (d : Dat) : frv id d [] = [] := rfl
theorem frv_cons (id : Nat) (d : Dat) (t : Nat) (av : AV) (r : List (Nat × AV)) : frv id d ((t, av) :: r) = (t, av.fr id d) :: frv id d r := rfl
theorem frl_nil (id : Nat) (d : Dat) : AV.frl id d [] = [] := rfl
theorem frl_cons (id : Nat) (d : Dat) (a : AV) (l : List AV) : AV.frl id d (a :: l) = a.fr id d :: AV.frl id d l := rfl
theorem fro_nil (id : Nat) (d : Dat) : fro id d [] = [] := rfl
theorem fro_cons (id : Nat) (d : Dat) (o : AO) (l : List AO) : fro id d (o :: l) = o.fr id d :: fro id d l := rfl
theorem fro_box (id : Nat) (d : Dat) (l : List AV) : (AO.box l).fr id d = .box (AV.frl id d l) := rfl
theorem fro_row (id : Nat) (d : Dat) (e : TypeId) (sz : Nat) (cs : List Dat) : (AO.row e sz cs).fr id d = .row e sz cs := rfl
theorem fro_gone (id : Nat) (d : Dat) : AO.gone.fr id d = .gone := rfl
end Go.Proofs.YtbgecpjlopdkfaaDoor

/- A body with labels; structs laid out of three parts and more; pairs of numbers compared. -/
namespace Go.Proofs.YtbgecpjlopdkfaaDoor
open Go.RowKit
/-- In a scope that nobody leaves by a jump. -/
def scopeA (Q : Exit → St → Prop) : Exit → St → Prop
  | .goto _, _ => False
  | e, st => Q e st
theorem a_scope [Zs] {P : Program} {k : Nat} {cx : Cx k} {c : Code} {Q : Exit → St → Prop} {st : St} (h : aC P cx c (scopeA Q) st) : aC P cx (.scope c) Q st := by
  intro a w hr
  refine wp_scope_straight (wp_mono (h a w hr) ?_)
  rintro e a' w' ⟨st', hq, hr'⟩
  cases e <;> first | exact hq.elim | exact ⟨st', hq, hr'⟩
section
variable {P : Program} {st : St} {d : Option Tmp} {ty : TypeId} {pos : String} {af : Array Edge} {g : Option (Nat × Bool)}
theorem Q_build3 {T : TypeId} {zs : List Value} {place : Nat → Option (Nat × Nat)} {i off j off' m off2 : Nat} {x y z : Operand} {av av' av2 : AV} {l l' l2 c c2 out : List AV} (hb : BdT P T zs place) (hx0 : st.ev x = av) (hx : av.cells = l) (hp : place i = some (off, l.length)) (h1 : l.all AV.one = true)
    (hl : Nat.ble (off + l.length) (zs.map AV.val).length = true) (hc : (zs.map AV.val).take off ++ l ++ (zs.map AV.val).drop (off + l.length) = c)
    (hx0' : st.ev y = av') (hx' : av'.cells = l') (hp' : place j = some (off', l'.length)) (h1' : l'.all AV.one = true) (hl' : Nat.ble (off' + l'.length) c.length = true) (hc2 : c.take off' ++ l' ++ c.drop (off' + l'.length) = c2)
    (hx02 : st.ev z = av2) (hx2 : av2.cells = l2) (hp2 : place m = some (off2, l2.length)) (h12 : l2.all AV.one = true) (hl2 : Nat.ble (off2 + l2.length) c2.length = true) (ho : c2.take off2 ++ l2 ++ c2.drop (off2 + l2.length) = out) :
    QOp P ⟨d, .build T #[(i, x), (j, y), (m, z)], ty, pos, af, g⟩ st (.agg out) := by
  subst hc; subst hc2
  exact Q_build (ps := [(i, x), (j, y), (m, z)]) hb rfl ⟨off, l, hp, hx0 ▸ hx, h1, hl, off', l', hp', hx0' ▸ hx', h1', hl', off2, l2, hp2, hx02 ▸ hx2, h12, hl2, ho.symm⟩
end
/-- Pairs of numbers: what is asked of their type. -/
class KEqP (P : Program) (T : TypeId) : Prop where h : ∃ e, ArT P T 2 e 1 ∧ P.underlying e = some (.int .i64) ∧ P.eqGuardType P.depth T = false
section
variable {P : Program} {st : St} {d : Option Tmp} {ty : TypeId} {pos : String} {af : Array Edge} {g : Option (Nat × Bool)} {T T' : TypeId} {x y : Operand}
end
end Go.Proofs.YtbgecpjlopdkfaaDoor

/- A whole struct out of what is only read; the lowest bit of a number. -/
namespace Go.Proofs.YtbgecpjlopdkfaaDoor
open Go.RowKit
section
variable {P : Program} {st : St} {d : Option Tmp} {ty : TypeId} {pos : String} {af : Array Edge} {g : Option (Nat × Bool)} {T T' : TypeId} {x y : Operand}
theorem Q_ld_rpa {cs : List Dat} {o n : Nat} {ds : List Dat} {out : List AV} (hx : st.ev x = .rpt cs o) (ht : AgT P T n) (hl : (cs.drop o).take n = ds) (hn : Nat.beq ds.length n = true) (ho : ds.map ofD = out) : QOp P ⟨d, .load T x, ty, pos, af, g⟩ st (.agg out) := by
  subst ho
  refine Q_load_rpt_agg hx (fun j dt h => ?_) (Nat.eq_of_beq_eq_true hn) ht
  subst hl
  rw [List.getElem?_take] at h
  split at h
  · rw [List.getElem?_drop] at h; exact h
  · cases h
theorem Q_clo1 {f : FuncId} {x1 : Operand} {a1 : AV} (h1 : st.ev x1 = a1) : QOp P ⟨d, .makeFunc (.func f) #[] #[x1], ty, pos, af, g⟩ st (.clo f [a1]) := by
  subst h1
  exact Q_clo
/-- The lowest bit. -/
def low (d : Nat) : Nat := if d = 0 then 0 else d &&& (2 ^ 64 - d)
end
end Go.Proofs.YtbgecpjlopdkfaaDoor

/- A box that is only read from now on, wherever its address stands. -/
namespace Go.Proofs.YtbgecpjlopdkfaaDoor
open Go.RowKit

/-! A box is only read from now on: what stands for it, wherever it stands. -/
mutual
def AV.fb (id : Nat) (d : List Dat) : AV → AV
  | .own i => .own i
  | .agg l => .agg (AV.fbl id d l)
  | .tup l => .tup (AV.fbl id d l)
  | .clo f l => .clo f (AV.fbl id d l)
  | .val v => .val v
  | .ro d' => .ro d'
  | .ptr i o => bif Nat.beq i id then .rpt d o else .ptr i o
  | .ept i o => .ept i o
  | .rpt cs o => .rpt cs o
  | .any => .any
def AV.fbl (id : Nat) (d : List Dat) : List AV → List AV
  | [] => []
  | a :: l => a.fb id d :: AV.fbl id d l
end
theorem fbl_get (id : Nat) (d : List Dat) : ∀ (l : List AV) (i : Nat), (AV.fbl id d l)[i]? = (l[i]?).map (AV.fb id d)
  | [], i => by simp [AV.fbl]
  | a :: l, 0 => by simp [AV.fbl]
  | a :: l, i + 1 => by simp [AV.fbl, fbl_get id d l i]
theorem fbl_len (id : Nat) (d : List Dat) : ∀ (l : List AV), (AV.fbl id d l).length = l.length
  | [] => rfl
  | a :: l => by simp [AV.fbl, fbl_len id d l]
def AO.fb (id : Nat) (d : List Dat) : AO → AO
  | .box l => .box (AV.fbl id d l)
  | .row e sz cs => .row e sz cs
  | .mat e e' m => .mat e e' m
  | .mp m => .mp m
  | .bld T e cs => .bld T e cs
  | .gone => .gone
def fbo (id : Nat) (d : List Dat) : List AO → List AO
  | [] => []
  | o :: l => o.fb id d :: fbo id d l
theorem fbo_get (id : Nat) (d : List Dat) : ∀ (l : List AO) (i : Nat), (fbo id d l)[i]? = (l[i]?).map (AO.fb id d)
  | [], i => by simp [fbo]
  | a :: l, 0 => by simp [fbo]
  | a :: l, i + 1 => by simp [fbo, fbo_get id d l i]
theorem fbo_len (id : Nat) (d : List Dat) : ∀ (l : List AO), (fbo id d l).length = l.length
  | [] => rfl
  | a :: l => by simp [fbo, fbo_len id d l]
theorem fb_gm {ρ : Ids} {w : World} {M M' : Nat → Prop} {id : Nat} {d : List Dat} (hM : ∀ b, M' b → M b) (hid : ∀ b l, ρ[id]? = some (.pointer (some ⟨b, 0, none⟩) :: l) → ∃ us : Nat → Value, (∀ k, k < d.length → ¬ M' b) ∧ (∀ (k : Nat) x, d[k]? = some x → w.cell? ⟨b, k, none⟩ = some (us k)) ∧ ∀ (k : Nat) x, d[k]? = some x → Rd w M' (us k) x) {av : AV} {v : Value} (h : Gm ρ w M av v) : Gm ρ w M' (av.fb id d) v := by
  have rd : ∀ {v d}, Rd w M v d → Rd w M' v d := fun h => h.mono (Same.refl M w) (fun b _ hb => hM b hb)
  have lst : ∀ {l : List AV} {vs : Array Value}, (∀ (i : Nat) (av : AV) (v : Value), l[i]? = some av → vs[i]? = some v → Gm ρ w M' (av.fb id d) v) →
      ∀ (i : Nat) (av : AV) (v : Value), (AV.fbl id d l)[i]? = some av → vs[i]? = some v → Gm ρ w M' av v := by
    intro l vs h i av v hi hv
    rw [fbl_get] at hi
    obtain ⟨av0, h1, rfl⟩ := Option.map_eq_some_iff.1 hi
    exact h i av0 v h1 hv
  induction h with
  | val v => exact .val v
  | ro d v hr => exact .ro d v (rd hr)
  | own i v l h h1 => exact .own i v l h h1
  | ptr i off b l h =>
    show Gm ρ w M' (bif Nat.beq i id then .rpt d off else .ptr i off) _
    cases hbq : Nat.beq i id with
    | false => exact .ptr i off b l h
    | true =>
      obtain rfl := Nat.eq_of_beq_eq_true hbq
      obtain ⟨us, h1, h2, h3⟩ := hid b l h
      have e : ∀ k, (⟨b, 0, none⟩ : Addr).add k = ⟨b, k, none⟩ := fun k => by rw [spot_add rfl, Nat.zero_add]
      have := Gm.rpt (ρ := ρ) (w := w) (M := M') ⟨b, 0, none⟩ d off us trivial (fun k hk => h1 k hk) (fun k x hx => by rw [e]; exact h2 k x hx) h3
      rwa [e] at this
  | ept i k b n cap l h => exact .ept _ k b n cap l h
  | rpt a cs off us hsp h2 h3 h4 => exact .rpt a cs off us hsp (fun k hk hm => h2 k hk (hM _ hm)) h3 (fun k d hd => rd (h4 k d hd))
  | agg l vs hl _ ih => exact .agg _ vs (by rw [fbl_len]; exact hl) (lst ih)
  | tup l vs hl _ ih => exact .tup _ vs (by rw [fbl_len]; exact hl) (lst ih)
  | clo f l vs hl _ ih => exact .clo f _ vs (by rw [fbl_len]; exact hl) (lst ih)
  | any v => exact .any v
def fbv (id : Nat) (d : List Dat) : List (Nat × AV) → List (Nat × AV)
  | [] => []
  | (t, av) :: r => (t, av.fb id d) :: fbv id d r
theorem getv_fbv (id : Nat) (d : List Dat) : ∀ (l : List (Nat × AV)) (t : Nat), getv (fbv id d l) t = (getv l t).fb id d
  | [], _ => rfl
  | (t', av) :: r, t => by
    rw [fbv, getv_cons, getv_cons, getv_fbv id d r t]
    split <;> rfl

section
variable {P : Program} {k : Nat} {cx : Cx k} {ops : Array Oper} {Q : Exit → St → Prop} {st : St} {rest : List Oper} {ty : TypeId} {pos : String} {af : Array Edge}
/-- A box whose cells hang on nothing of the call's own, wherever its address stands, is only read from now on. -/
theorem rel_freezeB [Zs] {a : Act} {w : World} (id : Nat) {ds : List Dat} (ho : st.objs[id]? = some (.box (ds.map ofD))) (hr : Rel cx st a w) :
    Rel cx ⟨st.n, fbv id ds st.vars, fbo id ds (st.objs.set id .gone)⟩ a w := by
  obtain ⟨ρ, hb, hf, h0⟩ := hr.base
  obtain ⟨hg, hM⟩ := hb.good.drop id
  have hid := (List.getElem?_eq_some_iff.1 ho).1
  have hfoot : ∀ {i b}, foot ρ (fbo id ds (st.objs.set id .gone)) i b → foot ρ (st.objs.set id .gone) i b := by
    rintro i b ⟨o, l, h1, h2, h3, h4⟩
    rw [fbo_get] at h1
    obtain ⟨o0, h5, rfl⟩ := Option.map_eq_some_iff.1 h1
    refine ⟨o0, l, h5, ?_, h3, h4⟩
    cases o0 <;> first | rfl | cases h2
  have hban : ∀ b, Ban ρ (fbo id ds (st.objs.set id .gone)) b → Ban ρ st.objs b := by
    rintro b (⟨i, h⟩ | h)
    · exact .inl (hM b ⟨i, hfoot h⟩)
    · exact .inr h
  have hrd : ∀ b l, ρ[id]? = some (.pointer (some ⟨b, 0, none⟩) :: l) → ∃ us : Nat → Value, (∀ k, k < ds.length → ¬ Ban ρ (fbo id ds (st.objs.set id .gone)) b) ∧ (∀ (k : Nat) x, ds[k]? = some x → w.cell? ⟨b, k, none⟩ = some (us k)) ∧ ∀ (k : Nat) x, ds[k]? = some x → Rd w (Ban ρ (fbo id ds (st.objs.set id .gone))) (us k) x := by
    intro b l hl
    obtain ⟨b', arr, T, h1, h2, h3, h4⟩ := hb.good.sat id _ ho
    rw [h1] at hl
    simp only [Option.some.injEq, List.cons.injEq, Value.pointer.injEq, Addr.mk.injEq] at hl
    obtain ⟨⟨rfl, _⟩, rfl⟩ := hl
    have hft0 : foot ρ st.objs id b' := ⟨_, _, ho, rfl, h1, .pointer (some ⟨b', 0, none⟩), by simp, rfl⟩
    have key : ∀ (k : Nat) (x : Dat), ds[k]? = some x → ∃ v, arr[k]? = some v ∧ Rd w (Ban ρ (fbo id ds (st.objs.set id .gone))) v x := by
      intro k x hk
      obtain ⟨v, hv, hgm⟩ := h4 k (ofD x) (by simp [hk])
      exact ⟨v, hv, (gm_ofD_inv hgm).mono (Same.refl (Ban ρ st.objs) w) (fun b _ h => hban b h)⟩
    refine ⟨fun k => arr.getD k undef, fun k _ hown => ?_, fun k x hk => ?_, fun k x hk => ?_⟩
    · rcases hown with ⟨id', hft⟩ | hz
      · rcases foot_set hid (hfoot hft) with ⟨_, hlive, _⟩ | ⟨hne, hft'⟩
        · cases hlive
        · exact hne (hb.good.dis _ _ _ hft' hft0)
      · exact hb.good.zf _ _ hft0 hz
    · obtain ⟨v, hv, _⟩ := key k x hk
      rw [cell_of_row w b' k arr T (0, 0) h2, hv]
      simp [hv]
    · obtain ⟨v, hv, hr⟩ := key k x hk
      have : arr.getD k undef = v := by simp [hv]
      show Rd w _ (arr.getD k undef) x
      rw [this]; exact hr
  have hgm : ∀ {av v}, Gm ρ w (Ban ρ st.objs) av v → Gm ρ w (Ban ρ (fbo id ds (st.objs.set id .gone))) (av.fb id ds) v := fun h => fb_gm hban hrd h
  refine Rel.step hr hf h0 (Same.refl _ _) (fun _ _ h => h) (fun b _ ⟨i, h⟩ => hM b ⟨i, hfoot h⟩) (ρ' := ρ) ⟨fun t' => ?_, hb.size, hb.defers, ?_⟩
  · show Gm ρ w _ (getv (fbv id ds st.vars) t') _
    rw [getv_fbv]
    exact hgm (hb.frame t')
  · refine ⟨by rw [fbo_len]; exact hg.len, fun i o hi => ?_, fun i j b h1 h2 => hg.dis i j b (hfoot h1) (hfoot h2), fun i b h => hg.zf i b (hfoot h), hg.zl, hg.tt.step (Same.refl _ _) fun b _ ⟨i, h⟩ => ⟨i, hfoot h⟩⟩
    show SatO ρ w (Ban ρ (fbo id ds (st.objs.set id .gone))) i o
    change (fbo id ds (st.objs.set id .gone))[i]? = some o at hi
    rw [fbo_get] at hi
    obtain ⟨o0, h5, rfl⟩ := Option.map_eq_some_iff.1 hi
    by_cases he : i = id
    · subst he
      rw [List.getElem?_set_self hid] at h5
      obtain rfl := Option.some.inj h5
      trivial
    · rw [List.getElem?_set_ne (Ne.symm he)] at h5
      have hs := hb.good.sat i o0 h5
      cases o0 with
      | gone => trivial
      | mat e e' m => exact hs
      | mp m => exact hs
      | bld T e cs => exact hs
      | row e sz cs =>
        obtain ⟨v, n, us, a1, a2, a3, a4⟩ := hs
        refine ⟨v, n, us, a1, a2, a3, fun i dt hi => ?_⟩
        obtain ⟨u, hu, hr⟩ := a4 i dt hi
        exact ⟨u, hu, hr.mono (Same.refl _ _) (fun b _ h => hban b h)⟩
      | box l =>
        obtain ⟨b, arr, T, a1, a2, a3, a4⟩ := hs
        refine ⟨b, arr, T, a1, a2, by rw [fbl_len]; exact a3, fun i av hi => ?_⟩
        rw [fbl_get] at hi
        obtain ⟨av0, h11, rfl⟩ := Option.map_eq_some_iff.1 hi
        obtain ⟨v, hv, hgv⟩ := a4 i av0 h11
        exact ⟨v, hv, hgm hgv⟩
end

section
variable {P : Program} {k : Nat} {cx : Cx k} {ops : Array Oper} {Q : Exit → St → Prop} {rest : List Oper} {ty : TypeId} {pos : String} {af : Array Edge} {n : Nat} {vars vars' : List (Nat × AV)} {objs objs' : List AO} {d : Nat}
theorem w_freezeB [Zs] (id : Nat) {cells : List AV} (ds : List Dat) (ho : objs[id]? = some (.box cells)) (hd : ds.map ofD = cells) (hs : fbo id ds (objs.set id .gone) = objs') (hv : fbv id ds vars = vars') (hk : aL P cx ops Q rest ⟨n, vars', objs'⟩) : aL P cx ops Q rest ⟨n, vars, objs⟩ := by
  subst hs; subst hv; subst hd
  exact fun a w hr => hk a w (rel_freezeB id ho hr)
theorem w_freezeBC [Zs] (id : Nat) {c : Code} {cells : List AV} (ds : List Dat) (ho : objs[id]? = some (.box cells)) (hd : ds.map ofD = cells) (hs : fbo id ds (objs.set id .gone) = objs') (hv : fbv id ds vars = vars') (hk : aC P cx c Q ⟨n, vars', objs'⟩) : aC P cx c Q ⟨n, vars, objs⟩ := by
  subst hs; subst hv; subst hd
  exact fun a w hr => hk a w (rel_freezeB id ho hr)
end
theorem fb_ints (id : Nat) (d : List Dat) (l : List Int) : (ints l).fb id d = ints l := rfl
theorem fb_rows (id : Nat) (d : List Dat) (l : List (List Int)) : (rows l).fb id d = rows l := rfl
theorem fb_pairs (id : Nat) (d : List Dat) (l : List (Int × Int)) : (pairs l).fb id d = pairs l := rfl
theorem fb_ords (id : Nat) (d : List Dat) (l : List (Int × List Int)) : (ords l).fb id d = ords l := rfl
theorem fb_val (id : Nat) (d : List Dat) (v : Value) : (AV.val v).fb id d = .val v := rfl
theorem fb_ro (id : Nat) (d : List Dat) (d' : Dat) : (AV.ro d').fb id d = .ro d' := rfl
theorem fb_rpt (id : Nat) (d : List Dat) (cs : List Dat) (o : Nat) : (AV.rpt cs o).fb id d = .rpt cs o := rfl
theorem fb_own (id : Nat) (d : List Dat) (i : Nat) : (AV.own i).fb id d = .own i := rfl
theorem fb_ptr (id : Nat) (d : List Dat) (i o : Nat) : (AV.ptr i o).fb id d = if i = id then .rpt d o else .ptr i o := by
  show (bif Nat.beq i id then _ else _) = _
  by_cases h : i = id
  · subst h; rw [if_pos rfl, Nat.beq_refl]; rfl
  · rw [if_neg h]
    cases hb : Nat.beq i id
    · rfl
    · exact absurd (Nat.eq_of_beq_eq_true hb) h
theorem fb_ept (id : Nat) (d : List Dat) (i o : Nat) : (AV.ept i o).fb id d = .ept i o := rfl
theorem fb_agg (id : Nat) (d : List Dat) (l : List AV) : (AV.agg l).fb id d = .agg (AV.fbl id d l) := rfl
theorem fb_tup (id : Nat) (d : List Dat) (l : List AV) : (AV.tup l).fb id d = .tup (AV.fbl id d l) := rfl
theorem fb_clo (id : Nat) (d : List Dat) (f : FuncId) (l : List AV) : (AV.clo f l).fb id d = .clo f (AV.fbl id d l) := rfl
theorem fbv_nil (id : Nat) (d : List Dat) : fbv id d [] = [] := rfl
theorem fbv_cons (id : Nat) (d : List Dat) (t : Nat) (av : AV) (r : List (Nat × AV)) : fbv id d ((t, av) :: r) = (t, av.fb id d) :: fbv id d r := rfl
theorem fbl_nil (id : Nat) (d : List Dat) : AV.fbl id d [] = [] := rfl
theorem fbl_cons (id : Nat) (d : List Dat) (a : AV) (l : List AV) : AV.fbl id d (a :: l) = a.fb id d :: AV.fbl id d l := rfl
theorem fbo_nil (id : Nat) (d : List Dat) : fbo id d [] = [] := rfl
theorem fbo_cons (id : Nat) (d : List Dat) (o : AO) (l : List AO) : fbo id d (o :: l) = o.fb id d :: fbo id d l := rfl
theorem fbo_box (id : Nat) (d : List Dat) (l : List AV) : (AO.box l).fb id d = .box (AV.fbl id d l) := rfl
theorem fbo_row (id : Nat) (d : List Dat) (e : TypeId) (sz : Nat) (cs : List Dat) : (AO.row e sz cs).fb id d = .row e sz cs := rfl
theorem fbo_gone (id : Nat) (d : List Dat) : AO.gone.fb id d = .gone := rfl
/-- A nil slice in a cell of a box is an own slice without elements. -/
theorem w_nilboxC [Zs] {P : Program} {k : Nat} {cx : Cx k} {Q : Exit → St → Prop} {n : Nat} {vars : List (Nat × AV)} {objs objs' : List AO} {c : Code} (id o : Nat) {cells : List AV} (e : TypeId) (sz : Nat) (ho : objs[id]? = some (.box cells)) (hc : cells[o]? = some (.val (.slice none 0 0)))
    (hs : (objs ++ [AO.row e sz []]).set id (AO.box (cells.set o (.own objs.length))) = objs') (hk : aC P cx c Q ⟨n, vars, objs'⟩) : aC P cx c Q ⟨n, vars, objs⟩ := by
  subst hs
  exact a_nilbox (st := ⟨n, vars, objs⟩) id o e sz ho hc hk
section
variable {P : Program} {st : St} {d : Option Tmp} {ty : TypeId} {pos : String} {af : Array Edge} {g : Option (Nat × Bool)} {T T' : TypeId} {x y : Operand} {m n r : Int}
end
end Go.Proofs.YtbgecpjlopdkfaaDoor

/- Regions that draw their order, order by order: a few operations, of which several make memory. -/
namespace Go.Proofs.YtbgecpjlopdkfaaDoor
open Go.RowKit
section
variable {P : Program} {k : Nat} {cx : Cx k} {ops : Array Oper} {Q : Exit → St → Prop} {st : St}
theorem wp_exits {o : Oper} {a : Act} {w : World} {next : Act → World → Prop} {R R' : Exit → Act → World → Prop} (h : ∀ e, e ≠ .normal → R e = R' e) (hh : o.wp P a w next R) : o.wp P a w next R' := by
  have hl : LetsOut R → LetsOut R' := fun ⟨a, w, h'⟩ => ⟨a, w, by rw [← h _ (by intro h; cases h)]; exact h'⟩
  unfold Oper.wp at *
  generalize (execOp a.eval o).run P w = r at *
  have hp : ∀ ch a w, R (.panic ch) a w → R' (.panic ch) a w := fun ch a w h' => by rw [← h (.panic ch) (by intro h; cases h)]; exact h'
  cases r with
  | ok x w' =>
    cases x <;> simp only [Oper.upon] at hh ⊢ <;>
      first
        | exact hh
        | exact Calls.mono hh (fun e w'' he => by cases e <;> first | exact he | exact hp _ _ _ he | exact hl he)
  | halt x w' => cases x <;> simp only [Oper.upon] at hh ⊢ <;> first | exact hh | exact hp _ _ _ hh
/-- All orders of what is left: what is done is told by listed. -/
def xL [Zs] (P : Program) {k : Nat} (cx : Cx k) (ops : Array Oper) (Q : Exit → St → Prop) (f : Nat) (listed : List Bool) (st : St) : Prop :=
  ∀ a w, Rel cx st a w → wpAny P .any ops (lift cx Q) f listed.toArray a w
def xQ [Zs] (P : Program) {k : Nat} (cx : Cx k) (ops : Array Oper) (Q : Exit → St → Prop) (f : Nat) (listed : List Bool) : Exit → St → Prop
  | .normal, st => xL P cx ops Q f listed st
  | e, st => Q e st
def xAll [Zs] (P : Program) {k : Nat} (cx : Cx k) (ops : Array Oper) (Q : Exit → St → Prop) (f : Nat) (listed : List Bool) (st : St) : List Nat → Prop
  | [] => True
  | i :: r => (∃ o, ops[i]? = some o ∧ aL P cx ops (xQ P cx ops Q f (listed.set i true)) [o] st) ∧ xAll P cx ops Q f listed st r
/-- Just to the end of the region. -/
def ThenK (K : St → Prop) : Exit → St → Prop
  | .normal, st => K st
  | _, _ => False
end
end Go.Proofs.YtbgecpjlopdkfaaDoor

/- Regions that draw their order, in which operations make memory: what only reads goes first, the makers in all their orders, and the end in its order. -/
namespace Go.Proofs.YtbgecpjlopdkfaaDoor
open Go.RowKit
section
variable {P : Program} {ops : Array Oper} {md : Region.Mode} {S : World → Prop} {Q : Exit → Act → World → Prop}
/-- Whatever order is picked of the n first, S behind each. -/
def anyGrow (P : Program) (md : Region.Mode) (ops : Array Oper) (Q : Exit → Act → World → Prop) (S : World → Prop) (n : Nat) (L : Array Bool → Act → World → Prop) : Nat → Array Bool → Act → World → Prop
  | 0, listed, a, w => L listed a w
  | f + 1, listed, a, w => Region.ready md ops listed ≠ [] ∧ ∀ i ∈ Region.ready md ops listed, i < n ∧ wpOp P ops Q i (fun a' w' => S w' ∧ anyGrow P md ops Q S n L f (listed.setIfInBounds i true) a' w') a w
theorem any_of_grow {n g : Nat} {L : Array Bool → Act → World → Prop} (hL : ∀ listed a w, L listed a w → wpAny P md ops Q g listed a w) :
    ∀ (f : Nat) (listed : Array Bool) (a : Act) (w : World), anyGrow P md ops Q S n L f listed a w → wpAny P md ops Q (f + g) listed a w
  | 0, listed, a, w, h => by rw [Nat.zero_add]; exact hL _ _ _ h
  | f + 1, listed, a, w, h => by
    rw [show f + 1 + g = (f + g) + 1 by omega]
    exact ⟨fun h0 => absurd h0 h.1, fun i hi => wpOp_mono (fun a' w' h' => any_of_grow hL f _ a' w' h'.2) (h.2 i hi).2⟩
theorem grow_mono {S' : World → Prop} {n : Nat} {L : Array Bool → Act → World → Prop} (hS : ∀ w, S w → S' w) :
    ∀ (f : Nat) (listed : Array Bool) (a : Act) (w : World), anyGrow P md ops Q S n L f listed a w → anyGrow P md ops Q S' n L f listed a w
  | 0, _, _, _, h => h
  | f + 1, _, _, _, h => ⟨h.1, fun i hi => ⟨(h.2 i hi).1, wpOp_mono (fun a' w' h' => ⟨hS _ h'.1, grow_mono hS f _ a' w' h'.2⟩) (h.2 i hi).2⟩⟩
theorem anyGrow_first {n i : Nat} {oi : Oper} {v : Value} {L : Array Bool → Act → World → Prop} (hi : ops[i]? = some oi) (hsel : ∀ (j : Nat) (o : Oper) cs b, ops[j]? = some o → o.op ≠ .select cs b)
    (hs : Region.sinkB md ops n = true) (hc : Region.chainB md ops n = true) (hn : n < ops.size) (hin : i < n) (hdone : ∀ listed a w, L listed a w → ∀ j ∈ Region.ready md ops listed, n ≤ j)
    (hQ : ∀ c a w, Q (.panic c) (a.put oi.dst v) w → Q (.panic c) a w) :
    ∀ (f : Nat) (listed : Array Bool) (a : Act) (w : World), HeadInv md ops n listed →
      (∀ j oj, ops[j]? = some oj → j ≠ i → listed.getD j true = false → (∀ e ∈ oj.after, Region.binds md e = true → e.on ≠ i) → oi.apart ops oj = true) →
      i ∈ Region.ready md ops listed → YieldsIf P ops S oi v a → S w → anyGrow P md ops Q S n L f (listed.setIfInBounds i true) (a.put oi.dst v) w → anyGrow P md ops Q S n L (f + 1) listed a w := by
  intro f
  induction f with
  | zero =>
    intro listed a w inv _ hr hy hS H
    have hun := (mem_ready.1 hr).1
    refine ⟨fun h => (by rw [h] at hr; cases hr), fun j hj => ?_⟩
    have hjn : j < n := by
      rcases Nat.lt_or_ge j n with h | h
      · exact h
      · exact absurd hj (tail_waits hs hc hn inv _ i rfl hin hun j h)
    refine ⟨hjn, ?_⟩
    by_cases hji : j = i
    · subst hji; exact hy.wpOp hi hS ⟨hS, H⟩
    · have := hdone _ _ _ H j (ready_mono hj hji)
      omega
  | succ f ih =>
    intro listed a w inv hfree hr hy hS H
    have hun := (mem_ready.1 hr).1
    refine ⟨fun h => (by rw [h] at hr; cases hr), fun j hj => ?_⟩
    have hjn : j < n := by
      rcases Nat.lt_or_ge j n with h | h
      · exact h
      · exact absurd hj (tail_waits hs hc hn inv _ i rfl hin hun j h)
    refine ⟨hjn, ?_⟩
    by_cases hji : j = i
    · subst hji; exact hy.wpOp hi hS ⟨hS, H⟩
    · have h1 := (H.2 j (ready_mono hj hji)).2
      obtain ⟨hjun, oj, hoj, hall⟩ := mem_ready.1 hj
      have hnot : ∀ e ∈ oj.after, Region.binds md e = true → e.on ≠ i := fun e he hb heq => by
        have h1 := hall e he hb
        rw [heq, getD_both hun] at h1
        cases h1
      have h2 := wpOp_putIf hoj (hfree j oj hoj hji hjun hnot) (fun cs b => hsel i oi cs b hi) (fun cs b => hsel j oj cs b hoj) hQ hy h1
      have hfree' : ∀ k ok, ops[k]? = some ok → k ≠ i → (listed.setIfInBounds j true).getD k true = false →
          (∀ e ∈ ok.after, Region.binds md e = true → e.on ≠ i) → oi.apart ops ok = true := fun k ok hk hki hun hno => by
        refine hfree k ok hk hki ?_ hno
        by_cases hjk : j = k
        · subst hjk; exact hjun
        · rw [getD_set_ne true hjk] at hun; exact hun
      refine wpOp_mono (fun a' w' h3 => ⟨h3.2.1, ih (listed.setIfInBounds j true) a' w' (inv.set hj hjn) hfree' (ready_mono hr (Ne.symm hji)) h3.1 h3.2.1 ?_⟩) h2
      rw [Array.setIfInBounds_comm _ _ hji]
      exact h3.2.2
end
/-! What gives a value and is no call. -/
def plainB : Op → Bool
  | .load .. | .binOp .. | .unOp .. | .build .. | .fieldAddr .. | .indexAddr .. | .field .. | .index .. => true
  | _ => false
theorem v_run {P : Program} {w w' : World} {s : Sem Value} {n : Next} (h : (do pure (Next.value (← s)) : Sem Next).run P w = .ok n w') : ∃ v, n = .value v := by
  rw [Sem.run_bind] at h
  cases hs : s.run P w with
  | ok x w1 =>
    rw [hs, Result.andThen_ok, Sem.run_pure] at h
    injection h with h1 _
    exact ⟨x, h1.symm⟩
  | halt x w1 => rw [hs] at h; cases h
theorem plain_value {P : Program} {w w' : World} {ev : Operand → Value} {o : Oper} {n : Next} (hp : plainB o.op = true) (h : (execOp ev o).run P w = .ok n w') : ∃ v, n = .value v := by
  unfold execOp at h
  obtain ⟨d, op, ty, pos, af, g⟩ := o
  cases op <;> first | exact v_run h | cases hp
theorem quiet_plain {P : Program} {o : Oper} {a : Act} {C : World → Prop} {w : World} {v : Value} (hp : plainB o.op = true) (h : o.quietAt P a C w v) : (execOp a.eval o).run P w = .ok (.value v) w := by
  unfold Oper.quietAt at h
  generalize hr : (execOp a.eval o).run P w = r at h
  cases r with
  | ok n w' =>
    obtain ⟨u, rfl⟩ := plain_value hp hr
    obtain ⟨e1, e2⟩ := h
    subst e1; subst e2
    rfl
  | halt x w' => exact h.elim
section
variable {P : Program} {k : Nat} {cx : Cx k} {ops : Array Oper} {st : St} {K : St → Prop} {l2 : List Oper} {n g : Nat}
/-- What is left of the head, told by listed. -/
def zL [Zs] (P : Program) {k : Nat} (cx : Cx k) (ops : Array Oper) (K : St → Prop) (l2 : List Oper) (n g f : Nat) (listed : List Bool) (st : St) : Prop :=
  HeadInv .any ops n listed.toArray → ∀ a w, Rel cx st a w → anyGrow P .any ops (lift cx (ThenK K)) (Below w.heap.size w) n (fun listed a w => Region.seqB .any ops g n listed = true ∧ wpList P ops (lift cx (ThenK K)) l2 a w) f listed.toArray a w
theorem z_done [Zs] {listed : List Bool} (hq : Region.seqB .any ops g n listed.toArray = true) (h : aL P cx ops (ThenK K) l2 st) : zL P cx ops K l2 n g 0 listed st :=
  fun _ a w hr => ⟨hq, h a w hr⟩
/-- One that only reads goes first. -/
theorem z_q [Zs] {f : Nat} {listed : List Bool} (i : Nat) {d : Tmp} {op : Op} {ty : TypeId} {pos : String} {af : Array Edge} {av : AV} (hi : ops[i]? = some ⟨some d, op, ty, pos, af, none⟩)
    (hb : (Region.noSelect ops && Region.sinkB .any ops n && Region.chainB .any ops n && Nat.blt n ops.size && Nat.blt i n && Region.free .any ops listed.toArray i && (Region.ready .any ops listed.toArray).contains i && plainB op) = true)
    (hq : QOp P ⟨some d, op, ty, pos, af, none⟩ st av) (hd : Nat.blt d st.n = true) (h : zL P cx ops K l2 n g f (listed.set i true) (st.put d av)) : zL P cx ops K l2 n g (f + 1) listed st := by
  simp only [Bool.and_eq_true, Nat.blt_eq] at hb
  obtain ⟨⟨⟨⟨⟨⟨⟨b1, b2⟩, b3⟩, b4⟩, b5⟩, b6⟩, b7⟩, b8⟩ := hb
  intro inv a w hr
  obtain ⟨ρ, hb, hf, h0⟩ := hr.base
  obtain ⟨v, hg, hv⟩ := hq _ ρ w a hb
  have hr' : i ∈ Region.ready .any ops listed.toArray := by simpa using b7
  refine anyGrow_first hi (Region.noSelect_spec b1) b2 b3 b4 b5 (fun listed a w hL => seqB_ready hL.1) (fun c a w hp => ?_) f listed.toArray a w inv (Region.free_spec hi b6) hr' (v := v)
    (.inl ⟨by simp [Region.wanted], fun w1 hw1 => quiet_plain b8 (hv w1 hw1)⟩) (Below.refl _ _) ?_
  · obtain ⟨st', h1, _⟩ := hp
    exact h1.elim
  · have e : listed.toArray.setIfInBounds i true = (listed.set i true).toArray := by simp
    rw [e]
    exact h (by rw [← e]; exact inv.set hr' b5) _ _ ⟨⟨ρ, hb.put hd hg, hf, h0⟩, hr.same⟩
/-- An operation that makes memory, and writes on none. -/
def GOp (P : Program) (o : Oper) (d : Tmp) (st st2 : St) (av : AV) : Prop :=
  st.n = st2.n ∧ st.vars = st2.vars ∧ ∀ (_ : Zs) (ρ : Ids) (w : World) (a : Act), RelB ρ w st a → ∀ (nx : Act → World → Prop) (R : Exit → Act → World → Prop), (∀ v w' ρ', Below w.heap.size w w' → Same (Own ρ st.objs) w w' → (∀ (id : Nat) l, ρ[id]? = some l → ρ'[id]? = some l) →
      (∀ b, b < w.heap.size → Own ρ' st2.objs b → Own ρ st.objs b) → Good ρ' w' st2.objs → Gm ρ' w' (Ban ρ' st2.objs) av v → nx (a.put (some d) v) w') → o.wp P a w nx R
theorem g_of {d : Tmp} {op : Op} {ty : TypeId} {pos : String} {af : Array Edge} {st2 : St} {av : AV} (h1 : st.n = st2.n) (h2 : st.vars = st2.vars)
    (h : ∀ (_ : Zs) (ρ : Ids) (w : World) (a : Act), RelB ρ w st a → ∃ v w' ρ', (execOp a.eval ⟨some d, op, ty, pos, af, none⟩).run P w = .ok (.value v) w' ∧ Below w.heap.size w w' ∧ Same (Own ρ st.objs) w w' ∧ (∀ (id : Nat) l, ρ[id]? = some l → ρ'[id]? = some l) ∧
      (∀ b, b < w.heap.size → Own ρ' st2.objs b → Own ρ st.objs b) ∧ Good ρ' w' st2.objs ∧ Gm ρ' w' (Ban ρ' st2.objs) av v) : GOp P ⟨some d, op, ty, pos, af, none⟩ d st st2 av := by
  refine ⟨h1, h2, fun zs ρ w a hb nx R hnx => ?_⟩
  obtain ⟨v, w', ρ', hrun, hbel, hs, hρ, hM, hg, hgm⟩ := h zs ρ w a hb
  unfold Oper.wp
  rw [hrun]
  exact hnx v w' ρ' hbel hs hρ hM hg hgm
def zAll [Zs] (P : Program) {k : Nat} (cx : Cx k) (ops : Array Oper) (K : St → Prop) (l2 : List Oper) (n g f : Nat) (listed : List Bool) (st : St) : List Nat → Prop
  | [] => True
  | i :: r => (∃ d op ty pos af st2 av, ops[i]? = some ⟨some d, op, ty, pos, af, none⟩ ∧ Nat.blt i n = true ∧ GOp P ⟨some d, op, ty, pos, af, none⟩ d st st2 av ∧ Nat.blt d st2.n = true ∧ zL P cx ops K l2 n g f (listed.set i true) (st2.put d av)) ∧ zAll P cx ops K l2 n g f listed st r
theorem zAll_mem [Zs] {f : Nat} {listed : List Bool} : ∀ {l : List Nat}, zAll P cx ops K l2 n g f listed st l → ∀ i ∈ l, ∃ d op ty pos af st2 av, ops[i]? = some ⟨some d, op, ty, pos, af, none⟩ ∧ Nat.blt i n = true ∧ GOp P ⟨some d, op, ty, pos, af, none⟩ d st st2 av ∧ Nat.blt d st2.n = true ∧ zL P cx ops K l2 n g f (listed.set i true) (st2.put d av)
  | [], _, i, hi => by simp at hi
  | j :: l, h, i, hi => by
    rcases List.mem_cons.1 hi with rfl | hi
    · exact h.1
    · exact zAll_mem h.2 i hi
theorem z_step [Zs] {f : Nat} {listed : List Bool} {i : Nat} {is : List Nat} (hr : Region.ready .any ops listed.toArray = i :: is) (h : zAll P cx ops K l2 n g f listed st (i :: is)) : zL P cx ops K l2 n g (f + 1) listed st := by
  intro inv a w hrel
  refine ⟨fun h0 => (by rw [hr] at h0; cases h0), fun j hj => ?_⟩
  have hj' := hj
  rw [hr] at hj
  obtain ⟨d, op, ty, pos, af, st2, av, ho, hjn, ⟨hn, hvars, hG⟩, hd, hz⟩ := zAll_mem h j hj
  rw [Nat.blt_eq] at hjn
  obtain ⟨ρ, hb, hf, h0⟩ := hrel.base
  refine ⟨hjn, ?_⟩
  unfold wpOp
  simp only [ho]
  rw [if_pos (by simp [Region.wanted])]
  left
  refine hG _ ρ w a hb _ _ fun v w' ρ' hbel hs hρ hM hg hgm => ?_
  have e : listed.toArray.setIfInBounds j true = (listed.set j true).toArray := by simp
  refine ⟨hbel, ?_⟩
  rw [e]
  refine grow_mono (fun w1 h1 => ?_) _ _ _ _ (hz (by rw [← e]; exact inv.set hj' hjn) _ _ (Rel.step hrel hf h0 hs hρ (st2 := st2.put d av) hM (RelB.put (st := st2) ⟨fun t => ?_, hb.size.trans hn, hb.defers, hg⟩ hd hgm)))
  · exact hbel.trans (h1.mono hbel.size)
  · have := (hb.frame t).ext hs hρ hM
    unfold St.get at this ⊢
    rw [← hvars]; exact this
theorem a_grow [Zs] {id : Nat} {l : List Oper} {Q : Exit → St → Prop} (m : Nat) (hm : P.follows .mixedOrders = true) (hB : (Nat.blt m l.length && decide (l.length = m + g)) = true)
    (h : zL P cx l.toArray K (l.drop m) m g m (List.replicate l.length false) st) : aC P cx (.region id l.toArray true) (thenA K Q) st := by
  simp only [Bool.and_eq_true, Nat.blt_eq, decide_eq_true_eq] at hB
  obtain ⟨hlt, hlen⟩ := hB
  refine a_mono (Q := ThenK K) ?_ fun e st h => by cases e <;> first | exact h | exact h.elim
  intro a w hr
  refine wp_region_any hm ?_
  have inv0 : HeadInv .any l.toArray m (List.replicate l.length false).toArray :=
    by
    rw [List.toArray_replicate]
    exact ⟨by simp, fun j oj _ hl => (by rw [getD_replicate_false] at hl; cases hl), fun t _ ht => getD_in (by simpa using ht) (getD_replicate_false _ _)⟩
  have H := h inv0 a { w with drawn := w.drawn + 1 } (hr.mono ⟨rfl, rfl, rfl, Nat.le_refl _, fun _ _ => rfl⟩)
  have := any_of_grow (g := g) (fun listed a w hL => by
    have := wpAny_of_seq (md := .any) (Q' := lift cx (ThenK K)) (l.drop m) m listed a w (fun j => by simp [List.getElem?_drop]) (by rw [List.length_drop, show l.length - m = g by omega]; exact hL.1) hL.2
    rwa [List.length_drop, show l.length - m = g by omega] at this) _ _ _ _ H
  simpa [hlen] using this
/-! The makers. -/
variable {ty : TypeId} {pos : String} {af : Array Edge} {d nn m f i : Nat} {vars : List (Nat × AV)} {objs objs' : List AO} {listed : List Bool} {r : List Nat}
theorem g_alloc {T : TypeId} {z : Value} {sz by' : Nat} {l : List AV} (ht : MkT P T z sz by') (hl : (AV.val z).cells = l) (ho' : l.all AV.one = true) : GOp P ⟨some d, .alloc T, ty, pos, af, none⟩ d st (st.add (.box l)) (.ptr st.objs.length 0) := by
  have ho : ∀ a ∈ l, a.one = true := List.all_eq_true.1 ho'
  refine g_of rfl rfl fun _ ρ w a hb => ?_
  have hg : Gm ρ w (Ban ρ st.objs) (.val z) z := .val z
  obtain ⟨h1, h2, _⟩ := gm_cells hg hl ho
  have hbel : Below w.heap.size w (w.alloc (.cells z.cells T)) := (Below.refl _ _).alloc (Nat.le_refl _) _
  have happ := app_one hb.good (o := .box l) (v := .pointer (some ⟨w.heap.size, 0, none⟩)) hbel (fun b hb' => by cases hb'; exact Nat.le_refl _) fun hnew hM => ⟨w.heap.size, z.cells, T, hnew, heap_alloc_new w _, h1, fun i av' hi => by
    have hi' : i < z.cells.size := by rw [h1]; exact (List.getElem?_eq_some_iff.1 hi).1
    exact ⟨_, Array.getElem?_eq_getElem hi', (h2 i av' _ hi (Array.getElem?_eq_getElem hi')).ext (Same.of_below hbel _) (ext_app ρ _) hM⟩⟩
  refine ⟨.pointer (some ⟨w.heap.size, 0, none⟩), _, _, ?_, hbel, happ.1, happ.2.1, happ.2.2.1, happ.2.2.2, .ptr _ 0 _ [] (new_id hb.good.len _)⟩
  obtain ⟨i, hi, hz⟩ := ht.info
  simp [execOp, Instr.alloc, newVar, newRow, zeroValue, typeInfo, hi, hz.1]
theorem g_make {T e : TypeId} {sz by' : Nat} {z z0 : Value} {dt : Dat} {x y : Operand} {n : Int} (hx : st.ev x = .val (.int .i64 n)) (hy : st.ev y = .val (.int .i64 n)) (ht : SlT P T e sz) (hm : MkT P e z sz by') (h0 : 0 ≤ n)
    (hby : by' * n.toNat ≤ 281474976710656) (hpos : 0 < by') (hz : z.cells.toList = List.replicate sz z0) (hsz : 0 < sz) (hdt : ∀ w M, Rd w M z0 dt) :
    GOp P ⟨some d, .makeSlice T x y, ty, pos, af, none⟩ d st (st.add (.row e sz (List.replicate (n.toNat * sz) dt))) (.own st.objs.length) := by
  refine g_of rfl rfl fun _ ρ w a hb => ?_
  obtain ⟨i, hi, hz1, hsz1, hby1⟩ := hm.info
  have hn63 : n.toNat ≤ 281474976710656 := Nat.le_trans (Nat.le_mul_of_pos_left _ hpos) hby
  obtain ⟨N, rfl⟩ := Int.eq_ofNat_of_zero_le h0
  simp only [Int.toNat_natCast] at hby hn63
  have hrun := run_make (P := P) w T e i z ht.1 hi hz1 .i64 .i64 (N : Int) (N : Int) h0 (Int.le_refl _) (by rw [hby1, ← Int.natCast_mul]; exact Int.ofNat_le.2 hby) (by omega)
  have hbel : Below w.heap.size w (w.alloc (.cells (madeCells z.cells (N * i.size)) e)) := (Below.refl _ _).alloc (Nat.le_refl _) _
  simp only [Int.toNat_natCast] at hrun
  rw [hsz1] at hrun hbel
  have hl := madeCells_list z z0 sz N hz hsz
  have happ := app_one hb.good (o := .row e sz (List.replicate (N * sz) dt)) (v := .slice (some ⟨w.heap.size, 0, none⟩) N N) hbel (fun b hb' => by cases hb'; exact Nat.le_refl _) fun hnew _ =>
    sat_row hnew (ownsRow_new _ e sz N N (List.replicate (N * sz) z0) (by simp) (by rw [size_madeCells]) (Nat.le_refl _) (by unfold maxLen; omega) (by rw [hl]; simp)) (by simp) fun j dt' hj => by
      rw [List.getElem?_replicate] at hj
      split at hj
      · rename_i hj1
        obtain rfl := Option.some.inj hj
        exact ⟨z0, by rw [List.getElem?_replicate, if_pos hj1], hdt _ _⟩
      · cases hj
  refine ⟨.slice (some ⟨w.heap.size, 0, none⟩) N N, _, _, ?_, hbel, happ.1, happ.2.1, happ.2.2.1, happ.2.2.2, .own _ _ [] (new_id hb.good.len _) rfl⟩
  simp only [execOp, hb.evv hx, hb.evv hy, Sem.run_bind, hrun, Result.andThen_ok, Sem.run_pure]
/-! On states that stand written out. -/
theorem zw_q [Zs] (i : Nat) {op : Op} {av : AV} (hi : ops[i]? = some ⟨some d, op, ty, pos, af, none⟩)
    (hb : (Region.noSelect ops && Region.sinkB .any ops n && Region.chainB .any ops n && Nat.blt n ops.size && Nat.blt i n && Region.free .any ops listed.toArray i && (Region.ready .any ops listed.toArray).contains i && plainB op) = true)
    (hq : QOp P ⟨some d, op, ty, pos, af, none⟩ ⟨nn, vars, objs⟩ av) (hd : Nat.blt d nn = true) (h : zL P cx ops K l2 n g f (listed.set i true) ⟨nn, (d, av) :: vars, objs⟩) : zL P cx ops K l2 n g (f + 1) listed ⟨nn, vars, objs⟩ := z_q i hi hb hq hd h
theorem zw_nil [Zs] : zAll P cx ops K l2 n g f listed st [] := trivial
theorem zw_alloc [Zs] {T : TypeId} {z : Value} {sz by' : Nat} {l : List AV} (hi : ops[i]? = some ⟨some d, .alloc T, ty, pos, af, none⟩) (hin : Nat.blt i n = true) (ht : MkT P T z sz by') (hl : (AV.val z).cells = l) (h1 : l.all AV.one = true) (ho : objs ++ [.box l] = objs') (hm : objs.length = m) (hd : Nat.blt d nn = true)
    (hz : zL P cx ops K l2 n g f (listed.set i true) ⟨nn, (d, .ptr m 0) :: vars, objs'⟩) (hr : zAll P cx ops K l2 n g f listed ⟨nn, vars, objs⟩ r) : zAll P cx ops K l2 n g f listed ⟨nn, vars, objs⟩ (i :: r) := by
  subst ho; subst hm
  exact ⟨⟨_, _, _, _, _, _, _, hi, hin, g_alloc ht hl h1, hd, hz⟩, hr⟩
theorem zw_mk_nats [Zs] {T e : TypeId} {x y : Operand} {j : Int} {o : Nat} (hi : ops[i]? = some ⟨some d, .makeSlice T x y, ty, pos, af, none⟩) (hin : Nat.blt i n = true) (hx : (⟨nn, vars, objs⟩ : St).ev x = .val (.int .i64 j)) (hy : (⟨nn, vars, objs⟩ : St).ev y = .val (.int .i64 j)) (hj : j = (o : Int)) (ht : SlT P T e 1) (hmk : MkT P e (.int .i64 0) 1 8) (hbig : o ≤ 10000000000)
    (ho : objs ++ [.row e 1 (intc (nl (List.replicate o 0)))] = objs') (hm : objs.length = m) (hd : Nat.blt d nn = true)
    (hz : zL P cx ops K l2 n g f (listed.set i true) ⟨nn, (d, .own m) :: vars, objs'⟩) (hr : zAll P cx ops K l2 n g f listed ⟨nn, vars, objs⟩ r) : zAll P cx ops K l2 n g f listed ⟨nn, vars, objs⟩ (i :: r) := by
  subst ho; subst hm; subst hj
  refine ⟨⟨_, _, _, _, _, _, _, hi, hin, g_make (z0 := .int .i64 0) (dt := .val (.int .i64 0)) hx hy ht hmk (by omega) (by omega) (by decide) rfl (by decide) (fun _ _ => .val _), hd, ?_⟩, hr⟩
  rw [intc_rep, Int.toNat_natCast]
  rw [← nl_rep] at hz
  exact hz
end
end Go.Proofs.YtbgecpjlopdkfaaDoor
