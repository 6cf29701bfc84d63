/- Values of several cells that are put together; pairs of points. -/
import Derived.Test.YthchhaaplimafaaEngN
set_option linter.unusedSimpArgs false
set_option linter.unusedVariables false
namespace Go.Proofs.Ythchhaaplimafaa
open Go.RowKit

section
variable {P : Program} {st : St} {d : Option Tmp} {ty : TypeId} {pos : String} {af : Array Edge} {g : Option (Nat × Bool)}
theorem Q_build0 {T : TypeId} {zs : List Value} {place : Nat → Option (Nat × Nat)} {out : List AV} (hb : BdT P T zs place) (ho : zs.map .val = out) : QOp P ⟨d, .build T #[], ty, pos, af, g⟩ st (.agg out) :=
  Q_build (ps := []) hb rfl ho.symm
theorem Q_build1 {T : TypeId} {zs : List Value} {place : Nat → Option (Nat × Nat)} {i off : Nat} {x : Operand} {av : AV} {l out : List AV} (hb : BdT P T zs place) (hx0 : st.ev x = av) (hx : av.cells = l) (hp : place i = some (off, l.length)) (h1 : l.all AV.one = true)
    (hl : Nat.ble (off + l.length) (zs.map AV.val).length = true) (ho : (zs.map AV.val).take off ++ l ++ (zs.map AV.val).drop (off + l.length) = out) : QOp P ⟨d, .build T #[(i, x)], ty, pos, af, g⟩ st (.agg out) :=
  Q_build (ps := [(i, x)]) hb rfl ⟨off, l, hp, hx0 ▸ hx, h1, hl, ho.symm⟩
theorem Q_build2 {T : TypeId} {zs : List Value} {place : Nat → Option (Nat × Nat)} {i off j off' : Nat} {x y : Operand} {av av' : AV} {l l' c out : List AV} (hb : BdT P T zs place) (hx0 : st.ev x = av) (hx : av.cells = l) (hp : place i = some (off, l.length)) (h1 : l.all AV.one = true)
    (hl : Nat.ble (off + l.length) (zs.map AV.val).length = true) (hc : (zs.map AV.val).take off ++ l ++ (zs.map AV.val).drop (off + l.length) = c)
    (hx0' : st.ev y = av') (hx' : av'.cells = l') (hp' : place j = some (off', l'.length)) (h1' : l'.all AV.one = true) (hl' : Nat.ble (off' + l'.length) c.length = true) (ho : c.take off' ++ l' ++ c.drop (off' + l'.length) = out) : QOp P ⟨d, .build T #[(i, x), (j, y)], ty, pos, af, g⟩ st (.agg out) := by
  subst hc
  exact Q_build (ps := [(i, x), (j, y)]) hb rfl ⟨off, l, hp, hx0 ▸ hx, h1, hl, off', l', hp', hx0' ▸ hx', h1', hl', ho.symm⟩
end

def pn (l : List (Nat × Nat)) : List (Int × Int) := l.map fun p => ((p.1 : Int), (p.2 : Int))
theorem pn_len (l : List (Nat × Nat)) : (pn l).length = l.length := by simp [pn]
theorem pn_get (l : List (Nat × Nat)) (k : Nat) : (pn l).getD k (0, 0) = (((l.getD k (0, 0)).1 : Int), ((l.getD k (0, 0)).2 : Int)) := by
  simp only [pn, List.getD_eq_getElem?_getD, List.getElem?_map]
  cases l[k]? <;> rfl
theorem pn_app (l r : List (Nat × Nat)) : pn l ++ pn r = pn (l ++ r) := by simp [pn]
theorem pn_of {l : List (Int × Int)} (h : ∀ p ∈ l, 0 ≤ p.1 ∧ 0 ≤ p.2) : l = pn (l.map fun p => (p.1.toNat, p.2.toNat)) := by
  induction l with
  | nil => rfl
  | cons p r ih =>
    have h1 := h p (by simp)
    rw [List.map_cons, pn, List.map_cons, ← pn, ← ih (fun q hq => h q (List.mem_cons_of_mem _ hq))]
    congr 1
    ext <;> simp <;> omega

section
variable {P : Program} {k : Nat} {cx : Cx k} {ops : Array Oper} {Q : Exit → St → Prop} {st : St} {rest : List Oper} {d : Option Tmp} {ty : TypeId} {pos : String} {af : Array Edge} {g : Option (Nat × Bool)}
theorem Q_ix_pairsN {x ix : Operand} {T e : TypeId} {l : List (Nat × Nat)} {i : Int} {o : Nat} (hx : st.ev x = pairs (pn l)) (hi : st.ev ix = .val (.int .i64 i)) (ho : i = (o : Int)) (ht : SlT P T e 2) (h : o < l.length) :
    QOp P ⟨d, .indexAddr T x ix, ty, pos, af, g⟩ st (.rpt (pairc (pn l)) (o * 2)) := Q_ix_pairs hx hi ho ht (by rw [pn_len]; exact h)
theorem Q_ld_pairN {x : Operand} {T : TypeId} {l : List (Nat × Nat)} {o : Nat} (hx : st.ev x = .rpt (pairc (pn l)) (o * 2)) (h : o < l.length) (ht : AgT P T 2) :
    QOp P ⟨d, .load T x, ty, pos, af, g⟩ st (.agg [.val (.int .i64 ((l.getD o (0, 0)).1 : Int)), .val (.int .i64 ((l.getD o (0, 0)).2 : Int))]) := by
  have := Q_ld_pair (P := P) (d := d) (ty := ty) (pos := pos) (af := af) (g := g) hx (by rw [pn_len]; exact h) ht
  rw [pn_get] at this
  exact this
theorem Q_ld_pair1N {x : Operand} {T : TypeId} {l : List (Nat × Nat)} {o : Nat} (hx : st.ev x = .rpt (pairc (pn l)) (o * 2)) (h : o < l.length) (ht : ScT P T) : QOp P ⟨d, .load T x, ty, pos, af, g⟩ st (.val (.int .i64 ((l.getD o (0, 0)).1 : Int))) := by
  have := Q_ld_pair1 (P := P) (d := d) (ty := ty) (pos := pos) (af := af) (g := g) hx (by rw [pn_len]; exact h) ht
  rw [pn_get] at this
  exact this
theorem Q_ld_pair2N {x : Operand} {T : TypeId} {l : List (Nat × Nat)} {o : Nat} (hx : st.ev x = .rpt (pairc (pn l)) (o * 2 + 1)) (h : o < l.length) (ht : ScT P T) : QOp P ⟨d, .load T x, ty, pos, af, g⟩ st (.val (.int .i64 ((l.getD o (0, 0)).2 : Int))) := by
  have := Q_ld_pair2 (P := P) (d := d) (ty := ty) (pos := pos) (af := af) (g := g) hx (by rw [pn_len]; exact h) ht
  rw [pn_get] at this
  exact this
theorem Q_len_pairsN {x : Operand} {T e : TypeId} {l : List (Nat × Nat)} (hx : st.ev x = pairs (pn l)) (ht : SlT P T e 2) : QOp P ⟨d, .call ⟨.builtin .len, #[x], #[T]⟩, ty, pos, af, g⟩ st (.val (.int .i64 (l.length : Int))) := by
  have := Q_len_pairs (P := P) (d := d) (ty := ty) (pos := pos) (af := af) (g := g) hx ht
  rw [pn_len] at this
  exact this
end

/-- k rounds, told their number. -/
def iterN {α : Type} : Nat → (Nat → α → α) → α → α
  | 0, _, x => x
  | k + 1, f, x => f k (iterN k f x)
theorem iterN_inv {α : Type} {p : α → Prop} {f : Nat → α → α} {x : α} : ∀ (k : Nat), p x → (∀ i y, i < k → p y → p (f i y)) → p (iterN k f x)
  | 0, h, _ => h
  | k + 1, h, hf => hf k _ (Nat.lt_succ_self k) (iterN_inv k h fun i y hi hy => hf i y (Nat.lt_succ_of_lt hi) hy)

/-- n sets of points below n. -/
def Vld (n : Nat) (ns : List Nat) : Prop := ns.length = n ∧ ∀ x ∈ ns, x < 2 ^ n
theorem Vld.get {n : Nat} {ns : List Nat} (h : Vld n ns) (b : Nat) : ns.getD b 0 < 2 ^ n := by
  rw [List.getD_eq_getElem?_getD]
  cases hk : ns[b]? with
  | none => exact Nat.pow_pos (by decide)
  | some x => exact h.2 x (List.mem_of_getElem? hk)
theorem Vld.set {n : Nat} {ns : List Nat} (h : Vld n ns) {b x : Nat} (hx : x < 2 ^ n) : Vld n (ns.set b x) :=
  ⟨by rw [List.length_set]; exact h.1, fun y hy => by
    rcases List.mem_or_eq_of_mem_set hy with h1 | h1
    · exact h.2 y h1
    · rw [h1]; exact hx⟩
theorem Vld.rep (n : Nat) : Vld n (List.replicate n 0) := ⟨by simp, fun x hx => by rw [(List.mem_replicate.1 hx).2]; exact Nat.pow_pos (by decide)⟩

mutual
def flatB : AV → Bool
  | .val _ => true
  | .own _ => true
  | .ptr _ _ => true
  | .agg l => flatBs l
  | .tup l => flatBs l
  | .any => true
  | _ => false
def flatBs : List AV → Bool
  | [] => true
  | a :: l => flatB a && flatBs l
end
mutual
theorem flat_of : ∀ {av : AV}, flatB av = true → Flat av
  | .val _, _ => .val _
  | .own _, _ => .own _
  | .ptr _ _, _ => .ptr _ _
  | .agg l, h => .agg l (flats_of (by simpa [flatB] using h))
  | .tup l, h => .tup l (flats_of (by simpa [flatB] using h))
  | .any, _ => .any
theorem flats_of : ∀ {l : List AV}, flatBs l = true → ∀ av ∈ l, Flat av
  | [], _, _, h => by cases h
  | a :: l, h, av, hm => by
    simp only [flatBs, Bool.and_eq_true] at h
    rcases List.mem_cons.1 hm with hq | hm
    · rw [hq]; exact flat_of h.1
    · exact flats_of h.2 av hm
end
def FlatOs : List AO → Prop
  | [] => True
  | o :: r => FlatO o ∧ FlatOs r
theorem flatOs_spec : ∀ {l : List AO}, FlatOs l → ∀ o ∈ l, FlatO o
  | [], _, _, h => by cases h
  | a :: l, h, o, hm => by
    rcases List.mem_cons.1 hm with rfl | hm
    · exact h.1
    · exact flatOs_spec h.2 o hm
theorem flat_box (l : List AV) (h : flatBs l = true) : FlatO (.box l) := .box l (flats_of h)

section
variable {P : Program} {k : Nat} {cx : Cx k} {ops : Array Oper} {Q : Exit → St → Prop} {rest : List Oper} {ty : TypeId} {pos : String} {af : Array Edge} {n : Nat} {vars : List (Nat × AV)} {objs objs' : List AO} {d m : Nat}
theorem w_callR [Zs] {g : Operand} {xs : Array Operand} {ats : Array TypeId} {f : FuncId} {caps args : List AV} {res res0 res' : AV} {news news0 : List AO} (hf : Callee' ⟨n, vars, objs⟩ g f caps) (hc : AC P f args [] res0 news0) (h0 : res0 = res) (h1 : news0 = news)
    (hv : VwL objs [] (evs ⟨n, vars, objs⟩ xs ++ caps) args)
    (hfl : flatB res = true) (hfo : FlatOs news) (ho : objs ++ news.map (AO.sh objs.length) = objs') (hr : res.sh objs.length = res') (hd : Nat.blt d n = true) (hk : aL P cx ops Q rest ⟨n, (d, res') :: vars, objs'⟩) :
    aL P cx ops Q (⟨some d, .call ⟨.value g, xs, ats⟩, ty, pos, af, none⟩ :: rest) ⟨n, vars, objs⟩ := by
  subst h0; subst h1
  exact w_call hf hc hv (flat_of hfl) (flatOs_spec hfo) ho hr hd hk
end
end Go.Proofs.Ythchhaaplimafaa
