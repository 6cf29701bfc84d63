import Derived.Test.YtdieojemgkfklaaDoorKm
import Derived.Test.YtdieojemgkfklaaDoorKh
import Derived.Test.YtdieojemgkfklaaDoorJj
import Derived.Test.YtdieojemgkfklaaDoorFb
set_option linter.unusedSimpArgs false
set_option linter.unusedVariables false
set_option maxRecDepth 20000
namespace Go.Proofs.YtdieojemgkfklaaDoor
attribute [local irreducible] QOp aL aC qL
/-- A point, and all below it. -/
def dnC (ns : List Nat) (p : Nat) : Nat := ns.getD p 0 ||| 2 ^ p
theorem dn_bit (ns : List Nat) (p k : Nat) : (dnC ns p).testBit k = upB ns k p := by
  unfold dnC; rw [or_bit]; rfl
theorem upB_rfl (ns : List Nat) (a : Nat) : upB ns a a = true := by unfold upB; rw [decide_eq_true rfl]; rfl
theorem upB_tr {n : Nat} {ns : List Nat} (hok : okB n ns = true) {a b c : Nat} (_ha : a < n) (hb : b < n) (hc : c < n) (h1 : upB ns a b = true) (h2 : upB ns b c = true) : upB ns a c = true := by
  unfold upB at *
  rw [Bool.or_eq_true, decide_eq_true_eq] at *
  rcases h1 with rfl | h1
  · exact h2
  · rcases h2 with rfl | h2
    · exact .inr h1
    · exact .inr (okB_tr hok hc hb h2 h1)
theorem upB_an {n : Nat} {ns : List Nat} (hok : okB n ns = true) {a b : Nat} (ha : a < n) (hb : b < n) (h1 : upB ns a b = true) (h2 : upB ns b a = true) : a = b := by
  unfold upB at *
  rw [Bool.or_eq_true, decide_eq_true_eq] at *
  rcases h1 with h1 | h1
  · exact h1
  · rcases h2 with h2 | h2
    · exact h2.symm
    · have := okB_irr hok ha
      rw [okB_tr hok ha hb h2 h1] at this; cases this
theorem dn_lt {n : Nat} {ns : List Nat} (hv : Vld n ns) {p : Nat} (hp : p < n) : dnC ns p < 2 ^ n := Nat.or_lt_two_pow (hv.get p) (Nat.pow_lt_pow_right (by decide) hp)
theorem low_cut {n : Nat} {ns : List Nat} {q : Nat} (hq : q < 2 ^ n) : cutC n ns (bs (bndP n ns q false) n) = bs (bndP n ns q false) n :=
  sub_eq (up_anti (low_up hq)) (cut_up (bs_lt _ _))
theorem dn_cut {n : Nat} {ns : List Nat} (hv : Vld n ns) {p : Nat} (hp : p < n) : cutC n ns (dnC ns p) = dnC ns p := by
  have h := low_cut (n := n) (ns := ns) (q := 2 ^ p) (Nat.pow_lt_pow_right (by decide) hp)
  rw [low_one hv hp] at h
  exact h
/-- The place of a point. -/
def atN (n : Nat) (ns : List Nat) (p : Nat) : Nat := plN (cutT n ns (2 ^ n)) (dnC ns p)
theorem at_ok {n : Nat} {ns : List Nat} (hv : Vld n ns) {p : Nat} (hp : p < n) : atN n ns p < (cutT n ns (2 ^ n)).length ∧ (cutT n ns (2 ^ n)).getD (atN n ns p) 0 = dnC ns p ∧ plc (cutT n ns (2 ^ n)) (dnC ns p) = (atN n ns p : Int) := by
  obtain ⟨i, h1, h2⟩ := rng_at (p := fun s => decide (cutC n ns s = s)) (k := 2 ^ n) (dn_lt hv hp) (decide_eq_true (dn_cut hv hp))
  have h3 := plN_of (cut_StJ n ns) (s := dnC ns p) (k := i) h1 h2
  have e : atN n ns p = i := h3.2
  rw [e]
  exact ⟨h1, h2, h3.1⟩
theorem plT_at {n : Nat} {ns : List Nat} (hv : Vld n ns) : plT (cutT n ns (2 ^ n)) ns n = nl ((List.range n).map (atN n ns)) := by
  unfold plT nl
  rw [List.map_map]
  exact List.map_congr_left fun p hp => (at_ok hv (List.mem_range.1 hp)).2.2
theorem dn_sub {n : Nat} {ns : List Nat} (hok : okB n ns = true) (hv : Vld n ns) {a b : Nat} (ha : a < n) (hb : b < n) : sub (dnC ns a) (dnC ns b) = true ↔ upB ns a b = true := by
  rw [sub_iff]
  constructor
  · intro h
    have := h a (by rw [dn_bit]; exact upB_rfl ns a)
    rwa [dn_bit] at this
  · intro h i hi
    have hin := bit_in (dn_lt hv ha) hi
    rw [dn_bit] at hi ⊢
    exact upB_tr hok hin ha hb hi h
theorem two_bit (a b k : Nat) : (2 ^ a ||| 2 ^ b).testBit k = true ↔ k = a ∨ k = b := by
  rw [Nat.testBit_or, Nat.testBit_two_pow, Nat.testBit_two_pow, Bool.or_eq_true, decide_eq_true_eq, decide_eq_true_eq]
  exact ⟨fun h => h.elim (fun h => .inl h.symm) (fun h => .inr h.symm), fun h => h.elim (fun h => .inl h.symm) (fun h => .inr h.symm)⟩
theorem bnd_two {n : Nat} {ns : List Nat} {a b : Nat} (ha : a < n) (hb : b < n) {up : Bool} {j : Nat} : (bs (bndP n ns (2 ^ a ||| 2 ^ b) up) n).testBit j = true ↔ j < n ∧ (if up = true then upB ns a j else upB ns j a) = true ∧ (if up = true then upB ns b j else upB ns j b) = true := by
  rw [bnd_bit]
  refine and_congr_right fun _ => ⟨fun h => ⟨h a ha ((two_bit a b a).2 (.inl rfl)), h b hb ((two_bit a b b).2 (.inr rfl))⟩, fun h k _ hk => ?_⟩
  rcases (two_bit a b k).1 hk with rfl | rfl
  · exact h.1
  · exact h.2
/-- Joins one behind the other. -/
def fJ (g : Nat → Nat → Nat) (e : Nat → Nat) (p : Nat → Bool) (lo : Nat) : Nat → Nat
  | 0 => lo
  | k + 1 => if p k = true then g (fJ g e p lo k) (e k) else fJ g e p lo k
theorem cut_get {n : Nat} {ns : List Nat} {x : Nat} (hx : x < (cutT n ns (2 ^ n)).length) : (cutT n ns (2 ^ n)).getD x 0 < 2 ^ n ∧ cutC n ns ((cutT n ns (2 ^ n)).getD x 0) = (cutT n ns (2 ^ n)).getD x 0 := by
  have := rng_get (fun s => decide (cutC n ns s = s)) (2 ^ n) hx
  exact ⟨this.1, of_decide_eq_true this.2⟩
end Go.Proofs.YtdieojemgkfklaaDoor
set_option linter.unusedSimpArgs false
set_option linter.unusedVariables false
set_option maxRecDepth 20000
namespace Go.Proofs.YtdieojemgkfklaaDoor
attribute [local irreducible] QOp aL aC qL
def tabM (n : Nat) (ns : List Nat) : List (List Nat) := tbT (cutT n ns (2 ^ n)).length (mtN (cutT n ns (2 ^ n))) (cutT n ns (2 ^ n)).length
def tabJ (n : Nat) (ns : List Nat) : List (List Nat) := tbT (cutT n ns (2 ^ n)).length (jnN (cutT n ns (2 ^ n)) fun a b => cutC n ns (a ||| b)) (cutT n ns (2 ^ n)).length
def atT (n : Nat) (ns : List Nat) : List Nat := (List.range n).map (atN n ns)
theorem FillV_ok (n : Nat) (ns : List Nat) (hn : n ≤ 10) (hv : Vld n ns) (hok : okB n ns = true) (hm : (cutT n ns (2 ^ n)).length ≤ 40) :
    AC Tryd.prog 27 [ordv n (nl ns)] [] (.tup [latA (cutT n ns (2 ^ n)).length (tn (tabM n ns)) (tn (tabJ n ns)), ints (nl (atT n ns)), .val (.int .i64 0)]) [] := by
  have h := Fill_ok n ns hn hv hok hm
  rw [plT_at hv, (cut_StJ n ns).tabs.1, (cut_StJ n ns).tabs.2] at h
  exact AC.vw0 h (by (repeat' (first | exact trivial | exact vwR rfl | exact vwRL rfl | exact Vw.val _ | exact Vw.ro _ | exact Vw.any _ | exact Vw.valro _ | exact Vw.own _ _ rfl | exact Vw.ptr _ _ _ rfl | exact Vw.rpt _ _ | exact Vw.nilro _ | exact Vw.rowro _ _ _ _ rfl (by decide) | exact Vw.rowro2 rfl (by decide) (by with_unfolding_all exact rfl) | refine Vw.agg' ?_ | refine Vw.tup' ?_ | refine Vw.clo' ?_ | refine Vw.boxrpt' rfl (by decide) ?_ | exact Nat.le_of_ble_eq_true rfl | refine ⟨?_, ?_⟩ )))
end Go.Proofs.YtdieojemgkfklaaDoor
