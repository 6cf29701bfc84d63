/- Schuetzenberger's two laws of promoting and evacuating rows, out of these two: a swap undoes itself, and swaps far apart go in any order (plain). -/
import Derived.Test.YtmfhmpdpebpijaaHo
set_option linter.unusedSimpArgs false
set_option linter.unusedVariables false
namespace Go.Proofs.Ytmfhmpdpebpijaa
attribute [local irreducible] QOp aL aC qL
theorem swN_no {ns l : List Nat} {k : Nat} (h : ¬ swB ns l k = true) : swN ns l k = l := by unfold swN; rw [if_neg h]
theorem sw_comm {ns l : List Nat} {j k : Nat} (hjk : j + 2 ≤ k) (hk : k + 1 < l.length) : swN ns (swN ns l j) k = swN ns (swN ns l k) j := by
  have gj : swB ns l j = true → ∀ i, (swN ns l j).getD i 0 = if i = j + 1 then l.getD j 0 else if i = j then l.getD (j + 1) 0 else l.getD i 0 := fun h => swN_get (by omega) h
  have gk : swB ns l k = true → ∀ i, (swN ns l k).getD i 0 = if i = k + 1 then l.getD k 0 else if i = k then l.getD (k + 1) 0 else l.getD i 0 := fun h => swN_get hk h
  have nj : ¬ swB ns l j = true → swN ns l j = l := fun h => by unfold swN; rw [if_neg h]
  have nk : ¬ swB ns l k = true → swN ns l k = l := fun h => by unfold swN; rw [if_neg h]
  have ek : swB ns (swN ns l j) k = swB ns l k := by
    by_cases h : swB ns l j = true
    · unfold swB
      rw [gj h k, gj h (k + 1), if_neg (by omega), if_neg (by omega), if_neg (by omega), if_neg (by omega)]
    · rw [nj h]
  have ej : swB ns (swN ns l k) j = swB ns l j := by
    by_cases h : swB ns l k = true
    · unfold swB
      rw [gk h j, gk h (j + 1), if_neg (by omega), if_neg (by omega), if_neg (by omega), if_neg (by omega)]
    · rw [nk h]
  have nkj : ¬ swB ns l k = true → swN ns (swN ns l j) k = swN ns l j := fun h => by
    exact swN_no (by rw [ek]; exact h)
  have njk : ¬ swB ns l j = true → swN ns (swN ns l k) j = swN ns l k := fun h => by
    exact swN_no (by rw [ej]; exact h)
  by_cases hj : swB ns l j = true
  · by_cases hkk : swB ns l k = true
    · have g1 := swN_get (ns := ns) (l := swN ns l j) (k := k) (by rw [swN_len]; exact hk) (by rw [ek]; exact hkk)
      have g2 := swN_get (ns := ns) (l := swN ns l k) (k := j) (by rw [swN_len]; omega) (by rw [ej]; exact hj)
      refine list_eqN (by rw [swN_len, swN_len, swN_len, swN_len]) fun i _ => ?_
      rw [g1 i, g2 i, gj hj k, gj hj (k + 1), gj hj i, gk hkk j, gk hkk (j + 1), gk hkk i]
      repeat' split
      all_goals first
        | rfl
        | omega
    · rw [nkj hkk, nk hkk]
  · rw [nj hj, njk hj]
/-- The swaps made from the last one on. -/
def dnN (ns l : List Nat) : Nat → List Nat
  | 0 => l
  | m + 1 => dnN ns (swN ns l m) m
/-- All swaps, then those but the last one, and so on. -/
def evN (ns l : List Nat) : Nat → List Nat
  | 0 => l
  | m + 1 => evN ns (upN ns l (m + 1)) m
theorem dnN_len (ns : List Nat) : ∀ (m : Nat) (l : List Nat), (dnN ns l m).length = l.length
  | 0, l => rfl
  | m + 1, l => by rw [dnN, dnN_len ns m, swN_len]
theorem evN_len (ns : List Nat) : ∀ (m : Nat) (l : List Nat), (evN ns l m).length = l.length
  | 0, l => rfl
  | m + 1, l => by rw [evN, evN_len ns m, upN_len]
theorem dn_up {n : Nat} {ns l : List Nat} (hl : l.length = n) : ∀ m, m + 1 ≤ n → dnN ns (upN ns l m) m = l
  | 0, _ => rfl
  | m + 1, hm => by
    show dnN ns (swN ns (swN ns (upN ns l m) m) m) m = l
    rw [sw_sw (by rw [upN_len]; omega)]
    exact dn_up hl m (by omega)
theorem up_dn {n : Nat} {ns : List Nat} : ∀ (m : Nat) (l : List Nat), l.length = n → m + 1 ≤ n → upN ns (dnN ns l m) m = l
  | 0, _, _, _ => rfl
  | m + 1, l, hl, hm => by
    show swN ns (upN ns (dnN ns (swN ns l m) m) m) m = l
    rw [up_dn (n := n) m (swN ns l m) (by rw [swN_len]; exact hl) (by omega)]
    exact sw_sw (by omega)
theorem up_comm {ns l : List Nat} {k : Nat} (hk : k + 1 < l.length) : ∀ j, j + 1 ≤ k → upN ns (swN ns l k) j = swN ns (upN ns l j) k
  | 0, _ => rfl
  | j + 1, h => by
    show swN ns (upN ns (swN ns l k) j) j = swN ns (swN ns (upN ns l j) j) k
    rw [up_comm hk j (by omega)]
    exact (sw_comm (j := j) (k := k) (by omega) (by rw [upN_len]; exact hk)).symm
theorem ev_comm {ns : List Nat} {k : Nat} : ∀ (j : Nat) (l : List Nat), k + 1 < l.length → j + 1 ≤ k → evN ns (swN ns l k) j = swN ns (evN ns l j) k
  | 0, _, _, _ => rfl
  | j + 1, l, hk, h => by
    show evN ns (upN ns (swN ns l k) (j + 1)) j = swN ns (evN ns (upN ns l (j + 1)) j) k
    rw [up_comm hk (j + 1) (by omega)]
    exact ev_comm j _ (by rw [upN_len]; exact hk) (by omega)
theorem ev_dn {ns : List Nat} : ∀ (m : Nat) (l : List Nat), m + 1 < l.length → evN ns l (m + 1) = dnN ns (evN ns l m) (m + 1)
  | 0, l, _ => rfl
  | m + 1, l, h => by
    have e : evN ns l (m + 2) = evN ns (upN ns l (m + 2)) (m + 1) := rfl
    rw [e, ev_dn m (upN ns l (m + 2)) (by rw [upN_len]; omega)]
    show dnN ns (evN ns (swN ns (upN ns l (m + 1)) (m + 1)) m) (m + 1) = dnN ns (evN ns (upN ns l (m + 1)) m) (m + 2)
    rw [ev_comm m _ (by rw [upN_len]; omega) (by omega)]
    rfl
theorem ev_ev {ns : List Nat} : ∀ (m : Nat) (l : List Nat), m + 1 ≤ l.length → evN ns (evN ns l m) m = l
  | 0, _, _ => rfl
  | m + 1, l, h => by
    show evN ns (upN ns (evN ns l (m + 1)) (m + 1)) m = l
    rw [ev_dn m l (by omega), up_dn (n := l.length) (m + 1) _ (evN_len ns m l) (by omega)]
    exact ev_ev m l (by omega)
theorem ev_up {ns l : List Nat} (m : Nat) (h : m + 1 ≤ l.length) : evN ns (upN ns l m) m = dnN ns (evN ns l m) m := by
  cases m with
  | zero => rfl
  | succ m => exact ev_dn m (upN ns l (m + 1)) (by rw [upN_len]; omega)
end Go.Proofs.Ytmfhmpdpebpijaa
