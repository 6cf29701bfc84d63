import Derived.Test.YtbgecpjlopdkfaaDoorEngZzc
import Derived.Test.YtbgecpjlopdkfaaDoorTypes
import Derived.Ground.NamesProg
import Derived.Shelf.Lay
import Derived.Shelf.Sort.Plain
import Derived.Shelf.Slices.In.SortNone
set_option linter.unusedSimpArgs false
set_option linter.unusedVariables false
set_option linter.unusedSectionVars false
set_option maxRecDepth 20000
namespace Go.Proofs
open Go.Shelf Go.Lib Go.Sort Go.RowKit
shelf_lay Lays.n189 Nm 189 at Tryd as YtbgecpjlopdkfaaDoor.layS
end Go.Proofs
namespace Go.Proofs.YtbgecpjlopdkfaaDoor
open Go.RowKit
/-- Numbers, sorted. -/
def srl (l : List Int) : List Int := l.mergeSort fun x y => decide (x ≤ y)
theorem srl_perm (l : List Int) : (srl l).Perm l := List.mergeSort_perm l _
theorem srl_len (l : List Int) : (srl l).length = l.length := (srl_perm l).length_eq
theorem srl_sorted (l : List Int) : (srl l).Pairwise (· ≤ ·) := by
  have h := List.pairwise_mergeSort (le := fun x y : Int => decide (x ≤ y)) (by intro a b c; simp; omega) (by intro a b; simp; omega) l
  exact h.imp fun h => by simpa using h
/-- Whatever is sorted and has the same numbers. -/
theorem srl_eq {l r : List Int} (hp : r.Perm l) (hs : r.Pairwise (· ≤ ·)) : srl l = r :=
  ((srl_perm l).trans hp.symm).eq_of_pairwise (fun a b _ _ h1 h2 => Int.le_antisymm h1 h2) (srl_sorted l) hs
theorem Sort_fn : layS_ren.f 189 = 108 := by first | rfl | decide
theorem Sort_ac (l : List Int) (hl : l.length < 4611686018427387904) : AC Tryd.prog 108 [.own 0] [.row 3 1 (intc l)] (.tup []) [.row 3 1 (intc (srl l))] := by
  refine ⟨⟨Tryd.f108, Tryd.func108, by kernel_rfl, rfl⟩, ?_⟩
  intro zs ρ w vs hg hsz hargs
  obtain ⟨v, rfl⟩ : ∃ v, vs = #[v] := by
    have : vs.size = 1 := hsz
    exact ⟨vs[0], by apply Array.ext; simp [this]; intro i h1 h2; simp at h2; subst h2; rfl⟩
  have hv := hargs 0 _ v rfl rfl
  obtain ⟨hρ, h | ⟨b, cap, cur, rfl, hh, hnc, hcm, hcs, hbl, hH⟩⟩ := row_is hg hv
  · obtain ⟨rfl, rfl⟩ := h
    rw [← Sort_fn, show srl [] = [] by simp [srl]]
    refine (Any.slices_Sort_int_none layS none 0 w).mono ?_
    rintro e w' ⟨rfl, rfl⟩
    exact ⟨_, ρ, rfl, Same.refl _ _, hg, .tup _ _ rfl (fun i a v h => by cases h), fun _ _ h => h, fun b h _ => h⟩
  · rw [← Sort_fn]
    refine (Any.slices_Sort_int layS b 0 cap l w hH hbl hl).mono ?_
    rintro e w' ⟨rfl, q, os, hw'⟩
    obtain ⟨w2, hw2, hs, hg2, _⟩ := put_turnG (q := q) (os := os) (r := srl l) hg hρ hh hnc hcm hcs (srl_len l)
    obtain rfl : w' = w2 := hw'.trans hw2.symm
    refine ⟨_, ρ, rfl, hs, hg2, .tup _ _ rfl (fun i a v h => by cases h), fun _ _ h => h, fun b h _ => ?_⟩
    obtain ⟨id, o, l', h1, h2, h3⟩ := h
    cases id with
    | zero => obtain rfl := Option.some.inj h1; exact ⟨0, _, l', rfl, h2, h3⟩
    | succ id => simp at h1
end Go.Proofs.YtbgecpjlopdkfaaDoor
