import Derived.Test.YtkapohfnoflhlaaDoorEngZzb
import Derived.Test.YtkapohfnoflhlaaDoorTypes
import Derived.Ground.Names2Prog
import Derived.Shelf.Lay
import Derived.Shelf.Slices.CompactI
set_option linter.unusedSimpArgs false
set_option linter.unusedVariables false
set_option linter.unusedSectionVars false
set_option maxRecDepth 20000
namespace Go.Proofs
open Go.Shelf Go.Lib Go.Sort Go.RowKit
shelf_lay Lays2.n20 Nm2 20 at Tryd as YtkapohfnoflhlaaDoor.layC
end Go.Proofs
namespace Go.Proofs.YtkapohfnoflhlaaDoor
open Go.RowKit
theorem Compact_fn : layC_ren.f 20 = 33 := by first | rfl | decide
theorem Compact_ac (l : List Int) (hl : l.length ≤ 9223372036854775807) : AC Tryd.prog 33 [.own 0] [.row 3 1 (intc l)] (ints (Go.Lib.compact l)) [.gone] := by
  refine ⟨⟨Tryd.f33, Tryd.func33, by kernel_rfl, rfl⟩, ?_⟩
  intro zs ρ w vs hg hsz hargs
  obtain ⟨v, rfl⟩ : ∃ v, vs = #[v] := by
    have : vs.size = 1 := hsz
    exact ⟨vs[0], by apply Array.ext; simp [this]; intro i h1 h2; simp at h2; subst h2; rfl⟩
  have hv := hargs 0 _ v rfl rfl
  obtain ⟨hρ, h | ⟨b, cap, cur, rfl, hh, hnc, hcm, hcs, hbl, hH⟩⟩ := row_is hg hv
  · obtain ⟨rfl, rfl⟩ := h
    rw [← Compact_fn]
    refine (Any.slices_Compact_int_empty layC none 0 w).mono ?_
    rintro e w' ⟨rfl, rfl⟩
    have hd := hg.drop 0
    exact ⟨_, ρ, rfl, Same.refl _ _, hd.1, .ro _ _ (.nil 1), fun _ _ h => h, fun b h _ => hd.2 b h⟩
  · rw [← Compact_fn]
    refine (Any.slices_Compact_int layC b 0 cap l w hH hl hnc).mono ?_
    rintro e w' ⟨rfl, q, hw'⟩
    have hcl : (Go.Lib.compact l).length ≤ l.length := by
      unfold Go.Lib.compact Go.Lib.compactUpTo
      rw [List.length_map]
      exact Nat.le_trans (List.length_filter_le _ _) (by simp)
    obtain ⟨w2, hw2, hs, hg2, cur', hb', hcs', htk⟩ := put_turn (q := q) (r := Go.Lib.compact l ++ List.replicate (l.length - (Go.Lib.compact l).length) 0) hg hρ hh hnc hcm hcs (by simp; omega)
    obtain rfl : w' = w2 := hw'.trans hw2.symm
    have hd := hg2.drop 0
    refine ⟨_, ρ, rfl, hs, hd.1, .ro _ _ ?_, fun _ _ h => h, fun b h _ => ?_⟩
    · refine row_rd (n := (Go.Lib.compact l).length) (e := 3) (us := (Go.Lib.compact l).map (Value.int .i64)) ⟨by simp, .inr ⟨b, cap, cur', rfl, Nat.zero_le _, hb', by omega, hcm, by simpa using hcs', ?_⟩⟩ (by simp [intc]) (fun b' hb2 hban => ?_) fun j dt hj => ?_
      · have := congrArg (List.take (Go.Lib.compact l).length) htk
        rw [List.take_take, Nat.min_eq_left hcl] at this
        simpa using this
      · rcases hban with ⟨id, o, l', h1, h2, _⟩ | hz
        · cases id with
          | zero => obtain rfl := Option.some.inj h1; cases h2
          | succ id => simp at h1
        · obtain rfl : b = b' := Option.some.inj hb2
          exact hg.zf 0 b ⟨_, _, rfl, rfl, hρ, _, List.mem_singleton.2 rfl, rfl⟩ hz
      · simp only [intc, List.getElem?_map] at hj
        cases hx : (Go.Lib.compact l)[j]? with
        | none => rw [hx] at hj; cases hj
        | some x =>
          rw [hx] at hj
          obtain rfl := Option.some.inj hj
          exact ⟨.int .i64 x, by rw [List.getElem?_map, hx]; rfl, .val _⟩
    · obtain ⟨id, o, l', h1, h2, _⟩ := h
      cases id with
      | zero => obtain rfl := Option.some.inj h1; cases h2
      | succ id => simp at h1
end Go.Proofs.YtkapohfnoflhlaaDoor
