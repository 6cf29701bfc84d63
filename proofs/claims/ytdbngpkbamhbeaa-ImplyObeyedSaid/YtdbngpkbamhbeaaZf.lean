import Derived.Test.YtdbngpkbamhbeaaZd
import Derived.Test.YtdbngpkbamhbeaaEngZm
import Derived.Test.YtdbngpkbamhbeaaTypes
import Derived.Shelf.SlSortCmp.NoneTotal
import Derived.Shelf.SlicesG.Cmp
import Derived.Shelf.Lay
import Derived.Ground.SlsfProg
import Derived.Ground.SlgcProg
import Derived.Sort.Grow
set_option linter.unusedSimpArgs false
set_option linter.unusedVariables false
set_option linter.unusedSectionVars false
set_option maxRecDepth 20000
namespace Go.Proofs
open Go.Shelf Go.Lib Go.Sort Go.RowKit
shelf_lay_g SlLaysF0.n6 Slsf 6 at Try 97 as Ytdbngpkbamhbeaa.layR
shelf_lay_g SlLaysC2.n5 Slgc 5 at Try 95 as Ytdbngpkbamhbeaa.layC
end Go.Proofs
namespace Go.Proofs.Ytdbngpkbamhbeaa
open Go.RowKit
/-- A row, written over as the shelf says it. -/
theorem put_turnV [Zs] {ρ : Ids} {w : World} {t : TypeId} {sz n : Nat} {vs r : List Value} {q b cap : Nat} {cur : Array Value} {os : Array Obj} (hg : Good ρ w [.row t sz (vs.map Dat.val)]) (hn : vs.length = n * sz) (hρ : ρ[0]? = some [.slice (some ⟨b, 0, none⟩) n cap]) (hh : w.heap[b]? = some (.cells cur t (0, 0)))
    (hnc : n ≤ cap) (hcm : cap ≤ maxLen) (hcs : cur.size = cap * sz) (hr : r.length = vs.length) : ∃ w', w' = Go.Sort.grow (Go.Sort.putRow id (Go.Sort.ahead w q) b 0 r.toArray) os ∧
    Same (Own ρ [.row t sz (vs.map Dat.val)]) w w' ∧ Good ρ w' [.row t sz (r.map Dat.val)] := by
  refine ⟨_, rfl, ?_⟩
  generalize hw : Go.Sort.grow (Go.Sort.putRow id (Go.Sort.ahead w q) b 0 r.toArray) os = w'
  have hbl : b < w.heap.size := (Array.getElem?_eq_some_iff.1 hh).1
  have hheap : ∀ k, k < w.heap.size → w'.heap[k]? = if b = k then (w.heap[k]?).map (Go.Sort.onCells (Go.Sort.putCells id 0 r.toArray)) else w.heap[k]? := fun k hk => by
    rw [← hw, Go.Sort.heap_grow_old _ _ (by simpa [Go.Sort.putRow, Go.Sort.mapBlock, Go.Sort.ahead] using hk)]
    simp only [Go.Sort.putRow, Go.Sort.mapBlock, Go.Sort.ahead, Array.getElem?_modify]
  have hsz : w.heap.size ≤ w'.heap.size := by rw [← hw]; simp [Go.Sort.putRow, Go.Sort.mapBlock, Go.Sort.ahead]
  have hs : Same (fun x => x = b) w w' := ⟨by rw [← hw]; rfl, by rw [← hw]; rfl, by rw [← hw]; rfl, hsz, fun k hk hn => by rw [hheap k hk, if_neg fun h => hn h.symm]⟩
  obtain ⟨cur', hcur'⟩ : ∃ cur', cur' = Go.Sort.putCells id 0 r.toArray cur := ⟨_, rfl⟩
  have hb' : w'.heap[b]? = some (.cells cur' t (0, 0)) := by rw [hheap b hbl, if_pos rfl, hh, hcur']; rfl
  have hcs' : cur'.size = cap * sz := by rw [hcur']; simp [Go.Sort.putCells, hcs]
  have hmul : n * sz ≤ cap * sz := Nat.mul_le_mul_right sz hnc
  have htk : cur'.toList.take (n * sz) = r := by
    apply List.ext_getElem
    · rw [List.length_take, Array.length_toList, hcs', hr, hn]; omega
    · intro i h1 h2
      rw [List.length_take, Array.length_toList, hcs'] at h1
      simp only [List.getElem_take, Array.getElem_toList, hcur', Go.Sort.putCells, Array.getElem_mapIdx]
      rw [if_pos ⟨Nat.zero_le _, by simp; omega⟩]
      simp [h2]
  have key := hg.turn (o' := .row t sz (r.map Dat.val)) (id := 0) rfl rfl hρ (b := b) rfl hs (sat_row hρ (us := r) ⟨by rw [hr, hn], .inr ⟨b, cap, cur', rfl, Nat.zero_le _, hb', hnc, hcm, hcs', htk⟩⟩ (by simp) fun j dt hj => by
    rw [List.getElem?_map] at hj
    cases hx : r[j]? with
    | none => rw [hx] at hj; cases hj
    | some x =>
      rw [hx] at hj
      obtain rfl := Option.some.inj hj
      exact ⟨x, rfl, .val _⟩)
  exact ⟨key.2.2, key.1⟩
/-- What a row is. -/
theorem row_isV [Zs] {ρ : Ids} {w : World} {t : TypeId} {sz n : Nat} (h0 : 0 < sz) {vs : List Value} (hg : Good ρ w [.row t sz (vs.map Dat.val)]) (hn : vs.length = n * sz) {v : Value} (hv : Gm ρ w (Ban ρ [.row t sz (vs.map Dat.val)]) (.own 0) v) : ρ[0]? = some [v] ∧ ((n = 0 ∧ v = .slice none 0 0) ∨
    ∃ b cap cur, v = .slice (some ⟨b, 0, none⟩) n cap ∧ w.heap[b]? = some (.cells cur t (0, 0)) ∧ n ≤ cap ∧ cap ≤ maxLen ∧ cur.size = cap * sz ∧ b < w.heap.size ∧ Go.Sort.Holds id w b 0 vs.toArray) := by
  obtain ⟨v', m, us, h1, h2, h3, h4⟩ := hg.sat 0 _ rfl
  obtain ⟨lv, hl⟩ := hv.own_inv
  rw [h1] at hl
  obtain ⟨rfl, rfl⟩ := List.cons.inj (Option.some.inj hl)
  rw [List.length_map] at h3
  have hul := h2.1
  have hmn : m = n := by
    have : m * sz = n * sz := by omega
    exact Nat.eq_of_mul_eq_mul_right h0 this
  refine ⟨h1, ?_⟩
  rcases h2.2 with ⟨rfl, hn0⟩ | ⟨b, cap, cur, rfl, _, hh, hnc, hcm, hcs, htk⟩
  · exact .inl ⟨by omega, rfl⟩
  · subst hmn
    refine .inr ⟨b, cap, cur, rfl, hh, hnc, hcm, hcs, (Array.getElem?_eq_some_iff.1 hh).1, fun j hj => ?_⟩
    have hj' : j < vs.length := by simpa using hj
    have hd : (vs.map Dat.val)[j]? = some (.val vs[j]) := by simp [hj']
    obtain ⟨u, hu, hr⟩ := h4 j _ hd
    have hux : u = vs[j] := by cases hr; rfl
    subst hux
    have hc : cur[j]? = some vs[j] := by
      rw [← htk, List.getElem?_take] at hu
      split at hu
      · rw [← Array.getElem?_toList]; exact hu
      · cases hu
    constructor
    · simp [World.cell?, hh, hc, hj']
    · simp [World.frozen?, hh]
open Go.Shelf Go.Lib Go.Sort
/-- A rule's two cells, by its set. -/
def encR (cl : Nat → Nat) (x : Nat) : List Value := [.int .i64 (x : Nat), .int .i64 (cl x : Nat)]
def vsR (cl : Nat → Nat) : List Nat → List Value
  | [] => []
  | x :: r => .int .i64 (x : Nat) :: .int .i64 (cl x : Nat) :: vsR cl r
theorem vsR_len (cl : Nat → Nat) : ∀ T, (vsR cl T).length = T.length * 2
  | [] => rfl
  | x :: r => by simp only [vsR, List.length_cons, vsR_len cl r]; omega
theorem vsR_pairc (cl : Nat → Nat) : ∀ T, pairc (pn (rlP cl T)) = (vsR cl T).map Dat.val
  | [] => rfl
  | x :: r => by
    have := vsR_pairc cl r
    simp only [vsR, List.map_cons, ← this]
    rfl
theorem vsR_get (cl : Nat → Nat) : ∀ (T : List Nat) (i : Nat), i < T.length * 2 → (vsR cl T).getD i default = (encR cl (T.getD (i / 2) default)).getD (i % 2) default
  | [], i, h => absurd h (by simp)
  | x :: r, 0, _ => rfl
  | x :: r, 1, _ => rfl
  | x :: r, i + 2, h => by
    have ih := vsR_get cl r i (by simp only [List.length_cons] at h; omega)
    rw [show (i + 2) / 2 = i / 2 + 1 by omega, show (i + 2) % 2 = i % 2 by omega]
    exact ih
theorem vsR_flat (cl : Nat → Nat) (T : List Nat) : flatK (encR cl) 2 T.toArray = (vsR cl T).toArray := by
  apply Array.ext
  · simp [vsR_len]
  · intro i h1 h2
    have h3 : i < T.toArray.size * 2 := by simpa using h1
    have h4 := get_flatK (encR cl) 2 T.toArray i h3
    rw [getElem!_pos _ i h1] at h4
    rw [h4]
    have h5 := vsR_get cl T i (by simpa using h3)
    have h6 : i < (vsR cl T).length := by rw [vsR_len]; simpa using h3
    rw [List.getD_eq_getElem?_getD, List.getElem?_eq_getElem h6] at h5
    have h7 : i / 2 < T.length := by simp at h3; omega
    simp only [List.getElem_toArray]
    rw [Option.getD_some] at h5
    rw [h5]
    simp [h7, List.getD_eq_getElem?_getD, getElem!_def]
    cases (encR cl T[i / 2])[i % 2]? <;> rfl
def cfR (x y : Nat) : Int := Lib.compareInt (x : Int) (y : Int)
theorem ltR (x y : Nat) : ltOf cfR x y = decide (x < y) := by
  unfold ltOf cfR Lib.compareInt
  by_cases h1 : x < y
  · simp [h1]
  · by_cases h2 : y < x <;> simp [h1, h2]
theorem swoR : SWO (ltOf cfR) where
  irrefl x := by rw [ltR]; simp
  trans x y z h1 h2 := by rw [ltR] at *; simp at *; omega
  ntrans x y z h1 h2 := by rw [ltR] at *; simp at *; omega
theorem totR (x y : Nat) (h1 : ltOf cfR x y = false) (h2 : ltOf cfR y x = false) : x = y := by
  rw [ltR] at h1 h2
  simp at h1 h2
  omega
theorem srR (T : List Nat) : (T.mergeSort fun x y => !(ltOf cfR) y x) = srN T := by
  unfold srN
  congr 1
  funext x y
  rw [ltR]
  by_cases h : y < x
  · rw [decide_eq_true h, decide_eq_false (by omega)]; rfl
  · rw [decide_eq_false h, decide_eq_true (by omega)]; rfl
set_option maxHeartbeats 1000000 in
theorem closR (cl : Nat → Nat) (x y : Nat) (W : World) : Calls Try.prog 98 #[.agg #[.int .i64 (x : Nat), .int .i64 (cl x : Nat)], .agg #[.int .i64 (y : Nat), .int .i64 (cl y : Nat)]] W fun e w' => e = .returned (.int .i64 (cfR x y)) ∧ ∃ q os', w' = grow (W.drewN q) os' := by
  have hcon := fun W' => AnyG.cmp_Compare_int layC (x : Int) (y : Int) W'
  change ∀ W', Calls Try.prog 95 _ _ _ at hcon
  unfold cfR
  generalize Lib.compareInt (x : Int) (y : Int) = r at hcon ⊢
  generalize (cl x : Int) = cx at *
  generalize (cl y : Int) = cy at *
  go_enter Try.func98, Try.ntmps98
  go_wp2_with (go_at_call 95; refine (hcon _).mono ?_; rintro e w' ⟨rfl, rfl⟩)
  go_ret
  exact ⟨rfl, 0, _, by rw [alloc_eq_grow, alloc_eq_grow, grow_grow]; rfl⟩
theorem sortRules_ok (cl : Nat → Nat) (N : Nat) : SrtOk cl N := fun T hl _ => by
  rw [vsR_pairc, vsR_pairc]
  refine ⟨⟨Try.f97, Try.func97, by kernel_rfl, rfl⟩, ?_⟩
  intro zs ρ w vs hg hsz hargs
  obtain ⟨v, u, rfl⟩ : ∃ v u, vs = #[v, u] := by
    have : vs.size = 2 := hsz
    exact ⟨vs[0], vs[1], by
      apply Array.ext
      · simp [this]
      · intro i h1 h2
        match i, h2 with
        | 0, _ => rfl
        | 1, _ => rfl⟩
  have hv := hargs 0 _ v rfl rfl
  have hu := hargs 1 _ u rfl rfl
  obtain rfl : u = .func (.func 98) #[] #[] := by cases hu; rfl
  have hn : (vsR cl T).length = T.length * 2 := vsR_len cl T
  have hsr : (srN T).length = T.length := (List.mergeSort_perm _ _).length_eq
  obtain ⟨hρ, h | ⟨b, cap, cur, rfl, hh, hnc, hcm, hcs, hbl, hH⟩⟩ := row_isV (by decide) hg hn hv
  · obtain ⟨h1, rfl⟩ := h
    obtain rfl := List.eq_nil_of_length_eq_zero h1
    have hc := AnyF.slices_SortFunc_none layR none 0 (.func (.func 98) #[] #[]) w
    change Calls Try.prog 97 _ _ _ at hc
    refine hc.mono ?_
    rintro e w' ⟨rfl, rfl⟩
    rw [show srN [] = [] by simp [srN]]
    exact ⟨_, ρ, rfl, Same.refl _ _, hg, .tup _ _ rfl (fun i a v h => by cases h), fun _ _ h => h, fun b h _ => h⟩
  · have eg : ∀ args w, (callFunc 98 args).run Try.prog w = .ok (.enter 98 args) w := enters_of Try.func98 (by kernel_rfl) rfl
    have hc := AnyQ.slices_SortFunc_total layR 2 Try.isAgg30 Try.sizeOf30 (encR cl) (fun _ => rfl) (fun x v hv => by simp [encR] at hv; rcases hv with rfl | rfl <;> rfl) cfR swoR 98 #[] b 0 cap T.toArray w eg (fun _ _ _ _ x y => closR cl x y _) (by unfold HoldsK; rw [vsR_flat]; exact hH) hbl (by simp; omega) totR
    change Calls Try.prog 97 _ _ _ at hc
    refine hc.mono ?_
    rintro e w' ⟨rfl, q, os, hw'⟩
    rw [srR] at hw'
    unfold sortWorldK putRowK at hw'
    rw [vsR_flat] at hw'
    obtain ⟨w2, hw2, hs, hg2⟩ := put_turnV (q := q) (os := os) (r := vsR cl (srN T)) hg hn hρ hh hnc hcm hcs (by rw [vsR_len, vsR_len, hsr])
    obtain rfl : w' = w2 := hw'.trans hw2.symm
    refine ⟨_, ρ, rfl, hs, hg2, .tup _ _ rfl (fun i a v h => by cases h), fun _ _ h => h, fun b h _ => ?_⟩
    obtain ⟨id, o, l', h1, h2, h3⟩ := h
    cases id with
    | zero => obtain rfl := Option.some.inj h1; exact ⟨0, _, l', rfl, h2, h3⟩
    | succ id => simp at h1
end Go.Proofs.Ytdbngpkbamhbeaa
