import Derived.Test.YtdbngpkbamhbeaaCj
set_option linter.unusedSimpArgs false
set_option linter.unusedVariables false
set_option linter.unusedSectionVars false
set_option maxRecDepth 20000
namespace Go.Proofs.Ytdbngpkbamhbeaa
open Go.RowKit Go.Shelf Go.Lib Go.Sort
/-- As lists are compared. -/
def cmpL : List Nat → List Nat → Int
  | [], [] => 0
  | [], _ :: _ => -1
  | _ :: _, [] => 1
  | x :: a, y :: b => if x = y then cmpL a b else Lib.compareInt (x : Int) (y : Int)
theorem cmpL_eq : ∀ (a b : List Nat), a.length = b.length → (∀ j, j < a.length → a.getD j 0 = b.getD j 0) → cmpL a b = 0
  | [], [], _, _ => rfl
  | [], _ :: _, h, _ => by cases h
  | _ :: _, [], h, _ => by cases h
  | x :: a, y :: b, h, ha => by
    have h0 := ha 0 (by simp)
    rw [cmpL, if_pos (by simpa using h0)]
    exact cmpL_eq a b (by simpa using h) fun j hj => by have := ha (j + 1) (by simpa using hj); simpa using this
theorem cmpL_ne : ∀ (a b : List Nat) (k : Nat), a.length = b.length → k < a.length → (∀ j, j < k → a.getD j 0 = b.getD j 0) → a.getD k 0 ≠ b.getD k 0 → cmpL a b = Lib.compareInt (a.getD k 0 : Nat) (b.getD k 0 : Nat)
  | [], _, _, _, h, _, _ => absurd h (Nat.not_lt_zero _)
  | _ :: _, [], _, h, _, _, _ => by cases h
  | x :: a, y :: b, 0, _, _, _, hne => by
    rw [cmpL, if_neg (by simpa using hne)]; rfl
  | x :: a, y :: b, k + 1, h, hk, ha, hne => by
    have h0 := ha 0 (by omega)
    rw [cmpL, if_pos (by simpa using h0)]
    exact cmpL_ne a b k (by simpa using h) (by simpa using hk) (fun j hj => by have := ha (j + 1) (by omega); simpa using this) (by simpa using hne)
theorem cmpL_lt : ∀ (a b : List Nat), cmpL a b < 0 ↔ a < b
  | [], [] => by simp [cmpL]
  | [], y :: b => by simp [cmpL]
  | x :: a, [] => by simp [cmpL]
  | x :: a, y :: b => by
    have ih := cmpL_lt a b
    rw [cmpL, List.cons_lt_cons_iff]
    split
    · rename_i h
      subst h
      rw [ih]
      simp
    · rename_i h
      unfold Lib.compareInt
      constructor
      · intro h1
        split at h1
        · exact .inl (by omega)
        · split at h1 <;> omega
      · rintro (h1 | ⟨h1, _⟩)
        · rw [if_pos (by omega)]; omega
        · exact absurd h1 h
theorem ltLq {α : Type} (f : α → List Nat) (x y : α) : ltOf (fun x y => cmpL (f x) (f y)) x y = decide (f x < f y) := by
  unfold ltOf
  exact decide_eq_decide.2 (cmpL_lt _ _)
theorem swoL {α : Type} (f : α → List Nat) : SWO (ltOf fun x y => cmpL (f x) (f y)) where
  irrefl x := by rw [ltLq]; simp [List.lt_irrefl]
  trans x y z h1 h2 := by
    rw [ltLq] at *
    simp only [decide_eq_true_eq] at *
    exact List.lt_trans h1 h2
  ntrans x y z h1 h2 := by
    rw [ltLq] at *
    simp only [decide_eq_false_iff_not, List.not_lt] at *
    exact List.le_trans h2 h1
/-- Sorted. -/
def srtL (L : List (List Nat)) : List (List Nat) := L.mergeSort fun a b => !decide (b < a)
theorem ban_row [Zs] {ρ : Ids} {t t' : TypeId} {sz sz' : Nat} {cs cs' : List Dat} {b : Nat} (h : Ban ρ [.row t' sz' cs'] b) : Ban ρ [.row t sz cs] b := by
  rcases h with ⟨id, o, l, h1, h2, h3, h4⟩ | h
  · cases id with
    | zero => exact .inl ⟨0, _, l, rfl, rfl, h3, h4⟩
    | succ id => simp at h1
  · exact .inr h
/-- A row, written over as the shelf says it. -/
theorem put_turnD [Zs] {ρ : Ids} {w : World} {t : TypeId} {n : Nat} {cs cs' : List Dat} {r : List Value} {q b cap : Nat} {cur : Array Value} {os : Array Obj} (hg : Good ρ w [.row t 1 cs]) (hρ : ρ[0]? = some [.slice (some ⟨b, 0, none⟩) n cap]) (hh : w.heap[b]? = some (.cells cur t (0, 0)))
    (hnc : n ≤ cap) (hcm : cap ≤ maxLen) (hcs : cur.size = cap) (hr : r.length = n) (hl : cs'.length = n) (hrd : ∀ (j : Nat) (dt : Dat), cs'[j]? = some dt → ∃ u : Value, r[j]? = some u ∧ Rd w (Ban ρ [.row t 1 cs]) u dt) (hbB : Ban ρ [.row t 1 cs] b) : ∃ w', w' = Go.Sort.grow (Go.Sort.putRow id (Go.Sort.ahead w q) b 0 r.toArray) os ∧
    Same (Own ρ [.row t 1 cs]) w w' ∧ Good ρ w' [.row t 1 cs'] := by
  refine ⟨_, rfl, ?_⟩
  generalize hw : Go.Sort.grow (Go.Sort.putRow id (Go.Sort.ahead w q) b 0 r.toArray) os = w'
  have hbl : b < w.heap.size := (Array.getElem?_eq_some_iff.1 hh).1
  have hheap : ∀ k, k < w.heap.size → w'.heap[k]? = if b = k then (w.heap[k]?).map (Go.Sort.onCells (Go.Sort.putCells id 0 r.toArray)) else w.heap[k]? := fun k hk => by
    rw [← hw, Go.Sort.heap_grow_old _ _ (by simpa [Go.Sort.putRow, Go.Sort.mapBlock, Go.Sort.ahead] using hk)]
    simp only [Go.Sort.putRow, Go.Sort.mapBlock, Go.Sort.ahead, Array.getElem?_modify]
  have hsz : w.heap.size ≤ w'.heap.size := by rw [← hw]; simp [Go.Sort.putRow, Go.Sort.mapBlock, Go.Sort.ahead]
  have hs : Same (fun x => x = b) w w' := ⟨by rw [← hw]; rfl, by rw [← hw]; rfl, by rw [← hw]; rfl, hsz, fun k hk hn => by rw [hheap k hk, if_neg fun h => hn h.symm]⟩
  have hsB : Same (Ban ρ [.row t 1 cs]) w w' := ⟨hs.os, hs.tape, hs.output, hs.size, fun k hk hn => hs.block k hk fun h => hn (by rw [h]; exact hbB)⟩
  obtain ⟨cur', hcur'⟩ : ∃ cur', cur' = Go.Sort.putCells id 0 r.toArray cur := ⟨_, rfl⟩
  have hb' : w'.heap[b]? = some (.cells cur' t (0, 0)) := by rw [hheap b hbl, if_pos rfl, hh, hcur']; rfl
  have hcs' : cur'.size = cap := by rw [hcur']; simp [Go.Sort.putCells, hcs]
  have htk : cur'.toList.take n = r := by
    apply List.ext_getElem
    · rw [List.length_take, Array.length_toList, hcs', hr]; omega
    · intro i h1 h2
      rw [List.length_take, Array.length_toList, hcs'] at h1
      simp only [List.getElem_take, Array.getElem_toList, hcur', Go.Sort.putCells, Array.getElem_mapIdx]
      rw [if_pos ⟨Nat.zero_le _, by simp; omega⟩]
      simp [h2]
  have key := hg.turn (o' := .row t 1 cs') (id := 0) rfl rfl hρ (b := b) rfl hs (sat_row hρ (us := r) ⟨by rw [hr, Nat.mul_one], .inr ⟨b, cap, cur', rfl, Nat.zero_le _, hb', hnc, hcm, by rw [hcs', Nat.mul_one], by rw [Nat.mul_one]; exact htk⟩⟩ (by rw [hr, hl]) fun j dt hj => by
    obtain ⟨u, hu, hru⟩ := hrd j dt hj
    exact ⟨u, hu, hru.mono hsB fun b _ h => ban_row h⟩)
  exact ⟨key.2.2, key.1⟩
theorem sortW_cell {α : Type} [Inhabited α] {enc : α → Value} {w : World} {b q ba j : Nat} {dk : Array α} {os : Array Obj} (hne : ba ≠ b) (hl : ba < w.heap.size) : (sortWorld enc w b 0 q dk os).cell? ⟨ba, j, none⟩ = w.cell? ⟨ba, j, none⟩ := by
  have : (sortWorld enc w b 0 q dk os).heap[ba]? = w.heap[ba]? := by
    unfold sortWorld
    rw [Go.Sort.heap_grow_old _ _ (by simpa [Go.Sort.putRow, Go.Sort.mapBlock, Go.Sort.ahead] using hl)]
    simp only [Go.Sort.putRow, Go.Sort.mapBlock, Go.Sort.ahead, Array.getElem?_modify]
    rw [if_neg (fun h => hne h.symm)]
  simp only [World.cell?, this]
set_option maxHeartbeats 2000000 in
theorem sortRowsL_ac (n : Nat) (hn0 : 0 < n) (hn : n ≤ 1000) (L : List (List Nat)) (hnd : L.Nodup) (hlen : ∀ c ∈ L, c.length = n) (hL : L.length ≤ 2000) :
    AC Try.prog 107 [.own 0, .val (.func (.func 108) #[] #[])] [.row 32 1 (rowc (tn L))] (.tup []) [.row 32 1 (rowc (tn (srtL L)))] := by
  refine ⟨⟨Try.f107, Try.func107, by kernel_rfl, rfl⟩, ?_⟩
  intro zs ρ w vs hg hsz hargs
  obtain ⟨v, u, rfl⟩ : ∃ v u, vs = #[v, u] := by
    have : vs.size = 2 := hsz
    exact ⟨vs[0], vs[1], by
      apply Array.ext
      · simp [this]
      · intro i h1 h2
        match i, h2 with
        | 0, _ => rfl
        | 1, _ => rfl⟩
  have hv := hargs 0 _ v rfl rfl
  have hu := hargs 1 _ u rfl rfl
  obtain rfl : u = .func (.func 108) #[] #[] := by cases hu; rfl
  obtain ⟨v', m, us, h1, h2, h3, h4⟩ := hg.sat 0 _ rfl
  obtain ⟨lv, hl⟩ := hv.own_inv
  rw [h1] at hl
  obtain ⟨rfl, rfl⟩ := List.cons.inj (Option.some.inj hl)
  have hcl : (rowc (tn L)).length = L.length := by rw [rowc_len, tn_len, Nat.mul_one]
  rw [hcl] at h3
  have hul := h2.1
  rw [Nat.mul_one] at hul
  have hfin : ∀ (e : Ending) (w' : World), e = .returned (.tuple #[]) → Same (Own ρ [AO.row 32 1 (rowc (tn L))]) w w' → Good ρ w' [AO.row 32 1 (rowc (tn (srtL L)))] → ∃ (v : Value) (ρ' : Ids), e = .returned v ∧ Same (Own ρ [AO.row 32 1 (rowc (tn L))]) w w' ∧ Good ρ' w' [AO.row 32 1 (rowc (tn (srtL L)))] ∧ Gm ρ' w' (Ban ρ' [AO.row 32 1 (rowc (tn (srtL L)))]) (.tup []) v ∧ (∀ (id : Nat) l, ρ[id]? = some l → ρ'[id]? = some l) ∧ ∀ b, Own ρ' [AO.row 32 1 (rowc (tn (srtL L)))] b → b < w.heap.size → Own ρ [AO.row 32 1 (rowc (tn L))] b := by
    rintro e w' rfl hs hg'
    refine ⟨_, ρ, rfl, hs, hg', .tup _ _ rfl (fun i a v h => by cases h), fun _ _ h => h, fun b h _ => ?_⟩
    obtain ⟨id, o, l', h1, h2, h3⟩ := h
    cases id with
    | zero => obtain rfl := Option.some.inj h1; exact ⟨0, _, l', rfl, h2, h3⟩
    | succ id => simp at h1
  by_cases hz : L.length = 0
  · obtain rfl : L = [] := List.eq_nil_of_length_eq_zero hz
    have hm : m = 0 := by have h30 : us.length = 0 := h3; omega
    obtain ⟨p, cap, rfl⟩ : ∃ p cap, v' = .slice p 0 cap := by
      rcases h2.2 with ⟨hv1, _⟩ | ⟨b, cap, cur, hv1, _⟩
      · exact ⟨_, _, hv1⟩
      · exact ⟨_, _, by rw [hv1, hm]⟩
    have hc := AnyF.slices_SortFunc_none { layRq with } p cap (.func (.func 108) #[] #[]) w
    change Calls Try.prog 107 _ _ _ at hc
    refine hc.mono ?_
    rintro e w' ⟨rfl, rfl⟩
    have e : srtL [] = [] := by simp [srtL]
    exact hfin _ _ rfl (Same.refl _ _) (by rw [e]; exact hg)
  obtain ⟨k, hk⟩ : ∃ k, L.length = k + 1 := ⟨L.length - 1, by omega⟩
  have hmk : m = k + 1 := by omega
  rcases h2.2 with ⟨_, hv0⟩ | ⟨b, cap, cur, rfl, _, hh, hnc, hcm, hcs, htk⟩
  · omega
  rw [Nat.mul_one] at hcs htk
  have hbl : b < w.heap.size := (Array.getElem?_eq_some_iff.1 hh).1
  have hbB : Ban ρ [.row 32 1 (rowc (tn L))] b := .inl ⟨0, _, _, rfl, rfl, h1, _, List.mem_singleton.2 rfl, rfl⟩
  -- what the cells are
  have hrd : ∀ i, i < k + 1 → ∃ u : Value, us[i]? = some u ∧ Rd w (Ban ρ [.row 32 1 (rowc (tn L))]) u (.sl 1 (intc (nl (L.getD i [])))) := fun i hi => by
    refine h4 i _ ?_
    unfold rowc tn
    rw [List.getElem?_map, List.getElem?_map, List.getElem?_eq_getElem (by omega), List.getD_eq_getElem?_getD, List.getElem?_eq_getElem (by omega)]; rfl
  have hcell : ∀ i, i < k + 1 → ∃ ba oa ca, us.getD i default = .slice (some ⟨ba, oa, none⟩) n ca ∧ ba ≠ b ∧ ba < w.heap.size ∧ ∀ j, j < n → w.cell? ⟨ba, oa + j, none⟩ = some (.int .i64 ((L.getD i []).getD j 0 : Nat)) := fun i hi => by
    obtain ⟨u, hu, hr⟩ := hrd i hi
    have hln : (L.getD i []).length = n := hlen _ (by rw [List.getD_eq_getElem?_getD, List.getElem?_eq_getElem (by omega)]; exact List.getElem_mem _)
    rw [List.getD_eq_getElem?_getD, hu, Option.getD_some]
    have q0 : (intc (nl (L.getD i []))).length = n := by rw [intc_len, nl_len, hln]; omega
    have q1 : ∀ j, j < n → (intc (nl (L.getD i [])))[j]? = some (.val (.int .i64 ((L.getD i []).getD j 0 : Nat))) := fun j hj => by
      unfold intc nl
      rw [List.getElem?_map, List.getElem?_map, List.getElem?_eq_getElem (by omega), List.getD_eq_getElem?_getD (l := L.getD i []), List.getElem?_eq_getElem (by omega)]; rfl
    generalize intc (nl (L.getD i [])) = cs at hr q0 q1
    cases hr with
    | nil _ => simp at q0; omega
    | sl a n' cap' _ _ us' hn' hsp hM hc hd =>
      have hnn : n' = n := by omega
      subst hnn
      obtain ⟨ba, oa, sp⟩ := a
      have hc0 := hc 0 _ (q1 0 hn0)
      have hsp0 : sp = none := by
        cases sp with
        | none => rfl
        | some s =>
          exfalso
          unfold Addr.add at hc0
          rw [if_pos rfl] at hc0
          simp only [World.cell?] at hc0
          split at hc0
          · simp at hc0
          · cases hc0
      subst hsp0
      have hadd : ∀ j, (⟨ba, oa, none⟩ : Addr).add j = ⟨ba, oa + j, none⟩ := fun j => by
        unfold Addr.add
        split
        · rename_i h0; subst h0; rfl
        · rfl
      refine ⟨ba, oa, cap', rfl, fun e => hM 0 (by omega) (e ▸ hbB), ?_, fun j hj => ?_⟩
      · rw [hadd] at hc0
        simp only [World.cell?] at hc0
        rcases Nat.lt_or_ge ba w.heap.size with h | h
        · exact h
        · rw [Array.getElem?_eq_none h] at hc0; cases hc0
      · have h5 := hc j _ (q1 j hj)
        have h6 := hd j _ (q1 j hj)
        rw [hadd] at h5
        have hu : ∀ (u v : Value), Rd w (Ban ρ [.row 32 1 (rowc (tn L))]) u (.val v) → u = v := fun u v h => by cases h; rfl
        rw [h5, hu _ _ h6]
  let α := Fin (k + 1)
  have inh : Inhabited α := ⟨⟨0, Nat.succ_pos k⟩⟩
  let enc : α → Value := fun x => us.getD x.1 default
  let fL : α → List Nat := fun x => L.getD x.1 []
  let d : Array α := (List.finRange (k + 1)).toArray
  have hds : d.size = k + 1 := List.size_toArray.trans List.length_finRange
  have eg : ∀ args w, (callFunc 108 args).run Try.prog w = .ok (.enter 108 args) w := enters_of Try.func108 (by kernel_rfl) rfl
  have h1c : OneCell enc := fun x => by
    obtain ⟨ba, oa, ca, e, _⟩ := hcell x.1 x.2
    show (us.getD x.1 default).oneCell' = true
    rw [e]; rfl
  have hcmp : CmpLays1 Try.prog 108 #[] enc (fun x y => cmpL (fL x) (fL y)) b 0 d.size w := fun q os dk _ x y => by
    obtain ⟨ba, oa, ca, e1, n1, l1, c1⟩ := hcell x.1 x.2
    obtain ⟨bb, ob, cb, e2, n2, l2, c2⟩ := hcell y.1 y.2
    have lx : (fL x).length = n := hlen _ (by show L.getD x.1 [] ∈ L; rw [List.getD_eq_getElem?_getD, List.getElem?_eq_getElem (by have := x.2; omega)]; exact List.getElem_mem _)
    have ly : (fL y).length = n := hlen _ (by show L.getD y.1 [] ∈ L; rw [List.getD_eq_getElem?_getD, List.getElem?_eq_getElem (by have := y.2; omega)]; exact List.getElem_mem _)
    have := cmpS_calls n (fL x) (fL y) hn (cmpL (fL x) (fL y)) (fun k hk ha hne => cmpL_ne _ _ k (by omega) (by omega) ha hne) (fun ha => cmpL_eq _ _ (by omega) fun j hj => ha j (by omega)) ba oa ca bb ob cb (sortWorld enc w b 0 q dk os)
      (fun j hj => by rw [sortW_cell n1 l1]; exact c1 j hj) (fun j hj => by rw [sortW_cell n2 l2]; exact c2 j hj)
    rw [show (#[enc x, enc y] ++ #[] : Array Value) = #[.slice (some ⟨ba, oa, none⟩) n ca, .slice (some ⟨bb, ob, none⟩) n cb] by show (#[us.getD x.1 default, us.getD y.1 default] ++ #[] : Array Value) = _; rw [e1, e2]; rfl]
    refine this.mono ?_
    rintro e w' ⟨rfl, rfl⟩
    exact ⟨rfl, 0, #[], by rw [grow_empty]; rfl⟩
  have hH : Go.Sort.Holds enc w b 0 d := fun j hj => by
    rw [hds] at hj
    have hu : us[j]? = some (us.getD j default) := by rw [List.getD_eq_getElem?_getD, List.getElem?_eq_getElem (by omega)]; rfl
    have ed : enc d[j]! = us.getD j default := by
      have : d[j]! = ⟨j, hj⟩ := by
        rw [getElem!_pos d j (by rw [hds]; exact hj)]
        exact (List.getElem_finRange (n := k + 1) (by rw [List.length_finRange]; exact hj)).trans rfl
      rw [this]
    have hc : cur[j]? = some (us.getD j default) := by
      rw [← htk, List.getElem?_take] at hu
      split at hu
      · rw [← Array.getElem?_toList, hu, htk]
      · cases hu
    rw [ed]
    constructor
    · simp [World.cell?, hh, hc]
    · simp [World.frozen?, hh]
  have hT : ∀ x y : α, ltOf (fun x y => cmpL (fL x) (fL y)) x y = false → ltOf (fun x y => cmpL (fL x) (fL y)) y x = false → x = y := fun x y a1 a2 => by
    rw [ltLq] at a1 a2
    simp only [decide_eq_false_iff_not, List.not_lt] at a1 a2
    have e := List.le_antisymm a2 a1
    exact Fin.ext ((List.getD_inj (by have := x.2; omega) (by have := y.2; omega) hnd).1 e)
  have hc := Any.slices_SortFunc_total layRq enc h1c (fun x y => cmpL (fL x) (fL y)) (swoL fL) 108 #[] b 0 cap d w eg hcmp hH hbl (by omega) hT
  change Calls Try.prog 107 _ _ _ at hc
  rw [hds, ← hmk] at hc
  refine hc.mono ?_
  rintro e w' ⟨rfl, q, os, hw'⟩
  generalize hD : d.toList.mergeSort (fun x y => !(ltOf (fun x y => cmpL (fL x) (fL y))) y x) = D at hw'
  have hperm : D.Perm d.toList := by rw [← hD]; exact List.mergeSort_perm _ _
  have hDl : D.length = k + 1 := by rw [hperm.length_eq]; rw [Array.length_toList, hds]
  have hmapd : d.toList.map fL = L := by
    apply List.ext_getElem
    · rw [List.length_map, Array.length_toList, hds, hk]
    · intro i a1 a2
      rw [List.getElem_map]
      have : d.toList[i]'(by rw [List.length_map] at a1; exact a1) = ⟨i, by omega⟩ := (List.getElem_finRange (n := k + 1) (by rw [List.length_finRange]; omega)).trans rfl
      rw [this]
      show L.getD i [] = _
      rw [List.getD_eq_getElem?_getD, List.getElem?_eq_getElem a2]; rfl
  have hsrt : D.map fL = srtL L := by
    unfold srtL
    rw [← hmapd, ← hD]
    refine List.map_mergeSort fun a _ b _ => ?_
    rw [ltLq]
  have hrow : sortWorld enc w b 0 q D.toArray os = Go.Sort.grow (Go.Sort.putRow id (Go.Sort.ahead w q) b 0 (D.map enc).toArray) os := by
    unfold sortWorld Go.Sort.putRow
    congr 2
    funext c
    unfold Go.Sort.putCells
    congr 1
    funext i x
    have hsz2 : D.toArray.size = (D.map enc).toArray.size := by simp
    rw [hsz2]
    split
    · rename_i hi
      have hi2 : i - 0 < D.length := by have := hi.2; simp at this; omega
      rw [getElem!_pos D.toArray (i - 0) (by simpa using hi2), getElem!_pos (D.map enc).toArray (i - 0) (by simpa using hi2)]
      simp
    · rfl
  rw [hrow] at hw'
  obtain ⟨w2, hw2, hs, hg2⟩ := put_turnD (q := q) (os := os) (r := D.map enc) (cs' := rowc (tn (srtL L))) hg h1 hh hnc hcm hcs (by rw [List.length_map, hDl, hmk]) (by rw [rowc_len, tn_len, Nat.mul_one, ← hsrt, List.length_map, hDl, hmk]) (fun j dt hj => by
    rw [← hsrt] at hj
    unfold rowc tn at hj
    simp only [List.getElem?_map] at hj ⊢
    cases hq : D[j]? with
    | none => rw [hq] at hj; cases hj
    | some x =>
      rw [hq] at hj
      obtain rfl := Option.some.inj hj
      obtain ⟨u, hu, hr⟩ := hrd x.1 x.2
      refine ⟨_, rfl, ?_⟩
      show Rd w _ (us.getD x.1 default) _
      rw [List.getD_eq_getElem?_getD, hu]
      exact hr) hbB
  obtain rfl : w' = w2 := hw'.trans hw2.symm
  exact hfin _ _ rfl hs hg2
end Go.Proofs.Ytdbngpkbamhbeaa
