/- What a law is handed, read once for all; from the walk of a law to what is said of it. -/
import Derived.Test.YthchhaaplimafaaEngP
import Derived.ProofKit
import Derived.Deep.Slices
import Derived.OpenShut
set_option linter.unusedSimpArgs false
set_option linter.unusedVariables false
namespace Go.Proofs.Ythchhaaplimafaa
open Go.ChangeShapes Go.WideShapes Go.RowKit Go.Deep

def I64 (n : Int) : Prop := -9223372036854775808 ≤ n ∧ n ≤ 9223372036854775807
def noM : Nat → Prop := fun _ => False
abbrev big : Nat := 9223372036854775807

theorem noM_own {ρ : Ids} {b : Nat} (h : Own ρ [] b) : noM b := by
  obtain ⟨id, o, l, ho, _⟩ := h
  simp at ho
/-- A law is handed all that it reads: nothing is barred. -/
instance zs0 : Zs := ⟨fun _ => False⟩
theorem rd_own {w : World} {ρ : Ids} {v : Value} {d : Dat} (h : Rd w noM v d) : Rd w (Ban ρ []) v d := h.mono (Same.refl noM w) (fun _ _ h => h.elim noM_own id)

theorem flat_get {f : Nat → List Dat} {sz : Nat} : ∀ (len : Nat), (∀ i, i < len → (f i).length = sz) → ((List.range len).map f).flatten.length = len * sz ∧
    ∀ (k : Nat) d, (((List.range len).map f).flatten)[k]? = some d → ∃ i j, i < len ∧ j < sz ∧ k = i * sz + j ∧ (f i)[j]? = some d
  | 0, _ => by simp
  | len + 1, h => by
    obtain ⟨h1, h2⟩ := flat_get len (fun i hi => h i (by omega))
    rw [List.range_succ, List.map_append, List.flatten_append]
    simp only [List.map_cons, List.map_nil, List.flatten_cons, List.flatten_nil, List.append_nil]
    refine ⟨by rw [List.length_append, h1, h len (by omega), Nat.succ_mul], fun k d hk => ?_⟩
    rw [List.getElem?_append, h1] at hk
    split at hk
    · obtain ⟨i, j, hi, hj, hkk, hd⟩ := h2 k d hk
      exact ⟨i, j, by omega, hj, hkk, hd⟩
    · rename_i hge
      have hlt := (List.getElem?_eq_some_iff.1 hk).1
      rw [h len (by omega)] at hlt
      exact ⟨len, k - len * sz, by omega, hlt, by omega, hk⟩

theorem gather {α : Type} {F : α → List Dat} {G : α → Prop} : ∀ {dss : List (List Dat)}, (∀ ds ∈ dss, ∃ x, ds = F x ∧ G x) → ∃ l : List α, dss = l.map F ∧ (∀ x ∈ l, G x) ∧ l.length = dss.length
  | [], _ => ⟨[], rfl, by simp, rfl⟩
  | ds :: r, h => by
    obtain ⟨x, hx, hg⟩ := h ds (by simp)
    obtain ⟨l, hl, hlg, hn⟩ := gather (dss := r) (fun d hd => h d (List.mem_cons_of_mem _ hd))
    exact ⟨x :: l, by rw [hx, hl]; rfl, fun y hy => by
      rcases List.mem_cons.1 hy with rfl | hy
      · exact hg
      · exact hlg y hy, by simp [hn]⟩

section
variable {H : Type} {enc : TypeId × Value → H} {P : Program} {w : World} {base : Nat} {spare : Nat → Bool} {held : Bool} {fuel : Nat} {cs : List Value} {x : DataW H × List MemPlace} {t e : TypeId}

theorem rd_int (ht : P.underlying t = some (.int .i64)) (h : DataW.trod enc P w base spare held fuel t cs = some x) : ∃ n, cs = [.int .i64 n] ∧ I64 n := by
  obtain ⟨n, h1, _, h3⟩ := DataW.trod_int ht h
  refine ⟨n, h1, ?_⟩
  simp only [Lit.wf, Bool.and_eq_true, decide_eq_true_eq] at h3
  exact h3

theorem rd_slice {sz : Nat} (ht : P.underlying t = some (.slice e)) (hc : P.cellsOf e = sz) (R : List Dat → Prop)
    (hR : ∀ n cs' x, DataW.trod enc P w base spare held n e cs' = some x → ∃ ds : List Dat, ds.length = cs'.length ∧ (∀ (j : Nat) v d, cs'[j]? = some v → ds[j]? = some d → Rd w noM v d) ∧ R ds)
    (h : DataW.trod enc P w base spare held fuel t cs = some x) : ∃ (v : Value) (dss : List (List Dat)), cs = [v] ∧ Rd w noM v (.sl sz dss.flatten) ∧ (∀ ds ∈ dss, R ds) ∧ dss.length ≤ big := by
  rcases open_slice ht h with ⟨rfl, _⟩ | ⟨a, len, cap, m, n, D, Pl, rfl, hb, hl, hcap, hm, hx, hel⟩
  · exact ⟨_, [], rfl, .nil sz, by simp, Nat.zero_le _⟩
  · have hlm : len ≤ m := by rw [hm]; split <;> omega
    have hch : ∀ i, ∃ p : List Value × List Dat, i < len → (w.cells? base (a.add (i * sz)) sz = some p.1 ∧ p.2.length = p.1.length ∧ (∀ (j : Nat) v d, p.1[j]? = some v → p.2[j]? = some d → Rd w noM v d) ∧ R p.2) := by
      intro i
      by_cases hi : i < len
      · obtain ⟨cs', h1, h2⟩ := hel i (by omega)
        obtain ⟨ds, h3, h4, h5⟩ := hR _ _ _ h2
        rw [hc] at h1
        exact ⟨(cs', ds), fun _ => ⟨h1, h3, h4, h5⟩⟩
      · exact ⟨([], []), fun h => absurd h hi⟩
    obtain ⟨p, hp⟩ := Classical.axiomOfChoice hch
    have hlen : ∀ i, i < len → (p i).2.length = sz := fun i hi => by
      obtain ⟨h1, h2, _⟩ := hp i hi
      rw [h2]; exact (World.cells?_some h1).2.1
    obtain ⟨g1, g2⟩ := flat_get (f := fun i => (p i).2) len hlen
    have hcell : ∀ i j, i < len → j < sz → w.cell? (a.add (i * sz + j)) = (p i).1[j]? := fun i j hi hj => by
      have := (World.cells?_some (hp i hi).1).2.2 j hj
      rwa [add_add'] at this
    have hval : ∀ i j, i < len → j < sz → ∃ v, (p i).1[j]? = some v := fun i j hi hj => by
      have : (p i).1.length = sz := (World.cells?_some (hp i hi).1).2.1
      exact ⟨_, List.getElem?_eq_getElem (by omega)⟩
    refine ⟨_, (List.range len).map fun i => (p i).2, rfl, ?_, ?_, by simpa [maxLen] using Nat.le_trans hl hcap⟩
    · refine .sl a len cap sz _ (fun k => (w.cell? (a.add k)).getD undef) g1 trivial (fun _ _ h => h) ?_ ?_
      · intro k d hk
        obtain ⟨i, j, hi, hj, rfl, hd⟩ := g2 k d hk
        obtain ⟨v, hv⟩ := hval i j hi hj
        rw [hcell i j hi hj, hv]; rfl
      · intro k d hk
        obtain ⟨i, j, hi, hj, rfl, hd⟩ := g2 k d hk
        obtain ⟨v, hv⟩ := hval i j hi hj
        rw [hcell i j hi hj, hv]
        exact (hp i hi).2.2.1 j v d hv hd
    · intro ds hds
      obtain ⟨i, hi, rfl⟩ := List.mem_map.1 hds
      exact (hp i (List.mem_range.1 hi)).2.2.2

theorem flatten_intc (l : List Int) : (l.map fun n => [Dat.val (.int .i64 n)]).flatten = intc l := by
  induction l with
  | nil => rfl
  | cons a r ih => rw [List.map_cons, List.flatten_cons, ih]; rfl
theorem flatten_pairc (l : List (Int × Int)) : (l.map fun p => [Dat.val (.int .i64 p.1), Dat.val (.int .i64 p.2)]).flatten = pairc l := by
  induction l with
  | nil => rfl
  | cons a r ih => rw [List.map_cons, List.flatten_cons, ih]; rfl
theorem flatten_rowc (l : List (List Int)) : (l.map fun r => [Dat.sl 1 (intc r)]).flatten = rowc l := by
  induction l with
  | nil => rfl
  | cons a r ih => rw [List.map_cons, List.flatten_cons, ih]; rfl

theorem rd_ints (ht : P.underlying t = some (.slice e)) (he : P.underlying e = some (.int .i64)) (hc : P.cellsOf e = 1) (h : DataW.trod enc P w base spare held fuel t cs = some x) :
    ∃ v l, cs = [v] ∧ Rd w noM v (.sl 1 (intc l)) ∧ (∀ x ∈ l, I64 x) ∧ l.length ≤ big := by
  obtain ⟨v, dss, h1, h2, h3, h4⟩ := rd_slice ht hc (fun ds => ∃ n, ds = [Dat.val (.int .i64 n)] ∧ I64 n) (fun n cs' x hx => by
    obtain ⟨k, rfl, hk⟩ := rd_int he hx
    refine ⟨[.val (.int .i64 k)], rfl, fun j v d hv hd => ?_, k, rfl, hk⟩
    match j with
    | 0 => simp at hv hd; subst hv; subst hd; exact .val _
    | j + 1 => simp at hv) h
  obtain ⟨l, rfl, hl, hn⟩ := gather h3
  rw [flatten_intc] at h2
  exact ⟨v, l, h1, h2, hl, by omega⟩

theorem rd_pairs {a : TypeId} (ht : P.underlying t = some (.slice e)) (he : P.underlying e = some (.array 2 a)) (ha : P.underlying a = some (.int .i64)) (hc : P.cellsOf e = 2) (hca : P.cellsOf a = 1) (h : DataW.trod enc P w base spare held fuel t cs = some x) :
    ∃ v l, cs = [v] ∧ Rd w noM v (.sl 2 (pairc l)) ∧ (∀ x ∈ l, I64 x.1 ∧ I64 x.2) ∧ l.length ≤ big := by
  obtain ⟨v, dss, h1, h2, h3, h4⟩ := rd_slice ht hc (fun ds => ∃ p : Int × Int, ds = [Dat.val (.int .i64 p.1), Dat.val (.int .i64 p.2)] ∧ (I64 p.1 ∧ I64 p.2)) (fun n cs' x hx => by
    obtain ⟨xs, m, _, _, h5, h6, h7⟩ := DataW.trod_array he hx
    rw [hc] at h5
    rw [hca] at h7
    match cs', h5, xs, h6 with
    | [c0, c1], _, [x0, x1], _ =>
      have g0 := h7 0 (by omega)
      have g1 := h7 1 (by omega)
      simp at g0 g1
      obtain ⟨a0, e0, b0⟩ := rd_int ha g0
      obtain ⟨a1, e1, b1⟩ := rd_int ha g1
      simp at e0 e1
      subst e0; subst e1
      refine ⟨[.val (.int .i64 a0), .val (.int .i64 a1)], rfl, fun j v d hv hd => ?_, (a0, a1), rfl, b0, b1⟩
      match j with
      | 0 => simp at hv hd; subst hv; subst hd; exact .val _
      | 1 => simp at hv hd; subst hv; subst hd; exact .val _
      | j + 2 => simp at hv) h
  obtain ⟨l, rfl, hl, hn⟩ := gather h3
  rw [flatten_pairc] at h2
  exact ⟨v, l, h1, h2, hl, by omega⟩

theorem rd_rows {a : TypeId} (ht : P.underlying t = some (.slice e)) (he : P.underlying e = some (.slice a)) (ha : P.underlying a = some (.int .i64)) (hc : P.cellsOf e = 1) (hca : P.cellsOf a = 1) (h : DataW.trod enc P w base spare held fuel t cs = some x) :
    ∃ v m, cs = [v] ∧ Rd w noM v (.sl 1 (rowc m)) ∧ (∀ r ∈ m, (∀ x ∈ r, I64 x) ∧ r.length ≤ big) ∧ m.length ≤ big := by
  obtain ⟨v, dss, h1, h2, h3, h4⟩ := rd_slice ht hc (fun ds => ∃ r : List Int, ds = [Dat.sl 1 (intc r)] ∧ ((∀ x ∈ r, I64 x) ∧ r.length ≤ big)) (fun n cs' x hx => by
    obtain ⟨v, l, rfl, h5, h6, h7⟩ := rd_ints he ha hca hx
    refine ⟨[.sl 1 (intc l)], rfl, fun j v d hv hd => ?_, l, rfl, h6, h7⟩
    match j with
    | 0 => simp at hv hd; subst hv; subst hd; exact h5
    | j + 1 => simp at hv) h
  obtain ⟨l, rfl, hl, hn⟩ := gather h3
  rw [flatten_rowc] at h2
  exact ⟨v, l, h1, h2, hl, by omega⟩
end
end Go.Proofs.Ythchhaaplimafaa
