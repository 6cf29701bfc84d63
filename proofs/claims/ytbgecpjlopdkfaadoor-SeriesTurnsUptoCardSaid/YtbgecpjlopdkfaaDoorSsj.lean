import Derived.Test.YtbgecpjlopdkfaaDoorSse
import Derived.Test.YtbgecpjlopdkfaaDoorSsg
import Derived.Test.YtbgecpjlopdkfaaDoorSsi
import Derived.Test.YtbgecpjlopdkfaaDoorSsh
import Derived.Test.YtbgecpjlopdkfaaDoorGo
import Derived.Test.YtbgecpjlopdkfaaDoorFg
set_option linter.unusedSimpArgs false
set_option linter.unusedVariables false
set_option linter.unusedSectionVars false
set_option maxRecDepth 20000
namespace Go.Proofs.YtbgecpjlopdkfaaDoor
attribute [local irreducible] QOp aL aC qL
theorem nd_permS {α : Type} [DecidableEq α] : ∀ (A L : List α), A.Nodup → (∀ x ∈ A, x ∈ L) → L.length ≤ A.length → A.Perm L
  | [], L, _, _, hl => by
    have : L = [] := List.eq_nil_of_length_eq_zero (by simpa using hl)
    rw [this]
  | x :: r, L, h, hs, hl => by
    rw [List.nodup_cons] at h
    have hx := hs x List.mem_cons_self
    have e := List.length_erase_of_mem hx
    rw [List.length_cons] at hl
    have ih := nd_permS r (L.erase x) h.2 (fun y hy => (List.mem_erase_of_ne (fun e : y = x => h.1 (e ▸ hy))).2 (hs y (List.mem_cons_of_mem _ hy))) (by omega)
    exact (ih.cons x).trans (List.perm_cons_erase hx).symm
def crs (A B : List Int) : List (Int × Int) := A.flatMap fun a => B.map fun b => (a, b)
mutual
/-- The pairs of a term. -/
def Tr.prs : Tr → List (Int × Int)
  | .mk k _ l => kprs k [] l
def kprs (k : Int) (ah : List Int) : List Tr → List (Int × Int)
  | [] => []
  | t :: r => t.prs ++ ((if k = 3 then crs ah t.pts else []) ++ kprs k (ah ++ t.pts) r)
end
theorem crs_mem {A B : List Int} {a b : Int} : (a, b) ∈ crs A B ↔ a ∈ A ∧ b ∈ B := by
  unfold crs
  rw [List.mem_flatMap]
  constructor
  · rintro ⟨x, hx, h⟩
    obtain ⟨y, hy, e⟩ := List.mem_map.1 h
    obtain ⟨rfl, rfl⟩ := Prod.mk.inj e
    exact ⟨hx, hy⟩
  · rintro ⟨ha, hb⟩; exact ⟨a, ha, List.mem_map.2 ⟨b, hb, rfl⟩⟩
theorem kprs_mem {k : Int} {a b : Int} : ∀ {l : List Tr} {ah : List Int}, (a, b) ∈ kprs k ah l ↔ (∃ i, i < l.length ∧ (a, b) ∈ (l.getD i t000).prs) ∨ (k = 3 ∧ ∃ i, i < l.length ∧ b ∈ (l.getD i t000).pts ∧ (a ∈ ah ∨ ∃ j, j < i ∧ a ∈ (l.getD j t000).pts))
  | [], ah => by unfold kprs; simp
  | t :: r, ah => by
    have ih := kprs_mem (k := k) (a := a) (b := b) (l := r) (ah := ah ++ t.pts)
    unfold kprs
    rw [List.mem_append, List.mem_append, ih]
    have e3 : (a, b) ∈ (if k = 3 then crs ah t.pts else []) ↔ k = 3 ∧ a ∈ ah ∧ b ∈ t.pts := by
      by_cases hk : k = 3
      · rw [if_pos hk, crs_mem]; simp [hk]
      · rw [if_neg hk]; simp [hk]
    rw [e3]
    constructor
    · rintro (h | ⟨hk, h1, h2⟩ | ⟨i, hi, h⟩ | ⟨hk, i, hi, hb, h⟩)
      · exact .inl ⟨0, by simp, h⟩
      · exact .inr ⟨hk, 0, by simp, h2, .inl h1⟩
      · exact .inl ⟨i + 1, by simpa using hi, h⟩
      · refine .inr ⟨hk, i + 1, by simpa using hi, hb, ?_⟩
        rcases h with h | ⟨j, hj, h⟩
        · rcases List.mem_append.1 h with h | h
          · exact .inl h
          · exact .inr ⟨0, by omega, h⟩
        · exact .inr ⟨j + 1, by omega, h⟩
    · rintro (⟨i, hi, h⟩ | ⟨hk, i, hi, hb, h⟩)
      · cases i with
        | zero => exact .inl h
        | succ i => exact .inr (.inr (.inl ⟨i, by simpa using hi, h⟩))
      · cases i with
        | zero =>
          rcases h with h | ⟨j, hj, _⟩
          · exact .inr (.inl ⟨hk, h, hb⟩)
          · omega
        | succ i =>
          refine .inr (.inr (.inr ⟨hk, i, by simpa using hi, hb, ?_⟩))
          rcases h with h | ⟨j, hj, h⟩
          · exact .inl (List.mem_append_left _ h)
          · cases j with
            | zero => exact .inl (List.mem_append_right _ h)
            | succ j => exact .inr ⟨j, by omega, h⟩
theorem kpts_find {x : Int} : ∀ {l : List Tr}, x ∈ kpts l ↔ ∃ i, i < l.length ∧ x ∈ (l.getD i t000).pts
  | [] => by unfold kpts; simp
  | t :: r => by
    unfold kpts
    rw [List.mem_append, kpts_find (l := r)]
    constructor
    · rintro (h | ⟨i, hi, h⟩)
      · exact ⟨0, by simp, h⟩
      · exact ⟨i + 1, by simpa using hi, h⟩
    · rintro ⟨i, hi, h⟩
      cases i with
      | zero => exact .inl h
      | succ i => exact .inr ⟨i, by simpa using hi, h⟩
theorem kpts_uniq {x : Int} : ∀ {l : List Tr}, (kpts l).Nodup → ∀ {i j : Nat}, i < l.length → j < l.length → x ∈ (l.getD i t000).pts → x ∈ (l.getD j t000).pts → i = j
  | [], _, i, j, hi, _, _, _ => by cases hi
  | t :: r, hn, i, j, hi, hj, h1, h2 => by
    unfold kpts at hn
    rw [List.nodup_append] at hn
    cases i with
    | zero =>
      cases j with
      | zero => rfl
      | succ j => exact absurd rfl (hn.2.2 x h1 x (kpts_find.2 ⟨j, by simpa using hj, h2⟩))
    | succ i =>
      cases j with
      | zero => exact absurd rfl (hn.2.2 x h2 x (kpts_find.2 ⟨i, by simpa using hi, h1⟩))
      | succ j => rw [kpts_uniq (l := r) hn.2.1 (by simpa using hi) (by simpa using hj) h1 h2]
theorem kpts_ndk : ∀ {l : List Tr}, (kpts l).Nodup → ∀ {i : Nat}, i < l.length → (l.getD i t000).pts.Nodup
  | t :: r, hn, i, hi => by
    unfold kpts at hn
    rw [List.nodup_append] at hn
    cases i with
    | zero => exact hn.1
    | succ i => exact kpts_ndk (l := r) hn.2.1 (by simpa using hi)
theorem dep_kidD {l : List Tr} {i : Nat} (h : i < l.length) : (l.getD i t000).dep ≤ kdep l := by rw [getDT h]; exact dep_kid h
/-- Which of two points of different kids is below. -/
theorem tls_kids {d : Nat} {k p : Int} {l : List Tr} (hn : (kpts l).Nodup) {a b : Int} {i j : Nat} (hi : i < l.length) (hj : j < l.length) (ha : a ∈ (l.getD i t000).pts) (hb : b ∈ (l.getD j t000).pts) :
    tls (d + 1) (.mk k p l) a b = if i = j then tls d (l.getD i t000) a b else decide (k = 3) && decide (i < j) := by
  have xa : kx l a l.length = i := kx_eq ha hi fun m hm hne h => hne (kpts_uniq hn hm hi h ha)
  have xb : kx l b l.length = j := kx_eq hb hj fun m hm hne h => hne (kpts_uniq hn hm hj h hb)
  conv => lhs; unfold tls
  rw [xa, xb]
  by_cases hij : i = j
  · rw [if_pos (.inr (by rw [hij])), if_pos hij, decide_eq_true (show (0 : Int) ≤ (i : Int) by omega), Bool.true_and, Int.toNat_natCast]
  · rw [if_neg (by omega), if_neg hij]
    congr 1
    exact decide_eq_decide.2 (by omega)
structure TlsG (d : Nat) (t : Tr) : Prop where
  mem : ∀ a b, (a, b) ∈ t.prs ↔ a ∈ t.pts ∧ b ∈ t.pts ∧ tls d t a b = true
  irr : ∀ a, a ∈ t.pts → tls d t a a = false
  tr : ∀ a b c, a ∈ t.pts → b ∈ t.pts → c ∈ t.pts → tls d t a b = true → tls d t b c = true → tls d t a c = true
theorem tls_good : ∀ (d : Nat) (t : Tr), t.dep ≤ d → t.frm = 0 → t.pts.Nodup → TlsG d t
  | 0, .mk k p l, hd, _, _ => by unfold Tr.dep at hd; omega
  | d + 1, .mk k p l, hd, hf, hn => by
    obtain ⟨h1, h2, h3⟩ := frm_kids hf
    unfold Tr.dep at hd
    by_cases hk : k = 1
    · have hl : l = [] := List.length_eq_zero_iff.1 (by omega)
      subst hl
      have ht : ∀ a b, tls (d + 1) (.mk k p []) a b = false := fun a b => by unfold tls; rfl
      refine ⟨fun a b => ?_, fun a _ => ht a a, fun a b c _ _ _ h _ => ?_⟩
      · rw [ht]; unfold Tr.prs kprs; simp
      · rw [ht] at h; cases h
    have ep : (Tr.mk k p l).pts = kpts l := by unfold Tr.pts; rw [if_neg hk]
    rw [ep] at hn
    have kid := fun {i : Nat} (hi : i < l.length) => tls_good d (l.getD i t000) (by have := dep_kidD hi; omega) (by rw [getDT hi]; exact kfrm_get h3 hi) (kpts_ndk hn hi)
    have kk := fun {a b : Int} {i j : Nat} (hi : i < l.length) (hj : j < l.length) (ha : a ∈ (l.getD i t000).pts) (hb : b ∈ (l.getD j t000).pts) => tls_kids (d := d) (k := k) (p := p) hn hi hj ha hb
    refine ⟨fun a b => ?_, fun a ha => ?_, fun a b c ha hb hc hab hbc => ?_⟩
    · rw [ep]
      unfold Tr.prs
      rw [kprs_mem]
      constructor
      · rintro (⟨i, hi, h⟩ | ⟨hk3, i, hi, hb, h⟩)
        · obtain ⟨ha, hb, ht⟩ := ((kid hi).mem a b).1 h
          exact ⟨kpts_find.2 ⟨i, hi, ha⟩, kpts_find.2 ⟨i, hi, hb⟩, by rw [kk hi hi ha hb, if_pos rfl]; exact ht⟩
        · rcases h with h | ⟨j, hj, ha⟩
          · cases h
          · refine ⟨kpts_find.2 ⟨j, by omega, ha⟩, kpts_find.2 ⟨i, hi, hb⟩, ?_⟩
            rw [kk (by omega) hi ha hb, if_neg (by omega), decide_eq_true hk3, decide_eq_true hj]; rfl
      · rintro ⟨ha, hb, ht⟩
        obtain ⟨i, hi, ha⟩ := kpts_find.1 ha
        obtain ⟨j, hj, hb⟩ := kpts_find.1 hb
        rw [kk hi hj ha hb] at ht
        by_cases hij : i = j
        · subst hij
          rw [if_pos rfl] at ht
          exact .inl ⟨i, hi, ((kid hi).mem a b).2 ⟨ha, hb, ht⟩⟩
        · rw [if_neg hij, Bool.and_eq_true, decide_eq_true_eq, decide_eq_true_eq] at ht
          exact .inr ⟨ht.1, j, hj, hb, .inr ⟨i, ht.2, ha⟩⟩
    · rw [ep] at ha
      obtain ⟨i, hi, ha⟩ := kpts_find.1 ha
      rw [kk hi hi ha ha, if_pos rfl]
      exact (kid hi).irr a ha
    · rw [ep] at ha hb hc
      obtain ⟨i, hi, ha⟩ := kpts_find.1 ha
      obtain ⟨j, hj, hb⟩ := kpts_find.1 hb
      obtain ⟨m, hm, hc⟩ := kpts_find.1 hc
      rw [kk hi hj ha hb] at hab
      rw [kk hj hm hb hc] at hbc
      rw [kk hi hm ha hc]
      by_cases hij : i = j
      · subst hij
        rw [if_pos rfl] at hab
        by_cases him : i = m
        · subst him
          rw [if_pos rfl] at hbc ⊢
          exact (kid hi).tr a b c ha hb hc hab hbc
        · rw [if_neg him] at hbc ⊢
          exact hbc
      · rw [if_neg hij, Bool.and_eq_true, decide_eq_true_eq, decide_eq_true_eq] at hab
        by_cases hjm : j = m
        · subst hjm
          rw [if_neg hij, decide_eq_true hab.1, decide_eq_true hab.2]; rfl
        · rw [if_neg hjm, Bool.and_eq_true, decide_eq_true_eq, decide_eq_true_eq] at hbc
          rw [if_neg (by omega), decide_eq_true hab.1, decide_eq_true (show i < m by omega)]; rfl
/-- A right term's points are the numbers from 0 on. -/
theorem tck_zero {t : Tr} (h : tck t = 0) : t.cnt ≤ 40 ∧ t.pts.length ≤ 10 ∧ t.frm = 0 ∧ t.pts.Perm (nl (List.range t.pts.length)) := by
  unfold tck at h
  by_cases h1 : 40 < t.cnt ∨ 10 < t.pts.length
  · rw [if_pos h1] at h; omega
  rw [if_neg h1] at h
  by_cases h2 : t.frm = 0
  · rw [if_neg (by omega)] at h
    refine ⟨by omega, by omega, h2, ?_⟩
    by_cases h3 : prB t.pts = true
    · have hall := List.all_eq_true.1 h3
      refine (nd_permS (nl (List.range t.pts.length)) t.pts ?_ ?_ ?_).symm
      · unfold nl
        exact List.pairwise_map.2 (List.Pairwise.imp (R := fun (a b : Nat) => a ≠ b) (fun {a b : Nat} h (e : (a : Int) = (b : Int)) => absurd (show a = b by omega) h) List.nodup_range)
      · intro x hx
        unfold nl at hx
        obtain ⟨i, hi, rfl⟩ := List.mem_map.1 hx
        exact of_decide_eq_true (hall i hi)
      · rw [nl_len, List.length_range]; omega
    · rw [if_neg h3] at h; omega
  · rw [if_pos h2] at h; exact absurd h h2
theorem tck_pts {t : Tr} (h : tck t = 0) : t.pts.Nodup ∧ ∀ x, x ∈ t.pts ↔ ∃ i : Nat, i < t.pts.length ∧ x = (i : Int) := by
  obtain ⟨_, _, _, hp⟩ := tck_zero h
  refine ⟨hp.nodup_iff.2 ?_, fun x => ?_⟩
  · unfold nl
    exact List.pairwise_map.2 (List.Pairwise.imp (R := fun (a b : Nat) => a ≠ b) (fun {a b : Nat} h (e : (a : Int) = (b : Int)) => absurd (show a = b by omega) h) List.nodup_range)
  · rw [hp.mem_iff]
    unfold nl
    rw [List.mem_map]
    constructor
    · rintro ⟨i, hi, e⟩; exact ⟨i, List.mem_range.1 hi, e.symm⟩
    · rintro ⟨i, hi, e⟩; exact ⟨i, List.mem_range.2 hi, e.symm⟩
/-- The pairs make the term's order. -/
theorem prs_make {t : Tr} (h : tck t = 0) : mkE t.pts.length t.prs = 0 ∧ clos t.pts.length (toN t.prs) = tOf t := by
  obtain ⟨h1, h2, h3, _⟩ := tck_zero h
  obtain ⟨hn, hm⟩ := tck_pts h
  have g := tls_good t.dep t (Nat.le_refl _) h3 hn
  have hin : ∀ a b, (a, b) ∈ t.prs → ∃ i j : Nat, i < t.pts.length ∧ j < t.pts.length ∧ a = i ∧ b = j := fun a b hab => by
    obtain ⟨ha, hb, _⟩ := (g.mem a b).1 hab
    obtain ⟨i, hi, ea⟩ := (hm a).1 ha
    obtain ⟨j, hj, eb⟩ := (hm b).1 hb
    exact ⟨i, j, hi, hj, ea, eb⟩
  have hok : t.prs.all (okP t.pts.length) = true := List.all_eq_true.2 fun ⟨a, b⟩ hab => by
    obtain ⟨i, j, hi, hj, rfl, rfl⟩ := hin a b hab
    unfold okP
    rw [decide_eq_true_eq]
    omega
  have hlt := okP_lt hok
  have hmem : ∀ i j : Nat, (i, j) ∈ toN t.prs ↔ i < t.pts.length ∧ j < t.pts.length ∧ tls t.dep t i j = true := fun i j => by
    unfold toN
    rw [List.mem_map]
    constructor
    · rintro ⟨⟨a, b⟩, hab, e⟩
      obtain ⟨i', j', hi, hj, rfl, rfl⟩ := hin a b hab
      obtain ⟨e1, e2⟩ := Prod.mk.inj e
      rw [Int.toNat_natCast] at e1 e2
      subst e1; subst e2
      exact ⟨hi, hj, ((g.mem _ _).1 hab).2.2⟩
    · rintro ⟨hi, hj, ht⟩
      exact ⟨((i : Int), (j : Int)), (g.mem _ _).2 ⟨(hm _).2 ⟨i, hi, rfl⟩, (hm _).2 ⟨j, hj, rfl⟩, ht⟩, rfl⟩
  have hreach : ∀ {i j : Nat}, Reach (toN t.prs) i j → i < t.pts.length ∧ j < t.pts.length ∧ tls t.dep t i j = true := by
    intro i j h
    induction h with
    | one h => exact (hmem _ _).1 h
    | more _ h ih =>
      obtain ⟨a1, a2, a3⟩ := ih
      obtain ⟨b1, b2, b3⟩ := (hmem _ _).1 h
      exact ⟨a1, b2, g.tr _ _ _ ((hm _).2 ⟨_, a1, rfl⟩) ((hm _).2 ⟨_, b1, rfl⟩) ((hm _).2 ⟨_, b2, rfl⟩) a3 b3⟩
  have hirr : irr t.pts.length (clos t.pts.length (toN t.prs)) = true := (irr_iff hlt).2 fun q hq hr => by
    have := (hreach hr).2.2
    rw [g.irr _ ((hm _).2 ⟨q, hq, rfl⟩)] at this; cases this
  refine ⟨?_, ?_⟩
  · unfold mkE
    rw [if_neg (by omega), if_neg (by rw [hok]; decide), Int.toNat_natCast, if_pos hirr]
  · unfold tOf
    refine vld_ext (clos_vld hlt) (ofn_vld _ _) fun a b ha hb => ?_
    rw [ofn_lt _ ha hb, Bool.eq_iff_iff, clos_iff hlt hb]
    exact ⟨fun h => (hreach h).2.2, fun h => .one ((hmem a b).2 ⟨ha, hb, h⟩)⟩
end Go.Proofs.YtbgecpjlopdkfaaDoor
