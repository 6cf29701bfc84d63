import Derived.Test.YtbgecpjlopdkfaaDoorSra
import Derived.Test.YtbgecpjlopdkfaaDoorFn
import Derived.Test.YtbgecpjlopdkfaaDoorEngT
import Derived.Test.YtbgecpjlopdkfaaDoorEngZzh
import Derived.Test.YtbgecpjlopdkfaaDoorFe
import Derived.Test.YtbgecpjlopdkfaaDoorSri
set_option linter.unusedSimpArgs false
set_option linter.unusedVariables false
set_option linter.unusedSectionVars false
set_option maxRecDepth 20000
namespace Go.Proofs.YtbgecpjlopdkfaaDoor
attribute [local irreducible] QOp aL aC qL
def wnZ (i k : Nat) : Bool := (decide (i = 0) && decide (k = 2)) || (decide (i = 1) && decide (2 ≤ k))
def zgG (ns L : List Nat) (i k : Nat) : Bool := decide (i = k) || (!decide (L.getD i 0 = L.getD k 0) && (lt ns (L.getD i 0) (L.getD k 0) == wnZ i k))
def zgA (ns L : List Nat) : Bool := (List.range L.length).all fun i => (List.range L.length).all fun k => zgG ns L i k
end Go.Proofs.YtbgecpjlopdkfaaDoor
set_option linter.unusedSimpArgs false
set_option linter.unusedVariables false
set_option linter.unusedSectionVars false
set_option maxRecDepth 20000
namespace Go.Proofs.YtbgecpjlopdkfaaDoor
attribute [local irreducible] QOp aL aC qL
/-! Plain. -/
def qdF (p : Nat → Bool) : Nat → Option Nat
  | 0 => none
  | k + 1 => match qdF p k with
    | some a => some a
    | none => if p k = true then some k else none
theorem qdF_all {p : Nat → Bool} {i : Nat} : ∀ {k : Nat}, qdF p k = some i → i < k ∧ p i = true ∧ ∀ j, j < i → p j = false
  | 0, h => by cases h
  | k + 1, h => by
    rw [qdF] at h
    cases hf : qdF p k with
    | some a =>
      rw [hf] at h
      obtain rfl := Option.some.inj h
      obtain ⟨h1, h2, h3⟩ := qdF_all hf
      exact ⟨by omega, h2, h3⟩
    | none =>
      rw [hf] at h
      change (if p k = true then some k else none) = some i at h
      split at h
      · obtain rfl := Option.some.inj h
        rename_i hp
        refine ⟨by omega, hp, fun j hj => ?_⟩
        cases hb : p j with
        | false => rfl
        | true =>
          exfalso
          have : ∀ {m : Nat}, qdF p m = none → ∀ x, x < m → p x = false := fun {m} => by
            induction m with
            | zero => exact fun _ x hx => by omega
            | succ m ih =>
              intro h x hx
              rw [qdF] at h
              cases hm : qdF p m with
              | some a => rw [hm] at h; cases h
              | none =>
                rw [hm] at h
                change (if p m = true then some m else none) = none at h
                by_cases hxm : x = m
                · subst hxm
                  cases hq : p x with
                  | false => rfl
                  | true => rw [hq, if_pos rfl] at h; cases h
                · exact ih hm x (by omega)
          rw [this hf j hj] at hb; cases hb
      · cases h
def qdL (n k : Nat) : List Nat := [k / (n * n * n), k / (n * n) % n, k / n % n, k % n]
def qdD (a b c d : Nat) : Bool := decide (a ≠ b ∧ a ≠ c ∧ a ≠ d ∧ b ≠ c ∧ b ≠ d ∧ c ≠ d)
def qdB (n : Nat) (q : Nat → Nat → Nat → Nat → Bool) (k : Nat) : Bool := qdD (k / (n * n * n)) (k / (n * n) % n) (k / n % n) (k % n) && q (k / (n * n * n)) (k / (n * n) % n) (k / n % n) (k % n)
def qdR (n : Nat) (q : Nat → Nat → Nat → Nat → Bool) : List Nat := match qdF (qdB n q) (n * n * n * n) with
  | some k => qdL n k
  | none => []
def qdY (n : Nat) (q : Nat → Nat → Nat → Nat → Bool) : Bool := (qdF (qdB n q) (n * n * n * n)).isSome
theorem qdY_iff {n : Nat} {q : Nat → Nat → Nat → Nat → Bool} : qdY n q = true ↔ ∃ k, k < n * n * n * n ∧ qdB n q k = true := by
  unfold qdY
  cases hf : qdF (qdB n q) (n * n * n * n) with
  | some k =>
    obtain ⟨h1, h2, _⟩ := qdF_all hf
    exact ⟨fun _ => ⟨k, h1, h2⟩, fun _ => rfl⟩
  | none =>
    refine ⟨fun h => (by cases h), fun ⟨k, h1, h2⟩ => ?_⟩
    have : ∀ {m : Nat}, qdF (qdB n q) m = none → ∀ x, x < m → qdB n q x = false := fun {m} => by
      induction m with
      | zero => exact fun _ x hx => by omega
      | succ m ih =>
        intro h x hx
        rw [qdF] at h
        cases hm : qdF (qdB n q) m with
        | some a => rw [hm] at h; cases h
        | none =>
          rw [hm] at h
          change (if qdB n q m = true then some m else none) = none at h
          by_cases hxm : x = m
          · subst hxm
            cases hq : qdB n q x with
            | false => rfl
            | true => rw [hq, if_pos rfl] at h; cases h
          · exact ih hm x (by omega)
    rw [this hf k h1] at h2; cases h2
/-- There are such four just if some list of four different points is such. -/
theorem qdY_ex {n : Nat} {q : Nat → Nat → Nat → Nat → Bool} : qdY n q = true ↔ ∃ a b c d, a < n ∧ b < n ∧ c < n ∧ d < n ∧ qdD a b c d = true ∧ q a b c d = true := by
  rw [qdY_iff]
  constructor
  · rintro ⟨k, hk, h⟩
    have h0 : 0 < n := by
      rcases Nat.eq_zero_or_pos n with h | h
      · subst h; simp at hk
      · exact h
    unfold qdB at h
    rw [Bool.and_eq_true] at h
    exact ⟨_, _, _, _, Nat.div_lt_of_lt_mul hk, Nat.mod_lt _ h0, Nat.mod_lt _ h0, Nat.mod_lt _ h0, h.1, h.2⟩
  · rintro ⟨a, b, c, d, ha, hb, hc, hd, h1, h2⟩
    have h0 : 0 < n := by omega
    have hk : ((a * n + b) * n + c) * n + d < n * n * n * n := by
      have e1 : a * n + b < n * n := by
        have : (a + 1) * n ≤ n * n := Nat.mul_le_mul_right n ha
        rw [Nat.add_mul] at this; omega
      have e2 : (a * n + b) * n + c < n * n * n := by
        have : (a * n + b + 1) * n ≤ n * n * n := Nat.mul_le_mul_right n e1
        rw [Nat.add_mul] at this; omega
      have : ((a * n + b) * n + c + 1) * n ≤ n * n * n * n := Nat.mul_le_mul_right n e2
      rw [Nat.add_mul] at this; omega
    refine ⟨_, hk, ?_⟩
    have m1 : ∀ x y, y < n → (x * n + y) % n = y := fun x y hy => by rw [Nat.mul_comm, Nat.mul_add_mod, Nat.mod_eq_of_lt hy]
    have m2 : ∀ x y, y < n → (x * n + y) / n = x := fun x y hy => by rw [Nat.mul_comm, Nat.mul_add_div h0, Nat.div_eq_of_lt hy, Nat.add_zero]
    have d1 := m2 ((a * n + b) * n + c) d hd
    have d2 := m2 (a * n + b) c hc
    have d3 := m2 a b hb
    unfold qdB
    rw [show (((a * n + b) * n + c) * n + d) / (n * n * n) = a by rw [← Nat.div_div_eq_div_mul, ← Nat.div_div_eq_div_mul, d1, d2, d3],
      show (((a * n + b) * n + c) * n + d) / (n * n) % n = b by rw [← Nat.div_div_eq_div_mul, d1, d2, m1 _ _ hb],
      show (((a * n + b) * n + c) * n + d) / n % n = c by rw [d1, m1 _ _ hc], m1 _ _ hd, h1, h2]
    rfl
end Go.Proofs.YtbgecpjlopdkfaaDoor
set_option linter.unusedSimpArgs false
set_option linter.unusedVariables false
set_option linter.unusedSectionVars false
set_option maxRecDepth 20000
namespace Go.Proofs.YtbgecpjlopdkfaaDoor
attribute [local irreducible] QOp aL aC qL
def smP (L : List Int) (i : Nat) : Bool := (List.range i).any fun x => (List.range x).any fun y => decide (L.getD x 0 = L.getD y 0)
def smI (L : List Int) (i j : Nat) : Bool := (List.range j).any fun y => decide (L.getD i 0 = L.getD y 0)
end Go.Proofs.YtbgecpjlopdkfaaDoor
set_option linter.unusedSimpArgs false
set_option linter.unusedVariables false
set_option linter.unusedSectionVars false
set_option maxRecDepth 20000
namespace Go.Proofs.YtbgecpjlopdkfaaDoor
attribute [local irreducible] QOp aL aC qL
def zgQ (ns : List Nat) (a b c d : Nat) : Bool := zgA ns [a, b, c, d]
end Go.Proofs.YtbgecpjlopdkfaaDoor
set_option linter.unusedSimpArgs false
set_option linter.unusedVariables false
set_option linter.unusedSectionVars false
set_option maxRecDepth 20000
namespace Go.Proofs.YtbgecpjlopdkfaaDoor
attribute [local irreducible] QOp aL aC qL
def apZ (ns : List Nat) (x y : Nat) : Bool := decide (x ≠ y) && (!lt ns x y && !lt ns y x)
def zqQ (ns : List Nat) (a b c d : Nat) : Bool := lt ns a c && lt ns b c && lt ns b d && apZ ns a b && apZ ns a d && apZ ns c d
end Go.Proofs.YtbgecpjlopdkfaaDoor
set_option linter.unusedSimpArgs false
set_option linter.unusedVariables false
set_option linter.unusedSectionVars false
set_option maxRecDepth 20000
namespace Go.Proofs.YtbgecpjlopdkfaaDoor
attribute [local irreducible] QOp aL aC qL
/-- The points fall apart, with no edge between. -/
def SepB (G : Nat → Nat → Bool) (l : List Nat) : Prop := ∃ A : Nat → Bool, (∃ x ∈ l, A x = true) ∧ (∃ y ∈ l, A y = false) ∧ ∀ x ∈ l, ∀ y ∈ l, A x = true → A y = false → G x y = false
/-- Four points in a row. -/
structure Row4 (G : Nat → Nat → Bool) (l : List Nat) (y x v w : Nat) : Prop where
  hy : y ∈ l
  hx : x ∈ l
  hv : v ∈ l
  hw : w ∈ l
  nyx : y ≠ x
  nyv : y ≠ v
  nyw : y ≠ w
  nxv : x ≠ v
  nxw : x ≠ w
  nvw : v ≠ w
  yx : G y x = true
  xv : G x v = true
  vw : G v w = true
  yv : G y v = false
  yw : G y w = false
  xw : G x w = false
theorem sep_core {G : Nat → Nat → Bool} {v : Nat} {l : List Nat} (hs : ∀ x ∈ v :: l, ∀ y ∈ v :: l, G x y = G y x) (hv : v ∉ l) {A : Nat → Bool} (hA : ∀ x ∈ l, ∀ y ∈ l, A x = true → A y = false → G x y = false)
    {u w : Nat} (hu : u ∈ l) (au : A u = true) (gu : G v u = false) (hw : w ∈ l) (aw : A w = false) (gw : G v w = true) : SepB G (v :: l) ∨ ∃ a b c d, Row4 G (v :: l) a b c d := by
  have ne : ∀ {x}, x ∈ l → x ≠ v := fun h e => hv (e ▸ h)
  have mm : ∀ {x}, x ∈ l → x ∈ v :: l := fun h => List.mem_cons_of_mem _ h
  have mv : v ∈ v :: l := List.mem_cons_self
  by_cases hxy : ∃ x ∈ l, ∃ y ∈ l, A x = true ∧ A y = true ∧ G v x = true ∧ G v y = false ∧ G x y = true
  · obtain ⟨x, hx, y, hy, ax, ay, gx, gy, gxy⟩ := hxy
    right
    refine ⟨y, x, v, w, mm hy, mm hx, mv, mm hw, fun e => ?_, ne hy, fun e => ?_, ne hx, fun e => ?_, fun e => ne hw e.symm, ?_, ?_, gw, ?_, hA y hy w hw ay aw, hA x hx w hw ax aw⟩
    · rw [e, gx] at gy; cases gy
    · rw [e, aw] at ay; cases ay
    · rw [e, aw] at ax; cases ax
    · rw [hs y (mm hy) x (mm hx)]; exact gxy
    · rw [hs x (mm hx) v mv]; exact gx
    · rw [hs y (mm hy) v mv]; exact gy
  · left
    refine ⟨fun z => A z && !G v z && decide (z ≠ v), ⟨u, mm hu, ?_⟩, ⟨v, mv, ?_⟩, ?_⟩
    · simp [au, gu, ne hu]
    · simp
    · intro z hz t ht bz bt
      simp only [Bool.and_eq_true, Bool.not_eq_true', decide_eq_true_eq] at bz
      obtain ⟨⟨az, gz⟩, nz⟩ := bz
      have hz1 : z ∈ l := (List.mem_cons.1 hz).resolve_left nz
      clear hz
      rcases List.mem_cons.1 ht with rfl | ht
      · rw [hs z (mm hz1) t mv]; exact gz
      cases at' : A t
      · exact hA z hz1 t ht az at'
      · cases gt : G v t
        · exfalso
          simp [at', gt, ne ht] at bt
        · cases g : G z t
          · rfl
          · exact absurd ⟨t, ht, z, hz1, at', az, gt, gz, by rw [hs t (mm ht) z (mm hz1)]; exact g⟩ hxy
theorem sep_step {G : Nat → Nat → Bool} {v : Nat} {l : List Nat} (hs : ∀ x ∈ v :: l, ∀ y ∈ v :: l, G x y = G y x) (hv : v ∉ l) (h : SepB G l) (hno : ¬ ∃ a b c d, Row4 G (v :: l) a b c d) :
    SepB G (v :: l) ∨ SepB (fun a b => !G a b) (v :: l) := by
  have ne : ∀ {x}, x ∈ l → x ≠ v := fun h e => hv (e ▸ h)
  have mm : ∀ {x}, x ∈ l → x ∈ v :: l := fun h => List.mem_cons_of_mem _ h
  have mv : v ∈ v :: l := List.mem_cons_self
  obtain ⟨A, ⟨x0, hx0, ax0⟩, ⟨y0, hy0, ay0⟩, hA⟩ := h
  by_cases hall : ∀ u ∈ l, G v u = true
  · right
    refine ⟨fun u => decide (u = v), ⟨v, mv, by simp⟩, ⟨x0, mm hx0, by simp [ne hx0]⟩, ?_⟩
    intro x _ y hy ax ay
    simp only [decide_eq_true_eq] at ax
    simp only [decide_eq_false_iff_not] at ay
    subst ax
    show (!G x y) = false
    rw [hall y ((List.mem_cons.1 hy).resolve_left ay)]; rfl
  have hex : ∃ u ∈ l, G v u = false := by
    apply Classical.byContradiction
    intro hn
    exact hall fun u hu => by
      cases g : G v u
      · exact absurd ⟨u, hu, g⟩ hn
      · rfl
  obtain ⟨u, hu, gu⟩ := hex
  have hA' : ∀ x ∈ l, ∀ y ∈ l, (!A x) = true → (!A y) = false → G x y = false := fun x hx y hy ax ay => by
    rw [Bool.not_eq_true'] at ax
    rw [Bool.not_eq_false'] at ay
    rw [hs x (mm hx) y (mm hy)]
    exact hA y hy x hx ay ax
  by_cases h1 : ∃ w ∈ l, A w = true ∧ G v w = true
  · by_cases h2 : ∃ w ∈ l, A w = false ∧ G v w = true
    · obtain ⟨w1, hw1, aw1, gw1⟩ := h1
      obtain ⟨w2, hw2, aw2, gw2⟩ := h2
      left
      cases au : A u
      · exact (sep_core hs hv hA' hu (by rw [au]; rfl) gu hw1 (by rw [aw1]; rfl) gw1).resolve_right hno
      · exact (sep_core hs hv hA hu au gu hw2 aw2 gw2).resolve_right hno
    · left
      refine ⟨fun z => A z || decide (z = v), ⟨v, mv, by simp⟩, ⟨y0, mm hy0, by simp [ay0, ne hy0]⟩, ?_⟩
      intro x hx y hy ax ay
      simp only [Bool.or_eq_false_iff, decide_eq_false_iff_not] at ay
      have hy1 : y ∈ l := (List.mem_cons.1 hy).resolve_left ay.2
      clear hy
      rcases List.mem_cons.1 hx with rfl | hx
      · cases g : G x y
        · rfl
        · exact absurd ⟨y, hy1, ay.1, g⟩ h2
      · simp [ne hx] at ax
        exact hA x hx y hy1 ax ay.1
  · left
    refine ⟨fun z => A z && decide (z ≠ v), ⟨x0, mm hx0, by simp [ax0, ne hx0]⟩, ⟨v, mv, by simp⟩, ?_⟩
    intro x hx y hy ax ay
    simp only [Bool.and_eq_true, decide_eq_true_eq] at ax
    have hx1 : x ∈ l := (List.mem_cons.1 hx).resolve_left ax.2
    clear hx
    rcases List.mem_cons.1 hy with rfl | hy
    · rw [hs x (mm hx1) y mv]
      cases g : G y x
      · rfl
      · exact absurd ⟨x, hx1, ax.1, g⟩ h1
    · simp [ne hy] at ay
      exact hA x hx1 y hy ax.1 ay
theorem row4_not {G : Nat → Nat → Bool} {l : List Nat} (hs : ∀ x ∈ l, ∀ y ∈ l, G x y = G y x) {a b c d : Nat} (h : Row4 (fun x y => !G x y) l a b c d) : Row4 G l c a d b := by
  have e := fun {x y : Nat} (h : (!G x y) = false) => (Bool.not_eq_false' .. ▸ h : G x y = true)
  have f := fun {x y : Nat} (h : (!G x y) = true) => (Bool.not_eq_true' .. ▸ h : G x y = false)
  refine ⟨h.hv, h.hy, h.hw, h.hx, fun q => h.nyv q.symm, h.nvw, fun q => h.nxv q.symm, h.nyw, h.nyx, fun q => h.nxw q.symm, ?_, e h.yw, ?_, f h.vw, ?_, f h.yx⟩
  · rw [hs c h.hv a h.hy]; exact e h.yv
  · rw [hs d h.hw b h.hx]; exact e h.xw
  · rw [hs c h.hv b h.hx]; exact f h.xv
/-- SEINSCHE: without four in a row they fall apart, or what they lack does. -/
theorem sep_all : ∀ (l : List Nat) (G : Nat → Nat → Bool), l.Nodup → 2 ≤ l.length → (∀ x ∈ l, ∀ y ∈ l, G x y = G y x) → (¬ ∃ a b c d, Row4 G l a b c d) → SepB G l ∨ SepB (fun a b => !G a b) l
  | [], _, _, h, _, _ => by simp at h
  | [a], _, _, h, _, _ => by simp at h
  | [v, u], G, hnd, _, hs, _ => by
    have hne : v ≠ u := fun e => by rw [e] at hnd; simp at hnd
    have hs1 := hs v (by simp) u (by simp)
    cases g : G v u
    · left
      refine ⟨fun x => decide (x = v), ⟨v, by simp, by simp⟩, ⟨u, by simp, by simp; exact fun e => hne e.symm⟩, ?_⟩
      intro x hx y hy ax ay
      simp only [decide_eq_true_eq] at ax
      simp only [decide_eq_false_iff_not] at ay
      subst ax
      have : y = u := by
        rcases List.mem_cons.1 hy with e | e
        · exact absurd e ay
        · exact List.mem_singleton.1 e
      subst this; exact g
    · right
      refine ⟨fun x => decide (x = v), ⟨v, by simp, by simp⟩, ⟨u, by simp, by simp; exact fun e => hne e.symm⟩, ?_⟩
      intro x hx y hy ax ay
      simp only [decide_eq_true_eq] at ax
      simp only [decide_eq_false_iff_not] at ay
      subst ax
      have : y = u := by
        rcases List.mem_cons.1 hy with e | e
        · exact absurd e ay
        · exact List.mem_singleton.1 e
      subst this
      show (!G x y) = false
      rw [g]; rfl
  | v :: u :: z :: l, G, hnd, _, hs, hno => by
    have hv : v ∉ u :: z :: l := (List.nodup_cons.1 hnd).1
    have hs' : ∀ x ∈ u :: z :: l, ∀ y ∈ u :: z :: l, G x y = G y x := fun x hx y hy => hs x (List.mem_cons_of_mem _ hx) y (List.mem_cons_of_mem _ hy)
    have hno' : ¬ ∃ a b c d, Row4 G (u :: z :: l) a b c d := fun ⟨a, b, c, d, h⟩ => hno ⟨a, b, c, d, List.mem_cons_of_mem _ h.hy, List.mem_cons_of_mem _ h.hx, List.mem_cons_of_mem _ h.hv, List.mem_cons_of_mem _ h.hw, h.nyx, h.nyv, h.nyw, h.nxv, h.nxw, h.nvw, h.yx, h.xv, h.vw, h.yv, h.yw, h.xw⟩
    rcases sep_all (u :: z :: l) G (List.nodup_cons.1 hnd).2 (by simp) hs' hno' with h | h
    · exact sep_step hs hv h hno
    · have hn2 : ¬ ∃ a b c d, Row4 (fun x y => !G x y) (v :: u :: z :: l) a b c d := fun ⟨a, b, c, d, h⟩ => hno ⟨c, a, d, b, row4_not hs h⟩
      rcases sep_step (G := fun x y => !G x y) (fun x hx y hy => by rw [hs x hx y hy]) hv h hn2 with h | h
      · exact .inr h
      · left
        obtain ⟨A, a1, a2, a3⟩ := h
        refine ⟨A, a1, a2, fun x hx y hy ax ay => ?_⟩
        have := a3 x hx y hy ax ay
        simpa using this
theorem abv_symm (ns : List Nat) (a b : Nat) : abvS ns a b = abvS ns b a := by unfold abvS; rw [Bool.or_comm]
/-- Four in a row of what is above or below one another go up, down and up. -/
theorem row4_zig {n : Nat} {ns : List Nat} (hok : okB n ns = true) {l : List Nat} (hl : ∀ x ∈ l, x < n) {y x v w : Nat} (h : Row4 (abvS ns) l y x v w) : ∃ a ∈ l, ∃ b ∈ l, ∃ c ∈ l, ∃ d ∈ l, zqQ ns a b c d = true := by
  have tr : ∀ {a b c : Nat}, b ∈ l → c ∈ l → lt ns a b = true → lt ns b c = true → lt ns a c = true := fun hb hc h1 h2 => okB_tr hok (hl _ hc) (hl _ hb) h2 h1
  obtain ⟨hy, hx, hv, hw, nyx, nyv, nyw, nxv, nxw, nvw, yx, xv, vw, yv, yw, xw⟩ := h
  unfold abvS at yx xv vw yv yw xw
  rw [Bool.or_eq_true] at yx xv vw
  rw [Bool.or_eq_false_iff] at yv yw xw
  unfold zqQ apZ
  rcases yx with e1 | e1
  · have e2 : lt ns v x = true := by
      rcases xv with e2 | e2
      · rw [tr hx hv e1 e2] at yv; cases yv.1
      · exact e2
    have e3 : lt ns v w = true := by
      rcases vw with e3 | e3
      · exact e3
      · rw [tr hv hx e3 e2] at xw; cases xw.2
    exact ⟨y, hy, v, hv, x, hx, w, hw, by simp [e1, e2, e3, yv, yw, xw, nyv, nyw, nxw]⟩
  · have e2 : lt ns x v = true := by
      rcases xv with e2 | e2
      · exact e2
      · rw [tr hx hy e2 e1] at yv; cases yv.2
    have e3 : lt ns w v = true := by
      rcases vw with e3 | e3
      · rw [tr hv hw e2 e3] at xw; cases xw.1
      · exact e3
    exact ⟨w, hw, x, hx, v, hv, y, hy, by simp [e1, e2, e3, yv, yw, xw, Ne.symm nyv, Ne.symm nyw, Ne.symm nxw]⟩
end Go.Proofs.YtbgecpjlopdkfaaDoor
