import Derived.Test.YtkackilhfkicoaaDoorRl
import Derived.Test.YtkackilhfkicoaaDoorRn
import Derived.Test.YtkackilhfkicoaaDoorRq
set_option linter.unusedSimpArgs false
set_option linter.unusedVariables false
set_option linter.unusedSectionVars false
set_option maxRecDepth 20000
namespace Go.Proofs.YtkackilhfkicoaaDoor
theorem bn_step {z : Int} (h1 : -23 ≤ z) (h2 : z ≤ 20) (e : Nat → Int) : ∀ m, m ≤ 11 → sumI (fun k => bn (z + 1) k * e k) (m + 1) = sumI (fun k => bn z k * e k) (m + 1) + sumI (fun k => bn z k * e (k + 1)) m
  | 0, _ => by
    show (0 : Int) + bn (z + 1) 0 * e 0 = (0 + bn z 0 * e 0) + 0
    rw [show bn (z + 1) 0 = 1 from rfl, show bn z 0 = 1 from rfl]; omega
  | m + 1, hm => by
    rw [sumI_s, bn_step h1 h2 e m (by omega), sumI_s (fun k => bn z k * e k) (m + 1), sumI_s (fun k => bn z k * e (k + 1)) m, bn_pas h1 h2 (by omega), Int.add_mul]
    omega
section
variable {n : Nat} {ns : List Nat}
/-- Lists by their last point: the number of steps may be any. -/
def zsE (n : Nat) (ns : List Nat) (z : Int) (b : Nat) : Int := sumI (fun k => bn z k * (endT n ns k b : Int)) (n + 1)
theorem endT_none (hok : okB n ns = true) {k b : Nat} (hk : n ≤ k) (hb : b < n) : endT n ns k b = 0 := by
  have h1 := chC_succ hok k
  rw [chC_top (by omega)] at h1
  have h2 : ∀ m, b < m → endT n ns k b ≤ sumTo (endT n ns k) m := fun m => by
    induction m with
    | zero => intro h; exact absurd h (Nat.not_lt_zero _)
    | succ m ih =>
      intro h
      show _ ≤ sumTo _ m + _
      by_cases e : b = m
      · subst e; omega
      · have := ih (by omega); omega
  have := h2 n hb
  omega
theorem endT_zt (hok : okB n ns = true) (k : Nat) {b : Nat} (hb : b < n) : sumI (fun a => (endT n ns k a : Int) * zt (lt ns) a b) n = endT n ns k b + endT n ns (k + 1) b := by
  have e1 : endT n ns (k + 1) b = sumTo (fun a => if lt ns a b = true then endT n ns k a else 0) n := rfl
  rw [e1, sumTo_int, sumI_congr (g := fun a => (if a = b then (endT n ns k a : Int) else 0) + ((if lt ns a b = true then endT n ns k a else 0 : Nat) : Int)) fun a ha => ?_, sumI_add]
  · rw [sumI_sgl hb fun i _ hi => if_neg hi, if_pos rfl]
  · unfold zt
    by_cases e : a = b
    · subst e
      rw [if_pos (.inl rfl), if_pos rfl, okB_irr hok ha]; simp
    · rw [if_neg e]
      cases lt ns a b <;> simp [e]
theorem zsE_step (hn : n ≤ 10) (hok : okB n ns = true) {z : Int} (h1 : -23 ≤ z) (h2 : z ≤ 20) {b : Nat} (hb : b < n) : sumI (fun a => zsE n ns z a * zt (lt ns) a b) n = zsE n ns (z + 1) b := by
  have e1 : zsE n ns (z + 1) b = sumI (fun k => bn z k * (endT n ns k b : Int)) (n + 1) + sumI (fun k => bn z k * (endT n ns (k + 1) b : Int)) n := bn_step h1 h2 (fun k => (endT n ns k b : Int)) n (by omega)
  have e2 : sumI (fun k => bn z k * (endT n ns (k + 1) b : Int)) (n + 1) = sumI (fun k => bn z k * (endT n ns (k + 1) b : Int)) n := by
    rw [sumI_s, endT_none hok (by omega) hb]; simp
  rw [e1, ← e2, ← sumI_add]
  have e3 : ∀ a, zsE n ns z a * zt (lt ns) a b = sumI (fun k => bn z k * ((endT n ns k a : Int) * zt (lt ns) a b)) (n + 1) := fun a => by
    unfold zsE
    rw [← sumI_mulR]
    exact sumI_congr fun k _ => Int.mul_assoc _ _ _
  rw [sumI_congr fun a _ => e3 a, sumI_sw]
  refine sumI_congr fun k _ => ?_
  rw [sumI_mulL, endT_zt hok k hb, Int.mul_add]
theorem zsE_zero {b : Nat} : zsE n ns 0 b = 1 := by
  unfold zsE
  have : ∀ m, sumI (fun k => bn 0 k * (endT n ns k b : Int)) (m + 1) = 1 := fun m => by
    induction m with
    | zero => rfl
    | succ m ih => rw [sumI_s, ih, bn_zero]; simp
  exact this n
theorem ztN_ends (hn : n ≤ 10) (hok : okB n ns = true) (z : Int) : ztN n ns z = sumI (fun b => zsE n ns (z - 2) b) n := by
  have hl := (cnt_len (n := n) (ns := ns))
  have e0 : (cntC n ns (2 ^ n)).length = lenC n ns (2 ^ n) := cntL_len _ _ _
  have hg : ∀ k, (cntC n ns (2 ^ n)).getD k 0 = chC n ns k := fun k => by
    by_cases hk : k < lenC n ns (2 ^ n)
    · unfold cntC
      rw [List.getD_eq_getElem?_getD, List.getElem?_map, List.getElem?_range hk]; rfl
    · rw [List.getD_eq_getElem?_getD, List.getElem?_eq_none (by omega)]
      by_cases h : chC n ns k = 0
      · rw [h]; rfl
      · exact absurd ((lenC_all hok).2 h) hk
  have e1 : ztN n ns z = sumI (fun k => (chC n ns (k + 1) : Int) * bn (z - 2) k) (n + 1) := by
    have h1 : ∀ d, sumI (fun k => (chC n ns (k + 1) : Int) * bn (z - 2) k) ((cntC n ns (2 ^ n)).length - 1 + d) = sumI (fun k => (chC n ns (k + 1) : Int) * bn (z - 2) k) ((cntC n ns (2 ^ n)).length - 1) := fun d => by
      induction d with
      | zero => rfl
      | succ d ih =>
        rw [← Nat.add_assoc, sumI_s, ih, ← hg, List.getD_eq_getElem?_getD, List.getElem?_eq_none (by omega)]
        simp
    have h2 := h1 (n + 1 - ((cntC n ns (2 ^ n)).length - 1))
    rw [Nat.add_sub_cancel' (by omega)] at h2
    rw [h2]
    unfold ztN ztT
    exact sumI_congr fun k _ => by rw [hg]
  rw [e1]
  have e2 : ∀ k, (chC n ns (k + 1) : Int) * bn (z - 2) k = sumI (fun b => bn (z - 2) k * (endT n ns k b : Int)) n := fun k => by
    rw [chC_succ hok k, sumTo_int, sumI_mulL, Int.mul_comm]
  rw [sumI_congr fun k _ => e2 k, sumI_sw]
  rfl
/-! Lists that rise or stay. -/
def mlT (n : Nat) (ns : List Nat) : Nat → Nat → Nat
  | 0, _ => 1
  | j + 1, b => sumTo (fun a => if (decide (a = b) || lt ns a b) = true then mlT n ns j a else 0) n
/-! At -1. -/
theorem rall_sH (p : Nat → Bool) (k : Nat) : (List.range (k + 1)).all p = ((List.range k).all p && p k) := by rw [List.range_succ, List.all_append]; simp
theorem zt_inv {L : Nat → Nat → Bool} (h : StO n L) (F : Nat → Int) {b : Nat} (hb : b < n) : F b = sumI (fun c => sumI (fun x => F x * zt L x c) n * nu n L c b) n := by
  have e1 : sumI (fun x => sumI (fun c => F x * (zt L x c * nu n L c b)) n) n = F b := by
    rw [sumI_congr (g := fun x => F x * if x = b then 1 else 0) fun x hx => by rw [sumI_mulL, zt_nu h hx hb]]
    rw [sumI_sgl hb fun x _ hne => by rw [if_neg hne, Int.mul_zero], if_pos rfl, Int.mul_one]
  rw [← e1, sumI_sw]
  refine sumI_congr fun c hc => ?_
  rw [← sumI_mulR]
  exact sumI_congr fun x _ => (Int.mul_assoc _ _ _).symm
theorem zt_inj {L : Nat → Nat → Bool} (h : StO n L) {F G : Nat → Int} (e : ∀ c, c < n → sumI (fun x => F x * zt L x c) n = sumI (fun x => G x * zt L x c) n) {b : Nat} (hb : b < n) : F b = G b := by
  rw [zt_inv h F hb, zt_inv h G hb]
  exact sumI_congr fun c hc => by rw [e c hc]
theorem zt_hall (hn : n ≤ 10) (hok : okB n ns = true) {a b : Nat} (ha : a < n) (hb : b < n) (hlo : ∀ c, c < n → a = c ∨ lt ns a c = true) (hhi : ∀ c, c < n → c = b ∨ lt ns c b = true) : ztN n ns (-1) = mu n (lt ns) a b := by
  have hS : StO n (lt ns) := ⟨fun i hi => okB_irr hok hi, fun i j k hi hj hk h1 h2 => okB_tr hok hk hj h2 h1⟩
  have h1 : ∀ y, y < n → zsE n ns (-1) y = if a = y then 1 else 0 := fun y hy => by
    refine zt_inj hS (G := fun y => if a = y then 1 else 0) (fun c hc => ?_) hy
    rw [zsE_step hn hok (by omega) (by omega) hc, show (-1 : Int) + 1 = 0 from rfl, zsE_zero, sumI_sgl ha fun i _ hi => by rw [if_neg (Ne.symm hi), Int.zero_mul], if_pos rfl, Int.one_mul]
    unfold zt
    rw [if_pos (hlo c hc)]
  have h2 : zsE n ns (-2) b = mu n (lt ns) a b := mu_uniq hS ha (F := zsE n ns (-2)) (fun y hy => by
    rw [zsE_step hn hok (by omega) (by omega) hy, show (-2 : Int) + 1 = -1 from rfl, h1 y hy]) hb
  rw [ztN_ends hn hok, ← h2, show (-2 : Int) = -3 + 1 from rfl, ← zsE_step hn hok (by omega) (by omega) hb]
  refine sumI_congr fun c hc => ?_
  unfold zt
  rw [if_pos (hhi c hc), Int.mul_one]; rfl
end
end Go.Proofs.YtkackilhfkicoaaDoor
