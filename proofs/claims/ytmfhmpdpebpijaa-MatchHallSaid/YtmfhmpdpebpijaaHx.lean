/- What the chapter on pairs comes to, in one place (plain). -/
import Derived.Test.YtmfhmpdpebpijaaHv
import Derived.Test.YtmfhmpdpebpijaaHw
set_option linter.unusedSimpArgs false
set_option linter.unusedVariables false
namespace Go.Proofs.Ytmfhmpdpebpijaa
attribute [local irreducible] QOp aL aC qL
structure Kz (l r : Nat) (to : List Nat) (W : List Int) (A B F : Nat) : Prop where
  w : (kp l r to l).w = W
  a : ndiff (2 ^ l - 1) (cz l r to (kp l r to l)) = A
  b : (ck l r to (kp l r to l) (l + r)).2 = B
  d : dfT l to (2 ^ l) = F
  mt : Mt l r to W
  ct : ctM W l + F = l
  la : A < 2 ^ l
  lb : B < 2 ^ r
  cv : cvB l to A B = true
  pc : pcTo A 10 + pcTo B 10 + F = l
  no : mtc r to l l 0 = 0 ↔ F ≠ 0
  lk : (lackO l to).isSome = true ↔ F ≠ 0
theorem kz {l r : Nat} {to : List Nat} (hc : Ctx l r to) : ∃ (W : List Int) (A B F : Nat), Kz l r to W A B F := by
  have h := koenig hc
  have hla : ndiff (2 ^ l - 1) (cz l r to (kp l r to l)) < 2 ^ l := ndiff_lt (by have : 0 < 2 ^ l := Nat.pow_pos (by decide); omega)
  have hR := h.R
  have hlb : (ck l r to (kp l r to l) (l + r)).2 < 2 ^ r := by rw [hR]; exact orTo_lt hc _ _
  refine ⟨_, _, _, _, rfl, rfl, rfl, h.def_, h.mt, ?_, hla, hlb, ?_, ?_, h.hall hc, h.lack hc⟩
  · have := cn_not (fun i => decide ((kp l r to l).w.getD i 0 = -1)) l
    unfold ctM fr
    omega
  · rw [hR]; exact cover_ok (r := r) h.z
  · rw [pcTo_10 hla hc.ht, pcTo_10 hlb hc.hm, hR]
    have := h.eq
    have := compl_pc (l := l) (Z := cz l r to (kp l r to l))
    omega
end Go.Proofs.Ytmfhmpdpebpijaa
