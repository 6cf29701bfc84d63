/- What a law is handed, read once for all; from the walk of a law to what is said of it. -/
import Derived.Test.YtbgecpjlopdkfaaDoorEngA
import Derived.ProofKit
import Derived.Deep.Slices
import Derived.OpenShut
import Derived.Stop.Joined
set_option linter.unusedSimpArgs false
set_option linter.unusedVariables false
set_option linter.unusedSectionVars false
namespace Go.Proofs.YtbgecpjlopdkfaaDoor
open Go.ChangeShapes Go.WideShapes Go.RowKit Go.Deep

def I64 (n : Int) : Prop := -9223372036854775808 ≤ n ∧ n ≤ 9223372036854775807
def noM : Nat → Prop := fun _ => False
abbrev big : Nat := 9223372036854775807

theorem noM_own {ρ : Ids} {b : Nat} (h : Own ρ [] b) : noM b := by
  obtain ⟨id, o, l, ho, _⟩ := h
  simp at ho
/-- A law is handed all that it reads: nothing is barred. -/
instance zs0 : Zs := ⟨fun _ => False⟩
theorem rd_own {w : World} {ρ : Ids} {v : Value} {d : Dat} (h : Rd w noM v d) : Rd w (Ban ρ []) v d := h.mono (Same.refl noM w) (fun _ _ h => h.elim noM_own id)

theorem flat_get {f : Nat → List Dat} {sz : Nat} : ∀ (len : Nat), (∀ i, i < len → (f i).length = sz) → ((List.range len).map f).flatten.length = len * sz ∧
    ∀ (k : Nat) d, (((List.range len).map f).flatten)[k]? = some d → ∃ i j, i < len ∧ j < sz ∧ k = i * sz + j ∧ (f i)[j]? = some d
  | 0, _ => by simp
  | len + 1, h => by
    obtain ⟨h1, h2⟩ := flat_get len (fun i hi => h i (by omega))
    rw [List.range_succ, List.map_append, List.flatten_append]
    simp only [List.map_cons, List.map_nil, List.flatten_cons, List.flatten_nil, List.append_nil]
    refine ⟨by rw [List.length_append, h1, h len (by omega), Nat.succ_mul], fun k d hk => ?_⟩
    rw [List.getElem?_append, h1] at hk
    split at hk
    · obtain ⟨i, j, hi, hj, hkk, hd⟩ := h2 k d hk
      exact ⟨i, j, by omega, hj, hkk, hd⟩
    · rename_i hge
      have hlt := (List.getElem?_eq_some_iff.1 hk).1
      rw [h len (by omega)] at hlt
      exact ⟨len, k - len * sz, by omega, hlt, by omega, hk⟩

section
variable {H : Type} {enc : TypeId × Value → H} {P : Program} {w : World} {base : Nat} {spare : Nat → Bool} {held : Bool} {fuel : Nat} {cs : List Value} {x : DataW H × List MemPlace} {t e : TypeId}

theorem rd_int (ht : P.underlying t = some (.int .i64)) (h : DataW.trod enc P w base spare held fuel t cs = some x) : ∃ n, cs = [.int .i64 n] ∧ I64 n := by
  obtain ⟨n, h1, _, h3⟩ := DataW.trod_int ht h
  refine ⟨n, h1, ?_⟩
  simp only [Lit.wf, Bool.and_eq_true, decide_eq_true_eq] at h3
  exact h3

end
end Go.Proofs.YtbgecpjlopdkfaaDoor

/- The kinds of what laws are handed; a law that is walked to 'true' is what is said of it. -/
namespace Go.Proofs.YtbgecpjlopdkfaaDoor
open Go.ChangeShapes Go.WideShapes Go.RowKit

section
variable {H : Type} {enc : TypeId × Value → H} {P : Program} {w : World} {base : Nat} {spare : Nat → Bool} {held : Bool} {t e a : TypeId} {r : Go.Reach} {b0 : Nat} {v : Value} {d : DataW H} {ps : List MemPlace}

end

def GmL (w : World) : List AV → List Value → Prop
  | [], [] => True
  | av :: l, v :: r => Gm [] w (Ban [] []) av v ∧ GmL w l r
  | _, _ => False
theorem gmL_spec {w : World} : ∀ {l : List AV} {r : List Value}, GmL w l r → r.length = l.length ∧ ∀ (i : Nat) (av : AV) (v : Value), l[i]? = some av → r[i]? = some v → Gm [] w (Ban [] []) av v
  | [], [], _ => ⟨rfl, fun i av v h => by simp at h⟩
  | av :: l, v :: r, h => by
    obtain ⟨h1, h2⟩ := gmL_spec h.2
    refine ⟨by simp [h1], fun i av' v' ha hv => ?_⟩
    cases i with
    | zero => simp at ha hv; subst ha; subst hv; exact h.1
    | succ i => exact h2 i av' v' (by simpa using ha) (by simpa using hv)

section
variable {H : Type} {enc : TypeId × Value → H}
theorem trodAll_below {P : Program} (hl : laidOutB P = true) {W W' : World} (hb : Below W.heap.size W W') : ∀ {ts : List TypeId} {vs : List Value} {ds : List (DataW H)} {ps : List MemPlace},
    (∀ t ∈ ts, P.readableRec t = true ∧ t < P.types.size) → DataW.TrodAll enc P W 0 (fun _ => true) true ts vs ds ps → (∀ x ∈ ps, x.block < W.heap.size) → DataW.TrodAll enc P W' 0 (fun b => decide (b < W.heap.size)) true ts vs ds ps
  | [], [], [], _, _, h, _ => h
  | t :: ts, v :: vs, d :: ds, _, hts, ⟨p, q, h1, h2, h3⟩, hlt => by
    subst h3
    exact ⟨p, q, Below.trod hl (hts t (by simp)).1 (hts t (by simp)).2 h1 hb (fun x hx => hlt x (by simp [hx])), trodAll_below hl hb (fun t ht => hts t (List.mem_cons_of_mem _ ht)) h2 (fun x hx => hlt x (by simp [hx])), rfl⟩

theorem trodAll_len {P : Program} {w : World} {base : Nat} {spare : Nat → Bool} {held : Bool} : ∀ {ts : List TypeId} {vs : List Value} {ds : List (DataW H)} {ps : List MemPlace}, DataW.TrodAll enc P w base spare held ts vs ds ps → ds.length = ts.length
  | [], [], [], _, _ => rfl
  | t :: ts, v :: vs, d :: ds, _, ⟨_, _, _, h2, _⟩ => by simp [trodAll_len h2]

theorem good_nil (w : World) (ht : TabG [] w []) : Good [] w [] := ⟨rfl, fun id o h => by simp at h, fun i j b h => (by obtain ⟨o, l, ho, _⟩ := h; simp at ho), fun i b h => (by obtain ⟨o, l, ho, _⟩ := h; simp at ho), fun _ h => h.elim, ht⟩
theorem law_end {P : Program} {f : FuncId} {fn : Func} {s : ChangeSpec} {B : TypeId}
    (hl : laidOutB P = true) (hres : fn.resultTypes = #[B]) (hB : P.underlying B = some .bool)
    (hts : (fn.params.toList.all fun t => P.readableRec t && decide (t < P.types.size)) = true) (hvars : s.vars = [])
    (hfnS : ∀ ds : List (DataW H), ds.length = fn.params.toList.length → s.fn H ds = ⟨[.lit (.bool true)], ds, []⟩) {W : World} {args : Array Value} {ds gs : List (DataW H)} {before : List MemPlace}
    (hW : DataW.Whole enc P fn.params.toList s.vars false W args.toList ds gs before) (ht : TabG [] W [])
    (calls : ∀ p, DataW.TrodAll enc P W 0 (fun _ => true) true fn.params.toList args.toList ds p → ∃ avs, GmL W avs args.toList ∧ AC P f avs [] (.val (.bool true)) []) :
    Calls P f args W fun e W' => ∃ v, e = .returned v ∧ s.post enc P fn false true false false W args v W' := by
  have hW' := hW
  obtain ⟨p, q, hA, hV, rfl, hfz, hnd⟩ := hW
  rw [hvars] at hV
  obtain ⟨rfl, rfl⟩ := trodVars_none hV
  obtain ⟨avs, h1, h3⟩ := calls p hA
  obtain ⟨g1, g2⟩ := gmL_spec h1
  refine (h3.2 [] W args (good_nil W ht) (by simpa using g1) (fun i av v ha hv => g2 i av v ha (by simpa using hv))).mono ?_
  rintro e W' ⟨v, ρ', rfl, hs, _, hg, _, _⟩
  have hb := hs.below (fun x _ h => noM_own h)
  have hts' : ∀ t ∈ fn.params.toList, P.readableRec t = true ∧ t < P.types.size := fun t ht => by
    have := List.all_eq_true.1 hts t ht
    simpa using this
  rw [hg.val_inv]
  have hS := hfnS (ds ++ []) (by rw [List.append_nil]; exact trodAll_len hA)
  refine ⟨_, rfl, ds, [], p ++ [], [], p, [], hW', ?_, ?_, ?_, hb.frame _, fun h => by cases h⟩
  · rw [hS, hres]
    exact ⟨[], [], ⟨1, by simp [DataW.trod, hB, Value.cells]⟩, rfl, rfl⟩
  · rw [hS, List.append_nil]
    exact trodAll_below hl hb hts' hA (fun x hx => by simpa using hW'.lt x (by simpa using hx))
  · rw [hS, hvars]
    rfl
end
end Go.Proofs.YtbgecpjlopdkfaaDoor

/- Five things handed to a law. -/
namespace Go.Proofs.YtbgecpjlopdkfaaDoor
open Go.ChangeShapes Go.WideShapes Go.RowKit
section
variable {H : Type} {enc : TypeId × Value → H} {P : Program} {w : World} {base : Nat} {spare : Nat → Bool} {held : Bool}
end
section
variable {H : Type} {enc : TypeId × Value → H} {P : Program} {w : World} {base : Nat} {spare : Nat → Bool} {held : Bool} {t e a : TypeId} {r : Go.Reach} {b0 : Nat} {v : Value} {d : DataW H} {ps : List MemPlace}
end
end Go.Proofs.YtbgecpjlopdkfaaDoor
