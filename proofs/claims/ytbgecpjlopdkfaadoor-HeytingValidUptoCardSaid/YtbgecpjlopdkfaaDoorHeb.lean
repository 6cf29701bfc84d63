import Derived.Test.YtbgecpjlopdkfaaDoorHea
set_option linter.unusedSimpArgs false
set_option linter.unusedVariables false
set_option linter.unusedSectionVars false
set_option maxRecDepth 20000
namespace Go.Proofs.YtbgecpjlopdkfaaDoor
set_option maxRecDepth 100000 in
set_option maxHeartbeats 1600000 in
theorem on_slow (b : Nat) (w : World) (h3 : w.cell? ⟨b, 3, none⟩ = some (.int .u32 0)) (h4 : w.cell? ⟨b, 4, none⟩ = some (.int .i32 0)) (f3 : w.frozen? ⟨b, 3, none⟩ = false) (f4 : w.frozen? ⟨b, 4, none⟩ = false) (R : World → Prop)
    (hR : ∀ w2, R w2 → w2.cell? ⟨b, 3, none⟩ = some (.int .u32 0) ∧ w2.cell? ⟨b, 4, none⟩ = some (.int .i32 1) ∧ w2.frozen? ⟨b, 3, none⟩ = false ∧ w2.frozen? ⟨b, 4, none⟩ = false)
    (hl : Calls Tryd.prog 128 #[.pointer (some ⟨b, 0, none⟩)] (w.setCell ⟨b, 4, none⟩ (.int .i32 1)) fun e w2 => e = .returned (.tuple #[]) ∧ R w2) :
    Calls Tryd.prog 154 #[.pointer (some ⟨b, 3, none⟩), .func (.func 128) #[.pointer (some ⟨b, 0, none⟩)] #[]] w fun e w' => e = .returned (.tuple #[]) ∧ ∃ w2, R w2 ∧ w' = (w2.drew.setCell ⟨b, 3, none⟩ (.int .u32 1)).setCell ⟨b, 4, none⟩ (.int .i32 0) := by
  have hld := run_call_load (P := Tryd.prog) Tryd.func168 (by kernel_rfl) (by kernel_rfl) (by kernel_rfl) .u32 (by kernel_rfl) (w := w.setCell ⟨b, 4, none⟩ (.int .i32 1)) (a := ⟨b, 3, none⟩) (x := 0) ((World.cell?_setCell_other _ ⟨b, 4, none⟩ ⟨b, 3, none⟩ _ (by simp)).trans h3)
  have hnot : ∀ (x : Bool) (w : World), (Op.unary .not (.bool x)).run Tryd.prog w = .ok (.bool (!x)) w := fun _ _ => rfl
  go_enter_defers Tryd.func154, Tryd.ntmps154
  go_wp2_with (first | (go_at_call 169; refine (on_lock ⟨b, 4, none⟩ _ h4 f4).mono ?_; rintro e w' ⟨rfl, rfl⟩) | (go_at_call 128; refine hl.mono ?_; rintro e w2 ⟨rfl, hr⟩) | (go_at_call 153; go_in))
  obtain ⟨r3, r4, g3, g4⟩ := hR w2 hr
  refine leaves_cons (f := 171) (args := #[.pointer (some ⟨b, 3, none⟩), .bool true]) (by simp) (by simp [go_sem]) ?_
  refine (on_store ⟨b, 3, none⟩ (.int .u32 0) .returning _ r3 g3).mono ?_
  rintro e u' w'' ⟨rfl, rfl, rfl⟩
  refine leaves_cons (f := 170) (args := #[.pointer (some ⟨b, 4, none⟩)]) (by simp [settle]) (by simp [go_sem]) ?_
  refine (on_unlock ⟨b, 4, none⟩ _ _ ?_ (by simp [g4])).mono ?_
  · refine (World.cell?_setCell_other _ ⟨b, 3, none⟩ ⟨b, 4, none⟩ _ (by simp)).trans ?_
    rw [World.cell?_drew]
    exact r4
  rintro e u' w'' ⟨rfl, rfl, rfl⟩
  simp [Leaves, settle, results, Tryd.results154]
  exact ⟨w2, hr, rfl⟩
set_option maxRecDepth 100000 in
set_option maxHeartbeats 1600000 in
theorem on_first (b : Nat) (w : World) (h3 : w.cell? ⟨b, 3, none⟩ = some (.int .u32 0)) (h4 : w.cell? ⟨b, 4, none⟩ = some (.int .i32 0)) (f3 : w.frozen? ⟨b, 3, none⟩ = false) (f4 : w.frozen? ⟨b, 4, none⟩ = false) (R : World → Prop)
    (hR : ∀ w2, R w2 → w2.cell? ⟨b, 3, none⟩ = some (.int .u32 0) ∧ w2.cell? ⟨b, 4, none⟩ = some (.int .i32 1) ∧ w2.frozen? ⟨b, 3, none⟩ = false ∧ w2.frozen? ⟨b, 4, none⟩ = false)
    (hl : Calls Tryd.prog 128 #[.pointer (some ⟨b, 0, none⟩)] (w.setCell ⟨b, 4, none⟩ (.int .i32 1)) fun e w2 => e = .returned (.tuple #[]) ∧ R w2) :
    Calls Tryd.prog 127 #[.pointer (some ⟨b, 3, none⟩), .func (.func 128) #[.pointer (some ⟨b, 0, none⟩)] #[]] w fun e w' => e = .returned (.tuple #[]) ∧ ∃ w2, R w2 ∧ w' = (w2.drew.setCell ⟨b, 3, none⟩ (.int .u32 1)).setCell ⟨b, 4, none⟩ (.int .i32 0) := by
  have hld := run_call_load (P := Tryd.prog) Tryd.func168 (by kernel_rfl) (by kernel_rfl) (by kernel_rfl) .u32 (by kernel_rfl) h3
  have hnot : ∀ (x : Bool) (w : World), (Op.unary .not (.bool x)).run Tryd.prog w = .ok (.bool (!x)) w := fun _ _ => rfl
  go_enter Tryd.func127, Tryd.ntmps127
  go_wp2_with (first | (go_at_call 154; refine (on_slow b _ h3 h4 f3 f4 R hR hl).mono ?_; rintro e w' ⟨rfl, hw⟩) | (go_at_call 153; go_in))
  go_end0
  exact ⟨rfl, hw⟩
theorem on_done (a : Addr) (d : Int) (hd : ¬ d = 0) (fv : Value) (w : World) (h0 : w.cell? a = some (.int .u32 d)) :
    Calls Tryd.prog 127 #[.pointer (some a), fv] w fun e w' => e = .returned (.tuple #[]) ∧ w' = w := by
  have hl := run_call_load (P := Tryd.prog) Tryd.func168 (by kernel_rfl) (by kernel_rfl) (by kernel_rfl) .u32 (by kernel_rfl) h0
  have hnot : ∀ (x : Bool) (w : World), (Op.unary .not (.bool x)).run Tryd.prog w = .ok (.bool (!x)) w := fun _ _ => rfl
  have hd' : (d != 0) = true := by simp [hd]
  go_enter Tryd.func127, Tryd.ntmps127
  go_wp2
  go_end0
  exact ⟨rfl, rfl⟩
end Go.Proofs.YtbgecpjlopdkfaaDoor
