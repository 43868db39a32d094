import Derived.Test.YtkfbmoekghbgbaaDoorErr
set_option linter.unusedVariables false
set_option linter.unusedSimpArgs false
set_option maxRecDepth 100000
namespace Go.Proofs.YtkfbmoekghbgbaaDoor.K
open Go
attribute [local irreducible] SW SOps SQ SCalls retQ

/-! ### (lading/api.Fault).Unwrap: function 106 -/
def api_Fault_Unwrap.wp (F : Nat) (x1 : Int) (e2 : Option EV) (H : SH) (K : Option EV → SH → Prop) : Prop :=
  ∀ b3, H b3 = none →
  ∃ (e5 : Option EV),
  SH.has (SH.upd H b3 ⟨[.int .i64 x1, errV e2], 91, false, 2⟩) (b3, 1) (errV e5) ∧
  ∃ Hr, SH.le Hr (SH.upd H b3 ⟨[.int .i64 x1, errV e2], 91, false, 2⟩) ∧ K e5 Hr
set_option maxHeartbeats 8000000 in
theorem api_Fault_Unwrap.sound (F : Nat) (x1 : Int) (e2 : Option EV) (H : SH) (K : Option EV → SH → Prop) (h : api_Fault_Unwrap.wp F x1 e2 H K) : SCalls Tryd.prog 106 #[.agg #[.int .i64 x1, errV e2]] H (fun v H' => ∃ (e8 : Option EV), v = errV e8 ∧ K e8 H') := by
  unfold api_Fault_Unwrap.wp at h
  refine SCalls.body Tryd.func106 rfl (Nat.le_of_ble_eq_true rfl) ?_
  refine SW.seq ?_
  refine SW.region ?_
  refine SOps.box rfl rfl (wantN rfl) (v := .agg #[.int .i64 x1, errV e2]) rfl (fun b3 c4 => ?_)
  replace h := h b3 c4
  refine SOps.val (v := errV none) rfl (wantN rfl) (fun _ => by kernel_rfl) ?_
  refine SOps.nil ?_
  refine SW.seq ?_
  refine SW.region ?_
  refine SOps.val (v := pv (some (b3, 1))) rfl (wantN rfl) (fun _ => by kernel_rfl) ?_
  obtain ⟨e5, c6, h⟩ := h
  refine SOps.rd (v := errV e5) rfl (wantN rfl) (fun w hw => ev_load1 rfl (fun _ => by kernel_rfl) (p := (b3, 1)) rfl c6 w hw) ?_
  refine SOps.val (v := errV e5) rfl (wantN rfl) (fun _ => by kernel_rfl) ?_
  refine SOps.nil ?_
  obtain ⟨Hr, hr, h⟩ := h
  exact SW.ret (retQ.mk (errV e5) (res1 rfl rfl) hr ⟨e5, rfl, h⟩)

end Go.Proofs.YtkfbmoekghbgbaaDoor.K
