import Derived.Test.YtpnbehgkbfhacaaGgap
import Derived.Test.YtpnbehgkbfhacaaSatMap
set_option linter.unusedVariables false
set_option linter.unusedSimpArgs false
set_option maxRecDepth 100000
namespace Go.Proofs.Ytpnbehgkbfhacaa.K
open Go
attribute [local irreducible] SW SOps SQ SCalls retQ

/-! ### lading/ladinglaw06.awake: function 15 -/
def ladinglaw06_awake.wp (F : Nat) (H : SH) (K : Bool → SH → Prop) : Prop :=
  ∀ b1, H b1 = none →
  gap_Put.wp F 10 4 (⟨some (b1, 0), 3, 3⟩ : Sl) (SH.upd H b1 ⟨[.int .i64 3, .int .i64 4, .int .i64 7], 3, false, 3⟩) (fun s3 e4 H5 =>
    (s3 = (⟨#[3, 1, 0, 2]⟩ : ByteArray) →
      (e4 = none →
        ∃ Hr, SH.le Hr H5 ∧ K true Hr
      ) ∧ (∀ v7, e4 = some v7 →
        ∃ Hr, SH.le Hr H5 ∧ K false Hr
      )
    ) ∧ (¬ (s3 = (⟨#[3, 1, 0, 2]⟩ : ByteArray)) →
      ∃ Hr, SH.le Hr H5 ∧ K false Hr
    )
  )
set_option maxHeartbeats 8000000 in
theorem ladinglaw06_awake.sound (F : Nat) (H : SH) (K : Bool → SH → Prop) (h : ladinglaw06_awake.wp F H K) : SCalls Try.prog 15 #[] H (fun v H' => ∃ (q9 : Bool), v = .bool q9 ∧ K q9 H') := by
  unfold ladinglaw06_awake.wp at h
  refine SCalls.body Try.func15 rfl (Nat.le_of_ble_eq_true rfl) ?_
  refine SW.seq ?_
  refine SW.region ?_
  refine SOps.val (v := .bool false) rfl (wantN rfl) (fun _ => by kernel_rfl) ?_
  refine SOps.nil ?_
  refine SW.seq ?_
  refine SW.region ?_
  refine SOps.lit (E := 3) (cs := #[.int .i64 3, .int .i64 4, .int .i64 7]) rfl rfl (wantN rfl) (fun _ => by kernel_rfl) (fun b1 c2 => ?_)
  replace h := h b1 c2
  refine SOps.enter rfl (wantN rfl) (fun _ => by kernel_rfl) (gap_Put.sound F 10 4 (⟨some (b1, 0), 3, 3⟩ : Sl) (SH.upd H b1 ⟨[.int .i64 3, .int .i64 4, .int .i64 7], 3, false, 3⟩) _ h) ?_
  clear h
  rintro v H5 ⟨s3, e4, rfl, h⟩
  refine SOps.val (v := .tuple #[.string s3, errV e4]) rfl (wantN rfl) (fun _ => by kernel_rfl) ?_
  refine SOps.val (v := .string s3) rfl (wantN rfl) (fun _ => by kernel_rfl) ?_
  refine SOps.val (v := errV e4) rfl (wantN rfl) (fun _ => by kernel_rfl) ?_
  refine SOps.val (v := .string s3) rfl (wantN rfl) (fun _ => by kernel_rfl) ?_
  refine SOps.val (v := errV e4) rfl (wantN rfl) (fun _ => by kernel_rfl) ?_
  refine SOps.nil ?_
  refine SW.seq ?_
  refine SW.region ?_
  refine SOps.val (v := .string s3) rfl (wantN rfl) (fun _ => by kernel_rfl) ?_
  refine SOps.val (v := .bool (decide (s3 = (⟨#[3, 1, 0, 2]⟩ : ByteArray)))) rfl (wantN rfl) (fun w => ev_eqS rfl rfl rfl w) ?_
  refine SOps.val (v := .bool (decide (s3 = (⟨#[3, 1, 0, 2]⟩ : ByteArray)))) rfl (wantN rfl) (fun _ => by kernel_rfl) ?_
  by_cases c6 : s3 = (⟨#[3, 1, 0, 2]⟩ : ByteArray)
  · replace h := h.1 c6
    have dc6 : (decide (s3 = (⟨#[3, 1, 0, 2]⟩ : ByteArray))) = true := (decide_eq_true c6)
    refine SOps.val (v := errV e4) rfl (wantY (c := decide (s3 = (⟨#[3, 1, 0, 2]⟩ : ByteArray))) rfl rfl rfl dc6) (fun _ => by kernel_rfl) ?_
    rcases e4 with _ | v7
    · replace h := h.1 rfl
      refine SOps.val (v := .bool true) rfl (wantY (c := decide (s3 = (⟨#[3, 1, 0, 2]⟩ : ByteArray))) rfl rfl rfl dc6) (fun w => ev_errEq (e := none) rfl Try.underlying24 rfl rfl w) ?_
      refine SOps.val (v := .bool true) rfl (wantN rfl) (fun w => ev_pickT (v := .bool true) rfl (t := decide (s3 = (⟨#[3, 1, 0, 2]⟩ : ByteArray))) rfl dc6 rfl w) ?_
      refine SOps.val (v := .bool true) rfl (wantN rfl) (fun _ => by kernel_rfl) ?_
      refine SOps.nil ?_
      obtain ⟨Hr, hr, h⟩ := h
      exact SW.ret (retQ.mk (.bool true) (res1 rfl rfl) hr ⟨true, rfl, h⟩)
    · replace h := h.2 v7 rfl
      refine SOps.val (v := .bool false) rfl (wantY (c := decide (s3 = (⟨#[3, 1, 0, 2]⟩ : ByteArray))) rfl rfl rfl dc6) (fun w => ev_errEq (e := some v7) rfl Try.underlying24 rfl rfl w) ?_
      refine SOps.val (v := .bool false) rfl (wantN rfl) (fun w => ev_pickT (v := .bool false) rfl (t := decide (s3 = (⟨#[3, 1, 0, 2]⟩ : ByteArray))) rfl dc6 rfl w) ?_
      refine SOps.val (v := .bool false) rfl (wantN rfl) (fun _ => by kernel_rfl) ?_
      refine SOps.nil ?_
      obtain ⟨Hr, hr, h⟩ := h
      exact SW.ret (retQ.mk (.bool false) (res1 rfl rfl) hr ⟨false, rfl, h⟩)
  · replace h := h.2 c6
    have dc6 : (decide (s3 = (⟨#[3, 1, 0, 2]⟩ : ByteArray))) = false := (decide_eq_false c6)
    refine SOps.off rfl (wantX (c := decide (s3 = (⟨#[3, 1, 0, 2]⟩ : ByteArray))) rfl rfl rfl dc6) ?_
    refine SOps.off rfl (wantX (c := decide (s3 = (⟨#[3, 1, 0, 2]⟩ : ByteArray))) rfl rfl rfl dc6) ?_
    refine SOps.val (v := .bool false) rfl (wantN rfl) (fun w => ev_pickF (v := .bool false) rfl (t := decide (s3 = (⟨#[3, 1, 0, 2]⟩ : ByteArray))) rfl dc6 rfl w) ?_
    refine SOps.val (v := .bool false) rfl (wantN rfl) (fun _ => by kernel_rfl) ?_
    refine SOps.nil ?_
    obtain ⟨Hr, hr, h⟩ := h
    exact SW.ret (retQ.mk (.bool false) (res1 rfl rfl) hr ⟨false, rfl, h⟩)

end Go.Proofs.Ytpnbehgkbfhacaa.K
