import Derived.Test.YtpnbehgkbfhacaaDoorGladingref01
import Derived.Test.YtpnbehgkbfhacaaDoorGoctet
import Derived.Test.YtpnbehgkbfhacaaDoorApi2
import Derived.Test.YtpnbehgkbfhacaaDoorSatWrit
set_option linter.unusedVariables false
set_option linter.unusedSimpArgs false
set_option maxRecDepth 100000
namespace Go.Proofs.YtpnbehgkbfhacaaDoor.K
open Go
attribute [local irreducible] SW SOps SQ SCalls retQ

/-! ### lading/ladinglaw01.awake: function 9 -/
def ladinglaw01_awake.wp (F : Nat) (H : SH) (K : Bool → SH → Prop) : Prop :=
  octet_PutShort.wp F 300 H (fun s1 e2 H3 =>
    (s1 = (⟨#[172, 2]⟩ : ByteArray) →
      (e2 = none →
        octet_Turn.wp F (-1) H3 (fun x6 H7 =>
          ∃ Hr, SH.le Hr H7 ∧ K (x6 == 1) Hr
        )
      ) ∧ (∀ v5, e2 = some v5 →
        ∃ Hr, SH.le Hr H3 ∧ K false Hr
      )
    ) ∧ (¬ (s1 = (⟨#[172, 2]⟩ : ByteArray)) →
      ∃ Hr, SH.le Hr H3 ∧ K false Hr
    )
  )
set_option maxHeartbeats 8000000 in
theorem ladinglaw01_awake.sound (F : Nat) (H : SH) (K : Bool → SH → Prop) (h : ladinglaw01_awake.wp F H K) : SCalls Tryd.prog 9 #[] H (fun v H' => ∃ (q9 : Bool), v = .bool q9 ∧ K q9 H') := by
  unfold ladinglaw01_awake.wp at h
  refine SCalls.body Tryd.func9 rfl (Nat.le_of_ble_eq_true rfl) ?_
  refine SW.seq ?_
  refine SW.region ?_
  refine SOps.val (v := .bool false) rfl (wantN rfl) (fun _ => by kernel_rfl) ?_
  refine SOps.nil ?_
  refine SW.seq ?_
  refine SW.region ?_
  refine SOps.enter rfl (wantN rfl) (fun _ => by kernel_rfl) (octet_PutShort.sound F 300 H _ h) ?_
  clear h
  rintro v H3 ⟨s1, e2, rfl, h⟩
  refine SOps.val (v := .tuple #[.string s1, errV e2]) rfl (wantN rfl) (fun _ => by kernel_rfl) ?_
  refine SOps.val (v := .string s1) rfl (wantN rfl) (fun _ => by kernel_rfl) ?_
  refine SOps.val (v := errV e2) rfl (wantN rfl) (fun _ => by kernel_rfl) ?_
  refine SOps.val (v := .string s1) rfl (wantN rfl) (fun _ => by kernel_rfl) ?_
  refine SOps.val (v := errV e2) rfl (wantN rfl) (fun _ => by kernel_rfl) ?_
  refine SOps.nil ?_
  refine SW.seq ?_
  refine SW.region ?_
  refine SOps.val (v := .string s1) rfl (wantN rfl) (fun _ => by kernel_rfl) ?_
  refine SOps.val (v := .bool (decide (s1 = (⟨#[172, 2]⟩ : ByteArray)))) rfl (wantN rfl) (fun w => ev_eqS rfl rfl rfl w) ?_
  refine SOps.val (v := .bool (decide (s1 = (⟨#[172, 2]⟩ : ByteArray)))) rfl (wantN rfl) (fun _ => by kernel_rfl) ?_
  by_cases c4 : s1 = (⟨#[172, 2]⟩ : ByteArray)
  · replace h := h.1 c4
    have dc4 : (decide (s1 = (⟨#[172, 2]⟩ : ByteArray))) = true := (decide_eq_true c4)
    refine SOps.val (v := errV e2) rfl (wantY (c := decide (s1 = (⟨#[172, 2]⟩ : ByteArray))) rfl rfl rfl dc4) (fun _ => by kernel_rfl) ?_
    rcases e2 with _ | v5
    · replace h := h.1 rfl
      refine SOps.val (v := .bool true) rfl (wantY (c := decide (s1 = (⟨#[172, 2]⟩ : ByteArray))) rfl rfl rfl dc4) (fun w => ev_errEq (e := none) rfl Tryd.underlying24 rfl rfl w) ?_
      refine SOps.val (v := .bool true) rfl (wantN rfl) (fun w => ev_pickT (v := .bool true) rfl (t := decide (s1 = (⟨#[172, 2]⟩ : ByteArray))) rfl dc4 rfl w) ?_
      refine SOps.val (v := .bool true) rfl (wantN rfl) (fun _ => by kernel_rfl) ?_
      refine SOps.enter rfl (wantY (c := true) rfl rfl rfl rfl) (fun _ => by kernel_rfl) (octet_Turn.sound F (-1) H3 _ h) ?_
      clear h
      rintro v H7 ⟨x6, rfl, h⟩
      refine SOps.val (v := .bool (x6 == 1)) rfl (wantY (c := true) rfl rfl rfl rfl) (fun _ => by kernel_rfl) ?_
      refine SOps.val (v := .bool (x6 == 1)) rfl (wantN rfl) (fun w => ev_pickT (v := .bool (x6 == 1)) rfl (t := true) rfl rfl rfl w) ?_
      refine SOps.val (v := .bool (x6 == 1)) rfl (wantN rfl) (fun _ => by kernel_rfl) ?_
      refine SOps.nil ?_
      obtain ⟨Hr, hr, h⟩ := h
      exact SW.ret (retQ.mk (.bool (x6 == 1)) (res1 rfl rfl) hr ⟨(x6 == 1), rfl, h⟩)
    · replace h := h.2 v5 rfl
      refine SOps.val (v := .bool false) rfl (wantY (c := decide (s1 = (⟨#[172, 2]⟩ : ByteArray))) rfl rfl rfl dc4) (fun w => ev_errEq (e := some v5) rfl Tryd.underlying24 rfl rfl w) ?_
      refine SOps.val (v := .bool false) rfl (wantN rfl) (fun w => ev_pickT (v := .bool false) rfl (t := decide (s1 = (⟨#[172, 2]⟩ : ByteArray))) rfl dc4 rfl w) ?_
      refine SOps.val (v := .bool false) rfl (wantN rfl) (fun _ => by kernel_rfl) ?_
      refine SOps.off rfl (wantX (c := false) rfl rfl rfl rfl) ?_
      refine SOps.off rfl (wantX (c := false) rfl rfl rfl rfl) ?_
      refine SOps.val (v := .bool false) rfl (wantN rfl) (fun w => ev_pickF (v := .bool false) rfl (t := false) rfl rfl rfl w) ?_
      refine SOps.val (v := .bool false) rfl (wantN rfl) (fun _ => by kernel_rfl) ?_
      refine SOps.nil ?_
      obtain ⟨Hr, hr, h⟩ := h
      exact SW.ret (retQ.mk (.bool false) (res1 rfl rfl) hr ⟨false, rfl, h⟩)
  · replace h := h.2 c4
    have dc4 : (decide (s1 = (⟨#[172, 2]⟩ : ByteArray))) = false := (decide_eq_false c4)
    refine SOps.off rfl (wantX (c := decide (s1 = (⟨#[172, 2]⟩ : ByteArray))) rfl rfl rfl dc4) ?_
    refine SOps.off rfl (wantX (c := decide (s1 = (⟨#[172, 2]⟩ : ByteArray))) rfl rfl rfl dc4) ?_
    refine SOps.val (v := .bool false) rfl (wantN rfl) (fun w => ev_pickF (v := .bool false) rfl (t := decide (s1 = (⟨#[172, 2]⟩ : ByteArray))) rfl dc4 rfl w) ?_
    refine SOps.val (v := .bool false) rfl (wantN rfl) (fun _ => by kernel_rfl) ?_
    refine SOps.off rfl (wantX (c := false) rfl rfl rfl rfl) ?_
    refine SOps.off rfl (wantX (c := false) rfl rfl rfl rfl) ?_
    refine SOps.val (v := .bool false) rfl (wantN rfl) (fun w => ev_pickF (v := .bool false) rfl (t := false) rfl rfl rfl w) ?_
    refine SOps.val (v := .bool false) rfl (wantN rfl) (fun _ => by kernel_rfl) ?_
    refine SOps.nil ?_
    obtain ⟨Hr, hr, h⟩ := h
    exact SW.ret (retQ.mk (.bool false) (res1 rfl rfl) hr ⟨false, rfl, h⟩)

end Go.Proofs.YtpnbehgkbfhacaaDoor.K
