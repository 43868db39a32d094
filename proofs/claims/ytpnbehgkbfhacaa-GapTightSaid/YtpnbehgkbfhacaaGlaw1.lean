import Derived.Test.YtpnbehgkbfhacaaGframe
import Derived.Test.YtpnbehgkbfhacaaGgap
set_option linter.unusedVariables false
set_option linter.unusedSimpArgs false
set_option maxRecDepth 100000
namespace Go.Proofs.Ytpnbehgkbfhacaa.K
open Go
attribute [local irreducible] SW SOps SQ SCalls retQ

/-! ### lading/ladinglaw01.awake: function 8 -/
def ladinglaw01_awake.wp (F : Nat) (H : SH) (K : Bool → SH → Prop) : Prop :=
  octet_PutShort.wp F 300 H (fun s1 e2 H3 =>
    (s1 = (⟨#[172, 2]⟩ : ByteArray) →
      (e2 = none →
        octet_Turn.wp F (-1) H3 (fun x6 H7 =>
          ∃ Hr, SH.le Hr H7 ∧ K (x6 == 1) Hr
        )
      ) ∧ (∀ v5, e2 = some v5 →
        ∃ Hr, SH.le Hr H3 ∧ K false Hr
      )
    ) ∧ (¬ (s1 = (⟨#[172, 2]⟩ : ByteArray)) →
      ∃ Hr, SH.le Hr H3 ∧ K false Hr
    )
  )
set_option maxHeartbeats 8000000 in
theorem ladinglaw01_awake.sound (F : Nat) (H : SH) (K : Bool → SH → Prop) (h : ladinglaw01_awake.wp F H K) : SCalls Try.prog 8 #[] H (fun v H' => ∃ (q9 : Bool), v = .bool q9 ∧ K q9 H') := by
  unfold ladinglaw01_awake.wp at h
  refine SCalls.body Try.func8 rfl (Nat.le_of_ble_eq_true rfl) ?_
  refine SW.seq ?_
  refine SW.region ?_
  refine SOps.val (v := .bool false) rfl (wantN rfl) (fun _ => by kernel_rfl) ?_
  refine SOps.nil ?_
  refine SW.seq ?_
  refine SW.region ?_
  refine SOps.enter rfl (wantN rfl) (fun _ => by kernel_rfl) (octet_PutShort.sound F 300 H _ h) ?_
  clear h
  rintro v H3 ⟨s1, e2, rfl, h⟩
  refine SOps.val (v := .tuple #[.string s1, errV e2]) rfl (wantN rfl) (fun _ => by kernel_rfl) ?_
  refine SOps.val (v := .string s1) rfl (wantN rfl) (fun _ => by kernel_rfl) ?_
  refine SOps.val (v := errV e2) rfl (wantN rfl) (fun _ => by kernel_rfl) ?_
  refine SOps.val (v := .string s1) rfl (wantN rfl) (fun _ => by kernel_rfl) ?_
  refine SOps.val (v := errV e2) rfl (wantN rfl) (fun _ => by kernel_rfl) ?_
  refine SOps.nil ?_
  refine SW.seq ?_
  refine SW.region ?_
  refine SOps.val (v := .string s1) rfl (wantN rfl) (fun _ => by kernel_rfl) ?_
  refine SOps.val (v := .bool (decide (s1 = (⟨#[172, 2]⟩ : ByteArray)))) rfl (wantN rfl) (fun w => ev_eqS rfl rfl rfl w) ?_
  refine SOps.val (v := .bool (decide (s1 = (⟨#[172, 2]⟩ : ByteArray)))) rfl (wantN rfl) (fun _ => by kernel_rfl) ?_
  by_cases c4 : s1 = (⟨#[172, 2]⟩ : ByteArray)
  · replace h := h.1 c4
    have dc4 : (decide (s1 = (⟨#[172, 2]⟩ : ByteArray))) = true := (decide_eq_true c4)
    refine SOps.val (v := errV e2) rfl (wantY (c := decide (s1 = (⟨#[172, 2]⟩ : ByteArray))) rfl rfl rfl dc4) (fun _ => by kernel_rfl) ?_
    rcases e2 with _ | v5
    · replace h := h.1 rfl
      refine SOps.val (v := .bool true) rfl (wantY (c := decide (s1 = (⟨#[172, 2]⟩ : ByteArray))) rfl rfl rfl dc4) (fun w => ev_errEq (e := none) rfl Try.underlying24 rfl rfl w) ?_
      refine SOps.val (v := .bool true) rfl (wantN rfl) (fun w => ev_pickT (v := .bool true) rfl (t := decide (s1 = (⟨#[172, 2]⟩ : ByteArray))) rfl dc4 rfl w) ?_
      refine SOps.val (v := .bool true) rfl (wantN rfl) (fun _ => by kernel_rfl) ?_
      refine SOps.enter rfl (wantY (c := true) rfl rfl rfl rfl) (fun _ => by kernel_rfl) (octet_Turn.sound F (-1) H3 _ h) ?_
      clear h
      rintro v H7 ⟨x6, rfl, h⟩
      refine SOps.val (v := .bool (x6 == 1)) rfl (wantY (c := true) rfl rfl rfl rfl) (fun _ => by kernel_rfl) ?_
      refine SOps.val (v := .bool (x6 == 1)) rfl (wantN rfl) (fun w => ev_pickT (v := .bool (x6 == 1)) rfl (t := true) rfl rfl rfl w) ?_
      refine SOps.val (v := .bool (x6 == 1)) rfl (wantN rfl) (fun _ => by kernel_rfl) ?_
      refine SOps.nil ?_
      obtain ⟨Hr, hr, h⟩ := h
      exact SW.ret (retQ.mk (.bool (x6 == 1)) (res1 rfl rfl) hr ⟨(x6 == 1), rfl, h⟩)
    · replace h := h.2 v5 rfl
      refine SOps.val (v := .bool false) rfl (wantY (c := decide (s1 = (⟨#[172, 2]⟩ : ByteArray))) rfl rfl rfl dc4) (fun w => ev_errEq (e := some v5) rfl Try.underlying24 rfl rfl w) ?_
      refine SOps.val (v := .bool false) rfl (wantN rfl) (fun w => ev_pickT (v := .bool false) rfl (t := decide (s1 = (⟨#[172, 2]⟩ : ByteArray))) rfl dc4 rfl w) ?_
      refine SOps.val (v := .bool false) rfl (wantN rfl) (fun _ => by kernel_rfl) ?_
      refine SOps.off rfl (wantX (c := false) rfl rfl rfl rfl) ?_
      refine SOps.off rfl (wantX (c := false) rfl rfl rfl rfl) ?_
      refine SOps.val (v := .bool false) rfl (wantN rfl) (fun w => ev_pickF (v := .bool false) rfl (t := false) rfl rfl rfl w) ?_
      refine SOps.val (v := .bool false) rfl (wantN rfl) (fun _ => by kernel_rfl) ?_
      refine SOps.nil ?_
      obtain ⟨Hr, hr, h⟩ := h
      exact SW.ret (retQ.mk (.bool false) (res1 rfl rfl) hr ⟨false, rfl, h⟩)
  · replace h := h.2 c4
    have dc4 : (decide (s1 = (⟨#[172, 2]⟩ : ByteArray))) = false := (decide_eq_false c4)
    refine SOps.off rfl (wantX (c := decide (s1 = (⟨#[172, 2]⟩ : ByteArray))) rfl rfl rfl dc4) ?_
    refine SOps.off rfl (wantX (c := decide (s1 = (⟨#[172, 2]⟩ : ByteArray))) rfl rfl rfl dc4) ?_
    refine SOps.val (v := .bool false) rfl (wantN rfl) (fun w => ev_pickF (v := .bool false) rfl (t := decide (s1 = (⟨#[172, 2]⟩ : ByteArray))) rfl dc4 rfl w) ?_
    refine SOps.val (v := .bool false) rfl (wantN rfl) (fun _ => by kernel_rfl) ?_
    refine SOps.off rfl (wantX (c := false) rfl rfl rfl rfl) ?_
    refine SOps.off rfl (wantX (c := false) rfl rfl rfl rfl) ?_
    refine SOps.val (v := .bool false) rfl (wantN rfl) (fun w => ev_pickF (v := .bool false) rfl (t := false) rfl rfl rfl w) ?_
    refine SOps.val (v := .bool false) rfl (wantN rfl) (fun _ => by kernel_rfl) ?_
    refine SOps.nil ?_
    obtain ⟨Hr, hr, h⟩ := h
    exact SW.ret (retQ.mk (.bool false) (res1 rfl rfl) hr ⟨false, rfl, h⟩)

/-! ### lading/ladinglaw01.OctetOnce: function 3 -/
def ladinglaw01_OctetOnce.wp (F : Nat) (s1 : ByteArray) (H : SH) (K : Bool → SH → Prop) : Prop :=
  ladinglaw01_awake.wp F  H (fun q2 H3 =>
    (q2 = true →
      ((s1.size : Int) > 300 →
        ∃ Hr, SH.le Hr H3 ∧ K true Hr
      ) ∧ (¬ ((s1.size : Int) > 300) →
        octet_Short.wp F s1 0 H3 (fun x6 x7 e8 H9 =>
          (e8 = none →
            octet_PutShort.wp F x6 H9 (fun s11 e12 H13 =>
              (e12 = none →
                0 ≤ (0 : Int) ∧
                (0 : Int) ≤ x7 ∧
                x7 ≤ (s1.size : Int) ∧
                ∃ Hr, SH.le Hr H13 ∧ K (decide (s11 = (s1.extract (0 : Int).toNat x7.toNat))) Hr
              ) ∧ (∀ v14, e12 = some v14 →
                ∃ Hr, SH.le Hr H13 ∧ K false Hr
              )
            )
          ) ∧ (∀ v10, e8 = some v10 →
            (x6 = 0 →
              ∃ Hr, SH.le Hr H9 ∧ K (x7 == 0) Hr
            ) ∧ (¬ (x6 = 0) →
              ∃ Hr, SH.le Hr H9 ∧ K false Hr
            )
          )
        )
      )
    ) ∧ (¬ (q2 = true) →
      ∃ Hr, SH.le Hr H3 ∧ K false Hr
    )
  )
set_option maxHeartbeats 8000000 in
theorem ladinglaw01_OctetOnce.sound (F : Nat) (s1 : ByteArray) (H : SH) (K : Bool → SH → Prop) (h : ladinglaw01_OctetOnce.wp F s1 H K) : SCalls Try.prog 3 #[.string s1] H (fun v H' => ∃ (q20 : Bool), v = .bool q20 ∧ K q20 H') := by
  unfold ladinglaw01_OctetOnce.wp at h
  refine SCalls.body Try.func3 rfl (Nat.le_of_ble_eq_true rfl) ?_
  refine SW.seq ?_
  refine SW.region ?_
  refine SOps.val (v := .bool false) rfl (wantN rfl) (fun _ => by kernel_rfl) ?_
  refine SOps.nil ?_
  refine SW.seq ?_
  refine SW.seq ?_
  refine SW.region ?_
  refine SOps.enter rfl (wantN rfl) (fun _ => by kernel_rfl) (ladinglaw01_awake.sound F  H _ h) ?_
  clear h
  rintro v H3 ⟨q2, rfl, h⟩
  refine SOps.val (v := .bool !q2) rfl (wantN rfl) (fun _ => by kernel_rfl) ?_
  refine SOps.nil ?_
  by_cases c4 : q2 = true
  · replace h := h.1 c4
    have dc4 : q2 = true := c4
    refine SW.cond_f (t := !q2) rfl (not_t dc4) ?_
    refine SW.skip ?_
    refine SW.seq ?_
    refine SW.seq ?_
    refine SW.region ?_
    refine SOps.val (v := .string s1) rfl (wantN rfl) (fun _ => by kernel_rfl) ?_
    refine SOps.val (v := .int .i64 (s1.size : Int)) rfl (wantN rfl) (fun _ => by kernel_rfl) ?_
    refine SOps.val (v := .bool (decide ((s1.size : Int) > 300))) rfl (wantN rfl) (fun _ => by kernel_rfl) ?_
    refine SOps.nil ?_
    by_cases c5 : (s1.size : Int) > 300
    · replace h := h.1 c5
      have dc5 : (decide ((s1.size : Int) > 300)) = true := (decide_eq_true c5)
      refine SW.cond_t (t := decide ((s1.size : Int) > 300)) rfl dc5 ?_
      refine SW.seq ?_
      refine SW.region ?_
      refine SOps.val (v := .bool true) rfl (wantN rfl) (fun _ => by kernel_rfl) ?_
      refine SOps.nil ?_
      obtain ⟨Hr, hr, h⟩ := h
      exact SW.ret (retQ.mk (.bool true) (res1 rfl rfl) hr ⟨true, rfl, h⟩)
    · replace h := h.2 c5
      have dc5 : (decide ((s1.size : Int) > 300)) = false := (decide_eq_false c5)
      refine SW.cond_f (t := decide ((s1.size : Int) > 300)) rfl dc5 ?_
      refine SW.skip ?_
      refine SW.seq ?_
      refine SW.region ?_
      refine SOps.val (v := .string s1) rfl (wantN rfl) (fun _ => by kernel_rfl) ?_
      refine SOps.enter rfl (wantN rfl) (fun _ => by kernel_rfl) (octet_Short.sound F s1 0 H3 _ h) ?_
      clear h
      rintro v H9 ⟨x6, x7, e8, rfl, h⟩
      refine SOps.val (v := .tuple #[.int .i64 x6, .int .i64 x7, errV e8]) rfl (wantN rfl) (fun _ => by kernel_rfl) ?_
      refine SOps.val (v := .int .i64 x6) rfl (wantN rfl) (fun _ => by kernel_rfl) ?_
      refine SOps.val (v := .int .i64 x7) rfl (wantN rfl) (fun _ => by kernel_rfl) ?_
      refine SOps.val (v := errV e8) rfl (wantN rfl) (fun _ => by kernel_rfl) ?_
      refine SOps.val (v := .int .i64 x6) rfl (wantN rfl) (fun _ => by kernel_rfl) ?_
      refine SOps.val (v := .int .i64 x7) rfl (wantN rfl) (fun _ => by kernel_rfl) ?_
      refine SOps.val (v := errV e8) rfl (wantN rfl) (fun _ => by kernel_rfl) ?_
      refine SOps.nil ?_
      refine SW.seq ?_
      refine SW.seq ?_
      refine SW.region ?_
      refine SOps.val (v := errV e8) rfl (wantN rfl) (fun _ => by kernel_rfl) ?_
      rcases e8 with _ | v10
      · replace h := h.1 rfl
        refine SOps.val (v := .bool false) rfl (wantN rfl) (fun w => ev_errNe (e := none) rfl Try.underlying24 rfl rfl w) ?_
        refine SOps.nil ?_
        refine SW.cond_f (t := false) rfl rfl ?_
        refine SW.skip ?_
        refine SW.seq ?_
        refine SW.region ?_
        refine SOps.val (v := .int .i64 x6) rfl (wantN rfl) (fun _ => by kernel_rfl) ?_
        refine SOps.enter rfl (wantN rfl) (fun _ => by kernel_rfl) (octet_PutShort.sound F x6 H9 _ h) ?_
        clear h
        rintro v H13 ⟨s11, e12, rfl, h⟩
        refine SOps.val (v := .tuple #[.string s11, errV e12]) rfl (wantN rfl) (fun _ => by kernel_rfl) ?_
        refine SOps.val (v := .string s11) rfl (wantN rfl) (fun _ => by kernel_rfl) ?_
        refine SOps.val (v := errV e12) rfl (wantN rfl) (fun _ => by kernel_rfl) ?_
        refine SOps.val (v := .string s11) rfl (wantN rfl) (fun _ => by kernel_rfl) ?_
        refine SOps.val (v := errV e12) rfl (wantN rfl) (fun _ => by kernel_rfl) ?_
        refine SOps.nil ?_
        refine SW.seq ?_
        refine SW.region ?_
        refine SOps.val (v := errV e12) rfl (wantN rfl) (fun _ => by kernel_rfl) ?_
        rcases e12 with _ | v14
        · replace h := h.1 rfl
          refine SOps.val (v := .bool true) rfl (wantN rfl) (fun w => ev_errEq (e := none) rfl Try.underlying24 rfl rfl w) ?_
          refine SOps.val (v := .bool true) rfl (wantN rfl) (fun _ => by kernel_rfl) ?_
          refine SOps.val (v := .string s11) rfl (wantY (c := true) rfl rfl rfl rfl) (fun _ => by kernel_rfl) ?_
          refine SOps.val (v := .string s1) rfl (wantY (c := true) rfl rfl rfl rfl) (fun _ => by kernel_rfl) ?_
          refine SOps.val (v := .int .i64 x7) rfl (wantY (c := true) rfl rfl rfl rfl) (fun _ => by kernel_rfl) ?_
          obtain ⟨c15, c16, c17, h⟩ := h
          refine SOps.val (v := .string (s1.extract (0 : Int).toNat x7.toNat)) rfl (wantY (c := true) rfl rfl rfl rfl) (fun w => ev_subS (a := (0 : Int)) (b := x7) rfl Try.underlying9 rfl (Or.inl ⟨rfl, rfl⟩) (Or.inr ⟨_, rfl⟩) c15 c16 c17 w) ?_
          refine SOps.val (v := .bool (decide (s11 = (s1.extract (0 : Int).toNat x7.toNat)))) rfl (wantY (c := true) rfl rfl rfl rfl) (fun w => ev_eqS rfl rfl rfl w) ?_
          refine SOps.val (v := .bool (decide (s11 = (s1.extract (0 : Int).toNat x7.toNat)))) rfl (wantN rfl) (fun w => ev_pickT (v := .bool (decide (s11 = (s1.extract (0 : Int).toNat x7.toNat)))) rfl (t := true) rfl rfl rfl w) ?_
          refine SOps.val (v := .bool (decide (s11 = (s1.extract (0 : Int).toNat x7.toNat)))) rfl (wantN rfl) (fun _ => by kernel_rfl) ?_
          refine SOps.nil ?_
          obtain ⟨Hr, hr, h⟩ := h
          exact SW.ret (retQ.mk (.bool (decide (s11 = (s1.extract (0 : Int).toNat x7.toNat)))) (res1 rfl rfl) hr ⟨decide (s11 = (s1.extract (0 : Int).toNat x7.toNat)), rfl, h⟩)
        · replace h := h.2 v14 rfl
          refine SOps.val (v := .bool false) rfl (wantN rfl) (fun w => ev_errEq (e := some v14) rfl Try.underlying24 rfl rfl w) ?_
          refine SOps.val (v := .bool false) rfl (wantN rfl) (fun _ => by kernel_rfl) ?_
          refine SOps.off rfl (wantX (c := false) rfl rfl rfl rfl) ?_
          refine SOps.off rfl (wantX (c := false) rfl rfl rfl rfl) ?_
          refine SOps.off rfl (wantX (c := false) rfl rfl rfl rfl) ?_
          refine SOps.off rfl (wantX (c := false) rfl rfl rfl rfl) ?_
          refine SOps.off rfl (wantX (c := false) rfl rfl rfl rfl) ?_
          refine SOps.val (v := .bool false) rfl (wantN rfl) (fun w => ev_pickF (v := .bool false) rfl (t := false) rfl rfl rfl w) ?_
          refine SOps.val (v := .bool false) rfl (wantN rfl) (fun _ => by kernel_rfl) ?_
          refine SOps.nil ?_
          obtain ⟨Hr, hr, h⟩ := h
          exact SW.ret (retQ.mk (.bool false) (res1 rfl rfl) hr ⟨false, rfl, h⟩)
      · replace h := h.2 v10 rfl
        refine SOps.val (v := .bool true) rfl (wantN rfl) (fun w => ev_errNe (e := some v10) rfl Try.underlying24 rfl rfl w) ?_
        refine SOps.nil ?_
        refine SW.cond_t (t := true) rfl rfl ?_
        refine SW.seq ?_
        refine SW.region ?_
        refine SOps.val (v := .int .i64 x6) rfl (wantN rfl) (fun _ => by kernel_rfl) ?_
        refine SOps.val (v := .bool (x6 == 0)) rfl (wantN rfl) (fun _ => by kernel_rfl) ?_
        refine SOps.val (v := .bool (x6 == 0)) rfl (wantN rfl) (fun _ => by kernel_rfl) ?_
        by_cases c18 : x6 = 0
        · replace h := h.1 c18
          have dc18 : (x6 == 0) = true := (beq_iff_eq.mpr c18)
          refine SOps.val (v := .int .i64 x7) rfl (wantY (c := (x6 == 0)) rfl rfl rfl dc18) (fun _ => by kernel_rfl) ?_
          refine SOps.val (v := .bool (x7 == 0)) rfl (wantY (c := (x6 == 0)) rfl rfl rfl dc18) (fun _ => by kernel_rfl) ?_
          refine SOps.val (v := .bool (x7 == 0)) rfl (wantN rfl) (fun w => ev_pickT (v := .bool (x7 == 0)) rfl (t := (x6 == 0)) rfl dc18 rfl w) ?_
          refine SOps.val (v := .bool (x7 == 0)) rfl (wantN rfl) (fun _ => by kernel_rfl) ?_
          refine SOps.nil ?_
          obtain ⟨Hr, hr, h⟩ := h
          exact SW.ret (retQ.mk (.bool (x7 == 0)) (res1 rfl rfl) hr ⟨(x7 == 0), rfl, h⟩)
        · replace h := h.2 c18
          have dc18 : (x6 == 0) = false := (beq_eq_false_iff_ne.mpr c18)
          refine SOps.off rfl (wantX (c := (x6 == 0)) rfl rfl rfl dc18) ?_
          refine SOps.off rfl (wantX (c := (x6 == 0)) rfl rfl rfl dc18) ?_
          refine SOps.val (v := .bool false) rfl (wantN rfl) (fun w => ev_pickF (v := .bool false) rfl (t := (x6 == 0)) rfl dc18 rfl w) ?_
          refine SOps.val (v := .bool false) rfl (wantN rfl) (fun _ => by kernel_rfl) ?_
          refine SOps.nil ?_
          obtain ⟨Hr, hr, h⟩ := h
          exact SW.ret (retQ.mk (.bool false) (res1 rfl rfl) hr ⟨false, rfl, h⟩)
  · replace h := h.2 c4
    have dc4 : q2 = false := (Bool.eq_false_iff.mpr c4)
    refine SW.cond_t (t := !q2) rfl (not_f dc4) ?_
    refine SW.seq ?_
    refine SW.region ?_
    refine SOps.val (v := .bool false) rfl (wantN rfl) (fun _ => by kernel_rfl) ?_
    refine SOps.nil ?_
    obtain ⟨Hr, hr, h⟩ := h
    exact SW.ret (retQ.mk (.bool false) (res1 rfl rfl) hr ⟨false, rfl, h⟩)

/-! ### lading/ladinglaw03.awake: function 11 -/
def ladinglaw03_awake.wp (F : Nat) (H : SH) (K : Bool → SH → Prop) : Prop :=
  frame_Seal.wp F (⟨#[120]⟩ : ByteArray) H (fun s1 e2 H3 =>
    frame_Open.wp F s1 H3 (fun s4 e5 H6 =>
      ∀ b7, H6 b7 = none →
      frame_Sum.wp F (⟨some (b7, 0), 1, 1⟩ : Sl) (SH.upd H6 b7 ⟨[.string (⟨#[49, 50, 51, 52, 53, 54, 55, 56, 57]⟩ : ByteArray)], 9, false, 1⟩) (fun x9 H10 =>
        (x9 = 3808858755 →
          (e2 = none →
            (e5 = none →
              ∃ Hr, SH.le Hr H10 ∧ K (decide (s4 = (⟨#[120]⟩ : ByteArray))) Hr
            ) ∧ (∀ v13, e5 = some v13 →
              ∃ Hr, SH.le Hr H10 ∧ K false Hr
            )
          ) ∧ (∀ v12, e2 = some v12 →
            ∃ Hr, SH.le Hr H10 ∧ K false Hr
          )
        ) ∧ (¬ (x9 = 3808858755) →
          ∃ Hr, SH.le Hr H10 ∧ K false Hr
        )
      )
    )
  )
set_option maxHeartbeats 8000000 in
theorem ladinglaw03_awake.sound (F : Nat) (H : SH) (K : Bool → SH → Prop) (h : ladinglaw03_awake.wp F H K) : SCalls Try.prog 11 #[] H (fun v H' => ∃ (q15 : Bool), v = .bool q15 ∧ K q15 H') := by
  unfold ladinglaw03_awake.wp at h
  refine SCalls.body Try.func11 rfl (Nat.le_of_ble_eq_true rfl) ?_
  refine SW.seq ?_
  refine SW.region ?_
  refine SOps.val (v := .bool false) rfl (wantN rfl) (fun _ => by kernel_rfl) ?_
  refine SOps.nil ?_
  refine SW.seq ?_
  refine SW.region ?_
  refine SOps.enter rfl (wantN rfl) (fun _ => by kernel_rfl) (frame_Seal.sound F (⟨#[120]⟩ : ByteArray) H _ h) ?_
  clear h
  rintro v H3 ⟨s1, e2, rfl, h⟩
  refine SOps.val (v := .tuple #[.string s1, errV e2]) rfl (wantN rfl) (fun _ => by kernel_rfl) ?_
  refine SOps.val (v := .string s1) rfl (wantN rfl) (fun _ => by kernel_rfl) ?_
  refine SOps.val (v := errV e2) rfl (wantN rfl) (fun _ => by kernel_rfl) ?_
  refine SOps.val (v := .string s1) rfl (wantN rfl) (fun _ => by kernel_rfl) ?_
  refine SOps.val (v := errV e2) rfl (wantN rfl) (fun _ => by kernel_rfl) ?_
  refine SOps.nil ?_
  refine SW.seq ?_
  refine SW.region ?_
  refine SOps.val (v := .string s1) rfl (wantN rfl) (fun _ => by kernel_rfl) ?_
  refine SOps.enter rfl (wantN rfl) (fun _ => by kernel_rfl) (frame_Open.sound F s1 H3 _ h) ?_
  clear h
  rintro v H6 ⟨s4, e5, rfl, h⟩
  refine SOps.val (v := .tuple #[.string s4, errV e5]) rfl (wantN rfl) (fun _ => by kernel_rfl) ?_
  refine SOps.val (v := .string s4) rfl (wantN rfl) (fun _ => by kernel_rfl) ?_
  refine SOps.val (v := errV e5) rfl (wantN rfl) (fun _ => by kernel_rfl) ?_
  refine SOps.val (v := .string s4) rfl (wantN rfl) (fun _ => by kernel_rfl) ?_
  refine SOps.val (v := errV e5) rfl (wantN rfl) (fun _ => by kernel_rfl) ?_
  refine SOps.nil ?_
  refine SW.seq ?_
  refine SW.region ?_
  refine SOps.lit (E := 9) (cs := #[.string (⟨#[49, 50, 51, 52, 53, 54, 55, 56, 57]⟩ : ByteArray)]) rfl rfl (wantN rfl) (fun _ => by kernel_rfl) (fun b7 c8 => ?_)
  replace h := h b7 c8
  refine SOps.enter rfl (wantN rfl) (fun _ => by kernel_rfl) (frame_Sum.sound F (⟨some (b7, 0), 1, 1⟩ : Sl) (SH.upd H6 b7 ⟨[.string (⟨#[49, 50, 51, 52, 53, 54, 55, 56, 57]⟩ : ByteArray)], 9, false, 1⟩) _ h) ?_
  clear h
  rintro v H10 ⟨x9, rfl, h⟩
  refine SOps.val (v := .bool (x9 == 3808858755)) rfl (wantN rfl) (fun _ => by kernel_rfl) ?_
  refine SOps.val (v := .bool (x9 == 3808858755)) rfl (wantN rfl) (fun _ => by kernel_rfl) ?_
  by_cases c11 : x9 = 3808858755
  · replace h := h.1 c11
    have dc11 : (x9 == 3808858755) = true := (beq_iff_eq.mpr c11)
    refine SOps.val (v := errV e2) rfl (wantY (c := (x9 == 3808858755)) rfl rfl rfl dc11) (fun _ => by kernel_rfl) ?_
    rcases e2 with _ | v12
    · replace h := h.1 rfl
      refine SOps.val (v := .bool true) rfl (wantY (c := (x9 == 3808858755)) rfl rfl rfl dc11) (fun w => ev_errEq (e := none) rfl Try.underlying24 rfl rfl w) ?_
      refine SOps.val (v := .bool true) rfl (wantN rfl) (fun w => ev_pickT (v := .bool true) rfl (t := (x9 == 3808858755)) rfl dc11 rfl w) ?_
      refine SOps.val (v := .bool true) rfl (wantN rfl) (fun _ => by kernel_rfl) ?_
      refine SOps.val (v := errV e5) rfl (wantY (c := true) rfl rfl rfl rfl) (fun _ => by kernel_rfl) ?_
      rcases e5 with _ | v13
      · replace h := h.1 rfl
        refine SOps.val (v := .bool true) rfl (wantY (c := true) rfl rfl rfl rfl) (fun w => ev_errEq (e := none) rfl Try.underlying24 rfl rfl w) ?_
        refine SOps.val (v := .bool true) rfl (wantN rfl) (fun w => ev_pickT (v := .bool true) rfl (t := true) rfl rfl rfl w) ?_
        refine SOps.val (v := .bool true) rfl (wantN rfl) (fun _ => by kernel_rfl) ?_
        refine SOps.val (v := .string s4) rfl (wantY (c := true) rfl rfl rfl rfl) (fun _ => by kernel_rfl) ?_
        refine SOps.val (v := .bool (decide (s4 = (⟨#[120]⟩ : ByteArray)))) rfl (wantY (c := true) rfl rfl rfl rfl) (fun w => ev_eqS rfl rfl rfl w) ?_
        refine SOps.val (v := .bool (decide (s4 = (⟨#[120]⟩ : ByteArray)))) rfl (wantN rfl) (fun w => ev_pickT (v := .bool (decide (s4 = (⟨#[120]⟩ : ByteArray)))) rfl (t := true) rfl rfl rfl w) ?_
        refine SOps.val (v := .bool (decide (s4 = (⟨#[120]⟩ : ByteArray)))) rfl (wantN rfl) (fun _ => by kernel_rfl) ?_
        refine SOps.nil ?_
        obtain ⟨Hr, hr, h⟩ := h
        exact SW.ret (retQ.mk (.bool (decide (s4 = (⟨#[120]⟩ : ByteArray)))) (res1 rfl rfl) hr ⟨decide (s4 = (⟨#[120]⟩ : ByteArray)), rfl, h⟩)
      · replace h := h.2 v13 rfl
        refine SOps.val (v := .bool false) rfl (wantY (c := true) rfl rfl rfl rfl) (fun w => ev_errEq (e := some v13) rfl Try.underlying24 rfl rfl w) ?_
        refine SOps.val (v := .bool false) rfl (wantN rfl) (fun w => ev_pickT (v := .bool false) rfl (t := true) rfl rfl rfl w) ?_
        refine SOps.val (v := .bool false) rfl (wantN rfl) (fun _ => by kernel_rfl) ?_
        refine SOps.off rfl (wantX (c := false) rfl rfl rfl rfl) ?_
        refine SOps.off rfl (wantX (c := false) rfl rfl rfl rfl) ?_
        refine SOps.val (v := .bool false) rfl (wantN rfl) (fun w => ev_pickF (v := .bool false) rfl (t := false) rfl rfl rfl w) ?_
        refine SOps.val (v := .bool false) rfl (wantN rfl) (fun _ => by kernel_rfl) ?_
        refine SOps.nil ?_
        obtain ⟨Hr, hr, h⟩ := h
        exact SW.ret (retQ.mk (.bool false) (res1 rfl rfl) hr ⟨false, rfl, h⟩)
    · replace h := h.2 v12 rfl
      refine SOps.val (v := .bool false) rfl (wantY (c := (x9 == 3808858755)) rfl rfl rfl dc11) (fun w => ev_errEq (e := some v12) rfl Try.underlying24 rfl rfl w) ?_
      refine SOps.val (v := .bool false) rfl (wantN rfl) (fun w => ev_pickT (v := .bool false) rfl (t := (x9 == 3808858755)) rfl dc11 rfl w) ?_
      refine SOps.val (v := .bool false) rfl (wantN rfl) (fun _ => by kernel_rfl) ?_
      refine SOps.off rfl (wantX (c := false) rfl rfl rfl rfl) ?_
      refine SOps.off rfl (wantX (c := false) rfl rfl rfl rfl) ?_
      refine SOps.val (v := .bool false) rfl (wantN rfl) (fun w => ev_pickF (v := .bool false) rfl (t := false) rfl rfl rfl w) ?_
      refine SOps.val (v := .bool false) rfl (wantN rfl) (fun _ => by kernel_rfl) ?_
      refine SOps.off rfl (wantX (c := false) rfl rfl rfl rfl) ?_
      refine SOps.off rfl (wantX (c := false) rfl rfl rfl rfl) ?_
      refine SOps.val (v := .bool false) rfl (wantN rfl) (fun w => ev_pickF (v := .bool false) rfl (t := false) rfl rfl rfl w) ?_
      refine SOps.val (v := .bool false) rfl (wantN rfl) (fun _ => by kernel_rfl) ?_
      refine SOps.nil ?_
      obtain ⟨Hr, hr, h⟩ := h
      exact SW.ret (retQ.mk (.bool false) (res1 rfl rfl) hr ⟨false, rfl, h⟩)
  · replace h := h.2 c11
    have dc11 : (x9 == 3808858755) = false := (beq_eq_false_iff_ne.mpr c11)
    refine SOps.off rfl (wantX (c := (x9 == 3808858755)) rfl rfl rfl dc11) ?_
    refine SOps.off rfl (wantX (c := (x9 == 3808858755)) rfl rfl rfl dc11) ?_
    refine SOps.val (v := .bool false) rfl (wantN rfl) (fun w => ev_pickF (v := .bool false) rfl (t := (x9 == 3808858755)) rfl dc11 rfl w) ?_
    refine SOps.val (v := .bool false) rfl (wantN rfl) (fun _ => by kernel_rfl) ?_
    refine SOps.off rfl (wantX (c := false) rfl rfl rfl rfl) ?_
    refine SOps.off rfl (wantX (c := false) rfl rfl rfl rfl) ?_
    refine SOps.val (v := .bool false) rfl (wantN rfl) (fun w => ev_pickF (v := .bool false) rfl (t := false) rfl rfl rfl w) ?_
    refine SOps.val (v := .bool false) rfl (wantN rfl) (fun _ => by kernel_rfl) ?_
    refine SOps.off rfl (wantX (c := false) rfl rfl rfl rfl) ?_
    refine SOps.off rfl (wantX (c := false) rfl rfl rfl rfl) ?_
    refine SOps.val (v := .bool false) rfl (wantN rfl) (fun w => ev_pickF (v := .bool false) rfl (t := false) rfl rfl rfl w) ?_
    refine SOps.val (v := .bool false) rfl (wantN rfl) (fun _ => by kernel_rfl) ?_
    refine SOps.nil ?_
    obtain ⟨Hr, hr, h⟩ := h
    exact SW.ret (retQ.mk (.bool false) (res1 rfl rfl) hr ⟨false, rfl, h⟩)

/-! ### lading/ladinglaw03.FrameLinear: function 4 -/
def ladinglaw03_FrameLinear.r1 (F : Nat) (K : Bool → SH → Prop) (R1 : Int → Nat → Int → Sl → Sl → Int → Int → SH → Prop) (x30 : Int) (b31 : Nat) (x32 : Int) (l33 : Sl) (l34 : Sl) (x35 : Int) (x36 : Int) (H : SH) : Prop :=
  (x36 < x35 →
    ∃ p38, l33.a = some p38 ∧ 0 ≤ x36 ∧ x36 < (l33.len : Int) ∧
    ∃ (x42 : Int),
    SH.has H (p38.1, (p38.2 + x36.toNat * 1)) (.int .u8 x42) ∧
    ∃ (s44 : ByteArray),
    SH.has H (b31, 2) (.string s44) ∧
    0 ≤ x36 ∧
    x36 < (s44.size : Int) ∧
    ∃ p48, l33.a = some p48 ∧ 0 ≤ x36 ∧ x36 < (l33.len : Int) ∧
    SH.wrs H (p48.1, (p48.2 + x36.toNat * 1)) 1 ∧
    ∃ p53, l34.a = some p53 ∧ 0 ≤ x36 ∧ x36 < (l34.len : Int) ∧
    ∃ (x57 : Int),
    SH.has (SH.setl H (p48.1, (p48.2 + x36.toNat * 1)) [.int .u8 (ibits .xor .u8 x42 (bt s44 x36))]) (p53.1, (p53.2 + x36.toNat * 1)) (.int .u8 x57) ∧
    ∃ (s59 : ByteArray),
    SH.has (SH.setl H (p48.1, (p48.2 + x36.toNat * 1)) [.int .u8 (ibits .xor .u8 x42 (bt s44 x36))]) (b31, 2) (.string s59) ∧
    0 ≤ x36 ∧
    x36 < (s59.size : Int) ∧
    ∃ p63, l34.a = some p63 ∧ 0 ≤ x36 ∧ x36 < (l34.len : Int) ∧
    SH.wrs (SH.setl H (p48.1, (p48.2 + x36.toNat * 1)) [.int .u8 (ibits .xor .u8 x42 (bt s44 x36))]) (p63.1, (p63.2 + x36.toNat * 1)) 1 ∧
    R1 x30 b31 x32 l33 l34 x35 (w64 (x36 + 1)) (SH.setl (SH.setl H (p48.1, (p48.2 + x36.toNat * 1)) [.int .u8 (ibits .xor .u8 x42 (bt s44 x36))]) (p63.1, (p63.2 + x36.toNat * 1)) [.int .u8 (ibits .xor .u8 x57 (bt s59 x36))])
  ) ∧ (¬ (x36 < x35) →
    ∃ (s68 : ByteArray),
    SH.has H (b31, 0) (.string s68) ∧
    0 ≤ (0 : Int) ∧
    (0 : Int) ≤ x32 ∧
    x32 ≤ (s68.size : Int) ∧
    (w64 (x32 + 1)) ≠ 0 ∧
    ∃ (x76 : Int),
    (∀ b74, H b74 = none →  frame_Sum.wp F (⟨some (b74, 0), 1, 1⟩ : Sl) (SH.upd H b74 (⟨[.string (s68.extract (0 : Int).toNat x32.toNat)], 9, false, 1⟩ : AO)) (fun x76' H' => x76' = x76 ∧ SH.le (SH.upd H b74 (⟨[.string (s68.extract (0 : Int).toNat x32.toNat)], 9, false, 1⟩ : AO)) H')) ∧
    ∃ (s78 : ByteArray),
    SH.has H (b31, 1) (.string s78) ∧
    0 ≤ (0 : Int) ∧
    (0 : Int) ≤ x32 ∧
    x32 ≤ (s78.size : Int) ∧
    ∃ (x85 : Int),
    (∀ b83, H b83 = none →  frame_Sum.wp F (⟨some (b83, 0), 1, 1⟩ : Sl) (SH.upd H b83 (⟨[.string (s78.extract (0 : Int).toNat x32.toNat)], 9, false, 1⟩ : AO)) (fun x85' H' => x85' = x85 ∧ SH.le (SH.upd H b83 (⟨[.string (s78.extract (0 : Int).toNat x32.toNat)], 9, false, 1⟩ : AO)) H')) ∧
    ∃ bs87 : List UInt8,
    l33.len = bs87.length ∧
    SH.row H l33.a (byteCells bs87) ∧
    ∃ (x92 : Int),
    (∀ b90, H b90 = none →  frame_Sum.wp F (⟨some (b90, 0), 1, 1⟩ : Sl) (SH.upd H b90 (⟨[.string (⟨bs87.toArray⟩ : ByteArray)], 9, false, 1⟩ : AO)) (fun x92' H' => x92' = x92 ∧ SH.le (SH.upd H b90 (⟨[.string (⟨bs87.toArray⟩ : ByteArray)], 9, false, 1⟩ : AO)) H')) ∧
    ∃ bs94 : List UInt8,
    l34.len = bs94.length ∧
    SH.row H l34.a (byteCells bs94) ∧
    ∃ (x99 : Int),
    (∀ b97, H b97 = none →  frame_Sum.wp F (⟨some (b97, 0), 1, 1⟩ : Sl) (SH.upd H b97 (⟨[.string (⟨bs94.toArray⟩ : ByteArray)], 9, false, 1⟩ : AO)) (fun x99' H' => x99' = x99 ∧ SH.le (SH.upd H b97 (⟨[.string (⟨bs94.toArray⟩ : ByteArray)], 9, false, 1⟩ : AO)) H')) ∧
    ((ibits .xor .i64 x76 x85) = (ibits .xor .i64 x92 x99) →
      0 ≤ (0 : Int) ∧
      (0 : Int) ≤ ((w64 x30).tmod (w64 (x32 + 1))) ∧
      ((w64 x30).tmod (w64 (x32 + 1))) ≤ ((s68.extract (0 : Int).toNat x32.toNat).size : Int) ∧
      0 ≤ ((w64 x30).tmod (w64 (x32 + 1))) ∧
      ((w64 x30).tmod (w64 (x32 + 1))) ≤ ((s68.extract (0 : Int).toNat x32.toNat).size : Int) ∧
      ((s68.extract (0 : Int).toNat x32.toNat).size : Int) ≤ ((s68.extract (0 : Int).toNat x32.toNat).size : Int) ∧
      ∃ (x110 : Int),
      (∀ b108, H b108 = none →  frame_Sum.wp F (⟨some (b108, 0), 3, 3⟩ : Sl) (SH.upd H b108 (⟨[.string ((s68.extract (0 : Int).toNat x32.toNat).extract (0 : Int).toNat ((w64 x30).tmod (w64 (x32 + 1))).toNat), .string ByteArray.empty, .string ((s68.extract (0 : Int).toNat x32.toNat).extract ((w64 x30).tmod (w64 (x32 + 1))).toNat ((s68.extract (0 : Int).toNat x32.toNat).size : Int).toNat)], 9, false, 3⟩ : AO)) (fun x110' H' => x110' = x110 ∧ SH.le (SH.upd H b108 (⟨[.string ((s68.extract (0 : Int).toNat x32.toNat).extract (0 : Int).toNat ((w64 x30).tmod (w64 (x32 + 1))).toNat), .string ByteArray.empty, .string ((s68.extract (0 : Int).toNat x32.toNat).extract ((w64 x30).tmod (w64 (x32 + 1))).toNat ((s68.extract (0 : Int).toNat x32.toNat).size : Int).toNat)], 9, false, 3⟩ : AO)) H')) ∧
      ∃ (x114 : Int),
      (∀ b112, H b112 = none →  frame_Sum.wp F (⟨some (b112, 0), 1, 1⟩ : Sl) (SH.upd H b112 (⟨[.string (s68.extract (0 : Int).toNat x32.toNat)], 9, false, 1⟩ : AO)) (fun x114' H' => x114' = x114 ∧ SH.le (SH.upd H b112 (⟨[.string (s68.extract (0 : Int).toNat x32.toNat)], 9, false, 1⟩ : AO)) H')) ∧
      ∃ Hr, SH.le Hr H ∧ K (x110 == x114) Hr
    ) ∧ (¬ ((ibits .xor .i64 x76 x85) = (ibits .xor .i64 x92 x99)) →
      ∃ Hr, SH.le Hr H ∧ K false Hr
    )
  )
def ladinglaw03_FrameLinear.l1 (F : Nat) (K : Bool → SH → Prop) : Nat → Int → Nat → Int → Sl → Sl → Int → Int → SH → Prop
  | 0, _, _, _, _, _, _, _, _ => False
  | k + 1, x30, b31, x32, l33, l34, x35, x36, H => ladinglaw03_FrameLinear.r1 F K (ladinglaw03_FrameLinear.l1 F K k) x30 b31 x32 l33 l34 x35 x36 H
def ladinglaw03_FrameLinear.wp (F : Nat) (s1 : ByteArray) (s2 : ByteArray) (s3 : ByteArray) (x4 : Int) (H : SH) (K : Bool → SH → Prop) : Prop :=
  ∀ b5, H b5 = none →
  ladinglaw03_awake.wp F  (SH.upd H b5 ⟨[.string s1, .string s2, .string s3], 30, false, 3⟩) (fun q7 H8 =>
    (q7 = true →
      ∃ (s10 : ByteArray),
      SH.has H8 (b5, 0) (.string s10) ∧
      ∃ (s12 : ByteArray),
      SH.has H8 (b5, 1) (.string s12) ∧
      ∃ (s14 : ByteArray),
      SH.has H8 (b5, 2) (.string s14) ∧
      ∃ (s16 : ByteArray),
      SH.has H8 (b5, 0) (.string s16) ∧
      0 ≤ (0 : Int) ∧
      (0 : Int) ≤ (imin (imin (imin (s10.size : Int) (s12.size : Int)) (s14.size : Int)) 300) ∧
      (imin (imin (imin (s10.size : Int) (s12.size : Int)) (s14.size : Int)) 300) ≤ (s16.size : Int) ∧
      ∃ (s23 : ByteArray),
      SH.has H8 (b5, 1) (.string s23) ∧
      0 ≤ (0 : Int) ∧
      (0 : Int) ≤ (imin (imin (imin (s10.size : Int) (s12.size : Int)) (s14.size : Int)) 300) ∧
      (imin (imin (imin (s10.size : Int) (s12.size : Int)) (s14.size : Int)) 300) ≤ (s23.size : Int) ∧
      ∀ b21 n22, H8 b21 = none → (s16.extract (0 : Int).toNat (imin (imin (imin (s10.size : Int) (s12.size : Int)) (s14.size : Int)) 300).toNat).size ≤ n22 → 
      ∀ b28 n29, H8 b28 = none → (s23.extract (0 : Int).toNat (imin (imin (imin (s10.size : Int) (s12.size : Int)) (s14.size : Int)) 300).toNat).size ≤ n29 → b28 ≠ b21 → 
      ladinglaw03_FrameLinear.l1 F K F x4 b5 (imin (imin (imin (s10.size : Int) (s12.size : Int)) (s14.size : Int)) 300) (⟨some (b21, 0), (s16.extract (0 : Int).toNat (imin (imin (imin (s10.size : Int) (s12.size : Int)) (s14.size : Int)) 300).toNat).size, n22⟩ : Sl) (⟨some (b28, 0), (s23.extract (0 : Int).toNat (imin (imin (imin (s10.size : Int) (s12.size : Int)) (s14.size : Int)) 300).toNat).size, n29⟩ : Sl) ((⟨some (b21, 0), (s16.extract (0 : Int).toNat (imin (imin (imin (s10.size : Int) (s12.size : Int)) (s14.size : Int)) 300).toNat).size, n22⟩ : Sl).len : Int) 0 (SH.upd (SH.upd H8 b21 (⟨byteCells (s16.extract (0 : Int).toNat (imin (imin (imin (s10.size : Int) (s12.size : Int)) (s14.size : Int)) 300).toNat).data.toList, 5, false, n22⟩ : AO)) b28 (⟨byteCells (s23.extract (0 : Int).toNat (imin (imin (imin (s10.size : Int) (s12.size : Int)) (s14.size : Int)) 300).toNat).data.toList, 5, false, n29⟩ : AO))
    ) ∧ (¬ (q7 = true) →
      ∃ Hr, SH.le Hr H8 ∧ K false Hr
    )
  )
set_option maxHeartbeats 8000000 in
theorem ladinglaw03_FrameLinear.sound (F : Nat) (s1 : ByteArray) (s2 : ByteArray) (s3 : ByteArray) (x4 : Int) (H : SH) (K : Bool → SH → Prop) (h : ladinglaw03_FrameLinear.wp F s1 s2 s3 x4 H K) : SCalls Try.prog 4 #[.agg #[.string s1, .string s2, .string s3], .int .u16 x4] H (fun v H' => ∃ (q119 : Bool), v = .bool q119 ∧ K q119 H') := by
  unfold ladinglaw03_FrameLinear.wp at h
  refine SCalls.body Try.func4 rfl (Nat.le_of_ble_eq_true rfl) ?_
  refine SW.seq ?_
  refine SW.region ?_
  refine SOps.box rfl rfl (wantN rfl) (v := .agg #[.string s1, .string s2, .string s3]) rfl (fun b5 c6 => ?_)
  replace h := h b5 c6
  refine SOps.val (v := .bool false) rfl (wantN rfl) (fun _ => by kernel_rfl) ?_
  refine SOps.nil ?_
  refine SW.seq ?_
  refine SW.seq ?_
  refine SW.region ?_
  refine SOps.enter rfl (wantN rfl) (fun _ => by kernel_rfl) (ladinglaw03_awake.sound F  (SH.upd H b5 ⟨[.string s1, .string s2, .string s3], 30, false, 3⟩) _ h) ?_
  clear h
  rintro v H8 ⟨q7, rfl, h⟩
  refine SOps.val (v := .bool !q7) rfl (wantN rfl) (fun _ => by kernel_rfl) ?_
  refine SOps.nil ?_
  by_cases c9 : q7 = true
  · replace h := h.1 c9
    have dc9 : q7 = true := c9
    refine SW.cond_f (t := !q7) rfl (not_t dc9) ?_
    refine SW.skip ?_
    refine SW.seq ?_
    refine SW.region ?_
    refine SOps.val (v := pv (some (b5, 0))) rfl (wantN rfl) (fun _ => by kernel_rfl) ?_
    obtain ⟨s10, c11, h⟩ := h
    refine SOps.rd (v := .string s10) rfl (wantN rfl) (fun w hw => ev_load1 rfl (fun _ => by kernel_rfl) (p := (b5, 0)) rfl c11 w hw) ?_
    refine SOps.val (v := .int .i64 (s10.size : Int)) rfl (wantN rfl) (fun _ => by kernel_rfl) ?_
    refine SOps.val (v := pv (some (b5, 1))) rfl (wantN rfl) (fun _ => by kernel_rfl) ?_
    obtain ⟨s12, c13, h⟩ := h
    refine SOps.rd (v := .string s12) rfl (wantN rfl) (fun w hw => ev_load1 rfl (fun _ => by kernel_rfl) (p := (b5, 1)) rfl c13 w hw) ?_
    refine SOps.val (v := .int .i64 (s12.size : Int)) rfl (wantN rfl) (fun _ => by kernel_rfl) ?_
    refine SOps.val (v := pv (some (b5, 2))) rfl (wantN rfl) (fun _ => by kernel_rfl) ?_
    obtain ⟨s14, c15, h⟩ := h
    refine SOps.rd (v := .string s14) rfl (wantN rfl) (fun w hw => ev_load1 rfl (fun _ => by kernel_rfl) (p := (b5, 2)) rfl c15 w hw) ?_
    refine SOps.val (v := .int .i64 (s14.size : Int)) rfl (wantN rfl) (fun _ => by kernel_rfl) ?_
    refine SOps.val (v := .int .i64 (imin (imin (imin (s10.size : Int) (s12.size : Int)) (s14.size : Int)) 300)) rfl (wantN rfl) (fun _ => by kernel_rfl) ?_
    refine SOps.val (v := .int .i64 (imin (imin (imin (s10.size : Int) (s12.size : Int)) (s14.size : Int)) 300)) rfl (wantN rfl) (fun _ => by kernel_rfl) ?_
    refine SOps.nil ?_
    refine SW.seq ?_
    obtain ⟨s16, c17, h⟩ := h
    obtain ⟨c18, c19, c20, h⟩ := h
    obtain ⟨s23, c24, h⟩ := h
    obtain ⟨c25, c26, c27, h⟩ := h
    refine SW.drawA [.val (pv (some (b5, 0))), .val (.string s16), .val (.int .i64 (imin (imin (imin (s10.size : Int) (s12.size : Int)) (s14.size : Int)) 300)), .val (.string (s16.extract (0 : Int).toNat (imin (imin (imin (s10.size : Int) (s12.size : Int)) (s14.size : Int)) 300).toNat)), .fresh 4 (fun b c => sv ⟨some (b, 0), (s16.extract (0 : Int).toNat (imin (imin (imin (s10.size : Int) (s12.size : Int)) (s14.size : Int)) 300).toNat).size, c⟩) (fun c => (⟨byteCells (s16.extract (0 : Int).toNat (imin (imin (imin (s10.size : Int) (s12.size : Int)) (s14.size : Int)) 300).toNat).data.toList, 5, false, c⟩ : AO)) (fun c => (s16.extract (0 : Int).toNat (imin (imin (imin (s10.size : Int) (s12.size : Int)) (s14.size : Int)) 300).toNat).size ≤ c), .val (pv (some (b5, 1))), .val (.string s23), .val (.int .i64 (imin (imin (imin (s10.size : Int) (s12.size : Int)) (s14.size : Int)) 300)), .val (.string (s23.extract (0 : Int).toNat (imin (imin (imin (s10.size : Int) (s12.size : Int)) (s14.size : Int)) 300).toNat)), .fresh 9 (fun b c => sv ⟨some (b, 0), (s23.extract (0 : Int).toNat (imin (imin (imin (s10.size : Int) (s12.size : Int)) (s14.size : Int)) 300).toNat).size, c⟩) (fun c => (⟨byteCells (s23.extract (0 : Int).toNat (imin (imin (imin (s10.size : Int) (s12.size : Int)) (s14.size : Int)) 300).toNat).data.toList, 5, false, c⟩ : AO)) (fun c => (s23.extract (0 : Int).toNat (imin (imin (imin (s10.size : Int) (s12.size : Int)) (s14.size : Int)) 300).toNat).size ≤ c), .fresh 4 (fun b c => sv ⟨some (b, 0), (s16.extract (0 : Int).toNat (imin (imin (imin (s10.size : Int) (s12.size : Int)) (s14.size : Int)) 300).toNat).size, c⟩) (fun c => (⟨byteCells (s16.extract (0 : Int).toNat (imin (imin (imin (s10.size : Int) (s12.size : Int)) (s14.size : Int)) 300).toNat).data.toList, 5, false, c⟩ : AO)) (fun c => (s16.extract (0 : Int).toNat (imin (imin (imin (s10.size : Int) (s12.size : Int)) (s14.size : Int)) 300).toNat).size ≤ c), .fresh 9 (fun b c => sv ⟨some (b, 0), (s23.extract (0 : Int).toNat (imin (imin (imin (s10.size : Int) (s12.size : Int)) (s14.size : Int)) 300).toNat).size, c⟩) (fun c => (⟨byteCells (s23.extract (0 : Int).toNat (imin (imin (imin (s10.size : Int) (s12.size : Int)) (s14.size : Int)) 300).toNat).data.toList, 5, false, c⟩ : AO)) (fun c => (s23.extract (0 : Int).toNat (imin (imin (imin (s10.size : Int) (s12.size : Int)) (s14.size : Int)) 300).toNat).size ≤ c)] (by kernel_rfl) (by kernel_rfl) (And.intro ?_ (And.intro ?_ (And.intro ?_ (And.intro ?_ (And.intro ?_ (And.intro ?_ (And.intro ?_ (And.intro ?_ (And.intro ?_ (And.intro ?_ (And.intro ?_ (And.intro ?_ (trivial))))))))))))) ?_
    · clear h
      intro fr' T' H' hle hs hA
      have a2 : fr' 2 = pv (some (b5, 0)) := hs 2 (by kernel_rfl)
      obtain ⟨g', hg'⟩ : ∃ g' : Fr, fr' = g'.upds [(2, pv (some (b5, 0)))] := ⟨_, Fr.upds_self _ _ ⟨a2, trivial⟩⟩
      subst hg'
      exact SA.val (v := pv (some (b5, 0))) rfl (wantN rfl) (fun _ => by kernel_rfl)
    · clear h
      intro fr' T' H' hle hs hA
      have a23 : fr' 23 = pv (some (b5, 0)) := hA 0 (by kernel_rfl)
      obtain ⟨g', hg'⟩ : ∃ g' : Fr, fr' = g'.upds [(23, pv (some (b5, 0)))] := ⟨_, Fr.upds_self _ _ ⟨a23, trivial⟩⟩
      subst hg'
      exact SA.rd hle (v := .string s16) rfl (wantN rfl) (fun w hw => ev_load1 rfl (fun _ => by kernel_rfl) (p := (b5, 0)) rfl c17 w hw)
    · clear h
      intro fr' T' H' hle hs hA
      have a5 : fr' 5 = (.int .i64 (imin (imin (imin (s10.size : Int) (s12.size : Int)) (s14.size : Int)) 300) : Value) := hs 5 (by kernel_rfl)
      obtain ⟨g', hg'⟩ : ∃ g' : Fr, fr' = g'.upds [(5, (.int .i64 (imin (imin (imin (s10.size : Int) (s12.size : Int)) (s14.size : Int)) 300) : Value))] := ⟨_, Fr.upds_self _ _ ⟨a5, trivial⟩⟩
      subst hg'
      exact SA.val (v := .int .i64 (imin (imin (imin (s10.size : Int) (s12.size : Int)) (s14.size : Int)) 300)) rfl (wantN rfl) (fun _ => by kernel_rfl)
    · clear h
      intro fr' T' H' hle hs hA
      have a24 : fr' 24 = (.string s16 : Value) := hA 1 (by kernel_rfl)
      have a25 : fr' 25 = (.int .i64 (imin (imin (imin (s10.size : Int) (s12.size : Int)) (s14.size : Int)) 300) : Value) := hA 2 (by kernel_rfl)
      obtain ⟨g', hg'⟩ : ∃ g' : Fr, fr' = g'.upds [(24, (.string s16 : Value)), (25, (.int .i64 (imin (imin (imin (s10.size : Int) (s12.size : Int)) (s14.size : Int)) 300) : Value))] := ⟨_, Fr.upds_self _ _ ⟨a24, a25, trivial⟩⟩
      subst hg'
      exact SA.val (v := .string (s16.extract (0 : Int).toNat (imin (imin (imin (s10.size : Int) (s12.size : Int)) (s14.size : Int)) 300).toNat)) rfl (wantN rfl) (fun w => ev_subS (a := (0 : Int)) (b := (imin (imin (imin (s10.size : Int) (s12.size : Int)) (s14.size : Int)) 300)) rfl Try.underlying9 rfl (Or.inl ⟨rfl, rfl⟩) (Or.inr ⟨_, rfl⟩) c18 c19 c20 w)
    · clear h
      intro fr' T' H' hle hs hA
      have a26 : fr' 26 = (.string (s16.extract (0 : Int).toNat (imin (imin (imin (s10.size : Int) (s12.size : Int)) (s14.size : Int)) 300).toNat) : Value) := hA 3 (by kernel_rfl)
      obtain ⟨g', hg'⟩ : ∃ g' : Fr, fr' = g'.upds [(26, (.string (s16.extract (0 : Int).toNat (imin (imin (imin (s10.size : Int) (s12.size : Int)) (s14.size : Int)) 300).toNat) : Value))] := ⟨_, Fr.upds_self _ _ ⟨a26, trivial⟩⟩
      subst hg'
      exact SA.fresh hle (fun h => SOps.bytes rfl rfl (wantN rfl) Try.underlying9 Try.underlying32 Try.underlying5 rfl (fun b c c1 c2 => h b c c1 c2))
    · clear h
      intro fr' T' H' hle hs hA
      have a2 : fr' 2 = pv (some (b5, 0)) := hs 2 (by kernel_rfl)
      obtain ⟨g', hg'⟩ : ∃ g' : Fr, fr' = g'.upds [(2, pv (some (b5, 0)))] := ⟨_, Fr.upds_self _ _ ⟨a2, trivial⟩⟩
      subst hg'
      exact SA.val (v := pv (some (b5, 1))) rfl (wantN rfl) (fun _ => by kernel_rfl)
    · clear h
      intro fr' T' H' hle hs hA
      have a28 : fr' 28 = pv (some (b5, 1)) := hA 5 (by kernel_rfl)
      obtain ⟨g', hg'⟩ : ∃ g' : Fr, fr' = g'.upds [(28, pv (some (b5, 1)))] := ⟨_, Fr.upds_self _ _ ⟨a28, trivial⟩⟩
      subst hg'
      exact SA.rd hle (v := .string s23) rfl (wantN rfl) (fun w hw => ev_load1 rfl (fun _ => by kernel_rfl) (p := (b5, 1)) rfl c24 w hw)
    · clear h
      intro fr' T' H' hle hs hA
      have a5 : fr' 5 = (.int .i64 (imin (imin (imin (s10.size : Int) (s12.size : Int)) (s14.size : Int)) 300) : Value) := hs 5 (by kernel_rfl)
      obtain ⟨g', hg'⟩ : ∃ g' : Fr, fr' = g'.upds [(5, (.int .i64 (imin (imin (imin (s10.size : Int) (s12.size : Int)) (s14.size : Int)) 300) : Value))] := ⟨_, Fr.upds_self _ _ ⟨a5, trivial⟩⟩
      subst hg'
      exact SA.val (v := .int .i64 (imin (imin (imin (s10.size : Int) (s12.size : Int)) (s14.size : Int)) 300)) rfl (wantN rfl) (fun _ => by kernel_rfl)
    · clear h
      intro fr' T' H' hle hs hA
      have a29 : fr' 29 = (.string s23 : Value) := hA 6 (by kernel_rfl)
      have a30 : fr' 30 = (.int .i64 (imin (imin (imin (s10.size : Int) (s12.size : Int)) (s14.size : Int)) 300) : Value) := hA 7 (by kernel_rfl)
      obtain ⟨g', hg'⟩ : ∃ g' : Fr, fr' = g'.upds [(29, (.string s23 : Value)), (30, (.int .i64 (imin (imin (imin (s10.size : Int) (s12.size : Int)) (s14.size : Int)) 300) : Value))] := ⟨_, Fr.upds_self _ _ ⟨a29, a30, trivial⟩⟩
      subst hg'
      exact SA.val (v := .string (s23.extract (0 : Int).toNat (imin (imin (imin (s10.size : Int) (s12.size : Int)) (s14.size : Int)) 300).toNat)) rfl (wantN rfl) (fun w => ev_subS (a := (0 : Int)) (b := (imin (imin (imin (s10.size : Int) (s12.size : Int)) (s14.size : Int)) 300)) rfl Try.underlying9 rfl (Or.inl ⟨rfl, rfl⟩) (Or.inr ⟨_, rfl⟩) c25 c26 c27 w)
    · clear h
      intro fr' T' H' hle hs hA
      have a31 : fr' 31 = (.string (s23.extract (0 : Int).toNat (imin (imin (imin (s10.size : Int) (s12.size : Int)) (s14.size : Int)) 300).toNat) : Value) := hA 8 (by kernel_rfl)
      obtain ⟨g', hg'⟩ : ∃ g' : Fr, fr' = g'.upds [(31, (.string (s23.extract (0 : Int).toNat (imin (imin (imin (s10.size : Int) (s12.size : Int)) (s14.size : Int)) 300).toNat) : Value))] := ⟨_, Fr.upds_self _ _ ⟨a31, trivial⟩⟩
      subst hg'
      exact SA.fresh hle (fun h => SOps.bytes rfl rfl (wantN rfl) Try.underlying9 Try.underlying32 Try.underlying5 rfl (fun b c c1 c2 => h b c c1 c2))
    · clear h
      intro fr' T' H' hle hs hA
      obtain ⟨b21, n22, a27, nb21, kb21, tb21, ob21⟩ := hA 4 (by kernel_rfl)
      obtain ⟨g', hg'⟩ : ∃ g' : Fr, fr' = g'.upds [(27, sv (⟨some (b21, 0), (s16.extract (0 : Int).toNat (imin (imin (imin (s10.size : Int) (s12.size : Int)) (s14.size : Int)) 300).toNat).size, n22⟩ : Sl))] := ⟨_, Fr.upds_self _ _ ⟨a27, trivial⟩⟩
      subst hg'
      exact SA.same (v := sv (⟨some (b21, 0), (s16.extract (0 : Int).toNat (imin (imin (imin (s10.size : Int) (s12.size : Int)) (s14.size : Int)) 300).toNat).size, n22⟩ : Sl)) (a := .fresh 4 (fun b c => sv ⟨some (b, 0), (s16.extract (0 : Int).toNat (imin (imin (imin (s10.size : Int) (s12.size : Int)) (s14.size : Int)) 300).toNat).size, c⟩) (fun c => (⟨byteCells (s16.extract (0 : Int).toNat (imin (imin (imin (s10.size : Int) (s12.size : Int)) (s14.size : Int)) 300).toNat).data.toList, 5, false, c⟩ : AO)) (fun c => (s16.extract (0 : Int).toNat (imin (imin (imin (s10.size : Int) (s12.size : Int)) (s14.size : Int)) 300).toNat).size ≤ c)) rfl (wantN rfl) (fun _ => by kernel_rfl) ⟨b21, n22, rfl, nb21, kb21, tb21, ob21⟩
    · clear h
      intro fr' T' H' hle hs hA
      obtain ⟨b28, n29, a32, nb28, kb28, tb28, ob28⟩ := hA 9 (by kernel_rfl)
      obtain ⟨g', hg'⟩ : ∃ g' : Fr, fr' = g'.upds [(32, sv (⟨some (b28, 0), (s23.extract (0 : Int).toNat (imin (imin (imin (s10.size : Int) (s12.size : Int)) (s14.size : Int)) 300).toNat).size, n29⟩ : Sl))] := ⟨_, Fr.upds_self _ _ ⟨a32, trivial⟩⟩
      subst hg'
      exact SA.same (v := sv (⟨some (b28, 0), (s23.extract (0 : Int).toNat (imin (imin (imin (s10.size : Int) (s12.size : Int)) (s14.size : Int)) 300).toNat).size, n29⟩ : Sl)) (a := .fresh 9 (fun b c => sv ⟨some (b, 0), (s23.extract (0 : Int).toNat (imin (imin (imin (s10.size : Int) (s12.size : Int)) (s14.size : Int)) 300).toNat).size, c⟩) (fun c => (⟨byteCells (s23.extract (0 : Int).toNat (imin (imin (imin (s10.size : Int) (s12.size : Int)) (s14.size : Int)) 300).toNat).data.toList, 5, false, c⟩ : AO)) (fun c => (s23.extract (0 : Int).toNat (imin (imin (imin (s10.size : Int) (s12.size : Int)) (s14.size : Int)) 300).toNat).size ≤ c)) rfl (wantN rfl) (fun _ => by kernel_rfl) ⟨b28, n29, rfl, nb28, kb28, tb28, ob28⟩
    · intro fr' T' H' hle hs hA
      have a1 : fr' 1 = (.int .u16 x4 : Value) := hs 1 (by kernel_rfl)
      have a2 : fr' 2 = pv (some (b5, 0)) := hs 2 (by kernel_rfl)
      have a5 : fr' 5 = (.int .i64 (imin (imin (imin (s10.size : Int) (s12.size : Int)) (s14.size : Int)) 300) : Value) := hs 5 (by kernel_rfl)
      obtain ⟨b21, n22, a6, nb21, kb21, tb21, ob21⟩ := hA 10 (Nat.le_of_ble_eq_true rfl)
      obtain ⟨b28, n29, a7, nb28, kb28, tb28, ob28⟩ := hA 11 (Nat.le_of_ble_eq_true rfl)
      obtain ⟨g', hg'⟩ : ∃ g' : Fr, fr' = g'.upds [(1, (.int .u16 x4 : Value)), (2, pv (some (b5, 0))), (5, (.int .i64 (imin (imin (imin (s10.size : Int) (s12.size : Int)) (s14.size : Int)) 300) : Value)), (6, sv (⟨some (b21, 0), (s16.extract (0 : Int).toNat (imin (imin (imin (s10.size : Int) (s12.size : Int)) (s14.size : Int)) 300).toNat).size, n22⟩ : Sl)), (7, sv (⟨some (b28, 0), (s23.extract (0 : Int).toNat (imin (imin (imin (s10.size : Int) (s12.size : Int)) (s14.size : Int)) 300).toNat).size, n29⟩ : Sl))] := ⟨_, Fr.upds_self _ _ ⟨a1, a2, a5, a6, a7, trivial⟩⟩
      subst hg'
      refine SOps.forget (SH.upd (SH.upd H8 b21 (⟨byteCells (s16.extract (0 : Int).toNat (imin (imin (imin (s10.size : Int) (s12.size : Int)) (s14.size : Int)) 300).toNat).data.toList, 5, false, n22⟩ : AO)) b28 (⟨byteCells (s23.extract (0 : Int).toNat (imin (imin (imin (s10.size : Int) (s12.size : Int)) (s14.size : Int)) 300).toNat).data.toList, 5, false, n29⟩ : AO)) (SH.le.upd_in (SH.le.upd_in hle kb21) kb28) ?_
      replace h := h b21 n22 nb21 ob21
      replace h := h b28 n29 nb28 ob28 (by rintro rfl; rw [tb21] at tb28; cases tb28)
      clear hle hs hA
      refine SOps.nil ?_
      refine SW.seq ?_
      refine SW.seq ?_
      refine SW.region ?_
      refine SOps.val (v := sv (⟨some (b21, 0), (s16.extract (0 : Int).toNat (imin (imin (imin (s10.size : Int) (s12.size : Int)) (s14.size : Int)) 300).toNat).size, n22⟩ : Sl)) rfl (wantN rfl) (fun _ => by kernel_rfl) ?_
      refine SOps.val (v := .int .i64 ((⟨some (b21, 0), (s16.extract (0 : Int).toNat (imin (imin (imin (s10.size : Int) (s12.size : Int)) (s14.size : Int)) 300).toNat).size, n22⟩ : Sl).len : Int)) rfl (wantN rfl) (fun _ => by kernel_rfl) ?_
      refine SOps.val (v := .int .i64 0) rfl (wantN rfl) (fun _ => by kernel_rfl) ?_
      refine SOps.nil ?_
      refine SW.block ?_
      refine SW.loop (fun k1 fr H => ∃ (g : Fr) (x30 : Int) (b31 : Nat) (x32 : Int) (l33 : Sl) (l34 : Sl) (x35 : Int) (x36 : Int), fr = g.upds [(1, (.int .u16 x30 : Value)), (2, pv (some (b31, 0))), (5, (.int .i64 x32 : Value)), (6, sv l33), (7, sv l34), (34, (.int .i64 x35 : Value)), (35, (.int .i64 x36 : Value))] ∧ ladinglaw03_FrameLinear.l1 F K k1 x30 b31 x32 l33 l34 x35 x36 H) F ⟨_, x4, b5, imin (imin (imin (s10.size : Int) (s12.size : Int)) (s14.size : Int)) 300, (⟨some (b21, 0), (s16.extract (0 : Int).toNat (imin (imin (imin (s10.size : Int) (s12.size : Int)) (s14.size : Int)) 300).toNat).size, n22⟩ : Sl), (⟨some (b28, 0), (s23.extract (0 : Int).toNat (imin (imin (imin (s10.size : Int) (s12.size : Int)) (s14.size : Int)) 300).toNat).size, n29⟩ : Sl), ((⟨some (b21, 0), (s16.extract (0 : Int).toNat (imin (imin (imin (s10.size : Int) (s12.size : Int)) (s14.size : Int)) 300).toNat).size, n22⟩ : Sl).len : Int), 0, (Fr.upds_self _ _ ⟨rfl, rfl, rfl, rfl, rfl, rfl, rfl, trivial⟩), h⟩ ?_
      clear h
      rintro k1 fr H ⟨g, x30, b31, x32, l33, l34, x35, x36, rfl, h⟩
      cases k1 with
      | zero => exact h.elim
      | succ k1 =>
        replace h : ladinglaw03_FrameLinear.r1 F K (ladinglaw03_FrameLinear.l1 F K k1) x30 b31 x32 l33 l34 x35 x36 H := h
        unfold ladinglaw03_FrameLinear.r1 at h
        refine SW.seq ?_
        refine SW.region ?_
        refine SOps.val (v := .bool (decide (x36 < x35))) rfl (wantN rfl) (fun _ => by kernel_rfl) ?_
        refine SOps.nil ?_
        refine SW.seq ?_
        by_cases c37 : x36 < x35
        · replace h := h.1 c37
          have dc37 : (decide (x36 < x35)) = true := (decide_eq_true c37)
          refine SW.cond_t (t := decide (x36 < x35)) rfl dc37 ?_
          refine SW.skip ?_
          refine SW.seq ?_
          refine SW.block ?_
          refine SW.seq ?_
          refine SW.region ?_
          refine SOps.val (v := .int .i64 x36) rfl (wantN rfl) (fun _ => by kernel_rfl) ?_
          refine SOps.val (v := .int .i64 x36) rfl (wantN rfl) (fun _ => by kernel_rfl) ?_
          refine SOps.nil ?_
          refine SW.seq ?_
          obtain ⟨p38, c39, c40, c41, h⟩ := h
          obtain ⟨x42, c43, h⟩ := h
          obtain ⟨s44, c45, h⟩ := h
          obtain ⟨c46, c47, h⟩ := h
          obtain ⟨p48, c49, c50, c51, h⟩ := h
          refine SW.drawA [.val (sv l33), .val (.int .i64 x36), .val (pv (some (p38.1, (p38.2 + x36.toNat * 1)))), .val (.int .u8 x42), .val (pv (some (b31, 2))), .val (.string s44), .val (.int .i64 x36), .val (.int .u8 (bt s44 x36)), .val (.int .u8 (ibits .xor .u8 x42 (bt s44 x36))), .val (pv (some (p48.1, (p48.2 + x36.toNat * 1))))] (by kernel_rfl) (by kernel_rfl) (And.intro ?_ (And.intro ?_ (And.intro ?_ (And.intro ?_ (And.intro ?_ (And.intro ?_ (And.intro ?_ (And.intro ?_ (And.intro ?_ (And.intro ?_ (trivial))))))))))) ?_
          · clear h
            intro fr' T' H' hle hs hA
            have a6 : fr' 6 = sv l33 := hs 6 (by kernel_rfl)
            obtain ⟨g', hg'⟩ : ∃ g' : Fr, fr' = g'.upds [(6, sv l33)] := ⟨_, Fr.upds_self _ _ ⟨a6, trivial⟩⟩
            subst hg'
            exact SA.val (v := sv l33) rfl (wantN rfl) (fun _ => by kernel_rfl)
          · clear h
            intro fr' T' H' hle hs hA
            have a8 : fr' 8 = (.int .i64 x36 : Value) := hs 8 (by kernel_rfl)
            obtain ⟨g', hg'⟩ : ∃ g' : Fr, fr' = g'.upds [(8, (.int .i64 x36 : Value))] := ⟨_, Fr.upds_self _ _ ⟨a8, trivial⟩⟩
            subst hg'
            exact SA.val (v := .int .i64 x36) rfl (wantN rfl) (fun _ => by kernel_rfl)
          · clear h
            intro fr' T' H' hle hs hA
            have a38 : fr' 38 = sv l33 := hA 0 (by kernel_rfl)
            have a39 : fr' 39 = (.int .i64 x36 : Value) := hA 1 (by kernel_rfl)
            obtain ⟨g', hg'⟩ : ∃ g' : Fr, fr' = g'.upds [(38, sv l33), (39, (.int .i64 x36 : Value))] := ⟨_, Fr.upds_self _ _ ⟨a38, a39, trivial⟩⟩
            subst hg'
            exact SA.val (v := pv (some (p38.1, (p38.2 + x36.toNat * 1)))) rfl (wantN rfl) (fun w => ev_iaddr rfl Try.underlying32 (size := 1) (by kernel_rfl) rfl rfl c39 c40 c41 w)
          · clear h
            intro fr' T' H' hle hs hA
            have a40 : fr' 40 = pv (some (p38.1, (p38.2 + x36.toNat * 1))) := hA 2 (by kernel_rfl)
            obtain ⟨g', hg'⟩ : ∃ g' : Fr, fr' = g'.upds [(40, pv (some (p38.1, (p38.2 + x36.toNat * 1))))] := ⟨_, Fr.upds_self _ _ ⟨a40, trivial⟩⟩
            subst hg'
            exact SA.rd hle (v := .int .u8 x42) rfl (wantN rfl) (fun w hw => ev_load1 rfl (fun _ => by kernel_rfl) (p := (p38.1, (p38.2 + x36.toNat * 1))) rfl c43 w hw)
          · clear h
            intro fr' T' H' hle hs hA
            have a2 : fr' 2 = pv (some (b31, 0)) := hs 2 (by kernel_rfl)
            obtain ⟨g', hg'⟩ : ∃ g' : Fr, fr' = g'.upds [(2, pv (some (b31, 0)))] := ⟨_, Fr.upds_self _ _ ⟨a2, trivial⟩⟩
            subst hg'
            exact SA.val (v := pv (some (b31, 2))) rfl (wantN rfl) (fun _ => by kernel_rfl)
          · clear h
            intro fr' T' H' hle hs hA
            have a42 : fr' 42 = pv (some (b31, 2)) := hA 4 (by kernel_rfl)
            obtain ⟨g', hg'⟩ : ∃ g' : Fr, fr' = g'.upds [(42, pv (some (b31, 2)))] := ⟨_, Fr.upds_self _ _ ⟨a42, trivial⟩⟩
            subst hg'
            exact SA.rd hle (v := .string s44) rfl (wantN rfl) (fun w hw => ev_load1 rfl (fun _ => by kernel_rfl) (p := (b31, 2)) rfl c45 w hw)
          · clear h
            intro fr' T' H' hle hs hA
            have a8 : fr' 8 = (.int .i64 x36 : Value) := hs 8 (by kernel_rfl)
            obtain ⟨g', hg'⟩ : ∃ g' : Fr, fr' = g'.upds [(8, (.int .i64 x36 : Value))] := ⟨_, Fr.upds_self _ _ ⟨a8, trivial⟩⟩
            subst hg'
            exact SA.val (v := .int .i64 x36) rfl (wantN rfl) (fun _ => by kernel_rfl)
          · clear h
            intro fr' T' H' hle hs hA
            have a43 : fr' 43 = (.string s44 : Value) := hA 5 (by kernel_rfl)
            have a44 : fr' 44 = (.int .i64 x36 : Value) := hA 6 (by kernel_rfl)
            obtain ⟨g', hg'⟩ : ∃ g' : Fr, fr' = g'.upds [(43, (.string s44 : Value)), (44, (.int .i64 x36 : Value))] := ⟨_, Fr.upds_self _ _ ⟨a43, a44, trivial⟩⟩
            subst hg'
            exact SA.val (v := .int .u8 (bt s44 x36)) rfl (wantN rfl) (fun w => ev_idxB rfl Try.underlying9 rfl rfl c46 c47 w)
          · clear h
            intro fr' T' H' hle hs hA
            have a41 : fr' 41 = (.int .u8 x42 : Value) := hA 3 (by kernel_rfl)
            have a45 : fr' 45 = (.int .u8 (bt s44 x36) : Value) := hA 7 (by kernel_rfl)
            obtain ⟨g', hg'⟩ : ∃ g' : Fr, fr' = g'.upds [(41, (.int .u8 x42 : Value)), (45, (.int .u8 (bt s44 x36) : Value))] := ⟨_, Fr.upds_self _ _ ⟨a41, a45, trivial⟩⟩
            subst hg'
            exact SA.val (v := .int .u8 (ibits .xor .u8 x42 (bt s44 x36))) rfl (wantN rfl) (fun _ => by kernel_rfl)
          · clear h
            intro fr' T' H' hle hs hA
            have a38 : fr' 38 = sv l33 := hA 0 (by kernel_rfl)
            have a39 : fr' 39 = (.int .i64 x36 : Value) := hA 1 (by kernel_rfl)
            obtain ⟨g', hg'⟩ : ∃ g' : Fr, fr' = g'.upds [(38, sv l33), (39, (.int .i64 x36 : Value))] := ⟨_, Fr.upds_self _ _ ⟨a38, a39, trivial⟩⟩
            subst hg'
            exact SA.val (v := pv (some (p48.1, (p48.2 + x36.toNat * 1)))) rfl (wantN rfl) (fun w => ev_iaddr rfl Try.underlying32 (size := 1) (by kernel_rfl) rfl rfl c49 c50 c51 w)
          · intro fr' T' H' hle hs hA
            have a1 : fr' 1 = (.int .u16 x30 : Value) := hs 1 (by kernel_rfl)
            have a2 : fr' 2 = pv (some (b31, 0)) := hs 2 (by kernel_rfl)
            have a5 : fr' 5 = (.int .i64 x32 : Value) := hs 5 (by kernel_rfl)
            have a6 : fr' 6 = sv l33 := hs 6 (by kernel_rfl)
            have a7 : fr' 7 = sv l34 := hs 7 (by kernel_rfl)
            have a8 : fr' 8 = (.int .i64 x36 : Value) := hs 8 (by kernel_rfl)
            have a34 : fr' 34 = (.int .i64 x35 : Value) := hs 34 (by kernel_rfl)
            have a35 : fr' 35 = (.int .i64 x36 : Value) := hs 35 (by kernel_rfl)
            have a46 : fr' 46 = (.int .u8 (ibits .xor .u8 x42 (bt s44 x36)) : Value) := hA 8 (Nat.le_of_ble_eq_true rfl)
            have a47 : fr' 47 = pv (some (p48.1, (p48.2 + x36.toNat * 1))) := hA 9 (Nat.le_of_ble_eq_true rfl)
            obtain ⟨g', hg'⟩ : ∃ g' : Fr, fr' = g'.upds [(1, (.int .u16 x30 : Value)), (2, pv (some (b31, 0))), (5, (.int .i64 x32 : Value)), (6, sv l33), (7, sv l34), (8, (.int .i64 x36 : Value)), (34, (.int .i64 x35 : Value)), (35, (.int .i64 x36 : Value)), (46, (.int .u8 (ibits .xor .u8 x42 (bt s44 x36)) : Value)), (47, pv (some (p48.1, (p48.2 + x36.toNat * 1))))] := ⟨_, Fr.upds_self _ _ ⟨a1, a2, a5, a6, a7, a8, a34, a35, a46, a47, trivial⟩⟩
            subst hg'
            refine SOps.forget (H) hle ?_
            clear hle hs hA
            obtain ⟨c52, h⟩ := h
            refine SOps.storeL (p := (p48.1, (p48.2 + x36.toNat * 1))) (v := .int .u8 (ibits .xor .u8 x42 (bt s44 x36))) (cs := [.int .u8 (ibits .xor .u8 x42 (bt s44 x36))]) rfl rfl (wantN rfl) (size := 1) (by kernel_rfl) rfl rfl rfl rfl (by simp [Value.oneCell', errV_one, pv, sv]) c52 ?_
            refine SOps.nil ?_
            obtain ⟨p53, c54, c55, c56, h⟩ := h
            obtain ⟨x57, c58, h⟩ := h
            obtain ⟨s59, c60, h⟩ := h
            obtain ⟨c61, c62, h⟩ := h
            obtain ⟨p63, c64, c65, c66, h⟩ := h
            refine SW.drawA [.val (sv l34), .val (.int .i64 x36), .val (pv (some (p53.1, (p53.2 + x36.toNat * 1)))), .val (.int .u8 x57), .val (pv (some (b31, 2))), .val (.string s59), .val (.int .i64 x36), .val (.int .u8 (bt s59 x36)), .val (.int .u8 (ibits .xor .u8 x57 (bt s59 x36))), .val (pv (some (p63.1, (p63.2 + x36.toNat * 1))))] (by kernel_rfl) (by kernel_rfl) (And.intro ?_ (And.intro ?_ (And.intro ?_ (And.intro ?_ (And.intro ?_ (And.intro ?_ (And.intro ?_ (And.intro ?_ (And.intro ?_ (And.intro ?_ (trivial))))))))))) ?_
            · clear h
              intro fr' T' H' hle hs hA
              have a7 : fr' 7 = sv l34 := hs 7 (by kernel_rfl)
              obtain ⟨g', hg'⟩ : ∃ g' : Fr, fr' = g'.upds [(7, sv l34)] := ⟨_, Fr.upds_self _ _ ⟨a7, trivial⟩⟩
              subst hg'
              exact SA.val (v := sv l34) rfl (wantN rfl) (fun _ => by kernel_rfl)
            · clear h
              intro fr' T' H' hle hs hA
              have a8 : fr' 8 = (.int .i64 x36 : Value) := hs 8 (by kernel_rfl)
              obtain ⟨g', hg'⟩ : ∃ g' : Fr, fr' = g'.upds [(8, (.int .i64 x36 : Value))] := ⟨_, Fr.upds_self _ _ ⟨a8, trivial⟩⟩
              subst hg'
              exact SA.val (v := .int .i64 x36) rfl (wantN rfl) (fun _ => by kernel_rfl)
            · clear h
              intro fr' T' H' hle hs hA
              have a48 : fr' 48 = sv l34 := hA 0 (by kernel_rfl)
              have a49 : fr' 49 = (.int .i64 x36 : Value) := hA 1 (by kernel_rfl)
              obtain ⟨g', hg'⟩ : ∃ g' : Fr, fr' = g'.upds [(48, sv l34), (49, (.int .i64 x36 : Value))] := ⟨_, Fr.upds_self _ _ ⟨a48, a49, trivial⟩⟩
              subst hg'
              exact SA.val (v := pv (some (p53.1, (p53.2 + x36.toNat * 1)))) rfl (wantN rfl) (fun w => ev_iaddr rfl Try.underlying32 (size := 1) (by kernel_rfl) rfl rfl c54 c55 c56 w)
            · clear h
              intro fr' T' H' hle hs hA
              have a50 : fr' 50 = pv (some (p53.1, (p53.2 + x36.toNat * 1))) := hA 2 (by kernel_rfl)
              obtain ⟨g', hg'⟩ : ∃ g' : Fr, fr' = g'.upds [(50, pv (some (p53.1, (p53.2 + x36.toNat * 1))))] := ⟨_, Fr.upds_self _ _ ⟨a50, trivial⟩⟩
              subst hg'
              exact SA.rd hle (v := .int .u8 x57) rfl (wantN rfl) (fun w hw => ev_load1 rfl (fun _ => by kernel_rfl) (p := (p53.1, (p53.2 + x36.toNat * 1))) rfl c58 w hw)
            · clear h
              intro fr' T' H' hle hs hA
              have a2 : fr' 2 = pv (some (b31, 0)) := hs 2 (by kernel_rfl)
              obtain ⟨g', hg'⟩ : ∃ g' : Fr, fr' = g'.upds [(2, pv (some (b31, 0)))] := ⟨_, Fr.upds_self _ _ ⟨a2, trivial⟩⟩
              subst hg'
              exact SA.val (v := pv (some (b31, 2))) rfl (wantN rfl) (fun _ => by kernel_rfl)
            · clear h
              intro fr' T' H' hle hs hA
              have a52 : fr' 52 = pv (some (b31, 2)) := hA 4 (by kernel_rfl)
              obtain ⟨g', hg'⟩ : ∃ g' : Fr, fr' = g'.upds [(52, pv (some (b31, 2)))] := ⟨_, Fr.upds_self _ _ ⟨a52, trivial⟩⟩
              subst hg'
              exact SA.rd hle (v := .string s59) rfl (wantN rfl) (fun w hw => ev_load1 rfl (fun _ => by kernel_rfl) (p := (b31, 2)) rfl c60 w hw)
            · clear h
              intro fr' T' H' hle hs hA
              have a8 : fr' 8 = (.int .i64 x36 : Value) := hs 8 (by kernel_rfl)
              obtain ⟨g', hg'⟩ : ∃ g' : Fr, fr' = g'.upds [(8, (.int .i64 x36 : Value))] := ⟨_, Fr.upds_self _ _ ⟨a8, trivial⟩⟩
              subst hg'
              exact SA.val (v := .int .i64 x36) rfl (wantN rfl) (fun _ => by kernel_rfl)
            · clear h
              intro fr' T' H' hle hs hA
              have a53 : fr' 53 = (.string s59 : Value) := hA 5 (by kernel_rfl)
              have a54 : fr' 54 = (.int .i64 x36 : Value) := hA 6 (by kernel_rfl)
              obtain ⟨g', hg'⟩ : ∃ g' : Fr, fr' = g'.upds [(53, (.string s59 : Value)), (54, (.int .i64 x36 : Value))] := ⟨_, Fr.upds_self _ _ ⟨a53, a54, trivial⟩⟩
              subst hg'
              exact SA.val (v := .int .u8 (bt s59 x36)) rfl (wantN rfl) (fun w => ev_idxB rfl Try.underlying9 rfl rfl c61 c62 w)
            · clear h
              intro fr' T' H' hle hs hA
              have a51 : fr' 51 = (.int .u8 x57 : Value) := hA 3 (by kernel_rfl)
              have a55 : fr' 55 = (.int .u8 (bt s59 x36) : Value) := hA 7 (by kernel_rfl)
              obtain ⟨g', hg'⟩ : ∃ g' : Fr, fr' = g'.upds [(51, (.int .u8 x57 : Value)), (55, (.int .u8 (bt s59 x36) : Value))] := ⟨_, Fr.upds_self _ _ ⟨a51, a55, trivial⟩⟩
              subst hg'
              exact SA.val (v := .int .u8 (ibits .xor .u8 x57 (bt s59 x36))) rfl (wantN rfl) (fun _ => by kernel_rfl)
            · clear h
              intro fr' T' H' hle hs hA
              have a48 : fr' 48 = sv l34 := hA 0 (by kernel_rfl)
              have a49 : fr' 49 = (.int .i64 x36 : Value) := hA 1 (by kernel_rfl)
              obtain ⟨g', hg'⟩ : ∃ g' : Fr, fr' = g'.upds [(48, sv l34), (49, (.int .i64 x36 : Value))] := ⟨_, Fr.upds_self _ _ ⟨a48, a49, trivial⟩⟩
              subst hg'
              exact SA.val (v := pv (some (p63.1, (p63.2 + x36.toNat * 1)))) rfl (wantN rfl) (fun w => ev_iaddr rfl Try.underlying32 (size := 1) (by kernel_rfl) rfl rfl c64 c65 c66 w)
            · intro fr' T' H' hle hs hA
              have a1 : fr' 1 = (.int .u16 x30 : Value) := hs 1 (by kernel_rfl)
              have a2 : fr' 2 = pv (some (b31, 0)) := hs 2 (by kernel_rfl)
              have a5 : fr' 5 = (.int .i64 x32 : Value) := hs 5 (by kernel_rfl)
              have a6 : fr' 6 = sv l33 := hs 6 (by kernel_rfl)
              have a7 : fr' 7 = sv l34 := hs 7 (by kernel_rfl)
              have a34 : fr' 34 = (.int .i64 x35 : Value) := hs 34 (by kernel_rfl)
              have a35 : fr' 35 = (.int .i64 x36 : Value) := hs 35 (by kernel_rfl)
              have a56 : fr' 56 = (.int .u8 (ibits .xor .u8 x57 (bt s59 x36)) : Value) := hA 8 (Nat.le_of_ble_eq_true rfl)
              have a57 : fr' 57 = pv (some (p63.1, (p63.2 + x36.toNat * 1))) := hA 9 (Nat.le_of_ble_eq_true rfl)
              obtain ⟨g', hg'⟩ : ∃ g' : Fr, fr' = g'.upds [(1, (.int .u16 x30 : Value)), (2, pv (some (b31, 0))), (5, (.int .i64 x32 : Value)), (6, sv l33), (7, sv l34), (34, (.int .i64 x35 : Value)), (35, (.int .i64 x36 : Value)), (56, (.int .u8 (ibits .xor .u8 x57 (bt s59 x36)) : Value)), (57, pv (some (p63.1, (p63.2 + x36.toNat * 1))))] := ⟨_, Fr.upds_self _ _ ⟨a1, a2, a5, a6, a7, a34, a35, a56, a57, trivial⟩⟩
              subst hg'
              refine SOps.forget (SH.setl H (p48.1, (p48.2 + x36.toNat * 1)) [.int .u8 (ibits .xor .u8 x42 (bt s44 x36))]) hle ?_
              clear hle hs hA
              obtain ⟨c67, h⟩ := h
              refine SOps.storeL (p := (p63.1, (p63.2 + x36.toNat * 1))) (v := .int .u8 (ibits .xor .u8 x57 (bt s59 x36))) (cs := [.int .u8 (ibits .xor .u8 x57 (bt s59 x36))]) rfl rfl (wantN rfl) (size := 1) (by kernel_rfl) rfl rfl rfl rfl (by simp [Value.oneCell', errV_one, pv, sv]) c67 ?_
              refine SOps.nil ?_
              refine SW.region ?_
              refine SOps.val (v := .int .i64 (w64 (x36 + 1))) rfl (wantN rfl) (fun _ => by kernel_rfl) ?_
              refine SOps.val (v := .int .i64 (w64 (x36 + 1))) rfl (wantN rfl) (fun _ => by kernel_rfl) ?_
              refine SOps.nil ?_
              exact ⟨k1, Nat.lt_succ_self k1, _, x30, b31, x32, l33, l34, x35, w64 (x36 + 1), (Fr.upds_self _ _ ⟨rfl, rfl, rfl, rfl, rfl, rfl, rfl, trivial⟩), h⟩
        · replace h := h.2 c37
          have dc37 : (decide (x36 < x35)) = false := (decide_eq_false c37)
          refine SW.cond_f (t := decide (x36 < x35)) rfl dc37 ?_
          refine SW.exit ?_
          refine SW.seq ?_
          refine SW.region ?_
          refine SOps.val (v := pv (some (b31, 0))) rfl (wantN rfl) (fun _ => by kernel_rfl) ?_
          obtain ⟨s68, c69, h⟩ := h
          refine SOps.rd (v := .string s68) rfl (wantN rfl) (fun w hw => ev_load1 rfl (fun _ => by kernel_rfl) (p := (b31, 0)) rfl c69 w hw) ?_
          refine SOps.val (v := .int .i64 x32) rfl (wantN rfl) (fun _ => by kernel_rfl) ?_
          obtain ⟨c70, c71, c72, h⟩ := h
          refine SOps.val (v := .string (s68.extract (0 : Int).toNat x32.toNat)) rfl (wantN rfl) (fun w => ev_subS (a := (0 : Int)) (b := x32) rfl Try.underlying9 rfl (Or.inl ⟨rfl, rfl⟩) (Or.inr ⟨_, rfl⟩) c70 c71 c72 w) ?_
          refine SOps.val (v := .string (s68.extract (0 : Int).toNat x32.toNat)) rfl (wantN rfl) (fun _ => by kernel_rfl) ?_
          refine SOps.nil ?_
          refine SW.seq ?_
          refine SW.region ?_
          refine SOps.val (v := .int .u16 x30) rfl (wantN rfl) (fun _ => by kernel_rfl) ?_
          refine SOps.val (v := .int .i64 (w64 x30)) rfl (wantN rfl) (fun _ => by kernel_rfl) ?_
          refine SOps.val (v := .int .i64 x32) rfl (wantN rfl) (fun _ => by kernel_rfl) ?_
          refine SOps.val (v := .int .i64 (w64 (x32 + 1))) rfl (wantN rfl) (fun _ => by kernel_rfl) ?_
          obtain ⟨c73, h⟩ := h
          refine SOps.val (v := .int .i64 ((w64 x30).tmod (w64 (x32 + 1)))) rfl (wantN rfl) (fun w => ev_rem rfl rfl rfl c73 w) ?_
          refine SOps.val (v := .int .i64 ((w64 x30).tmod (w64 (x32 + 1)))) rfl (wantN rfl) (fun _ => by kernel_rfl) ?_
          refine SOps.nil ?_
          refine SW.seq ?_
          obtain ⟨x76, c77, h⟩ := h
          obtain ⟨s78, c79, h⟩ := h
          obtain ⟨c80, c81, c82, h⟩ := h
          obtain ⟨x85, c86, h⟩ := h
          obtain ⟨bs87, c88, c89, h⟩ := h
          obtain ⟨x92, c93, h⟩ := h
          obtain ⟨bs94, c95, c96, h⟩ := h
          obtain ⟨x99, c100, h⟩ := h
          by_cases c101 : (ibits .xor .i64 x76 x85) = (ibits .xor .i64 x92 x99)
          · replace h := h.1 c101
            have dc101 : ((ibits .xor .i64 x76 x85) == (ibits .xor .i64 x92 x99)) = true := (beq_iff_eq.mpr c101)
            obtain ⟨c102, c103, c104, h⟩ := h
            obtain ⟨c105, c106, c107, h⟩ := h
            obtain ⟨x110, c111, h⟩ := h
            obtain ⟨x114, c115, h⟩ := h
            refine SW.drawA [.val (.string (s68.extract (0 : Int).toNat x32.toNat)), .fresh 1 (fun b c => sv ⟨some (b, 0), 1, 1⟩) (fun c => (⟨[.string (s68.extract (0 : Int).toNat x32.toNat)], 9, false, 1⟩ : AO)) (fun _ => True), .val (.int .i64 x76), .val (pv (some (b31, 1))), .val (.string s78), .val (.int .i64 x32), .val (.string (s78.extract (0 : Int).toNat x32.toNat)), .fresh 7 (fun b c => sv ⟨some (b, 0), 1, 1⟩) (fun c => (⟨[.string (s78.extract (0 : Int).toNat x32.toNat)], 9, false, 1⟩ : AO)) (fun _ => True), .val (.int .i64 x85), .val (.int .i64 (ibits .xor .i64 x76 x85)), .val (sv l33), .val (.string (⟨bs87.toArray⟩ : ByteArray)), .fresh 12 (fun b c => sv ⟨some (b, 0), 1, 1⟩) (fun c => (⟨[.string (⟨bs87.toArray⟩ : ByteArray)], 9, false, 1⟩ : AO)) (fun _ => True), .val (.int .i64 x92), .val (sv l34), .val (.string (⟨bs94.toArray⟩ : ByteArray)), .fresh 16 (fun b c => sv ⟨some (b, 0), 1, 1⟩) (fun c => (⟨[.string (⟨bs94.toArray⟩ : ByteArray)], 9, false, 1⟩ : AO)) (fun _ => True), .val (.int .i64 x99), .val (.int .i64 (ibits .xor .i64 x92 x99)), .val (.bool ((ibits .xor .i64 x76 x85) == (ibits .xor .i64 x92 x99))), .val (.bool ((ibits .xor .i64 x76 x85) == (ibits .xor .i64 x92 x99))), .val (.string (s68.extract (0 : Int).toNat x32.toNat)), .val (.int .i64 ((w64 x30).tmod (w64 (x32 + 1)))), .val (.string ((s68.extract (0 : Int).toNat x32.toNat).extract (0 : Int).toNat ((w64 x30).tmod (w64 (x32 + 1))).toNat)), .val (.string (s68.extract (0 : Int).toNat x32.toNat)), .val (.int .i64 ((w64 x30).tmod (w64 (x32 + 1)))), .val (.string ((s68.extract (0 : Int).toNat x32.toNat).extract ((w64 x30).tmod (w64 (x32 + 1))).toNat ((s68.extract (0 : Int).toNat x32.toNat).size : Int).toNat)), .fresh 27 (fun b c => sv ⟨some (b, 0), 3, 3⟩) (fun c => (⟨[.string ((s68.extract (0 : Int).toNat x32.toNat).extract (0 : Int).toNat ((w64 x30).tmod (w64 (x32 + 1))).toNat), .string ByteArray.empty, .string ((s68.extract (0 : Int).toNat x32.toNat).extract ((w64 x30).tmod (w64 (x32 + 1))).toNat ((s68.extract (0 : Int).toNat x32.toNat).size : Int).toNat)], 9, false, 3⟩ : AO)) (fun _ => True), .val (.int .i64 x110), .val (.string (s68.extract (0 : Int).toNat x32.toNat)), .fresh 30 (fun b c => sv ⟨some (b, 0), 1, 1⟩) (fun c => (⟨[.string (s68.extract (0 : Int).toNat x32.toNat)], 9, false, 1⟩ : AO)) (fun _ => True), .val (.int .i64 x114), .val (.bool (x110 == x114)), .val (.bool (x110 == x114)), .val (.bool (x110 == x114))] (by kernel_rfl) (by kernel_rfl) (And.intro ?_ (And.intro ?_ (And.intro ?_ (And.intro ?_ (And.intro ?_ (And.intro ?_ (And.intro ?_ (And.intro ?_ (And.intro ?_ (And.intro ?_ (And.intro ?_ (And.intro ?_ (And.intro ?_ (And.intro ?_ (And.intro ?_ (And.intro ?_ (And.intro ?_ (And.intro ?_ (And.intro ?_ (And.intro ?_ (And.intro ?_ (And.intro ?_ (And.intro ?_ (And.intro ?_ (And.intro ?_ (And.intro ?_ (And.intro ?_ (And.intro ?_ (And.intro ?_ (And.intro ?_ (And.intro ?_ (And.intro ?_ (And.intro ?_ (And.intro ?_ (And.intro ?_ (trivial)))))))))))))))))))))))))))))))))))) ?_
            · clear h
              intro fr' T' H' hle hs hA
              have a9 : fr' 9 = (.string (s68.extract (0 : Int).toNat x32.toNat) : Value) := hs 9 (by kernel_rfl)
              obtain ⟨g', hg'⟩ : ∃ g' : Fr, fr' = g'.upds [(9, (.string (s68.extract (0 : Int).toNat x32.toNat) : Value))] := ⟨_, Fr.upds_self _ _ ⟨a9, trivial⟩⟩
              subst hg'
              exact SA.val (v := .string (s68.extract (0 : Int).toNat x32.toNat)) rfl (wantN rfl) (fun _ => by kernel_rfl)
            · clear h
              intro fr' T' H' hle hs hA
              have a68 : fr' 68 = (.string (s68.extract (0 : Int).toNat x32.toNat) : Value) := hA 0 (by kernel_rfl)
              obtain ⟨g', hg'⟩ : ∃ g' : Fr, fr' = g'.upds [(68, (.string (s68.extract (0 : Int).toNat x32.toNat) : Value))] := ⟨_, Fr.upds_self _ _ ⟨a68, trivial⟩⟩
              subst hg'
              exact SA.fresh hle (fun h => SOps.lit (E := 9) (cs := #[.string (s68.extract (0 : Int).toNat x32.toNat)]) rfl rfl (wantN rfl) (fun _ => by kernel_rfl) (fun b c => h b 0 c trivial))
            · clear h
              intro fr' T' H' hle hs hA
              obtain ⟨b74, n75, a69, nb74, kb74, tb74, ob74⟩ := hA 1 (by kernel_rfl)
              obtain ⟨g', hg'⟩ : ∃ g' : Fr, fr' = g'.upds [(69, sv (⟨some (b74, 0), 1, 1⟩ : Sl))] := ⟨_, Fr.upds_self _ _ ⟨a69, trivial⟩⟩
              subst hg'
              exact SA.enter (Hc := SH.upd H b74 (⟨[.string (s68.extract (0 : Int).toNat x32.toNat)], 9, false, 1⟩ : AO)) (v := .int .i64 x76) (SH.le.upd_in hle kb74) rfl (wantN rfl) (fun _ => by kernel_rfl) ((frame_Sum.sound F (⟨some (b74, 0), 1, 1⟩ : Sl) (SH.upd H b74 (⟨[.string (s68.extract (0 : Int).toNat x32.toNat)], 9, false, 1⟩ : AO)) _ (c77 b74 nb74)).mono (by rintro v H' ⟨_, rfl, rfl, h'⟩; exact ⟨rfl, h'⟩))
            · clear h
              intro fr' T' H' hle hs hA
              have a2 : fr' 2 = pv (some (b31, 0)) := hs 2 (by kernel_rfl)
              obtain ⟨g', hg'⟩ : ∃ g' : Fr, fr' = g'.upds [(2, pv (some (b31, 0)))] := ⟨_, Fr.upds_self _ _ ⟨a2, trivial⟩⟩
              subst hg'
              exact SA.val (v := pv (some (b31, 1))) rfl (wantN rfl) (fun _ => by kernel_rfl)
            · clear h
              intro fr' T' H' hle hs hA
              have a71 : fr' 71 = pv (some (b31, 1)) := hA 3 (by kernel_rfl)
              obtain ⟨g', hg'⟩ : ∃ g' : Fr, fr' = g'.upds [(71, pv (some (b31, 1)))] := ⟨_, Fr.upds_self _ _ ⟨a71, trivial⟩⟩
              subst hg'
              exact SA.rd hle (v := .string s78) rfl (wantN rfl) (fun w hw => ev_load1 rfl (fun _ => by kernel_rfl) (p := (b31, 1)) rfl c79 w hw)
            · clear h
              intro fr' T' H' hle hs hA
              have a5 : fr' 5 = (.int .i64 x32 : Value) := hs 5 (by kernel_rfl)
              obtain ⟨g', hg'⟩ : ∃ g' : Fr, fr' = g'.upds [(5, (.int .i64 x32 : Value))] := ⟨_, Fr.upds_self _ _ ⟨a5, trivial⟩⟩
              subst hg'
              exact SA.val (v := .int .i64 x32) rfl (wantN rfl) (fun _ => by kernel_rfl)
            · clear h
              intro fr' T' H' hle hs hA
              have a72 : fr' 72 = (.string s78 : Value) := hA 4 (by kernel_rfl)
              have a73 : fr' 73 = (.int .i64 x32 : Value) := hA 5 (by kernel_rfl)
              obtain ⟨g', hg'⟩ : ∃ g' : Fr, fr' = g'.upds [(72, (.string s78 : Value)), (73, (.int .i64 x32 : Value))] := ⟨_, Fr.upds_self _ _ ⟨a72, a73, trivial⟩⟩
              subst hg'
              exact SA.val (v := .string (s78.extract (0 : Int).toNat x32.toNat)) rfl (wantN rfl) (fun w => ev_subS (a := (0 : Int)) (b := x32) rfl Try.underlying9 rfl (Or.inl ⟨rfl, rfl⟩) (Or.inr ⟨_, rfl⟩) c80 c81 c82 w)
            · clear h
              intro fr' T' H' hle hs hA
              have a74 : fr' 74 = (.string (s78.extract (0 : Int).toNat x32.toNat) : Value) := hA 6 (by kernel_rfl)
              obtain ⟨g', hg'⟩ : ∃ g' : Fr, fr' = g'.upds [(74, (.string (s78.extract (0 : Int).toNat x32.toNat) : Value))] := ⟨_, Fr.upds_self _ _ ⟨a74, trivial⟩⟩
              subst hg'
              exact SA.fresh hle (fun h => SOps.lit (E := 9) (cs := #[.string (s78.extract (0 : Int).toNat x32.toNat)]) rfl rfl (wantN rfl) (fun _ => by kernel_rfl) (fun b c => h b 0 c trivial))
            · clear h
              intro fr' T' H' hle hs hA
              obtain ⟨b83, n84, a75, nb83, kb83, tb83, ob83⟩ := hA 7 (by kernel_rfl)
              obtain ⟨g', hg'⟩ : ∃ g' : Fr, fr' = g'.upds [(75, sv (⟨some (b83, 0), 1, 1⟩ : Sl))] := ⟨_, Fr.upds_self _ _ ⟨a75, trivial⟩⟩
              subst hg'
              exact SA.enter (Hc := SH.upd H b83 (⟨[.string (s78.extract (0 : Int).toNat x32.toNat)], 9, false, 1⟩ : AO)) (v := .int .i64 x85) (SH.le.upd_in hle kb83) rfl (wantN rfl) (fun _ => by kernel_rfl) ((frame_Sum.sound F (⟨some (b83, 0), 1, 1⟩ : Sl) (SH.upd H b83 (⟨[.string (s78.extract (0 : Int).toNat x32.toNat)], 9, false, 1⟩ : AO)) _ (c86 b83 nb83)).mono (by rintro v H' ⟨_, rfl, rfl, h'⟩; exact ⟨rfl, h'⟩))
            · clear h
              intro fr' T' H' hle hs hA
              have a70 : fr' 70 = (.int .i64 x76 : Value) := hA 2 (by kernel_rfl)
              have a76 : fr' 76 = (.int .i64 x85 : Value) := hA 8 (by kernel_rfl)
              obtain ⟨g', hg'⟩ : ∃ g' : Fr, fr' = g'.upds [(70, (.int .i64 x76 : Value)), (76, (.int .i64 x85 : Value))] := ⟨_, Fr.upds_self _ _ ⟨a70, a76, trivial⟩⟩
              subst hg'
              exact SA.val (v := .int .i64 (ibits .xor .i64 x76 x85)) rfl (wantN rfl) (fun _ => by kernel_rfl)
            · clear h
              intro fr' T' H' hle hs hA
              have a6 : fr' 6 = sv l33 := hs 6 (by kernel_rfl)
              obtain ⟨g', hg'⟩ : ∃ g' : Fr, fr' = g'.upds [(6, sv l33)] := ⟨_, Fr.upds_self _ _ ⟨a6, trivial⟩⟩
              subst hg'
              exact SA.val (v := sv l33) rfl (wantN rfl) (fun _ => by kernel_rfl)
            · clear h
              intro fr' T' H' hle hs hA
              have a78 : fr' 78 = sv l33 := hA 10 (by kernel_rfl)
              obtain ⟨g', hg'⟩ : ∃ g' : Fr, fr' = g'.upds [(78, sv l33)] := ⟨_, Fr.upds_self _ _ ⟨a78, trivial⟩⟩
              subst hg'
              exact SA.rd hle (v := .string (⟨bs87.toArray⟩ : ByteArray)) rfl (wantN rfl) (fun w hw => ev_str rfl Try.underlying32 Try.underlying5 Try.underlying9 rfl c88 c89 w hw)
            · clear h
              intro fr' T' H' hle hs hA
              have a79 : fr' 79 = (.string (⟨bs87.toArray⟩ : ByteArray) : Value) := hA 11 (by kernel_rfl)
              obtain ⟨g', hg'⟩ : ∃ g' : Fr, fr' = g'.upds [(79, (.string (⟨bs87.toArray⟩ : ByteArray) : Value))] := ⟨_, Fr.upds_self _ _ ⟨a79, trivial⟩⟩
              subst hg'
              exact SA.fresh hle (fun h => SOps.lit (E := 9) (cs := #[.string (⟨bs87.toArray⟩ : ByteArray)]) rfl rfl (wantN rfl) (fun _ => by kernel_rfl) (fun b c => h b 0 c trivial))
            · clear h
              intro fr' T' H' hle hs hA
              obtain ⟨b90, n91, a80, nb90, kb90, tb90, ob90⟩ := hA 12 (by kernel_rfl)
              obtain ⟨g', hg'⟩ : ∃ g' : Fr, fr' = g'.upds [(80, sv (⟨some (b90, 0), 1, 1⟩ : Sl))] := ⟨_, Fr.upds_self _ _ ⟨a80, trivial⟩⟩
              subst hg'
              exact SA.enter (Hc := SH.upd H b90 (⟨[.string (⟨bs87.toArray⟩ : ByteArray)], 9, false, 1⟩ : AO)) (v := .int .i64 x92) (SH.le.upd_in hle kb90) rfl (wantN rfl) (fun _ => by kernel_rfl) ((frame_Sum.sound F (⟨some (b90, 0), 1, 1⟩ : Sl) (SH.upd H b90 (⟨[.string (⟨bs87.toArray⟩ : ByteArray)], 9, false, 1⟩ : AO)) _ (c93 b90 nb90)).mono (by rintro v H' ⟨_, rfl, rfl, h'⟩; exact ⟨rfl, h'⟩))
            · clear h
              intro fr' T' H' hle hs hA
              have a7 : fr' 7 = sv l34 := hs 7 (by kernel_rfl)
              obtain ⟨g', hg'⟩ : ∃ g' : Fr, fr' = g'.upds [(7, sv l34)] := ⟨_, Fr.upds_self _ _ ⟨a7, trivial⟩⟩
              subst hg'
              exact SA.val (v := sv l34) rfl (wantN rfl) (fun _ => by kernel_rfl)
            · clear h
              intro fr' T' H' hle hs hA
              have a82 : fr' 82 = sv l34 := hA 14 (by kernel_rfl)
              obtain ⟨g', hg'⟩ : ∃ g' : Fr, fr' = g'.upds [(82, sv l34)] := ⟨_, Fr.upds_self _ _ ⟨a82, trivial⟩⟩
              subst hg'
              exact SA.rd hle (v := .string (⟨bs94.toArray⟩ : ByteArray)) rfl (wantN rfl) (fun w hw => ev_str rfl Try.underlying32 Try.underlying5 Try.underlying9 rfl c95 c96 w hw)
            · clear h
              intro fr' T' H' hle hs hA
              have a83 : fr' 83 = (.string (⟨bs94.toArray⟩ : ByteArray) : Value) := hA 15 (by kernel_rfl)
              obtain ⟨g', hg'⟩ : ∃ g' : Fr, fr' = g'.upds [(83, (.string (⟨bs94.toArray⟩ : ByteArray) : Value))] := ⟨_, Fr.upds_self _ _ ⟨a83, trivial⟩⟩
              subst hg'
              exact SA.fresh hle (fun h => SOps.lit (E := 9) (cs := #[.string (⟨bs94.toArray⟩ : ByteArray)]) rfl rfl (wantN rfl) (fun _ => by kernel_rfl) (fun b c => h b 0 c trivial))
            · clear h
              intro fr' T' H' hle hs hA
              obtain ⟨b97, n98, a84, nb97, kb97, tb97, ob97⟩ := hA 16 (by kernel_rfl)
              obtain ⟨g', hg'⟩ : ∃ g' : Fr, fr' = g'.upds [(84, sv (⟨some (b97, 0), 1, 1⟩ : Sl))] := ⟨_, Fr.upds_self _ _ ⟨a84, trivial⟩⟩
              subst hg'
              exact SA.enter (Hc := SH.upd H b97 (⟨[.string (⟨bs94.toArray⟩ : ByteArray)], 9, false, 1⟩ : AO)) (v := .int .i64 x99) (SH.le.upd_in hle kb97) rfl (wantN rfl) (fun _ => by kernel_rfl) ((frame_Sum.sound F (⟨some (b97, 0), 1, 1⟩ : Sl) (SH.upd H b97 (⟨[.string (⟨bs94.toArray⟩ : ByteArray)], 9, false, 1⟩ : AO)) _ (c100 b97 nb97)).mono (by rintro v H' ⟨_, rfl, rfl, h'⟩; exact ⟨rfl, h'⟩))
            · clear h
              intro fr' T' H' hle hs hA
              have a81 : fr' 81 = (.int .i64 x92 : Value) := hA 13 (by kernel_rfl)
              have a85 : fr' 85 = (.int .i64 x99 : Value) := hA 17 (by kernel_rfl)
              obtain ⟨g', hg'⟩ : ∃ g' : Fr, fr' = g'.upds [(81, (.int .i64 x92 : Value)), (85, (.int .i64 x99 : Value))] := ⟨_, Fr.upds_self _ _ ⟨a81, a85, trivial⟩⟩
              subst hg'
              exact SA.val (v := .int .i64 (ibits .xor .i64 x92 x99)) rfl (wantN rfl) (fun _ => by kernel_rfl)
            · clear h
              intro fr' T' H' hle hs hA
              have a77 : fr' 77 = (.int .i64 (ibits .xor .i64 x76 x85) : Value) := hA 9 (by kernel_rfl)
              have a86 : fr' 86 = (.int .i64 (ibits .xor .i64 x92 x99) : Value) := hA 18 (by kernel_rfl)
              obtain ⟨g', hg'⟩ : ∃ g' : Fr, fr' = g'.upds [(77, (.int .i64 (ibits .xor .i64 x76 x85) : Value)), (86, (.int .i64 (ibits .xor .i64 x92 x99) : Value))] := ⟨_, Fr.upds_self _ _ ⟨a77, a86, trivial⟩⟩
              subst hg'
              exact SA.val (v := .bool ((ibits .xor .i64 x76 x85) == (ibits .xor .i64 x92 x99))) rfl (wantN rfl) (fun _ => by kernel_rfl)
            · clear h
              intro fr' T' H' hle hs hA
              have a87 : fr' 87 = (.bool ((ibits .xor .i64 x76 x85) == (ibits .xor .i64 x92 x99)) : Value) := hA 19 (by kernel_rfl)
              obtain ⟨g', hg'⟩ : ∃ g' : Fr, fr' = g'.upds [(87, (.bool ((ibits .xor .i64 x76 x85) == (ibits .xor .i64 x92 x99)) : Value))] := ⟨_, Fr.upds_self _ _ ⟨a87, trivial⟩⟩
              subst hg'
              exact SA.val (v := .bool ((ibits .xor .i64 x76 x85) == (ibits .xor .i64 x92 x99))) rfl (wantN rfl) (fun _ => by kernel_rfl)
            · clear h
              intro fr' T' H' hle hs hA
              have a9 : fr' 9 = (.string (s68.extract (0 : Int).toNat x32.toNat) : Value) := hs 9 (by kernel_rfl)
              have a88 : fr' 88 = (.bool ((ibits .xor .i64 x76 x85) == (ibits .xor .i64 x92 x99)) : Value) := hA 20 (by kernel_rfl)
              obtain ⟨g', hg'⟩ : ∃ g' : Fr, fr' = g'.upds [(9, (.string (s68.extract (0 : Int).toNat x32.toNat) : Value)), (88, (.bool ((ibits .xor .i64 x76 x85) == (ibits .xor .i64 x92 x99)) : Value))] := ⟨_, Fr.upds_self _ _ ⟨a9, a88, trivial⟩⟩
              subst hg'
              exact SA.val (v := .string (s68.extract (0 : Int).toNat x32.toNat)) rfl (wantY (c := ((ibits .xor .i64 x76 x85) == (ibits .xor .i64 x92 x99))) rfl rfl rfl dc101) (fun _ => by kernel_rfl)
            · clear h
              intro fr' T' H' hle hs hA
              have a10 : fr' 10 = (.int .i64 ((w64 x30).tmod (w64 (x32 + 1))) : Value) := hs 10 (by kernel_rfl)
              have a88 : fr' 88 = (.bool ((ibits .xor .i64 x76 x85) == (ibits .xor .i64 x92 x99)) : Value) := hA 20 (by kernel_rfl)
              obtain ⟨g', hg'⟩ : ∃ g' : Fr, fr' = g'.upds [(10, (.int .i64 ((w64 x30).tmod (w64 (x32 + 1))) : Value)), (88, (.bool ((ibits .xor .i64 x76 x85) == (ibits .xor .i64 x92 x99)) : Value))] := ⟨_, Fr.upds_self _ _ ⟨a10, a88, trivial⟩⟩
              subst hg'
              exact SA.val (v := .int .i64 ((w64 x30).tmod (w64 (x32 + 1)))) rfl (wantY (c := ((ibits .xor .i64 x76 x85) == (ibits .xor .i64 x92 x99))) rfl rfl rfl dc101) (fun _ => by kernel_rfl)
            · clear h
              intro fr' T' H' hle hs hA
              have a88 : fr' 88 = (.bool ((ibits .xor .i64 x76 x85) == (ibits .xor .i64 x92 x99)) : Value) := hA 20 (by kernel_rfl)
              have a89 : fr' 89 = (.string (s68.extract (0 : Int).toNat x32.toNat) : Value) := hA 21 (by kernel_rfl)
              have a90 : fr' 90 = (.int .i64 ((w64 x30).tmod (w64 (x32 + 1))) : Value) := hA 22 (by kernel_rfl)
              obtain ⟨g', hg'⟩ : ∃ g' : Fr, fr' = g'.upds [(88, (.bool ((ibits .xor .i64 x76 x85) == (ibits .xor .i64 x92 x99)) : Value)), (89, (.string (s68.extract (0 : Int).toNat x32.toNat) : Value)), (90, (.int .i64 ((w64 x30).tmod (w64 (x32 + 1))) : Value))] := ⟨_, Fr.upds_self _ _ ⟨a88, a89, a90, trivial⟩⟩
              subst hg'
              exact SA.val (v := .string ((s68.extract (0 : Int).toNat x32.toNat).extract (0 : Int).toNat ((w64 x30).tmod (w64 (x32 + 1))).toNat)) rfl (wantY (c := ((ibits .xor .i64 x76 x85) == (ibits .xor .i64 x92 x99))) rfl rfl rfl dc101) (fun w => ev_subS (a := (0 : Int)) (b := ((w64 x30).tmod (w64 (x32 + 1)))) rfl Try.underlying9 rfl (Or.inl ⟨rfl, rfl⟩) (Or.inr ⟨_, rfl⟩) c102 c103 c104 w)
            · clear h
              intro fr' T' H' hle hs hA
              have a9 : fr' 9 = (.string (s68.extract (0 : Int).toNat x32.toNat) : Value) := hs 9 (by kernel_rfl)
              have a88 : fr' 88 = (.bool ((ibits .xor .i64 x76 x85) == (ibits .xor .i64 x92 x99)) : Value) := hA 20 (by kernel_rfl)
              obtain ⟨g', hg'⟩ : ∃ g' : Fr, fr' = g'.upds [(9, (.string (s68.extract (0 : Int).toNat x32.toNat) : Value)), (88, (.bool ((ibits .xor .i64 x76 x85) == (ibits .xor .i64 x92 x99)) : Value))] := ⟨_, Fr.upds_self _ _ ⟨a9, a88, trivial⟩⟩
              subst hg'
              exact SA.val (v := .string (s68.extract (0 : Int).toNat x32.toNat)) rfl (wantY (c := ((ibits .xor .i64 x76 x85) == (ibits .xor .i64 x92 x99))) rfl rfl rfl dc101) (fun _ => by kernel_rfl)
            · clear h
              intro fr' T' H' hle hs hA
              have a10 : fr' 10 = (.int .i64 ((w64 x30).tmod (w64 (x32 + 1))) : Value) := hs 10 (by kernel_rfl)
              have a88 : fr' 88 = (.bool ((ibits .xor .i64 x76 x85) == (ibits .xor .i64 x92 x99)) : Value) := hA 20 (by kernel_rfl)
              obtain ⟨g', hg'⟩ : ∃ g' : Fr, fr' = g'.upds [(10, (.int .i64 ((w64 x30).tmod (w64 (x32 + 1))) : Value)), (88, (.bool ((ibits .xor .i64 x76 x85) == (ibits .xor .i64 x92 x99)) : Value))] := ⟨_, Fr.upds_self _ _ ⟨a10, a88, trivial⟩⟩
              subst hg'
              exact SA.val (v := .int .i64 ((w64 x30).tmod (w64 (x32 + 1)))) rfl (wantY (c := ((ibits .xor .i64 x76 x85) == (ibits .xor .i64 x92 x99))) rfl rfl rfl dc101) (fun _ => by kernel_rfl)
            · clear h
              intro fr' T' H' hle hs hA
              have a88 : fr' 88 = (.bool ((ibits .xor .i64 x76 x85) == (ibits .xor .i64 x92 x99)) : Value) := hA 20 (by kernel_rfl)
              have a92 : fr' 92 = (.string (s68.extract (0 : Int).toNat x32.toNat) : Value) := hA 24 (by kernel_rfl)
              have a93 : fr' 93 = (.int .i64 ((w64 x30).tmod (w64 (x32 + 1))) : Value) := hA 25 (by kernel_rfl)
              obtain ⟨g', hg'⟩ : ∃ g' : Fr, fr' = g'.upds [(88, (.bool ((ibits .xor .i64 x76 x85) == (ibits .xor .i64 x92 x99)) : Value)), (92, (.string (s68.extract (0 : Int).toNat x32.toNat) : Value)), (93, (.int .i64 ((w64 x30).tmod (w64 (x32 + 1))) : Value))] := ⟨_, Fr.upds_self _ _ ⟨a88, a92, a93, trivial⟩⟩
              subst hg'
              exact SA.val (v := .string ((s68.extract (0 : Int).toNat x32.toNat).extract ((w64 x30).tmod (w64 (x32 + 1))).toNat ((s68.extract (0 : Int).toNat x32.toNat).size : Int).toNat)) rfl (wantY (c := ((ibits .xor .i64 x76 x85) == (ibits .xor .i64 x92 x99))) rfl rfl rfl dc101) (fun w => ev_subS (a := ((w64 x30).tmod (w64 (x32 + 1)))) (b := ((s68.extract (0 : Int).toNat x32.toNat).size : Int)) rfl Try.underlying9 rfl (Or.inr ⟨_, rfl⟩) (Or.inl ⟨rfl, rfl⟩) c105 c106 c107 w)
            · clear h
              intro fr' T' H' hle hs hA
              have a88 : fr' 88 = (.bool ((ibits .xor .i64 x76 x85) == (ibits .xor .i64 x92 x99)) : Value) := hA 20 (by kernel_rfl)
              have a91 : fr' 91 = (.string ((s68.extract (0 : Int).toNat x32.toNat).extract (0 : Int).toNat ((w64 x30).tmod (w64 (x32 + 1))).toNat) : Value) := hA 23 (by kernel_rfl)
              have a94 : fr' 94 = (.string ((s68.extract (0 : Int).toNat x32.toNat).extract ((w64 x30).tmod (w64 (x32 + 1))).toNat ((s68.extract (0 : Int).toNat x32.toNat).size : Int).toNat) : Value) := hA 26 (by kernel_rfl)
              obtain ⟨g', hg'⟩ : ∃ g' : Fr, fr' = g'.upds [(88, (.bool ((ibits .xor .i64 x76 x85) == (ibits .xor .i64 x92 x99)) : Value)), (91, (.string ((s68.extract (0 : Int).toNat x32.toNat).extract (0 : Int).toNat ((w64 x30).tmod (w64 (x32 + 1))).toNat) : Value)), (94, (.string ((s68.extract (0 : Int).toNat x32.toNat).extract ((w64 x30).tmod (w64 (x32 + 1))).toNat ((s68.extract (0 : Int).toNat x32.toNat).size : Int).toNat) : Value))] := ⟨_, Fr.upds_self _ _ ⟨a88, a91, a94, trivial⟩⟩
              subst hg'
              exact SA.fresh hle (fun h => SOps.lit (E := 9) (cs := #[.string ((s68.extract (0 : Int).toNat x32.toNat).extract (0 : Int).toNat ((w64 x30).tmod (w64 (x32 + 1))).toNat), .string ByteArray.empty, .string ((s68.extract (0 : Int).toNat x32.toNat).extract ((w64 x30).tmod (w64 (x32 + 1))).toNat ((s68.extract (0 : Int).toNat x32.toNat).size : Int).toNat)]) rfl rfl (wantY (c := ((ibits .xor .i64 x76 x85) == (ibits .xor .i64 x92 x99))) rfl rfl rfl dc101) (fun _ => by kernel_rfl) (fun b c => h b 0 c trivial))
            · clear h
              intro fr' T' H' hle hs hA
              have a88 : fr' 88 = (.bool ((ibits .xor .i64 x76 x85) == (ibits .xor .i64 x92 x99)) : Value) := hA 20 (by kernel_rfl)
              obtain ⟨b108, n109, a95, nb108, kb108, tb108, ob108⟩ := hA 27 (by kernel_rfl)
              obtain ⟨g', hg'⟩ : ∃ g' : Fr, fr' = g'.upds [(88, (.bool ((ibits .xor .i64 x76 x85) == (ibits .xor .i64 x92 x99)) : Value)), (95, sv (⟨some (b108, 0), 3, 3⟩ : Sl))] := ⟨_, Fr.upds_self _ _ ⟨a88, a95, trivial⟩⟩
              subst hg'
              exact SA.enter (Hc := SH.upd H b108 (⟨[.string ((s68.extract (0 : Int).toNat x32.toNat).extract (0 : Int).toNat ((w64 x30).tmod (w64 (x32 + 1))).toNat), .string ByteArray.empty, .string ((s68.extract (0 : Int).toNat x32.toNat).extract ((w64 x30).tmod (w64 (x32 + 1))).toNat ((s68.extract (0 : Int).toNat x32.toNat).size : Int).toNat)], 9, false, 3⟩ : AO)) (v := .int .i64 x110) (SH.le.upd_in hle kb108) rfl (wantY (c := ((ibits .xor .i64 x76 x85) == (ibits .xor .i64 x92 x99))) rfl rfl rfl dc101) (fun _ => by kernel_rfl) ((frame_Sum.sound F (⟨some (b108, 0), 3, 3⟩ : Sl) (SH.upd H b108 (⟨[.string ((s68.extract (0 : Int).toNat x32.toNat).extract (0 : Int).toNat ((w64 x30).tmod (w64 (x32 + 1))).toNat), .string ByteArray.empty, .string ((s68.extract (0 : Int).toNat x32.toNat).extract ((w64 x30).tmod (w64 (x32 + 1))).toNat ((s68.extract (0 : Int).toNat x32.toNat).size : Int).toNat)], 9, false, 3⟩ : AO)) _ (c111 b108 nb108)).mono (by rintro v H' ⟨_, rfl, rfl, h'⟩; exact ⟨rfl, h'⟩))
            · clear h
              intro fr' T' H' hle hs hA
              have a9 : fr' 9 = (.string (s68.extract (0 : Int).toNat x32.toNat) : Value) := hs 9 (by kernel_rfl)
              have a88 : fr' 88 = (.bool ((ibits .xor .i64 x76 x85) == (ibits .xor .i64 x92 x99)) : Value) := hA 20 (by kernel_rfl)
              obtain ⟨g', hg'⟩ : ∃ g' : Fr, fr' = g'.upds [(9, (.string (s68.extract (0 : Int).toNat x32.toNat) : Value)), (88, (.bool ((ibits .xor .i64 x76 x85) == (ibits .xor .i64 x92 x99)) : Value))] := ⟨_, Fr.upds_self _ _ ⟨a9, a88, trivial⟩⟩
              subst hg'
              exact SA.val (v := .string (s68.extract (0 : Int).toNat x32.toNat)) rfl (wantY (c := ((ibits .xor .i64 x76 x85) == (ibits .xor .i64 x92 x99))) rfl rfl rfl dc101) (fun _ => by kernel_rfl)
            · clear h
              intro fr' T' H' hle hs hA
              have a88 : fr' 88 = (.bool ((ibits .xor .i64 x76 x85) == (ibits .xor .i64 x92 x99)) : Value) := hA 20 (by kernel_rfl)
              have a97 : fr' 97 = (.string (s68.extract (0 : Int).toNat x32.toNat) : Value) := hA 29 (by kernel_rfl)
              obtain ⟨g', hg'⟩ : ∃ g' : Fr, fr' = g'.upds [(88, (.bool ((ibits .xor .i64 x76 x85) == (ibits .xor .i64 x92 x99)) : Value)), (97, (.string (s68.extract (0 : Int).toNat x32.toNat) : Value))] := ⟨_, Fr.upds_self _ _ ⟨a88, a97, trivial⟩⟩
              subst hg'
              exact SA.fresh hle (fun h => SOps.lit (E := 9) (cs := #[.string (s68.extract (0 : Int).toNat x32.toNat)]) rfl rfl (wantY (c := ((ibits .xor .i64 x76 x85) == (ibits .xor .i64 x92 x99))) rfl rfl rfl dc101) (fun _ => by kernel_rfl) (fun b c => h b 0 c trivial))
            · clear h
              intro fr' T' H' hle hs hA
              have a88 : fr' 88 = (.bool ((ibits .xor .i64 x76 x85) == (ibits .xor .i64 x92 x99)) : Value) := hA 20 (by kernel_rfl)
              obtain ⟨b112, n113, a98, nb112, kb112, tb112, ob112⟩ := hA 30 (by kernel_rfl)
              obtain ⟨g', hg'⟩ : ∃ g' : Fr, fr' = g'.upds [(88, (.bool ((ibits .xor .i64 x76 x85) == (ibits .xor .i64 x92 x99)) : Value)), (98, sv (⟨some (b112, 0), 1, 1⟩ : Sl))] := ⟨_, Fr.upds_self _ _ ⟨a88, a98, trivial⟩⟩
              subst hg'
              exact SA.enter (Hc := SH.upd H b112 (⟨[.string (s68.extract (0 : Int).toNat x32.toNat)], 9, false, 1⟩ : AO)) (v := .int .i64 x114) (SH.le.upd_in hle kb112) rfl (wantY (c := ((ibits .xor .i64 x76 x85) == (ibits .xor .i64 x92 x99))) rfl rfl rfl dc101) (fun _ => by kernel_rfl) ((frame_Sum.sound F (⟨some (b112, 0), 1, 1⟩ : Sl) (SH.upd H b112 (⟨[.string (s68.extract (0 : Int).toNat x32.toNat)], 9, false, 1⟩ : AO)) _ (c115 b112 nb112)).mono (by rintro v H' ⟨_, rfl, rfl, h'⟩; exact ⟨rfl, h'⟩))
            · clear h
              intro fr' T' H' hle hs hA
              have a88 : fr' 88 = (.bool ((ibits .xor .i64 x76 x85) == (ibits .xor .i64 x92 x99)) : Value) := hA 20 (by kernel_rfl)
              have a96 : fr' 96 = (.int .i64 x110 : Value) := hA 28 (by kernel_rfl)
              have a99 : fr' 99 = (.int .i64 x114 : Value) := hA 31 (by kernel_rfl)
              obtain ⟨g', hg'⟩ : ∃ g' : Fr, fr' = g'.upds [(88, (.bool ((ibits .xor .i64 x76 x85) == (ibits .xor .i64 x92 x99)) : Value)), (96, (.int .i64 x110 : Value)), (99, (.int .i64 x114 : Value))] := ⟨_, Fr.upds_self _ _ ⟨a88, a96, a99, trivial⟩⟩
              subst hg'
              exact SA.val (v := .bool (x110 == x114)) rfl (wantY (c := ((ibits .xor .i64 x76 x85) == (ibits .xor .i64 x92 x99))) rfl rfl rfl dc101) (fun _ => by kernel_rfl)
            · clear h
              intro fr' T' H' hle hs hA
              have a88 : fr' 88 = (.bool ((ibits .xor .i64 x76 x85) == (ibits .xor .i64 x92 x99)) : Value) := hA 20 (by kernel_rfl)
              have a100 : fr' 100 = (.bool (x110 == x114) : Value) := hA 32 (by kernel_rfl)
              obtain ⟨g', hg'⟩ : ∃ g' : Fr, fr' = g'.upds [(88, (.bool ((ibits .xor .i64 x76 x85) == (ibits .xor .i64 x92 x99)) : Value)), (100, (.bool (x110 == x114) : Value))] := ⟨_, Fr.upds_self _ _ ⟨a88, a100, trivial⟩⟩
              subst hg'
              exact SA.val (v := .bool (x110 == x114)) rfl (wantN rfl) (fun w => ev_pickT (v := .bool (x110 == x114)) rfl (t := ((ibits .xor .i64 x76 x85) == (ibits .xor .i64 x92 x99))) rfl dc101 rfl w)
            · clear h
              intro fr' T' H' hle hs hA
              have a101 : fr' 101 = (.bool (x110 == x114) : Value) := hA 33 (by kernel_rfl)
              obtain ⟨g', hg'⟩ : ∃ g' : Fr, fr' = g'.upds [(101, (.bool (x110 == x114) : Value))] := ⟨_, Fr.upds_self _ _ ⟨a101, trivial⟩⟩
              subst hg'
              exact SA.val (v := .bool (x110 == x114)) rfl (wantN rfl) (fun _ => by kernel_rfl)
            · intro fr' T' H' hle hs hA
              have a4 : fr' 4 = (.bool (x110 == x114) : Value) := hA 34 (Nat.le_of_ble_eq_true rfl)
              obtain ⟨g', hg'⟩ : ∃ g' : Fr, fr' = g'.upds [(4, (.bool (x110 == x114) : Value))] := ⟨_, Fr.upds_self _ _ ⟨a4, trivial⟩⟩
              subst hg'
              refine SOps.forget (H) hle ?_
              clear hle hs hA
              refine SOps.nil ?_
              obtain ⟨Hr, hr, h⟩ := h
              exact SW.ret (retQ.mk (.bool (x110 == x114)) (res1 rfl rfl) hr ⟨(x110 == x114), rfl, h⟩)
          · replace h := h.2 c101
            have dc101 : ((ibits .xor .i64 x76 x85) == (ibits .xor .i64 x92 x99)) = false := (beq_eq_false_iff_ne.mpr c101)
            refine SW.drawA [.val (.string (s68.extract (0 : Int).toNat x32.toNat)), .fresh 1 (fun b c => sv ⟨some (b, 0), 1, 1⟩) (fun c => (⟨[.string (s68.extract (0 : Int).toNat x32.toNat)], 9, false, 1⟩ : AO)) (fun _ => True), .val (.int .i64 x76), .val (pv (some (b31, 1))), .val (.string s78), .val (.int .i64 x32), .val (.string (s78.extract (0 : Int).toNat x32.toNat)), .fresh 7 (fun b c => sv ⟨some (b, 0), 1, 1⟩) (fun c => (⟨[.string (s78.extract (0 : Int).toNat x32.toNat)], 9, false, 1⟩ : AO)) (fun _ => True), .val (.int .i64 x85), .val (.int .i64 (ibits .xor .i64 x76 x85)), .val (sv l33), .val (.string (⟨bs87.toArray⟩ : ByteArray)), .fresh 12 (fun b c => sv ⟨some (b, 0), 1, 1⟩) (fun c => (⟨[.string (⟨bs87.toArray⟩ : ByteArray)], 9, false, 1⟩ : AO)) (fun _ => True), .val (.int .i64 x92), .val (sv l34), .val (.string (⟨bs94.toArray⟩ : ByteArray)), .fresh 16 (fun b c => sv ⟨some (b, 0), 1, 1⟩) (fun c => (⟨[.string (⟨bs94.toArray⟩ : ByteArray)], 9, false, 1⟩ : AO)) (fun _ => True), .val (.int .i64 x99), .val (.int .i64 (ibits .xor .i64 x92 x99)), .val (.bool ((ibits .xor .i64 x76 x85) == (ibits .xor .i64 x92 x99))), .val (.bool ((ibits .xor .i64 x76 x85) == (ibits .xor .i64 x92 x99))), .val (undef), .val (undef), .val (undef), .val (undef), .val (undef), .val (undef), .val (undef), .val (undef), .val (undef), .val (undef), .val (undef), .val (undef), .val (.bool false), .val (.bool false)] (by kernel_rfl) (by kernel_rfl) (And.intro ?_ (And.intro ?_ (And.intro ?_ (And.intro ?_ (And.intro ?_ (And.intro ?_ (And.intro ?_ (And.intro ?_ (And.intro ?_ (And.intro ?_ (And.intro ?_ (And.intro ?_ (And.intro ?_ (And.intro ?_ (And.intro ?_ (And.intro ?_ (And.intro ?_ (And.intro ?_ (And.intro ?_ (And.intro ?_ (And.intro ?_ (And.intro ?_ (And.intro ?_ (And.intro ?_ (And.intro ?_ (And.intro ?_ (And.intro ?_ (And.intro ?_ (And.intro ?_ (And.intro ?_ (And.intro ?_ (And.intro ?_ (And.intro ?_ (And.intro ?_ (And.intro ?_ (trivial)))))))))))))))))))))))))))))))))))) ?_
            · clear h
              intro fr' T' H' hle hs hA
              have a9 : fr' 9 = (.string (s68.extract (0 : Int).toNat x32.toNat) : Value) := hs 9 (by kernel_rfl)
              obtain ⟨g', hg'⟩ : ∃ g' : Fr, fr' = g'.upds [(9, (.string (s68.extract (0 : Int).toNat x32.toNat) : Value))] := ⟨_, Fr.upds_self _ _ ⟨a9, trivial⟩⟩
              subst hg'
              exact SA.val (v := .string (s68.extract (0 : Int).toNat x32.toNat)) rfl (wantN rfl) (fun _ => by kernel_rfl)
            · clear h
              intro fr' T' H' hle hs hA
              have a68 : fr' 68 = (.string (s68.extract (0 : Int).toNat x32.toNat) : Value) := hA 0 (by kernel_rfl)
              obtain ⟨g', hg'⟩ : ∃ g' : Fr, fr' = g'.upds [(68, (.string (s68.extract (0 : Int).toNat x32.toNat) : Value))] := ⟨_, Fr.upds_self _ _ ⟨a68, trivial⟩⟩
              subst hg'
              exact SA.fresh hle (fun h => SOps.lit (E := 9) (cs := #[.string (s68.extract (0 : Int).toNat x32.toNat)]) rfl rfl (wantN rfl) (fun _ => by kernel_rfl) (fun b c => h b 0 c trivial))
            · clear h
              intro fr' T' H' hle hs hA
              obtain ⟨b74, n75, a69, nb74, kb74, tb74, ob74⟩ := hA 1 (by kernel_rfl)
              obtain ⟨g', hg'⟩ : ∃ g' : Fr, fr' = g'.upds [(69, sv (⟨some (b74, 0), 1, 1⟩ : Sl))] := ⟨_, Fr.upds_self _ _ ⟨a69, trivial⟩⟩
              subst hg'
              exact SA.enter (Hc := SH.upd H b74 (⟨[.string (s68.extract (0 : Int).toNat x32.toNat)], 9, false, 1⟩ : AO)) (v := .int .i64 x76) (SH.le.upd_in hle kb74) rfl (wantN rfl) (fun _ => by kernel_rfl) ((frame_Sum.sound F (⟨some (b74, 0), 1, 1⟩ : Sl) (SH.upd H b74 (⟨[.string (s68.extract (0 : Int).toNat x32.toNat)], 9, false, 1⟩ : AO)) _ (c77 b74 nb74)).mono (by rintro v H' ⟨_, rfl, rfl, h'⟩; exact ⟨rfl, h'⟩))
            · clear h
              intro fr' T' H' hle hs hA
              have a2 : fr' 2 = pv (some (b31, 0)) := hs 2 (by kernel_rfl)
              obtain ⟨g', hg'⟩ : ∃ g' : Fr, fr' = g'.upds [(2, pv (some (b31, 0)))] := ⟨_, Fr.upds_self _ _ ⟨a2, trivial⟩⟩
              subst hg'
              exact SA.val (v := pv (some (b31, 1))) rfl (wantN rfl) (fun _ => by kernel_rfl)
            · clear h
              intro fr' T' H' hle hs hA
              have a71 : fr' 71 = pv (some (b31, 1)) := hA 3 (by kernel_rfl)
              obtain ⟨g', hg'⟩ : ∃ g' : Fr, fr' = g'.upds [(71, pv (some (b31, 1)))] := ⟨_, Fr.upds_self _ _ ⟨a71, trivial⟩⟩
              subst hg'
              exact SA.rd hle (v := .string s78) rfl (wantN rfl) (fun w hw => ev_load1 rfl (fun _ => by kernel_rfl) (p := (b31, 1)) rfl c79 w hw)
            · clear h
              intro fr' T' H' hle hs hA
              have a5 : fr' 5 = (.int .i64 x32 : Value) := hs 5 (by kernel_rfl)
              obtain ⟨g', hg'⟩ : ∃ g' : Fr, fr' = g'.upds [(5, (.int .i64 x32 : Value))] := ⟨_, Fr.upds_self _ _ ⟨a5, trivial⟩⟩
              subst hg'
              exact SA.val (v := .int .i64 x32) rfl (wantN rfl) (fun _ => by kernel_rfl)
            · clear h
              intro fr' T' H' hle hs hA
              have a72 : fr' 72 = (.string s78 : Value) := hA 4 (by kernel_rfl)
              have a73 : fr' 73 = (.int .i64 x32 : Value) := hA 5 (by kernel_rfl)
              obtain ⟨g', hg'⟩ : ∃ g' : Fr, fr' = g'.upds [(72, (.string s78 : Value)), (73, (.int .i64 x32 : Value))] := ⟨_, Fr.upds_self _ _ ⟨a72, a73, trivial⟩⟩
              subst hg'
              exact SA.val (v := .string (s78.extract (0 : Int).toNat x32.toNat)) rfl (wantN rfl) (fun w => ev_subS (a := (0 : Int)) (b := x32) rfl Try.underlying9 rfl (Or.inl ⟨rfl, rfl⟩) (Or.inr ⟨_, rfl⟩) c80 c81 c82 w)
            · clear h
              intro fr' T' H' hle hs hA
              have a74 : fr' 74 = (.string (s78.extract (0 : Int).toNat x32.toNat) : Value) := hA 6 (by kernel_rfl)
              obtain ⟨g', hg'⟩ : ∃ g' : Fr, fr' = g'.upds [(74, (.string (s78.extract (0 : Int).toNat x32.toNat) : Value))] := ⟨_, Fr.upds_self _ _ ⟨a74, trivial⟩⟩
              subst hg'
              exact SA.fresh hle (fun h => SOps.lit (E := 9) (cs := #[.string (s78.extract (0 : Int).toNat x32.toNat)]) rfl rfl (wantN rfl) (fun _ => by kernel_rfl) (fun b c => h b 0 c trivial))
            · clear h
              intro fr' T' H' hle hs hA
              obtain ⟨b83, n84, a75, nb83, kb83, tb83, ob83⟩ := hA 7 (by kernel_rfl)
              obtain ⟨g', hg'⟩ : ∃ g' : Fr, fr' = g'.upds [(75, sv (⟨some (b83, 0), 1, 1⟩ : Sl))] := ⟨_, Fr.upds_self _ _ ⟨a75, trivial⟩⟩
              subst hg'
              exact SA.enter (Hc := SH.upd H b83 (⟨[.string (s78.extract (0 : Int).toNat x32.toNat)], 9, false, 1⟩ : AO)) (v := .int .i64 x85) (SH.le.upd_in hle kb83) rfl (wantN rfl) (fun _ => by kernel_rfl) ((frame_Sum.sound F (⟨some (b83, 0), 1, 1⟩ : Sl) (SH.upd H b83 (⟨[.string (s78.extract (0 : Int).toNat x32.toNat)], 9, false, 1⟩ : AO)) _ (c86 b83 nb83)).mono (by rintro v H' ⟨_, rfl, rfl, h'⟩; exact ⟨rfl, h'⟩))
            · clear h
              intro fr' T' H' hle hs hA
              have a70 : fr' 70 = (.int .i64 x76 : Value) := hA 2 (by kernel_rfl)
              have a76 : fr' 76 = (.int .i64 x85 : Value) := hA 8 (by kernel_rfl)
              obtain ⟨g', hg'⟩ : ∃ g' : Fr, fr' = g'.upds [(70, (.int .i64 x76 : Value)), (76, (.int .i64 x85 : Value))] := ⟨_, Fr.upds_self _ _ ⟨a70, a76, trivial⟩⟩
              subst hg'
              exact SA.val (v := .int .i64 (ibits .xor .i64 x76 x85)) rfl (wantN rfl) (fun _ => by kernel_rfl)
            · clear h
              intro fr' T' H' hle hs hA
              have a6 : fr' 6 = sv l33 := hs 6 (by kernel_rfl)
              obtain ⟨g', hg'⟩ : ∃ g' : Fr, fr' = g'.upds [(6, sv l33)] := ⟨_, Fr.upds_self _ _ ⟨a6, trivial⟩⟩
              subst hg'
              exact SA.val (v := sv l33) rfl (wantN rfl) (fun _ => by kernel_rfl)
            · clear h
              intro fr' T' H' hle hs hA
              have a78 : fr' 78 = sv l33 := hA 10 (by kernel_rfl)
              obtain ⟨g', hg'⟩ : ∃ g' : Fr, fr' = g'.upds [(78, sv l33)] := ⟨_, Fr.upds_self _ _ ⟨a78, trivial⟩⟩
              subst hg'
              exact SA.rd hle (v := .string (⟨bs87.toArray⟩ : ByteArray)) rfl (wantN rfl) (fun w hw => ev_str rfl Try.underlying32 Try.underlying5 Try.underlying9 rfl c88 c89 w hw)
            · clear h
              intro fr' T' H' hle hs hA
              have a79 : fr' 79 = (.string (⟨bs87.toArray⟩ : ByteArray) : Value) := hA 11 (by kernel_rfl)
              obtain ⟨g', hg'⟩ : ∃ g' : Fr, fr' = g'.upds [(79, (.string (⟨bs87.toArray⟩ : ByteArray) : Value))] := ⟨_, Fr.upds_self _ _ ⟨a79, trivial⟩⟩
              subst hg'
              exact SA.fresh hle (fun h => SOps.lit (E := 9) (cs := #[.string (⟨bs87.toArray⟩ : ByteArray)]) rfl rfl (wantN rfl) (fun _ => by kernel_rfl) (fun b c => h b 0 c trivial))
            · clear h
              intro fr' T' H' hle hs hA
              obtain ⟨b90, n91, a80, nb90, kb90, tb90, ob90⟩ := hA 12 (by kernel_rfl)
              obtain ⟨g', hg'⟩ : ∃ g' : Fr, fr' = g'.upds [(80, sv (⟨some (b90, 0), 1, 1⟩ : Sl))] := ⟨_, Fr.upds_self _ _ ⟨a80, trivial⟩⟩
              subst hg'
              exact SA.enter (Hc := SH.upd H b90 (⟨[.string (⟨bs87.toArray⟩ : ByteArray)], 9, false, 1⟩ : AO)) (v := .int .i64 x92) (SH.le.upd_in hle kb90) rfl (wantN rfl) (fun _ => by kernel_rfl) ((frame_Sum.sound F (⟨some (b90, 0), 1, 1⟩ : Sl) (SH.upd H b90 (⟨[.string (⟨bs87.toArray⟩ : ByteArray)], 9, false, 1⟩ : AO)) _ (c93 b90 nb90)).mono (by rintro v H' ⟨_, rfl, rfl, h'⟩; exact ⟨rfl, h'⟩))
            · clear h
              intro fr' T' H' hle hs hA
              have a7 : fr' 7 = sv l34 := hs 7 (by kernel_rfl)
              obtain ⟨g', hg'⟩ : ∃ g' : Fr, fr' = g'.upds [(7, sv l34)] := ⟨_, Fr.upds_self _ _ ⟨a7, trivial⟩⟩
              subst hg'
              exact SA.val (v := sv l34) rfl (wantN rfl) (fun _ => by kernel_rfl)
            · clear h
              intro fr' T' H' hle hs hA
              have a82 : fr' 82 = sv l34 := hA 14 (by kernel_rfl)
              obtain ⟨g', hg'⟩ : ∃ g' : Fr, fr' = g'.upds [(82, sv l34)] := ⟨_, Fr.upds_self _ _ ⟨a82, trivial⟩⟩
              subst hg'
              exact SA.rd hle (v := .string (⟨bs94.toArray⟩ : ByteArray)) rfl (wantN rfl) (fun w hw => ev_str rfl Try.underlying32 Try.underlying5 Try.underlying9 rfl c95 c96 w hw)
            · clear h
              intro fr' T' H' hle hs hA
              have a83 : fr' 83 = (.string (⟨bs94.toArray⟩ : ByteArray) : Value) := hA 15 (by kernel_rfl)
              obtain ⟨g', hg'⟩ : ∃ g' : Fr, fr' = g'.upds [(83, (.string (⟨bs94.toArray⟩ : ByteArray) : Value))] := ⟨_, Fr.upds_self _ _ ⟨a83, trivial⟩⟩
              subst hg'
              exact SA.fresh hle (fun h => SOps.lit (E := 9) (cs := #[.string (⟨bs94.toArray⟩ : ByteArray)]) rfl rfl (wantN rfl) (fun _ => by kernel_rfl) (fun b c => h b 0 c trivial))
            · clear h
              intro fr' T' H' hle hs hA
              obtain ⟨b97, n98, a84, nb97, kb97, tb97, ob97⟩ := hA 16 (by kernel_rfl)
              obtain ⟨g', hg'⟩ : ∃ g' : Fr, fr' = g'.upds [(84, sv (⟨some (b97, 0), 1, 1⟩ : Sl))] := ⟨_, Fr.upds_self _ _ ⟨a84, trivial⟩⟩
              subst hg'
              exact SA.enter (Hc := SH.upd H b97 (⟨[.string (⟨bs94.toArray⟩ : ByteArray)], 9, false, 1⟩ : AO)) (v := .int .i64 x99) (SH.le.upd_in hle kb97) rfl (wantN rfl) (fun _ => by kernel_rfl) ((frame_Sum.sound F (⟨some (b97, 0), 1, 1⟩ : Sl) (SH.upd H b97 (⟨[.string (⟨bs94.toArray⟩ : ByteArray)], 9, false, 1⟩ : AO)) _ (c100 b97 nb97)).mono (by rintro v H' ⟨_, rfl, rfl, h'⟩; exact ⟨rfl, h'⟩))
            · clear h
              intro fr' T' H' hle hs hA
              have a81 : fr' 81 = (.int .i64 x92 : Value) := hA 13 (by kernel_rfl)
              have a85 : fr' 85 = (.int .i64 x99 : Value) := hA 17 (by kernel_rfl)
              obtain ⟨g', hg'⟩ : ∃ g' : Fr, fr' = g'.upds [(81, (.int .i64 x92 : Value)), (85, (.int .i64 x99 : Value))] := ⟨_, Fr.upds_self _ _ ⟨a81, a85, trivial⟩⟩
              subst hg'
              exact SA.val (v := .int .i64 (ibits .xor .i64 x92 x99)) rfl (wantN rfl) (fun _ => by kernel_rfl)
            · clear h
              intro fr' T' H' hle hs hA
              have a77 : fr' 77 = (.int .i64 (ibits .xor .i64 x76 x85) : Value) := hA 9 (by kernel_rfl)
              have a86 : fr' 86 = (.int .i64 (ibits .xor .i64 x92 x99) : Value) := hA 18 (by kernel_rfl)
              obtain ⟨g', hg'⟩ : ∃ g' : Fr, fr' = g'.upds [(77, (.int .i64 (ibits .xor .i64 x76 x85) : Value)), (86, (.int .i64 (ibits .xor .i64 x92 x99) : Value))] := ⟨_, Fr.upds_self _ _ ⟨a77, a86, trivial⟩⟩
              subst hg'
              exact SA.val (v := .bool ((ibits .xor .i64 x76 x85) == (ibits .xor .i64 x92 x99))) rfl (wantN rfl) (fun _ => by kernel_rfl)
            · clear h
              intro fr' T' H' hle hs hA
              have a87 : fr' 87 = (.bool ((ibits .xor .i64 x76 x85) == (ibits .xor .i64 x92 x99)) : Value) := hA 19 (by kernel_rfl)
              obtain ⟨g', hg'⟩ : ∃ g' : Fr, fr' = g'.upds [(87, (.bool ((ibits .xor .i64 x76 x85) == (ibits .xor .i64 x92 x99)) : Value))] := ⟨_, Fr.upds_self _ _ ⟨a87, trivial⟩⟩
              subst hg'
              exact SA.val (v := .bool ((ibits .xor .i64 x76 x85) == (ibits .xor .i64 x92 x99))) rfl (wantN rfl) (fun _ => by kernel_rfl)
            · clear h
              intro fr' T' H' hle hs hA
              have a9 : fr' 9 = (.string (s68.extract (0 : Int).toNat x32.toNat) : Value) := hs 9 (by kernel_rfl)
              have a88 : fr' 88 = (.bool ((ibits .xor .i64 x76 x85) == (ibits .xor .i64 x92 x99)) : Value) := hA 20 (by kernel_rfl)
              obtain ⟨g', hg'⟩ : ∃ g' : Fr, fr' = g'.upds [(9, (.string (s68.extract (0 : Int).toNat x32.toNat) : Value)), (88, (.bool ((ibits .xor .i64 x76 x85) == (ibits .xor .i64 x92 x99)) : Value))] := ⟨_, Fr.upds_self _ _ ⟨a9, a88, trivial⟩⟩
              subst hg'
              exact SA.off rfl (wantX (c := ((ibits .xor .i64 x76 x85) == (ibits .xor .i64 x92 x99))) rfl rfl rfl dc101)
            · clear h
              intro fr' T' H' hle hs hA
              have a10 : fr' 10 = (.int .i64 ((w64 x30).tmod (w64 (x32 + 1))) : Value) := hs 10 (by kernel_rfl)
              have a88 : fr' 88 = (.bool ((ibits .xor .i64 x76 x85) == (ibits .xor .i64 x92 x99)) : Value) := hA 20 (by kernel_rfl)
              obtain ⟨g', hg'⟩ : ∃ g' : Fr, fr' = g'.upds [(10, (.int .i64 ((w64 x30).tmod (w64 (x32 + 1))) : Value)), (88, (.bool ((ibits .xor .i64 x76 x85) == (ibits .xor .i64 x92 x99)) : Value))] := ⟨_, Fr.upds_self _ _ ⟨a10, a88, trivial⟩⟩
              subst hg'
              exact SA.off rfl (wantX (c := ((ibits .xor .i64 x76 x85) == (ibits .xor .i64 x92 x99))) rfl rfl rfl dc101)
            · clear h
              intro fr' T' H' hle hs hA
              have a88 : fr' 88 = (.bool ((ibits .xor .i64 x76 x85) == (ibits .xor .i64 x92 x99)) : Value) := hA 20 (by kernel_rfl)
              have a89 : fr' 89 = undef := hA 21 (by kernel_rfl)
              have a90 : fr' 90 = undef := hA 22 (by kernel_rfl)
              obtain ⟨g', hg'⟩ : ∃ g' : Fr, fr' = g'.upds [(88, (.bool ((ibits .xor .i64 x76 x85) == (ibits .xor .i64 x92 x99)) : Value)), (89, undef), (90, undef)] := ⟨_, Fr.upds_self _ _ ⟨a88, a89, a90, trivial⟩⟩
              subst hg'
              exact SA.off rfl (wantX (c := ((ibits .xor .i64 x76 x85) == (ibits .xor .i64 x92 x99))) rfl rfl rfl dc101)
            · clear h
              intro fr' T' H' hle hs hA
              have a9 : fr' 9 = (.string (s68.extract (0 : Int).toNat x32.toNat) : Value) := hs 9 (by kernel_rfl)
              have a88 : fr' 88 = (.bool ((ibits .xor .i64 x76 x85) == (ibits .xor .i64 x92 x99)) : Value) := hA 20 (by kernel_rfl)
              obtain ⟨g', hg'⟩ : ∃ g' : Fr, fr' = g'.upds [(9, (.string (s68.extract (0 : Int).toNat x32.toNat) : Value)), (88, (.bool ((ibits .xor .i64 x76 x85) == (ibits .xor .i64 x92 x99)) : Value))] := ⟨_, Fr.upds_self _ _ ⟨a9, a88, trivial⟩⟩
              subst hg'
              exact SA.off rfl (wantX (c := ((ibits .xor .i64 x76 x85) == (ibits .xor .i64 x92 x99))) rfl rfl rfl dc101)
            · clear h
              intro fr' T' H' hle hs hA
              have a10 : fr' 10 = (.int .i64 ((w64 x30).tmod (w64 (x32 + 1))) : Value) := hs 10 (by kernel_rfl)
              have a88 : fr' 88 = (.bool ((ibits .xor .i64 x76 x85) == (ibits .xor .i64 x92 x99)) : Value) := hA 20 (by kernel_rfl)
              obtain ⟨g', hg'⟩ : ∃ g' : Fr, fr' = g'.upds [(10, (.int .i64 ((w64 x30).tmod (w64 (x32 + 1))) : Value)), (88, (.bool ((ibits .xor .i64 x76 x85) == (ibits .xor .i64 x92 x99)) : Value))] := ⟨_, Fr.upds_self _ _ ⟨a10, a88, trivial⟩⟩
              subst hg'
              exact SA.off rfl (wantX (c := ((ibits .xor .i64 x76 x85) == (ibits .xor .i64 x92 x99))) rfl rfl rfl dc101)
            · clear h
              intro fr' T' H' hle hs hA
              have a88 : fr' 88 = (.bool ((ibits .xor .i64 x76 x85) == (ibits .xor .i64 x92 x99)) : Value) := hA 20 (by kernel_rfl)
              have a92 : fr' 92 = undef := hA 24 (by kernel_rfl)
              have a93 : fr' 93 = undef := hA 25 (by kernel_rfl)
              obtain ⟨g', hg'⟩ : ∃ g' : Fr, fr' = g'.upds [(88, (.bool ((ibits .xor .i64 x76 x85) == (ibits .xor .i64 x92 x99)) : Value)), (92, undef), (93, undef)] := ⟨_, Fr.upds_self _ _ ⟨a88, a92, a93, trivial⟩⟩
              subst hg'
              exact SA.off rfl (wantX (c := ((ibits .xor .i64 x76 x85) == (ibits .xor .i64 x92 x99))) rfl rfl rfl dc101)
            · clear h
              intro fr' T' H' hle hs hA
              have a88 : fr' 88 = (.bool ((ibits .xor .i64 x76 x85) == (ibits .xor .i64 x92 x99)) : Value) := hA 20 (by kernel_rfl)
              have a91 : fr' 91 = undef := hA 23 (by kernel_rfl)
              have a94 : fr' 94 = undef := hA 26 (by kernel_rfl)
              obtain ⟨g', hg'⟩ : ∃ g' : Fr, fr' = g'.upds [(88, (.bool ((ibits .xor .i64 x76 x85) == (ibits .xor .i64 x92 x99)) : Value)), (91, undef), (94, undef)] := ⟨_, Fr.upds_self _ _ ⟨a88, a91, a94, trivial⟩⟩
              subst hg'
              exact SA.off rfl (wantX (c := ((ibits .xor .i64 x76 x85) == (ibits .xor .i64 x92 x99))) rfl rfl rfl dc101)
            · clear h
              intro fr' T' H' hle hs hA
              have a88 : fr' 88 = (.bool ((ibits .xor .i64 x76 x85) == (ibits .xor .i64 x92 x99)) : Value) := hA 20 (by kernel_rfl)
              have a95 : fr' 95 = undef := hA 27 (by kernel_rfl)
              obtain ⟨g', hg'⟩ : ∃ g' : Fr, fr' = g'.upds [(88, (.bool ((ibits .xor .i64 x76 x85) == (ibits .xor .i64 x92 x99)) : Value)), (95, undef)] := ⟨_, Fr.upds_self _ _ ⟨a88, a95, trivial⟩⟩
              subst hg'
              exact SA.off rfl (wantX (c := ((ibits .xor .i64 x76 x85) == (ibits .xor .i64 x92 x99))) rfl rfl rfl dc101)
            · clear h
              intro fr' T' H' hle hs hA
              have a9 : fr' 9 = (.string (s68.extract (0 : Int).toNat x32.toNat) : Value) := hs 9 (by kernel_rfl)
              have a88 : fr' 88 = (.bool ((ibits .xor .i64 x76 x85) == (ibits .xor .i64 x92 x99)) : Value) := hA 20 (by kernel_rfl)
              obtain ⟨g', hg'⟩ : ∃ g' : Fr, fr' = g'.upds [(9, (.string (s68.extract (0 : Int).toNat x32.toNat) : Value)), (88, (.bool ((ibits .xor .i64 x76 x85) == (ibits .xor .i64 x92 x99)) : Value))] := ⟨_, Fr.upds_self _ _ ⟨a9, a88, trivial⟩⟩
              subst hg'
              exact SA.off rfl (wantX (c := ((ibits .xor .i64 x76 x85) == (ibits .xor .i64 x92 x99))) rfl rfl rfl dc101)
            · clear h
              intro fr' T' H' hle hs hA
              have a88 : fr' 88 = (.bool ((ibits .xor .i64 x76 x85) == (ibits .xor .i64 x92 x99)) : Value) := hA 20 (by kernel_rfl)
              have a97 : fr' 97 = undef := hA 29 (by kernel_rfl)
              obtain ⟨g', hg'⟩ : ∃ g' : Fr, fr' = g'.upds [(88, (.bool ((ibits .xor .i64 x76 x85) == (ibits .xor .i64 x92 x99)) : Value)), (97, undef)] := ⟨_, Fr.upds_self _ _ ⟨a88, a97, trivial⟩⟩
              subst hg'
              exact SA.off rfl (wantX (c := ((ibits .xor .i64 x76 x85) == (ibits .xor .i64 x92 x99))) rfl rfl rfl dc101)
            · clear h
              intro fr' T' H' hle hs hA
              have a88 : fr' 88 = (.bool ((ibits .xor .i64 x76 x85) == (ibits .xor .i64 x92 x99)) : Value) := hA 20 (by kernel_rfl)
              have a98 : fr' 98 = undef := hA 30 (by kernel_rfl)
              obtain ⟨g', hg'⟩ : ∃ g' : Fr, fr' = g'.upds [(88, (.bool ((ibits .xor .i64 x76 x85) == (ibits .xor .i64 x92 x99)) : Value)), (98, undef)] := ⟨_, Fr.upds_self _ _ ⟨a88, a98, trivial⟩⟩
              subst hg'
              exact SA.off rfl (wantX (c := ((ibits .xor .i64 x76 x85) == (ibits .xor .i64 x92 x99))) rfl rfl rfl dc101)
            · clear h
              intro fr' T' H' hle hs hA
              have a88 : fr' 88 = (.bool ((ibits .xor .i64 x76 x85) == (ibits .xor .i64 x92 x99)) : Value) := hA 20 (by kernel_rfl)
              have a96 : fr' 96 = undef := hA 28 (by kernel_rfl)
              have a99 : fr' 99 = undef := hA 31 (by kernel_rfl)
              obtain ⟨g', hg'⟩ : ∃ g' : Fr, fr' = g'.upds [(88, (.bool ((ibits .xor .i64 x76 x85) == (ibits .xor .i64 x92 x99)) : Value)), (96, undef), (99, undef)] := ⟨_, Fr.upds_self _ _ ⟨a88, a96, a99, trivial⟩⟩
              subst hg'
              exact SA.off rfl (wantX (c := ((ibits .xor .i64 x76 x85) == (ibits .xor .i64 x92 x99))) rfl rfl rfl dc101)
            · clear h
              intro fr' T' H' hle hs hA
              have a88 : fr' 88 = (.bool ((ibits .xor .i64 x76 x85) == (ibits .xor .i64 x92 x99)) : Value) := hA 20 (by kernel_rfl)
              have a100 : fr' 100 = undef := hA 32 (by kernel_rfl)
              obtain ⟨g', hg'⟩ : ∃ g' : Fr, fr' = g'.upds [(88, (.bool ((ibits .xor .i64 x76 x85) == (ibits .xor .i64 x92 x99)) : Value)), (100, undef)] := ⟨_, Fr.upds_self _ _ ⟨a88, a100, trivial⟩⟩
              subst hg'
              exact SA.val (v := .bool false) rfl (wantN rfl) (fun w => ev_pickF (v := .bool false) rfl (t := ((ibits .xor .i64 x76 x85) == (ibits .xor .i64 x92 x99))) rfl dc101 rfl w)
            · clear h
              intro fr' T' H' hle hs hA
              have a101 : fr' 101 = (.bool false : Value) := hA 33 (by kernel_rfl)
              obtain ⟨g', hg'⟩ : ∃ g' : Fr, fr' = g'.upds [(101, (.bool false : Value))] := ⟨_, Fr.upds_self _ _ ⟨a101, trivial⟩⟩
              subst hg'
              exact SA.val (v := .bool false) rfl (wantN rfl) (fun _ => by kernel_rfl)
            · intro fr' T' H' hle hs hA
              have a4 : fr' 4 = (.bool false : Value) := hA 34 (Nat.le_of_ble_eq_true rfl)
              obtain ⟨g', hg'⟩ : ∃ g' : Fr, fr' = g'.upds [(4, (.bool false : Value))] := ⟨_, Fr.upds_self _ _ ⟨a4, trivial⟩⟩
              subst hg'
              refine SOps.forget (H) hle ?_
              clear hle hs hA
              refine SOps.nil ?_
              obtain ⟨Hr, hr, h⟩ := h
              exact SW.ret (retQ.mk (.bool false) (res1 rfl rfl) hr ⟨false, rfl, h⟩)
  · replace h := h.2 c9
    have dc9 : q7 = false := (Bool.eq_false_iff.mpr c9)
    refine SW.cond_t (t := !q7) rfl (not_f dc9) ?_
    refine SW.seq ?_
    refine SW.region ?_
    refine SOps.val (v := .bool false) rfl (wantN rfl) (fun _ => by kernel_rfl) ?_
    refine SOps.nil ?_
    obtain ⟨Hr, hr, h⟩ := h
    exact SW.ret (retQ.mk (.bool false) (res1 rfl rfl) hr ⟨false, rfl, h⟩)

/-! ### lading/ladinglaw03.FrameRows: function 5 -/
def ladinglaw03_FrameRows.r3 (F : Nat) (K : Bool → SH → Prop) (R3 : Sl → Sl → Int → Int → SH → Prop) (l60 : Sl) (l61 : Sl) (x62 : Int) (x63 : Int) (H : SH) : Prop :=
  (x63 < x62 →
    ∃ p65, l61.a = some p65 ∧ 0 ≤ x63 ∧ x63 < (l61.len : Int) ∧
    ∃ (s69 : ByteArray),
    SH.has H (p65.1, (p65.2 + x63.toNat * 1)) (.string s69) ∧
    ∃ p71, l60.a = some p71 ∧ 0 ≤ x63 ∧ x63 < (l60.len : Int) ∧
    ∃ (s75 : ByteArray),
    SH.has H (p71.1, (p71.2 + x63.toNat * 1)) (.string s75) ∧
    ((s69 = s75) →
      R3 l60 l61 x62 (w64 (x63 + 1)) H
    ) ∧ (¬ ((s69 = s75)) →
      ∃ Hr, SH.le Hr H ∧ K false Hr
    )
  ) ∧ (¬ (x63 < x62) →
    ∃ Hr, SH.le Hr H ∧ K true Hr
  )
def ladinglaw03_FrameRows.l3 (F : Nat) (K : Bool → SH → Prop) : Nat → Sl → Sl → Int → Int → SH → Prop
  | 0, _, _, _, _, _ => False
  | k + 1, l60, l61, x62, x63, H => ladinglaw03_FrameRows.r3 F K (ladinglaw03_FrameRows.l3 F K k) l60 l61 x62 x63 H
def ladinglaw03_FrameRows.r4 (F : Nat) (K : Bool → SH → Prop) (R4 : Sl → Sl → Int → Int → SH → Prop) (l80 : Sl) (l81 : Sl) (x82 : Int) (x83 : Int) (H : SH) : Prop :=
  (x83 < x82 →
    ∃ p85, l81.a = some p85 ∧ 0 ≤ x83 ∧ x83 < (l81.len : Int) ∧
    ∃ (s89 : ByteArray),
    SH.has H (p85.1, (p85.2 + x83.toNat * 1)) (.string s89) ∧
    ∃ p91, l80.a = some p91 ∧ 0 ≤ x83 ∧ x83 < (l80.len : Int) ∧
    ∃ (s95 : ByteArray),
    SH.has H (p91.1, (p91.2 + x83.toNat * 1)) (.string s95) ∧
    ((s89 = s95) →
      R4 l80 l81 x82 (w64 (x83 + 1)) H
    ) ∧ (¬ ((s89 = s95)) →
      ∃ Hr, SH.le Hr H ∧ K false Hr
    )
  ) ∧ (¬ (x83 < x82) →
    ∃ Hr, SH.le Hr H ∧ K true Hr
  )
def ladinglaw03_FrameRows.l4 (F : Nat) (K : Bool → SH → Prop) : Nat → Sl → Sl → Int → Int → SH → Prop
  | 0, _, _, _, _, _ => False
  | k + 1, l80, l81, x82, x83, H => ladinglaw03_FrameRows.r4 F K (ladinglaw03_FrameRows.l4 F K k) l80 l81 x82 x83 H
def ladinglaw03_FrameRows.r5 (F : Nat) (K : Bool → SH → Prop) (R5 : Sl → Sl → Int → Int → SH → Prop) (l109 : Sl) (l110 : Sl) (x111 : Int) (x112 : Int) (H : SH) : Prop :=
  (x112 < x111 →
    ∃ p114, l110.a = some p114 ∧ 0 ≤ x112 ∧ x112 < (l110.len : Int) ∧
    ∃ (s118 : ByteArray),
    SH.has H (p114.1, (p114.2 + x112.toNat * 1)) (.string s118) ∧
    ∃ p120, l109.a = some p120 ∧ 0 ≤ x112 ∧ x112 < (l109.len : Int) ∧
    ∃ (s124 : ByteArray),
    SH.has H (p120.1, (p120.2 + x112.toNat * 1)) (.string s124) ∧
    ((s118 = s124) →
      R5 l109 l110 x111 (w64 (x112 + 1)) H
    ) ∧ (¬ ((s118 = s124)) →
      ∃ Hr, SH.le Hr H ∧ K false Hr
    )
  ) ∧ (¬ (x112 < x111) →
    ∃ Hr, SH.le Hr H ∧ K true Hr
  )
def ladinglaw03_FrameRows.l5 (F : Nat) (K : Bool → SH → Prop) : Nat → Sl → Sl → Int → Int → SH → Prop
  | 0, _, _, _, _, _ => False
  | k + 1, l109, l110, x111, x112, H => ladinglaw03_FrameRows.r5 F K (ladinglaw03_FrameRows.l5 F K k) l109 l110 x111 x112 H
def ladinglaw03_FrameRows.r6 (F : Nat) (K : Bool → SH → Prop) (R6 : Sl → Sl → Int → Int → SH → Prop) (l129 : Sl) (l130 : Sl) (x131 : Int) (x132 : Int) (H : SH) : Prop :=
  (x132 < x131 →
    ∃ p134, l130.a = some p134 ∧ 0 ≤ x132 ∧ x132 < (l130.len : Int) ∧
    ∃ (s138 : ByteArray),
    SH.has H (p134.1, (p134.2 + x132.toNat * 1)) (.string s138) ∧
    ∃ p140, l129.a = some p140 ∧ 0 ≤ x132 ∧ x132 < (l129.len : Int) ∧
    ∃ (s144 : ByteArray),
    SH.has H (p140.1, (p140.2 + x132.toNat * 1)) (.string s144) ∧
    ((s138 = s144) →
      R6 l129 l130 x131 (w64 (x132 + 1)) H
    ) ∧ (¬ ((s138 = s144)) →
      ∃ Hr, SH.le Hr H ∧ K false Hr
    )
  ) ∧ (¬ (x132 < x131) →
    ∃ Hr, SH.le Hr H ∧ K true Hr
  )
def ladinglaw03_FrameRows.l6 (F : Nat) (K : Bool → SH → Prop) : Nat → Sl → Sl → Int → Int → SH → Prop
  | 0, _, _, _, _, _ => False
  | k + 1, l129, l130, x131, x132, H => ladinglaw03_FrameRows.r6 F K (ladinglaw03_FrameRows.l6 F K k) l129 l130 x131 x132 H
def ladinglaw03_FrameRows.r2 (F : Nat) (K : Bool → SH → Prop) (R2 : Sl → Sl → Int → Sl → Int → Int → SH → Prop) (l37 : Sl) (l38 : Sl) (x39 : Int) (l40 : Sl) (x41 : Int) (x42 : Int) (H : SH) : Prop :=
  (x42 < (l38.len : Int) →
    ∃ p44, l38.a = some p44 ∧ 0 ≤ x42 ∧ x42 < (l38.len : Int) ∧
    ∃ (x48 : Int),
    SH.has H (p44.1, (p44.2 + x42.toNat * 1)) (.int .i64 x48) ∧
    (x48 ≤ x39 →
      R2 l37 l38 x39 l40 x41 (w64 (x42 + 1)) H
    ) ∧ (¬ (x48 ≤ x39) →
      ((l40.len : Int) ≠ x42 →
        ∃ Hr, SH.le Hr H ∧ K false Hr
      ) ∧ (¬ ((l40.len : Int) ≠ x42) →
        (x42 > 0 →
          ∃ p53, l38.a = some p53 ∧ 0 ≤ (w64 (x42 - 1)) ∧ (w64 (x42 - 1)) < (l38.len : Int) ∧
          ∃ (x57 : Int),
          SH.has H (p53.1, (p53.2 + (w64 (x42 - 1)).toNat * 1)) (.int .i64 x57) ∧
          (x41 ≠ x57 →
            ∃ Hr, SH.le Hr H ∧ K false Hr
          ) ∧ (¬ (x41 ≠ x57) →
            ladinglaw03_FrameRows.l3 F K F l37 l40 (l40.len : Int) 0 H
          )
        ) ∧ (¬ (x42 > 0) →
          ladinglaw03_FrameRows.l4 F K F l37 l40 (l40.len : Int) 0 H
        )
      )
    )
  ) ∧ (¬ (x42 < (l38.len : Int)) →
    ((l40.len : Int) ≠ x42 →
      ∃ Hr, SH.le Hr H ∧ K false Hr
    ) ∧ (¬ ((l40.len : Int) ≠ x42) →
      (x42 > 0 →
        ∃ p102, l38.a = some p102 ∧ 0 ≤ (w64 (x42 - 1)) ∧ (w64 (x42 - 1)) < (l38.len : Int) ∧
        ∃ (x106 : Int),
        SH.has H (p102.1, (p102.2 + (w64 (x42 - 1)).toNat * 1)) (.int .i64 x106) ∧
        (x41 ≠ x106 →
          ∃ Hr, SH.le Hr H ∧ K false Hr
        ) ∧ (¬ (x41 ≠ x106) →
          ladinglaw03_FrameRows.l5 F K F l37 l40 (l40.len : Int) 0 H
        )
      ) ∧ (¬ (x42 > 0) →
        ladinglaw03_FrameRows.l6 F K F l37 l40 (l40.len : Int) 0 H
      )
    )
  )
def ladinglaw03_FrameRows.l2 (F : Nat) (K : Bool → SH → Prop) : Nat → Sl → Sl → Int → Sl → Int → Int → SH → Prop
  | 0, _, _, _, _, _, _, _ => False
  | k + 1, l37, l38, x39, l40, x41, x42, H => ladinglaw03_FrameRows.r2 F K (ladinglaw03_FrameRows.l2 F K k) l37 l38 x39 l40 x41 x42 H
def ladinglaw03_FrameRows.r1 (F : Nat) (K : Bool → SH → Prop) (R1 : Sl → Int → ByteArray → Sl → Sl → Int → Int → SH → Prop) (l7 : Sl) (x8 : Int) (s9 : ByteArray) (l10 : Sl) (l11 : Sl) (x12 : Int) (x13 : Int) (H : SH) : Prop :=
  (x13 < x12 →
    ∃ p15, l11.a = some p15 ∧ 0 ≤ x13 ∧ x13 < (l11.len : Int) ∧
    ∃ (s19 : ByteArray),
    SH.has H (p15.1, (p15.2 + x13.toNat * 1)) (.string s19) ∧
    ((s19.size : Int) > 100 →
      ∃ Hr, SH.le Hr H ∧ K true Hr
    ) ∧ (¬ ((s19.size : Int) > 100) →
      frame_Seal.wp F s19 H (fun s22 e23 H24 =>
        (e23 = none →
          s9.size + s22.size ≤ 9223372036854775807 ∧
          AppendQ H24 3 1 8 l10 1 [.int .i64 ((s9 ++ s22).size : Int)] (fun l27 H28 =>
            R1 l7 x8 (s9 ++ s22) l27 l11 x12 (w64 (x13 + 1)) H28
          )
        ) ∧ (∀ v25, e23 = some v25 →
          ∃ Hr, SH.le Hr H24 ∧ K false Hr
        )
      )
    )
  ) ∧ (¬ (x13 < x12) →
    (w64 ((s9.size : Int) + 1)) ≠ 0 ∧
    0 ≤ (0 : Int) ∧
    (0 : Int) ≤ ((w64 x8).tmod (w64 ((s9.size : Int) + 1))) ∧
    ((w64 x8).tmod (w64 ((s9.size : Int) + 1))) ≤ (s9.size : Int) ∧
    frame_All.wp F (s9.extract (0 : Int).toNat ((w64 x8).tmod (w64 ((s9.size : Int) + 1))).toNat) H (fun l34 x35 H36 =>
      ladinglaw03_FrameRows.l2 F K F l7 l10 ((w64 x8).tmod (w64 ((s9.size : Int) + 1))) l34 x35 0 H36
    )
  )
def ladinglaw03_FrameRows.l1 (F : Nat) (K : Bool → SH → Prop) : Nat → Sl → Int → ByteArray → Sl → Sl → Int → Int → SH → Prop
  | 0, _, _, _, _, _, _, _, _ => False
  | k + 1, l7, x8, s9, l10, l11, x12, x13, H => ladinglaw03_FrameRows.r1 F K (ladinglaw03_FrameRows.l1 F K k) l7 x8 s9 l10 l11 x12 x13 H
def ladinglaw03_FrameRows.wp (F : Nat) (l1 : Sl) (x2 : Int) (H : SH) (K : Bool → SH → Prop) : Prop :=
  ladinglaw03_awake.wp F  H (fun q3 H4 =>
    (q3 = true →
      ((l1.len : Int) > 20 →
        ∃ Hr, SH.le Hr H4 ∧ K true Hr
      ) ∧ (¬ ((l1.len : Int) > 20) →
        ladinglaw03_FrameRows.l1 F K F l1 x2 ByteArray.empty Sl.nil l1 (l1.len : Int) 0 H4
      )
    ) ∧ (¬ (q3 = true) →
      ∃ Hr, SH.le Hr H4 ∧ K false Hr
    )
  )
set_option maxHeartbeats 8000000 in
theorem ladinglaw03_FrameRows.sound (F : Nat) (l1 : Sl) (x2 : Int) (H : SH) (K : Bool → SH → Prop) (h : ladinglaw03_FrameRows.wp F l1 x2 H K) : SCalls Try.prog 5 #[sv l1, .int .u16 x2] H (fun v H' => ∃ (q154 : Bool), v = .bool q154 ∧ K q154 H') := by
  unfold ladinglaw03_FrameRows.wp at h
  refine SCalls.body Try.func5 rfl (Nat.le_of_ble_eq_true rfl) ?_
  refine SW.seq ?_
  refine SW.region ?_
  refine SOps.val (v := .bool false) rfl (wantN rfl) (fun _ => by kernel_rfl) ?_
  refine SOps.nil ?_
  refine SW.seq ?_
  refine SW.seq ?_
  refine SW.region ?_
  refine SOps.enter rfl (wantN rfl) (fun _ => by kernel_rfl) (ladinglaw03_awake.sound F  H _ h) ?_
  clear h
  rintro v H4 ⟨q3, rfl, h⟩
  refine SOps.val (v := .bool !q3) rfl (wantN rfl) (fun _ => by kernel_rfl) ?_
  refine SOps.nil ?_
  by_cases c5 : q3 = true
  · replace h := h.1 c5
    have dc5 : q3 = true := c5
    refine SW.cond_f (t := !q3) rfl (not_t dc5) ?_
    refine SW.skip ?_
    refine SW.seq ?_
    refine SW.seq ?_
    refine SW.region ?_
    refine SOps.val (v := sv l1) rfl (wantN rfl) (fun _ => by kernel_rfl) ?_
    refine SOps.val (v := .int .i64 (l1.len : Int)) rfl (wantN rfl) (fun _ => by kernel_rfl) ?_
    refine SOps.val (v := .bool (decide ((l1.len : Int) > 20))) rfl (wantN rfl) (fun _ => by kernel_rfl) ?_
    refine SOps.nil ?_
    by_cases c6 : (l1.len : Int) > 20
    · replace h := h.1 c6
      have dc6 : (decide ((l1.len : Int) > 20)) = true := (decide_eq_true c6)
      refine SW.cond_t (t := decide ((l1.len : Int) > 20)) rfl dc6 ?_
      refine SW.seq ?_
      refine SW.region ?_
      refine SOps.val (v := .bool true) rfl (wantN rfl) (fun _ => by kernel_rfl) ?_
      refine SOps.nil ?_
      obtain ⟨Hr, hr, h⟩ := h
      exact SW.ret (retQ.mk (.bool true) (res1 rfl rfl) hr ⟨true, rfl, h⟩)
    · replace h := h.2 c6
      have dc6 : (decide ((l1.len : Int) > 20)) = false := (decide_eq_false c6)
      refine SW.cond_f (t := decide ((l1.len : Int) > 20)) rfl dc6 ?_
      refine SW.skip ?_
      refine SW.seq ?_
      refine SW.region ?_
      refine SOps.val (v := .string ByteArray.empty) rfl (wantN rfl) (fun _ => by kernel_rfl) ?_
      refine SOps.nil ?_
      refine SW.seq ?_
      refine SW.region ?_
      refine SOps.val (v := sv Sl.nil) rfl (wantN rfl) (fun _ => by kernel_rfl) ?_
      refine SOps.nil ?_
      refine SW.seq ?_
      refine SW.seq ?_
      refine SW.region ?_
      refine SOps.val (v := sv l1) rfl (wantN rfl) (fun _ => by kernel_rfl) ?_
      refine SOps.val (v := .int .i64 (l1.len : Int)) rfl (wantN rfl) (fun _ => by kernel_rfl) ?_
      refine SOps.val (v := .int .i64 0) rfl (wantN rfl) (fun _ => by kernel_rfl) ?_
      refine SOps.nil ?_
      refine SW.block ?_
      refine SW.loop (fun k1 fr H => ∃ (g : Fr) (l7 : Sl) (x8 : Int) (s9 : ByteArray) (l10 : Sl) (l11 : Sl) (x12 : Int) (x13 : Int), fr = g.upds [(0, sv l7), (1, (.int .u16 x8 : Value)), (5, (.string s9 : Value)), (6, sv l10), (22, sv l11), (23, (.int .i64 x12 : Value)), (24, (.int .i64 x13 : Value))] ∧ ladinglaw03_FrameRows.l1 F K k1 l7 x8 s9 l10 l11 x12 x13 H) F ⟨_, l1, x2, ByteArray.empty, Sl.nil, l1, (l1.len : Int), 0, (Fr.upds_self _ _ ⟨rfl, rfl, rfl, rfl, rfl, rfl, rfl, trivial⟩), h⟩ ?_
      clear h
      rintro k1 fr H ⟨g, l7, x8, s9, l10, l11, x12, x13, rfl, h⟩
      cases k1 with
      | zero => exact h.elim
      | succ k1 =>
        replace h : ladinglaw03_FrameRows.r1 F K (ladinglaw03_FrameRows.l1 F K k1) l7 x8 s9 l10 l11 x12 x13 H := h
        unfold ladinglaw03_FrameRows.r1 at h
        refine SW.seq ?_
        refine SW.region ?_
        refine SOps.val (v := .bool (decide (x13 < x12))) rfl (wantN rfl) (fun _ => by kernel_rfl) ?_
        refine SOps.nil ?_
        refine SW.seq ?_
        by_cases c14 : x13 < x12
        · replace h := h.1 c14
          have dc14 : (decide (x13 < x12)) = true := (decide_eq_true c14)
          refine SW.cond_t (t := decide (x13 < x12)) rfl dc14 ?_
          refine SW.skip ?_
          refine SW.seq ?_
          refine SW.block ?_
          refine SW.seq ?_
          refine SW.region ?_
          obtain ⟨p15, c16, c17, c18, h⟩ := h
          refine SOps.val (v := pv (some (p15.1, (p15.2 + x13.toNat * 1)))) rfl (wantN rfl) (fun w => ev_iaddr rfl Try.underlying35 (size := 1) (by kernel_rfl) rfl rfl c16 c17 c18 w) ?_
          obtain ⟨s19, c20, h⟩ := h
          refine SOps.rd (v := .string s19) rfl (wantN rfl) (fun w hw => ev_load1 rfl (fun _ => by kernel_rfl) (p := (p15.1, (p15.2 + x13.toNat * 1))) rfl c20 w hw) ?_
          refine SOps.val (v := .string s19) rfl (wantN rfl) (fun _ => by kernel_rfl) ?_
          refine SOps.nil ?_
          refine SW.seq ?_
          refine SW.seq ?_
          refine SW.region ?_
          refine SOps.val (v := .string s19) rfl (wantN rfl) (fun _ => by kernel_rfl) ?_
          refine SOps.val (v := .int .i64 (s19.size : Int)) rfl (wantN rfl) (fun _ => by kernel_rfl) ?_
          refine SOps.val (v := .bool (decide ((s19.size : Int) > 100))) rfl (wantN rfl) (fun _ => by kernel_rfl) ?_
          refine SOps.nil ?_
          by_cases c21 : (s19.size : Int) > 100
          · replace h := h.1 c21
            have dc21 : (decide ((s19.size : Int) > 100)) = true := (decide_eq_true c21)
            refine SW.cond_t (t := decide ((s19.size : Int) > 100)) rfl dc21 ?_
            refine SW.seq ?_
            refine SW.region ?_
            refine SOps.val (v := .bool true) rfl (wantN rfl) (fun _ => by kernel_rfl) ?_
            refine SOps.nil ?_
            obtain ⟨Hr, hr, h⟩ := h
            exact SW.ret (retQ.mk (.bool true) (res1 rfl rfl) hr ⟨true, rfl, h⟩)
          · replace h := h.2 c21
            have dc21 : (decide ((s19.size : Int) > 100)) = false := (decide_eq_false c21)
            refine SW.cond_f (t := decide ((s19.size : Int) > 100)) rfl dc21 ?_
            refine SW.skip ?_
            refine SW.seq ?_
            refine SW.region ?_
            refine SOps.val (v := .string s19) rfl (wantN rfl) (fun _ => by kernel_rfl) ?_
            refine SOps.enter rfl (wantN rfl) (fun _ => by kernel_rfl) (frame_Seal.sound F s19 H _ h) ?_
            clear h
            rintro v H24 ⟨s22, e23, rfl, h⟩
            refine SOps.val (v := .tuple #[.string s22, errV e23]) rfl (wantN rfl) (fun _ => by kernel_rfl) ?_
            refine SOps.val (v := .string s22) rfl (wantN rfl) (fun _ => by kernel_rfl) ?_
            refine SOps.val (v := errV e23) rfl (wantN rfl) (fun _ => by kernel_rfl) ?_
            refine SOps.val (v := .string s22) rfl (wantN rfl) (fun _ => by kernel_rfl) ?_
            refine SOps.val (v := errV e23) rfl (wantN rfl) (fun _ => by kernel_rfl) ?_
            refine SOps.nil ?_
            refine SW.seq ?_
            refine SW.seq ?_
            refine SW.region ?_
            refine SOps.val (v := errV e23) rfl (wantN rfl) (fun _ => by kernel_rfl) ?_
            rcases e23 with _ | v25
            · replace h := h.1 rfl
              refine SOps.val (v := .bool false) rfl (wantN rfl) (fun w => ev_errNe (e := none) rfl Try.underlying24 rfl rfl w) ?_
              refine SOps.nil ?_
              refine SW.cond_f (t := false) rfl rfl ?_
              refine SW.skip ?_
              refine SW.seq ?_
              refine SW.region ?_
              refine SOps.val (v := .string s9) rfl (wantN rfl) (fun _ => by kernel_rfl) ?_
              refine SOps.val (v := .string s22) rfl (wantN rfl) (fun _ => by kernel_rfl) ?_
              obtain ⟨c26, h⟩ := h
              refine SOps.val (v := .string (s9 ++ s22)) rfl (wantN rfl) (fun w => ev_cat rfl rfl rfl c26 w) ?_
              refine SOps.val (v := .string (s9 ++ s22)) rfl (wantN rfl) (fun _ => by kernel_rfl) ?_
              refine SOps.nil ?_
              refine SW.region ?_
              refine SOps.val (v := sv l10) rfl (wantN rfl) (fun _ => by kernel_rfl) ?_
              refine SOps.val (v := .string (s9 ++ s22)) rfl (wantN rfl) (fun _ => by kernel_rfl) ?_
              refine SOps.val (v := .int .i64 ((s9 ++ s22).size : Int)) rfl (wantN rfl) (fun _ => by kernel_rfl) ?_
              refine SOps.litAppend (E := 3) (z := .int .i64 0) (size := 1) (bytes := 8) (cs := #[.int .i64 ((s9 ++ s22).size : Int)]) rfl rfl (wantN rfl) (fun _ => by kernel_rfl) rfl rfl (fun _ => wantN rfl) Try.underlying36 Try.underlying36 (by kernel_rfl) rfl rfl (fun _ => rfl) (AppendQ.mono h ?_)
              clear h
              intro l27 H28 h b29
              refine SOps.val (v := sv l27) rfl (wantN rfl) (fun _ => by kernel_rfl) ?_
              refine SOps.nil ?_
              refine SW.region ?_
              refine SOps.val (v := .int .i64 (w64 (x13 + 1))) rfl (wantN rfl) (fun _ => by kernel_rfl) ?_
              refine SOps.val (v := .int .i64 (w64 (x13 + 1))) rfl (wantN rfl) (fun _ => by kernel_rfl) ?_
              refine SOps.nil ?_
              exact ⟨k1, Nat.lt_succ_self k1, _, l7, x8, s9 ++ s22, l27, l11, x12, w64 (x13 + 1), (Fr.upds_self _ _ ⟨rfl, rfl, rfl, rfl, rfl, rfl, rfl, trivial⟩), h⟩
            · replace h := h.2 v25 rfl
              refine SOps.val (v := .bool true) rfl (wantN rfl) (fun w => ev_errNe (e := some v25) rfl Try.underlying24 rfl rfl w) ?_
              refine SOps.nil ?_
              refine SW.cond_t (t := true) rfl rfl ?_
              refine SW.seq ?_
              refine SW.region ?_
              refine SOps.val (v := .bool false) rfl (wantN rfl) (fun _ => by kernel_rfl) ?_
              refine SOps.nil ?_
              obtain ⟨Hr, hr, h⟩ := h
              exact SW.ret (retQ.mk (.bool false) (res1 rfl rfl) hr ⟨false, rfl, h⟩)
        · replace h := h.2 c14
          have dc14 : (decide (x13 < x12)) = false := (decide_eq_false c14)
          refine SW.cond_f (t := decide (x13 < x12)) rfl dc14 ?_
          refine SW.exit ?_
          refine SW.seq ?_
          refine SW.region ?_
          refine SOps.val (v := .int .u16 x8) rfl (wantN rfl) (fun _ => by kernel_rfl) ?_
          refine SOps.val (v := .int .i64 (w64 x8)) rfl (wantN rfl) (fun _ => by kernel_rfl) ?_
          refine SOps.val (v := .string s9) rfl (wantN rfl) (fun _ => by kernel_rfl) ?_
          refine SOps.val (v := .int .i64 (s9.size : Int)) rfl (wantN rfl) (fun _ => by kernel_rfl) ?_
          refine SOps.val (v := .int .i64 (w64 ((s9.size : Int) + 1))) rfl (wantN rfl) (fun _ => by kernel_rfl) ?_
          obtain ⟨c30, h⟩ := h
          refine SOps.val (v := .int .i64 ((w64 x8).tmod (w64 ((s9.size : Int) + 1)))) rfl (wantN rfl) (fun w => ev_rem rfl rfl rfl c30 w) ?_
          refine SOps.val (v := .int .i64 ((w64 x8).tmod (w64 ((s9.size : Int) + 1)))) rfl (wantN rfl) (fun _ => by kernel_rfl) ?_
          refine SOps.nil ?_
          refine SW.seq ?_
          refine SW.region ?_
          refine SOps.val (v := .string s9) rfl (wantN rfl) (fun _ => by kernel_rfl) ?_
          refine SOps.val (v := .int .i64 ((w64 x8).tmod (w64 ((s9.size : Int) + 1)))) rfl (wantN rfl) (fun _ => by kernel_rfl) ?_
          obtain ⟨c31, c32, c33, h⟩ := h
          refine SOps.val (v := .string (s9.extract (0 : Int).toNat ((w64 x8).tmod (w64 ((s9.size : Int) + 1))).toNat)) rfl (wantN rfl) (fun w => ev_subS (a := (0 : Int)) (b := ((w64 x8).tmod (w64 ((s9.size : Int) + 1)))) rfl Try.underlying9 rfl (Or.inl ⟨rfl, rfl⟩) (Or.inr ⟨_, rfl⟩) c31 c32 c33 w) ?_
          refine SOps.enter rfl (wantN rfl) (fun _ => by kernel_rfl) (frame_All.sound F (s9.extract (0 : Int).toNat ((w64 x8).tmod (w64 ((s9.size : Int) + 1))).toNat) H _ h) ?_
          clear h
          rintro v H36 ⟨l34, x35, rfl, h⟩
          refine SOps.val (v := .tuple #[sv l34, .int .i64 x35]) rfl (wantN rfl) (fun _ => by kernel_rfl) ?_
          refine SOps.val (v := sv l34) rfl (wantN rfl) (fun _ => by kernel_rfl) ?_
          refine SOps.val (v := .int .i64 x35) rfl (wantN rfl) (fun _ => by kernel_rfl) ?_
          refine SOps.val (v := sv l34) rfl (wantN rfl) (fun _ => by kernel_rfl) ?_
          refine SOps.val (v := .int .i64 x35) rfl (wantN rfl) (fun _ => by kernel_rfl) ?_
          refine SOps.nil ?_
          refine SW.seq ?_
          refine SW.region ?_
          refine SOps.val (v := .int .i64 0) rfl (wantN rfl) (fun _ => by kernel_rfl) ?_
          refine SOps.nil ?_
          refine SW.seq ?_
          refine SW.block ?_
          refine SW.loop (fun k2 fr H => ∃ (g : Fr) (l37 : Sl) (l38 : Sl) (x39 : Int) (l40 : Sl) (x41 : Int) (x42 : Int), fr = g.upds [(0, sv l37), (6, sv l38), (11, (.int .i64 x39 : Value)), (12, sv l40), (13, (.int .i64 x41 : Value)), (14, (.int .i64 x42 : Value))] ∧ ladinglaw03_FrameRows.l2 F K k2 l37 l38 x39 l40 x41 x42 H) F ⟨_, l7, l10, (w64 x8).tmod (w64 ((s9.size : Int) + 1)), l34, x35, 0, (Fr.upds_self _ _ ⟨rfl, rfl, rfl, rfl, rfl, rfl, trivial⟩), h⟩ ?_
          clear h
          rintro k2 fr H ⟨g, l37, l38, x39, l40, x41, x42, rfl, h⟩
          cases k2 with
          | zero => exact h.elim
          | succ k2 =>
            replace h : ladinglaw03_FrameRows.r2 F K (ladinglaw03_FrameRows.l2 F K k2) l37 l38 x39 l40 x41 x42 H := h
            unfold ladinglaw03_FrameRows.r2 at h
            refine SW.seq ?_
            refine SW.seq ?_
            refine SW.region ?_
            refine SOps.val (v := .int .i64 x42) rfl (wantN rfl) (fun _ => by kernel_rfl) ?_
            refine SOps.val (v := sv l38) rfl (wantN rfl) (fun _ => by kernel_rfl) ?_
            refine SOps.val (v := .int .i64 (l38.len : Int)) rfl (wantN rfl) (fun _ => by kernel_rfl) ?_
            refine SOps.val (v := .bool (decide (x42 < (l38.len : Int)))) rfl (wantN rfl) (fun _ => by kernel_rfl) ?_
            refine SOps.val (v := .bool (decide (x42 < (l38.len : Int)))) rfl (wantN rfl) (fun _ => by kernel_rfl) ?_
            by_cases c43 : x42 < (l38.len : Int)
            · replace h := h.1 c43
              have dc43 : (decide (x42 < (l38.len : Int))) = true := (decide_eq_true c43)
              refine SOps.val (v := sv l38) rfl (wantY (c := decide (x42 < (l38.len : Int))) rfl rfl rfl dc43) (fun _ => by kernel_rfl) ?_
              refine SOps.val (v := .int .i64 x42) rfl (wantY (c := decide (x42 < (l38.len : Int))) rfl rfl rfl dc43) (fun _ => by kernel_rfl) ?_
              obtain ⟨p44, c45, c46, c47, h⟩ := h
              refine SOps.val (v := pv (some (p44.1, (p44.2 + x42.toNat * 1)))) rfl (wantY (c := decide (x42 < (l38.len : Int))) rfl rfl rfl dc43) (fun w => ev_iaddr rfl Try.underlying36 (size := 1) (by kernel_rfl) rfl rfl c45 c46 c47 w) ?_
              obtain ⟨x48, c49, h⟩ := h
              refine SOps.rd (v := .int .i64 x48) rfl (wantY (c := decide (x42 < (l38.len : Int))) rfl rfl rfl dc43) (fun w hw => ev_load1 rfl (fun _ => by kernel_rfl) (p := (p44.1, (p44.2 + x42.toNat * 1))) rfl c49 w hw) ?_
              refine SOps.val (v := .int .i64 x39) rfl (wantY (c := decide (x42 < (l38.len : Int))) rfl rfl rfl dc43) (fun _ => by kernel_rfl) ?_
              refine SOps.val (v := .bool (decide (x48 ≤ x39))) rfl (wantY (c := decide (x42 < (l38.len : Int))) rfl rfl rfl dc43) (fun _ => by kernel_rfl) ?_
              refine SOps.val (v := .bool (decide (x48 ≤ x39))) rfl (wantN rfl) (fun w => ev_pickT (v := .bool (decide (x48 ≤ x39))) rfl (t := decide (x42 < (l38.len : Int))) rfl dc43 rfl w) ?_
              refine SOps.nil ?_
              by_cases c50 : x48 ≤ x39
              · replace h := h.1 c50
                have dc50 : (decide (x48 ≤ x39)) = true := (decide_eq_true c50)
                refine SW.cond_t (t := decide (x48 ≤ x39)) rfl dc50 ?_
                refine SW.skip ?_
                refine SW.block ?_
                refine SW.region ?_
                refine SOps.val (v := .int .i64 x42) rfl (wantN rfl) (fun _ => by kernel_rfl) ?_
                refine SOps.val (v := .int .i64 (w64 (x42 + 1))) rfl (wantN rfl) (fun _ => by kernel_rfl) ?_
                refine SOps.val (v := .int .i64 (w64 (x42 + 1))) rfl (wantN rfl) (fun _ => by kernel_rfl) ?_
                refine SOps.nil ?_
                exact ⟨k2, Nat.lt_succ_self k2, _, l37, l38, x39, l40, x41, w64 (x42 + 1), (Fr.upds_self _ _ ⟨rfl, rfl, rfl, rfl, rfl, rfl, trivial⟩), h⟩
              · replace h := h.2 c50
                have dc50 : (decide (x48 ≤ x39)) = false := (decide_eq_false c50)
                refine SW.cond_f (t := decide (x48 ≤ x39)) rfl dc50 ?_
                refine SW.exit ?_
                refine SW.seq ?_
                refine SW.seq ?_
                refine SW.region ?_
                refine SOps.val (v := sv l40) rfl (wantN rfl) (fun _ => by kernel_rfl) ?_
                refine SOps.val (v := .int .i64 (l40.len : Int)) rfl (wantN rfl) (fun _ => by kernel_rfl) ?_
                refine SOps.val (v := .int .i64 x42) rfl (wantN rfl) (fun _ => by kernel_rfl) ?_
                refine SOps.val (v := .bool ((l40.len : Int) != x42)) rfl (wantN rfl) (fun _ => by kernel_rfl) ?_
                refine SOps.val (v := .bool ((l40.len : Int) != x42)) rfl (wantN rfl) (fun _ => by kernel_rfl) ?_
                by_cases c51 : (l40.len : Int) ≠ x42
                · replace h := h.1 c51
                  have dc51 : ((l40.len : Int) != x42) = true := (bne_iff_ne.mpr c51)
                  refine SOps.off rfl (wantX (c := ((l40.len : Int) != x42)) rfl rfl rfl dc51) ?_
                  refine SOps.off rfl (wantX (c := ((l40.len : Int) != x42)) rfl rfl rfl dc51) ?_
                  refine SOps.off rfl (wantX (c := ((l40.len : Int) != x42)) rfl rfl rfl dc51) ?_
                  refine SOps.off rfl (wantU rfl rfl rfl) ?_
                  refine SOps.off rfl (wantU rfl rfl rfl) ?_
                  refine SOps.off rfl (wantU rfl rfl rfl) ?_
                  refine SOps.off rfl (wantU rfl rfl rfl) ?_
                  refine SOps.off rfl (wantU rfl rfl rfl) ?_
                  refine SOps.off rfl (wantU rfl rfl rfl) ?_
                  refine SOps.off rfl (wantU rfl rfl rfl) ?_
                  refine SOps.off rfl (wantX (c := ((l40.len : Int) != x42)) rfl rfl rfl dc51) ?_
                  refine SOps.val (v := .bool true) rfl (wantN rfl) (fun w => ev_pickT (v := .bool true) rfl (t := ((l40.len : Int) != x42)) rfl dc51 rfl w) ?_
                  refine SOps.nil ?_
                  refine SW.cond_t (t := true) rfl rfl ?_
                  refine SW.seq ?_
                  refine SW.region ?_
                  refine SOps.val (v := .bool false) rfl (wantN rfl) (fun _ => by kernel_rfl) ?_
                  refine SOps.nil ?_
                  obtain ⟨Hr, hr, h⟩ := h
                  exact SW.ret (retQ.mk (.bool false) (res1 rfl rfl) hr ⟨false, rfl, h⟩)
                · replace h := h.2 c51
                  have dc51 : ((l40.len : Int) != x42) = false := (by simpa using c51)
                  refine SOps.val (v := .int .i64 x42) rfl (wantY (c := ((l40.len : Int) != x42)) rfl rfl rfl dc51) (fun _ => by kernel_rfl) ?_
                  refine SOps.val (v := .bool (decide (x42 > 0))) rfl (wantY (c := ((l40.len : Int) != x42)) rfl rfl rfl dc51) (fun _ => by kernel_rfl) ?_
                  refine SOps.val (v := .bool (decide (x42 > 0))) rfl (wantY (c := ((l40.len : Int) != x42)) rfl rfl rfl dc51) (fun _ => by kernel_rfl) ?_
                  by_cases c52 : x42 > 0
                  · replace h := h.1 c52
                    have dc52 : (decide (x42 > 0)) = true := (decide_eq_true c52)
                    refine SOps.val (v := .int .i64 x41) rfl (wantY (c := decide (x42 > 0)) rfl rfl rfl dc52) (fun _ => by kernel_rfl) ?_
                    refine SOps.val (v := sv l38) rfl (wantY (c := decide (x42 > 0)) rfl rfl rfl dc52) (fun _ => by kernel_rfl) ?_
                    refine SOps.val (v := .int .i64 x42) rfl (wantY (c := decide (x42 > 0)) rfl rfl rfl dc52) (fun _ => by kernel_rfl) ?_
                    refine SOps.val (v := .int .i64 (w64 (x42 - 1))) rfl (wantY (c := decide (x42 > 0)) rfl rfl rfl dc52) (fun _ => by kernel_rfl) ?_
                    obtain ⟨p53, c54, c55, c56, h⟩ := h
                    refine SOps.val (v := pv (some (p53.1, (p53.2 + (w64 (x42 - 1)).toNat * 1)))) rfl (wantY (c := decide (x42 > 0)) rfl rfl rfl dc52) (fun w => ev_iaddr rfl Try.underlying36 (size := 1) (by kernel_rfl) rfl rfl c54 c55 c56 w) ?_
                    obtain ⟨x57, c58, h⟩ := h
                    refine SOps.rd (v := .int .i64 x57) rfl (wantY (c := decide (x42 > 0)) rfl rfl rfl dc52) (fun w hw => ev_load1 rfl (fun _ => by kernel_rfl) (p := (p53.1, (p53.2 + (w64 (x42 - 1)).toNat * 1))) rfl c58 w hw) ?_
                    refine SOps.val (v := .bool (x41 != x57)) rfl (wantY (c := decide (x42 > 0)) rfl rfl rfl dc52) (fun _ => by kernel_rfl) ?_
                    refine SOps.val (v := .bool (x41 != x57)) rfl (wantY (c := ((l40.len : Int) != x42)) rfl rfl rfl dc51) (fun w => ev_pickT (v := .bool (x41 != x57)) rfl (t := decide (x42 > 0)) rfl dc52 rfl w) ?_
                    refine SOps.val (v := .bool (x41 != x57)) rfl (wantN rfl) (fun w => ev_pickF (v := .bool (x41 != x57)) rfl (t := ((l40.len : Int) != x42)) rfl dc51 rfl w) ?_
                    refine SOps.nil ?_
                    by_cases c59 : x41 ≠ x57
                    · replace h := h.1 c59
                      have dc59 : (x41 != x57) = true := (bne_iff_ne.mpr c59)
                      refine SW.cond_t (t := (x41 != x57)) rfl dc59 ?_
                      refine SW.seq ?_
                      refine SW.region ?_
                      refine SOps.val (v := .bool false) rfl (wantN rfl) (fun _ => by kernel_rfl) ?_
                      refine SOps.nil ?_
                      obtain ⟨Hr, hr, h⟩ := h
                      exact SW.ret (retQ.mk (.bool false) (res1 rfl rfl) hr ⟨false, rfl, h⟩)
                    · replace h := h.2 c59
                      have dc59 : (x41 != x57) = false := (by simpa using c59)
                      refine SW.cond_f (t := (x41 != x57)) rfl dc59 ?_
                      refine SW.skip ?_
                      refine SW.seq ?_
                      refine SW.seq ?_
                      refine SW.region ?_
                      refine SOps.val (v := sv l40) rfl (wantN rfl) (fun _ => by kernel_rfl) ?_
                      refine SOps.val (v := .int .i64 (l40.len : Int)) rfl (wantN rfl) (fun _ => by kernel_rfl) ?_
                      refine SOps.val (v := .int .i64 0) rfl (wantN rfl) (fun _ => by kernel_rfl) ?_
                      refine SOps.nil ?_
                      refine SW.block ?_
                      refine SW.loop (fun k3 fr H => ∃ (g : Fr) (l60 : Sl) (l61 : Sl) (x62 : Int) (x63 : Int), fr = g.upds [(0, sv l60), (91, sv l61), (92, (.int .i64 x62 : Value)), (93, (.int .i64 x63 : Value))] ∧ ladinglaw03_FrameRows.l3 F K k3 l60 l61 x62 x63 H) F ⟨_, l37, l40, (l40.len : Int), 0, (Fr.upds_self _ _ ⟨rfl, rfl, rfl, rfl, trivial⟩), h⟩ ?_
                      clear h
                      rintro k3 fr H ⟨g, l60, l61, x62, x63, rfl, h⟩
                      cases k3 with
                      | zero => exact h.elim
                      | succ k3 =>
                        replace h : ladinglaw03_FrameRows.r3 F K (ladinglaw03_FrameRows.l3 F K k3) l60 l61 x62 x63 H := h
                        unfold ladinglaw03_FrameRows.r3 at h
                        refine SW.seq ?_
                        refine SW.region ?_
                        refine SOps.val (v := .bool (decide (x63 < x62))) rfl (wantN rfl) (fun _ => by kernel_rfl) ?_
                        refine SOps.nil ?_
                        refine SW.seq ?_
                        by_cases c64 : x63 < x62
                        · replace h := h.1 c64
                          have dc64 : (decide (x63 < x62)) = true := (decide_eq_true c64)
                          refine SW.cond_t (t := decide (x63 < x62)) rfl dc64 ?_
                          refine SW.skip ?_
                          refine SW.seq ?_
                          refine SW.block ?_
                          refine SW.seq ?_
                          refine SW.region ?_
                          refine SOps.val (v := .int .i64 x63) rfl (wantN rfl) (fun _ => by kernel_rfl) ?_
                          obtain ⟨p65, c66, c67, c68, h⟩ := h
                          refine SOps.val (v := pv (some (p65.1, (p65.2 + x63.toNat * 1)))) rfl (wantN rfl) (fun w => ev_iaddr rfl Try.underlying35 (size := 1) (by kernel_rfl) rfl rfl c66 c67 c68 w) ?_
                          obtain ⟨s69, c70, h⟩ := h
                          refine SOps.rd (v := .string s69) rfl (wantN rfl) (fun w hw => ev_load1 rfl (fun _ => by kernel_rfl) (p := (p65.1, (p65.2 + x63.toNat * 1))) rfl c70 w hw) ?_
                          refine SOps.val (v := .int .i64 x63) rfl (wantN rfl) (fun _ => by kernel_rfl) ?_
                          refine SOps.val (v := .string s69) rfl (wantN rfl) (fun _ => by kernel_rfl) ?_
                          refine SOps.nil ?_
                          refine SW.seq ?_
                          refine SW.region ?_
                          refine SOps.val (v := .string s69) rfl (wantN rfl) (fun _ => by kernel_rfl) ?_
                          refine SOps.val (v := sv l60) rfl (wantN rfl) (fun _ => by kernel_rfl) ?_
                          refine SOps.val (v := .int .i64 x63) rfl (wantN rfl) (fun _ => by kernel_rfl) ?_
                          obtain ⟨p71, c72, c73, c74, h⟩ := h
                          refine SOps.val (v := pv (some (p71.1, (p71.2 + x63.toNat * 1)))) rfl (wantN rfl) (fun w => ev_iaddr rfl Try.underlying35 (size := 1) (by kernel_rfl) rfl rfl c72 c73 c74 w) ?_
                          obtain ⟨s75, c76, h⟩ := h
                          refine SOps.rd (v := .string s75) rfl (wantN rfl) (fun w hw => ev_load1 rfl (fun _ => by kernel_rfl) (p := (p71.1, (p71.2 + x63.toNat * 1))) rfl c76 w hw) ?_
                          refine SOps.val (v := .bool (!decide (s69 = s75))) rfl (wantN rfl) (fun w => ev_neS rfl rfl rfl w) ?_
                          refine SOps.nil ?_
                          by_cases c77 : (s69 = s75)
                          · replace h := h.1 c77
                            have dc77 : (decide (s69 = s75)) = true := (decide_eq_true c77)
                            refine SW.cond_f (t := !decide (s69 = s75)) rfl (not_t dc77) ?_
                            refine SW.skip ?_
                            refine SW.region ?_
                            refine SOps.val (v := .int .i64 (w64 (x63 + 1))) rfl (wantN rfl) (fun _ => by kernel_rfl) ?_
                            refine SOps.val (v := .int .i64 (w64 (x63 + 1))) rfl (wantN rfl) (fun _ => by kernel_rfl) ?_
                            refine SOps.nil ?_
                            exact ⟨k3, Nat.lt_succ_self k3, _, l60, l61, x62, w64 (x63 + 1), (Fr.upds_self _ _ ⟨rfl, rfl, rfl, rfl, trivial⟩), h⟩
                          · replace h := h.2 c77
                            have dc77 : (decide (s69 = s75)) = false := (decide_eq_false c77)
                            refine SW.cond_t (t := !decide (s69 = s75)) rfl (not_f dc77) ?_
                            refine SW.seq ?_
                            refine SW.region ?_
                            refine SOps.val (v := .bool false) rfl (wantN rfl) (fun _ => by kernel_rfl) ?_
                            refine SOps.nil ?_
                            obtain ⟨Hr, hr, h⟩ := h
                            exact SW.ret (retQ.mk (.bool false) (res1 rfl rfl) hr ⟨false, rfl, h⟩)
                        · replace h := h.2 c64
                          have dc64 : (decide (x63 < x62)) = false := (decide_eq_false c64)
                          refine SW.cond_f (t := decide (x63 < x62)) rfl dc64 ?_
                          refine SW.exit ?_
                          refine SW.seq ?_
                          refine SW.region ?_
                          refine SOps.val (v := .bool true) rfl (wantN rfl) (fun _ => by kernel_rfl) ?_
                          refine SOps.nil ?_
                          obtain ⟨Hr, hr, h⟩ := h
                          exact SW.ret (retQ.mk (.bool true) (res1 rfl rfl) hr ⟨true, rfl, h⟩)
                  · replace h := h.2 c52
                    have dc52 : (decide (x42 > 0)) = false := (decide_eq_false c52)
                    refine SOps.off rfl (wantX (c := decide (x42 > 0)) rfl rfl rfl dc52) ?_
                    refine SOps.off rfl (wantX (c := decide (x42 > 0)) rfl rfl rfl dc52) ?_
                    refine SOps.off rfl (wantX (c := decide (x42 > 0)) rfl rfl rfl dc52) ?_
                    refine SOps.off rfl (wantX (c := decide (x42 > 0)) rfl rfl rfl dc52) ?_
                    refine SOps.off rfl (wantX (c := decide (x42 > 0)) rfl rfl rfl dc52) ?_
                    refine SOps.off rfl (wantX (c := decide (x42 > 0)) rfl rfl rfl dc52) ?_
                    refine SOps.off rfl (wantX (c := decide (x42 > 0)) rfl rfl rfl dc52) ?_
                    refine SOps.val (v := .bool false) rfl (wantY (c := ((l40.len : Int) != x42)) rfl rfl rfl dc51) (fun w => ev_pickF (v := .bool false) rfl (t := decide (x42 > 0)) rfl dc52 rfl w) ?_
                    refine SOps.val (v := .bool false) rfl (wantN rfl) (fun w => ev_pickF (v := .bool false) rfl (t := ((l40.len : Int) != x42)) rfl dc51 rfl w) ?_
                    refine SOps.nil ?_
                    refine SW.cond_f (t := false) rfl rfl ?_
                    refine SW.skip ?_
                    refine SW.seq ?_
                    refine SW.seq ?_
                    refine SW.region ?_
                    refine SOps.val (v := sv l40) rfl (wantN rfl) (fun _ => by kernel_rfl) ?_
                    refine SOps.val (v := .int .i64 (l40.len : Int)) rfl (wantN rfl) (fun _ => by kernel_rfl) ?_
                    refine SOps.val (v := .int .i64 0) rfl (wantN rfl) (fun _ => by kernel_rfl) ?_
                    refine SOps.nil ?_
                    refine SW.block ?_
                    refine SW.loop (fun k4 fr H => ∃ (g : Fr) (l80 : Sl) (l81 : Sl) (x82 : Int) (x83 : Int), fr = g.upds [(0, sv l80), (91, sv l81), (92, (.int .i64 x82 : Value)), (93, (.int .i64 x83 : Value))] ∧ ladinglaw03_FrameRows.l4 F K k4 l80 l81 x82 x83 H) F ⟨_, l37, l40, (l40.len : Int), 0, (Fr.upds_self _ _ ⟨rfl, rfl, rfl, rfl, trivial⟩), h⟩ ?_
                    clear h
                    rintro k4 fr H ⟨g, l80, l81, x82, x83, rfl, h⟩
                    cases k4 with
                    | zero => exact h.elim
                    | succ k4 =>
                      replace h : ladinglaw03_FrameRows.r4 F K (ladinglaw03_FrameRows.l4 F K k4) l80 l81 x82 x83 H := h
                      unfold ladinglaw03_FrameRows.r4 at h
                      refine SW.seq ?_
                      refine SW.region ?_
                      refine SOps.val (v := .bool (decide (x83 < x82))) rfl (wantN rfl) (fun _ => by kernel_rfl) ?_
                      refine SOps.nil ?_
                      refine SW.seq ?_
                      by_cases c84 : x83 < x82
                      · replace h := h.1 c84
                        have dc84 : (decide (x83 < x82)) = true := (decide_eq_true c84)
                        refine SW.cond_t (t := decide (x83 < x82)) rfl dc84 ?_
                        refine SW.skip ?_
                        refine SW.seq ?_
                        refine SW.block ?_
                        refine SW.seq ?_
                        refine SW.region ?_
                        refine SOps.val (v := .int .i64 x83) rfl (wantN rfl) (fun _ => by kernel_rfl) ?_
                        obtain ⟨p85, c86, c87, c88, h⟩ := h
                        refine SOps.val (v := pv (some (p85.1, (p85.2 + x83.toNat * 1)))) rfl (wantN rfl) (fun w => ev_iaddr rfl Try.underlying35 (size := 1) (by kernel_rfl) rfl rfl c86 c87 c88 w) ?_
                        obtain ⟨s89, c90, h⟩ := h
                        refine SOps.rd (v := .string s89) rfl (wantN rfl) (fun w hw => ev_load1 rfl (fun _ => by kernel_rfl) (p := (p85.1, (p85.2 + x83.toNat * 1))) rfl c90 w hw) ?_
                        refine SOps.val (v := .int .i64 x83) rfl (wantN rfl) (fun _ => by kernel_rfl) ?_
                        refine SOps.val (v := .string s89) rfl (wantN rfl) (fun _ => by kernel_rfl) ?_
                        refine SOps.nil ?_
                        refine SW.seq ?_
                        refine SW.region ?_
                        refine SOps.val (v := .string s89) rfl (wantN rfl) (fun _ => by kernel_rfl) ?_
                        refine SOps.val (v := sv l80) rfl (wantN rfl) (fun _ => by kernel_rfl) ?_
                        refine SOps.val (v := .int .i64 x83) rfl (wantN rfl) (fun _ => by kernel_rfl) ?_
                        obtain ⟨p91, c92, c93, c94, h⟩ := h
                        refine SOps.val (v := pv (some (p91.1, (p91.2 + x83.toNat * 1)))) rfl (wantN rfl) (fun w => ev_iaddr rfl Try.underlying35 (size := 1) (by kernel_rfl) rfl rfl c92 c93 c94 w) ?_
                        obtain ⟨s95, c96, h⟩ := h
                        refine SOps.rd (v := .string s95) rfl (wantN rfl) (fun w hw => ev_load1 rfl (fun _ => by kernel_rfl) (p := (p91.1, (p91.2 + x83.toNat * 1))) rfl c96 w hw) ?_
                        refine SOps.val (v := .bool (!decide (s89 = s95))) rfl (wantN rfl) (fun w => ev_neS rfl rfl rfl w) ?_
                        refine SOps.nil ?_
                        by_cases c97 : (s89 = s95)
                        · replace h := h.1 c97
                          have dc97 : (decide (s89 = s95)) = true := (decide_eq_true c97)
                          refine SW.cond_f (t := !decide (s89 = s95)) rfl (not_t dc97) ?_
                          refine SW.skip ?_
                          refine SW.region ?_
                          refine SOps.val (v := .int .i64 (w64 (x83 + 1))) rfl (wantN rfl) (fun _ => by kernel_rfl) ?_
                          refine SOps.val (v := .int .i64 (w64 (x83 + 1))) rfl (wantN rfl) (fun _ => by kernel_rfl) ?_
                          refine SOps.nil ?_
                          exact ⟨k4, Nat.lt_succ_self k4, _, l80, l81, x82, w64 (x83 + 1), (Fr.upds_self _ _ ⟨rfl, rfl, rfl, rfl, trivial⟩), h⟩
                        · replace h := h.2 c97
                          have dc97 : (decide (s89 = s95)) = false := (decide_eq_false c97)
                          refine SW.cond_t (t := !decide (s89 = s95)) rfl (not_f dc97) ?_
                          refine SW.seq ?_
                          refine SW.region ?_
                          refine SOps.val (v := .bool false) rfl (wantN rfl) (fun _ => by kernel_rfl) ?_
                          refine SOps.nil ?_
                          obtain ⟨Hr, hr, h⟩ := h
                          exact SW.ret (retQ.mk (.bool false) (res1 rfl rfl) hr ⟨false, rfl, h⟩)
                      · replace h := h.2 c84
                        have dc84 : (decide (x83 < x82)) = false := (decide_eq_false c84)
                        refine SW.cond_f (t := decide (x83 < x82)) rfl dc84 ?_
                        refine SW.exit ?_
                        refine SW.seq ?_
                        refine SW.region ?_
                        refine SOps.val (v := .bool true) rfl (wantN rfl) (fun _ => by kernel_rfl) ?_
                        refine SOps.nil ?_
                        obtain ⟨Hr, hr, h⟩ := h
                        exact SW.ret (retQ.mk (.bool true) (res1 rfl rfl) hr ⟨true, rfl, h⟩)
            · replace h := h.2 c43
              have dc43 : (decide (x42 < (l38.len : Int))) = false := (decide_eq_false c43)
              refine SOps.off rfl (wantX (c := decide (x42 < (l38.len : Int))) rfl rfl rfl dc43) ?_
              refine SOps.off rfl (wantX (c := decide (x42 < (l38.len : Int))) rfl rfl rfl dc43) ?_
              refine SOps.off rfl (wantX (c := decide (x42 < (l38.len : Int))) rfl rfl rfl dc43) ?_
              refine SOps.off rfl (wantX (c := decide (x42 < (l38.len : Int))) rfl rfl rfl dc43) ?_
              refine SOps.off rfl (wantX (c := decide (x42 < (l38.len : Int))) rfl rfl rfl dc43) ?_
              refine SOps.off rfl (wantX (c := decide (x42 < (l38.len : Int))) rfl rfl rfl dc43) ?_
              refine SOps.val (v := .bool false) rfl (wantN rfl) (fun w => ev_pickF (v := .bool false) rfl (t := decide (x42 < (l38.len : Int))) rfl dc43 rfl w) ?_
              refine SOps.nil ?_
              refine SW.cond_f (t := false) rfl rfl ?_
              refine SW.exit ?_
              refine SW.seq ?_
              refine SW.seq ?_
              refine SW.region ?_
              refine SOps.val (v := sv l40) rfl (wantN rfl) (fun _ => by kernel_rfl) ?_
              refine SOps.val (v := .int .i64 (l40.len : Int)) rfl (wantN rfl) (fun _ => by kernel_rfl) ?_
              refine SOps.val (v := .int .i64 x42) rfl (wantN rfl) (fun _ => by kernel_rfl) ?_
              refine SOps.val (v := .bool ((l40.len : Int) != x42)) rfl (wantN rfl) (fun _ => by kernel_rfl) ?_
              refine SOps.val (v := .bool ((l40.len : Int) != x42)) rfl (wantN rfl) (fun _ => by kernel_rfl) ?_
              by_cases c100 : (l40.len : Int) ≠ x42
              · replace h := h.1 c100
                have dc100 : ((l40.len : Int) != x42) = true := (bne_iff_ne.mpr c100)
                refine SOps.off rfl (wantX (c := ((l40.len : Int) != x42)) rfl rfl rfl dc100) ?_
                refine SOps.off rfl (wantX (c := ((l40.len : Int) != x42)) rfl rfl rfl dc100) ?_
                refine SOps.off rfl (wantX (c := ((l40.len : Int) != x42)) rfl rfl rfl dc100) ?_
                refine SOps.off rfl (wantU rfl rfl rfl) ?_
                refine SOps.off rfl (wantU rfl rfl rfl) ?_
                refine SOps.off rfl (wantU rfl rfl rfl) ?_
                refine SOps.off rfl (wantU rfl rfl rfl) ?_
                refine SOps.off rfl (wantU rfl rfl rfl) ?_
                refine SOps.off rfl (wantU rfl rfl rfl) ?_
                refine SOps.off rfl (wantU rfl rfl rfl) ?_
                refine SOps.off rfl (wantX (c := ((l40.len : Int) != x42)) rfl rfl rfl dc100) ?_
                refine SOps.val (v := .bool true) rfl (wantN rfl) (fun w => ev_pickT (v := .bool true) rfl (t := ((l40.len : Int) != x42)) rfl dc100 rfl w) ?_
                refine SOps.nil ?_
                refine SW.cond_t (t := true) rfl rfl ?_
                refine SW.seq ?_
                refine SW.region ?_
                refine SOps.val (v := .bool false) rfl (wantN rfl) (fun _ => by kernel_rfl) ?_
                refine SOps.nil ?_
                obtain ⟨Hr, hr, h⟩ := h
                exact SW.ret (retQ.mk (.bool false) (res1 rfl rfl) hr ⟨false, rfl, h⟩)
              · replace h := h.2 c100
                have dc100 : ((l40.len : Int) != x42) = false := (by simpa using c100)
                refine SOps.val (v := .int .i64 x42) rfl (wantY (c := ((l40.len : Int) != x42)) rfl rfl rfl dc100) (fun _ => by kernel_rfl) ?_
                refine SOps.val (v := .bool (decide (x42 > 0))) rfl (wantY (c := ((l40.len : Int) != x42)) rfl rfl rfl dc100) (fun _ => by kernel_rfl) ?_
                refine SOps.val (v := .bool (decide (x42 > 0))) rfl (wantY (c := ((l40.len : Int) != x42)) rfl rfl rfl dc100) (fun _ => by kernel_rfl) ?_
                by_cases c101 : x42 > 0
                · replace h := h.1 c101
                  have dc101 : (decide (x42 > 0)) = true := (decide_eq_true c101)
                  refine SOps.val (v := .int .i64 x41) rfl (wantY (c := decide (x42 > 0)) rfl rfl rfl dc101) (fun _ => by kernel_rfl) ?_
                  refine SOps.val (v := sv l38) rfl (wantY (c := decide (x42 > 0)) rfl rfl rfl dc101) (fun _ => by kernel_rfl) ?_
                  refine SOps.val (v := .int .i64 x42) rfl (wantY (c := decide (x42 > 0)) rfl rfl rfl dc101) (fun _ => by kernel_rfl) ?_
                  refine SOps.val (v := .int .i64 (w64 (x42 - 1))) rfl (wantY (c := decide (x42 > 0)) rfl rfl rfl dc101) (fun _ => by kernel_rfl) ?_
                  obtain ⟨p102, c103, c104, c105, h⟩ := h
                  refine SOps.val (v := pv (some (p102.1, (p102.2 + (w64 (x42 - 1)).toNat * 1)))) rfl (wantY (c := decide (x42 > 0)) rfl rfl rfl dc101) (fun w => ev_iaddr rfl Try.underlying36 (size := 1) (by kernel_rfl) rfl rfl c103 c104 c105 w) ?_
                  obtain ⟨x106, c107, h⟩ := h
                  refine SOps.rd (v := .int .i64 x106) rfl (wantY (c := decide (x42 > 0)) rfl rfl rfl dc101) (fun w hw => ev_load1 rfl (fun _ => by kernel_rfl) (p := (p102.1, (p102.2 + (w64 (x42 - 1)).toNat * 1))) rfl c107 w hw) ?_
                  refine SOps.val (v := .bool (x41 != x106)) rfl (wantY (c := decide (x42 > 0)) rfl rfl rfl dc101) (fun _ => by kernel_rfl) ?_
                  refine SOps.val (v := .bool (x41 != x106)) rfl (wantY (c := ((l40.len : Int) != x42)) rfl rfl rfl dc100) (fun w => ev_pickT (v := .bool (x41 != x106)) rfl (t := decide (x42 > 0)) rfl dc101 rfl w) ?_
                  refine SOps.val (v := .bool (x41 != x106)) rfl (wantN rfl) (fun w => ev_pickF (v := .bool (x41 != x106)) rfl (t := ((l40.len : Int) != x42)) rfl dc100 rfl w) ?_
                  refine SOps.nil ?_
                  by_cases c108 : x41 ≠ x106
                  · replace h := h.1 c108
                    have dc108 : (x41 != x106) = true := (bne_iff_ne.mpr c108)
                    refine SW.cond_t (t := (x41 != x106)) rfl dc108 ?_
                    refine SW.seq ?_
                    refine SW.region ?_
                    refine SOps.val (v := .bool false) rfl (wantN rfl) (fun _ => by kernel_rfl) ?_
                    refine SOps.nil ?_
                    obtain ⟨Hr, hr, h⟩ := h
                    exact SW.ret (retQ.mk (.bool false) (res1 rfl rfl) hr ⟨false, rfl, h⟩)
                  · replace h := h.2 c108
                    have dc108 : (x41 != x106) = false := (by simpa using c108)
                    refine SW.cond_f (t := (x41 != x106)) rfl dc108 ?_
                    refine SW.skip ?_
                    refine SW.seq ?_
                    refine SW.seq ?_
                    refine SW.region ?_
                    refine SOps.val (v := sv l40) rfl (wantN rfl) (fun _ => by kernel_rfl) ?_
                    refine SOps.val (v := .int .i64 (l40.len : Int)) rfl (wantN rfl) (fun _ => by kernel_rfl) ?_
                    refine SOps.val (v := .int .i64 0) rfl (wantN rfl) (fun _ => by kernel_rfl) ?_
                    refine SOps.nil ?_
                    refine SW.block ?_
                    refine SW.loop (fun k5 fr H => ∃ (g : Fr) (l109 : Sl) (l110 : Sl) (x111 : Int) (x112 : Int), fr = g.upds [(0, sv l109), (91, sv l110), (92, (.int .i64 x111 : Value)), (93, (.int .i64 x112 : Value))] ∧ ladinglaw03_FrameRows.l5 F K k5 l109 l110 x111 x112 H) F ⟨_, l37, l40, (l40.len : Int), 0, (Fr.upds_self _ _ ⟨rfl, rfl, rfl, rfl, trivial⟩), h⟩ ?_
                    clear h
                    rintro k5 fr H ⟨g, l109, l110, x111, x112, rfl, h⟩
                    cases k5 with
                    | zero => exact h.elim
                    | succ k5 =>
                      replace h : ladinglaw03_FrameRows.r5 F K (ladinglaw03_FrameRows.l5 F K k5) l109 l110 x111 x112 H := h
                      unfold ladinglaw03_FrameRows.r5 at h
                      refine SW.seq ?_
                      refine SW.region ?_
                      refine SOps.val (v := .bool (decide (x112 < x111))) rfl (wantN rfl) (fun _ => by kernel_rfl) ?_
                      refine SOps.nil ?_
                      refine SW.seq ?_
                      by_cases c113 : x112 < x111
                      · replace h := h.1 c113
                        have dc113 : (decide (x112 < x111)) = true := (decide_eq_true c113)
                        refine SW.cond_t (t := decide (x112 < x111)) rfl dc113 ?_
                        refine SW.skip ?_
                        refine SW.seq ?_
                        refine SW.block ?_
                        refine SW.seq ?_
                        refine SW.region ?_
                        refine SOps.val (v := .int .i64 x112) rfl (wantN rfl) (fun _ => by kernel_rfl) ?_
                        obtain ⟨p114, c115, c116, c117, h⟩ := h
                        refine SOps.val (v := pv (some (p114.1, (p114.2 + x112.toNat * 1)))) rfl (wantN rfl) (fun w => ev_iaddr rfl Try.underlying35 (size := 1) (by kernel_rfl) rfl rfl c115 c116 c117 w) ?_
                        obtain ⟨s118, c119, h⟩ := h
                        refine SOps.rd (v := .string s118) rfl (wantN rfl) (fun w hw => ev_load1 rfl (fun _ => by kernel_rfl) (p := (p114.1, (p114.2 + x112.toNat * 1))) rfl c119 w hw) ?_
                        refine SOps.val (v := .int .i64 x112) rfl (wantN rfl) (fun _ => by kernel_rfl) ?_
                        refine SOps.val (v := .string s118) rfl (wantN rfl) (fun _ => by kernel_rfl) ?_
                        refine SOps.nil ?_
                        refine SW.seq ?_
                        refine SW.region ?_
                        refine SOps.val (v := .string s118) rfl (wantN rfl) (fun _ => by kernel_rfl) ?_
                        refine SOps.val (v := sv l109) rfl (wantN rfl) (fun _ => by kernel_rfl) ?_
                        refine SOps.val (v := .int .i64 x112) rfl (wantN rfl) (fun _ => by kernel_rfl) ?_
                        obtain ⟨p120, c121, c122, c123, h⟩ := h
                        refine SOps.val (v := pv (some (p120.1, (p120.2 + x112.toNat * 1)))) rfl (wantN rfl) (fun w => ev_iaddr rfl Try.underlying35 (size := 1) (by kernel_rfl) rfl rfl c121 c122 c123 w) ?_
                        obtain ⟨s124, c125, h⟩ := h
                        refine SOps.rd (v := .string s124) rfl (wantN rfl) (fun w hw => ev_load1 rfl (fun _ => by kernel_rfl) (p := (p120.1, (p120.2 + x112.toNat * 1))) rfl c125 w hw) ?_
                        refine SOps.val (v := .bool (!decide (s118 = s124))) rfl (wantN rfl) (fun w => ev_neS rfl rfl rfl w) ?_
                        refine SOps.nil ?_
                        by_cases c126 : (s118 = s124)
                        · replace h := h.1 c126
                          have dc126 : (decide (s118 = s124)) = true := (decide_eq_true c126)
                          refine SW.cond_f (t := !decide (s118 = s124)) rfl (not_t dc126) ?_
                          refine SW.skip ?_
                          refine SW.region ?_
                          refine SOps.val (v := .int .i64 (w64 (x112 + 1))) rfl (wantN rfl) (fun _ => by kernel_rfl) ?_
                          refine SOps.val (v := .int .i64 (w64 (x112 + 1))) rfl (wantN rfl) (fun _ => by kernel_rfl) ?_
                          refine SOps.nil ?_
                          exact ⟨k5, Nat.lt_succ_self k5, _, l109, l110, x111, w64 (x112 + 1), (Fr.upds_self _ _ ⟨rfl, rfl, rfl, rfl, trivial⟩), h⟩
                        · replace h := h.2 c126
                          have dc126 : (decide (s118 = s124)) = false := (decide_eq_false c126)
                          refine SW.cond_t (t := !decide (s118 = s124)) rfl (not_f dc126) ?_
                          refine SW.seq ?_
                          refine SW.region ?_
                          refine SOps.val (v := .bool false) rfl (wantN rfl) (fun _ => by kernel_rfl) ?_
                          refine SOps.nil ?_
                          obtain ⟨Hr, hr, h⟩ := h
                          exact SW.ret (retQ.mk (.bool false) (res1 rfl rfl) hr ⟨false, rfl, h⟩)
                      · replace h := h.2 c113
                        have dc113 : (decide (x112 < x111)) = false := (decide_eq_false c113)
                        refine SW.cond_f (t := decide (x112 < x111)) rfl dc113 ?_
                        refine SW.exit ?_
                        refine SW.seq ?_
                        refine SW.region ?_
                        refine SOps.val (v := .bool true) rfl (wantN rfl) (fun _ => by kernel_rfl) ?_
                        refine SOps.nil ?_
                        obtain ⟨Hr, hr, h⟩ := h
                        exact SW.ret (retQ.mk (.bool true) (res1 rfl rfl) hr ⟨true, rfl, h⟩)
                · replace h := h.2 c101
                  have dc101 : (decide (x42 > 0)) = false := (decide_eq_false c101)
                  refine SOps.off rfl (wantX (c := decide (x42 > 0)) rfl rfl rfl dc101) ?_
                  refine SOps.off rfl (wantX (c := decide (x42 > 0)) rfl rfl rfl dc101) ?_
                  refine SOps.off rfl (wantX (c := decide (x42 > 0)) rfl rfl rfl dc101) ?_
                  refine SOps.off rfl (wantX (c := decide (x42 > 0)) rfl rfl rfl dc101) ?_
                  refine SOps.off rfl (wantX (c := decide (x42 > 0)) rfl rfl rfl dc101) ?_
                  refine SOps.off rfl (wantX (c := decide (x42 > 0)) rfl rfl rfl dc101) ?_
                  refine SOps.off rfl (wantX (c := decide (x42 > 0)) rfl rfl rfl dc101) ?_
                  refine SOps.val (v := .bool false) rfl (wantY (c := ((l40.len : Int) != x42)) rfl rfl rfl dc100) (fun w => ev_pickF (v := .bool false) rfl (t := decide (x42 > 0)) rfl dc101 rfl w) ?_
                  refine SOps.val (v := .bool false) rfl (wantN rfl) (fun w => ev_pickF (v := .bool false) rfl (t := ((l40.len : Int) != x42)) rfl dc100 rfl w) ?_
                  refine SOps.nil ?_
                  refine SW.cond_f (t := false) rfl rfl ?_
                  refine SW.skip ?_
                  refine SW.seq ?_
                  refine SW.seq ?_
                  refine SW.region ?_
                  refine SOps.val (v := sv l40) rfl (wantN rfl) (fun _ => by kernel_rfl) ?_
                  refine SOps.val (v := .int .i64 (l40.len : Int)) rfl (wantN rfl) (fun _ => by kernel_rfl) ?_
                  refine SOps.val (v := .int .i64 0) rfl (wantN rfl) (fun _ => by kernel_rfl) ?_
                  refine SOps.nil ?_
                  refine SW.block ?_
                  refine SW.loop (fun k6 fr H => ∃ (g : Fr) (l129 : Sl) (l130 : Sl) (x131 : Int) (x132 : Int), fr = g.upds [(0, sv l129), (91, sv l130), (92, (.int .i64 x131 : Value)), (93, (.int .i64 x132 : Value))] ∧ ladinglaw03_FrameRows.l6 F K k6 l129 l130 x131 x132 H) F ⟨_, l37, l40, (l40.len : Int), 0, (Fr.upds_self _ _ ⟨rfl, rfl, rfl, rfl, trivial⟩), h⟩ ?_
                  clear h
                  rintro k6 fr H ⟨g, l129, l130, x131, x132, rfl, h⟩
                  cases k6 with
                  | zero => exact h.elim
                  | succ k6 =>
                    replace h : ladinglaw03_FrameRows.r6 F K (ladinglaw03_FrameRows.l6 F K k6) l129 l130 x131 x132 H := h
                    unfold ladinglaw03_FrameRows.r6 at h
                    refine SW.seq ?_
                    refine SW.region ?_
                    refine SOps.val (v := .bool (decide (x132 < x131))) rfl (wantN rfl) (fun _ => by kernel_rfl) ?_
                    refine SOps.nil ?_
                    refine SW.seq ?_
                    by_cases c133 : x132 < x131
                    · replace h := h.1 c133
                      have dc133 : (decide (x132 < x131)) = true := (decide_eq_true c133)
                      refine SW.cond_t (t := decide (x132 < x131)) rfl dc133 ?_
                      refine SW.skip ?_
                      refine SW.seq ?_
                      refine SW.block ?_
                      refine SW.seq ?_
                      refine SW.region ?_
                      refine SOps.val (v := .int .i64 x132) rfl (wantN rfl) (fun _ => by kernel_rfl) ?_
                      obtain ⟨p134, c135, c136, c137, h⟩ := h
                      refine SOps.val (v := pv (some (p134.1, (p134.2 + x132.toNat * 1)))) rfl (wantN rfl) (fun w => ev_iaddr rfl Try.underlying35 (size := 1) (by kernel_rfl) rfl rfl c135 c136 c137 w) ?_
                      obtain ⟨s138, c139, h⟩ := h
                      refine SOps.rd (v := .string s138) rfl (wantN rfl) (fun w hw => ev_load1 rfl (fun _ => by kernel_rfl) (p := (p134.1, (p134.2 + x132.toNat * 1))) rfl c139 w hw) ?_
                      refine SOps.val (v := .int .i64 x132) rfl (wantN rfl) (fun _ => by kernel_rfl) ?_
                      refine SOps.val (v := .string s138) rfl (wantN rfl) (fun _ => by kernel_rfl) ?_
                      refine SOps.nil ?_
                      refine SW.seq ?_
                      refine SW.region ?_
                      refine SOps.val (v := .string s138) rfl (wantN rfl) (fun _ => by kernel_rfl) ?_
                      refine SOps.val (v := sv l129) rfl (wantN rfl) (fun _ => by kernel_rfl) ?_
                      refine SOps.val (v := .int .i64 x132) rfl (wantN rfl) (fun _ => by kernel_rfl) ?_
                      obtain ⟨p140, c141, c142, c143, h⟩ := h
                      refine SOps.val (v := pv (some (p140.1, (p140.2 + x132.toNat * 1)))) rfl (wantN rfl) (fun w => ev_iaddr rfl Try.underlying35 (size := 1) (by kernel_rfl) rfl rfl c141 c142 c143 w) ?_
                      obtain ⟨s144, c145, h⟩ := h
                      refine SOps.rd (v := .string s144) rfl (wantN rfl) (fun w hw => ev_load1 rfl (fun _ => by kernel_rfl) (p := (p140.1, (p140.2 + x132.toNat * 1))) rfl c145 w hw) ?_
                      refine SOps.val (v := .bool (!decide (s138 = s144))) rfl (wantN rfl) (fun w => ev_neS rfl rfl rfl w) ?_
                      refine SOps.nil ?_
                      by_cases c146 : (s138 = s144)
                      · replace h := h.1 c146
                        have dc146 : (decide (s138 = s144)) = true := (decide_eq_true c146)
                        refine SW.cond_f (t := !decide (s138 = s144)) rfl (not_t dc146) ?_
                        refine SW.skip ?_
                        refine SW.region ?_
                        refine SOps.val (v := .int .i64 (w64 (x132 + 1))) rfl (wantN rfl) (fun _ => by kernel_rfl) ?_
                        refine SOps.val (v := .int .i64 (w64 (x132 + 1))) rfl (wantN rfl) (fun _ => by kernel_rfl) ?_
                        refine SOps.nil ?_
                        exact ⟨k6, Nat.lt_succ_self k6, _, l129, l130, x131, w64 (x132 + 1), (Fr.upds_self _ _ ⟨rfl, rfl, rfl, rfl, trivial⟩), h⟩
                      · replace h := h.2 c146
                        have dc146 : (decide (s138 = s144)) = false := (decide_eq_false c146)
                        refine SW.cond_t (t := !decide (s138 = s144)) rfl (not_f dc146) ?_
                        refine SW.seq ?_
                        refine SW.region ?_
                        refine SOps.val (v := .bool false) rfl (wantN rfl) (fun _ => by kernel_rfl) ?_
                        refine SOps.nil ?_
                        obtain ⟨Hr, hr, h⟩ := h
                        exact SW.ret (retQ.mk (.bool false) (res1 rfl rfl) hr ⟨false, rfl, h⟩)
                    · replace h := h.2 c133
                      have dc133 : (decide (x132 < x131)) = false := (decide_eq_false c133)
                      refine SW.cond_f (t := decide (x132 < x131)) rfl dc133 ?_
                      refine SW.exit ?_
                      refine SW.seq ?_
                      refine SW.region ?_
                      refine SOps.val (v := .bool true) rfl (wantN rfl) (fun _ => by kernel_rfl) ?_
                      refine SOps.nil ?_
                      obtain ⟨Hr, hr, h⟩ := h
                      exact SW.ret (retQ.mk (.bool true) (res1 rfl rfl) hr ⟨true, rfl, h⟩)
  · replace h := h.2 c5
    have dc5 : q3 = false := (Bool.eq_false_iff.mpr c5)
    refine SW.cond_t (t := !q3) rfl (not_f dc5) ?_
    refine SW.seq ?_
    refine SW.region ?_
    refine SOps.val (v := .bool false) rfl (wantN rfl) (fun _ => by kernel_rfl) ?_
    refine SOps.nil ?_
    obtain ⟨Hr, hr, h⟩ := h
    exact SW.ret (retQ.mk (.bool false) (res1 rfl rfl) hr ⟨false, rfl, h⟩)

/-! ### lading/ladinglaw06.awake: function 15 -/
def ladinglaw06_awake.wp (F : Nat) (H : SH) (K : Bool → SH → Prop) : Prop :=
  ∀ b1, H b1 = none →
  gap_Put.wp F 10 4 (⟨some (b1, 0), 3, 3⟩ : Sl) (SH.upd H b1 ⟨[.int .i64 3, .int .i64 4, .int .i64 7], 3, false, 3⟩) (fun s3 e4 H5 =>
    (s3 = (⟨#[3, 1, 0, 2]⟩ : ByteArray) →
      (e4 = none →
        ∃ Hr, SH.le Hr H5 ∧ K true Hr
      ) ∧ (∀ v7, e4 = some v7 →
        ∃ Hr, SH.le Hr H5 ∧ K false Hr
      )
    ) ∧ (¬ (s3 = (⟨#[3, 1, 0, 2]⟩ : ByteArray)) →
      ∃ Hr, SH.le Hr H5 ∧ K false Hr
    )
  )
set_option maxHeartbeats 8000000 in
theorem ladinglaw06_awake.sound (F : Nat) (H : SH) (K : Bool → SH → Prop) (h : ladinglaw06_awake.wp F H K) : SCalls Try.prog 15 #[] H (fun v H' => ∃ (q9 : Bool), v = .bool q9 ∧ K q9 H') := by
  unfold ladinglaw06_awake.wp at h
  refine SCalls.body Try.func15 rfl (Nat.le_of_ble_eq_true rfl) ?_
  refine SW.seq ?_
  refine SW.region ?_
  refine SOps.val (v := .bool false) rfl (wantN rfl) (fun _ => by kernel_rfl) ?_
  refine SOps.nil ?_
  refine SW.seq ?_
  refine SW.region ?_
  refine SOps.lit (E := 3) (cs := #[.int .i64 3, .int .i64 4, .int .i64 7]) rfl rfl (wantN rfl) (fun _ => by kernel_rfl) (fun b1 c2 => ?_)
  replace h := h b1 c2
  refine SOps.enter rfl (wantN rfl) (fun _ => by kernel_rfl) (gap_Put.sound F 10 4 (⟨some (b1, 0), 3, 3⟩ : Sl) (SH.upd H b1 ⟨[.int .i64 3, .int .i64 4, .int .i64 7], 3, false, 3⟩) _ h) ?_
  clear h
  rintro v H5 ⟨s3, e4, rfl, h⟩
  refine SOps.val (v := .tuple #[.string s3, errV e4]) rfl (wantN rfl) (fun _ => by kernel_rfl) ?_
  refine SOps.val (v := .string s3) rfl (wantN rfl) (fun _ => by kernel_rfl) ?_
  refine SOps.val (v := errV e4) rfl (wantN rfl) (fun _ => by kernel_rfl) ?_
  refine SOps.val (v := .string s3) rfl (wantN rfl) (fun _ => by kernel_rfl) ?_
  refine SOps.val (v := errV e4) rfl (wantN rfl) (fun _ => by kernel_rfl) ?_
  refine SOps.nil ?_
  refine SW.seq ?_
  refine SW.region ?_
  refine SOps.val (v := .string s3) rfl (wantN rfl) (fun _ => by kernel_rfl) ?_
  refine SOps.val (v := .bool (decide (s3 = (⟨#[3, 1, 0, 2]⟩ : ByteArray)))) rfl (wantN rfl) (fun w => ev_eqS rfl rfl rfl w) ?_
  refine SOps.val (v := .bool (decide (s3 = (⟨#[3, 1, 0, 2]⟩ : ByteArray)))) rfl (wantN rfl) (fun _ => by kernel_rfl) ?_
  by_cases c6 : s3 = (⟨#[3, 1, 0, 2]⟩ : ByteArray)
  · replace h := h.1 c6
    have dc6 : (decide (s3 = (⟨#[3, 1, 0, 2]⟩ : ByteArray))) = true := (decide_eq_true c6)
    refine SOps.val (v := errV e4) rfl (wantY (c := decide (s3 = (⟨#[3, 1, 0, 2]⟩ : ByteArray))) rfl rfl rfl dc6) (fun _ => by kernel_rfl) ?_
    rcases e4 with _ | v7
    · replace h := h.1 rfl
      refine SOps.val (v := .bool true) rfl (wantY (c := decide (s3 = (⟨#[3, 1, 0, 2]⟩ : ByteArray))) rfl rfl rfl dc6) (fun w => ev_errEq (e := none) rfl Try.underlying24 rfl rfl w) ?_
      refine SOps.val (v := .bool true) rfl (wantN rfl) (fun w => ev_pickT (v := .bool true) rfl (t := decide (s3 = (⟨#[3, 1, 0, 2]⟩ : ByteArray))) rfl dc6 rfl w) ?_
      refine SOps.val (v := .bool true) rfl (wantN rfl) (fun _ => by kernel_rfl) ?_
      refine SOps.nil ?_
      obtain ⟨Hr, hr, h⟩ := h
      exact SW.ret (retQ.mk (.bool true) (res1 rfl rfl) hr ⟨true, rfl, h⟩)
    · replace h := h.2 v7 rfl
      refine SOps.val (v := .bool false) rfl (wantY (c := decide (s3 = (⟨#[3, 1, 0, 2]⟩ : ByteArray))) rfl rfl rfl dc6) (fun w => ev_errEq (e := some v7) rfl Try.underlying24 rfl rfl w) ?_
      refine SOps.val (v := .bool false) rfl (wantN rfl) (fun w => ev_pickT (v := .bool false) rfl (t := decide (s3 = (⟨#[3, 1, 0, 2]⟩ : ByteArray))) rfl dc6 rfl w) ?_
      refine SOps.val (v := .bool false) rfl (wantN rfl) (fun _ => by kernel_rfl) ?_
      refine SOps.nil ?_
      obtain ⟨Hr, hr, h⟩ := h
      exact SW.ret (retQ.mk (.bool false) (res1 rfl rfl) hr ⟨false, rfl, h⟩)
  · replace h := h.2 c6
    have dc6 : (decide (s3 = (⟨#[3, 1, 0, 2]⟩ : ByteArray))) = false := (decide_eq_false c6)
    refine SOps.off rfl (wantX (c := decide (s3 = (⟨#[3, 1, 0, 2]⟩ : ByteArray))) rfl rfl rfl dc6) ?_
    refine SOps.off rfl (wantX (c := decide (s3 = (⟨#[3, 1, 0, 2]⟩ : ByteArray))) rfl rfl rfl dc6) ?_
    refine SOps.val (v := .bool false) rfl (wantN rfl) (fun w => ev_pickF (v := .bool false) rfl (t := decide (s3 = (⟨#[3, 1, 0, 2]⟩ : ByteArray))) rfl dc6 rfl w) ?_
    refine SOps.val (v := .bool false) rfl (wantN rfl) (fun _ => by kernel_rfl) ?_
    refine SOps.nil ?_
    obtain ⟨Hr, hr, h⟩ := h
    exact SW.ret (retQ.mk (.bool false) (res1 rfl rfl) hr ⟨false, rfl, h⟩)

/-! ### lading/ladinglaw06.GapTight: function 6 -/
def ladinglaw06_GapTight.r1 (F : Nat) (K : Bool → SH → Prop) (R1 : ByteArray → Int → Int → Sl → Int → Sl → Int → Int → SH → Prop) (s13 : ByteArray) (x14 : Int) (x15 : Int) (l16 : Sl) (x17 : Int) (l18 : Sl) (x19 : Int) (x20 : Int) (H : SH) : Prop :=
  (x20 < x19 →
    ∃ p22, l18.a = some p22 ∧ 0 ≤ x20 ∧ x20 < (l18.len : Int) ∧
    ∃ (x26 : Int),
    SH.has H (p22.1, (p22.2 + x20.toNat * 1)) (.int .i64 x26) ∧
    (x26 < 0 →
      ∃ Hr, SH.le Hr H ∧ K false Hr
    ) ∧ (¬ (x26 < 0) →
      (x26 ≥ (w64 x14) →
        ∃ Hr, SH.le Hr H ∧ K false Hr
      ) ∧ (¬ (x26 ≥ (w64 x14)) →
        (x20 > 0 →
          ∃ p31, l16.a = some p31 ∧ 0 ≤ (w64 (x20 - 1)) ∧ (w64 (x20 - 1)) < (l16.len : Int) ∧
          ∃ (x35 : Int),
          SH.has H (p31.1, (p31.2 + (w64 (x20 - 1)).toNat * 1)) (.int .i64 x35) ∧
          (x26 ≤ x35 →
            ∃ Hr, SH.le Hr H ∧ K false Hr
          ) ∧ (¬ (x26 ≤ x35) →
            R1 s13 x14 x15 l16 x17 l18 x19 (w64 (x20 + 1)) H
          )
        ) ∧ (¬ (x20 > 0) →
          R1 s13 x14 x15 l16 x17 l18 x19 (w64 (x20 + 1)) H
        )
      )
    )
  ) ∧ (¬ (x20 < x19) →
    gap_Put.wp F (w64 x14) (w64 x15) l16 H (fun s38 e39 H40 =>
      (e39 = none →
        0 ≤ (0 : Int) ∧
        (0 : Int) ≤ x17 ∧
        x17 ≤ (s13.size : Int) ∧
        ∃ Hr, SH.le Hr H40 ∧ K (decide (s38 = (s13.extract (0 : Int).toNat x17.toNat))) Hr
      ) ∧ (∀ v41, e39 = some v41 →
        ∃ Hr, SH.le Hr H40 ∧ K false Hr
      )
    )
  )
def ladinglaw06_GapTight.l1 (F : Nat) (K : Bool → SH → Prop) : Nat → ByteArray → Int → Int → Sl → Int → Sl → Int → Int → SH → Prop
  | 0, _, _, _, _, _, _, _, _, _ => False
  | k + 1, s13, x14, x15, l16, x17, l18, x19, x20, H => ladinglaw06_GapTight.r1 F K (ladinglaw06_GapTight.l1 F K k) s13 x14 x15 l16 x17 l18 x19 x20 H
def ladinglaw06_GapTight.wp (F : Nat) (s1 : ByteArray) (x2 : Int) (x3 : Int) (H : SH) (K : Bool → SH → Prop) : Prop :=
  ladinglaw06_awake.wp F  H (fun q4 H5 =>
    (q4 = true →
      ((s1.size : Int) > 300 →
        ∃ Hr, SH.le Hr H5 ∧ K true Hr
      ) ∧ (¬ ((s1.size : Int) > 300) →
        gap_Get.wp F s1 0 (w64 x2) (w64 x3) H5 (fun l8 x9 e10 H11 =>
          (e10 = none →
            ladinglaw06_GapTight.l1 F K F s1 x2 x3 l8 x9 l8 (l8.len : Int) 0 H11
          ) ∧ (∀ v12, e10 = some v12 →
            ((l8.len : Int) = 0 →
              ∃ Hr, SH.le Hr H11 ∧ K (x9 == 0) Hr
            ) ∧ (¬ ((l8.len : Int) = 0) →
              ∃ Hr, SH.le Hr H11 ∧ K false Hr
            )
          )
        )
      )
    ) ∧ (¬ (q4 = true) →
      ∃ Hr, SH.le Hr H5 ∧ K false Hr
    )
  )
set_option maxHeartbeats 8000000 in
theorem ladinglaw06_GapTight.sound (F : Nat) (s1 : ByteArray) (x2 : Int) (x3 : Int) (H : SH) (K : Bool → SH → Prop) (h : ladinglaw06_GapTight.wp F s1 x2 x3 H K) : SCalls Try.prog 6 #[.string s1, .int .u16 x2, .int .u16 x3] H (fun v H' => ∃ (q49 : Bool), v = .bool q49 ∧ K q49 H') := by
  unfold ladinglaw06_GapTight.wp at h
  refine SCalls.body Try.func6 rfl (Nat.le_of_ble_eq_true rfl) ?_
  refine SW.seq ?_
  refine SW.region ?_
  refine SOps.val (v := .bool false) rfl (wantN rfl) (fun _ => by kernel_rfl) ?_
  refine SOps.nil ?_
  refine SW.seq ?_
  refine SW.seq ?_
  refine SW.region ?_
  refine SOps.enter rfl (wantN rfl) (fun _ => by kernel_rfl) (ladinglaw06_awake.sound F  H _ h) ?_
  clear h
  rintro v H5 ⟨q4, rfl, h⟩
  refine SOps.val (v := .bool !q4) rfl (wantN rfl) (fun _ => by kernel_rfl) ?_
  refine SOps.nil ?_
  by_cases c6 : q4 = true
  · replace h := h.1 c6
    have dc6 : q4 = true := c6
    refine SW.cond_f (t := !q4) rfl (not_t dc6) ?_
    refine SW.skip ?_
    refine SW.seq ?_
    refine SW.seq ?_
    refine SW.region ?_
    refine SOps.val (v := .string s1) rfl (wantN rfl) (fun _ => by kernel_rfl) ?_
    refine SOps.val (v := .int .i64 (s1.size : Int)) rfl (wantN rfl) (fun _ => by kernel_rfl) ?_
    refine SOps.val (v := .bool (decide ((s1.size : Int) > 300))) rfl (wantN rfl) (fun _ => by kernel_rfl) ?_
    refine SOps.nil ?_
    by_cases c7 : (s1.size : Int) > 300
    · replace h := h.1 c7
      have dc7 : (decide ((s1.size : Int) > 300)) = true := (decide_eq_true c7)
      refine SW.cond_t (t := decide ((s1.size : Int) > 300)) rfl dc7 ?_
      refine SW.seq ?_
      refine SW.region ?_
      refine SOps.val (v := .bool true) rfl (wantN rfl) (fun _ => by kernel_rfl) ?_
      refine SOps.nil ?_
      obtain ⟨Hr, hr, h⟩ := h
      exact SW.ret (retQ.mk (.bool true) (res1 rfl rfl) hr ⟨true, rfl, h⟩)
    · replace h := h.2 c7
      have dc7 : (decide ((s1.size : Int) > 300)) = false := (decide_eq_false c7)
      refine SW.cond_f (t := decide ((s1.size : Int) > 300)) rfl dc7 ?_
      refine SW.skip ?_
      refine SW.seq ?_
      refine SW.region ?_
      refine SOps.val (v := .string s1) rfl (wantN rfl) (fun _ => by kernel_rfl) ?_
      refine SOps.val (v := .int .u16 x2) rfl (wantN rfl) (fun _ => by kernel_rfl) ?_
      refine SOps.val (v := .int .i64 (w64 x2)) rfl (wantN rfl) (fun _ => by kernel_rfl) ?_
      refine SOps.val (v := .int .u16 x3) rfl (wantN rfl) (fun _ => by kernel_rfl) ?_
      refine SOps.val (v := .int .i64 (w64 x3)) rfl (wantN rfl) (fun _ => by kernel_rfl) ?_
      refine SOps.enter rfl (wantN rfl) (fun _ => by kernel_rfl) (gap_Get.sound F s1 0 (w64 x2) (w64 x3) H5 _ h) ?_
      clear h
      rintro v H11 ⟨l8, x9, e10, rfl, h⟩
      refine SOps.val (v := .tuple #[sv l8, .int .i64 x9, errV e10]) rfl (wantN rfl) (fun _ => by kernel_rfl) ?_
      refine SOps.val (v := sv l8) rfl (wantN rfl) (fun _ => by kernel_rfl) ?_
      refine SOps.val (v := .int .i64 x9) rfl (wantN rfl) (fun _ => by kernel_rfl) ?_
      refine SOps.val (v := errV e10) rfl (wantN rfl) (fun _ => by kernel_rfl) ?_
      refine SOps.val (v := sv l8) rfl (wantN rfl) (fun _ => by kernel_rfl) ?_
      refine SOps.val (v := .int .i64 x9) rfl (wantN rfl) (fun _ => by kernel_rfl) ?_
      refine SOps.val (v := errV e10) rfl (wantN rfl) (fun _ => by kernel_rfl) ?_
      refine SOps.nil ?_
      refine SW.seq ?_
      refine SW.seq ?_
      refine SW.region ?_
      refine SOps.val (v := errV e10) rfl (wantN rfl) (fun _ => by kernel_rfl) ?_
      rcases e10 with _ | v12
      · replace h := h.1 rfl
        refine SOps.val (v := .bool false) rfl (wantN rfl) (fun w => ev_errNe (e := none) rfl Try.underlying24 rfl rfl w) ?_
        refine SOps.nil ?_
        refine SW.cond_f (t := false) rfl rfl ?_
        refine SW.skip ?_
        refine SW.seq ?_
        refine SW.seq ?_
        refine SW.region ?_
        refine SOps.val (v := sv l8) rfl (wantN rfl) (fun _ => by kernel_rfl) ?_
        refine SOps.val (v := .int .i64 (l8.len : Int)) rfl (wantN rfl) (fun _ => by kernel_rfl) ?_
        refine SOps.val (v := .int .i64 0) rfl (wantN rfl) (fun _ => by kernel_rfl) ?_
        refine SOps.nil ?_
        refine SW.block ?_
        refine SW.loop (fun k1 fr H => ∃ (g : Fr) (s13 : ByteArray) (x14 : Int) (x15 : Int) (l16 : Sl) (x17 : Int) (l18 : Sl) (x19 : Int) (x20 : Int), fr = g.upds [(0, (.string s13 : Value)), (1, (.int .u16 x14 : Value)), (2, (.int .u16 x15 : Value)), (7, sv l16), (8, (.int .i64 x17 : Value)), (38, sv l18), (39, (.int .i64 x19 : Value)), (40, (.int .i64 x20 : Value))] ∧ ladinglaw06_GapTight.l1 F K k1 s13 x14 x15 l16 x17 l18 x19 x20 H) F ⟨_, s1, x2, x3, l8, x9, l8, (l8.len : Int), 0, (Fr.upds_self _ _ ⟨rfl, rfl, rfl, rfl, rfl, rfl, rfl, rfl, trivial⟩), h⟩ ?_
        clear h
        rintro k1 fr H ⟨g, s13, x14, x15, l16, x17, l18, x19, x20, rfl, h⟩
        cases k1 with
        | zero => exact h.elim
        | succ k1 =>
          replace h : ladinglaw06_GapTight.r1 F K (ladinglaw06_GapTight.l1 F K k1) s13 x14 x15 l16 x17 l18 x19 x20 H := h
          unfold ladinglaw06_GapTight.r1 at h
          refine SW.seq ?_
          refine SW.region ?_
          refine SOps.val (v := .bool (decide (x20 < x19))) rfl (wantN rfl) (fun _ => by kernel_rfl) ?_
          refine SOps.nil ?_
          refine SW.seq ?_
          by_cases c21 : x20 < x19
          · replace h := h.1 c21
            have dc21 : (decide (x20 < x19)) = true := (decide_eq_true c21)
            refine SW.cond_t (t := decide (x20 < x19)) rfl dc21 ?_
            refine SW.skip ?_
            refine SW.seq ?_
            refine SW.block ?_
            refine SW.seq ?_
            refine SW.region ?_
            refine SOps.val (v := .int .i64 x20) rfl (wantN rfl) (fun _ => by kernel_rfl) ?_
            obtain ⟨p22, c23, c24, c25, h⟩ := h
            refine SOps.val (v := pv (some (p22.1, (p22.2 + x20.toNat * 1)))) rfl (wantN rfl) (fun w => ev_iaddr rfl Try.underlying36 (size := 1) (by kernel_rfl) rfl rfl c23 c24 c25 w) ?_
            obtain ⟨x26, c27, h⟩ := h
            refine SOps.rd (v := .int .i64 x26) rfl (wantN rfl) (fun w hw => ev_load1 rfl (fun _ => by kernel_rfl) (p := (p22.1, (p22.2 + x20.toNat * 1))) rfl c27 w hw) ?_
            refine SOps.val (v := .int .i64 x20) rfl (wantN rfl) (fun _ => by kernel_rfl) ?_
            refine SOps.val (v := .int .i64 x26) rfl (wantN rfl) (fun _ => by kernel_rfl) ?_
            refine SOps.nil ?_
            refine SW.seq ?_
            refine SW.region ?_
            refine SOps.val (v := .int .i64 x26) rfl (wantN rfl) (fun _ => by kernel_rfl) ?_
            refine SOps.val (v := .bool (decide (x26 < 0))) rfl (wantN rfl) (fun _ => by kernel_rfl) ?_
            refine SOps.val (v := .bool (decide (x26 < 0))) rfl (wantN rfl) (fun _ => by kernel_rfl) ?_
            by_cases c28 : x26 < 0
            · replace h := h.1 c28
              have dc28 : (decide (x26 < 0)) = true := (decide_eq_true c28)
              refine SOps.off rfl (wantX (c := decide (x26 < 0)) rfl rfl rfl dc28) ?_
              refine SOps.off rfl (wantX (c := decide (x26 < 0)) rfl rfl rfl dc28) ?_
              refine SOps.off rfl (wantX (c := decide (x26 < 0)) rfl rfl rfl dc28) ?_
              refine SOps.off rfl (wantX (c := decide (x26 < 0)) rfl rfl rfl dc28) ?_
              refine SOps.val (v := .bool true) rfl (wantN rfl) (fun w => ev_pickT (v := .bool true) rfl (t := decide (x26 < 0)) rfl dc28 rfl w) ?_
              refine SOps.val (v := .bool true) rfl (wantN rfl) (fun _ => by kernel_rfl) ?_
              refine SOps.off rfl (wantX (c := true) rfl rfl rfl rfl) ?_
              refine SOps.off rfl (wantX (c := true) rfl rfl rfl rfl) ?_
              refine SOps.off rfl (wantX (c := true) rfl rfl rfl rfl) ?_
              refine SOps.off rfl (wantU rfl rfl rfl) ?_
              refine SOps.off rfl (wantU rfl rfl rfl) ?_
              refine SOps.off rfl (wantU rfl rfl rfl) ?_
              refine SOps.off rfl (wantU rfl rfl rfl) ?_
              refine SOps.off rfl (wantU rfl rfl rfl) ?_
              refine SOps.off rfl (wantU rfl rfl rfl) ?_
              refine SOps.off rfl (wantU rfl rfl rfl) ?_
              refine SOps.off rfl (wantX (c := true) rfl rfl rfl rfl) ?_
              refine SOps.val (v := .bool true) rfl (wantN rfl) (fun w => ev_pickT (v := .bool true) rfl (t := true) rfl rfl rfl w) ?_
              refine SOps.nil ?_
              refine SW.cond_t (t := true) rfl rfl ?_
              refine SW.seq ?_
              refine SW.region ?_
              refine SOps.val (v := .bool false) rfl (wantN rfl) (fun _ => by kernel_rfl) ?_
              refine SOps.nil ?_
              obtain ⟨Hr, hr, h⟩ := h
              exact SW.ret (retQ.mk (.bool false) (res1 rfl rfl) hr ⟨false, rfl, h⟩)
            · replace h := h.2 c28
              have dc28 : (decide (x26 < 0)) = false := (decide_eq_false c28)
              refine SOps.val (v := .int .i64 x26) rfl (wantY (c := decide (x26 < 0)) rfl rfl rfl dc28) (fun _ => by kernel_rfl) ?_
              refine SOps.val (v := .int .u16 x14) rfl (wantY (c := decide (x26 < 0)) rfl rfl rfl dc28) (fun _ => by kernel_rfl) ?_
              refine SOps.val (v := .int .i64 (w64 x14)) rfl (wantY (c := decide (x26 < 0)) rfl rfl rfl dc28) (fun _ => by kernel_rfl) ?_
              refine SOps.val (v := .bool (decide (x26 ≥ (w64 x14)))) rfl (wantY (c := decide (x26 < 0)) rfl rfl rfl dc28) (fun _ => by kernel_rfl) ?_
              refine SOps.val (v := .bool (decide (x26 ≥ (w64 x14)))) rfl (wantN rfl) (fun w => ev_pickF (v := .bool (decide (x26 ≥ (w64 x14)))) rfl (t := decide (x26 < 0)) rfl dc28 rfl w) ?_
              refine SOps.val (v := .bool (decide (x26 ≥ (w64 x14)))) rfl (wantN rfl) (fun _ => by kernel_rfl) ?_
              by_cases c29 : x26 ≥ (w64 x14)
              · replace h := h.1 c29
                have dc29 : (decide (x26 ≥ (w64 x14))) = true := (decide_eq_true c29)
                refine SOps.off rfl (wantX (c := decide (x26 ≥ (w64 x14))) rfl rfl rfl dc29) ?_
                refine SOps.off rfl (wantX (c := decide (x26 ≥ (w64 x14))) rfl rfl rfl dc29) ?_
                refine SOps.off rfl (wantX (c := decide (x26 ≥ (w64 x14))) rfl rfl rfl dc29) ?_
                refine SOps.off rfl (wantU rfl rfl rfl) ?_
                refine SOps.off rfl (wantU rfl rfl rfl) ?_
                refine SOps.off rfl (wantU rfl rfl rfl) ?_
                refine SOps.off rfl (wantU rfl rfl rfl) ?_
                refine SOps.off rfl (wantU rfl rfl rfl) ?_
                refine SOps.off rfl (wantU rfl rfl rfl) ?_
                refine SOps.off rfl (wantU rfl rfl rfl) ?_
                refine SOps.off rfl (wantX (c := decide (x26 ≥ (w64 x14))) rfl rfl rfl dc29) ?_
                refine SOps.val (v := .bool true) rfl (wantN rfl) (fun w => ev_pickT (v := .bool true) rfl (t := decide (x26 ≥ (w64 x14))) rfl dc29 rfl w) ?_
                refine SOps.nil ?_
                refine SW.cond_t (t := true) rfl rfl ?_
                refine SW.seq ?_
                refine SW.region ?_
                refine SOps.val (v := .bool false) rfl (wantN rfl) (fun _ => by kernel_rfl) ?_
                refine SOps.nil ?_
                obtain ⟨Hr, hr, h⟩ := h
                exact SW.ret (retQ.mk (.bool false) (res1 rfl rfl) hr ⟨false, rfl, h⟩)
              · replace h := h.2 c29
                have dc29 : (decide (x26 ≥ (w64 x14))) = false := (decide_eq_false c29)
                refine SOps.val (v := .int .i64 x20) rfl (wantY (c := decide (x26 ≥ (w64 x14))) rfl rfl rfl dc29) (fun _ => by kernel_rfl) ?_
                refine SOps.val (v := .bool (decide (x20 > 0))) rfl (wantY (c := decide (x26 ≥ (w64 x14))) rfl rfl rfl dc29) (fun _ => by kernel_rfl) ?_
                refine SOps.val (v := .bool (decide (x20 > 0))) rfl (wantY (c := decide (x26 ≥ (w64 x14))) rfl rfl rfl dc29) (fun _ => by kernel_rfl) ?_
                by_cases c30 : x20 > 0
                · replace h := h.1 c30
                  have dc30 : (decide (x20 > 0)) = true := (decide_eq_true c30)
                  refine SOps.val (v := .int .i64 x26) rfl (wantY (c := decide (x20 > 0)) rfl rfl rfl dc30) (fun _ => by kernel_rfl) ?_
                  refine SOps.val (v := sv l16) rfl (wantY (c := decide (x20 > 0)) rfl rfl rfl dc30) (fun _ => by kernel_rfl) ?_
                  refine SOps.val (v := .int .i64 x20) rfl (wantY (c := decide (x20 > 0)) rfl rfl rfl dc30) (fun _ => by kernel_rfl) ?_
                  refine SOps.val (v := .int .i64 (w64 (x20 - 1))) rfl (wantY (c := decide (x20 > 0)) rfl rfl rfl dc30) (fun _ => by kernel_rfl) ?_
                  obtain ⟨p31, c32, c33, c34, h⟩ := h
                  refine SOps.val (v := pv (some (p31.1, (p31.2 + (w64 (x20 - 1)).toNat * 1)))) rfl (wantY (c := decide (x20 > 0)) rfl rfl rfl dc30) (fun w => ev_iaddr rfl Try.underlying36 (size := 1) (by kernel_rfl) rfl rfl c32 c33 c34 w) ?_
                  obtain ⟨x35, c36, h⟩ := h
                  refine SOps.rd (v := .int .i64 x35) rfl (wantY (c := decide (x20 > 0)) rfl rfl rfl dc30) (fun w hw => ev_load1 rfl (fun _ => by kernel_rfl) (p := (p31.1, (p31.2 + (w64 (x20 - 1)).toNat * 1))) rfl c36 w hw) ?_
                  refine SOps.val (v := .bool (decide (x26 ≤ x35))) rfl (wantY (c := decide (x20 > 0)) rfl rfl rfl dc30) (fun _ => by kernel_rfl) ?_
                  refine SOps.val (v := .bool (decide (x26 ≤ x35))) rfl (wantY (c := decide (x26 ≥ (w64 x14))) rfl rfl rfl dc29) (fun w => ev_pickT (v := .bool (decide (x26 ≤ x35))) rfl (t := decide (x20 > 0)) rfl dc30 rfl w) ?_
                  refine SOps.val (v := .bool (decide (x26 ≤ x35))) rfl (wantN rfl) (fun w => ev_pickF (v := .bool (decide (x26 ≤ x35))) rfl (t := decide (x26 ≥ (w64 x14))) rfl dc29 rfl w) ?_
                  refine SOps.nil ?_
                  by_cases c37 : x26 ≤ x35
                  · replace h := h.1 c37
                    have dc37 : (decide (x26 ≤ x35)) = true := (decide_eq_true c37)
                    refine SW.cond_t (t := decide (x26 ≤ x35)) rfl dc37 ?_
                    refine SW.seq ?_
                    refine SW.region ?_
                    refine SOps.val (v := .bool false) rfl (wantN rfl) (fun _ => by kernel_rfl) ?_
                    refine SOps.nil ?_
                    obtain ⟨Hr, hr, h⟩ := h
                    exact SW.ret (retQ.mk (.bool false) (res1 rfl rfl) hr ⟨false, rfl, h⟩)
                  · replace h := h.2 c37
                    have dc37 : (decide (x26 ≤ x35)) = false := (decide_eq_false c37)
                    refine SW.cond_f (t := decide (x26 ≤ x35)) rfl dc37 ?_
                    refine SW.skip ?_
                    refine SW.region ?_
                    refine SOps.val (v := .int .i64 (w64 (x20 + 1))) rfl (wantN rfl) (fun _ => by kernel_rfl) ?_
                    refine SOps.val (v := .int .i64 (w64 (x20 + 1))) rfl (wantN rfl) (fun _ => by kernel_rfl) ?_
                    refine SOps.nil ?_
                    exact ⟨k1, Nat.lt_succ_self k1, _, s13, x14, x15, l16, x17, l18, x19, w64 (x20 + 1), (Fr.upds_self _ _ ⟨rfl, rfl, rfl, rfl, rfl, rfl, rfl, rfl, trivial⟩), h⟩
                · replace h := h.2 c30
                  have dc30 : (decide (x20 > 0)) = false := (decide_eq_false c30)
                  refine SOps.off rfl (wantX (c := decide (x20 > 0)) rfl rfl rfl dc30) ?_
                  refine SOps.off rfl (wantX (c := decide (x20 > 0)) rfl rfl rfl dc30) ?_
                  refine SOps.off rfl (wantX (c := decide (x20 > 0)) rfl rfl rfl dc30) ?_
                  refine SOps.off rfl (wantX (c := decide (x20 > 0)) rfl rfl rfl dc30) ?_
                  refine SOps.off rfl (wantX (c := decide (x20 > 0)) rfl rfl rfl dc30) ?_
                  refine SOps.off rfl (wantX (c := decide (x20 > 0)) rfl rfl rfl dc30) ?_
                  refine SOps.off rfl (wantX (c := decide (x20 > 0)) rfl rfl rfl dc30) ?_
                  refine SOps.val (v := .bool false) rfl (wantY (c := decide (x26 ≥ (w64 x14))) rfl rfl rfl dc29) (fun w => ev_pickF (v := .bool false) rfl (t := decide (x20 > 0)) rfl dc30 rfl w) ?_
                  refine SOps.val (v := .bool false) rfl (wantN rfl) (fun w => ev_pickF (v := .bool false) rfl (t := decide (x26 ≥ (w64 x14))) rfl dc29 rfl w) ?_
                  refine SOps.nil ?_
                  refine SW.cond_f (t := false) rfl rfl ?_
                  refine SW.skip ?_
                  refine SW.region ?_
                  refine SOps.val (v := .int .i64 (w64 (x20 + 1))) rfl (wantN rfl) (fun _ => by kernel_rfl) ?_
                  refine SOps.val (v := .int .i64 (w64 (x20 + 1))) rfl (wantN rfl) (fun _ => by kernel_rfl) ?_
                  refine SOps.nil ?_
                  exact ⟨k1, Nat.lt_succ_self k1, _, s13, x14, x15, l16, x17, l18, x19, w64 (x20 + 1), (Fr.upds_self _ _ ⟨rfl, rfl, rfl, rfl, rfl, rfl, rfl, rfl, trivial⟩), h⟩
          · replace h := h.2 c21
            have dc21 : (decide (x20 < x19)) = false := (decide_eq_false c21)
            refine SW.cond_f (t := decide (x20 < x19)) rfl dc21 ?_
            refine SW.exit ?_
            refine SW.seq ?_
            refine SW.region ?_
            refine SOps.val (v := .int .u16 x14) rfl (wantN rfl) (fun _ => by kernel_rfl) ?_
            refine SOps.val (v := .int .i64 (w64 x14)) rfl (wantN rfl) (fun _ => by kernel_rfl) ?_
            refine SOps.val (v := .int .u16 x15) rfl (wantN rfl) (fun _ => by kernel_rfl) ?_
            refine SOps.val (v := .int .i64 (w64 x15)) rfl (wantN rfl) (fun _ => by kernel_rfl) ?_
            refine SOps.val (v := sv l16) rfl (wantN rfl) (fun _ => by kernel_rfl) ?_
            refine SOps.enter rfl (wantN rfl) (fun _ => by kernel_rfl) (gap_Put.sound F (w64 x14) (w64 x15) l16 H _ h) ?_
            clear h
            rintro v H40 ⟨s38, e39, rfl, h⟩
            refine SOps.val (v := .tuple #[.string s38, errV e39]) rfl (wantN rfl) (fun _ => by kernel_rfl) ?_
            refine SOps.val (v := .string s38) rfl (wantN rfl) (fun _ => by kernel_rfl) ?_
            refine SOps.val (v := errV e39) rfl (wantN rfl) (fun _ => by kernel_rfl) ?_
            refine SOps.val (v := .string s38) rfl (wantN rfl) (fun _ => by kernel_rfl) ?_
            refine SOps.val (v := errV e39) rfl (wantN rfl) (fun _ => by kernel_rfl) ?_
            refine SOps.nil ?_
            refine SW.seq ?_
            refine SW.region ?_
            refine SOps.val (v := errV e39) rfl (wantN rfl) (fun _ => by kernel_rfl) ?_
            rcases e39 with _ | v41
            · replace h := h.1 rfl
              refine SOps.val (v := .bool true) rfl (wantN rfl) (fun w => ev_errEq (e := none) rfl Try.underlying24 rfl rfl w) ?_
              refine SOps.val (v := .bool true) rfl (wantN rfl) (fun _ => by kernel_rfl) ?_
              refine SOps.val (v := .string s38) rfl (wantY (c := true) rfl rfl rfl rfl) (fun _ => by kernel_rfl) ?_
              refine SOps.val (v := .string s13) rfl (wantY (c := true) rfl rfl rfl rfl) (fun _ => by kernel_rfl) ?_
              refine SOps.val (v := .int .i64 x17) rfl (wantY (c := true) rfl rfl rfl rfl) (fun _ => by kernel_rfl) ?_
              obtain ⟨c42, c43, c44, h⟩ := h
              refine SOps.val (v := .string (s13.extract (0 : Int).toNat x17.toNat)) rfl (wantY (c := true) rfl rfl rfl rfl) (fun w => ev_subS (a := (0 : Int)) (b := x17) rfl Try.underlying9 rfl (Or.inl ⟨rfl, rfl⟩) (Or.inr ⟨_, rfl⟩) c42 c43 c44 w) ?_
              refine SOps.val (v := .bool (decide (s38 = (s13.extract (0 : Int).toNat x17.toNat)))) rfl (wantY (c := true) rfl rfl rfl rfl) (fun w => ev_eqS rfl rfl rfl w) ?_
              refine SOps.val (v := .bool (decide (s38 = (s13.extract (0 : Int).toNat x17.toNat)))) rfl (wantN rfl) (fun w => ev_pickT (v := .bool (decide (s38 = (s13.extract (0 : Int).toNat x17.toNat)))) rfl (t := true) rfl rfl rfl w) ?_
              refine SOps.val (v := .bool (decide (s38 = (s13.extract (0 : Int).toNat x17.toNat)))) rfl (wantN rfl) (fun _ => by kernel_rfl) ?_
              refine SOps.nil ?_
              obtain ⟨Hr, hr, h⟩ := h
              exact SW.ret (retQ.mk (.bool (decide (s38 = (s13.extract (0 : Int).toNat x17.toNat)))) (res1 rfl rfl) hr ⟨decide (s38 = (s13.extract (0 : Int).toNat x17.toNat)), rfl, h⟩)
            · replace h := h.2 v41 rfl
              refine SOps.val (v := .bool false) rfl (wantN rfl) (fun w => ev_errEq (e := some v41) rfl Try.underlying24 rfl rfl w) ?_
              refine SOps.val (v := .bool false) rfl (wantN rfl) (fun _ => by kernel_rfl) ?_
              refine SOps.off rfl (wantX (c := false) rfl rfl rfl rfl) ?_
              refine SOps.off rfl (wantX (c := false) rfl rfl rfl rfl) ?_
              refine SOps.off rfl (wantX (c := false) rfl rfl rfl rfl) ?_
              refine SOps.off rfl (wantX (c := false) rfl rfl rfl rfl) ?_
              refine SOps.off rfl (wantX (c := false) rfl rfl rfl rfl) ?_
              refine SOps.val (v := .bool false) rfl (wantN rfl) (fun w => ev_pickF (v := .bool false) rfl (t := false) rfl rfl rfl w) ?_
              refine SOps.val (v := .bool false) rfl (wantN rfl) (fun _ => by kernel_rfl) ?_
              refine SOps.nil ?_
              obtain ⟨Hr, hr, h⟩ := h
              exact SW.ret (retQ.mk (.bool false) (res1 rfl rfl) hr ⟨false, rfl, h⟩)
      · replace h := h.2 v12 rfl
        refine SOps.val (v := .bool true) rfl (wantN rfl) (fun w => ev_errNe (e := some v12) rfl Try.underlying24 rfl rfl w) ?_
        refine SOps.nil ?_
        refine SW.cond_t (t := true) rfl rfl ?_
        refine SW.seq ?_
        refine SW.region ?_
        refine SOps.val (v := sv l8) rfl (wantN rfl) (fun _ => by kernel_rfl) ?_
        refine SOps.val (v := .int .i64 (l8.len : Int)) rfl (wantN rfl) (fun _ => by kernel_rfl) ?_
        refine SOps.val (v := .bool ((l8.len : Int) == 0)) rfl (wantN rfl) (fun _ => by kernel_rfl) ?_
        refine SOps.val (v := .bool ((l8.len : Int) == 0)) rfl (wantN rfl) (fun _ => by kernel_rfl) ?_
        by_cases c47 : (l8.len : Int) = 0
        · replace h := h.1 c47
          have dc47 : ((l8.len : Int) == 0) = true := (beq_iff_eq.mpr c47)
          refine SOps.val (v := .int .i64 x9) rfl (wantY (c := ((l8.len : Int) == 0)) rfl rfl rfl dc47) (fun _ => by kernel_rfl) ?_
          refine SOps.val (v := .bool (x9 == 0)) rfl (wantY (c := ((l8.len : Int) == 0)) rfl rfl rfl dc47) (fun _ => by kernel_rfl) ?_
          refine SOps.val (v := .bool (x9 == 0)) rfl (wantN rfl) (fun w => ev_pickT (v := .bool (x9 == 0)) rfl (t := ((l8.len : Int) == 0)) rfl dc47 rfl w) ?_
          refine SOps.val (v := .bool (x9 == 0)) rfl (wantN rfl) (fun _ => by kernel_rfl) ?_
          refine SOps.nil ?_
          obtain ⟨Hr, hr, h⟩ := h
          exact SW.ret (retQ.mk (.bool (x9 == 0)) (res1 rfl rfl) hr ⟨(x9 == 0), rfl, h⟩)
        · replace h := h.2 c47
          have dc47 : ((l8.len : Int) == 0) = false := (beq_eq_false_iff_ne.mpr c47)
          refine SOps.off rfl (wantX (c := ((l8.len : Int) == 0)) rfl rfl rfl dc47) ?_
          refine SOps.off rfl (wantX (c := ((l8.len : Int) == 0)) rfl rfl rfl dc47) ?_
          refine SOps.val (v := .bool false) rfl (wantN rfl) (fun w => ev_pickF (v := .bool false) rfl (t := ((l8.len : Int) == 0)) rfl dc47 rfl w) ?_
          refine SOps.val (v := .bool false) rfl (wantN rfl) (fun _ => by kernel_rfl) ?_
          refine SOps.nil ?_
          obtain ⟨Hr, hr, h⟩ := h
          exact SW.ret (retQ.mk (.bool false) (res1 rfl rfl) hr ⟨false, rfl, h⟩)
  · replace h := h.2 c6
    have dc6 : q4 = false := (Bool.eq_false_iff.mpr c6)
    refine SW.cond_t (t := !q4) rfl (not_f dc6) ?_
    refine SW.seq ?_
    refine SW.region ?_
    refine SOps.val (v := .bool false) rfl (wantN rfl) (fun _ => by kernel_rfl) ?_
    refine SOps.nil ?_
    obtain ⟨Hr, hr, h⟩ := h
    exact SW.ret (retQ.mk (.bool false) (res1 rfl rfl) hr ⟨false, rfl, h⟩)

end Go.Proofs.Ytpnbehgkbfhacaa.K
