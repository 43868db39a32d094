import Derived.Test.YtpnbehgkbfhacaaDoorGoctet2
import Derived.Test.YtpnbehgkbfhacaaDoorGref
import Derived.Test.YtpnbehgkbfhacaaDoorApi2
set_option linter.unusedVariables false
set_option linter.unusedSimpArgs false
set_option maxRecDepth 100000
namespace Go.Proofs.YtpnbehgkbfhacaaDoor.K
open Go
attribute [local irreducible] SW SOps SQ SCalls retQ

/-! ### lading/ladinglaw01.awake: function 9 -/
def ladinglaw01_awake.wp (F : Nat) (H : SH) (K : Bool → SH → Prop) : Prop :=
  octet_PutShort.wp F 300 H (fun s1 e2 H3 =>
    (s1 = (⟨#[172, 2]⟩ : ByteArray) →
      (e2 = none →
        octet_Turn.wp F (-1) H3 (fun x6 H7 =>
          ∃ Hr, SH.le Hr H7 ∧ K (x6 == 1) Hr
        )
      ) ∧ (∀ v5, e2 = some v5 →
        ∃ Hr, SH.le Hr H3 ∧ K false Hr
      )
    ) ∧ (¬ (s1 = (⟨#[172, 2]⟩ : ByteArray)) →
      ∃ Hr, SH.le Hr H3 ∧ K false Hr
    )
  )
set_option maxHeartbeats 8000000 in
theorem ladinglaw01_awake.sound (F : Nat) (H : SH) (K : Bool → SH → Prop) (h : ladinglaw01_awake.wp F H K) : SCalls Tryd.prog 9 #[] H (fun v H' => ∃ (q9 : Bool), v = .bool q9 ∧ K q9 H') := by
  unfold ladinglaw01_awake.wp at h
  refine SCalls.body Tryd.func9 rfl (Nat.le_of_ble_eq_true rfl) ?_
  refine SW.seq ?_
  refine SW.region ?_
  refine SOps.val (v := .bool false) rfl (wantN rfl) (fun _ => by kernel_rfl) ?_
  refine SOps.nil ?_
  refine SW.seq ?_
  refine SW.region ?_
  refine SOps.enter rfl (wantN rfl) (fun _ => by kernel_rfl) (octet_PutShort.sound F 300 H _ h) ?_
  clear h
  rintro v H3 ⟨s1, e2, rfl, h⟩
  refine SOps.val (v := .tuple #[.string s1, errV e2]) rfl (wantN rfl) (fun _ => by kernel_rfl) ?_
  refine SOps.val (v := .string s1) rfl (wantN rfl) (fun _ => by kernel_rfl) ?_
  refine SOps.val (v := errV e2) rfl (wantN rfl) (fun _ => by kernel_rfl) ?_
  refine SOps.val (v := .string s1) rfl (wantN rfl) (fun _ => by kernel_rfl) ?_
  refine SOps.val (v := errV e2) rfl (wantN rfl) (fun _ => by kernel_rfl) ?_
  refine SOps.nil ?_
  refine SW.seq ?_
  refine SW.region ?_
  refine SOps.val (v := .string s1) rfl (wantN rfl) (fun _ => by kernel_rfl) ?_
  refine SOps.val (v := .bool (decide (s1 = (⟨#[172, 2]⟩ : ByteArray)))) rfl (wantN rfl) (fun w => ev_eqS rfl rfl rfl w) ?_
  refine SOps.val (v := .bool (decide (s1 = (⟨#[172, 2]⟩ : ByteArray)))) rfl (wantN rfl) (fun _ => by kernel_rfl) ?_
  by_cases c4 : s1 = (⟨#[172, 2]⟩ : ByteArray)
  · replace h := h.1 c4
    have dc4 : (decide (s1 = (⟨#[172, 2]⟩ : ByteArray))) = true := (decide_eq_true c4)
    refine SOps.val (v := errV e2) rfl (wantY (c := decide (s1 = (⟨#[172, 2]⟩ : ByteArray))) rfl rfl rfl dc4) (fun _ => by kernel_rfl) ?_
    rcases e2 with _ | v5
    · replace h := h.1 rfl
      refine SOps.val (v := .bool true) rfl (wantY (c := decide (s1 = (⟨#[172, 2]⟩ : ByteArray))) rfl rfl rfl dc4) (fun w => ev_errEq (e := none) rfl Tryd.underlying24 rfl rfl w) ?_
      refine SOps.val (v := .bool true) rfl (wantN rfl) (fun w => ev_pickT (v := .bool true) rfl (t := decide (s1 = (⟨#[172, 2]⟩ : ByteArray))) rfl dc4 rfl w) ?_
      refine SOps.val (v := .bool true) rfl (wantN rfl) (fun _ => by kernel_rfl) ?_
      refine SOps.enter rfl (wantY (c := true) rfl rfl rfl rfl) (fun _ => by kernel_rfl) (octet_Turn.sound F (-1) H3 _ h) ?_
      clear h
      rintro v H7 ⟨x6, rfl, h⟩
      refine SOps.val (v := .bool (x6 == 1)) rfl (wantY (c := true) rfl rfl rfl rfl) (fun _ => by kernel_rfl) ?_
      refine SOps.val (v := .bool (x6 == 1)) rfl (wantN rfl) (fun w => ev_pickT (v := .bool (x6 == 1)) rfl (t := true) rfl rfl rfl w) ?_
      refine SOps.val (v := .bool (x6 == 1)) rfl (wantN rfl) (fun _ => by kernel_rfl) ?_
      refine SOps.nil ?_
      obtain ⟨Hr, hr, h⟩ := h
      exact SW.ret (retQ.mk (.bool (x6 == 1)) (res1 rfl rfl) hr ⟨(x6 == 1), rfl, h⟩)
    · replace h := h.2 v5 rfl
      refine SOps.val (v := .bool false) rfl (wantY (c := decide (s1 = (⟨#[172, 2]⟩ : ByteArray))) rfl rfl rfl dc4) (fun w => ev_errEq (e := some v5) rfl Tryd.underlying24 rfl rfl w) ?_
      refine SOps.val (v := .bool false) rfl (wantN rfl) (fun w => ev_pickT (v := .bool false) rfl (t := decide (s1 = (⟨#[172, 2]⟩ : ByteArray))) rfl dc4 rfl w) ?_
      refine SOps.val (v := .bool false) rfl (wantN rfl) (fun _ => by kernel_rfl) ?_
      refine SOps.off rfl (wantX (c := false) rfl rfl rfl rfl) ?_
      refine SOps.off rfl (wantX (c := false) rfl rfl rfl rfl) ?_
      refine SOps.val (v := .bool false) rfl (wantN rfl) (fun w => ev_pickF (v := .bool false) rfl (t := false) rfl rfl rfl w) ?_
      refine SOps.val (v := .bool false) rfl (wantN rfl) (fun _ => by kernel_rfl) ?_
      refine SOps.nil ?_
      obtain ⟨Hr, hr, h⟩ := h
      exact SW.ret (retQ.mk (.bool false) (res1 rfl rfl) hr ⟨false, rfl, h⟩)
  · replace h := h.2 c4
    have dc4 : (decide (s1 = (⟨#[172, 2]⟩ : ByteArray))) = false := (decide_eq_false c4)
    refine SOps.off rfl (wantX (c := decide (s1 = (⟨#[172, 2]⟩ : ByteArray))) rfl rfl rfl dc4) ?_
    refine SOps.off rfl (wantX (c := decide (s1 = (⟨#[172, 2]⟩ : ByteArray))) rfl rfl rfl dc4) ?_
    refine SOps.val (v := .bool false) rfl (wantN rfl) (fun w => ev_pickF (v := .bool false) rfl (t := decide (s1 = (⟨#[172, 2]⟩ : ByteArray))) rfl dc4 rfl w) ?_
    refine SOps.val (v := .bool false) rfl (wantN rfl) (fun _ => by kernel_rfl) ?_
    refine SOps.off rfl (wantX (c := false) rfl rfl rfl rfl) ?_
    refine SOps.off rfl (wantX (c := false) rfl rfl rfl rfl) ?_
    refine SOps.val (v := .bool false) rfl (wantN rfl) (fun w => ev_pickF (v := .bool false) rfl (t := false) rfl rfl rfl w) ?_
    refine SOps.val (v := .bool false) rfl (wantN rfl) (fun _ => by kernel_rfl) ?_
    refine SOps.nil ?_
    obtain ⟨Hr, hr, h⟩ := h
    exact SW.ret (retQ.mk (.bool false) (res1 rfl rfl) hr ⟨false, rfl, h⟩)

/-! ### lading/ladinglaw01.OctetFixed: function 3 -/
def ladinglaw01_OctetFixed.wp (F : Nat) (x1 : Int) (x2 : Int) (s3 : ByteArray) (H : SH) (K : Bool → SH → Prop) : Prop :=
  ladinglaw01_awake.wp F  H (fun q4 H5 =>
    (q4 = true →
      ((s3.size : Int) > 300 →
        ∃ Hr, SH.le Hr H5 ∧ K true Hr
      ) ∧ (¬ ((s3.size : Int) > 300) →
        octet_PutFixed.wp F x1 x2 H5 (fun s8 e9 H10 =>
          (x1 < 1 →
            (s8 = ByteArray.empty →
              api_Code.wp F e9 H10 (fun x13 H14 =>
                (x13 = 1 →
                  api_Place.wp F e9 H14 (fun x16 H17 =>
                    ∃ Hr, SH.le Hr H17 ∧ K (x16 == (-1)) Hr
                  )
                ) ∧ (¬ (x13 = 1) →
                  ∃ Hr, SH.le Hr H14 ∧ K false Hr
                )
              )
            ) ∧ (¬ (s8 = ByteArray.empty) →
              ∃ Hr, SH.le Hr H10 ∧ K false Hr
            )
          ) ∧ (¬ (x1 < 1) →
            (x1 > 7 →
              (s8 = ByteArray.empty →
                api_Code.wp F e9 H10 (fun x20 H21 =>
                  (x20 = 1 →
                    api_Place.wp F e9 H21 (fun x23 H24 =>
                      ∃ Hr, SH.le Hr H24 ∧ K (x23 == (-1)) Hr
                    )
                  ) ∧ (¬ (x20 = 1) →
                    ∃ Hr, SH.le Hr H21 ∧ K false Hr
                  )
                )
              ) ∧ (¬ (s8 = ByteArray.empty) →
                ∃ Hr, SH.le Hr H10 ∧ K false Hr
              )
            ) ∧ (¬ (x1 > 7) →
              ladingref01_Fits.wp F x1 x2 H10 (fun q25 H26 =>
                (q25 = true →
                  s3.size + s8.size ≤ 9223372036854775807 ∧
                  (s3 ++ s8).size + (⟨#[109, 111, 114, 101]⟩ : ByteArray).size ≤ 9223372036854775807 ∧
                  octet_Fixed.wp F ((s3 ++ s8) ++ (⟨#[109, 111, 114, 101]⟩ : ByteArray)) (s3.size : Int) x1 H26 (fun x30 x31 e32 H33 =>
                    ladingref01_Fixed.wp F x1 x2 H33 (fun s34 H35 =>
                      (s8 = s34 →
                        (e9 = none →
                          (x30 = x2 →
                            (x31 = (w64 ((s3.size : Int) + x1)) →
                              (e32 = none →
                                ∃ Hr, SH.le Hr H35 ∧ K true Hr
                              ) ∧ (∀ v40, e32 = some v40 →
                                ∃ Hr, SH.le Hr H35 ∧ K false Hr
                              )
                            ) ∧ (¬ (x31 = (w64 ((s3.size : Int) + x1))) →
                              ∃ Hr, SH.le Hr H35 ∧ K false Hr
                            )
                          ) ∧ (¬ (x30 = x2) →
                            ∃ Hr, SH.le Hr H35 ∧ K false Hr
                          )
                        ) ∧ (∀ v37, e9 = some v37 →
                          ∃ Hr, SH.le Hr H35 ∧ K false Hr
                        )
                      ) ∧ (¬ (s8 = s34) →
                        ∃ Hr, SH.le Hr H35 ∧ K false Hr
                      )
                    )
                  )
                ) ∧ (¬ (q25 = true) →
                  (s8 = ByteArray.empty →
                    api_Code.wp F e9 H26 (fun x42 H43 =>
                      (x42 = 2 →
                        api_Place.wp F e9 H43 (fun x45 H46 =>
                          ∃ Hr, SH.le Hr H46 ∧ K (x45 == (-1)) Hr
                        )
                      ) ∧ (¬ (x42 = 2) →
                        ∃ Hr, SH.le Hr H43 ∧ K false Hr
                      )
                    )
                  ) ∧ (¬ (s8 = ByteArray.empty) →
                    ∃ Hr, SH.le Hr H26 ∧ K false Hr
                  )
                )
              )
            )
          )
        )
      )
    ) ∧ (¬ (q4 = true) →
      ∃ Hr, SH.le Hr H5 ∧ K false Hr
    )
  )
set_option maxHeartbeats 8000000 in
theorem ladinglaw01_OctetFixed.sound (F : Nat) (x1 : Int) (x2 : Int) (s3 : ByteArray) (H : SH) (K : Bool → SH → Prop) (h : ladinglaw01_OctetFixed.wp F x1 x2 s3 H K) : SCalls Tryd.prog 3 #[.int .i64 x1, .int .i64 x2, .string s3] H (fun v H' => ∃ (q48 : Bool), v = .bool q48 ∧ K q48 H') := by
  unfold ladinglaw01_OctetFixed.wp at h
  refine SCalls.body Tryd.func3 rfl (Nat.le_of_ble_eq_true rfl) ?_
  refine SW.seq ?_
  refine SW.region ?_
  refine SOps.val (v := .bool false) rfl (wantN rfl) (fun _ => by kernel_rfl) ?_
  refine SOps.nil ?_
  refine SW.seq ?_
  refine SW.seq ?_
  refine SW.region ?_
  refine SOps.enter rfl (wantN rfl) (fun _ => by kernel_rfl) (ladinglaw01_awake.sound F  H _ h) ?_
  clear h
  rintro v H5 ⟨q4, rfl, h⟩
  refine SOps.val (v := .bool !q4) rfl (wantN rfl) (fun _ => by kernel_rfl) ?_
  refine SOps.nil ?_
  by_cases c6 : q4 = true
  · replace h := h.1 c6
    have dc6 : q4 = true := c6
    refine SW.cond_f (t := !q4) rfl (not_t dc6) ?_
    refine SW.skip ?_
    refine SW.seq ?_
    refine SW.seq ?_
    refine SW.region ?_
    refine SOps.val (v := .string s3) rfl (wantN rfl) (fun _ => by kernel_rfl) ?_
    refine SOps.val (v := .int .i64 (s3.size : Int)) rfl (wantN rfl) (fun _ => by kernel_rfl) ?_
    refine SOps.val (v := .bool (decide ((s3.size : Int) > 300))) rfl (wantN rfl) (fun _ => by kernel_rfl) ?_
    refine SOps.nil ?_
    by_cases c7 : (s3.size : Int) > 300
    · replace h := h.1 c7
      have dc7 : (decide ((s3.size : Int) > 300)) = true := (decide_eq_true c7)
      refine SW.cond_t (t := decide ((s3.size : Int) > 300)) rfl dc7 ?_
      refine SW.seq ?_
      refine SW.region ?_
      refine SOps.val (v := .bool true) rfl (wantN rfl) (fun _ => by kernel_rfl) ?_
      refine SOps.nil ?_
      obtain ⟨Hr, hr, h⟩ := h
      exact SW.ret (retQ.mk (.bool true) (res1 rfl rfl) hr ⟨true, rfl, h⟩)
    · replace h := h.2 c7
      have dc7 : (decide ((s3.size : Int) > 300)) = false := (decide_eq_false c7)
      refine SW.cond_f (t := decide ((s3.size : Int) > 300)) rfl dc7 ?_
      refine SW.skip ?_
      refine SW.seq ?_
      refine SW.region ?_
      refine SOps.val (v := .int .i64 x1) rfl (wantN rfl) (fun _ => by kernel_rfl) ?_
      refine SOps.val (v := .int .i64 x2) rfl (wantN rfl) (fun _ => by kernel_rfl) ?_
      refine SOps.enter rfl (wantN rfl) (fun _ => by kernel_rfl) (octet_PutFixed.sound F x1 x2 H5 _ h) ?_
      clear h
      rintro v H10 ⟨s8, e9, rfl, h⟩
      refine SOps.val (v := .tuple #[.string s8, errV e9]) rfl (wantN rfl) (fun _ => by kernel_rfl) ?_
      refine SOps.val (v := .string s8) rfl (wantN rfl) (fun _ => by kernel_rfl) ?_
      refine SOps.val (v := errV e9) rfl (wantN rfl) (fun _ => by kernel_rfl) ?_
      refine SOps.val (v := .string s8) rfl (wantN rfl) (fun _ => by kernel_rfl) ?_
      refine SOps.val (v := errV e9) rfl (wantN rfl) (fun _ => by kernel_rfl) ?_
      refine SOps.nil ?_
      refine SW.seq ?_
      refine SW.block ?_
      refine SW.seq ?_
      refine SW.region ?_
      refine SOps.val (v := .int .i64 x1) rfl (wantN rfl) (fun _ => by kernel_rfl) ?_
      refine SOps.val (v := .bool (decide (x1 < 1))) rfl (wantN rfl) (fun _ => by kernel_rfl) ?_
      refine SOps.val (v := .bool (decide (x1 < 1))) rfl (wantN rfl) (fun _ => by kernel_rfl) ?_
      by_cases c11 : x1 < 1
      · replace h := h.1 c11
        have dc11 : (decide (x1 < 1)) = true := (decide_eq_true c11)
        refine SOps.off rfl (wantX (c := decide (x1 < 1)) rfl rfl rfl dc11) ?_
        refine SOps.off rfl (wantX (c := decide (x1 < 1)) rfl rfl rfl dc11) ?_
        refine SOps.val (v := .bool true) rfl (wantN rfl) (fun w => ev_pickT (v := .bool true) rfl (t := decide (x1 < 1)) rfl dc11 rfl w) ?_
        refine SOps.val (v := .bool true) rfl (wantN rfl) (fun _ => by kernel_rfl) ?_
        refine SOps.nil ?_
        refine SW.cond_t (t := true) rfl rfl ?_
        refine SW.seq ?_
        refine SW.region ?_
        refine SOps.val (v := .string s8) rfl (wantN rfl) (fun _ => by kernel_rfl) ?_
        refine SOps.val (v := .bool (decide (s8 = ByteArray.empty))) rfl (wantN rfl) (fun w => ev_eqS rfl rfl rfl w) ?_
        refine SOps.val (v := .bool (decide (s8 = ByteArray.empty))) rfl (wantN rfl) (fun _ => by kernel_rfl) ?_
        by_cases c12 : s8 = ByteArray.empty
        · replace h := h.1 c12
          have dc12 : (decide (s8 = ByteArray.empty)) = true := (decide_eq_true c12)
          refine SOps.val (v := errV e9) rfl (wantY (c := decide (s8 = ByteArray.empty)) rfl rfl rfl dc12) (fun _ => by kernel_rfl) ?_
          refine SOps.enter rfl (wantY (c := decide (s8 = ByteArray.empty)) rfl rfl rfl dc12) (fun _ => by kernel_rfl) (api_Code.sound F e9 H10 _ h) ?_
          clear h
          rintro v H14 ⟨x13, rfl, h⟩
          refine SOps.val (v := .bool (x13 == 1)) rfl (wantY (c := decide (s8 = ByteArray.empty)) rfl rfl rfl dc12) (fun _ => by kernel_rfl) ?_
          refine SOps.val (v := .bool (x13 == 1)) rfl (wantN rfl) (fun w => ev_pickT (v := .bool (x13 == 1)) rfl (t := decide (s8 = ByteArray.empty)) rfl dc12 rfl w) ?_
          refine SOps.val (v := .bool (x13 == 1)) rfl (wantN rfl) (fun _ => by kernel_rfl) ?_
          by_cases c15 : x13 = 1
          · replace h := h.1 c15
            have dc15 : (x13 == 1) = true := (beq_iff_eq.mpr c15)
            refine SOps.val (v := errV e9) rfl (wantY (c := (x13 == 1)) rfl rfl rfl dc15) (fun _ => by kernel_rfl) ?_
            refine SOps.enter rfl (wantY (c := (x13 == 1)) rfl rfl rfl dc15) (fun _ => by kernel_rfl) (api_Place.sound F e9 H14 _ h) ?_
            clear h
            rintro v H17 ⟨x16, rfl, h⟩
            refine SOps.val (v := .bool (x16 == (-1))) rfl (wantY (c := (x13 == 1)) rfl rfl rfl dc15) (fun _ => by kernel_rfl) ?_
            refine SOps.val (v := .bool (x16 == (-1))) rfl (wantN rfl) (fun w => ev_pickT (v := .bool (x16 == (-1))) rfl (t := (x13 == 1)) rfl dc15 rfl w) ?_
            refine SOps.val (v := .bool (x16 == (-1))) rfl (wantN rfl) (fun _ => by kernel_rfl) ?_
            refine SOps.nil ?_
            obtain ⟨Hr, hr, h⟩ := h
            exact SW.ret (retQ.mk (.bool (x16 == (-1))) (res1 rfl rfl) hr ⟨(x16 == (-1)), rfl, h⟩)
          · replace h := h.2 c15
            have dc15 : (x13 == 1) = false := (beq_eq_false_iff_ne.mpr c15)
            refine SOps.off rfl (wantX (c := (x13 == 1)) rfl rfl rfl dc15) ?_
            refine SOps.off rfl (wantX (c := (x13 == 1)) rfl rfl rfl dc15) ?_
            refine SOps.off rfl (wantX (c := (x13 == 1)) rfl rfl rfl dc15) ?_
            refine SOps.val (v := .bool false) rfl (wantN rfl) (fun w => ev_pickF (v := .bool false) rfl (t := (x13 == 1)) rfl dc15 rfl w) ?_
            refine SOps.val (v := .bool false) rfl (wantN rfl) (fun _ => by kernel_rfl) ?_
            refine SOps.nil ?_
            obtain ⟨Hr, hr, h⟩ := h
            exact SW.ret (retQ.mk (.bool false) (res1 rfl rfl) hr ⟨false, rfl, h⟩)
        · replace h := h.2 c12
          have dc12 : (decide (s8 = ByteArray.empty)) = false := (decide_eq_false c12)
          refine SOps.off rfl (wantX (c := decide (s8 = ByteArray.empty)) rfl rfl rfl dc12) ?_
          refine SOps.off rfl (wantX (c := decide (s8 = ByteArray.empty)) rfl rfl rfl dc12) ?_
          refine SOps.off rfl (wantX (c := decide (s8 = ByteArray.empty)) rfl rfl rfl dc12) ?_
          refine SOps.val (v := .bool false) rfl (wantN rfl) (fun w => ev_pickF (v := .bool false) rfl (t := decide (s8 = ByteArray.empty)) rfl dc12 rfl w) ?_
          refine SOps.val (v := .bool false) rfl (wantN rfl) (fun _ => by kernel_rfl) ?_
          refine SOps.off rfl (wantX (c := false) rfl rfl rfl rfl) ?_
          refine SOps.off rfl (wantX (c := false) rfl rfl rfl rfl) ?_
          refine SOps.off rfl (wantX (c := false) rfl rfl rfl rfl) ?_
          refine SOps.val (v := .bool false) rfl (wantN rfl) (fun w => ev_pickF (v := .bool false) rfl (t := false) rfl rfl rfl w) ?_
          refine SOps.val (v := .bool false) rfl (wantN rfl) (fun _ => by kernel_rfl) ?_
          refine SOps.nil ?_
          obtain ⟨Hr, hr, h⟩ := h
          exact SW.ret (retQ.mk (.bool false) (res1 rfl rfl) hr ⟨false, rfl, h⟩)
      · replace h := h.2 c11
        have dc11 : (decide (x1 < 1)) = false := (decide_eq_false c11)
        refine SOps.val (v := .int .i64 x1) rfl (wantY (c := decide (x1 < 1)) rfl rfl rfl dc11) (fun _ => by kernel_rfl) ?_
        refine SOps.val (v := .bool (decide (x1 > 7))) rfl (wantY (c := decide (x1 < 1)) rfl rfl rfl dc11) (fun _ => by kernel_rfl) ?_
        refine SOps.val (v := .bool (decide (x1 > 7))) rfl (wantN rfl) (fun w => ev_pickF (v := .bool (decide (x1 > 7))) rfl (t := decide (x1 < 1)) rfl dc11 rfl w) ?_
        refine SOps.val (v := .bool (decide (x1 > 7))) rfl (wantN rfl) (fun _ => by kernel_rfl) ?_
        refine SOps.nil ?_
        by_cases c18 : x1 > 7
        · replace h := h.1 c18
          have dc18 : (decide (x1 > 7)) = true := (decide_eq_true c18)
          refine SW.cond_t (t := decide (x1 > 7)) rfl dc18 ?_
          refine SW.seq ?_
          refine SW.region ?_
          refine SOps.val (v := .string s8) rfl (wantN rfl) (fun _ => by kernel_rfl) ?_
          refine SOps.val (v := .bool (decide (s8 = ByteArray.empty))) rfl (wantN rfl) (fun w => ev_eqS rfl rfl rfl w) ?_
          refine SOps.val (v := .bool (decide (s8 = ByteArray.empty))) rfl (wantN rfl) (fun _ => by kernel_rfl) ?_
          by_cases c19 : s8 = ByteArray.empty
          · replace h := h.1 c19
            have dc19 : (decide (s8 = ByteArray.empty)) = true := (decide_eq_true c19)
            refine SOps.val (v := errV e9) rfl (wantY (c := decide (s8 = ByteArray.empty)) rfl rfl rfl dc19) (fun _ => by kernel_rfl) ?_
            refine SOps.enter rfl (wantY (c := decide (s8 = ByteArray.empty)) rfl rfl rfl dc19) (fun _ => by kernel_rfl) (api_Code.sound F e9 H10 _ h) ?_
            clear h
            rintro v H21 ⟨x20, rfl, h⟩
            refine SOps.val (v := .bool (x20 == 1)) rfl (wantY (c := decide (s8 = ByteArray.empty)) rfl rfl rfl dc19) (fun _ => by kernel_rfl) ?_
            refine SOps.val (v := .bool (x20 == 1)) rfl (wantN rfl) (fun w => ev_pickT (v := .bool (x20 == 1)) rfl (t := decide (s8 = ByteArray.empty)) rfl dc19 rfl w) ?_
            refine SOps.val (v := .bool (x20 == 1)) rfl (wantN rfl) (fun _ => by kernel_rfl) ?_
            by_cases c22 : x20 = 1
            · replace h := h.1 c22
              have dc22 : (x20 == 1) = true := (beq_iff_eq.mpr c22)
              refine SOps.val (v := errV e9) rfl (wantY (c := (x20 == 1)) rfl rfl rfl dc22) (fun _ => by kernel_rfl) ?_
              refine SOps.enter rfl (wantY (c := (x20 == 1)) rfl rfl rfl dc22) (fun _ => by kernel_rfl) (api_Place.sound F e9 H21 _ h) ?_
              clear h
              rintro v H24 ⟨x23, rfl, h⟩
              refine SOps.val (v := .bool (x23 == (-1))) rfl (wantY (c := (x20 == 1)) rfl rfl rfl dc22) (fun _ => by kernel_rfl) ?_
              refine SOps.val (v := .bool (x23 == (-1))) rfl (wantN rfl) (fun w => ev_pickT (v := .bool (x23 == (-1))) rfl (t := (x20 == 1)) rfl dc22 rfl w) ?_
              refine SOps.val (v := .bool (x23 == (-1))) rfl (wantN rfl) (fun _ => by kernel_rfl) ?_
              refine SOps.nil ?_
              obtain ⟨Hr, hr, h⟩ := h
              exact SW.ret (retQ.mk (.bool (x23 == (-1))) (res1 rfl rfl) hr ⟨(x23 == (-1)), rfl, h⟩)
            · replace h := h.2 c22
              have dc22 : (x20 == 1) = false := (beq_eq_false_iff_ne.mpr c22)
              refine SOps.off rfl (wantX (c := (x20 == 1)) rfl rfl rfl dc22) ?_
              refine SOps.off rfl (wantX (c := (x20 == 1)) rfl rfl rfl dc22) ?_
              refine SOps.off rfl (wantX (c := (x20 == 1)) rfl rfl rfl dc22) ?_
              refine SOps.val (v := .bool false) rfl (wantN rfl) (fun w => ev_pickF (v := .bool false) rfl (t := (x20 == 1)) rfl dc22 rfl w) ?_
              refine SOps.val (v := .bool false) rfl (wantN rfl) (fun _ => by kernel_rfl) ?_
              refine SOps.nil ?_
              obtain ⟨Hr, hr, h⟩ := h
              exact SW.ret (retQ.mk (.bool false) (res1 rfl rfl) hr ⟨false, rfl, h⟩)
          · replace h := h.2 c19
            have dc19 : (decide (s8 = ByteArray.empty)) = false := (decide_eq_false c19)
            refine SOps.off rfl (wantX (c := decide (s8 = ByteArray.empty)) rfl rfl rfl dc19) ?_
            refine SOps.off rfl (wantX (c := decide (s8 = ByteArray.empty)) rfl rfl rfl dc19) ?_
            refine SOps.off rfl (wantX (c := decide (s8 = ByteArray.empty)) rfl rfl rfl dc19) ?_
            refine SOps.val (v := .bool false) rfl (wantN rfl) (fun w => ev_pickF (v := .bool false) rfl (t := decide (s8 = ByteArray.empty)) rfl dc19 rfl w) ?_
            refine SOps.val (v := .bool false) rfl (wantN rfl) (fun _ => by kernel_rfl) ?_
            refine SOps.off rfl (wantX (c := false) rfl rfl rfl rfl) ?_
            refine SOps.off rfl (wantX (c := false) rfl rfl rfl rfl) ?_
            refine SOps.off rfl (wantX (c := false) rfl rfl rfl rfl) ?_
            refine SOps.val (v := .bool false) rfl (wantN rfl) (fun w => ev_pickF (v := .bool false) rfl (t := false) rfl rfl rfl w) ?_
            refine SOps.val (v := .bool false) rfl (wantN rfl) (fun _ => by kernel_rfl) ?_
            refine SOps.nil ?_
            obtain ⟨Hr, hr, h⟩ := h
            exact SW.ret (retQ.mk (.bool false) (res1 rfl rfl) hr ⟨false, rfl, h⟩)
        · replace h := h.2 c18
          have dc18 : (decide (x1 > 7)) = false := (decide_eq_false c18)
          refine SW.cond_f (t := decide (x1 > 7)) rfl dc18 ?_
          refine SW.seq ?_
          refine SW.region ?_
          refine SOps.val (v := .int .i64 x1) rfl (wantN rfl) (fun _ => by kernel_rfl) ?_
          refine SOps.val (v := .int .i64 x2) rfl (wantN rfl) (fun _ => by kernel_rfl) ?_
          refine SOps.enter rfl (wantN rfl) (fun _ => by kernel_rfl) (ladingref01_Fits.sound F x1 x2 H10 _ h) ?_
          clear h
          rintro v H26 ⟨q25, rfl, h⟩
          refine SOps.val (v := .bool !q25) rfl (wantN rfl) (fun _ => by kernel_rfl) ?_
          refine SOps.val (v := .bool !q25) rfl (wantN rfl) (fun _ => by kernel_rfl) ?_
          refine SOps.nil ?_
          by_cases c27 : q25 = true
          · replace h := h.1 c27
            have dc27 : q25 = true := c27
            refine SW.cond_f (t := !q25) rfl (not_t dc27) ?_
            refine SW.skip ?_
            refine SW.seq ?_
            refine SW.region ?_
            refine SOps.val (v := .string s3) rfl (wantN rfl) (fun _ => by kernel_rfl) ?_
            refine SOps.val (v := .string s8) rfl (wantN rfl) (fun _ => by kernel_rfl) ?_
            obtain ⟨c28, h⟩ := h
            refine SOps.val (v := .string (s3 ++ s8)) rfl (wantN rfl) (fun w => ev_cat rfl rfl rfl c28 w) ?_
            obtain ⟨c29, h⟩ := h
            refine SOps.val (v := .string ((s3 ++ s8) ++ (⟨#[109, 111, 114, 101]⟩ : ByteArray))) rfl (wantN rfl) (fun w => ev_cat rfl rfl rfl c29 w) ?_
            refine SOps.val (v := .string s3) rfl (wantN rfl) (fun _ => by kernel_rfl) ?_
            refine SOps.val (v := .int .i64 (s3.size : Int)) rfl (wantN rfl) (fun _ => by kernel_rfl) ?_
            refine SOps.val (v := .int .i64 x1) rfl (wantN rfl) (fun _ => by kernel_rfl) ?_
            refine SOps.enter rfl (wantN rfl) (fun _ => by kernel_rfl) (octet_Fixed.sound F ((s3 ++ s8) ++ (⟨#[109, 111, 114, 101]⟩ : ByteArray)) (s3.size : Int) x1 H26 _ h) ?_
            clear h
            rintro v H33 ⟨x30, x31, e32, rfl, h⟩
            refine SOps.val (v := .tuple #[.int .i64 x30, .int .i64 x31, errV e32]) rfl (wantN rfl) (fun _ => by kernel_rfl) ?_
            refine SOps.val (v := .int .i64 x30) rfl (wantN rfl) (fun _ => by kernel_rfl) ?_
            refine SOps.val (v := .int .i64 x31) rfl (wantN rfl) (fun _ => by kernel_rfl) ?_
            refine SOps.val (v := errV e32) rfl (wantN rfl) (fun _ => by kernel_rfl) ?_
            refine SOps.val (v := .int .i64 x30) rfl (wantN rfl) (fun _ => by kernel_rfl) ?_
            refine SOps.val (v := .int .i64 x31) rfl (wantN rfl) (fun _ => by kernel_rfl) ?_
            refine SOps.val (v := errV e32) rfl (wantN rfl) (fun _ => by kernel_rfl) ?_
            refine SOps.nil ?_
            refine SW.seq ?_
            refine SW.region ?_
            refine SOps.val (v := .string s8) rfl (wantN rfl) (fun _ => by kernel_rfl) ?_
            refine SOps.val (v := .int .i64 x1) rfl (wantN rfl) (fun _ => by kernel_rfl) ?_
            refine SOps.val (v := .int .i64 x2) rfl (wantN rfl) (fun _ => by kernel_rfl) ?_
            refine SOps.enter rfl (wantN rfl) (fun _ => by kernel_rfl) (ladingref01_Fixed.sound F x1 x2 H33 _ h) ?_
            clear h
            rintro v H35 ⟨s34, rfl, h⟩
            refine SOps.val (v := .bool (decide (s8 = s34))) rfl (wantN rfl) (fun w => ev_eqS rfl rfl rfl w) ?_
            refine SOps.val (v := .bool (decide (s8 = s34))) rfl (wantN rfl) (fun _ => by kernel_rfl) ?_
            by_cases c36 : s8 = s34
            · replace h := h.1 c36
              have dc36 : (decide (s8 = s34)) = true := (decide_eq_true c36)
              refine SOps.val (v := errV e9) rfl (wantY (c := decide (s8 = s34)) rfl rfl rfl dc36) (fun _ => by kernel_rfl) ?_
              rcases e9 with _ | v37
              · replace h := h.1 rfl
                refine SOps.val (v := .bool true) rfl (wantY (c := decide (s8 = s34)) rfl rfl rfl dc36) (fun w => ev_errEq (e := none) rfl Tryd.underlying24 rfl rfl w) ?_
                refine SOps.val (v := .bool true) rfl (wantN rfl) (fun w => ev_pickT (v := .bool true) rfl (t := decide (s8 = s34)) rfl dc36 rfl w) ?_
                refine SOps.val (v := .bool true) rfl (wantN rfl) (fun _ => by kernel_rfl) ?_
                refine SOps.val (v := .int .i64 x30) rfl (wantY (c := true) rfl rfl rfl rfl) (fun _ => by kernel_rfl) ?_
                refine SOps.val (v := .int .i64 x2) rfl (wantY (c := true) rfl rfl rfl rfl) (fun _ => by kernel_rfl) ?_
                refine SOps.val (v := .bool (x30 == x2)) rfl (wantY (c := true) rfl rfl rfl rfl) (fun _ => by kernel_rfl) ?_
                refine SOps.val (v := .bool (x30 == x2)) rfl (wantN rfl) (fun w => ev_pickT (v := .bool (x30 == x2)) rfl (t := true) rfl rfl rfl w) ?_
                refine SOps.val (v := .bool (x30 == x2)) rfl (wantN rfl) (fun _ => by kernel_rfl) ?_
                by_cases c38 : x30 = x2
                · replace h := h.1 c38
                  have dc38 : (x30 == x2) = true := (beq_iff_eq.mpr c38)
                  refine SOps.val (v := .int .i64 x31) rfl (wantY (c := (x30 == x2)) rfl rfl rfl dc38) (fun _ => by kernel_rfl) ?_
                  refine SOps.val (v := .string s3) rfl (wantY (c := (x30 == x2)) rfl rfl rfl dc38) (fun _ => by kernel_rfl) ?_
                  refine SOps.val (v := .int .i64 (s3.size : Int)) rfl (wantY (c := (x30 == x2)) rfl rfl rfl dc38) (fun _ => by kernel_rfl) ?_
                  refine SOps.val (v := .int .i64 x1) rfl (wantY (c := (x30 == x2)) rfl rfl rfl dc38) (fun _ => by kernel_rfl) ?_
                  refine SOps.val (v := .int .i64 (w64 ((s3.size : Int) + x1))) rfl (wantY (c := (x30 == x2)) rfl rfl rfl dc38) (fun _ => by kernel_rfl) ?_
                  refine SOps.val (v := .bool (x31 == (w64 ((s3.size : Int) + x1)))) rfl (wantY (c := (x30 == x2)) rfl rfl rfl dc38) (fun _ => by kernel_rfl) ?_
                  refine SOps.val (v := .bool (x31 == (w64 ((s3.size : Int) + x1)))) rfl (wantN rfl) (fun w => ev_pickT (v := .bool (x31 == (w64 ((s3.size : Int) + x1)))) rfl (t := (x30 == x2)) rfl dc38 rfl w) ?_
                  refine SOps.val (v := .bool (x31 == (w64 ((s3.size : Int) + x1)))) rfl (wantN rfl) (fun _ => by kernel_rfl) ?_
                  by_cases c39 : x31 = (w64 ((s3.size : Int) + x1))
                  · replace h := h.1 c39
                    have dc39 : (x31 == (w64 ((s3.size : Int) + x1))) = true := (beq_iff_eq.mpr c39)
                    refine SOps.val (v := errV e32) rfl (wantY (c := (x31 == (w64 ((s3.size : Int) + x1)))) rfl rfl rfl dc39) (fun _ => by kernel_rfl) ?_
                    rcases e32 with _ | v40
                    · replace h := h.1 rfl
                      refine SOps.val (v := .bool true) rfl (wantY (c := (x31 == (w64 ((s3.size : Int) + x1)))) rfl rfl rfl dc39) (fun w => ev_errEq (e := none) rfl Tryd.underlying24 rfl rfl w) ?_
                      refine SOps.val (v := .bool true) rfl (wantN rfl) (fun w => ev_pickT (v := .bool true) rfl (t := (x31 == (w64 ((s3.size : Int) + x1)))) rfl dc39 rfl w) ?_
                      refine SOps.val (v := .bool true) rfl (wantN rfl) (fun _ => by kernel_rfl) ?_
                      refine SOps.nil ?_
                      obtain ⟨Hr, hr, h⟩ := h
                      exact SW.ret (retQ.mk (.bool true) (res1 rfl rfl) hr ⟨true, rfl, h⟩)
                    · replace h := h.2 v40 rfl
                      refine SOps.val (v := .bool false) rfl (wantY (c := (x31 == (w64 ((s3.size : Int) + x1)))) rfl rfl rfl dc39) (fun w => ev_errEq (e := some v40) rfl Tryd.underlying24 rfl rfl w) ?_
                      refine SOps.val (v := .bool false) rfl (wantN rfl) (fun w => ev_pickT (v := .bool false) rfl (t := (x31 == (w64 ((s3.size : Int) + x1)))) rfl dc39 rfl w) ?_
                      refine SOps.val (v := .bool false) rfl (wantN rfl) (fun _ => by kernel_rfl) ?_
                      refine SOps.nil ?_
                      obtain ⟨Hr, hr, h⟩ := h
                      exact SW.ret (retQ.mk (.bool false) (res1 rfl rfl) hr ⟨false, rfl, h⟩)
                  · replace h := h.2 c39
                    have dc39 : (x31 == (w64 ((s3.size : Int) + x1))) = false := (beq_eq_false_iff_ne.mpr c39)
                    refine SOps.off rfl (wantX (c := (x31 == (w64 ((s3.size : Int) + x1)))) rfl rfl rfl dc39) ?_
                    refine SOps.off rfl (wantX (c := (x31 == (w64 ((s3.size : Int) + x1)))) rfl rfl rfl dc39) ?_
                    refine SOps.val (v := .bool false) rfl (wantN rfl) (fun w => ev_pickF (v := .bool false) rfl (t := (x31 == (w64 ((s3.size : Int) + x1)))) rfl dc39 rfl w) ?_
                    refine SOps.val (v := .bool false) rfl (wantN rfl) (fun _ => by kernel_rfl) ?_
                    refine SOps.nil ?_
                    obtain ⟨Hr, hr, h⟩ := h
                    exact SW.ret (retQ.mk (.bool false) (res1 rfl rfl) hr ⟨false, rfl, h⟩)
                · replace h := h.2 c38
                  have dc38 : (x30 == x2) = false := (beq_eq_false_iff_ne.mpr c38)
                  refine SOps.off rfl (wantX (c := (x30 == x2)) rfl rfl rfl dc38) ?_
                  refine SOps.off rfl (wantX (c := (x30 == x2)) rfl rfl rfl dc38) ?_
                  refine SOps.off rfl (wantX (c := (x30 == x2)) rfl rfl rfl dc38) ?_
                  refine SOps.off rfl (wantX (c := (x30 == x2)) rfl rfl rfl dc38) ?_
                  refine SOps.off rfl (wantX (c := (x30 == x2)) rfl rfl rfl dc38) ?_
                  refine SOps.off rfl (wantX (c := (x30 == x2)) rfl rfl rfl dc38) ?_
                  refine SOps.val (v := .bool false) rfl (wantN rfl) (fun w => ev_pickF (v := .bool false) rfl (t := (x30 == x2)) rfl dc38 rfl w) ?_
                  refine SOps.val (v := .bool false) rfl (wantN rfl) (fun _ => by kernel_rfl) ?_
                  refine SOps.off rfl (wantX (c := false) rfl rfl rfl rfl) ?_
                  refine SOps.off rfl (wantX (c := false) rfl rfl rfl rfl) ?_
                  refine SOps.val (v := .bool false) rfl (wantN rfl) (fun w => ev_pickF (v := .bool false) rfl (t := false) rfl rfl rfl w) ?_
                  refine SOps.val (v := .bool false) rfl (wantN rfl) (fun _ => by kernel_rfl) ?_
                  refine SOps.nil ?_
                  obtain ⟨Hr, hr, h⟩ := h
                  exact SW.ret (retQ.mk (.bool false) (res1 rfl rfl) hr ⟨false, rfl, h⟩)
              · replace h := h.2 v37 rfl
                refine SOps.val (v := .bool false) rfl (wantY (c := decide (s8 = s34)) rfl rfl rfl dc36) (fun w => ev_errEq (e := some v37) rfl Tryd.underlying24 rfl rfl w) ?_
                refine SOps.val (v := .bool false) rfl (wantN rfl) (fun w => ev_pickT (v := .bool false) rfl (t := decide (s8 = s34)) rfl dc36 rfl w) ?_
                refine SOps.val (v := .bool false) rfl (wantN rfl) (fun _ => by kernel_rfl) ?_
                refine SOps.off rfl (wantX (c := false) rfl rfl rfl rfl) ?_
                refine SOps.off rfl (wantX (c := false) rfl rfl rfl rfl) ?_
                refine SOps.off rfl (wantX (c := false) rfl rfl rfl rfl) ?_
                refine SOps.val (v := .bool false) rfl (wantN rfl) (fun w => ev_pickF (v := .bool false) rfl (t := false) rfl rfl rfl w) ?_
                refine SOps.val (v := .bool false) rfl (wantN rfl) (fun _ => by kernel_rfl) ?_
                refine SOps.off rfl (wantX (c := false) rfl rfl rfl rfl) ?_
                refine SOps.off rfl (wantX (c := false) rfl rfl rfl rfl) ?_
                refine SOps.off rfl (wantX (c := false) rfl rfl rfl rfl) ?_
                refine SOps.off rfl (wantX (c := false) rfl rfl rfl rfl) ?_
                refine SOps.off rfl (wantX (c := false) rfl rfl rfl rfl) ?_
                refine SOps.off rfl (wantX (c := false) rfl rfl rfl rfl) ?_
                refine SOps.val (v := .bool false) rfl (wantN rfl) (fun w => ev_pickF (v := .bool false) rfl (t := false) rfl rfl rfl w) ?_
                refine SOps.val (v := .bool false) rfl (wantN rfl) (fun _ => by kernel_rfl) ?_
                refine SOps.off rfl (wantX (c := false) rfl rfl rfl rfl) ?_
                refine SOps.off rfl (wantX (c := false) rfl rfl rfl rfl) ?_
                refine SOps.val (v := .bool false) rfl (wantN rfl) (fun w => ev_pickF (v := .bool false) rfl (t := false) rfl rfl rfl w) ?_
                refine SOps.val (v := .bool false) rfl (wantN rfl) (fun _ => by kernel_rfl) ?_
                refine SOps.nil ?_
                obtain ⟨Hr, hr, h⟩ := h
                exact SW.ret (retQ.mk (.bool false) (res1 rfl rfl) hr ⟨false, rfl, h⟩)
            · replace h := h.2 c36
              have dc36 : (decide (s8 = s34)) = false := (decide_eq_false c36)
              refine SOps.off rfl (wantX (c := decide (s8 = s34)) rfl rfl rfl dc36) ?_
              refine SOps.off rfl (wantX (c := decide (s8 = s34)) rfl rfl rfl dc36) ?_
              refine SOps.val (v := .bool false) rfl (wantN rfl) (fun w => ev_pickF (v := .bool false) rfl (t := decide (s8 = s34)) rfl dc36 rfl w) ?_
              refine SOps.val (v := .bool false) rfl (wantN rfl) (fun _ => by kernel_rfl) ?_
              refine SOps.off rfl (wantX (c := false) rfl rfl rfl rfl) ?_
              refine SOps.off rfl (wantX (c := false) rfl rfl rfl rfl) ?_
              refine SOps.off rfl (wantX (c := false) rfl rfl rfl rfl) ?_
              refine SOps.val (v := .bool false) rfl (wantN rfl) (fun w => ev_pickF (v := .bool false) rfl (t := false) rfl rfl rfl w) ?_
              refine SOps.val (v := .bool false) rfl (wantN rfl) (fun _ => by kernel_rfl) ?_
              refine SOps.off rfl (wantX (c := false) rfl rfl rfl rfl) ?_
              refine SOps.off rfl (wantX (c := false) rfl rfl rfl rfl) ?_
              refine SOps.off rfl (wantX (c := false) rfl rfl rfl rfl) ?_
              refine SOps.off rfl (wantX (c := false) rfl rfl rfl rfl) ?_
              refine SOps.off rfl (wantX (c := false) rfl rfl rfl rfl) ?_
              refine SOps.off rfl (wantX (c := false) rfl rfl rfl rfl) ?_
              refine SOps.val (v := .bool false) rfl (wantN rfl) (fun w => ev_pickF (v := .bool false) rfl (t := false) rfl rfl rfl w) ?_
              refine SOps.val (v := .bool false) rfl (wantN rfl) (fun _ => by kernel_rfl) ?_
              refine SOps.off rfl (wantX (c := false) rfl rfl rfl rfl) ?_
              refine SOps.off rfl (wantX (c := false) rfl rfl rfl rfl) ?_
              refine SOps.val (v := .bool false) rfl (wantN rfl) (fun w => ev_pickF (v := .bool false) rfl (t := false) rfl rfl rfl w) ?_
              refine SOps.val (v := .bool false) rfl (wantN rfl) (fun _ => by kernel_rfl) ?_
              refine SOps.nil ?_
              obtain ⟨Hr, hr, h⟩ := h
              exact SW.ret (retQ.mk (.bool false) (res1 rfl rfl) hr ⟨false, rfl, h⟩)
          · replace h := h.2 c27
            have dc27 : q25 = false := (Bool.eq_false_iff.mpr c27)
            refine SW.cond_t (t := !q25) rfl (not_f dc27) ?_
            refine SW.seq ?_
            refine SW.region ?_
            refine SOps.val (v := .string s8) rfl (wantN rfl) (fun _ => by kernel_rfl) ?_
            refine SOps.val (v := .bool (decide (s8 = ByteArray.empty))) rfl (wantN rfl) (fun w => ev_eqS rfl rfl rfl w) ?_
            refine SOps.val (v := .bool (decide (s8 = ByteArray.empty))) rfl (wantN rfl) (fun _ => by kernel_rfl) ?_
            by_cases c41 : s8 = ByteArray.empty
            · replace h := h.1 c41
              have dc41 : (decide (s8 = ByteArray.empty)) = true := (decide_eq_true c41)
              refine SOps.val (v := errV e9) rfl (wantY (c := decide (s8 = ByteArray.empty)) rfl rfl rfl dc41) (fun _ => by kernel_rfl) ?_
              refine SOps.enter rfl (wantY (c := decide (s8 = ByteArray.empty)) rfl rfl rfl dc41) (fun _ => by kernel_rfl) (api_Code.sound F e9 H26 _ h) ?_
              clear h
              rintro v H43 ⟨x42, rfl, h⟩
              refine SOps.val (v := .bool (x42 == 2)) rfl (wantY (c := decide (s8 = ByteArray.empty)) rfl rfl rfl dc41) (fun _ => by kernel_rfl) ?_
              refine SOps.val (v := .bool (x42 == 2)) rfl (wantN rfl) (fun w => ev_pickT (v := .bool (x42 == 2)) rfl (t := decide (s8 = ByteArray.empty)) rfl dc41 rfl w) ?_
              refine SOps.val (v := .bool (x42 == 2)) rfl (wantN rfl) (fun _ => by kernel_rfl) ?_
              by_cases c44 : x42 = 2
              · replace h := h.1 c44
                have dc44 : (x42 == 2) = true := (beq_iff_eq.mpr c44)
                refine SOps.val (v := errV e9) rfl (wantY (c := (x42 == 2)) rfl rfl rfl dc44) (fun _ => by kernel_rfl) ?_
                refine SOps.enter rfl (wantY (c := (x42 == 2)) rfl rfl rfl dc44) (fun _ => by kernel_rfl) (api_Place.sound F e9 H43 _ h) ?_
                clear h
                rintro v H46 ⟨x45, rfl, h⟩
                refine SOps.val (v := .bool (x45 == (-1))) rfl (wantY (c := (x42 == 2)) rfl rfl rfl dc44) (fun _ => by kernel_rfl) ?_
                refine SOps.val (v := .bool (x45 == (-1))) rfl (wantN rfl) (fun w => ev_pickT (v := .bool (x45 == (-1))) rfl (t := (x42 == 2)) rfl dc44 rfl w) ?_
                refine SOps.val (v := .bool (x45 == (-1))) rfl (wantN rfl) (fun _ => by kernel_rfl) ?_
                refine SOps.nil ?_
                obtain ⟨Hr, hr, h⟩ := h
                exact SW.ret (retQ.mk (.bool (x45 == (-1))) (res1 rfl rfl) hr ⟨(x45 == (-1)), rfl, h⟩)
              · replace h := h.2 c44
                have dc44 : (x42 == 2) = false := (beq_eq_false_iff_ne.mpr c44)
                refine SOps.off rfl (wantX (c := (x42 == 2)) rfl rfl rfl dc44) ?_
                refine SOps.off rfl (wantX (c := (x42 == 2)) rfl rfl rfl dc44) ?_
                refine SOps.off rfl (wantX (c := (x42 == 2)) rfl rfl rfl dc44) ?_
                refine SOps.val (v := .bool false) rfl (wantN rfl) (fun w => ev_pickF (v := .bool false) rfl (t := (x42 == 2)) rfl dc44 rfl w) ?_
                refine SOps.val (v := .bool false) rfl (wantN rfl) (fun _ => by kernel_rfl) ?_
                refine SOps.nil ?_
                obtain ⟨Hr, hr, h⟩ := h
                exact SW.ret (retQ.mk (.bool false) (res1 rfl rfl) hr ⟨false, rfl, h⟩)
            · replace h := h.2 c41
              have dc41 : (decide (s8 = ByteArray.empty)) = false := (decide_eq_false c41)
              refine SOps.off rfl (wantX (c := decide (s8 = ByteArray.empty)) rfl rfl rfl dc41) ?_
              refine SOps.off rfl (wantX (c := decide (s8 = ByteArray.empty)) rfl rfl rfl dc41) ?_
              refine SOps.off rfl (wantX (c := decide (s8 = ByteArray.empty)) rfl rfl rfl dc41) ?_
              refine SOps.val (v := .bool false) rfl (wantN rfl) (fun w => ev_pickF (v := .bool false) rfl (t := decide (s8 = ByteArray.empty)) rfl dc41 rfl w) ?_
              refine SOps.val (v := .bool false) rfl (wantN rfl) (fun _ => by kernel_rfl) ?_
              refine SOps.off rfl (wantX (c := false) rfl rfl rfl rfl) ?_
              refine SOps.off rfl (wantX (c := false) rfl rfl rfl rfl) ?_
              refine SOps.off rfl (wantX (c := false) rfl rfl rfl rfl) ?_
              refine SOps.val (v := .bool false) rfl (wantN rfl) (fun w => ev_pickF (v := .bool false) rfl (t := false) rfl rfl rfl w) ?_
              refine SOps.val (v := .bool false) rfl (wantN rfl) (fun _ => by kernel_rfl) ?_
              refine SOps.nil ?_
              obtain ⟨Hr, hr, h⟩ := h
              exact SW.ret (retQ.mk (.bool false) (res1 rfl rfl) hr ⟨false, rfl, h⟩)
  · replace h := h.2 c6
    have dc6 : q4 = false := (Bool.eq_false_iff.mpr c6)
    refine SW.cond_t (t := !q4) rfl (not_f dc6) ?_
    refine SW.seq ?_
    refine SW.region ?_
    refine SOps.val (v := .bool false) rfl (wantN rfl) (fun _ => by kernel_rfl) ?_
    refine SOps.nil ?_
    obtain ⟨Hr, hr, h⟩ := h
    exact SW.ret (retQ.mk (.bool false) (res1 rfl rfl) hr ⟨false, rfl, h⟩)

/-! ### lading/ladinglaw01.OctetShort: function 4 -/
def ladinglaw01_OctetShort.j1 (F : Nat) (K : Bool → SH → Prop) (x18 : Int) (s19 : ByteArray) (s20 : ByteArray) (e21 : Option EV) (H : SH) : Prop :=
  (x18 < (-36028797018963968) →
    (s20 = ByteArray.empty →
      api_Code.wp F e21 H (fun x42 H43 =>
        (x42 = 2 →
          octet_Turn.wp F x18 H43 (fun x45 H46 =>
            ∃ Hr, SH.le Hr H46 ∧ K (x45 == 0) Hr
          )
        ) ∧ (¬ (x42 = 2) →
          ∃ Hr, SH.le Hr H43 ∧ K false Hr
        )
      )
    ) ∧ (¬ (s20 = ByteArray.empty) →
      ∃ Hr, SH.le Hr H ∧ K false Hr
    )
  ) ∧ (¬ (x18 < (-36028797018963968)) →
    (x18 ≥ 36028797018963968 →
      (s20 = ByteArray.empty →
        api_Code.wp F e21 H (fun x49 H50 =>
          (x49 = 2 →
            octet_Turn.wp F x18 H50 (fun x52 H53 =>
              ∃ Hr, SH.le Hr H53 ∧ K (x52 == 0) Hr
            )
          ) ∧ (¬ (x49 = 2) →
            ∃ Hr, SH.le Hr H50 ∧ K false Hr
          )
        )
      ) ∧ (¬ (s20 = ByteArray.empty) →
        ∃ Hr, SH.le Hr H ∧ K false Hr
      )
    ) ∧ (¬ (x18 ≥ 36028797018963968) →
      s19.size + s20.size ≤ 9223372036854775807 ∧
      (s19 ++ s20).size + (⟨#[120]⟩ : ByteArray).size ≤ 9223372036854775807 ∧
      octet_Turned.wp F ((s19 ++ s20) ++ (⟨#[120]⟩ : ByteArray)) (s19.size : Int) H (fun x56 x57 e58 H59 =>
        ladingref01_Turn.wp F x18 H59 (fun x60 H61 =>
          ladingref01_Short.wp F x60 H61 (fun s62 H63 =>
            (s20 = s62 →
              (e21 = none →
                octet_Turn.wp F x18 H63 (fun x66 H67 =>
                  ladingref01_Turn.wp F x18 H67 (fun x68 H69 =>
                    (x66 = x68 →
                      octet_Turn.wp F x18 H69 (fun x71 H72 =>
                        octet_Back.wp F x71 H72 (fun x73 H74 =>
                          (x73 = x18 →
                            (x56 = x18 →
                              (x57 = (w64 ((s19.size : Int) + (s20.size : Int))) →
                                (e58 = none →
                                  ∃ Hr, SH.le Hr H74 ∧ K true Hr
                                ) ∧ (∀ v78, e58 = some v78 →
                                  ∃ Hr, SH.le Hr H74 ∧ K false Hr
                                )
                              ) ∧ (¬ (x57 = (w64 ((s19.size : Int) + (s20.size : Int)))) →
                                ∃ Hr, SH.le Hr H74 ∧ K false Hr
                              )
                            ) ∧ (¬ (x56 = x18) →
                              ∃ Hr, SH.le Hr H74 ∧ K false Hr
                            )
                          ) ∧ (¬ (x73 = x18) →
                            ∃ Hr, SH.le Hr H74 ∧ K false Hr
                          )
                        )
                      )
                    ) ∧ (¬ (x66 = x68) →
                      ∃ Hr, SH.le Hr H69 ∧ K false Hr
                    )
                  )
                )
              ) ∧ (∀ v65, e21 = some v65 →
                ∃ Hr, SH.le Hr H63 ∧ K false Hr
              )
            ) ∧ (¬ (s20 = s62) →
              ∃ Hr, SH.le Hr H63 ∧ K false Hr
            )
          )
        )
      )
    )
  )
def ladinglaw01_OctetShort.wp (F : Nat) (x1 : Int) (s2 : ByteArray) (H : SH) (K : Bool → SH → Prop) : Prop :=
  ladinglaw01_awake.wp F  H (fun q3 H4 =>
    (q3 = true →
      ((s2.size : Int) > 300 →
        ∃ Hr, SH.le Hr H4 ∧ K true Hr
      ) ∧ (¬ ((s2.size : Int) > 300) →
        octet_PutShort.wp F x1 H4 (fun s7 e8 H9 =>
          octet_PutTurned.wp F x1 H9 (fun s10 e11 H12 =>
            (x1 < 0 →
              ((s7 = ByteArray.empty) →
                api_Code.wp F e8 H12 (fun x15 H16 =>
                  (x15 ≠ 2 →
                    ∃ Hr, SH.le Hr H16 ∧ K false Hr
                  ) ∧ (¬ (x15 ≠ 2) →
                    ladinglaw01_OctetShort.j1 F K x1 s2 s10 e11 H16
                  )
                )
              ) ∧ (¬ ((s7 = ByteArray.empty)) →
                ∃ Hr, SH.le Hr H12 ∧ K false Hr
              )
            ) ∧ (¬ (x1 < 0) →
              (x1 > 72057594037927935 →
                ((s7 = ByteArray.empty) →
                  api_Code.wp F e8 H12 (fun x24 H25 =>
                    (x24 ≠ 2 →
                      ∃ Hr, SH.le Hr H25 ∧ K false Hr
                    ) ∧ (¬ (x24 ≠ 2) →
                      ladinglaw01_OctetShort.j1 F K x1 s2 s10 e11 H25
                    )
                  )
                ) ∧ (¬ ((s7 = ByteArray.empty)) →
                  ∃ Hr, SH.le Hr H12 ∧ K false Hr
                )
              ) ∧ (¬ (x1 > 72057594037927935) →
                s2.size + s7.size ≤ 9223372036854775807 ∧
                (s2 ++ s7).size + (⟨#[120]⟩ : ByteArray).size ≤ 9223372036854775807 ∧
                octet_Short.wp F ((s2 ++ s7) ++ (⟨#[120]⟩ : ByteArray)) (s2.size : Int) H12 (fun x29 x30 e31 H32 =>
                  ladingref01_Short.wp F x1 H32 (fun s33 H34 =>
                    ((s7 = s33) →
                      (e8 = none →
                        (x29 ≠ x1 →
                          ∃ Hr, SH.le Hr H34 ∧ K false Hr
                        ) ∧ (¬ (x29 ≠ x1) →
                          (x30 ≠ (w64 ((s2.size : Int) + (s7.size : Int))) →
                            ∃ Hr, SH.le Hr H34 ∧ K false Hr
                          ) ∧ (¬ (x30 ≠ (w64 ((s2.size : Int) + (s7.size : Int)))) →
                            (e31 = none →
                              ladinglaw01_OctetShort.j1 F K x1 s2 s10 e11 H34
                            ) ∧ (∀ v39, e31 = some v39 →
                              ∃ Hr, SH.le Hr H34 ∧ K false Hr
                            )
                          )
                        )
                      ) ∧ (∀ v36, e8 = some v36 →
                        ∃ Hr, SH.le Hr H34 ∧ K false Hr
                      )
                    ) ∧ (¬ ((s7 = s33)) →
                      ∃ Hr, SH.le Hr H34 ∧ K false Hr
                    )
                  )
                )
              )
            )
          )
        )
      )
    ) ∧ (¬ (q3 = true) →
      ∃ Hr, SH.le Hr H4 ∧ K false Hr
    )
  )
set_option maxHeartbeats 8000000 in
theorem ladinglaw01_OctetShort.sound (F : Nat) (x1 : Int) (s2 : ByteArray) (H : SH) (K : Bool → SH → Prop) (h : ladinglaw01_OctetShort.wp F x1 s2 H K) : SCalls Tryd.prog 4 #[.int .i64 x1, .string s2] H (fun v H' => ∃ (q81 : Bool), v = .bool q81 ∧ K q81 H') := by
  unfold ladinglaw01_OctetShort.wp at h
  refine SCalls.body Tryd.func4 rfl (Nat.le_of_ble_eq_true rfl) ?_
  refine SW.seq ?_
  refine SW.region ?_
  refine SOps.val (v := .bool false) rfl (wantN rfl) (fun _ => by kernel_rfl) ?_
  refine SOps.nil ?_
  refine SW.seq ?_
  refine SW.seq ?_
  refine SW.region ?_
  refine SOps.enter rfl (wantN rfl) (fun _ => by kernel_rfl) (ladinglaw01_awake.sound F  H _ h) ?_
  clear h
  rintro v H4 ⟨q3, rfl, h⟩
  refine SOps.val (v := .bool !q3) rfl (wantN rfl) (fun _ => by kernel_rfl) ?_
  refine SOps.nil ?_
  by_cases c5 : q3 = true
  · replace h := h.1 c5
    have dc5 : q3 = true := c5
    refine SW.cond_f (t := !q3) rfl (not_t dc5) ?_
    refine SW.skip ?_
    refine SW.seq ?_
    refine SW.seq ?_
    refine SW.region ?_
    refine SOps.val (v := .string s2) rfl (wantN rfl) (fun _ => by kernel_rfl) ?_
    refine SOps.val (v := .int .i64 (s2.size : Int)) rfl (wantN rfl) (fun _ => by kernel_rfl) ?_
    refine SOps.val (v := .bool (decide ((s2.size : Int) > 300))) rfl (wantN rfl) (fun _ => by kernel_rfl) ?_
    refine SOps.nil ?_
    by_cases c6 : (s2.size : Int) > 300
    · replace h := h.1 c6
      have dc6 : (decide ((s2.size : Int) > 300)) = true := (decide_eq_true c6)
      refine SW.cond_t (t := decide ((s2.size : Int) > 300)) rfl dc6 ?_
      refine SW.seq ?_
      refine SW.region ?_
      refine SOps.val (v := .bool true) rfl (wantN rfl) (fun _ => by kernel_rfl) ?_
      refine SOps.nil ?_
      obtain ⟨Hr, hr, h⟩ := h
      exact SW.ret (retQ.mk (.bool true) (res1 rfl rfl) hr ⟨true, rfl, h⟩)
    · replace h := h.2 c6
      have dc6 : (decide ((s2.size : Int) > 300)) = false := (decide_eq_false c6)
      refine SW.cond_f (t := decide ((s2.size : Int) > 300)) rfl dc6 ?_
      refine SW.skip ?_
      refine SW.seq ?_
      refine SW.region ?_
      refine SOps.val (v := .int .i64 x1) rfl (wantN rfl) (fun _ => by kernel_rfl) ?_
      refine SOps.enter rfl (wantN rfl) (fun _ => by kernel_rfl) (octet_PutShort.sound F x1 H4 _ h) ?_
      clear h
      rintro v H9 ⟨s7, e8, rfl, h⟩
      refine SOps.val (v := .tuple #[.string s7, errV e8]) rfl (wantN rfl) (fun _ => by kernel_rfl) ?_
      refine SOps.val (v := .string s7) rfl (wantN rfl) (fun _ => by kernel_rfl) ?_
      refine SOps.val (v := errV e8) rfl (wantN rfl) (fun _ => by kernel_rfl) ?_
      refine SOps.val (v := .string s7) rfl (wantN rfl) (fun _ => by kernel_rfl) ?_
      refine SOps.val (v := errV e8) rfl (wantN rfl) (fun _ => by kernel_rfl) ?_
      refine SOps.nil ?_
      refine SW.seq ?_
      refine SW.region ?_
      refine SOps.val (v := .int .i64 x1) rfl (wantN rfl) (fun _ => by kernel_rfl) ?_
      refine SOps.enter rfl (wantN rfl) (fun _ => by kernel_rfl) (octet_PutTurned.sound F x1 H9 _ h) ?_
      clear h
      rintro v H12 ⟨s10, e11, rfl, h⟩
      refine SOps.val (v := .tuple #[.string s10, errV e11]) rfl (wantN rfl) (fun _ => by kernel_rfl) ?_
      refine SOps.val (v := .string s10) rfl (wantN rfl) (fun _ => by kernel_rfl) ?_
      refine SOps.val (v := errV e11) rfl (wantN rfl) (fun _ => by kernel_rfl) ?_
      refine SOps.val (v := .string s10) rfl (wantN rfl) (fun _ => by kernel_rfl) ?_
      refine SOps.val (v := errV e11) rfl (wantN rfl) (fun _ => by kernel_rfl) ?_
      refine SOps.nil ?_
      refine SW.seqJ (fun fr H => ∃ (g : Fr) (x18 : Int) (s19 : ByteArray) (s20 : ByteArray) (e21 : Option EV), fr = g.upds [(0, (.int .i64 x18 : Value)), (1, (.string s19 : Value)), (7, (.string s20 : Value)), (8, errV e21)] ∧ ladinglaw01_OctetShort.j1 F K x18 s19 s20 e21 H) ?_ ?_
      · clear h
        rintro fr H ⟨g, x18, s19, s20, e21, rfl, h⟩
        unfold ladinglaw01_OctetShort.j1 at h
        refine SW.seq ?_
        refine SW.seq ?_
        refine SW.region ?_
        refine SOps.val (v := .int .i64 x18) rfl (wantN rfl) (fun _ => by kernel_rfl) ?_
        refine SOps.val (v := .bool (decide (x18 < (-36028797018963968)))) rfl (wantN rfl) (fun _ => by kernel_rfl) ?_
        refine SOps.val (v := .bool (decide (x18 < (-36028797018963968)))) rfl (wantN rfl) (fun _ => by kernel_rfl) ?_
        by_cases c40 : x18 < (-36028797018963968)
        · replace h := h.1 c40
          have dc40 : (decide (x18 < (-36028797018963968))) = true := (decide_eq_true c40)
          refine SOps.off rfl (wantX (c := decide (x18 < (-36028797018963968))) rfl rfl rfl dc40) ?_
          refine SOps.off rfl (wantX (c := decide (x18 < (-36028797018963968))) rfl rfl rfl dc40) ?_
          refine SOps.val (v := .bool true) rfl (wantN rfl) (fun w => ev_pickT (v := .bool true) rfl (t := decide (x18 < (-36028797018963968))) rfl dc40 rfl w) ?_
          refine SOps.nil ?_
          refine SW.cond_t (t := true) rfl rfl ?_
          refine SW.seq ?_
          refine SW.region ?_
          refine SOps.val (v := .string s20) rfl (wantN rfl) (fun _ => by kernel_rfl) ?_
          refine SOps.val (v := .bool (decide (s20 = ByteArray.empty))) rfl (wantN rfl) (fun w => ev_eqS rfl rfl rfl w) ?_
          refine SOps.val (v := .bool (decide (s20 = ByteArray.empty))) rfl (wantN rfl) (fun _ => by kernel_rfl) ?_
          by_cases c41 : s20 = ByteArray.empty
          · replace h := h.1 c41
            have dc41 : (decide (s20 = ByteArray.empty)) = true := (decide_eq_true c41)
            refine SOps.val (v := errV e21) rfl (wantY (c := decide (s20 = ByteArray.empty)) rfl rfl rfl dc41) (fun _ => by kernel_rfl) ?_
            refine SOps.enter rfl (wantY (c := decide (s20 = ByteArray.empty)) rfl rfl rfl dc41) (fun _ => by kernel_rfl) (api_Code.sound F e21 H _ h) ?_
            clear h
            rintro v H43 ⟨x42, rfl, h⟩
            refine SOps.val (v := .bool (x42 == 2)) rfl (wantY (c := decide (s20 = ByteArray.empty)) rfl rfl rfl dc41) (fun _ => by kernel_rfl) ?_
            refine SOps.val (v := .bool (x42 == 2)) rfl (wantN rfl) (fun w => ev_pickT (v := .bool (x42 == 2)) rfl (t := decide (s20 = ByteArray.empty)) rfl dc41 rfl w) ?_
            refine SOps.val (v := .bool (x42 == 2)) rfl (wantN rfl) (fun _ => by kernel_rfl) ?_
            by_cases c44 : x42 = 2
            · replace h := h.1 c44
              have dc44 : (x42 == 2) = true := (beq_iff_eq.mpr c44)
              refine SOps.val (v := .int .i64 x18) rfl (wantY (c := (x42 == 2)) rfl rfl rfl dc44) (fun _ => by kernel_rfl) ?_
              refine SOps.enter rfl (wantY (c := (x42 == 2)) rfl rfl rfl dc44) (fun _ => by kernel_rfl) (octet_Turn.sound F x18 H43 _ h) ?_
              clear h
              rintro v H46 ⟨x45, rfl, h⟩
              refine SOps.val (v := .bool (x45 == 0)) rfl (wantY (c := (x42 == 2)) rfl rfl rfl dc44) (fun _ => by kernel_rfl) ?_
              refine SOps.val (v := .bool (x45 == 0)) rfl (wantN rfl) (fun w => ev_pickT (v := .bool (x45 == 0)) rfl (t := (x42 == 2)) rfl dc44 rfl w) ?_
              refine SOps.val (v := .bool (x45 == 0)) rfl (wantN rfl) (fun _ => by kernel_rfl) ?_
              refine SOps.nil ?_
              obtain ⟨Hr, hr, h⟩ := h
              exact SW.ret (retQ.mk (.bool (x45 == 0)) (res1 rfl rfl) hr ⟨(x45 == 0), rfl, h⟩)
            · replace h := h.2 c44
              have dc44 : (x42 == 2) = false := (beq_eq_false_iff_ne.mpr c44)
              refine SOps.off rfl (wantX (c := (x42 == 2)) rfl rfl rfl dc44) ?_
              refine SOps.off rfl (wantX (c := (x42 == 2)) rfl rfl rfl dc44) ?_
              refine SOps.off rfl (wantX (c := (x42 == 2)) rfl rfl rfl dc44) ?_
              refine SOps.val (v := .bool false) rfl (wantN rfl) (fun w => ev_pickF (v := .bool false) rfl (t := (x42 == 2)) rfl dc44 rfl w) ?_
              refine SOps.val (v := .bool false) rfl (wantN rfl) (fun _ => by kernel_rfl) ?_
              refine SOps.nil ?_
              obtain ⟨Hr, hr, h⟩ := h
              exact SW.ret (retQ.mk (.bool false) (res1 rfl rfl) hr ⟨false, rfl, h⟩)
          · replace h := h.2 c41
            have dc41 : (decide (s20 = ByteArray.empty)) = false := (decide_eq_false c41)
            refine SOps.off rfl (wantX (c := decide (s20 = ByteArray.empty)) rfl rfl rfl dc41) ?_
            refine SOps.off rfl (wantX (c := decide (s20 = ByteArray.empty)) rfl rfl rfl dc41) ?_
            refine SOps.off rfl (wantX (c := decide (s20 = ByteArray.empty)) rfl rfl rfl dc41) ?_
            refine SOps.val (v := .bool false) rfl (wantN rfl) (fun w => ev_pickF (v := .bool false) rfl (t := decide (s20 = ByteArray.empty)) rfl dc41 rfl w) ?_
            refine SOps.val (v := .bool false) rfl (wantN rfl) (fun _ => by kernel_rfl) ?_
            refine SOps.off rfl (wantX (c := false) rfl rfl rfl rfl) ?_
            refine SOps.off rfl (wantX (c := false) rfl rfl rfl rfl) ?_
            refine SOps.off rfl (wantX (c := false) rfl rfl rfl rfl) ?_
            refine SOps.val (v := .bool false) rfl (wantN rfl) (fun w => ev_pickF (v := .bool false) rfl (t := false) rfl rfl rfl w) ?_
            refine SOps.val (v := .bool false) rfl (wantN rfl) (fun _ => by kernel_rfl) ?_
            refine SOps.nil ?_
            obtain ⟨Hr, hr, h⟩ := h
            exact SW.ret (retQ.mk (.bool false) (res1 rfl rfl) hr ⟨false, rfl, h⟩)
        · replace h := h.2 c40
          have dc40 : (decide (x18 < (-36028797018963968))) = false := (decide_eq_false c40)
          refine SOps.val (v := .int .i64 x18) rfl (wantY (c := decide (x18 < (-36028797018963968))) rfl rfl rfl dc40) (fun _ => by kernel_rfl) ?_
          refine SOps.val (v := .bool (decide (x18 ≥ 36028797018963968))) rfl (wantY (c := decide (x18 < (-36028797018963968))) rfl rfl rfl dc40) (fun _ => by kernel_rfl) ?_
          refine SOps.val (v := .bool (decide (x18 ≥ 36028797018963968))) rfl (wantN rfl) (fun w => ev_pickF (v := .bool (decide (x18 ≥ 36028797018963968))) rfl (t := decide (x18 < (-36028797018963968))) rfl dc40 rfl w) ?_
          refine SOps.nil ?_
          by_cases c47 : x18 ≥ 36028797018963968
          · replace h := h.1 c47
            have dc47 : (decide (x18 ≥ 36028797018963968)) = true := (decide_eq_true c47)
            refine SW.cond_t (t := decide (x18 ≥ 36028797018963968)) rfl dc47 ?_
            refine SW.seq ?_
            refine SW.region ?_
            refine SOps.val (v := .string s20) rfl (wantN rfl) (fun _ => by kernel_rfl) ?_
            refine SOps.val (v := .bool (decide (s20 = ByteArray.empty))) rfl (wantN rfl) (fun w => ev_eqS rfl rfl rfl w) ?_
            refine SOps.val (v := .bool (decide (s20 = ByteArray.empty))) rfl (wantN rfl) (fun _ => by kernel_rfl) ?_
            by_cases c48 : s20 = ByteArray.empty
            · replace h := h.1 c48
              have dc48 : (decide (s20 = ByteArray.empty)) = true := (decide_eq_true c48)
              refine SOps.val (v := errV e21) rfl (wantY (c := decide (s20 = ByteArray.empty)) rfl rfl rfl dc48) (fun _ => by kernel_rfl) ?_
              refine SOps.enter rfl (wantY (c := decide (s20 = ByteArray.empty)) rfl rfl rfl dc48) (fun _ => by kernel_rfl) (api_Code.sound F e21 H _ h) ?_
              clear h
              rintro v H50 ⟨x49, rfl, h⟩
              refine SOps.val (v := .bool (x49 == 2)) rfl (wantY (c := decide (s20 = ByteArray.empty)) rfl rfl rfl dc48) (fun _ => by kernel_rfl) ?_
              refine SOps.val (v := .bool (x49 == 2)) rfl (wantN rfl) (fun w => ev_pickT (v := .bool (x49 == 2)) rfl (t := decide (s20 = ByteArray.empty)) rfl dc48 rfl w) ?_
              refine SOps.val (v := .bool (x49 == 2)) rfl (wantN rfl) (fun _ => by kernel_rfl) ?_
              by_cases c51 : x49 = 2
              · replace h := h.1 c51
                have dc51 : (x49 == 2) = true := (beq_iff_eq.mpr c51)
                refine SOps.val (v := .int .i64 x18) rfl (wantY (c := (x49 == 2)) rfl rfl rfl dc51) (fun _ => by kernel_rfl) ?_
                refine SOps.enter rfl (wantY (c := (x49 == 2)) rfl rfl rfl dc51) (fun _ => by kernel_rfl) (octet_Turn.sound F x18 H50 _ h) ?_
                clear h
                rintro v H53 ⟨x52, rfl, h⟩
                refine SOps.val (v := .bool (x52 == 0)) rfl (wantY (c := (x49 == 2)) rfl rfl rfl dc51) (fun _ => by kernel_rfl) ?_
                refine SOps.val (v := .bool (x52 == 0)) rfl (wantN rfl) (fun w => ev_pickT (v := .bool (x52 == 0)) rfl (t := (x49 == 2)) rfl dc51 rfl w) ?_
                refine SOps.val (v := .bool (x52 == 0)) rfl (wantN rfl) (fun _ => by kernel_rfl) ?_
                refine SOps.nil ?_
                obtain ⟨Hr, hr, h⟩ := h
                exact SW.ret (retQ.mk (.bool (x52 == 0)) (res1 rfl rfl) hr ⟨(x52 == 0), rfl, h⟩)
              · replace h := h.2 c51
                have dc51 : (x49 == 2) = false := (beq_eq_false_iff_ne.mpr c51)
                refine SOps.off rfl (wantX (c := (x49 == 2)) rfl rfl rfl dc51) ?_
                refine SOps.off rfl (wantX (c := (x49 == 2)) rfl rfl rfl dc51) ?_
                refine SOps.off rfl (wantX (c := (x49 == 2)) rfl rfl rfl dc51) ?_
                refine SOps.val (v := .bool false) rfl (wantN rfl) (fun w => ev_pickF (v := .bool false) rfl (t := (x49 == 2)) rfl dc51 rfl w) ?_
                refine SOps.val (v := .bool false) rfl (wantN rfl) (fun _ => by kernel_rfl) ?_
                refine SOps.nil ?_
                obtain ⟨Hr, hr, h⟩ := h
                exact SW.ret (retQ.mk (.bool false) (res1 rfl rfl) hr ⟨false, rfl, h⟩)
            · replace h := h.2 c48
              have dc48 : (decide (s20 = ByteArray.empty)) = false := (decide_eq_false c48)
              refine SOps.off rfl (wantX (c := decide (s20 = ByteArray.empty)) rfl rfl rfl dc48) ?_
              refine SOps.off rfl (wantX (c := decide (s20 = ByteArray.empty)) rfl rfl rfl dc48) ?_
              refine SOps.off rfl (wantX (c := decide (s20 = ByteArray.empty)) rfl rfl rfl dc48) ?_
              refine SOps.val (v := .bool false) rfl (wantN rfl) (fun w => ev_pickF (v := .bool false) rfl (t := decide (s20 = ByteArray.empty)) rfl dc48 rfl w) ?_
              refine SOps.val (v := .bool false) rfl (wantN rfl) (fun _ => by kernel_rfl) ?_
              refine SOps.off rfl (wantX (c := false) rfl rfl rfl rfl) ?_
              refine SOps.off rfl (wantX (c := false) rfl rfl rfl rfl) ?_
              refine SOps.off rfl (wantX (c := false) rfl rfl rfl rfl) ?_
              refine SOps.val (v := .bool false) rfl (wantN rfl) (fun w => ev_pickF (v := .bool false) rfl (t := false) rfl rfl rfl w) ?_
              refine SOps.val (v := .bool false) rfl (wantN rfl) (fun _ => by kernel_rfl) ?_
              refine SOps.nil ?_
              obtain ⟨Hr, hr, h⟩ := h
              exact SW.ret (retQ.mk (.bool false) (res1 rfl rfl) hr ⟨false, rfl, h⟩)
          · replace h := h.2 c47
            have dc47 : (decide (x18 ≥ 36028797018963968)) = false := (decide_eq_false c47)
            refine SW.cond_f (t := decide (x18 ≥ 36028797018963968)) rfl dc47 ?_
            refine SW.skip ?_
            refine SW.seq ?_
            refine SW.region ?_
            refine SOps.val (v := .string s19) rfl (wantN rfl) (fun _ => by kernel_rfl) ?_
            refine SOps.val (v := .string s20) rfl (wantN rfl) (fun _ => by kernel_rfl) ?_
            obtain ⟨c54, h⟩ := h
            refine SOps.val (v := .string (s19 ++ s20)) rfl (wantN rfl) (fun w => ev_cat rfl rfl rfl c54 w) ?_
            obtain ⟨c55, h⟩ := h
            refine SOps.val (v := .string ((s19 ++ s20) ++ (⟨#[120]⟩ : ByteArray))) rfl (wantN rfl) (fun w => ev_cat rfl rfl rfl c55 w) ?_
            refine SOps.val (v := .string s19) rfl (wantN rfl) (fun _ => by kernel_rfl) ?_
            refine SOps.val (v := .int .i64 (s19.size : Int)) rfl (wantN rfl) (fun _ => by kernel_rfl) ?_
            refine SOps.enter rfl (wantN rfl) (fun _ => by kernel_rfl) (octet_Turned.sound F ((s19 ++ s20) ++ (⟨#[120]⟩ : ByteArray)) (s19.size : Int) H _ h) ?_
            clear h
            rintro v H59 ⟨x56, x57, e58, rfl, h⟩
            refine SOps.val (v := .tuple #[.int .i64 x56, .int .i64 x57, errV e58]) rfl (wantN rfl) (fun _ => by kernel_rfl) ?_
            refine SOps.val (v := .int .i64 x56) rfl (wantN rfl) (fun _ => by kernel_rfl) ?_
            refine SOps.val (v := .int .i64 x57) rfl (wantN rfl) (fun _ => by kernel_rfl) ?_
            refine SOps.val (v := errV e58) rfl (wantN rfl) (fun _ => by kernel_rfl) ?_
            refine SOps.val (v := .int .i64 x56) rfl (wantN rfl) (fun _ => by kernel_rfl) ?_
            refine SOps.val (v := .int .i64 x57) rfl (wantN rfl) (fun _ => by kernel_rfl) ?_
            refine SOps.val (v := errV e58) rfl (wantN rfl) (fun _ => by kernel_rfl) ?_
            refine SOps.nil ?_
            refine SW.seq ?_
            refine SW.region ?_
            refine SOps.val (v := .string s20) rfl (wantN rfl) (fun _ => by kernel_rfl) ?_
            refine SOps.val (v := .int .i64 x18) rfl (wantN rfl) (fun _ => by kernel_rfl) ?_
            refine SOps.enter rfl (wantN rfl) (fun _ => by kernel_rfl) (ladingref01_Turn.sound F x18 H59 _ h) ?_
            clear h
            rintro v H61 ⟨x60, rfl, h⟩
            refine SOps.enter rfl (wantN rfl) (fun _ => by kernel_rfl) (ladingref01_Short.sound F x60 H61 _ h) ?_
            clear h
            rintro v H63 ⟨s62, rfl, h⟩
            refine SOps.val (v := .bool (decide (s20 = s62))) rfl (wantN rfl) (fun w => ev_eqS rfl rfl rfl w) ?_
            refine SOps.val (v := .bool (decide (s20 = s62))) rfl (wantN rfl) (fun _ => by kernel_rfl) ?_
            by_cases c64 : s20 = s62
            · replace h := h.1 c64
              have dc64 : (decide (s20 = s62)) = true := (decide_eq_true c64)
              refine SOps.val (v := errV e21) rfl (wantY (c := decide (s20 = s62)) rfl rfl rfl dc64) (fun _ => by kernel_rfl) ?_
              rcases e21 with _ | v65
              · replace h := h.1 rfl
                refine SOps.val (v := .bool true) rfl (wantY (c := decide (s20 = s62)) rfl rfl rfl dc64) (fun w => ev_errEq (e := none) rfl Tryd.underlying24 rfl rfl w) ?_
                refine SOps.val (v := .bool true) rfl (wantN rfl) (fun w => ev_pickT (v := .bool true) rfl (t := decide (s20 = s62)) rfl dc64 rfl w) ?_
                refine SOps.val (v := .bool true) rfl (wantN rfl) (fun _ => by kernel_rfl) ?_
                refine SOps.val (v := .int .i64 x18) rfl (wantY (c := true) rfl rfl rfl rfl) (fun _ => by kernel_rfl) ?_
                refine SOps.enter rfl (wantY (c := true) rfl rfl rfl rfl) (fun _ => by kernel_rfl) (octet_Turn.sound F x18 H63 _ h) ?_
                clear h
                rintro v H67 ⟨x66, rfl, h⟩
                refine SOps.val (v := .int .i64 x18) rfl (wantY (c := true) rfl rfl rfl rfl) (fun _ => by kernel_rfl) ?_
                refine SOps.enter rfl (wantY (c := true) rfl rfl rfl rfl) (fun _ => by kernel_rfl) (ladingref01_Turn.sound F x18 H67 _ h) ?_
                clear h
                rintro v H69 ⟨x68, rfl, h⟩
                refine SOps.val (v := .bool (x66 == x68)) rfl (wantY (c := true) rfl rfl rfl rfl) (fun _ => by kernel_rfl) ?_
                refine SOps.val (v := .bool (x66 == x68)) rfl (wantN rfl) (fun w => ev_pickT (v := .bool (x66 == x68)) rfl (t := true) rfl rfl rfl w) ?_
                refine SOps.val (v := .bool (x66 == x68)) rfl (wantN rfl) (fun _ => by kernel_rfl) ?_
                by_cases c70 : x66 = x68
                · replace h := h.1 c70
                  have dc70 : (x66 == x68) = true := (beq_iff_eq.mpr c70)
                  refine SOps.val (v := .int .i64 x18) rfl (wantY (c := (x66 == x68)) rfl rfl rfl dc70) (fun _ => by kernel_rfl) ?_
                  refine SOps.enter rfl (wantY (c := (x66 == x68)) rfl rfl rfl dc70) (fun _ => by kernel_rfl) (octet_Turn.sound F x18 H69 _ h) ?_
                  clear h
                  rintro v H72 ⟨x71, rfl, h⟩
                  refine SOps.enter rfl (wantY (c := (x66 == x68)) rfl rfl rfl dc70) (fun _ => by kernel_rfl) (octet_Back.sound F x71 H72 _ h) ?_
                  clear h
                  rintro v H74 ⟨x73, rfl, h⟩
                  refine SOps.val (v := .int .i64 x18) rfl (wantY (c := (x66 == x68)) rfl rfl rfl dc70) (fun _ => by kernel_rfl) ?_
                  refine SOps.val (v := .bool (x73 == x18)) rfl (wantY (c := (x66 == x68)) rfl rfl rfl dc70) (fun _ => by kernel_rfl) ?_
                  refine SOps.val (v := .bool (x73 == x18)) rfl (wantN rfl) (fun w => ev_pickT (v := .bool (x73 == x18)) rfl (t := (x66 == x68)) rfl dc70 rfl w) ?_
                  refine SOps.val (v := .bool (x73 == x18)) rfl (wantN rfl) (fun _ => by kernel_rfl) ?_
                  by_cases c75 : x73 = x18
                  · replace h := h.1 c75
                    have dc75 : (x73 == x18) = true := (beq_iff_eq.mpr c75)
                    refine SOps.val (v := .int .i64 x56) rfl (wantY (c := (x73 == x18)) rfl rfl rfl dc75) (fun _ => by kernel_rfl) ?_
                    refine SOps.val (v := .int .i64 x18) rfl (wantY (c := (x73 == x18)) rfl rfl rfl dc75) (fun _ => by kernel_rfl) ?_
                    refine SOps.val (v := .bool (x56 == x18)) rfl (wantY (c := (x73 == x18)) rfl rfl rfl dc75) (fun _ => by kernel_rfl) ?_
                    refine SOps.val (v := .bool (x56 == x18)) rfl (wantN rfl) (fun w => ev_pickT (v := .bool (x56 == x18)) rfl (t := (x73 == x18)) rfl dc75 rfl w) ?_
                    refine SOps.val (v := .bool (x56 == x18)) rfl (wantN rfl) (fun _ => by kernel_rfl) ?_
                    by_cases c76 : x56 = x18
                    · replace h := h.1 c76
                      have dc76 : (x56 == x18) = true := (beq_iff_eq.mpr c76)
                      refine SOps.val (v := .int .i64 x57) rfl (wantY (c := (x56 == x18)) rfl rfl rfl dc76) (fun _ => by kernel_rfl) ?_
                      refine SOps.val (v := .string s19) rfl (wantY (c := (x56 == x18)) rfl rfl rfl dc76) (fun _ => by kernel_rfl) ?_
                      refine SOps.val (v := .int .i64 (s19.size : Int)) rfl (wantY (c := (x56 == x18)) rfl rfl rfl dc76) (fun _ => by kernel_rfl) ?_
                      refine SOps.val (v := .string s20) rfl (wantY (c := (x56 == x18)) rfl rfl rfl dc76) (fun _ => by kernel_rfl) ?_
                      refine SOps.val (v := .int .i64 (s20.size : Int)) rfl (wantY (c := (x56 == x18)) rfl rfl rfl dc76) (fun _ => by kernel_rfl) ?_
                      refine SOps.val (v := .int .i64 (w64 ((s19.size : Int) + (s20.size : Int)))) rfl (wantY (c := (x56 == x18)) rfl rfl rfl dc76) (fun _ => by kernel_rfl) ?_
                      refine SOps.val (v := .bool (x57 == (w64 ((s19.size : Int) + (s20.size : Int))))) rfl (wantY (c := (x56 == x18)) rfl rfl rfl dc76) (fun _ => by kernel_rfl) ?_
                      refine SOps.val (v := .bool (x57 == (w64 ((s19.size : Int) + (s20.size : Int))))) rfl (wantN rfl) (fun w => ev_pickT (v := .bool (x57 == (w64 ((s19.size : Int) + (s20.size : Int))))) rfl (t := (x56 == x18)) rfl dc76 rfl w) ?_
                      refine SOps.val (v := .bool (x57 == (w64 ((s19.size : Int) + (s20.size : Int))))) rfl (wantN rfl) (fun _ => by kernel_rfl) ?_
                      by_cases c77 : x57 = (w64 ((s19.size : Int) + (s20.size : Int)))
                      · replace h := h.1 c77
                        have dc77 : (x57 == (w64 ((s19.size : Int) + (s20.size : Int)))) = true := (beq_iff_eq.mpr c77)
                        refine SOps.val (v := errV e58) rfl (wantY (c := (x57 == (w64 ((s19.size : Int) + (s20.size : Int))))) rfl rfl rfl dc77) (fun _ => by kernel_rfl) ?_
                        rcases e58 with _ | v78
                        · replace h := h.1 rfl
                          refine SOps.val (v := .bool true) rfl (wantY (c := (x57 == (w64 ((s19.size : Int) + (s20.size : Int))))) rfl rfl rfl dc77) (fun w => ev_errEq (e := none) rfl Tryd.underlying24 rfl rfl w) ?_
                          refine SOps.val (v := .bool true) rfl (wantN rfl) (fun w => ev_pickT (v := .bool true) rfl (t := (x57 == (w64 ((s19.size : Int) + (s20.size : Int))))) rfl dc77 rfl w) ?_
                          refine SOps.val (v := .bool true) rfl (wantN rfl) (fun _ => by kernel_rfl) ?_
                          refine SOps.nil ?_
                          obtain ⟨Hr, hr, h⟩ := h
                          exact SW.ret (retQ.mk (.bool true) (res1 rfl rfl) hr ⟨true, rfl, h⟩)
                        · replace h := h.2 v78 rfl
                          refine SOps.val (v := .bool false) rfl (wantY (c := (x57 == (w64 ((s19.size : Int) + (s20.size : Int))))) rfl rfl rfl dc77) (fun w => ev_errEq (e := some v78) rfl Tryd.underlying24 rfl rfl w) ?_
                          refine SOps.val (v := .bool false) rfl (wantN rfl) (fun w => ev_pickT (v := .bool false) rfl (t := (x57 == (w64 ((s19.size : Int) + (s20.size : Int))))) rfl dc77 rfl w) ?_
                          refine SOps.val (v := .bool false) rfl (wantN rfl) (fun _ => by kernel_rfl) ?_
                          refine SOps.nil ?_
                          obtain ⟨Hr, hr, h⟩ := h
                          exact SW.ret (retQ.mk (.bool false) (res1 rfl rfl) hr ⟨false, rfl, h⟩)
                      · replace h := h.2 c77
                        have dc77 : (x57 == (w64 ((s19.size : Int) + (s20.size : Int)))) = false := (beq_eq_false_iff_ne.mpr c77)
                        refine SOps.off rfl (wantX (c := (x57 == (w64 ((s19.size : Int) + (s20.size : Int))))) rfl rfl rfl dc77) ?_
                        refine SOps.off rfl (wantX (c := (x57 == (w64 ((s19.size : Int) + (s20.size : Int))))) rfl rfl rfl dc77) ?_
                        refine SOps.val (v := .bool false) rfl (wantN rfl) (fun w => ev_pickF (v := .bool false) rfl (t := (x57 == (w64 ((s19.size : Int) + (s20.size : Int))))) rfl dc77 rfl w) ?_
                        refine SOps.val (v := .bool false) rfl (wantN rfl) (fun _ => by kernel_rfl) ?_
                        refine SOps.nil ?_
                        obtain ⟨Hr, hr, h⟩ := h
                        exact SW.ret (retQ.mk (.bool false) (res1 rfl rfl) hr ⟨false, rfl, h⟩)
                    · replace h := h.2 c76
                      have dc76 : (x56 == x18) = false := (beq_eq_false_iff_ne.mpr c76)
                      refine SOps.off rfl (wantX (c := (x56 == x18)) rfl rfl rfl dc76) ?_
                      refine SOps.off rfl (wantX (c := (x56 == x18)) rfl rfl rfl dc76) ?_
                      refine SOps.off rfl (wantX (c := (x56 == x18)) rfl rfl rfl dc76) ?_
                      refine SOps.off rfl (wantX (c := (x56 == x18)) rfl rfl rfl dc76) ?_
                      refine SOps.off rfl (wantX (c := (x56 == x18)) rfl rfl rfl dc76) ?_
                      refine SOps.off rfl (wantX (c := (x56 == x18)) rfl rfl rfl dc76) ?_
                      refine SOps.off rfl (wantX (c := (x56 == x18)) rfl rfl rfl dc76) ?_
                      refine SOps.val (v := .bool false) rfl (wantN rfl) (fun w => ev_pickF (v := .bool false) rfl (t := (x56 == x18)) rfl dc76 rfl w) ?_
                      refine SOps.val (v := .bool false) rfl (wantN rfl) (fun _ => by kernel_rfl) ?_
                      refine SOps.off rfl (wantX (c := false) rfl rfl rfl rfl) ?_
                      refine SOps.off rfl (wantX (c := false) rfl rfl rfl rfl) ?_
                      refine SOps.val (v := .bool false) rfl (wantN rfl) (fun w => ev_pickF (v := .bool false) rfl (t := false) rfl rfl rfl w) ?_
                      refine SOps.val (v := .bool false) rfl (wantN rfl) (fun _ => by kernel_rfl) ?_
                      refine SOps.nil ?_
                      obtain ⟨Hr, hr, h⟩ := h
                      exact SW.ret (retQ.mk (.bool false) (res1 rfl rfl) hr ⟨false, rfl, h⟩)
                  · replace h := h.2 c75
                    have dc75 : (x73 == x18) = false := (beq_eq_false_iff_ne.mpr c75)
                    refine SOps.off rfl (wantX (c := (x73 == x18)) rfl rfl rfl dc75) ?_
                    refine SOps.off rfl (wantX (c := (x73 == x18)) rfl rfl rfl dc75) ?_
                    refine SOps.off rfl (wantX (c := (x73 == x18)) rfl rfl rfl dc75) ?_
                    refine SOps.val (v := .bool false) rfl (wantN rfl) (fun w => ev_pickF (v := .bool false) rfl (t := (x73 == x18)) rfl dc75 rfl w) ?_
                    refine SOps.val (v := .bool false) rfl (wantN rfl) (fun _ => by kernel_rfl) ?_
                    refine SOps.off rfl (wantX (c := false) rfl rfl rfl rfl) ?_
                    refine SOps.off rfl (wantX (c := false) rfl rfl rfl rfl) ?_
                    refine SOps.off rfl (wantX (c := false) rfl rfl rfl rfl) ?_
                    refine SOps.off rfl (wantX (c := false) rfl rfl rfl rfl) ?_
                    refine SOps.off rfl (wantX (c := false) rfl rfl rfl rfl) ?_
                    refine SOps.off rfl (wantX (c := false) rfl rfl rfl rfl) ?_
                    refine SOps.off rfl (wantX (c := false) rfl rfl rfl rfl) ?_
                    refine SOps.val (v := .bool false) rfl (wantN rfl) (fun w => ev_pickF (v := .bool false) rfl (t := false) rfl rfl rfl w) ?_
                    refine SOps.val (v := .bool false) rfl (wantN rfl) (fun _ => by kernel_rfl) ?_
                    refine SOps.off rfl (wantX (c := false) rfl rfl rfl rfl) ?_
                    refine SOps.off rfl (wantX (c := false) rfl rfl rfl rfl) ?_
                    refine SOps.val (v := .bool false) rfl (wantN rfl) (fun w => ev_pickF (v := .bool false) rfl (t := false) rfl rfl rfl w) ?_
                    refine SOps.val (v := .bool false) rfl (wantN rfl) (fun _ => by kernel_rfl) ?_
                    refine SOps.nil ?_
                    obtain ⟨Hr, hr, h⟩ := h
                    exact SW.ret (retQ.mk (.bool false) (res1 rfl rfl) hr ⟨false, rfl, h⟩)
                · replace h := h.2 c70
                  have dc70 : (x66 == x68) = false := (beq_eq_false_iff_ne.mpr c70)
                  refine SOps.off rfl (wantX (c := (x66 == x68)) rfl rfl rfl dc70) ?_
                  refine SOps.off rfl (wantX (c := (x66 == x68)) rfl rfl rfl dc70) ?_
                  refine SOps.off rfl (wantX (c := (x66 == x68)) rfl rfl rfl dc70) ?_
                  refine SOps.off rfl (wantX (c := (x66 == x68)) rfl rfl rfl dc70) ?_
                  refine SOps.off rfl (wantX (c := (x66 == x68)) rfl rfl rfl dc70) ?_
                  refine SOps.val (v := .bool false) rfl (wantN rfl) (fun w => ev_pickF (v := .bool false) rfl (t := (x66 == x68)) rfl dc70 rfl w) ?_
                  refine SOps.val (v := .bool false) rfl (wantN rfl) (fun _ => by kernel_rfl) ?_
                  refine SOps.off rfl (wantX (c := false) rfl rfl rfl rfl) ?_
                  refine SOps.off rfl (wantX (c := false) rfl rfl rfl rfl) ?_
                  refine SOps.off rfl (wantX (c := false) rfl rfl rfl rfl) ?_
                  refine SOps.val (v := .bool false) rfl (wantN rfl) (fun w => ev_pickF (v := .bool false) rfl (t := false) rfl rfl rfl w) ?_
                  refine SOps.val (v := .bool false) rfl (wantN rfl) (fun _ => by kernel_rfl) ?_
                  refine SOps.off rfl (wantX (c := false) rfl rfl rfl rfl) ?_
                  refine SOps.off rfl (wantX (c := false) rfl rfl rfl rfl) ?_
                  refine SOps.off rfl (wantX (c := false) rfl rfl rfl rfl) ?_
                  refine SOps.off rfl (wantX (c := false) rfl rfl rfl rfl) ?_
                  refine SOps.off rfl (wantX (c := false) rfl rfl rfl rfl) ?_
                  refine SOps.off rfl (wantX (c := false) rfl rfl rfl rfl) ?_
                  refine SOps.off rfl (wantX (c := false) rfl rfl rfl rfl) ?_
                  refine SOps.val (v := .bool false) rfl (wantN rfl) (fun w => ev_pickF (v := .bool false) rfl (t := false) rfl rfl rfl w) ?_
                  refine SOps.val (v := .bool false) rfl (wantN rfl) (fun _ => by kernel_rfl) ?_
                  refine SOps.off rfl (wantX (c := false) rfl rfl rfl rfl) ?_
                  refine SOps.off rfl (wantX (c := false) rfl rfl rfl rfl) ?_
                  refine SOps.val (v := .bool false) rfl (wantN rfl) (fun w => ev_pickF (v := .bool false) rfl (t := false) rfl rfl rfl w) ?_
                  refine SOps.val (v := .bool false) rfl (wantN rfl) (fun _ => by kernel_rfl) ?_
                  refine SOps.nil ?_
                  obtain ⟨Hr, hr, h⟩ := h
                  exact SW.ret (retQ.mk (.bool false) (res1 rfl rfl) hr ⟨false, rfl, h⟩)
              · replace h := h.2 v65 rfl
                refine SOps.val (v := .bool false) rfl (wantY (c := decide (s20 = s62)) rfl rfl rfl dc64) (fun w => ev_errEq (e := some v65) rfl Tryd.underlying24 rfl rfl w) ?_
                refine SOps.val (v := .bool false) rfl (wantN rfl) (fun w => ev_pickT (v := .bool false) rfl (t := decide (s20 = s62)) rfl dc64 rfl w) ?_
                refine SOps.val (v := .bool false) rfl (wantN rfl) (fun _ => by kernel_rfl) ?_
                refine SOps.off rfl (wantX (c := false) rfl rfl rfl rfl) ?_
                refine SOps.off rfl (wantX (c := false) rfl rfl rfl rfl) ?_
                refine SOps.off rfl (wantX (c := false) rfl rfl rfl rfl) ?_
                refine SOps.off rfl (wantX (c := false) rfl rfl rfl rfl) ?_
                refine SOps.off rfl (wantX (c := false) rfl rfl rfl rfl) ?_
                refine SOps.val (v := .bool false) rfl (wantN rfl) (fun w => ev_pickF (v := .bool false) rfl (t := false) rfl rfl rfl w) ?_
                refine SOps.val (v := .bool false) rfl (wantN rfl) (fun _ => by kernel_rfl) ?_
                refine SOps.off rfl (wantX (c := false) rfl rfl rfl rfl) ?_
                refine SOps.off rfl (wantX (c := false) rfl rfl rfl rfl) ?_
                refine SOps.off rfl (wantX (c := false) rfl rfl rfl rfl) ?_
                refine SOps.off rfl (wantX (c := false) rfl rfl rfl rfl) ?_
                refine SOps.off rfl (wantX (c := false) rfl rfl rfl rfl) ?_
                refine SOps.val (v := .bool false) rfl (wantN rfl) (fun w => ev_pickF (v := .bool false) rfl (t := false) rfl rfl rfl w) ?_
                refine SOps.val (v := .bool false) rfl (wantN rfl) (fun _ => by kernel_rfl) ?_
                refine SOps.off rfl (wantX (c := false) rfl rfl rfl rfl) ?_
                refine SOps.off rfl (wantX (c := false) rfl rfl rfl rfl) ?_
                refine SOps.off rfl (wantX (c := false) rfl rfl rfl rfl) ?_
                refine SOps.val (v := .bool false) rfl (wantN rfl) (fun w => ev_pickF (v := .bool false) rfl (t := false) rfl rfl rfl w) ?_
                refine SOps.val (v := .bool false) rfl (wantN rfl) (fun _ => by kernel_rfl) ?_
                refine SOps.off rfl (wantX (c := false) rfl rfl rfl rfl) ?_
                refine SOps.off rfl (wantX (c := false) rfl rfl rfl rfl) ?_
                refine SOps.off rfl (wantX (c := false) rfl rfl rfl rfl) ?_
                refine SOps.off rfl (wantX (c := false) rfl rfl rfl rfl) ?_
                refine SOps.off rfl (wantX (c := false) rfl rfl rfl rfl) ?_
                refine SOps.off rfl (wantX (c := false) rfl rfl rfl rfl) ?_
                refine SOps.off rfl (wantX (c := false) rfl rfl rfl rfl) ?_
                refine SOps.val (v := .bool false) rfl (wantN rfl) (fun w => ev_pickF (v := .bool false) rfl (t := false) rfl rfl rfl w) ?_
                refine SOps.val (v := .bool false) rfl (wantN rfl) (fun _ => by kernel_rfl) ?_
                refine SOps.off rfl (wantX (c := false) rfl rfl rfl rfl) ?_
                refine SOps.off rfl (wantX (c := false) rfl rfl rfl rfl) ?_
                refine SOps.val (v := .bool false) rfl (wantN rfl) (fun w => ev_pickF (v := .bool false) rfl (t := false) rfl rfl rfl w) ?_
                refine SOps.val (v := .bool false) rfl (wantN rfl) (fun _ => by kernel_rfl) ?_
                refine SOps.nil ?_
                obtain ⟨Hr, hr, h⟩ := h
                exact SW.ret (retQ.mk (.bool false) (res1 rfl rfl) hr ⟨false, rfl, h⟩)
            · replace h := h.2 c64
              have dc64 : (decide (s20 = s62)) = false := (decide_eq_false c64)
              refine SOps.off rfl (wantX (c := decide (s20 = s62)) rfl rfl rfl dc64) ?_
              refine SOps.off rfl (wantX (c := decide (s20 = s62)) rfl rfl rfl dc64) ?_
              refine SOps.val (v := .bool false) rfl (wantN rfl) (fun w => ev_pickF (v := .bool false) rfl (t := decide (s20 = s62)) rfl dc64 rfl w) ?_
              refine SOps.val (v := .bool false) rfl (wantN rfl) (fun _ => by kernel_rfl) ?_
              refine SOps.off rfl (wantX (c := false) rfl rfl rfl rfl) ?_
              refine SOps.off rfl (wantX (c := false) rfl rfl rfl rfl) ?_
              refine SOps.off rfl (wantX (c := false) rfl rfl rfl rfl) ?_
              refine SOps.off rfl (wantX (c := false) rfl rfl rfl rfl) ?_
              refine SOps.off rfl (wantX (c := false) rfl rfl rfl rfl) ?_
              refine SOps.val (v := .bool false) rfl (wantN rfl) (fun w => ev_pickF (v := .bool false) rfl (t := false) rfl rfl rfl w) ?_
              refine SOps.val (v := .bool false) rfl (wantN rfl) (fun _ => by kernel_rfl) ?_
              refine SOps.off rfl (wantX (c := false) rfl rfl rfl rfl) ?_
              refine SOps.off rfl (wantX (c := false) rfl rfl rfl rfl) ?_
              refine SOps.off rfl (wantX (c := false) rfl rfl rfl rfl) ?_
              refine SOps.off rfl (wantX (c := false) rfl rfl rfl rfl) ?_
              refine SOps.off rfl (wantX (c := false) rfl rfl rfl rfl) ?_
              refine SOps.val (v := .bool false) rfl (wantN rfl) (fun w => ev_pickF (v := .bool false) rfl (t := false) rfl rfl rfl w) ?_
              refine SOps.val (v := .bool false) rfl (wantN rfl) (fun _ => by kernel_rfl) ?_
              refine SOps.off rfl (wantX (c := false) rfl rfl rfl rfl) ?_
              refine SOps.off rfl (wantX (c := false) rfl rfl rfl rfl) ?_
              refine SOps.off rfl (wantX (c := false) rfl rfl rfl rfl) ?_
              refine SOps.val (v := .bool false) rfl (wantN rfl) (fun w => ev_pickF (v := .bool false) rfl (t := false) rfl rfl rfl w) ?_
              refine SOps.val (v := .bool false) rfl (wantN rfl) (fun _ => by kernel_rfl) ?_
              refine SOps.off rfl (wantX (c := false) rfl rfl rfl rfl) ?_
              refine SOps.off rfl (wantX (c := false) rfl rfl rfl rfl) ?_
              refine SOps.off rfl (wantX (c := false) rfl rfl rfl rfl) ?_
              refine SOps.off rfl (wantX (c := false) rfl rfl rfl rfl) ?_
              refine SOps.off rfl (wantX (c := false) rfl rfl rfl rfl) ?_
              refine SOps.off rfl (wantX (c := false) rfl rfl rfl rfl) ?_
              refine SOps.off rfl (wantX (c := false) rfl rfl rfl rfl) ?_
              refine SOps.val (v := .bool false) rfl (wantN rfl) (fun w => ev_pickF (v := .bool false) rfl (t := false) rfl rfl rfl w) ?_
              refine SOps.val (v := .bool false) rfl (wantN rfl) (fun _ => by kernel_rfl) ?_
              refine SOps.off rfl (wantX (c := false) rfl rfl rfl rfl) ?_
              refine SOps.off rfl (wantX (c := false) rfl rfl rfl rfl) ?_
              refine SOps.val (v := .bool false) rfl (wantN rfl) (fun w => ev_pickF (v := .bool false) rfl (t := false) rfl rfl rfl w) ?_
              refine SOps.val (v := .bool false) rfl (wantN rfl) (fun _ => by kernel_rfl) ?_
              refine SOps.nil ?_
              obtain ⟨Hr, hr, h⟩ := h
              exact SW.ret (retQ.mk (.bool false) (res1 rfl rfl) hr ⟨false, rfl, h⟩)
      · skip
        refine SW.seq ?_
        refine SW.region ?_
        refine SOps.val (v := .int .i64 x1) rfl (wantN rfl) (fun _ => by kernel_rfl) ?_
        refine SOps.val (v := .bool (decide (x1 < 0))) rfl (wantN rfl) (fun _ => by kernel_rfl) ?_
        refine SOps.val (v := .bool (decide (x1 < 0))) rfl (wantN rfl) (fun _ => by kernel_rfl) ?_
        by_cases c13 : x1 < 0
        · replace h := h.1 c13
          have dc13 : (decide (x1 < 0)) = true := (decide_eq_true c13)
          refine SOps.off rfl (wantX (c := decide (x1 < 0)) rfl rfl rfl dc13) ?_
          refine SOps.off rfl (wantX (c := decide (x1 < 0)) rfl rfl rfl dc13) ?_
          refine SOps.val (v := .bool true) rfl (wantN rfl) (fun w => ev_pickT (v := .bool true) rfl (t := decide (x1 < 0)) rfl dc13 rfl w) ?_
          refine SOps.nil ?_
          refine SW.cond_t (t := true) rfl rfl ?_
          refine SW.seq ?_
          refine SW.region ?_
          refine SOps.val (v := .string s7) rfl (wantN rfl) (fun _ => by kernel_rfl) ?_
          refine SOps.val (v := .bool (!decide (s7 = ByteArray.empty))) rfl (wantN rfl) (fun w => ev_neS rfl rfl rfl w) ?_
          refine SOps.val (v := .bool (!decide (s7 = ByteArray.empty))) rfl (wantN rfl) (fun _ => by kernel_rfl) ?_
          by_cases c14 : (s7 = ByteArray.empty)
          · replace h := h.1 c14
            have dc14 : (decide (s7 = ByteArray.empty)) = true := (decide_eq_true c14)
            refine SOps.val (v := errV e8) rfl (wantY (c := !decide (s7 = ByteArray.empty)) rfl rfl rfl (not_t dc14)) (fun _ => by kernel_rfl) ?_
            refine SOps.enter rfl (wantY (c := !decide (s7 = ByteArray.empty)) rfl rfl rfl (not_t dc14)) (fun _ => by kernel_rfl) (api_Code.sound F e8 H12 _ h) ?_
            clear h
            rintro v H16 ⟨x15, rfl, h⟩
            refine SOps.val (v := .bool (x15 != 2)) rfl (wantY (c := !decide (s7 = ByteArray.empty)) rfl rfl rfl (not_t dc14)) (fun _ => by kernel_rfl) ?_
            refine SOps.val (v := .bool (x15 != 2)) rfl (wantN rfl) (fun w => ev_pickF (v := .bool (x15 != 2)) rfl (t := !decide (s7 = ByteArray.empty)) rfl (not_t dc14) rfl w) ?_
            refine SOps.nil ?_
            by_cases c17 : x15 ≠ 2
            · replace h := h.1 c17
              have dc17 : (x15 != 2) = true := (bne_iff_ne.mpr c17)
              refine SW.cond_t (t := (x15 != 2)) rfl dc17 ?_
              refine SW.seq ?_
              refine SW.region ?_
              refine SOps.val (v := .bool false) rfl (wantN rfl) (fun _ => by kernel_rfl) ?_
              refine SOps.nil ?_
              obtain ⟨Hr, hr, h⟩ := h
              exact SW.ret (retQ.mk (.bool false) (res1 rfl rfl) hr ⟨false, rfl, h⟩)
            · replace h := h.2 c17
              have dc17 : (x15 != 2) = false := (by simpa using c17)
              refine SW.cond_f (t := (x15 != 2)) rfl dc17 ?_
              refine SW.skip ?_
              exact ⟨_, x1, s2, s10, e11, Fr.upds_self _ _ ⟨rfl, rfl, rfl, rfl, trivial⟩, h⟩
          · replace h := h.2 c14
            have dc14 : (decide (s7 = ByteArray.empty)) = false := (decide_eq_false c14)
            refine SOps.off rfl (wantX (c := !decide (s7 = ByteArray.empty)) rfl rfl rfl (not_f dc14)) ?_
            refine SOps.off rfl (wantX (c := !decide (s7 = ByteArray.empty)) rfl rfl rfl (not_f dc14)) ?_
            refine SOps.off rfl (wantX (c := !decide (s7 = ByteArray.empty)) rfl rfl rfl (not_f dc14)) ?_
            refine SOps.val (v := .bool true) rfl (wantN rfl) (fun w => ev_pickT (v := .bool true) rfl (t := !decide (s7 = ByteArray.empty)) rfl (not_f dc14) rfl w) ?_
            refine SOps.nil ?_
            refine SW.cond_t (t := true) rfl rfl ?_
            refine SW.seq ?_
            refine SW.region ?_
            refine SOps.val (v := .bool false) rfl (wantN rfl) (fun _ => by kernel_rfl) ?_
            refine SOps.nil ?_
            obtain ⟨Hr, hr, h⟩ := h
            exact SW.ret (retQ.mk (.bool false) (res1 rfl rfl) hr ⟨false, rfl, h⟩)
        · replace h := h.2 c13
          have dc13 : (decide (x1 < 0)) = false := (decide_eq_false c13)
          refine SOps.val (v := .int .i64 x1) rfl (wantY (c := decide (x1 < 0)) rfl rfl rfl dc13) (fun _ => by kernel_rfl) ?_
          refine SOps.val (v := .bool (decide (x1 > 72057594037927935))) rfl (wantY (c := decide (x1 < 0)) rfl rfl rfl dc13) (fun _ => by kernel_rfl) ?_
          refine SOps.val (v := .bool (decide (x1 > 72057594037927935))) rfl (wantN rfl) (fun w => ev_pickF (v := .bool (decide (x1 > 72057594037927935))) rfl (t := decide (x1 < 0)) rfl dc13 rfl w) ?_
          refine SOps.nil ?_
          by_cases c22 : x1 > 72057594037927935
          · replace h := h.1 c22
            have dc22 : (decide (x1 > 72057594037927935)) = true := (decide_eq_true c22)
            refine SW.cond_t (t := decide (x1 > 72057594037927935)) rfl dc22 ?_
            refine SW.seq ?_
            refine SW.region ?_
            refine SOps.val (v := .string s7) rfl (wantN rfl) (fun _ => by kernel_rfl) ?_
            refine SOps.val (v := .bool (!decide (s7 = ByteArray.empty))) rfl (wantN rfl) (fun w => ev_neS rfl rfl rfl w) ?_
            refine SOps.val (v := .bool (!decide (s7 = ByteArray.empty))) rfl (wantN rfl) (fun _ => by kernel_rfl) ?_
            by_cases c23 : (s7 = ByteArray.empty)
            · replace h := h.1 c23
              have dc23 : (decide (s7 = ByteArray.empty)) = true := (decide_eq_true c23)
              refine SOps.val (v := errV e8) rfl (wantY (c := !decide (s7 = ByteArray.empty)) rfl rfl rfl (not_t dc23)) (fun _ => by kernel_rfl) ?_
              refine SOps.enter rfl (wantY (c := !decide (s7 = ByteArray.empty)) rfl rfl rfl (not_t dc23)) (fun _ => by kernel_rfl) (api_Code.sound F e8 H12 _ h) ?_
              clear h
              rintro v H25 ⟨x24, rfl, h⟩
              refine SOps.val (v := .bool (x24 != 2)) rfl (wantY (c := !decide (s7 = ByteArray.empty)) rfl rfl rfl (not_t dc23)) (fun _ => by kernel_rfl) ?_
              refine SOps.val (v := .bool (x24 != 2)) rfl (wantN rfl) (fun w => ev_pickF (v := .bool (x24 != 2)) rfl (t := !decide (s7 = ByteArray.empty)) rfl (not_t dc23) rfl w) ?_
              refine SOps.nil ?_
              by_cases c26 : x24 ≠ 2
              · replace h := h.1 c26
                have dc26 : (x24 != 2) = true := (bne_iff_ne.mpr c26)
                refine SW.cond_t (t := (x24 != 2)) rfl dc26 ?_
                refine SW.seq ?_
                refine SW.region ?_
                refine SOps.val (v := .bool false) rfl (wantN rfl) (fun _ => by kernel_rfl) ?_
                refine SOps.nil ?_
                obtain ⟨Hr, hr, h⟩ := h
                exact SW.ret (retQ.mk (.bool false) (res1 rfl rfl) hr ⟨false, rfl, h⟩)
              · replace h := h.2 c26
                have dc26 : (x24 != 2) = false := (by simpa using c26)
                refine SW.cond_f (t := (x24 != 2)) rfl dc26 ?_
                refine SW.skip ?_
                exact ⟨_, x1, s2, s10, e11, Fr.upds_self _ _ ⟨rfl, rfl, rfl, rfl, trivial⟩, h⟩
            · replace h := h.2 c23
              have dc23 : (decide (s7 = ByteArray.empty)) = false := (decide_eq_false c23)
              refine SOps.off rfl (wantX (c := !decide (s7 = ByteArray.empty)) rfl rfl rfl (not_f dc23)) ?_
              refine SOps.off rfl (wantX (c := !decide (s7 = ByteArray.empty)) rfl rfl rfl (not_f dc23)) ?_
              refine SOps.off rfl (wantX (c := !decide (s7 = ByteArray.empty)) rfl rfl rfl (not_f dc23)) ?_
              refine SOps.val (v := .bool true) rfl (wantN rfl) (fun w => ev_pickT (v := .bool true) rfl (t := !decide (s7 = ByteArray.empty)) rfl (not_f dc23) rfl w) ?_
              refine SOps.nil ?_
              refine SW.cond_t (t := true) rfl rfl ?_
              refine SW.seq ?_
              refine SW.region ?_
              refine SOps.val (v := .bool false) rfl (wantN rfl) (fun _ => by kernel_rfl) ?_
              refine SOps.nil ?_
              obtain ⟨Hr, hr, h⟩ := h
              exact SW.ret (retQ.mk (.bool false) (res1 rfl rfl) hr ⟨false, rfl, h⟩)
          · replace h := h.2 c22
            have dc22 : (decide (x1 > 72057594037927935)) = false := (decide_eq_false c22)
            refine SW.cond_f (t := decide (x1 > 72057594037927935)) rfl dc22 ?_
            refine SW.seq ?_
            refine SW.region ?_
            refine SOps.val (v := .string s2) rfl (wantN rfl) (fun _ => by kernel_rfl) ?_
            refine SOps.val (v := .string s7) rfl (wantN rfl) (fun _ => by kernel_rfl) ?_
            obtain ⟨c27, h⟩ := h
            refine SOps.val (v := .string (s2 ++ s7)) rfl (wantN rfl) (fun w => ev_cat rfl rfl rfl c27 w) ?_
            obtain ⟨c28, h⟩ := h
            refine SOps.val (v := .string ((s2 ++ s7) ++ (⟨#[120]⟩ : ByteArray))) rfl (wantN rfl) (fun w => ev_cat rfl rfl rfl c28 w) ?_
            refine SOps.val (v := .string s2) rfl (wantN rfl) (fun _ => by kernel_rfl) ?_
            refine SOps.val (v := .int .i64 (s2.size : Int)) rfl (wantN rfl) (fun _ => by kernel_rfl) ?_
            refine SOps.enter rfl (wantN rfl) (fun _ => by kernel_rfl) (octet_Short.sound F ((s2 ++ s7) ++ (⟨#[120]⟩ : ByteArray)) (s2.size : Int) H12 _ h) ?_
            clear h
            rintro v H32 ⟨x29, x30, e31, rfl, h⟩
            refine SOps.val (v := .tuple #[.int .i64 x29, .int .i64 x30, errV e31]) rfl (wantN rfl) (fun _ => by kernel_rfl) ?_
            refine SOps.val (v := .int .i64 x29) rfl (wantN rfl) (fun _ => by kernel_rfl) ?_
            refine SOps.val (v := .int .i64 x30) rfl (wantN rfl) (fun _ => by kernel_rfl) ?_
            refine SOps.val (v := errV e31) rfl (wantN rfl) (fun _ => by kernel_rfl) ?_
            refine SOps.val (v := .int .i64 x29) rfl (wantN rfl) (fun _ => by kernel_rfl) ?_
            refine SOps.val (v := .int .i64 x30) rfl (wantN rfl) (fun _ => by kernel_rfl) ?_
            refine SOps.val (v := errV e31) rfl (wantN rfl) (fun _ => by kernel_rfl) ?_
            refine SOps.nil ?_
            refine SW.seq ?_
            refine SW.region ?_
            refine SOps.val (v := .string s7) rfl (wantN rfl) (fun _ => by kernel_rfl) ?_
            refine SOps.val (v := .int .i64 x1) rfl (wantN rfl) (fun _ => by kernel_rfl) ?_
            refine SOps.enter rfl (wantN rfl) (fun _ => by kernel_rfl) (ladingref01_Short.sound F x1 H32 _ h) ?_
            clear h
            rintro v H34 ⟨s33, rfl, h⟩
            refine SOps.val (v := .bool (!decide (s7 = s33))) rfl (wantN rfl) (fun w => ev_neS rfl rfl rfl w) ?_
            refine SOps.val (v := .bool (!decide (s7 = s33))) rfl (wantN rfl) (fun _ => by kernel_rfl) ?_
            by_cases c35 : (s7 = s33)
            · replace h := h.1 c35
              have dc35 : (decide (s7 = s33)) = true := (decide_eq_true c35)
              refine SOps.val (v := errV e8) rfl (wantY (c := !decide (s7 = s33)) rfl rfl rfl (not_t dc35)) (fun _ => by kernel_rfl) ?_
              rcases e8 with _ | v36
              · replace h := h.1 rfl
                refine SOps.val (v := .bool false) rfl (wantY (c := !decide (s7 = s33)) rfl rfl rfl (not_t dc35)) (fun w => ev_errNe (e := none) rfl Tryd.underlying24 rfl rfl w) ?_
                refine SOps.val (v := .bool false) rfl (wantN rfl) (fun w => ev_pickF (v := .bool false) rfl (t := !decide (s7 = s33)) rfl (not_t dc35) rfl w) ?_
                refine SOps.val (v := .bool false) rfl (wantN rfl) (fun _ => by kernel_rfl) ?_
                refine SOps.val (v := .int .i64 x29) rfl (wantY (c := false) rfl rfl rfl rfl) (fun _ => by kernel_rfl) ?_
                refine SOps.val (v := .int .i64 x1) rfl (wantY (c := false) rfl rfl rfl rfl) (fun _ => by kernel_rfl) ?_
                refine SOps.val (v := .bool (x29 != x1)) rfl (wantY (c := false) rfl rfl rfl rfl) (fun _ => by kernel_rfl) ?_
                refine SOps.val (v := .bool (x29 != x1)) rfl (wantN rfl) (fun w => ev_pickF (v := .bool (x29 != x1)) rfl (t := false) rfl rfl rfl w) ?_
                refine SOps.val (v := .bool (x29 != x1)) rfl (wantN rfl) (fun _ => by kernel_rfl) ?_
                by_cases c37 : x29 ≠ x1
                · replace h := h.1 c37
                  have dc37 : (x29 != x1) = true := (bne_iff_ne.mpr c37)
                  refine SOps.off rfl (wantX (c := (x29 != x1)) rfl rfl rfl dc37) ?_
                  refine SOps.off rfl (wantX (c := (x29 != x1)) rfl rfl rfl dc37) ?_
                  refine SOps.off rfl (wantX (c := (x29 != x1)) rfl rfl rfl dc37) ?_
                  refine SOps.off rfl (wantX (c := (x29 != x1)) rfl rfl rfl dc37) ?_
                  refine SOps.off rfl (wantX (c := (x29 != x1)) rfl rfl rfl dc37) ?_
                  refine SOps.off rfl (wantX (c := (x29 != x1)) rfl rfl rfl dc37) ?_
                  refine SOps.off rfl (wantX (c := (x29 != x1)) rfl rfl rfl dc37) ?_
                  refine SOps.val (v := .bool true) rfl (wantN rfl) (fun w => ev_pickT (v := .bool true) rfl (t := (x29 != x1)) rfl dc37 rfl w) ?_
                  refine SOps.val (v := .bool true) rfl (wantN rfl) (fun _ => by kernel_rfl) ?_
                  refine SOps.off rfl (wantX (c := true) rfl rfl rfl rfl) ?_
                  refine SOps.off rfl (wantX (c := true) rfl rfl rfl rfl) ?_
                  refine SOps.val (v := .bool true) rfl (wantN rfl) (fun w => ev_pickT (v := .bool true) rfl (t := true) rfl rfl rfl w) ?_
                  refine SOps.nil ?_
                  refine SW.cond_t (t := true) rfl rfl ?_
                  refine SW.seq ?_
                  refine SW.region ?_
                  refine SOps.val (v := .bool false) rfl (wantN rfl) (fun _ => by kernel_rfl) ?_
                  refine SOps.nil ?_
                  obtain ⟨Hr, hr, h⟩ := h
                  exact SW.ret (retQ.mk (.bool false) (res1 rfl rfl) hr ⟨false, rfl, h⟩)
                · replace h := h.2 c37
                  have dc37 : (x29 != x1) = false := (by simpa using c37)
                  refine SOps.val (v := .int .i64 x30) rfl (wantY (c := (x29 != x1)) rfl rfl rfl dc37) (fun _ => by kernel_rfl) ?_
                  refine SOps.val (v := .string s2) rfl (wantY (c := (x29 != x1)) rfl rfl rfl dc37) (fun _ => by kernel_rfl) ?_
                  refine SOps.val (v := .int .i64 (s2.size : Int)) rfl (wantY (c := (x29 != x1)) rfl rfl rfl dc37) (fun _ => by kernel_rfl) ?_
                  refine SOps.val (v := .string s7) rfl (wantY (c := (x29 != x1)) rfl rfl rfl dc37) (fun _ => by kernel_rfl) ?_
                  refine SOps.val (v := .int .i64 (s7.size : Int)) rfl (wantY (c := (x29 != x1)) rfl rfl rfl dc37) (fun _ => by kernel_rfl) ?_
                  refine SOps.val (v := .int .i64 (w64 ((s2.size : Int) + (s7.size : Int)))) rfl (wantY (c := (x29 != x1)) rfl rfl rfl dc37) (fun _ => by kernel_rfl) ?_
                  refine SOps.val (v := .bool (x30 != (w64 ((s2.size : Int) + (s7.size : Int))))) rfl (wantY (c := (x29 != x1)) rfl rfl rfl dc37) (fun _ => by kernel_rfl) ?_
                  refine SOps.val (v := .bool (x30 != (w64 ((s2.size : Int) + (s7.size : Int))))) rfl (wantN rfl) (fun w => ev_pickF (v := .bool (x30 != (w64 ((s2.size : Int) + (s7.size : Int))))) rfl (t := (x29 != x1)) rfl dc37 rfl w) ?_
                  refine SOps.val (v := .bool (x30 != (w64 ((s2.size : Int) + (s7.size : Int))))) rfl (wantN rfl) (fun _ => by kernel_rfl) ?_
                  by_cases c38 : x30 ≠ (w64 ((s2.size : Int) + (s7.size : Int)))
                  · replace h := h.1 c38
                    have dc38 : (x30 != (w64 ((s2.size : Int) + (s7.size : Int)))) = true := (bne_iff_ne.mpr c38)
                    refine SOps.off rfl (wantX (c := (x30 != (w64 ((s2.size : Int) + (s7.size : Int))))) rfl rfl rfl dc38) ?_
                    refine SOps.off rfl (wantX (c := (x30 != (w64 ((s2.size : Int) + (s7.size : Int))))) rfl rfl rfl dc38) ?_
                    refine SOps.val (v := .bool true) rfl (wantN rfl) (fun w => ev_pickT (v := .bool true) rfl (t := (x30 != (w64 ((s2.size : Int) + (s7.size : Int))))) rfl dc38 rfl w) ?_
                    refine SOps.nil ?_
                    refine SW.cond_t (t := true) rfl rfl ?_
                    refine SW.seq ?_
                    refine SW.region ?_
                    refine SOps.val (v := .bool false) rfl (wantN rfl) (fun _ => by kernel_rfl) ?_
                    refine SOps.nil ?_
                    obtain ⟨Hr, hr, h⟩ := h
                    exact SW.ret (retQ.mk (.bool false) (res1 rfl rfl) hr ⟨false, rfl, h⟩)
                  · replace h := h.2 c38
                    have dc38 : (x30 != (w64 ((s2.size : Int) + (s7.size : Int)))) = false := (by simpa using c38)
                    refine SOps.val (v := errV e31) rfl (wantY (c := (x30 != (w64 ((s2.size : Int) + (s7.size : Int))))) rfl rfl rfl dc38) (fun _ => by kernel_rfl) ?_
                    rcases e31 with _ | v39
                    · replace h := h.1 rfl
                      refine SOps.val (v := .bool false) rfl (wantY (c := (x30 != (w64 ((s2.size : Int) + (s7.size : Int))))) rfl rfl rfl dc38) (fun w => ev_errNe (e := none) rfl Tryd.underlying24 rfl rfl w) ?_
                      refine SOps.val (v := .bool false) rfl (wantN rfl) (fun w => ev_pickF (v := .bool false) rfl (t := (x30 != (w64 ((s2.size : Int) + (s7.size : Int))))) rfl dc38 rfl w) ?_
                      refine SOps.nil ?_
                      refine SW.cond_f (t := false) rfl rfl ?_
                      refine SW.skip ?_
                      exact ⟨_, x1, s2, s10, e11, Fr.upds_self _ _ ⟨rfl, rfl, rfl, rfl, trivial⟩, h⟩
                    · replace h := h.2 v39 rfl
                      refine SOps.val (v := .bool true) rfl (wantY (c := (x30 != (w64 ((s2.size : Int) + (s7.size : Int))))) rfl rfl rfl dc38) (fun w => ev_errNe (e := some v39) rfl Tryd.underlying24 rfl rfl w) ?_
                      refine SOps.val (v := .bool true) rfl (wantN rfl) (fun w => ev_pickF (v := .bool true) rfl (t := (x30 != (w64 ((s2.size : Int) + (s7.size : Int))))) rfl dc38 rfl w) ?_
                      refine SOps.nil ?_
                      refine SW.cond_t (t := true) rfl rfl ?_
                      refine SW.seq ?_
                      refine SW.region ?_
                      refine SOps.val (v := .bool false) rfl (wantN rfl) (fun _ => by kernel_rfl) ?_
                      refine SOps.nil ?_
                      obtain ⟨Hr, hr, h⟩ := h
                      exact SW.ret (retQ.mk (.bool false) (res1 rfl rfl) hr ⟨false, rfl, h⟩)
              · replace h := h.2 v36 rfl
                refine SOps.val (v := .bool true) rfl (wantY (c := !decide (s7 = s33)) rfl rfl rfl (not_t dc35)) (fun w => ev_errNe (e := some v36) rfl Tryd.underlying24 rfl rfl w) ?_
                refine SOps.val (v := .bool true) rfl (wantN rfl) (fun w => ev_pickF (v := .bool true) rfl (t := !decide (s7 = s33)) rfl (not_t dc35) rfl w) ?_
                refine SOps.val (v := .bool true) rfl (wantN rfl) (fun _ => by kernel_rfl) ?_
                refine SOps.off rfl (wantX (c := true) rfl rfl rfl rfl) ?_
                refine SOps.off rfl (wantX (c := true) rfl rfl rfl rfl) ?_
                refine SOps.off rfl (wantX (c := true) rfl rfl rfl rfl) ?_
                refine SOps.val (v := .bool true) rfl (wantN rfl) (fun w => ev_pickT (v := .bool true) rfl (t := true) rfl rfl rfl w) ?_
                refine SOps.val (v := .bool true) rfl (wantN rfl) (fun _ => by kernel_rfl) ?_
                refine SOps.off rfl (wantX (c := true) rfl rfl rfl rfl) ?_
                refine SOps.off rfl (wantX (c := true) rfl rfl rfl rfl) ?_
                refine SOps.off rfl (wantX (c := true) rfl rfl rfl rfl) ?_
                refine SOps.off rfl (wantX (c := true) rfl rfl rfl rfl) ?_
                refine SOps.off rfl (wantX (c := true) rfl rfl rfl rfl) ?_
                refine SOps.off rfl (wantX (c := true) rfl rfl rfl rfl) ?_
                refine SOps.off rfl (wantX (c := true) rfl rfl rfl rfl) ?_
                refine SOps.val (v := .bool true) rfl (wantN rfl) (fun w => ev_pickT (v := .bool true) rfl (t := true) rfl rfl rfl w) ?_
                refine SOps.val (v := .bool true) rfl (wantN rfl) (fun _ => by kernel_rfl) ?_
                refine SOps.off rfl (wantX (c := true) rfl rfl rfl rfl) ?_
                refine SOps.off rfl (wantX (c := true) rfl rfl rfl rfl) ?_
                refine SOps.val (v := .bool true) rfl (wantN rfl) (fun w => ev_pickT (v := .bool true) rfl (t := true) rfl rfl rfl w) ?_
                refine SOps.nil ?_
                refine SW.cond_t (t := true) rfl rfl ?_
                refine SW.seq ?_
                refine SW.region ?_
                refine SOps.val (v := .bool false) rfl (wantN rfl) (fun _ => by kernel_rfl) ?_
                refine SOps.nil ?_
                obtain ⟨Hr, hr, h⟩ := h
                exact SW.ret (retQ.mk (.bool false) (res1 rfl rfl) hr ⟨false, rfl, h⟩)
            · replace h := h.2 c35
              have dc35 : (decide (s7 = s33)) = false := (decide_eq_false c35)
              refine SOps.off rfl (wantX (c := !decide (s7 = s33)) rfl rfl rfl (not_f dc35)) ?_
              refine SOps.off rfl (wantX (c := !decide (s7 = s33)) rfl rfl rfl (not_f dc35)) ?_
              refine SOps.val (v := .bool true) rfl (wantN rfl) (fun w => ev_pickT (v := .bool true) rfl (t := !decide (s7 = s33)) rfl (not_f dc35) rfl w) ?_
              refine SOps.val (v := .bool true) rfl (wantN rfl) (fun _ => by kernel_rfl) ?_
              refine SOps.off rfl (wantX (c := true) rfl rfl rfl rfl) ?_
              refine SOps.off rfl (wantX (c := true) rfl rfl rfl rfl) ?_
              refine SOps.off rfl (wantX (c := true) rfl rfl rfl rfl) ?_
              refine SOps.val (v := .bool true) rfl (wantN rfl) (fun w => ev_pickT (v := .bool true) rfl (t := true) rfl rfl rfl w) ?_
              refine SOps.val (v := .bool true) rfl (wantN rfl) (fun _ => by kernel_rfl) ?_
              refine SOps.off rfl (wantX (c := true) rfl rfl rfl rfl) ?_
              refine SOps.off rfl (wantX (c := true) rfl rfl rfl rfl) ?_
              refine SOps.off rfl (wantX (c := true) rfl rfl rfl rfl) ?_
              refine SOps.off rfl (wantX (c := true) rfl rfl rfl rfl) ?_
              refine SOps.off rfl (wantX (c := true) rfl rfl rfl rfl) ?_
              refine SOps.off rfl (wantX (c := true) rfl rfl rfl rfl) ?_
              refine SOps.off rfl (wantX (c := true) rfl rfl rfl rfl) ?_
              refine SOps.val (v := .bool true) rfl (wantN rfl) (fun w => ev_pickT (v := .bool true) rfl (t := true) rfl rfl rfl w) ?_
              refine SOps.val (v := .bool true) rfl (wantN rfl) (fun _ => by kernel_rfl) ?_
              refine SOps.off rfl (wantX (c := true) rfl rfl rfl rfl) ?_
              refine SOps.off rfl (wantX (c := true) rfl rfl rfl rfl) ?_
              refine SOps.val (v := .bool true) rfl (wantN rfl) (fun w => ev_pickT (v := .bool true) rfl (t := true) rfl rfl rfl w) ?_
              refine SOps.nil ?_
              refine SW.cond_t (t := true) rfl rfl ?_
              refine SW.seq ?_
              refine SW.region ?_
              refine SOps.val (v := .bool false) rfl (wantN rfl) (fun _ => by kernel_rfl) ?_
              refine SOps.nil ?_
              obtain ⟨Hr, hr, h⟩ := h
              exact SW.ret (retQ.mk (.bool false) (res1 rfl rfl) hr ⟨false, rfl, h⟩)
  · replace h := h.2 c5
    have dc5 : q3 = false := (Bool.eq_false_iff.mpr c5)
    refine SW.cond_t (t := !q3) rfl (not_f dc5) ?_
    refine SW.seq ?_
    refine SW.region ?_
    refine SOps.val (v := .bool false) rfl (wantN rfl) (fun _ => by kernel_rfl) ?_
    refine SOps.nil ?_
    obtain ⟨Hr, hr, h⟩ := h
    exact SW.ret (retQ.mk (.bool false) (res1 rfl rfl) hr ⟨false, rfl, h⟩)

end Go.Proofs.YtpnbehgkbfhacaaDoor.K
