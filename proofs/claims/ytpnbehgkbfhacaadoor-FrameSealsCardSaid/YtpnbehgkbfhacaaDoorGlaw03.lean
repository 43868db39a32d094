import Derived.Test.YtpnbehgkbfhacaaDoorGframe
import Derived.Test.YtpnbehgkbfhacaaDoorGref
import Derived.Test.YtpnbehgkbfhacaaDoorApi2
set_option linter.unusedVariables false
set_option linter.unusedSimpArgs false
set_option maxRecDepth 100000
namespace Go.Proofs.YtpnbehgkbfhacaaDoor.K
open Go
attribute [local irreducible] SW SOps SQ SCalls retQ

/-! ### lading/ladinglaw03.awake: function 24 -/
def ladinglaw03_awake.wp (F : Nat) (H : SH) (K : Bool → SH → Prop) : Prop :=
  frame_Seal.wp F (⟨#[120]⟩ : ByteArray) H (fun s1 e2 H3 =>
    frame_Open.wp F s1 H3 (fun s4 e5 H6 =>
      ∀ b7, H6 b7 = none →
      frame_Sum.wp F (⟨some (b7, 0), 1, 1⟩ : Sl) (SH.upd H6 b7 ⟨[.string (⟨#[49, 50, 51, 52, 53, 54, 55, 56, 57]⟩ : ByteArray)], 9, false, 1⟩) (fun x9 H10 =>
        (x9 = 3808858755 →
          (e2 = none →
            (e5 = none →
              ∃ Hr, SH.le Hr H10 ∧ K (decide (s4 = (⟨#[120]⟩ : ByteArray))) Hr
            ) ∧ (∀ v13, e5 = some v13 →
              ∃ Hr, SH.le Hr H10 ∧ K false Hr
            )
          ) ∧ (∀ v12, e2 = some v12 →
            ∃ Hr, SH.le Hr H10 ∧ K false Hr
          )
        ) ∧ (¬ (x9 = 3808858755) →
          ∃ Hr, SH.le Hr H10 ∧ K false Hr
        )
      )
    )
  )
set_option maxHeartbeats 8000000 in
theorem ladinglaw03_awake.sound (F : Nat) (H : SH) (K : Bool → SH → Prop) (h : ladinglaw03_awake.wp F H K) : SCalls Tryd.prog 24 #[] H (fun v H' => ∃ (q15 : Bool), v = .bool q15 ∧ K q15 H') := by
  unfold ladinglaw03_awake.wp at h
  refine SCalls.body Tryd.func24 rfl (Nat.le_of_ble_eq_true rfl) ?_
  refine SW.seq ?_
  refine SW.region ?_
  refine SOps.val (v := .bool false) rfl (wantN rfl) (fun _ => by kernel_rfl) ?_
  refine SOps.nil ?_
  refine SW.seq ?_
  refine SW.region ?_
  refine SOps.enter rfl (wantN rfl) (fun _ => by kernel_rfl) (frame_Seal.sound F (⟨#[120]⟩ : ByteArray) H _ h) ?_
  clear h
  rintro v H3 ⟨s1, e2, rfl, h⟩
  refine SOps.val (v := .tuple #[.string s1, errV e2]) rfl (wantN rfl) (fun _ => by kernel_rfl) ?_
  refine SOps.val (v := .string s1) rfl (wantN rfl) (fun _ => by kernel_rfl) ?_
  refine SOps.val (v := errV e2) rfl (wantN rfl) (fun _ => by kernel_rfl) ?_
  refine SOps.val (v := .string s1) rfl (wantN rfl) (fun _ => by kernel_rfl) ?_
  refine SOps.val (v := errV e2) rfl (wantN rfl) (fun _ => by kernel_rfl) ?_
  refine SOps.nil ?_
  refine SW.seq ?_
  refine SW.region ?_
  refine SOps.val (v := .string s1) rfl (wantN rfl) (fun _ => by kernel_rfl) ?_
  refine SOps.enter rfl (wantN rfl) (fun _ => by kernel_rfl) (frame_Open.sound F s1 H3 _ h) ?_
  clear h
  rintro v H6 ⟨s4, e5, rfl, h⟩
  refine SOps.val (v := .tuple #[.string s4, errV e5]) rfl (wantN rfl) (fun _ => by kernel_rfl) ?_
  refine SOps.val (v := .string s4) rfl (wantN rfl) (fun _ => by kernel_rfl) ?_
  refine SOps.val (v := errV e5) rfl (wantN rfl) (fun _ => by kernel_rfl) ?_
  refine SOps.val (v := .string s4) rfl (wantN rfl) (fun _ => by kernel_rfl) ?_
  refine SOps.val (v := errV e5) rfl (wantN rfl) (fun _ => by kernel_rfl) ?_
  refine SOps.nil ?_
  refine SW.seq ?_
  refine SW.region ?_
  refine SOps.lit (E := 9) (cs := #[.string (⟨#[49, 50, 51, 52, 53, 54, 55, 56, 57]⟩ : ByteArray)]) rfl rfl (wantN rfl) (fun _ => by kernel_rfl) (fun b7 c8 => ?_)
  replace h := h b7 c8
  refine SOps.enter rfl (wantN rfl) (fun _ => by kernel_rfl) (frame_Sum.sound F (⟨some (b7, 0), 1, 1⟩ : Sl) (SH.upd H6 b7 ⟨[.string (⟨#[49, 50, 51, 52, 53, 54, 55, 56, 57]⟩ : ByteArray)], 9, false, 1⟩) _ h) ?_
  clear h
  rintro v H10 ⟨x9, rfl, h⟩
  refine SOps.val (v := .bool (x9 == 3808858755)) rfl (wantN rfl) (fun _ => by kernel_rfl) ?_
  refine SOps.val (v := .bool (x9 == 3808858755)) rfl (wantN rfl) (fun _ => by kernel_rfl) ?_
  by_cases c11 : x9 = 3808858755
  · replace h := h.1 c11
    have dc11 : (x9 == 3808858755) = true := (beq_iff_eq.mpr c11)
    refine SOps.val (v := errV e2) rfl (wantY (c := (x9 == 3808858755)) rfl rfl rfl dc11) (fun _ => by kernel_rfl) ?_
    rcases e2 with _ | v12
    · replace h := h.1 rfl
      refine SOps.val (v := .bool true) rfl (wantY (c := (x9 == 3808858755)) rfl rfl rfl dc11) (fun w => ev_errEq (e := none) rfl Tryd.underlying24 rfl rfl w) ?_
      refine SOps.val (v := .bool true) rfl (wantN rfl) (fun w => ev_pickT (v := .bool true) rfl (t := (x9 == 3808858755)) rfl dc11 rfl w) ?_
      refine SOps.val (v := .bool true) rfl (wantN rfl) (fun _ => by kernel_rfl) ?_
      refine SOps.val (v := errV e5) rfl (wantY (c := true) rfl rfl rfl rfl) (fun _ => by kernel_rfl) ?_
      rcases e5 with _ | v13
      · replace h := h.1 rfl
        refine SOps.val (v := .bool true) rfl (wantY (c := true) rfl rfl rfl rfl) (fun w => ev_errEq (e := none) rfl Tryd.underlying24 rfl rfl w) ?_
        refine SOps.val (v := .bool true) rfl (wantN rfl) (fun w => ev_pickT (v := .bool true) rfl (t := true) rfl rfl rfl w) ?_
        refine SOps.val (v := .bool true) rfl (wantN rfl) (fun _ => by kernel_rfl) ?_
        refine SOps.val (v := .string s4) rfl (wantY (c := true) rfl rfl rfl rfl) (fun _ => by kernel_rfl) ?_
        refine SOps.val (v := .bool (decide (s4 = (⟨#[120]⟩ : ByteArray)))) rfl (wantY (c := true) rfl rfl rfl rfl) (fun w => ev_eqS rfl rfl rfl w) ?_
        refine SOps.val (v := .bool (decide (s4 = (⟨#[120]⟩ : ByteArray)))) rfl (wantN rfl) (fun w => ev_pickT (v := .bool (decide (s4 = (⟨#[120]⟩ : ByteArray)))) rfl (t := true) rfl rfl rfl w) ?_
        refine SOps.val (v := .bool (decide (s4 = (⟨#[120]⟩ : ByteArray)))) rfl (wantN rfl) (fun _ => by kernel_rfl) ?_
        refine SOps.nil ?_
        obtain ⟨Hr, hr, h⟩ := h
        exact SW.ret (retQ.mk (.bool (decide (s4 = (⟨#[120]⟩ : ByteArray)))) (res1 rfl rfl) hr ⟨decide (s4 = (⟨#[120]⟩ : ByteArray)), rfl, h⟩)
      · replace h := h.2 v13 rfl
        refine SOps.val (v := .bool false) rfl (wantY (c := true) rfl rfl rfl rfl) (fun w => ev_errEq (e := some v13) rfl Tryd.underlying24 rfl rfl w) ?_
        refine SOps.val (v := .bool false) rfl (wantN rfl) (fun w => ev_pickT (v := .bool false) rfl (t := true) rfl rfl rfl w) ?_
        refine SOps.val (v := .bool false) rfl (wantN rfl) (fun _ => by kernel_rfl) ?_
        refine SOps.off rfl (wantX (c := false) rfl rfl rfl rfl) ?_
        refine SOps.off rfl (wantX (c := false) rfl rfl rfl rfl) ?_
        refine SOps.val (v := .bool false) rfl (wantN rfl) (fun w => ev_pickF (v := .bool false) rfl (t := false) rfl rfl rfl w) ?_
        refine SOps.val (v := .bool false) rfl (wantN rfl) (fun _ => by kernel_rfl) ?_
        refine SOps.nil ?_
        obtain ⟨Hr, hr, h⟩ := h
        exact SW.ret (retQ.mk (.bool false) (res1 rfl rfl) hr ⟨false, rfl, h⟩)
    · replace h := h.2 v12 rfl
      refine SOps.val (v := .bool false) rfl (wantY (c := (x9 == 3808858755)) rfl rfl rfl dc11) (fun w => ev_errEq (e := some v12) rfl Tryd.underlying24 rfl rfl w) ?_
      refine SOps.val (v := .bool false) rfl (wantN rfl) (fun w => ev_pickT (v := .bool false) rfl (t := (x9 == 3808858755)) rfl dc11 rfl w) ?_
      refine SOps.val (v := .bool false) rfl (wantN rfl) (fun _ => by kernel_rfl) ?_
      refine SOps.off rfl (wantX (c := false) rfl rfl rfl rfl) ?_
      refine SOps.off rfl (wantX (c := false) rfl rfl rfl rfl) ?_
      refine SOps.val (v := .bool false) rfl (wantN rfl) (fun w => ev_pickF (v := .bool false) rfl (t := false) rfl rfl rfl w) ?_
      refine SOps.val (v := .bool false) rfl (wantN rfl) (fun _ => by kernel_rfl) ?_
      refine SOps.off rfl (wantX (c := false) rfl rfl rfl rfl) ?_
      refine SOps.off rfl (wantX (c := false) rfl rfl rfl rfl) ?_
      refine SOps.val (v := .bool false) rfl (wantN rfl) (fun w => ev_pickF (v := .bool false) rfl (t := false) rfl rfl rfl w) ?_
      refine SOps.val (v := .bool false) rfl (wantN rfl) (fun _ => by kernel_rfl) ?_
      refine SOps.nil ?_
      obtain ⟨Hr, hr, h⟩ := h
      exact SW.ret (retQ.mk (.bool false) (res1 rfl rfl) hr ⟨false, rfl, h⟩)
  · replace h := h.2 c11
    have dc11 : (x9 == 3808858755) = false := (beq_eq_false_iff_ne.mpr c11)
    refine SOps.off rfl (wantX (c := (x9 == 3808858755)) rfl rfl rfl dc11) ?_
    refine SOps.off rfl (wantX (c := (x9 == 3808858755)) rfl rfl rfl dc11) ?_
    refine SOps.val (v := .bool false) rfl (wantN rfl) (fun w => ev_pickF (v := .bool false) rfl (t := (x9 == 3808858755)) rfl dc11 rfl w) ?_
    refine SOps.val (v := .bool false) rfl (wantN rfl) (fun _ => by kernel_rfl) ?_
    refine SOps.off rfl (wantX (c := false) rfl rfl rfl rfl) ?_
    refine SOps.off rfl (wantX (c := false) rfl rfl rfl rfl) ?_
    refine SOps.val (v := .bool false) rfl (wantN rfl) (fun w => ev_pickF (v := .bool false) rfl (t := false) rfl rfl rfl w) ?_
    refine SOps.val (v := .bool false) rfl (wantN rfl) (fun _ => by kernel_rfl) ?_
    refine SOps.off rfl (wantX (c := false) rfl rfl rfl rfl) ?_
    refine SOps.off rfl (wantX (c := false) rfl rfl rfl rfl) ?_
    refine SOps.val (v := .bool false) rfl (wantN rfl) (fun w => ev_pickF (v := .bool false) rfl (t := false) rfl rfl rfl w) ?_
    refine SOps.val (v := .bool false) rfl (wantN rfl) (fun _ => by kernel_rfl) ?_
    refine SOps.nil ?_
    obtain ⟨Hr, hr, h⟩ := h
    exact SW.ret (retQ.mk (.bool false) (res1 rfl rfl) hr ⟨false, rfl, h⟩)

/-! ### lading/ladinglaw03.FrameSeals: function 5 -/
def ladinglaw03_FrameSeals.j1 (F : Nat) (K : Bool → SH → Prop) (s72 : ByteArray) (H : SH) : Prop :=
  s72.size + (⟨#[122]⟩ : ByteArray).size ≤ 9223372036854775807 ∧
  frame_Open.wp F (s72 ++ (⟨#[122]⟩ : ByteArray)) H (fun s74 e75 H76 =>
    0 ≤ (60001 : Int) ∧ (60001 : Int).toNat * 1 ≤ 281474976710656 ∧
    ∀ b77, H76 b77 = none →
    ∃ bs81 : List UInt8,
    (⟨some (b77, 0), (60001 : Int).toNat, (60001 : Int).toNat⟩ : Sl).len = bs81.length ∧
    SH.row (SH.upd H76 b77 ⟨(Builtin.zeroCells (Value.cells (.int .u8 0 : Value)) (60001 : Int).toNat).toList, 5, false, (60001 : Int).toNat * 1⟩) (⟨some (b77, 0), (60001 : Int).toNat, (60001 : Int).toNat⟩ : Sl).a (byteCells bs81) ∧
    frame_Seal.wp F (⟨bs81.toArray⟩ : ByteArray) (SH.upd H76 b77 ⟨(Builtin.zeroCells (Value.cells (.int .u8 0 : Value)) (60001 : Int).toNat).toList, 5, false, (60001 : Int).toNat * 1⟩) (fun s84 e85 H86 =>
      (s74 = ByteArray.empty →
        api_Code.wp F e75 H86 (fun x88 H89 =>
          (x88 = 4 →
            api_Place.wp F e75 H89 (fun x91 H92 =>
              (x91 = (s72.size : Int) →
                api_Code.wp F e85 H92 (fun x94 H95 =>
                  ∃ Hr, SH.le Hr H95 ∧ K (x94 == 6) Hr
                )
              ) ∧ (¬ (x91 = (s72.size : Int)) →
                ∃ Hr, SH.le Hr H92 ∧ K false Hr
              )
            )
          ) ∧ (¬ (x88 = 4) →
            ∃ Hr, SH.le Hr H89 ∧ K false Hr
          )
        )
      ) ∧ (¬ (s74 = ByteArray.empty) →
        ∃ Hr, SH.le Hr H86 ∧ K false Hr
      )
    )
  )
def ladinglaw03_FrameSeals.wp (F : Nat) (s1 : ByteArray) (s2 : ByteArray) (s3 : ByteArray) (x4 : Int) (x5 : Int) (H : SH) (K : Bool → SH → Prop) : Prop :=
  ∀ b6, H b6 = none →
  ∀ b8, (SH.upd H b6 ⟨[.string s2, .string s3], 39, false, 2⟩) b8 = none →
  ladinglaw03_awake.wp F  (SH.upd (SH.upd H b6 ⟨[.string s2, .string s3], 39, false, 2⟩) b8 ⟨[.int .u16 x4, .int .u16 x5], 41, false, 2⟩) (fun q10 H11 =>
    (q10 = true →
      ∃ (s13 : ByteArray),
      SH.has H11 (b6, 0) (.string s13) ∧
      ∃ (s15 : ByteArray),
      SH.has H11 (b6, 1) (.string s15) ∧
      ((s1.size : Int) > 2000 →
        ∃ Hr, SH.le Hr H11 ∧ K true Hr
      ) ∧ (¬ ((s1.size : Int) > 2000) →
        ((s13.size : Int) > 300 →
          ∃ Hr, SH.le Hr H11 ∧ K true Hr
        ) ∧ (¬ ((s13.size : Int) > 300) →
          ((s15.size : Int) > 300 →
            ∃ Hr, SH.le Hr H11 ∧ K true Hr
          ) ∧ (¬ ((s15.size : Int) > 300) →
            frame_Seal.wp F s1 H11 (fun s20 e21 H22 =>
              ladingref03_Seal.wp F s1 H22 (fun s23 H24 =>
                ((s20 = s23) →
                  (e21 = none →
                    s13.size + s20.size ≤ 9223372036854775807 ∧
                    (s13 ++ s20).size + s15.size ≤ 9223372036854775807 ∧
                    frame_Next.wp F ((s13 ++ s20) ++ s15) (s13.size : Int) H24 (fun s29 x30 e31 H32 =>
                      frame_Open.wp F s20 H32 (fun s33 e34 H35 =>
                        ((s29 = s1) →
                          (x30 ≠ (w64 ((s13.size : Int) + (s20.size : Int))) →
                            ∃ Hr, SH.le Hr H35 ∧ K false Hr
                          ) ∧ (¬ (x30 ≠ (w64 ((s13.size : Int) + (s20.size : Int)))) →
                            (e31 = none →
                              ((s33 = s1) →
                                (e34 = none →
                                  ∀ b41 n42, H35 b41 = none → s20.size ≤ n42 →
                                  ∃ (x45 : Int),
                                  SH.has (SH.upd H35 b41 ⟨byteCells s20.data.toList, 5, false, n42⟩) (b8, 0) (.int .u16 x45) ∧
                                  ((⟨some (b41, 0), s20.size, n42⟩ : Sl).len : Int) ≠ 0 ∧
                                  ∃ p48, (⟨some (b41, 0), s20.size, n42⟩ : Sl).a = some p48 ∧ 0 ≤ ((w64 x45).tmod ((⟨some (b41, 0), s20.size, n42⟩ : Sl).len : Int)) ∧ ((w64 x45).tmod ((⟨some (b41, 0), s20.size, n42⟩ : Sl).len : Int)) < ((⟨some (b41, 0), s20.size, n42⟩ : Sl).len : Int) ∧
                                  ∃ (x52 : Int),
                                  SH.has (SH.upd H35 b41 ⟨byteCells s20.data.toList, 5, false, n42⟩) (p48.1, (p48.2 + ((w64 x45).tmod ((⟨some (b41, 0), s20.size, n42⟩ : Sl).len : Int)).toNat * 1)) (.int .u8 x52) ∧
                                  ∃ (x54 : Int),
                                  SH.has (SH.upd H35 b41 ⟨byteCells s20.data.toList, 5, false, n42⟩) (b8, 1) (.int .u16 x54) ∧
                                  ∃ p56, (⟨some (b41, 0), s20.size, n42⟩ : Sl).a = some p56 ∧ 0 ≤ ((w64 x45).tmod ((⟨some (b41, 0), s20.size, n42⟩ : Sl).len : Int)) ∧ ((w64 x45).tmod ((⟨some (b41, 0), s20.size, n42⟩ : Sl).len : Int)) < ((⟨some (b41, 0), s20.size, n42⟩ : Sl).len : Int) ∧
                                  SH.wrs (SH.upd H35 b41 ⟨byteCells s20.data.toList, 5, false, n42⟩) (p56.1, (p56.2 + ((w64 x45).tmod ((⟨some (b41, 0), s20.size, n42⟩ : Sl).len : Int)).toNat * 1)) 1 ∧
                                  ∃ bs61 : List UInt8,
                                  (⟨some (b41, 0), s20.size, n42⟩ : Sl).len = bs61.length ∧
                                  SH.row (SH.setl (SH.upd H35 b41 ⟨byteCells s20.data.toList, 5, false, n42⟩) (p56.1, (p56.2 + ((w64 x45).tmod ((⟨some (b41, 0), s20.size, n42⟩ : Sl).len : Int)).toNat * 1)) [.int .u8 (ibits .xor .u8 x52 (IntKind.u8.wrap x54))]) (⟨some (b41, 0), s20.size, n42⟩ : Sl).a (byteCells bs61) ∧
                                  frame_Open.wp F (⟨bs61.toArray⟩ : ByteArray) (SH.setl (SH.upd H35 b41 ⟨byteCells s20.data.toList, 5, false, n42⟩) (p56.1, (p56.2 + ((w64 x45).tmod ((⟨some (b41, 0), s20.size, n42⟩ : Sl).len : Int)).toNat * 1)) [.int .u8 (ibits .xor .u8 x52 (IntKind.u8.wrap x54))]) (fun s64 e65 H66 =>
                                    ∃ (x67 : Int),
                                    SH.has H66 (b8, 1) (.int .u16 x67) ∧
                                    ((IntKind.u8.wrap x67) ≠ 0 →
                                      ((s64 = ByteArray.empty) →
                                        (e65 = none →
                                          ∃ Hr, SH.le Hr H66 ∧ K false Hr
                                        ) ∧ (∀ v71, e65 = some v71 →
                                          ladinglaw03_FrameSeals.j1 F K s20 H66
                                        )
                                      ) ∧ (¬ ((s64 = ByteArray.empty)) →
                                        ∃ Hr, SH.le Hr H66 ∧ K false Hr
                                      )
                                    ) ∧ (¬ ((IntKind.u8.wrap x67) ≠ 0) →
                                      ladinglaw03_FrameSeals.j1 F K s20 H66
                                    )
                                  )
                                ) ∧ (∀ v40, e34 = some v40 →
                                  ∃ Hr, SH.le Hr H35 ∧ K false Hr
                                )
                              ) ∧ (¬ ((s33 = s1)) →
                                ∃ Hr, SH.le Hr H35 ∧ K false Hr
                              )
                            ) ∧ (∀ v38, e31 = some v38 →
                              ∃ Hr, SH.le Hr H35 ∧ K false Hr
                            )
                          )
                        ) ∧ (¬ ((s29 = s1)) →
                          ∃ Hr, SH.le Hr H35 ∧ K false Hr
                        )
                      )
                    )
                  ) ∧ (∀ v26, e21 = some v26 →
                    ∃ Hr, SH.le Hr H24 ∧ K false Hr
                  )
                ) ∧ (¬ ((s20 = s23)) →
                  ∃ Hr, SH.le Hr H24 ∧ K false Hr
                )
              )
            )
          )
        )
      )
    ) ∧ (¬ (q10 = true) →
      ∃ Hr, SH.le Hr H11 ∧ K false Hr
    )
  )
set_option maxHeartbeats 8000000 in
theorem ladinglaw03_FrameSeals.sound (F : Nat) (s1 : ByteArray) (s2 : ByteArray) (s3 : ByteArray) (x4 : Int) (x5 : Int) (H : SH) (K : Bool → SH → Prop) (h : ladinglaw03_FrameSeals.wp F s1 s2 s3 x4 x5 H K) : SCalls Tryd.prog 5 #[.string s1, .agg #[.string s2, .string s3], .agg #[.int .u16 x4, .int .u16 x5]] H (fun v H' => ∃ (q98 : Bool), v = .bool q98 ∧ K q98 H') := by
  unfold ladinglaw03_FrameSeals.wp at h
  refine SCalls.body Tryd.func5 rfl (Nat.le_of_ble_eq_true rfl) ?_
  refine SW.seq ?_
  refine SW.region ?_
  refine SOps.box rfl rfl (wantN rfl) (v := .agg #[.string s2, .string s3]) rfl (fun b6 c7 => ?_)
  replace h := h b6 c7
  refine SOps.box rfl rfl (wantN rfl) (v := .agg #[.int .u16 x4, .int .u16 x5]) rfl (fun b8 c9 => ?_)
  replace h := h b8 c9
  refine SOps.val (v := .bool false) rfl (wantN rfl) (fun _ => by kernel_rfl) ?_
  refine SOps.nil ?_
  refine SW.seq ?_
  refine SW.seq ?_
  refine SW.region ?_
  refine SOps.enter rfl (wantN rfl) (fun _ => by kernel_rfl) (ladinglaw03_awake.sound F  (SH.upd (SH.upd H b6 ⟨[.string s2, .string s3], 39, false, 2⟩) b8 ⟨[.int .u16 x4, .int .u16 x5], 41, false, 2⟩) _ h) ?_
  clear h
  rintro v H11 ⟨q10, rfl, h⟩
  refine SOps.val (v := .bool !q10) rfl (wantN rfl) (fun _ => by kernel_rfl) ?_
  refine SOps.nil ?_
  by_cases c12 : q10 = true
  · replace h := h.1 c12
    have dc12 : q10 = true := c12
    refine SW.cond_f (t := !q10) rfl (not_t dc12) ?_
    refine SW.skip ?_
    refine SW.seq ?_
    refine SW.draw (by kernel_rfl) (by kernel_rfl) ?_
    refine SQ.val (v := pv (some (b6, 0))) rfl (wantN rfl) (fun _ => by kernel_rfl) ?_
    obtain ⟨s13, c14, h⟩ := h
    refine SQ.rd (v := .string s13) rfl (wantN rfl) (fun w hw => ev_load1 rfl (fun _ => by kernel_rfl) (p := (b6, 0)) rfl c14 w hw) ?_
    refine SQ.val (v := pv (some (b6, 1))) rfl (wantN rfl) (fun _ => by kernel_rfl) ?_
    obtain ⟨s15, c16, h⟩ := h
    refine SQ.rd (v := .string s15) rfl (wantN rfl) (fun w hw => ev_load1 rfl (fun _ => by kernel_rfl) (p := (b6, 1)) rfl c16 w hw) ?_
    refine SQ.val (v := .string s13) rfl (wantN rfl) (fun _ => by kernel_rfl) ?_
    refine SQ.val (v := .string s15) rfl (wantN rfl) (fun _ => by kernel_rfl) ?_
    refine SQ.nil ?_
    refine SW.seq ?_
    refine SW.seq ?_
    refine SW.region ?_
    refine SOps.val (v := .string s1) rfl (wantN rfl) (fun _ => by kernel_rfl) ?_
    refine SOps.val (v := .int .i64 (s1.size : Int)) rfl (wantN rfl) (fun _ => by kernel_rfl) ?_
    refine SOps.val (v := .bool (decide ((s1.size : Int) > 2000))) rfl (wantN rfl) (fun _ => by kernel_rfl) ?_
    refine SOps.val (v := .bool (decide ((s1.size : Int) > 2000))) rfl (wantN rfl) (fun _ => by kernel_rfl) ?_
    by_cases c17 : (s1.size : Int) > 2000
    · replace h := h.1 c17
      have dc17 : (decide ((s1.size : Int) > 2000)) = true := (decide_eq_true c17)
      refine SOps.off rfl (wantX (c := decide ((s1.size : Int) > 2000)) rfl rfl rfl dc17) ?_
      refine SOps.off rfl (wantX (c := decide ((s1.size : Int) > 2000)) rfl rfl rfl dc17) ?_
      refine SOps.off rfl (wantX (c := decide ((s1.size : Int) > 2000)) rfl rfl rfl dc17) ?_
      refine SOps.val (v := .bool true) rfl (wantN rfl) (fun w => ev_pickT (v := .bool true) rfl (t := decide ((s1.size : Int) > 2000)) rfl dc17 rfl w) ?_
      refine SOps.val (v := .bool true) rfl (wantN rfl) (fun _ => by kernel_rfl) ?_
      refine SOps.off rfl (wantX (c := true) rfl rfl rfl rfl) ?_
      refine SOps.off rfl (wantX (c := true) rfl rfl rfl rfl) ?_
      refine SOps.off rfl (wantX (c := true) rfl rfl rfl rfl) ?_
      refine SOps.val (v := .bool true) rfl (wantN rfl) (fun w => ev_pickT (v := .bool true) rfl (t := true) rfl rfl rfl w) ?_
      refine SOps.nil ?_
      refine SW.cond_t (t := true) rfl rfl ?_
      refine SW.seq ?_
      refine SW.region ?_
      refine SOps.val (v := .bool true) rfl (wantN rfl) (fun _ => by kernel_rfl) ?_
      refine SOps.nil ?_
      obtain ⟨Hr, hr, h⟩ := h
      exact SW.ret (retQ.mk (.bool true) (res1 rfl rfl) hr ⟨true, rfl, h⟩)
    · replace h := h.2 c17
      have dc17 : (decide ((s1.size : Int) > 2000)) = false := (decide_eq_false c17)
      refine SOps.val (v := .string s13) rfl (wantY (c := decide ((s1.size : Int) > 2000)) rfl rfl rfl dc17) (fun _ => by kernel_rfl) ?_
      refine SOps.val (v := .int .i64 (s13.size : Int)) rfl (wantY (c := decide ((s1.size : Int) > 2000)) rfl rfl rfl dc17) (fun _ => by kernel_rfl) ?_
      refine SOps.val (v := .bool (decide ((s13.size : Int) > 300))) rfl (wantY (c := decide ((s1.size : Int) > 2000)) rfl rfl rfl dc17) (fun _ => by kernel_rfl) ?_
      refine SOps.val (v := .bool (decide ((s13.size : Int) > 300))) rfl (wantN rfl) (fun w => ev_pickF (v := .bool (decide ((s13.size : Int) > 300))) rfl (t := decide ((s1.size : Int) > 2000)) rfl dc17 rfl w) ?_
      refine SOps.val (v := .bool (decide ((s13.size : Int) > 300))) rfl (wantN rfl) (fun _ => by kernel_rfl) ?_
      by_cases c18 : (s13.size : Int) > 300
      · replace h := h.1 c18
        have dc18 : (decide ((s13.size : Int) > 300)) = true := (decide_eq_true c18)
        refine SOps.off rfl (wantX (c := decide ((s13.size : Int) > 300)) rfl rfl rfl dc18) ?_
        refine SOps.off rfl (wantX (c := decide ((s13.size : Int) > 300)) rfl rfl rfl dc18) ?_
        refine SOps.off rfl (wantX (c := decide ((s13.size : Int) > 300)) rfl rfl rfl dc18) ?_
        refine SOps.val (v := .bool true) rfl (wantN rfl) (fun w => ev_pickT (v := .bool true) rfl (t := decide ((s13.size : Int) > 300)) rfl dc18 rfl w) ?_
        refine SOps.nil ?_
        refine SW.cond_t (t := true) rfl rfl ?_
        refine SW.seq ?_
        refine SW.region ?_
        refine SOps.val (v := .bool true) rfl (wantN rfl) (fun _ => by kernel_rfl) ?_
        refine SOps.nil ?_
        obtain ⟨Hr, hr, h⟩ := h
        exact SW.ret (retQ.mk (.bool true) (res1 rfl rfl) hr ⟨true, rfl, h⟩)
      · replace h := h.2 c18
        have dc18 : (decide ((s13.size : Int) > 300)) = false := (decide_eq_false c18)
        refine SOps.val (v := .string s15) rfl (wantY (c := decide ((s13.size : Int) > 300)) rfl rfl rfl dc18) (fun _ => by kernel_rfl) ?_
        refine SOps.val (v := .int .i64 (s15.size : Int)) rfl (wantY (c := decide ((s13.size : Int) > 300)) rfl rfl rfl dc18) (fun _ => by kernel_rfl) ?_
        refine SOps.val (v := .bool (decide ((s15.size : Int) > 300))) rfl (wantY (c := decide ((s13.size : Int) > 300)) rfl rfl rfl dc18) (fun _ => by kernel_rfl) ?_
        refine SOps.val (v := .bool (decide ((s15.size : Int) > 300))) rfl (wantN rfl) (fun w => ev_pickF (v := .bool (decide ((s15.size : Int) > 300))) rfl (t := decide ((s13.size : Int) > 300)) rfl dc18 rfl w) ?_
        refine SOps.nil ?_
        by_cases c19 : (s15.size : Int) > 300
        · replace h := h.1 c19
          have dc19 : (decide ((s15.size : Int) > 300)) = true := (decide_eq_true c19)
          refine SW.cond_t (t := decide ((s15.size : Int) > 300)) rfl dc19 ?_
          refine SW.seq ?_
          refine SW.region ?_
          refine SOps.val (v := .bool true) rfl (wantN rfl) (fun _ => by kernel_rfl) ?_
          refine SOps.nil ?_
          obtain ⟨Hr, hr, h⟩ := h
          exact SW.ret (retQ.mk (.bool true) (res1 rfl rfl) hr ⟨true, rfl, h⟩)
        · replace h := h.2 c19
          have dc19 : (decide ((s15.size : Int) > 300)) = false := (decide_eq_false c19)
          refine SW.cond_f (t := decide ((s15.size : Int) > 300)) rfl dc19 ?_
          refine SW.skip ?_
          refine SW.seq ?_
          refine SW.region ?_
          refine SOps.val (v := .string s1) rfl (wantN rfl) (fun _ => by kernel_rfl) ?_
          refine SOps.enter rfl (wantN rfl) (fun _ => by kernel_rfl) (frame_Seal.sound F s1 H11 _ h) ?_
          clear h
          rintro v H22 ⟨s20, e21, rfl, h⟩
          refine SOps.val (v := .tuple #[.string s20, errV e21]) rfl (wantN rfl) (fun _ => by kernel_rfl) ?_
          refine SOps.val (v := .string s20) rfl (wantN rfl) (fun _ => by kernel_rfl) ?_
          refine SOps.val (v := errV e21) rfl (wantN rfl) (fun _ => by kernel_rfl) ?_
          refine SOps.val (v := .string s20) rfl (wantN rfl) (fun _ => by kernel_rfl) ?_
          refine SOps.val (v := errV e21) rfl (wantN rfl) (fun _ => by kernel_rfl) ?_
          refine SOps.nil ?_
          refine SW.seq ?_
          refine SW.seq ?_
          refine SW.region ?_
          refine SOps.val (v := .string s20) rfl (wantN rfl) (fun _ => by kernel_rfl) ?_
          refine SOps.val (v := .string s1) rfl (wantN rfl) (fun _ => by kernel_rfl) ?_
          refine SOps.enter rfl (wantN rfl) (fun _ => by kernel_rfl) (ladingref03_Seal.sound F s1 H22 _ h) ?_
          clear h
          rintro v H24 ⟨s23, rfl, h⟩
          refine SOps.val (v := .bool (!decide (s20 = s23))) rfl (wantN rfl) (fun w => ev_neS rfl rfl rfl w) ?_
          refine SOps.val (v := .bool (!decide (s20 = s23))) rfl (wantN rfl) (fun _ => by kernel_rfl) ?_
          by_cases c25 : (s20 = s23)
          · replace h := h.1 c25
            have dc25 : (decide (s20 = s23)) = true := (decide_eq_true c25)
            refine SOps.val (v := errV e21) rfl (wantY (c := !decide (s20 = s23)) rfl rfl rfl (not_t dc25)) (fun _ => by kernel_rfl) ?_
            rcases e21 with _ | v26
            · replace h := h.1 rfl
              refine SOps.val (v := .bool false) rfl (wantY (c := !decide (s20 = s23)) rfl rfl rfl (not_t dc25)) (fun w => ev_errNe (e := none) rfl Tryd.underlying24 rfl rfl w) ?_
              refine SOps.val (v := .bool false) rfl (wantN rfl) (fun w => ev_pickF (v := .bool false) rfl (t := !decide (s20 = s23)) rfl (not_t dc25) rfl w) ?_
              refine SOps.nil ?_
              refine SW.cond_f (t := false) rfl rfl ?_
              refine SW.skip ?_
              refine SW.seq ?_
              refine SW.region ?_
              refine SOps.val (v := .string s13) rfl (wantN rfl) (fun _ => by kernel_rfl) ?_
              refine SOps.val (v := .string s20) rfl (wantN rfl) (fun _ => by kernel_rfl) ?_
              obtain ⟨c27, h⟩ := h
              refine SOps.val (v := .string (s13 ++ s20)) rfl (wantN rfl) (fun w => ev_cat rfl rfl rfl c27 w) ?_
              refine SOps.val (v := .string s15) rfl (wantN rfl) (fun _ => by kernel_rfl) ?_
              obtain ⟨c28, h⟩ := h
              refine SOps.val (v := .string ((s13 ++ s20) ++ s15)) rfl (wantN rfl) (fun w => ev_cat rfl rfl rfl c28 w) ?_
              refine SOps.val (v := .string s13) rfl (wantN rfl) (fun _ => by kernel_rfl) ?_
              refine SOps.val (v := .int .i64 (s13.size : Int)) rfl (wantN rfl) (fun _ => by kernel_rfl) ?_
              refine SOps.enter rfl (wantN rfl) (fun _ => by kernel_rfl) (frame_Next.sound F ((s13 ++ s20) ++ s15) (s13.size : Int) H24 _ h) ?_
              clear h
              rintro v H32 ⟨s29, x30, e31, rfl, h⟩
              refine SOps.val (v := .tuple #[.string s29, .int .i64 x30, errV e31]) rfl (wantN rfl) (fun _ => by kernel_rfl) ?_
              refine SOps.val (v := .string s29) rfl (wantN rfl) (fun _ => by kernel_rfl) ?_
              refine SOps.val (v := .int .i64 x30) rfl (wantN rfl) (fun _ => by kernel_rfl) ?_
              refine SOps.val (v := errV e31) rfl (wantN rfl) (fun _ => by kernel_rfl) ?_
              refine SOps.val (v := .string s29) rfl (wantN rfl) (fun _ => by kernel_rfl) ?_
              refine SOps.val (v := .int .i64 x30) rfl (wantN rfl) (fun _ => by kernel_rfl) ?_
              refine SOps.val (v := errV e31) rfl (wantN rfl) (fun _ => by kernel_rfl) ?_
              refine SOps.nil ?_
              refine SW.seq ?_
              refine SW.region ?_
              refine SOps.val (v := .string s20) rfl (wantN rfl) (fun _ => by kernel_rfl) ?_
              refine SOps.enter rfl (wantN rfl) (fun _ => by kernel_rfl) (frame_Open.sound F s20 H32 _ h) ?_
              clear h
              rintro v H35 ⟨s33, e34, rfl, h⟩
              refine SOps.val (v := .tuple #[.string s33, errV e34]) rfl (wantN rfl) (fun _ => by kernel_rfl) ?_
              refine SOps.val (v := .string s33) rfl (wantN rfl) (fun _ => by kernel_rfl) ?_
              refine SOps.val (v := errV e34) rfl (wantN rfl) (fun _ => by kernel_rfl) ?_
              refine SOps.val (v := .string s33) rfl (wantN rfl) (fun _ => by kernel_rfl) ?_
              refine SOps.val (v := errV e34) rfl (wantN rfl) (fun _ => by kernel_rfl) ?_
              refine SOps.nil ?_
              refine SW.seq ?_
              refine SW.seq ?_
              refine SW.region ?_
              refine SOps.val (v := .string s29) rfl (wantN rfl) (fun _ => by kernel_rfl) ?_
              refine SOps.val (v := .string s1) rfl (wantN rfl) (fun _ => by kernel_rfl) ?_
              refine SOps.val (v := .bool (!decide (s29 = s1))) rfl (wantN rfl) (fun w => ev_neS rfl rfl rfl w) ?_
              refine SOps.val (v := .bool (!decide (s29 = s1))) rfl (wantN rfl) (fun _ => by kernel_rfl) ?_
              by_cases c36 : (s29 = s1)
              · replace h := h.1 c36
                have dc36 : (decide (s29 = s1)) = true := (decide_eq_true c36)
                refine SOps.val (v := .int .i64 x30) rfl (wantY (c := !decide (s29 = s1)) rfl rfl rfl (not_t dc36)) (fun _ => by kernel_rfl) ?_
                refine SOps.val (v := .string s13) rfl (wantY (c := !decide (s29 = s1)) rfl rfl rfl (not_t dc36)) (fun _ => by kernel_rfl) ?_
                refine SOps.val (v := .int .i64 (s13.size : Int)) rfl (wantY (c := !decide (s29 = s1)) rfl rfl rfl (not_t dc36)) (fun _ => by kernel_rfl) ?_
                refine SOps.val (v := .string s20) rfl (wantY (c := !decide (s29 = s1)) rfl rfl rfl (not_t dc36)) (fun _ => by kernel_rfl) ?_
                refine SOps.val (v := .int .i64 (s20.size : Int)) rfl (wantY (c := !decide (s29 = s1)) rfl rfl rfl (not_t dc36)) (fun _ => by kernel_rfl) ?_
                refine SOps.val (v := .int .i64 (w64 ((s13.size : Int) + (s20.size : Int)))) rfl (wantY (c := !decide (s29 = s1)) rfl rfl rfl (not_t dc36)) (fun _ => by kernel_rfl) ?_
                refine SOps.val (v := .bool (x30 != (w64 ((s13.size : Int) + (s20.size : Int))))) rfl (wantY (c := !decide (s29 = s1)) rfl rfl rfl (not_t dc36)) (fun _ => by kernel_rfl) ?_
                refine SOps.val (v := .bool (x30 != (w64 ((s13.size : Int) + (s20.size : Int))))) rfl (wantN rfl) (fun w => ev_pickF (v := .bool (x30 != (w64 ((s13.size : Int) + (s20.size : Int))))) rfl (t := !decide (s29 = s1)) rfl (not_t dc36) rfl w) ?_
                refine SOps.val (v := .bool (x30 != (w64 ((s13.size : Int) + (s20.size : Int))))) rfl (wantN rfl) (fun _ => by kernel_rfl) ?_
                by_cases c37 : x30 ≠ (w64 ((s13.size : Int) + (s20.size : Int)))
                · replace h := h.1 c37
                  have dc37 : (x30 != (w64 ((s13.size : Int) + (s20.size : Int)))) = true := (bne_iff_ne.mpr c37)
                  refine SOps.off rfl (wantX (c := (x30 != (w64 ((s13.size : Int) + (s20.size : Int))))) rfl rfl rfl dc37) ?_
                  refine SOps.off rfl (wantX (c := (x30 != (w64 ((s13.size : Int) + (s20.size : Int))))) rfl rfl rfl dc37) ?_
                  refine SOps.val (v := .bool true) rfl (wantN rfl) (fun w => ev_pickT (v := .bool true) rfl (t := (x30 != (w64 ((s13.size : Int) + (s20.size : Int))))) rfl dc37 rfl w) ?_
                  refine SOps.val (v := .bool true) rfl (wantN rfl) (fun _ => by kernel_rfl) ?_
                  refine SOps.off rfl (wantX (c := true) rfl rfl rfl rfl) ?_
                  refine SOps.off rfl (wantX (c := true) rfl rfl rfl rfl) ?_
                  refine SOps.off rfl (wantX (c := true) rfl rfl rfl rfl) ?_
                  refine SOps.val (v := .bool true) rfl (wantN rfl) (fun w => ev_pickT (v := .bool true) rfl (t := true) rfl rfl rfl w) ?_
                  refine SOps.val (v := .bool true) rfl (wantN rfl) (fun _ => by kernel_rfl) ?_
                  refine SOps.off rfl (wantX (c := true) rfl rfl rfl rfl) ?_
                  refine SOps.off rfl (wantX (c := true) rfl rfl rfl rfl) ?_
                  refine SOps.val (v := .bool true) rfl (wantN rfl) (fun w => ev_pickT (v := .bool true) rfl (t := true) rfl rfl rfl w) ?_
                  refine SOps.nil ?_
                  refine SW.cond_t (t := true) rfl rfl ?_
                  refine SW.seq ?_
                  refine SW.region ?_
                  refine SOps.val (v := .bool false) rfl (wantN rfl) (fun _ => by kernel_rfl) ?_
                  refine SOps.nil ?_
                  obtain ⟨Hr, hr, h⟩ := h
                  exact SW.ret (retQ.mk (.bool false) (res1 rfl rfl) hr ⟨false, rfl, h⟩)
                · replace h := h.2 c37
                  have dc37 : (x30 != (w64 ((s13.size : Int) + (s20.size : Int)))) = false := (by simpa using c37)
                  refine SOps.val (v := errV e31) rfl (wantY (c := (x30 != (w64 ((s13.size : Int) + (s20.size : Int))))) rfl rfl rfl dc37) (fun _ => by kernel_rfl) ?_
                  rcases e31 with _ | v38
                  · replace h := h.1 rfl
                    refine SOps.val (v := .bool false) rfl (wantY (c := (x30 != (w64 ((s13.size : Int) + (s20.size : Int))))) rfl rfl rfl dc37) (fun w => ev_errNe (e := none) rfl Tryd.underlying24 rfl rfl w) ?_
                    refine SOps.val (v := .bool false) rfl (wantN rfl) (fun w => ev_pickF (v := .bool false) rfl (t := (x30 != (w64 ((s13.size : Int) + (s20.size : Int))))) rfl dc37 rfl w) ?_
                    refine SOps.val (v := .bool false) rfl (wantN rfl) (fun _ => by kernel_rfl) ?_
                    refine SOps.val (v := .string s33) rfl (wantY (c := false) rfl rfl rfl rfl) (fun _ => by kernel_rfl) ?_
                    refine SOps.val (v := .string s1) rfl (wantY (c := false) rfl rfl rfl rfl) (fun _ => by kernel_rfl) ?_
                    refine SOps.val (v := .bool (!decide (s33 = s1))) rfl (wantY (c := false) rfl rfl rfl rfl) (fun w => ev_neS rfl rfl rfl w) ?_
                    refine SOps.val (v := .bool (!decide (s33 = s1))) rfl (wantN rfl) (fun w => ev_pickF (v := .bool (!decide (s33 = s1))) rfl (t := false) rfl rfl rfl w) ?_
                    refine SOps.val (v := .bool (!decide (s33 = s1))) rfl (wantN rfl) (fun _ => by kernel_rfl) ?_
                    by_cases c39 : (s33 = s1)
                    · replace h := h.1 c39
                      have dc39 : (decide (s33 = s1)) = true := (decide_eq_true c39)
                      refine SOps.val (v := errV e34) rfl (wantY (c := !decide (s33 = s1)) rfl rfl rfl (not_t dc39)) (fun _ => by kernel_rfl) ?_
                      rcases e34 with _ | v40
                      · replace h := h.1 rfl
                        refine SOps.val (v := .bool false) rfl (wantY (c := !decide (s33 = s1)) rfl rfl rfl (not_t dc39)) (fun w => ev_errNe (e := none) rfl Tryd.underlying24 rfl rfl w) ?_
                        refine SOps.val (v := .bool false) rfl (wantN rfl) (fun w => ev_pickF (v := .bool false) rfl (t := !decide (s33 = s1)) rfl (not_t dc39) rfl w) ?_
                        refine SOps.nil ?_
                        refine SW.cond_f (t := false) rfl rfl ?_
                        refine SW.skip ?_
                        refine SW.seq ?_
                        refine SW.region ?_
                        refine SOps.val (v := .string s20) rfl (wantN rfl) (fun _ => by kernel_rfl) ?_
                        refine SOps.bytes rfl rfl (wantN rfl) Tryd.underlying9 Tryd.underlying46 Tryd.underlying5 rfl (fun b41 n42 c43 c44 => ?_)
                        replace h := h b41 n42 c43 c44
                        refine SOps.val (v := sv (⟨some (b41, 0), s20.size, n42⟩ : Sl)) rfl (wantN rfl) (fun _ => by kernel_rfl) ?_
                        refine SOps.nil ?_
                        refine SW.seq ?_
                        refine SW.region ?_
                        refine SOps.val (v := pv (some (b8, 0))) rfl (wantN rfl) (fun _ => by kernel_rfl) ?_
                        obtain ⟨x45, c46, h⟩ := h
                        refine SOps.rd (v := .int .u16 x45) rfl (wantN rfl) (fun w hw => ev_load1 rfl (fun _ => by kernel_rfl) (p := (b8, 0)) rfl c46 w hw) ?_
                        refine SOps.val (v := .int .i64 (w64 x45)) rfl (wantN rfl) (fun _ => by kernel_rfl) ?_
                        refine SOps.val (v := sv (⟨some (b41, 0), s20.size, n42⟩ : Sl)) rfl (wantN rfl) (fun _ => by kernel_rfl) ?_
                        refine SOps.val (v := .int .i64 ((⟨some (b41, 0), s20.size, n42⟩ : Sl).len : Int)) rfl (wantN rfl) (fun _ => by kernel_rfl) ?_
                        obtain ⟨c47, h⟩ := h
                        refine SOps.val (v := .int .i64 ((w64 x45).tmod ((⟨some (b41, 0), s20.size, n42⟩ : Sl).len : Int))) rfl (wantN rfl) (fun w => ev_rem rfl rfl rfl c47 w) ?_
                        refine SOps.val (v := .int .i64 ((w64 x45).tmod ((⟨some (b41, 0), s20.size, n42⟩ : Sl).len : Int))) rfl (wantN rfl) (fun _ => by kernel_rfl) ?_
                        refine SOps.nil ?_
                        refine SW.seq ?_
                        obtain ⟨p48, c49, c50, c51, h⟩ := h
                        obtain ⟨x52, c53, h⟩ := h
                        obtain ⟨x54, c55, h⟩ := h
                        obtain ⟨p56, c57, c58, c59, h⟩ := h
                        refine SW.drawA [.val (sv (⟨some (b41, 0), s20.size, n42⟩ : Sl)), .val (.int .i64 ((w64 x45).tmod ((⟨some (b41, 0), s20.size, n42⟩ : Sl).len : Int))), .val (pv (some (p48.1, (p48.2 + ((w64 x45).tmod ((⟨some (b41, 0), s20.size, n42⟩ : Sl).len : Int)).toNat * 1)))), .val (.int .u8 x52), .val (pv (some (b8, 1))), .val (.int .u16 x54), .val (.int .u8 (IntKind.u8.wrap x54)), .val (.int .u8 (ibits .xor .u8 x52 (IntKind.u8.wrap x54))), .val (pv (some (p56.1, (p56.2 + ((w64 x45).tmod ((⟨some (b41, 0), s20.size, n42⟩ : Sl).len : Int)).toNat * 1))))] (by kernel_rfl) (by kernel_rfl) (And.intro ?_ (And.intro ?_ (And.intro ?_ (And.intro ?_ (And.intro ?_ (And.intro ?_ (And.intro ?_ (And.intro ?_ (And.intro ?_ (trivial)))))))))) ?_
                        · clear h
                          intro fr' T' H' hle hs hA
                          have a16 : fr' 16 = sv (⟨some (b41, 0), s20.size, n42⟩ : Sl) := hs 16 (by kernel_rfl)
                          obtain ⟨g', hg'⟩ : ∃ g' : Fr, fr' = g'.upds [(16, sv (⟨some (b41, 0), s20.size, n42⟩ : Sl))] := ⟨_, Fr.upds_self _ _ ⟨a16, trivial⟩⟩
                          subst hg'
                          exact SA.val (v := sv (⟨some (b41, 0), s20.size, n42⟩ : Sl)) rfl (wantN rfl) (fun _ => by kernel_rfl)
                        · clear h
                          intro fr' T' H' hle hs hA
                          have a17 : fr' 17 = (.int .i64 ((w64 x45).tmod ((⟨some (b41, 0), s20.size, n42⟩ : Sl).len : Int)) : Value) := hs 17 (by kernel_rfl)
                          obtain ⟨g', hg'⟩ : ∃ g' : Fr, fr' = g'.upds [(17, (.int .i64 ((w64 x45).tmod ((⟨some (b41, 0), s20.size, n42⟩ : Sl).len : Int)) : Value))] := ⟨_, Fr.upds_self _ _ ⟨a17, trivial⟩⟩
                          subst hg'
                          exact SA.val (v := .int .i64 ((w64 x45).tmod ((⟨some (b41, 0), s20.size, n42⟩ : Sl).len : Int))) rfl (wantN rfl) (fun _ => by kernel_rfl)
                        · clear h
                          intro fr' T' H' hle hs hA
                          have a106 : fr' 106 = sv (⟨some (b41, 0), s20.size, n42⟩ : Sl) := hA 0 (by kernel_rfl)
                          have a107 : fr' 107 = (.int .i64 ((w64 x45).tmod ((⟨some (b41, 0), s20.size, n42⟩ : Sl).len : Int)) : Value) := hA 1 (by kernel_rfl)
                          obtain ⟨g', hg'⟩ : ∃ g' : Fr, fr' = g'.upds [(106, sv (⟨some (b41, 0), s20.size, n42⟩ : Sl)), (107, (.int .i64 ((w64 x45).tmod ((⟨some (b41, 0), s20.size, n42⟩ : Sl).len : Int)) : Value))] := ⟨_, Fr.upds_self _ _ ⟨a106, a107, trivial⟩⟩
                          subst hg'
                          exact SA.val (v := pv (some (p48.1, (p48.2 + ((w64 x45).tmod ((⟨some (b41, 0), s20.size, n42⟩ : Sl).len : Int)).toNat * 1)))) rfl (wantN rfl) (fun w => ev_iaddr rfl Tryd.underlying46 (size := 1) (by kernel_rfl) rfl rfl c49 c50 c51 w)
                        · clear h
                          intro fr' T' H' hle hs hA
                          have a108 : fr' 108 = pv (some (p48.1, (p48.2 + ((w64 x45).tmod ((⟨some (b41, 0), s20.size, n42⟩ : Sl).len : Int)).toNat * 1))) := hA 2 (by kernel_rfl)
                          obtain ⟨g', hg'⟩ : ∃ g' : Fr, fr' = g'.upds [(108, pv (some (p48.1, (p48.2 + ((w64 x45).tmod ((⟨some (b41, 0), s20.size, n42⟩ : Sl).len : Int)).toNat * 1))))] := ⟨_, Fr.upds_self _ _ ⟨a108, trivial⟩⟩
                          subst hg'
                          exact SA.rd hle (v := .int .u8 x52) rfl (wantN rfl) (fun w hw => ev_load1 rfl (fun _ => by kernel_rfl) (p := (p48.1, (p48.2 + ((w64 x45).tmod ((⟨some (b41, 0), s20.size, n42⟩ : Sl).len : Int)).toNat * 1))) rfl c53 w hw)
                        · clear h
                          intro fr' T' H' hle hs hA
                          have a5 : fr' 5 = pv (some (b8, 0)) := hs 5 (by kernel_rfl)
                          obtain ⟨g', hg'⟩ : ∃ g' : Fr, fr' = g'.upds [(5, pv (some (b8, 0)))] := ⟨_, Fr.upds_self _ _ ⟨a5, trivial⟩⟩
                          subst hg'
                          exact SA.val (v := pv (some (b8, 1))) rfl (wantN rfl) (fun _ => by kernel_rfl)
                        · clear h
                          intro fr' T' H' hle hs hA
                          have a110 : fr' 110 = pv (some (b8, 1)) := hA 4 (by kernel_rfl)
                          obtain ⟨g', hg'⟩ : ∃ g' : Fr, fr' = g'.upds [(110, pv (some (b8, 1)))] := ⟨_, Fr.upds_self _ _ ⟨a110, trivial⟩⟩
                          subst hg'
                          exact SA.rd hle (v := .int .u16 x54) rfl (wantN rfl) (fun w hw => ev_load1 rfl (fun _ => by kernel_rfl) (p := (b8, 1)) rfl c55 w hw)
                        · clear h
                          intro fr' T' H' hle hs hA
                          have a111 : fr' 111 = (.int .u16 x54 : Value) := hA 5 (by kernel_rfl)
                          obtain ⟨g', hg'⟩ : ∃ g' : Fr, fr' = g'.upds [(111, (.int .u16 x54 : Value))] := ⟨_, Fr.upds_self _ _ ⟨a111, trivial⟩⟩
                          subst hg'
                          exact SA.val (v := .int .u8 (IntKind.u8.wrap x54)) rfl (wantN rfl) (fun _ => by kernel_rfl)
                        · clear h
                          intro fr' T' H' hle hs hA
                          have a109 : fr' 109 = (.int .u8 x52 : Value) := hA 3 (by kernel_rfl)
                          have a112 : fr' 112 = (.int .u8 (IntKind.u8.wrap x54) : Value) := hA 6 (by kernel_rfl)
                          obtain ⟨g', hg'⟩ : ∃ g' : Fr, fr' = g'.upds [(109, (.int .u8 x52 : Value)), (112, (.int .u8 (IntKind.u8.wrap x54) : Value))] := ⟨_, Fr.upds_self _ _ ⟨a109, a112, trivial⟩⟩
                          subst hg'
                          exact SA.val (v := .int .u8 (ibits .xor .u8 x52 (IntKind.u8.wrap x54))) rfl (wantN rfl) (fun _ => by kernel_rfl)
                        · clear h
                          intro fr' T' H' hle hs hA
                          have a106 : fr' 106 = sv (⟨some (b41, 0), s20.size, n42⟩ : Sl) := hA 0 (by kernel_rfl)
                          have a107 : fr' 107 = (.int .i64 ((w64 x45).tmod ((⟨some (b41, 0), s20.size, n42⟩ : Sl).len : Int)) : Value) := hA 1 (by kernel_rfl)
                          obtain ⟨g', hg'⟩ : ∃ g' : Fr, fr' = g'.upds [(106, sv (⟨some (b41, 0), s20.size, n42⟩ : Sl)), (107, (.int .i64 ((w64 x45).tmod ((⟨some (b41, 0), s20.size, n42⟩ : Sl).len : Int)) : Value))] := ⟨_, Fr.upds_self _ _ ⟨a106, a107, trivial⟩⟩
                          subst hg'
                          exact SA.val (v := pv (some (p56.1, (p56.2 + ((w64 x45).tmod ((⟨some (b41, 0), s20.size, n42⟩ : Sl).len : Int)).toNat * 1)))) rfl (wantN rfl) (fun w => ev_iaddr rfl Tryd.underlying46 (size := 1) (by kernel_rfl) rfl rfl c57 c58 c59 w)
                        · intro fr' T' H' hle hs hA
                          have a5 : fr' 5 = pv (some (b8, 0)) := hs 5 (by kernel_rfl)
                          have a9 : fr' 9 = (.string s20 : Value) := hs 9 (by kernel_rfl)
                          have a16 : fr' 16 = sv (⟨some (b41, 0), s20.size, n42⟩ : Sl) := hs 16 (by kernel_rfl)
                          have a113 : fr' 113 = (.int .u8 (ibits .xor .u8 x52 (IntKind.u8.wrap x54)) : Value) := hA 7 (Nat.le_of_ble_eq_true rfl)
                          have a114 : fr' 114 = pv (some (p56.1, (p56.2 + ((w64 x45).tmod ((⟨some (b41, 0), s20.size, n42⟩ : Sl).len : Int)).toNat * 1))) := hA 8 (Nat.le_of_ble_eq_true rfl)
                          obtain ⟨g', hg'⟩ : ∃ g' : Fr, fr' = g'.upds [(5, pv (some (b8, 0))), (9, (.string s20 : Value)), (16, sv (⟨some (b41, 0), s20.size, n42⟩ : Sl)), (113, (.int .u8 (ibits .xor .u8 x52 (IntKind.u8.wrap x54)) : Value)), (114, pv (some (p56.1, (p56.2 + ((w64 x45).tmod ((⟨some (b41, 0), s20.size, n42⟩ : Sl).len : Int)).toNat * 1))))] := ⟨_, Fr.upds_self _ _ ⟨a5, a9, a16, a113, a114, trivial⟩⟩
                          subst hg'
                          refine SOps.forget (SH.upd H35 b41 ⟨byteCells s20.data.toList, 5, false, n42⟩) hle ?_
                          clear hle hs hA
                          obtain ⟨c60, h⟩ := h
                          refine SOps.storeL (p := (p56.1, (p56.2 + ((w64 x45).tmod ((⟨some (b41, 0), s20.size, n42⟩ : Sl).len : Int)).toNat * 1))) (v := .int .u8 (ibits .xor .u8 x52 (IntKind.u8.wrap x54))) (cs := [.int .u8 (ibits .xor .u8 x52 (IntKind.u8.wrap x54))]) rfl rfl (wantN rfl) (size := 1) (by kernel_rfl) rfl rfl rfl rfl (by simp [Value.oneCell', errV_one, pv, sv]) c60 ?_
                          refine SOps.nil ?_
                          refine SW.seq ?_
                          refine SW.region ?_
                          refine SOps.val (v := sv (⟨some (b41, 0), s20.size, n42⟩ : Sl)) rfl (wantN rfl) (fun _ => by kernel_rfl) ?_
                          obtain ⟨bs61, c62, c63, h⟩ := h
                          refine SOps.rd (v := .string (⟨bs61.toArray⟩ : ByteArray)) rfl (wantN rfl) (fun w hw => ev_str rfl Tryd.underlying46 Tryd.underlying5 Tryd.underlying9 rfl c62 c63 w hw) ?_
                          refine SOps.enter rfl (wantN rfl) (fun _ => by kernel_rfl) (frame_Open.sound F (⟨bs61.toArray⟩ : ByteArray) (SH.setl (SH.upd H35 b41 ⟨byteCells s20.data.toList, 5, false, n42⟩) (p56.1, (p56.2 + ((w64 x45).tmod ((⟨some (b41, 0), s20.size, n42⟩ : Sl).len : Int)).toNat * 1)) [.int .u8 (ibits .xor .u8 x52 (IntKind.u8.wrap x54))]) _ h) ?_
                          clear h
                          rintro v H66 ⟨s64, e65, rfl, h⟩
                          refine SOps.val (v := .tuple #[.string s64, errV e65]) rfl (wantN rfl) (fun _ => by kernel_rfl) ?_
                          refine SOps.val (v := .string s64) rfl (wantN rfl) (fun _ => by kernel_rfl) ?_
                          refine SOps.val (v := errV e65) rfl (wantN rfl) (fun _ => by kernel_rfl) ?_
                          refine SOps.val (v := .string s64) rfl (wantN rfl) (fun _ => by kernel_rfl) ?_
                          refine SOps.val (v := errV e65) rfl (wantN rfl) (fun _ => by kernel_rfl) ?_
                          refine SOps.nil ?_
                          refine SW.seqJ (fun fr H => ∃ (g : Fr) (s72 : ByteArray), fr = g.upds [(9, (.string s72 : Value))] ∧ ladinglaw03_FrameSeals.j1 F K s72 H) ?_ ?_
                          · clear h
                            rintro fr H ⟨g, s72, rfl, h⟩
                            unfold ladinglaw03_FrameSeals.j1 at h
                            refine SW.seq ?_
                            refine SW.region ?_
                            refine SOps.val (v := .string s72) rfl (wantN rfl) (fun _ => by kernel_rfl) ?_
                            obtain ⟨c73, h⟩ := h
                            refine SOps.val (v := .string (s72 ++ (⟨#[122]⟩ : ByteArray))) rfl (wantN rfl) (fun w => ev_cat rfl rfl rfl c73 w) ?_
                            refine SOps.enter rfl (wantN rfl) (fun _ => by kernel_rfl) (frame_Open.sound F (s72 ++ (⟨#[122]⟩ : ByteArray)) H _ h) ?_
                            clear h
                            rintro v H76 ⟨s74, e75, rfl, h⟩
                            refine SOps.val (v := .tuple #[.string s74, errV e75]) rfl (wantN rfl) (fun _ => by kernel_rfl) ?_
                            refine SOps.val (v := .string s74) rfl (wantN rfl) (fun _ => by kernel_rfl) ?_
                            refine SOps.val (v := errV e75) rfl (wantN rfl) (fun _ => by kernel_rfl) ?_
                            refine SOps.val (v := .string s74) rfl (wantN rfl) (fun _ => by kernel_rfl) ?_
                            refine SOps.val (v := errV e75) rfl (wantN rfl) (fun _ => by kernel_rfl) ?_
                            refine SOps.nil ?_
                            refine SW.seq ?_
                            refine SW.region ?_
                            obtain ⟨c79, c80, h⟩ := h
                            refine SOps.make (z := .int .u8 0) (size := 1) (bytes := 1) rfl rfl (wantN rfl) Tryd.underlying46 (by kernel_rfl) rfl (by decide) (by decide) rfl rfl c79 c80 (fun b77 c78 => ?_)
                            replace h := h b77 c78
                            obtain ⟨bs81, c82, c83, h⟩ := h
                            refine SOps.rd (v := .string (⟨bs81.toArray⟩ : ByteArray)) rfl (wantN rfl) (fun w hw => ev_str rfl Tryd.underlying46 Tryd.underlying5 Tryd.underlying9 rfl c82 c83 w hw) ?_
                            refine SOps.enter rfl (wantN rfl) (fun _ => by kernel_rfl) (frame_Seal.sound F (⟨bs81.toArray⟩ : ByteArray) (SH.upd H76 b77 ⟨(Builtin.zeroCells (Value.cells (.int .u8 0 : Value)) (60001 : Int).toNat).toList, 5, false, (60001 : Int).toNat * 1⟩) _ h) ?_
                            clear h
                            rintro v H86 ⟨s84, e85, rfl, h⟩
                            refine SOps.val (v := .tuple #[.string s84, errV e85]) rfl (wantN rfl) (fun _ => by kernel_rfl) ?_
                            refine SOps.val (v := .string s84) rfl (wantN rfl) (fun _ => by kernel_rfl) ?_
                            refine SOps.val (v := errV e85) rfl (wantN rfl) (fun _ => by kernel_rfl) ?_
                            refine SOps.val (v := .string s84) rfl (wantN rfl) (fun _ => by kernel_rfl) ?_
                            refine SOps.val (v := errV e85) rfl (wantN rfl) (fun _ => by kernel_rfl) ?_
                            refine SOps.nil ?_
                            refine SW.seq ?_
                            refine SW.region ?_
                            refine SOps.val (v := .string s74) rfl (wantN rfl) (fun _ => by kernel_rfl) ?_
                            refine SOps.val (v := .bool (decide (s74 = ByteArray.empty))) rfl (wantN rfl) (fun w => ev_eqS rfl rfl rfl w) ?_
                            refine SOps.val (v := .bool (decide (s74 = ByteArray.empty))) rfl (wantN rfl) (fun _ => by kernel_rfl) ?_
                            by_cases c87 : s74 = ByteArray.empty
                            · replace h := h.1 c87
                              have dc87 : (decide (s74 = ByteArray.empty)) = true := (decide_eq_true c87)
                              refine SOps.val (v := errV e75) rfl (wantY (c := decide (s74 = ByteArray.empty)) rfl rfl rfl dc87) (fun _ => by kernel_rfl) ?_
                              refine SOps.enter rfl (wantY (c := decide (s74 = ByteArray.empty)) rfl rfl rfl dc87) (fun _ => by kernel_rfl) (api_Code.sound F e75 H86 _ h) ?_
                              clear h
                              rintro v H89 ⟨x88, rfl, h⟩
                              refine SOps.val (v := .bool (x88 == 4)) rfl (wantY (c := decide (s74 = ByteArray.empty)) rfl rfl rfl dc87) (fun _ => by kernel_rfl) ?_
                              refine SOps.val (v := .bool (x88 == 4)) rfl (wantN rfl) (fun w => ev_pickT (v := .bool (x88 == 4)) rfl (t := decide (s74 = ByteArray.empty)) rfl dc87 rfl w) ?_
                              refine SOps.val (v := .bool (x88 == 4)) rfl (wantN rfl) (fun _ => by kernel_rfl) ?_
                              by_cases c90 : x88 = 4
                              · replace h := h.1 c90
                                have dc90 : (x88 == 4) = true := (beq_iff_eq.mpr c90)
                                refine SOps.val (v := errV e75) rfl (wantY (c := (x88 == 4)) rfl rfl rfl dc90) (fun _ => by kernel_rfl) ?_
                                refine SOps.enter rfl (wantY (c := (x88 == 4)) rfl rfl rfl dc90) (fun _ => by kernel_rfl) (api_Place.sound F e75 H89 _ h) ?_
                                clear h
                                rintro v H92 ⟨x91, rfl, h⟩
                                refine SOps.val (v := .string s72) rfl (wantY (c := (x88 == 4)) rfl rfl rfl dc90) (fun _ => by kernel_rfl) ?_
                                refine SOps.val (v := .int .i64 (s72.size : Int)) rfl (wantY (c := (x88 == 4)) rfl rfl rfl dc90) (fun _ => by kernel_rfl) ?_
                                refine SOps.val (v := .bool (x91 == (s72.size : Int))) rfl (wantY (c := (x88 == 4)) rfl rfl rfl dc90) (fun _ => by kernel_rfl) ?_
                                refine SOps.val (v := .bool (x91 == (s72.size : Int))) rfl (wantN rfl) (fun w => ev_pickT (v := .bool (x91 == (s72.size : Int))) rfl (t := (x88 == 4)) rfl dc90 rfl w) ?_
                                refine SOps.val (v := .bool (x91 == (s72.size : Int))) rfl (wantN rfl) (fun _ => by kernel_rfl) ?_
                                by_cases c93 : x91 = (s72.size : Int)
                                · replace h := h.1 c93
                                  have dc93 : (x91 == (s72.size : Int)) = true := (beq_iff_eq.mpr c93)
                                  refine SOps.val (v := errV e85) rfl (wantY (c := (x91 == (s72.size : Int))) rfl rfl rfl dc93) (fun _ => by kernel_rfl) ?_
                                  refine SOps.enter rfl (wantY (c := (x91 == (s72.size : Int))) rfl rfl rfl dc93) (fun _ => by kernel_rfl) (api_Code.sound F e85 H92 _ h) ?_
                                  clear h
                                  rintro v H95 ⟨x94, rfl, h⟩
                                  refine SOps.val (v := .bool (x94 == 6)) rfl (wantY (c := (x91 == (s72.size : Int))) rfl rfl rfl dc93) (fun _ => by kernel_rfl) ?_
                                  refine SOps.val (v := .bool (x94 == 6)) rfl (wantN rfl) (fun w => ev_pickT (v := .bool (x94 == 6)) rfl (t := (x91 == (s72.size : Int))) rfl dc93 rfl w) ?_
                                  refine SOps.val (v := .bool (x94 == 6)) rfl (wantN rfl) (fun _ => by kernel_rfl) ?_
                                  refine SOps.nil ?_
                                  obtain ⟨Hr, hr, h⟩ := h
                                  exact SW.ret (retQ.mk (.bool (x94 == 6)) (res1 rfl rfl) hr ⟨(x94 == 6), rfl, h⟩)
                                · replace h := h.2 c93
                                  have dc93 : (x91 == (s72.size : Int)) = false := (beq_eq_false_iff_ne.mpr c93)
                                  refine SOps.off rfl (wantX (c := (x91 == (s72.size : Int))) rfl rfl rfl dc93) ?_
                                  refine SOps.off rfl (wantX (c := (x91 == (s72.size : Int))) rfl rfl rfl dc93) ?_
                                  refine SOps.off rfl (wantX (c := (x91 == (s72.size : Int))) rfl rfl rfl dc93) ?_
                                  refine SOps.val (v := .bool false) rfl (wantN rfl) (fun w => ev_pickF (v := .bool false) rfl (t := (x91 == (s72.size : Int))) rfl dc93 rfl w) ?_
                                  refine SOps.val (v := .bool false) rfl (wantN rfl) (fun _ => by kernel_rfl) ?_
                                  refine SOps.nil ?_
                                  obtain ⟨Hr, hr, h⟩ := h
                                  exact SW.ret (retQ.mk (.bool false) (res1 rfl rfl) hr ⟨false, rfl, h⟩)
                              · replace h := h.2 c90
                                have dc90 : (x88 == 4) = false := (beq_eq_false_iff_ne.mpr c90)
                                refine SOps.off rfl (wantX (c := (x88 == 4)) rfl rfl rfl dc90) ?_
                                refine SOps.off rfl (wantX (c := (x88 == 4)) rfl rfl rfl dc90) ?_
                                refine SOps.off rfl (wantX (c := (x88 == 4)) rfl rfl rfl dc90) ?_
                                refine SOps.off rfl (wantX (c := (x88 == 4)) rfl rfl rfl dc90) ?_
                                refine SOps.off rfl (wantX (c := (x88 == 4)) rfl rfl rfl dc90) ?_
                                refine SOps.val (v := .bool false) rfl (wantN rfl) (fun w => ev_pickF (v := .bool false) rfl (t := (x88 == 4)) rfl dc90 rfl w) ?_
                                refine SOps.val (v := .bool false) rfl (wantN rfl) (fun _ => by kernel_rfl) ?_
                                refine SOps.off rfl (wantX (c := false) rfl rfl rfl rfl) ?_
                                refine SOps.off rfl (wantX (c := false) rfl rfl rfl rfl) ?_
                                refine SOps.off rfl (wantX (c := false) rfl rfl rfl rfl) ?_
                                refine SOps.val (v := .bool false) rfl (wantN rfl) (fun w => ev_pickF (v := .bool false) rfl (t := false) rfl rfl rfl w) ?_
                                refine SOps.val (v := .bool false) rfl (wantN rfl) (fun _ => by kernel_rfl) ?_
                                refine SOps.nil ?_
                                obtain ⟨Hr, hr, h⟩ := h
                                exact SW.ret (retQ.mk (.bool false) (res1 rfl rfl) hr ⟨false, rfl, h⟩)
                            · replace h := h.2 c87
                              have dc87 : (decide (s74 = ByteArray.empty)) = false := (decide_eq_false c87)
                              refine SOps.off rfl (wantX (c := decide (s74 = ByteArray.empty)) rfl rfl rfl dc87) ?_
                              refine SOps.off rfl (wantX (c := decide (s74 = ByteArray.empty)) rfl rfl rfl dc87) ?_
                              refine SOps.off rfl (wantX (c := decide (s74 = ByteArray.empty)) rfl rfl rfl dc87) ?_
                              refine SOps.val (v := .bool false) rfl (wantN rfl) (fun w => ev_pickF (v := .bool false) rfl (t := decide (s74 = ByteArray.empty)) rfl dc87 rfl w) ?_
                              refine SOps.val (v := .bool false) rfl (wantN rfl) (fun _ => by kernel_rfl) ?_
                              refine SOps.off rfl (wantX (c := false) rfl rfl rfl rfl) ?_
                              refine SOps.off rfl (wantX (c := false) rfl rfl rfl rfl) ?_
                              refine SOps.off rfl (wantX (c := false) rfl rfl rfl rfl) ?_
                              refine SOps.off rfl (wantX (c := false) rfl rfl rfl rfl) ?_
                              refine SOps.off rfl (wantX (c := false) rfl rfl rfl rfl) ?_
                              refine SOps.val (v := .bool false) rfl (wantN rfl) (fun w => ev_pickF (v := .bool false) rfl (t := false) rfl rfl rfl w) ?_
                              refine SOps.val (v := .bool false) rfl (wantN rfl) (fun _ => by kernel_rfl) ?_
                              refine SOps.off rfl (wantX (c := false) rfl rfl rfl rfl) ?_
                              refine SOps.off rfl (wantX (c := false) rfl rfl rfl rfl) ?_
                              refine SOps.off rfl (wantX (c := false) rfl rfl rfl rfl) ?_
                              refine SOps.val (v := .bool false) rfl (wantN rfl) (fun w => ev_pickF (v := .bool false) rfl (t := false) rfl rfl rfl w) ?_
                              refine SOps.val (v := .bool false) rfl (wantN rfl) (fun _ => by kernel_rfl) ?_
                              refine SOps.nil ?_
                              obtain ⟨Hr, hr, h⟩ := h
                              exact SW.ret (retQ.mk (.bool false) (res1 rfl rfl) hr ⟨false, rfl, h⟩)
                          · skip
                            refine SW.seq ?_
                            refine SW.region ?_
                            refine SOps.val (v := pv (some (b8, 1))) rfl (wantN rfl) (fun _ => by kernel_rfl) ?_
                            obtain ⟨x67, c68, h⟩ := h
                            refine SOps.rd (v := .int .u16 x67) rfl (wantN rfl) (fun w hw => ev_load1 rfl (fun _ => by kernel_rfl) (p := (b8, 1)) rfl c68 w hw) ?_
                            refine SOps.val (v := .int .u8 (IntKind.u8.wrap x67)) rfl (wantN rfl) (fun _ => by kernel_rfl) ?_
                            refine SOps.val (v := .bool ((IntKind.u8.wrap x67) != 0)) rfl (wantN rfl) (fun _ => by kernel_rfl) ?_
                            refine SOps.val (v := .bool ((IntKind.u8.wrap x67) != 0)) rfl (wantN rfl) (fun _ => by kernel_rfl) ?_
                            by_cases c69 : (IntKind.u8.wrap x67) ≠ 0
                            · replace h := h.1 c69
                              have dc69 : ((IntKind.u8.wrap x67) != 0) = true := (bne_iff_ne.mpr c69)
                              refine SOps.val (v := .string s64) rfl (wantY (c := ((IntKind.u8.wrap x67) != 0)) rfl rfl rfl dc69) (fun _ => by kernel_rfl) ?_
                              refine SOps.val (v := .bool (!decide (s64 = ByteArray.empty))) rfl (wantY (c := ((IntKind.u8.wrap x67) != 0)) rfl rfl rfl dc69) (fun w => ev_neS rfl rfl rfl w) ?_
                              refine SOps.val (v := .bool (!decide (s64 = ByteArray.empty))) rfl (wantY (c := ((IntKind.u8.wrap x67) != 0)) rfl rfl rfl dc69) (fun _ => by kernel_rfl) ?_
                              by_cases c70 : (s64 = ByteArray.empty)
                              · replace h := h.1 c70
                                have dc70 : (decide (s64 = ByteArray.empty)) = true := (decide_eq_true c70)
                                refine SOps.val (v := errV e65) rfl (wantY (c := !decide (s64 = ByteArray.empty)) rfl rfl rfl (not_t dc70)) (fun _ => by kernel_rfl) ?_
                                rcases e65 with _ | v71
                                · replace h := h.1 rfl
                                  refine SOps.val (v := .bool true) rfl (wantY (c := !decide (s64 = ByteArray.empty)) rfl rfl rfl (not_t dc70)) (fun w => ev_errEq (e := none) rfl Tryd.underlying24 rfl rfl w) ?_
                                  refine SOps.val (v := .bool true) rfl (wantY (c := ((IntKind.u8.wrap x67) != 0)) rfl rfl rfl dc69) (fun w => ev_pickF (v := .bool true) rfl (t := !decide (s64 = ByteArray.empty)) rfl (not_t dc70) rfl w) ?_
                                  refine SOps.val (v := .bool true) rfl (wantN rfl) (fun w => ev_pickT (v := .bool true) rfl (t := ((IntKind.u8.wrap x67) != 0)) rfl dc69 rfl w) ?_
                                  refine SOps.nil ?_
                                  refine SW.cond_t (t := true) rfl rfl ?_
                                  refine SW.seq ?_
                                  refine SW.region ?_
                                  refine SOps.val (v := .bool false) rfl (wantN rfl) (fun _ => by kernel_rfl) ?_
                                  refine SOps.nil ?_
                                  obtain ⟨Hr, hr, h⟩ := h
                                  exact SW.ret (retQ.mk (.bool false) (res1 rfl rfl) hr ⟨false, rfl, h⟩)
                                · replace h := h.2 v71 rfl
                                  refine SOps.val (v := .bool false) rfl (wantY (c := !decide (s64 = ByteArray.empty)) rfl rfl rfl (not_t dc70)) (fun w => ev_errEq (e := some v71) rfl Tryd.underlying24 rfl rfl w) ?_
                                  refine SOps.val (v := .bool false) rfl (wantY (c := ((IntKind.u8.wrap x67) != 0)) rfl rfl rfl dc69) (fun w => ev_pickF (v := .bool false) rfl (t := !decide (s64 = ByteArray.empty)) rfl (not_t dc70) rfl w) ?_
                                  refine SOps.val (v := .bool false) rfl (wantN rfl) (fun w => ev_pickT (v := .bool false) rfl (t := ((IntKind.u8.wrap x67) != 0)) rfl dc69 rfl w) ?_
                                  refine SOps.nil ?_
                                  refine SW.cond_f (t := false) rfl rfl ?_
                                  refine SW.skip ?_
                                  exact ⟨_, s20, Fr.upds_self _ _ ⟨rfl, trivial⟩, h⟩
                              · replace h := h.2 c70
                                have dc70 : (decide (s64 = ByteArray.empty)) = false := (decide_eq_false c70)
                                refine SOps.off rfl (wantX (c := !decide (s64 = ByteArray.empty)) rfl rfl rfl (not_f dc70)) ?_
                                refine SOps.off rfl (wantX (c := !decide (s64 = ByteArray.empty)) rfl rfl rfl (not_f dc70)) ?_
                                refine SOps.val (v := .bool true) rfl (wantY (c := ((IntKind.u8.wrap x67) != 0)) rfl rfl rfl dc69) (fun w => ev_pickT (v := .bool true) rfl (t := !decide (s64 = ByteArray.empty)) rfl (not_f dc70) rfl w) ?_
                                refine SOps.val (v := .bool true) rfl (wantN rfl) (fun w => ev_pickT (v := .bool true) rfl (t := ((IntKind.u8.wrap x67) != 0)) rfl dc69 rfl w) ?_
                                refine SOps.nil ?_
                                refine SW.cond_t (t := true) rfl rfl ?_
                                refine SW.seq ?_
                                refine SW.region ?_
                                refine SOps.val (v := .bool false) rfl (wantN rfl) (fun _ => by kernel_rfl) ?_
                                refine SOps.nil ?_
                                obtain ⟨Hr, hr, h⟩ := h
                                exact SW.ret (retQ.mk (.bool false) (res1 rfl rfl) hr ⟨false, rfl, h⟩)
                            · replace h := h.2 c69
                              have dc69 : ((IntKind.u8.wrap x67) != 0) = false := (by simpa using c69)
                              refine SOps.off rfl (wantX (c := ((IntKind.u8.wrap x67) != 0)) rfl rfl rfl dc69) ?_
                              refine SOps.off rfl (wantX (c := ((IntKind.u8.wrap x67) != 0)) rfl rfl rfl dc69) ?_
                              refine SOps.off rfl (wantX (c := ((IntKind.u8.wrap x67) != 0)) rfl rfl rfl dc69) ?_
                              refine SOps.off rfl (wantU rfl rfl rfl) ?_
                              refine SOps.off rfl (wantU rfl rfl rfl) ?_
                              refine SOps.off rfl (wantX (c := ((IntKind.u8.wrap x67) != 0)) rfl rfl rfl dc69) ?_
                              refine SOps.val (v := .bool false) rfl (wantN rfl) (fun w => ev_pickF (v := .bool false) rfl (t := ((IntKind.u8.wrap x67) != 0)) rfl dc69 rfl w) ?_
                              refine SOps.nil ?_
                              refine SW.cond_f (t := false) rfl rfl ?_
                              refine SW.skip ?_
                              exact ⟨_, s20, Fr.upds_self _ _ ⟨rfl, trivial⟩, h⟩
                      · replace h := h.2 v40 rfl
                        refine SOps.val (v := .bool true) rfl (wantY (c := !decide (s33 = s1)) rfl rfl rfl (not_t dc39)) (fun w => ev_errNe (e := some v40) rfl Tryd.underlying24 rfl rfl w) ?_
                        refine SOps.val (v := .bool true) rfl (wantN rfl) (fun w => ev_pickF (v := .bool true) rfl (t := !decide (s33 = s1)) rfl (not_t dc39) rfl w) ?_
                        refine SOps.nil ?_
                        refine SW.cond_t (t := true) rfl rfl ?_
                        refine SW.seq ?_
                        refine SW.region ?_
                        refine SOps.val (v := .bool false) rfl (wantN rfl) (fun _ => by kernel_rfl) ?_
                        refine SOps.nil ?_
                        obtain ⟨Hr, hr, h⟩ := h
                        exact SW.ret (retQ.mk (.bool false) (res1 rfl rfl) hr ⟨false, rfl, h⟩)
                    · replace h := h.2 c39
                      have dc39 : (decide (s33 = s1)) = false := (decide_eq_false c39)
                      refine SOps.off rfl (wantX (c := !decide (s33 = s1)) rfl rfl rfl (not_f dc39)) ?_
                      refine SOps.off rfl (wantX (c := !decide (s33 = s1)) rfl rfl rfl (not_f dc39)) ?_
                      refine SOps.val (v := .bool true) rfl (wantN rfl) (fun w => ev_pickT (v := .bool true) rfl (t := !decide (s33 = s1)) rfl (not_f dc39) rfl w) ?_
                      refine SOps.nil ?_
                      refine SW.cond_t (t := true) rfl rfl ?_
                      refine SW.seq ?_
                      refine SW.region ?_
                      refine SOps.val (v := .bool false) rfl (wantN rfl) (fun _ => by kernel_rfl) ?_
                      refine SOps.nil ?_
                      obtain ⟨Hr, hr, h⟩ := h
                      exact SW.ret (retQ.mk (.bool false) (res1 rfl rfl) hr ⟨false, rfl, h⟩)
                  · replace h := h.2 v38 rfl
                    refine SOps.val (v := .bool true) rfl (wantY (c := (x30 != (w64 ((s13.size : Int) + (s20.size : Int))))) rfl rfl rfl dc37) (fun w => ev_errNe (e := some v38) rfl Tryd.underlying24 rfl rfl w) ?_
                    refine SOps.val (v := .bool true) rfl (wantN rfl) (fun w => ev_pickF (v := .bool true) rfl (t := (x30 != (w64 ((s13.size : Int) + (s20.size : Int))))) rfl dc37 rfl w) ?_
                    refine SOps.val (v := .bool true) rfl (wantN rfl) (fun _ => by kernel_rfl) ?_
                    refine SOps.off rfl (wantX (c := true) rfl rfl rfl rfl) ?_
                    refine SOps.off rfl (wantX (c := true) rfl rfl rfl rfl) ?_
                    refine SOps.off rfl (wantX (c := true) rfl rfl rfl rfl) ?_
                    refine SOps.val (v := .bool true) rfl (wantN rfl) (fun w => ev_pickT (v := .bool true) rfl (t := true) rfl rfl rfl w) ?_
                    refine SOps.val (v := .bool true) rfl (wantN rfl) (fun _ => by kernel_rfl) ?_
                    refine SOps.off rfl (wantX (c := true) rfl rfl rfl rfl) ?_
                    refine SOps.off rfl (wantX (c := true) rfl rfl rfl rfl) ?_
                    refine SOps.val (v := .bool true) rfl (wantN rfl) (fun w => ev_pickT (v := .bool true) rfl (t := true) rfl rfl rfl w) ?_
                    refine SOps.nil ?_
                    refine SW.cond_t (t := true) rfl rfl ?_
                    refine SW.seq ?_
                    refine SW.region ?_
                    refine SOps.val (v := .bool false) rfl (wantN rfl) (fun _ => by kernel_rfl) ?_
                    refine SOps.nil ?_
                    obtain ⟨Hr, hr, h⟩ := h
                    exact SW.ret (retQ.mk (.bool false) (res1 rfl rfl) hr ⟨false, rfl, h⟩)
              · replace h := h.2 c36
                have dc36 : (decide (s29 = s1)) = false := (decide_eq_false c36)
                refine SOps.off rfl (wantX (c := !decide (s29 = s1)) rfl rfl rfl (not_f dc36)) ?_
                refine SOps.off rfl (wantX (c := !decide (s29 = s1)) rfl rfl rfl (not_f dc36)) ?_
                refine SOps.off rfl (wantX (c := !decide (s29 = s1)) rfl rfl rfl (not_f dc36)) ?_
                refine SOps.off rfl (wantX (c := !decide (s29 = s1)) rfl rfl rfl (not_f dc36)) ?_
                refine SOps.off rfl (wantX (c := !decide (s29 = s1)) rfl rfl rfl (not_f dc36)) ?_
                refine SOps.off rfl (wantX (c := !decide (s29 = s1)) rfl rfl rfl (not_f dc36)) ?_
                refine SOps.off rfl (wantX (c := !decide (s29 = s1)) rfl rfl rfl (not_f dc36)) ?_
                refine SOps.val (v := .bool true) rfl (wantN rfl) (fun w => ev_pickT (v := .bool true) rfl (t := !decide (s29 = s1)) rfl (not_f dc36) rfl w) ?_
                refine SOps.val (v := .bool true) rfl (wantN rfl) (fun _ => by kernel_rfl) ?_
                refine SOps.off rfl (wantX (c := true) rfl rfl rfl rfl) ?_
                refine SOps.off rfl (wantX (c := true) rfl rfl rfl rfl) ?_
                refine SOps.val (v := .bool true) rfl (wantN rfl) (fun w => ev_pickT (v := .bool true) rfl (t := true) rfl rfl rfl w) ?_
                refine SOps.val (v := .bool true) rfl (wantN rfl) (fun _ => by kernel_rfl) ?_
                refine SOps.off rfl (wantX (c := true) rfl rfl rfl rfl) ?_
                refine SOps.off rfl (wantX (c := true) rfl rfl rfl rfl) ?_
                refine SOps.off rfl (wantX (c := true) rfl rfl rfl rfl) ?_
                refine SOps.val (v := .bool true) rfl (wantN rfl) (fun w => ev_pickT (v := .bool true) rfl (t := true) rfl rfl rfl w) ?_
                refine SOps.val (v := .bool true) rfl (wantN rfl) (fun _ => by kernel_rfl) ?_
                refine SOps.off rfl (wantX (c := true) rfl rfl rfl rfl) ?_
                refine SOps.off rfl (wantX (c := true) rfl rfl rfl rfl) ?_
                refine SOps.val (v := .bool true) rfl (wantN rfl) (fun w => ev_pickT (v := .bool true) rfl (t := true) rfl rfl rfl w) ?_
                refine SOps.nil ?_
                refine SW.cond_t (t := true) rfl rfl ?_
                refine SW.seq ?_
                refine SW.region ?_
                refine SOps.val (v := .bool false) rfl (wantN rfl) (fun _ => by kernel_rfl) ?_
                refine SOps.nil ?_
                obtain ⟨Hr, hr, h⟩ := h
                exact SW.ret (retQ.mk (.bool false) (res1 rfl rfl) hr ⟨false, rfl, h⟩)
            · replace h := h.2 v26 rfl
              refine SOps.val (v := .bool true) rfl (wantY (c := !decide (s20 = s23)) rfl rfl rfl (not_t dc25)) (fun w => ev_errNe (e := some v26) rfl Tryd.underlying24 rfl rfl w) ?_
              refine SOps.val (v := .bool true) rfl (wantN rfl) (fun w => ev_pickF (v := .bool true) rfl (t := !decide (s20 = s23)) rfl (not_t dc25) rfl w) ?_
              refine SOps.nil ?_
              refine SW.cond_t (t := true) rfl rfl ?_
              refine SW.seq ?_
              refine SW.region ?_
              refine SOps.val (v := .bool false) rfl (wantN rfl) (fun _ => by kernel_rfl) ?_
              refine SOps.nil ?_
              obtain ⟨Hr, hr, h⟩ := h
              exact SW.ret (retQ.mk (.bool false) (res1 rfl rfl) hr ⟨false, rfl, h⟩)
          · replace h := h.2 c25
            have dc25 : (decide (s20 = s23)) = false := (decide_eq_false c25)
            refine SOps.off rfl (wantX (c := !decide (s20 = s23)) rfl rfl rfl (not_f dc25)) ?_
            refine SOps.off rfl (wantX (c := !decide (s20 = s23)) rfl rfl rfl (not_f dc25)) ?_
            refine SOps.val (v := .bool true) rfl (wantN rfl) (fun w => ev_pickT (v := .bool true) rfl (t := !decide (s20 = s23)) rfl (not_f dc25) rfl w) ?_
            refine SOps.nil ?_
            refine SW.cond_t (t := true) rfl rfl ?_
            refine SW.seq ?_
            refine SW.region ?_
            refine SOps.val (v := .bool false) rfl (wantN rfl) (fun _ => by kernel_rfl) ?_
            refine SOps.nil ?_
            obtain ⟨Hr, hr, h⟩ := h
            exact SW.ret (retQ.mk (.bool false) (res1 rfl rfl) hr ⟨false, rfl, h⟩)
  · replace h := h.2 c12
    have dc12 : q10 = false := (Bool.eq_false_iff.mpr c12)
    refine SW.cond_t (t := !q10) rfl (not_f dc12) ?_
    refine SW.seq ?_
    refine SW.region ?_
    refine SOps.val (v := .bool false) rfl (wantN rfl) (fun _ => by kernel_rfl) ?_
    refine SOps.nil ?_
    obtain ⟨Hr, hr, h⟩ := h
    exact SW.ret (retQ.mk (.bool false) (res1 rfl rfl) hr ⟨false, rfl, h⟩)

end Go.Proofs.YtpnbehgkbfhacaaDoor.K
