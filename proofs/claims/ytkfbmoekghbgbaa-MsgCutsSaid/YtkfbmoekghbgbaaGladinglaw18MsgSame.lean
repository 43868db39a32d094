import Derived.Test.YtkfbmoekghbgbaaGladinglaw18
set_option linter.unusedVariables false
set_option linter.unusedSimpArgs false
set_option maxRecDepth 100000
namespace Go.Proofs.Ytkfbmoekghbgbaa.K
open Go
attribute [local irreducible] SW SOps SQ SCalls retQ

/-! ### lading/ladinglaw18.MsgSame: function 3 -/
def ladinglaw18_MsgSame.j1 (F : Nat) (K : Bool → SH → Prop) (x47 : Int) (b48 : Nat) (b49 : Nat) (s50 : ByteArray) (H : SH) : Prop :=
  ∃ (s51 : ByteArray),
  msg_Name.wp F x47 H (fun s51' H' => s51' = s51 ∧ H' = H) ∧
  ((s51 = s50) →
    ∃ (x54 : Int) (x55 : Int) (x56 : Int) (s57 : ByteArray) (l58 : Sl),
    SH.row H (some (b48, 0)) [.int .i64 x54, .int .i64 x55, .int .i64 x56, .string s57, sv l58] ∧
    ∃ (x60 : Int) (x61 : Int) (x62 : Int) (s63 : ByteArray) (l64 : Sl),
    SH.row H (some (b49, 0)) [.int .i64 x60, .int .i64 x61, .int .i64 x62, .string s63, sv l64] ∧
    ∃ (q66 : Bool),
    msg_Same.wp F x54 x55 x56 s57 l58 x60 x61 x62 s63 l64 H (fun q66' H' => q66' = q66 ∧ H' = H) ∧
    ∃ (x68 : Int) (x69 : Int) (x70 : Int) (s71 : ByteArray) (l72 : Sl),
    SH.row H (some (b48, 0)) [.int .i64 x68, .int .i64 x69, .int .i64 x70, .string s71, sv l72] ∧
    ∃ (x74 : Int) (x75 : Int) (x76 : Int) (s77 : ByteArray) (l78 : Sl),
    SH.row H (some (b49, 0)) [.int .i64 x74, .int .i64 x75, .int .i64 x76, .string s77, sv l78] ∧
    ∃ (q80 : Bool),
    ladinglaw18_same.wp F x68 x69 x70 s71 l72 x74 x75 x76 s77 l78 H (fun q80' H' => q80' = q80 ∧ H' = H) ∧
    (q66 ≠ q80 →
      ∃ Hr, SH.le Hr H ∧ K false Hr
    ) ∧ (¬ (q66 ≠ q80) →
      ∃ (x83 : Int) (x84 : Int) (x85 : Int) (s86 : ByteArray) (l87 : Sl),
      SH.row H (some (b48, 0)) [.int .i64 x83, .int .i64 x84, .int .i64 x85, .string s86, sv l87] ∧
      msg_Put.wp F x83 x84 x85 s86 l87 H (fun s89 e90 H91 =>
        ∃ (x92 : Int) (x93 : Int) (x94 : Int) (s95 : ByteArray) (l96 : Sl),
        SH.row H91 (some (b49, 0)) [.int .i64 x92, .int .i64 x93, .int .i64 x94, .string s95, sv l96] ∧
        msg_Put.wp F x92 x93 x94 s95 l96 H91 (fun s98 e99 H100 =>
          (e90 = none →
            (e99 = none →
              ∃ (x103 : Int) (x104 : Int) (x105 : Int) (s106 : ByteArray) (l107 : Sl),
              SH.row H100 (some (b48, 0)) [.int .i64 x103, .int .i64 x104, .int .i64 x105, .string s106, sv l107] ∧
              ∃ (x109 : Int) (x110 : Int) (x111 : Int) (s112 : ByteArray) (l113 : Sl),
              SH.row H100 (some (b49, 0)) [.int .i64 x109, .int .i64 x110, .int .i64 x111, .string s112, sv l113] ∧
              ladinglaw18_same.wp F x103 x104 x105 s106 l107 x109 x110 x111 s112 l113 H100 (fun q115 H116 =>
                ∃ Hr, SH.le Hr H116 ∧ K ((decide (s89 = s98)) == q115) Hr
              )
            ) ∧ (∀ v102, e99 = some v102 →
              ∃ Hr, SH.le Hr H100 ∧ K true Hr
            )
          ) ∧ (∀ v101, e90 = some v101 →
            ∃ Hr, SH.le Hr H100 ∧ K true Hr
          )
        )
      )
    )
  ) ∧ (¬ ((s51 = s50)) →
    ∃ Hr, SH.le Hr H ∧ K false Hr
  )
def ladinglaw18_MsgSame.wp (F : Nat) (x1 : Int) (x2 : Int) (x3 : Int) (s4 : ByteArray) (l5 : Sl) (x6 : Int) (x7 : Int) (x8 : Int) (s9 : ByteArray) (l10 : Sl) (x11 : Int) (H : SH) (K : Bool → SH → Prop) : Prop :=
  ∀ b12, H b12 = none →
  ∀ b14, (SH.upd H b12 ⟨[.int .i64 x1, .int .i64 x2, .int .i64 x3, .string s4, sv l5], 24, false, 5⟩) b14 = none →
  ladinglaw18_awake.wp F  (SH.upd (SH.upd H b12 ⟨[.int .i64 x1, .int .i64 x2, .int .i64 x3, .string s4, sv l5], 24, false, 5⟩) b14 ⟨[.int .i64 x6, .int .i64 x7, .int .i64 x8, .string s9, sv l10], 24, false, 5⟩) (fun q16 H17 =>
    (q16 = true →
      ∃ (x19 : Int) (x20 : Int) (x21 : Int) (s22 : ByteArray) (l23 : Sl),
      SH.row H17 (some (b12, 0)) [.int .i64 x19, .int .i64 x20, .int .i64 x21, .string s22, sv l23] ∧
      ladinglaw18_Great.wp F x19 x20 x21 s22 l23 H17 (fun q25 H26 =>
        (q25 = true →
          ∃ Hr, SH.le Hr H26 ∧ K true Hr
        ) ∧ (¬ (q25 = true) →
          ∃ (x28 : Int) (x29 : Int) (x30 : Int) (s31 : ByteArray) (l32 : Sl),
          SH.row H26 (some (b14, 0)) [.int .i64 x28, .int .i64 x29, .int .i64 x30, .string s31, sv l32] ∧
          ladinglaw18_Great.wp F x28 x29 x30 s31 l32 H26 (fun q34 H35 =>
            (q34 = true →
              ∃ Hr, SH.le Hr H35 ∧ K true Hr
            ) ∧ (¬ (q34 = true) →
              ∀ b37, H35 b37 = none →
              (x11 ≥ 0 →
                (x11 < ((⟨some (b37, 0), 12, 12⟩ : Sl).len : Int) →
                  ∃ p41, (⟨some (b37, 0), 12, 12⟩ : Sl).a = some p41 ∧ 0 ≤ x11 ∧ x11 < ((⟨some (b37, 0), 12, 12⟩ : Sl).len : Int) ∧
                  ∃ (s45 : ByteArray),
                  SH.has (SH.upd H35 b37 ⟨[.string ByteArray.empty, .string (⟨#[79, 102, 102, 101, 114]⟩ : ByteArray), .string (⟨#[65, 115, 107]⟩ : ByteArray), .string (⟨#[66, 108, 111, 99, 107]⟩ : ByteArray), .string (⟨#[78, 111, 110, 101]⟩ : ByteArray), .string (⟨#[82, 101, 97, 100, 121]⟩ : ByteArray), .string (⟨#[80, 114, 101, 112, 97, 114, 101]⟩ : ByteArray), .string (⟨#[80, 114, 101, 112, 97, 114, 101, 100]⟩ : ByteArray), .string (⟨#[67, 111, 109, 109, 105, 116]⟩ : ByteArray), .string (⟨#[68, 111, 110, 101]⟩ : ByteArray), .string (⟨#[66, 101, 97, 116]⟩ : ByteArray), .string (⟨#[72, 101, 108, 108, 111]⟩ : ByteArray)], 9, false, 12⟩) (p41.1, (p41.2 + x11.toNat * 1)) (.string s45) ∧
                  ladinglaw18_MsgSame.j1 F K x11 b12 b14 s45 (SH.upd H35 b37 ⟨[.string ByteArray.empty, .string (⟨#[79, 102, 102, 101, 114]⟩ : ByteArray), .string (⟨#[65, 115, 107]⟩ : ByteArray), .string (⟨#[66, 108, 111, 99, 107]⟩ : ByteArray), .string (⟨#[78, 111, 110, 101]⟩ : ByteArray), .string (⟨#[82, 101, 97, 100, 121]⟩ : ByteArray), .string (⟨#[80, 114, 101, 112, 97, 114, 101]⟩ : ByteArray), .string (⟨#[80, 114, 101, 112, 97, 114, 101, 100]⟩ : ByteArray), .string (⟨#[67, 111, 109, 109, 105, 116]⟩ : ByteArray), .string (⟨#[68, 111, 110, 101]⟩ : ByteArray), .string (⟨#[66, 101, 97, 116]⟩ : ByteArray), .string (⟨#[72, 101, 108, 108, 111]⟩ : ByteArray)], 9, false, 12⟩)
                ) ∧ (¬ (x11 < ((⟨some (b37, 0), 12, 12⟩ : Sl).len : Int)) →
                  ladinglaw18_MsgSame.j1 F K x11 b12 b14 ByteArray.empty (SH.upd H35 b37 ⟨[.string ByteArray.empty, .string (⟨#[79, 102, 102, 101, 114]⟩ : ByteArray), .string (⟨#[65, 115, 107]⟩ : ByteArray), .string (⟨#[66, 108, 111, 99, 107]⟩ : ByteArray), .string (⟨#[78, 111, 110, 101]⟩ : ByteArray), .string (⟨#[82, 101, 97, 100, 121]⟩ : ByteArray), .string (⟨#[80, 114, 101, 112, 97, 114, 101]⟩ : ByteArray), .string (⟨#[80, 114, 101, 112, 97, 114, 101, 100]⟩ : ByteArray), .string (⟨#[67, 111, 109, 109, 105, 116]⟩ : ByteArray), .string (⟨#[68, 111, 110, 101]⟩ : ByteArray), .string (⟨#[66, 101, 97, 116]⟩ : ByteArray), .string (⟨#[72, 101, 108, 108, 111]⟩ : ByteArray)], 9, false, 12⟩)
                )
              ) ∧ (¬ (x11 ≥ 0) →
                ladinglaw18_MsgSame.j1 F K x11 b12 b14 ByteArray.empty (SH.upd H35 b37 ⟨[.string ByteArray.empty, .string (⟨#[79, 102, 102, 101, 114]⟩ : ByteArray), .string (⟨#[65, 115, 107]⟩ : ByteArray), .string (⟨#[66, 108, 111, 99, 107]⟩ : ByteArray), .string (⟨#[78, 111, 110, 101]⟩ : ByteArray), .string (⟨#[82, 101, 97, 100, 121]⟩ : ByteArray), .string (⟨#[80, 114, 101, 112, 97, 114, 101]⟩ : ByteArray), .string (⟨#[80, 114, 101, 112, 97, 114, 101, 100]⟩ : ByteArray), .string (⟨#[67, 111, 109, 109, 105, 116]⟩ : ByteArray), .string (⟨#[68, 111, 110, 101]⟩ : ByteArray), .string (⟨#[66, 101, 97, 116]⟩ : ByteArray), .string (⟨#[72, 101, 108, 108, 111]⟩ : ByteArray)], 9, false, 12⟩)
              )
            )
          )
        )
      )
    ) ∧ (¬ (q16 = true) →
      ∃ Hr, SH.le Hr H17 ∧ K false Hr
    )
  )
set_option maxHeartbeats 8000000 in
theorem ladinglaw18_MsgSame.sound (F : Nat) (x1 : Int) (x2 : Int) (x3 : Int) (s4 : ByteArray) (l5 : Sl) (x6 : Int) (x7 : Int) (x8 : Int) (s9 : ByteArray) (l10 : Sl) (x11 : Int) (H : SH) (K : Bool → SH → Prop) (h : ladinglaw18_MsgSame.wp F x1 x2 x3 s4 l5 x6 x7 x8 s9 l10 x11 H K) : SCalls Try.prog 3 #[.agg #[.int .i64 x1, .int .i64 x2, .int .i64 x3, .string s4, sv l5], .agg #[.int .i64 x6, .int .i64 x7, .int .i64 x8, .string s9, sv l10], .int .i64 x11] H (fun v H' => ∃ (q119 : Bool), v = .bool q119 ∧ K q119 H') := by
  unfold ladinglaw18_MsgSame.wp at h
  refine SCalls.body Try.func3 rfl (Nat.le_of_ble_eq_true rfl) ?_
  refine SW.seq ?_
  refine SW.region ?_
  refine SOps.box rfl rfl (wantN rfl) (v := .agg #[.int .i64 x1, .int .i64 x2, .int .i64 x3, .string s4, sv l5]) rfl (fun b12 c13 => ?_)
  replace h := h b12 c13
  refine SOps.box rfl rfl (wantN rfl) (v := .agg #[.int .i64 x6, .int .i64 x7, .int .i64 x8, .string s9, sv l10]) rfl (fun b14 c15 => ?_)
  replace h := h b14 c15
  refine SOps.val (v := .bool false) rfl (wantN rfl) (fun _ => by kernel_rfl) ?_
  refine SOps.nil ?_
  refine SW.seq ?_
  refine SW.seq ?_
  refine SW.region ?_
  refine SOps.enter rfl (wantN rfl) (fun _ => by kernel_rfl) (ladinglaw18_awake.sound F  (SH.upd (SH.upd H b12 ⟨[.int .i64 x1, .int .i64 x2, .int .i64 x3, .string s4, sv l5], 24, false, 5⟩) b14 ⟨[.int .i64 x6, .int .i64 x7, .int .i64 x8, .string s9, sv l10], 24, false, 5⟩) _ h) ?_
  clear h
  rintro v H17 ⟨q16, rfl, h⟩
  refine SOps.val (v := .bool (!q16)) rfl (wantN rfl) (fun _ => by kernel_rfl) ?_
  refine SOps.nil ?_
  by_cases c18 : q16 = true
  · replace h := h.1 c18
    have dc18 : q16 = true := c18
    refine SW.cond_f (t := !q16) rfl (not_t dc18) ?_
    refine SW.skip ?_
    refine SW.seq ?_
    refine SW.seq ?_
    refine SW.region ?_
    obtain ⟨x19, x20, x21, s22, l23, c24, h⟩ := h
    refine SOps.rd (v := .agg #[.int .i64 x19, .int .i64 x20, .int .i64 x21, .string s22, sv l23]) rfl (wantN rfl) (fun w hw => ev_loadN rfl (fun _ => by kernel_rfl) (size := 5) (by kernel_rfl) (p := (b12, 0)) rfl rfl c24 w hw) ?_
    refine SOps.enter rfl (wantN rfl) (fun _ => by kernel_rfl) (ladinglaw18_Great.sound F x19 x20 x21 s22 l23 H17 _ h) ?_
    clear h
    rintro v H26 ⟨q25, rfl, h⟩
    refine SOps.val (v := .bool q25) rfl (wantN rfl) (fun _ => by kernel_rfl) ?_
    by_cases c27 : q25 = true
    · replace h := h.1 c27
      have dc27 : q25 = true := c27
      refine SOps.off rfl (wantX (c := q25) rfl rfl rfl dc27) ?_
      refine SOps.off rfl (wantX (c := q25) rfl rfl rfl dc27) ?_
      refine SOps.val (v := .bool true) rfl (wantN rfl) (fun w => ev_pickT (v := .bool true) rfl (t := q25) rfl dc27 rfl w) ?_
      refine SOps.nil ?_
      refine SW.cond_t (t := true) rfl rfl ?_
      refine SW.seq ?_
      refine SW.region ?_
      refine SOps.val (v := .bool true) rfl (wantN rfl) (fun _ => by kernel_rfl) ?_
      refine SOps.nil ?_
      obtain ⟨Hr, hr, h⟩ := h
      exact SW.ret (retQ.mk (.bool true) (res1 rfl rfl) hr ⟨true, rfl, h⟩)
    · replace h := h.2 c27
      have dc27 : q25 = false := (Bool.eq_false_iff.mpr c27)
      obtain ⟨x28, x29, x30, s31, l32, c33, h⟩ := h
      refine SOps.rd (v := .agg #[.int .i64 x28, .int .i64 x29, .int .i64 x30, .string s31, sv l32]) rfl (wantY (c := q25) rfl rfl rfl dc27) (fun w hw => ev_loadN rfl (fun _ => by kernel_rfl) (size := 5) (by kernel_rfl) (p := (b14, 0)) rfl rfl c33 w hw) ?_
      refine SOps.enter rfl (wantY (c := q25) rfl rfl rfl dc27) (fun _ => by kernel_rfl) (ladinglaw18_Great.sound F x28 x29 x30 s31 l32 H26 _ h) ?_
      clear h
      rintro v H35 ⟨q34, rfl, h⟩
      refine SOps.val (v := .bool q34) rfl (wantN rfl) (fun w => ev_pickF (v := .bool q34) rfl (t := q25) rfl dc27 rfl w) ?_
      refine SOps.nil ?_
      by_cases c36 : q34 = true
      · replace h := h.1 c36
        have dc36 : q34 = true := c36
        refine SW.cond_t (t := q34) rfl dc36 ?_
        refine SW.seq ?_
        refine SW.region ?_
        refine SOps.val (v := .bool true) rfl (wantN rfl) (fun _ => by kernel_rfl) ?_
        refine SOps.nil ?_
        obtain ⟨Hr, hr, h⟩ := h
        exact SW.ret (retQ.mk (.bool true) (res1 rfl rfl) hr ⟨true, rfl, h⟩)
      · replace h := h.2 c36
        have dc36 : q34 = false := (Bool.eq_false_iff.mpr c36)
        refine SW.cond_f (t := q34) rfl dc36 ?_
        refine SW.skip ?_
        refine SW.seq ?_
        refine SW.region ?_
        refine SOps.lit (E := 9) (cs := #[.string ByteArray.empty, .string (⟨#[79, 102, 102, 101, 114]⟩ : ByteArray), .string (⟨#[65, 115, 107]⟩ : ByteArray), .string (⟨#[66, 108, 111, 99, 107]⟩ : ByteArray), .string (⟨#[78, 111, 110, 101]⟩ : ByteArray), .string (⟨#[82, 101, 97, 100, 121]⟩ : ByteArray), .string (⟨#[80, 114, 101, 112, 97, 114, 101]⟩ : ByteArray), .string (⟨#[80, 114, 101, 112, 97, 114, 101, 100]⟩ : ByteArray), .string (⟨#[67, 111, 109, 109, 105, 116]⟩ : ByteArray), .string (⟨#[68, 111, 110, 101]⟩ : ByteArray), .string (⟨#[66, 101, 97, 116]⟩ : ByteArray), .string (⟨#[72, 101, 108, 108, 111]⟩ : ByteArray)]) rfl rfl (wantN rfl) (fun _ => by kernel_rfl) (fun b37 c38 => ?_)
        replace h := h b37 c38
        refine SOps.val (v := sv (⟨some (b37, 0), 12, 12⟩ : Sl)) rfl (wantN rfl) (fun _ => by kernel_rfl) ?_
        refine SOps.nil ?_
        refine SW.seq ?_
        refine SW.region ?_
        refine SOps.val (v := .string ByteArray.empty) rfl (wantN rfl) (fun _ => by kernel_rfl) ?_
        refine SOps.nil ?_
        refine SW.seqJ (fun fr H => ∃ (g : Fr) (x47 : Int) (b48 : Nat) (b49 : Nat) (s50 : ByteArray), fr = g.upds [(2, (.int .i64 x47 : Value)), (3, pv (some (b48, 0))), (4, pv (some (b49, 0))), (8, (.string s50 : Value))] ∧ ladinglaw18_MsgSame.j1 F K x47 b48 b49 s50 H) ?_ ?_
        · clear h
          rintro fr H ⟨g, x47, b48, b49, s50, rfl, h⟩
          unfold ladinglaw18_MsgSame.j1 at h
          refine SW.seq ?_
          refine SW.seq ?_
          refine SW.draw (by kernel_rfl) (by kernel_rfl) ?_
          refine SQ.val (v := .int .i64 x47) rfl (wantN rfl) (fun _ => by kernel_rfl) ?_
          obtain ⟨s51, c52, h⟩ := h
          refine SQ.enter (v := .string s51) rfl (wantN rfl) (fun _ => by kernel_rfl) ((msg_Name.sound F x47 H _ c52).mono (by rintro v H' ⟨_, rfl, rfl, rfl⟩; exact ⟨rfl, rfl⟩)) ?_
          refine SQ.val (v := .string s50) rfl (wantN rfl) (fun _ => by kernel_rfl) ?_
          refine SQ.val (v := .bool (!decide (s51 = s50))) rfl (wantN rfl) (fun w => ev_neS rfl rfl rfl w) ?_
          refine SQ.val (v := .bool (!decide (s51 = s50))) rfl (wantN rfl) (fun _ => by kernel_rfl) ?_
          by_cases c53 : (s51 = s50)
          · replace h := h.1 c53
            have dc53 : (decide (s51 = s50)) = true := (decide_eq_true c53)
            obtain ⟨x54, x55, x56, s57, l58, c59, h⟩ := h
            refine SQ.rd (v := .agg #[.int .i64 x54, .int .i64 x55, .int .i64 x56, .string s57, sv l58]) rfl (wantY (c := !decide (s51 = s50)) rfl rfl rfl (not_t dc53)) (fun w hw => ev_loadN rfl (fun _ => by kernel_rfl) (size := 5) (by kernel_rfl) (p := (b48, 0)) rfl rfl c59 w hw) ?_
            obtain ⟨x60, x61, x62, s63, l64, c65, h⟩ := h
            refine SQ.rd (v := .agg #[.int .i64 x60, .int .i64 x61, .int .i64 x62, .string s63, sv l64]) rfl (wantY (c := !decide (s51 = s50)) rfl rfl rfl (not_t dc53)) (fun w hw => ev_loadN rfl (fun _ => by kernel_rfl) (size := 5) (by kernel_rfl) (p := (b49, 0)) rfl rfl c65 w hw) ?_
            obtain ⟨q66, c67, h⟩ := h
            refine SQ.enter (v := .bool q66) rfl (wantY (c := !decide (s51 = s50)) rfl rfl rfl (not_t dc53)) (fun _ => by kernel_rfl) ((msg_Same.sound F x54 x55 x56 s57 l58 x60 x61 x62 s63 l64 H _ c67).mono (by rintro v H' ⟨_, rfl, rfl, rfl⟩; exact ⟨rfl, rfl⟩)) ?_
            obtain ⟨x68, x69, x70, s71, l72, c73, h⟩ := h
            refine SQ.rd (v := .agg #[.int .i64 x68, .int .i64 x69, .int .i64 x70, .string s71, sv l72]) rfl (wantY (c := !decide (s51 = s50)) rfl rfl rfl (not_t dc53)) (fun w hw => ev_loadN rfl (fun _ => by kernel_rfl) (size := 5) (by kernel_rfl) (p := (b48, 0)) rfl rfl c73 w hw) ?_
            obtain ⟨x74, x75, x76, s77, l78, c79, h⟩ := h
            refine SQ.rd (v := .agg #[.int .i64 x74, .int .i64 x75, .int .i64 x76, .string s77, sv l78]) rfl (wantY (c := !decide (s51 = s50)) rfl rfl rfl (not_t dc53)) (fun w hw => ev_loadN rfl (fun _ => by kernel_rfl) (size := 5) (by kernel_rfl) (p := (b49, 0)) rfl rfl c79 w hw) ?_
            obtain ⟨q80, c81, h⟩ := h
            refine SQ.enter (v := .bool q80) rfl (wantY (c := !decide (s51 = s50)) rfl rfl rfl (not_t dc53)) (fun _ => by kernel_rfl) ((ladinglaw18_same.sound F x68 x69 x70 s71 l72 x74 x75 x76 s77 l78 H _ c81).mono (by rintro v H' ⟨_, rfl, rfl, rfl⟩; exact ⟨rfl, rfl⟩)) ?_
            refine SQ.val (v := .bool (q66 != q80)) rfl (wantY (c := !decide (s51 = s50)) rfl rfl rfl (not_t dc53)) (fun _ => by kernel_rfl) ?_
            refine SQ.val (v := .bool (q66 != q80)) rfl (wantN rfl) (fun w => ev_pickF (v := .bool (q66 != q80)) rfl (t := !decide (s51 = s50)) rfl (not_t dc53) rfl w) ?_
            refine SQ.nil ?_
            by_cases c82 : q66 ≠ q80
            · replace h := h.1 c82
              have dc82 : (q66 != q80) = true := (bne_iff_ne.mpr c82)
              refine SW.cond_t (t := (q66 != q80)) rfl dc82 ?_
              refine SW.seq ?_
              refine SW.region ?_
              refine SOps.val (v := .bool false) rfl (wantN rfl) (fun _ => by kernel_rfl) ?_
              refine SOps.nil ?_
              obtain ⟨Hr, hr, h⟩ := h
              exact SW.ret (retQ.mk (.bool false) (res1 rfl rfl) hr ⟨false, rfl, h⟩)
            · replace h := h.2 c82
              have dc82 : (q66 != q80) = false := (by simpa using c82)
              refine SW.cond_f (t := (q66 != q80)) rfl dc82 ?_
              refine SW.skip ?_
              refine SW.seq ?_
              refine SW.region ?_
              obtain ⟨x83, x84, x85, s86, l87, c88, h⟩ := h
              refine SOps.rd (v := .agg #[.int .i64 x83, .int .i64 x84, .int .i64 x85, .string s86, sv l87]) rfl (wantN rfl) (fun w hw => ev_loadN rfl (fun _ => by kernel_rfl) (size := 5) (by kernel_rfl) (p := (b48, 0)) rfl rfl c88 w hw) ?_
              refine SOps.enter rfl (wantN rfl) (fun _ => by kernel_rfl) (msg_Put.sound F x83 x84 x85 s86 l87 H _ h) ?_
              clear h
              rintro v H91 ⟨s89, e90, rfl, h⟩
              refine SOps.val (v := .tuple #[.string s89, errV e90]) rfl (wantN rfl) (fun _ => by kernel_rfl) ?_
              refine SOps.val (v := .string s89) rfl (wantN rfl) (fun _ => by kernel_rfl) ?_
              refine SOps.val (v := errV e90) rfl (wantN rfl) (fun _ => by kernel_rfl) ?_
              refine SOps.val (v := .string s89) rfl (wantN rfl) (fun _ => by kernel_rfl) ?_
              refine SOps.val (v := errV e90) rfl (wantN rfl) (fun _ => by kernel_rfl) ?_
              refine SOps.nil ?_
              refine SW.seq ?_
              refine SW.region ?_
              obtain ⟨x92, x93, x94, s95, l96, c97, h⟩ := h
              refine SOps.rd (v := .agg #[.int .i64 x92, .int .i64 x93, .int .i64 x94, .string s95, sv l96]) rfl (wantN rfl) (fun w hw => ev_loadN rfl (fun _ => by kernel_rfl) (size := 5) (by kernel_rfl) (p := (b49, 0)) rfl rfl c97 w hw) ?_
              refine SOps.enter rfl (wantN rfl) (fun _ => by kernel_rfl) (msg_Put.sound F x92 x93 x94 s95 l96 H91 _ h) ?_
              clear h
              rintro v H100 ⟨s98, e99, rfl, h⟩
              refine SOps.val (v := .tuple #[.string s98, errV e99]) rfl (wantN rfl) (fun _ => by kernel_rfl) ?_
              refine SOps.val (v := .string s98) rfl (wantN rfl) (fun _ => by kernel_rfl) ?_
              refine SOps.val (v := errV e99) rfl (wantN rfl) (fun _ => by kernel_rfl) ?_
              refine SOps.val (v := .string s98) rfl (wantN rfl) (fun _ => by kernel_rfl) ?_
              refine SOps.val (v := errV e99) rfl (wantN rfl) (fun _ => by kernel_rfl) ?_
              refine SOps.nil ?_
              refine SW.seq ?_
              refine SW.region ?_
              refine SOps.val (v := errV e90) rfl (wantN rfl) (fun _ => by kernel_rfl) ?_
              rcases e90 with _ | v101
              · replace h := h.1 rfl
                refine SOps.val (v := .bool false) rfl (wantN rfl) (fun w => ev_errNe (e := none) rfl Try.underlying30 rfl rfl w) ?_
                refine SOps.val (v := .bool false) rfl (wantN rfl) (fun _ => by kernel_rfl) ?_
                refine SOps.val (v := errV e99) rfl (wantY (c := false) rfl rfl rfl rfl) (fun _ => by kernel_rfl) ?_
                rcases e99 with _ | v102
                · replace h := h.1 rfl
                  refine SOps.val (v := .bool false) rfl (wantY (c := false) rfl rfl rfl rfl) (fun w => ev_errNe (e := none) rfl Try.underlying30 rfl rfl w) ?_
                  refine SOps.val (v := .bool false) rfl (wantN rfl) (fun w => ev_pickF (v := .bool false) rfl (t := false) rfl rfl rfl w) ?_
                  refine SOps.val (v := .bool false) rfl (wantN rfl) (fun _ => by kernel_rfl) ?_
                  refine SOps.val (v := .string s89) rfl (wantY (c := false) rfl rfl rfl rfl) (fun _ => by kernel_rfl) ?_
                  refine SOps.val (v := .string s98) rfl (wantY (c := false) rfl rfl rfl rfl) (fun _ => by kernel_rfl) ?_
                  refine SOps.val (v := .bool (decide (s89 = s98))) rfl (wantY (c := false) rfl rfl rfl rfl) (fun w => ev_eqS rfl rfl rfl w) ?_
                  obtain ⟨x103, x104, x105, s106, l107, c108, h⟩ := h
                  refine SOps.rd (v := .agg #[.int .i64 x103, .int .i64 x104, .int .i64 x105, .string s106, sv l107]) rfl (wantY (c := false) rfl rfl rfl rfl) (fun w hw => ev_loadN rfl (fun _ => by kernel_rfl) (size := 5) (by kernel_rfl) (p := (b48, 0)) rfl rfl c108 w hw) ?_
                  obtain ⟨x109, x110, x111, s112, l113, c114, h⟩ := h
                  refine SOps.rd (v := .agg #[.int .i64 x109, .int .i64 x110, .int .i64 x111, .string s112, sv l113]) rfl (wantY (c := false) rfl rfl rfl rfl) (fun w hw => ev_loadN rfl (fun _ => by kernel_rfl) (size := 5) (by kernel_rfl) (p := (b49, 0)) rfl rfl c114 w hw) ?_
                  refine SOps.enter rfl (wantY (c := false) rfl rfl rfl rfl) (fun _ => by kernel_rfl) (ladinglaw18_same.sound F x103 x104 x105 s106 l107 x109 x110 x111 s112 l113 H100 _ h) ?_
                  clear h
                  rintro v H116 ⟨q115, rfl, h⟩
                  refine SOps.val (v := .bool ((decide (s89 = s98)) == q115)) rfl (wantY (c := false) rfl rfl rfl rfl) (fun _ => by kernel_rfl) ?_
                  refine SOps.val (v := .bool ((decide (s89 = s98)) == q115)) rfl (wantN rfl) (fun w => ev_pickF (v := .bool ((decide (s89 = s98)) == q115)) rfl (t := false) rfl rfl rfl w) ?_
                  refine SOps.val (v := .bool ((decide (s89 = s98)) == q115)) rfl (wantN rfl) (fun _ => by kernel_rfl) ?_
                  refine SOps.nil ?_
                  obtain ⟨Hr, hr, h⟩ := h
                  exact SW.ret (retQ.mk (.bool ((decide (s89 = s98)) == q115)) (res1 rfl rfl) hr ⟨((decide (s89 = s98)) == q115), rfl, h⟩)
                · replace h := h.2 v102 rfl
                  refine SOps.val (v := .bool true) rfl (wantY (c := false) rfl rfl rfl rfl) (fun w => ev_errNe (e := some v102) rfl Try.underlying30 rfl rfl w) ?_
                  refine SOps.val (v := .bool true) rfl (wantN rfl) (fun w => ev_pickF (v := .bool true) rfl (t := false) rfl rfl rfl w) ?_
                  refine SOps.val (v := .bool true) rfl (wantN rfl) (fun _ => by kernel_rfl) ?_
                  refine SOps.off rfl (wantX (c := true) rfl rfl rfl rfl) ?_
                  refine SOps.off rfl (wantX (c := true) rfl rfl rfl rfl) ?_
                  refine SOps.off rfl (wantX (c := true) rfl rfl rfl rfl) ?_
                  refine SOps.off rfl (wantX (c := true) rfl rfl rfl rfl) ?_
                  refine SOps.off rfl (wantX (c := true) rfl rfl rfl rfl) ?_
                  refine SOps.off rfl (wantX (c := true) rfl rfl rfl rfl) ?_
                  refine SOps.off rfl (wantX (c := true) rfl rfl rfl rfl) ?_
                  refine SOps.val (v := .bool true) rfl (wantN rfl) (fun w => ev_pickT (v := .bool true) rfl (t := true) rfl rfl rfl w) ?_
                  refine SOps.val (v := .bool true) rfl (wantN rfl) (fun _ => by kernel_rfl) ?_
                  refine SOps.nil ?_
                  obtain ⟨Hr, hr, h⟩ := h
                  exact SW.ret (retQ.mk (.bool true) (res1 rfl rfl) hr ⟨true, rfl, h⟩)
              · replace h := h.2 v101 rfl
                refine SOps.val (v := .bool true) rfl (wantN rfl) (fun w => ev_errNe (e := some v101) rfl Try.underlying30 rfl rfl w) ?_
                refine SOps.val (v := .bool true) rfl (wantN rfl) (fun _ => by kernel_rfl) ?_
                refine SOps.off rfl (wantX (c := true) rfl rfl rfl rfl) ?_
                refine SOps.off rfl (wantX (c := true) rfl rfl rfl rfl) ?_
                refine SOps.val (v := .bool true) rfl (wantN rfl) (fun w => ev_pickT (v := .bool true) rfl (t := true) rfl rfl rfl w) ?_
                refine SOps.val (v := .bool true) rfl (wantN rfl) (fun _ => by kernel_rfl) ?_
                refine SOps.off rfl (wantX (c := true) rfl rfl rfl rfl) ?_
                refine SOps.off rfl (wantX (c := true) rfl rfl rfl rfl) ?_
                refine SOps.off rfl (wantX (c := true) rfl rfl rfl rfl) ?_
                refine SOps.off rfl (wantX (c := true) rfl rfl rfl rfl) ?_
                refine SOps.off rfl (wantX (c := true) rfl rfl rfl rfl) ?_
                refine SOps.off rfl (wantX (c := true) rfl rfl rfl rfl) ?_
                refine SOps.off rfl (wantX (c := true) rfl rfl rfl rfl) ?_
                refine SOps.val (v := .bool true) rfl (wantN rfl) (fun w => ev_pickT (v := .bool true) rfl (t := true) rfl rfl rfl w) ?_
                refine SOps.val (v := .bool true) rfl (wantN rfl) (fun _ => by kernel_rfl) ?_
                refine SOps.nil ?_
                obtain ⟨Hr, hr, h⟩ := h
                exact SW.ret (retQ.mk (.bool true) (res1 rfl rfl) hr ⟨true, rfl, h⟩)
          · replace h := h.2 c53
            have dc53 : (decide (s51 = s50)) = false := (decide_eq_false c53)
            refine SQ.off rfl (wantX (c := !decide (s51 = s50)) rfl rfl rfl (not_f dc53)) ?_
            refine SQ.off rfl (wantX (c := !decide (s51 = s50)) rfl rfl rfl (not_f dc53)) ?_
            refine SQ.off rfl (wantX (c := !decide (s51 = s50)) rfl rfl rfl (not_f dc53)) ?_
            refine SQ.off rfl (wantX (c := !decide (s51 = s50)) rfl rfl rfl (not_f dc53)) ?_
            refine SQ.off rfl (wantX (c := !decide (s51 = s50)) rfl rfl rfl (not_f dc53)) ?_
            refine SQ.off rfl (wantX (c := !decide (s51 = s50)) rfl rfl rfl (not_f dc53)) ?_
            refine SQ.off rfl (wantX (c := !decide (s51 = s50)) rfl rfl rfl (not_f dc53)) ?_
            refine SQ.val (v := .bool true) rfl (wantN rfl) (fun w => ev_pickT (v := .bool true) rfl (t := !decide (s51 = s50)) rfl (not_f dc53) rfl w) ?_
            refine SQ.nil ?_
            refine SW.cond_t (t := true) rfl rfl ?_
            refine SW.seq ?_
            refine SW.region ?_
            refine SOps.val (v := .bool false) rfl (wantN rfl) (fun _ => by kernel_rfl) ?_
            refine SOps.nil ?_
            obtain ⟨Hr, hr, h⟩ := h
            exact SW.ret (retQ.mk (.bool false) (res1 rfl rfl) hr ⟨false, rfl, h⟩)
        · skip
          refine SW.seq ?_
          refine SW.region ?_
          refine SOps.val (v := .int .i64 x11) rfl (wantN rfl) (fun _ => by kernel_rfl) ?_
          refine SOps.val (v := .bool (decide (x11 ≥ 0))) rfl (wantN rfl) (fun _ => by kernel_rfl) ?_
          refine SOps.val (v := .bool (decide (x11 ≥ 0))) rfl (wantN rfl) (fun _ => by kernel_rfl) ?_
          by_cases c39 : x11 ≥ 0
          · replace h := h.1 c39
            have dc39 : (decide (x11 ≥ 0)) = true := (decide_eq_true c39)
            refine SOps.val (v := .int .i64 x11) rfl (wantY (c := decide (x11 ≥ 0)) rfl rfl rfl dc39) (fun _ => by kernel_rfl) ?_
            refine SOps.val (v := sv (⟨some (b37, 0), 12, 12⟩ : Sl)) rfl (wantY (c := decide (x11 ≥ 0)) rfl rfl rfl dc39) (fun _ => by kernel_rfl) ?_
            refine SOps.val (v := .int .i64 ((⟨some (b37, 0), 12, 12⟩ : Sl).len : Int)) rfl (wantY (c := decide (x11 ≥ 0)) rfl rfl rfl dc39) (fun _ => by kernel_rfl) ?_
            refine SOps.val (v := .bool (decide (x11 < ((⟨some (b37, 0), 12, 12⟩ : Sl).len : Int)))) rfl (wantY (c := decide (x11 ≥ 0)) rfl rfl rfl dc39) (fun _ => by kernel_rfl) ?_
            refine SOps.val (v := .bool (decide (x11 < ((⟨some (b37, 0), 12, 12⟩ : Sl).len : Int)))) rfl (wantN rfl) (fun w => ev_pickT (v := .bool (decide (x11 < ((⟨some (b37, 0), 12, 12⟩ : Sl).len : Int)))) rfl (t := decide (x11 ≥ 0)) rfl dc39 rfl w) ?_
            refine SOps.nil ?_
            by_cases c40 : x11 < ((⟨some (b37, 0), 12, 12⟩ : Sl).len : Int)
            · replace h := h.1 c40
              have dc40 : (decide (x11 < ((⟨some (b37, 0), 12, 12⟩ : Sl).len : Int))) = true := (decide_eq_true c40)
              refine SW.cond_t (t := decide (x11 < ((⟨some (b37, 0), 12, 12⟩ : Sl).len : Int))) rfl dc40 ?_
              refine SW.region ?_
              refine SOps.val (v := sv (⟨some (b37, 0), 12, 12⟩ : Sl)) rfl (wantN rfl) (fun _ => by kernel_rfl) ?_
              refine SOps.val (v := .int .i64 x11) rfl (wantN rfl) (fun _ => by kernel_rfl) ?_
              obtain ⟨p41, c42, c43, c44, h⟩ := h
              refine SOps.val (v := pv (some (p41.1, (p41.2 + x11.toNat * 1)))) rfl (wantN rfl) (fun w => ev_iaddr rfl Try.underlying22 (size := 1) (by kernel_rfl) rfl rfl c42 c43 c44 w) ?_
              obtain ⟨s45, c46, h⟩ := h
              refine SOps.rd (v := .string s45) rfl (wantN rfl) (fun w hw => ev_load1 rfl (fun _ => by kernel_rfl) (p := (p41.1, (p41.2 + x11.toNat * 1))) rfl c46 w hw) ?_
              refine SOps.val (v := .string s45) rfl (wantN rfl) (fun _ => by kernel_rfl) ?_
              refine SOps.nil ?_
              exact ⟨_, x11, b12, b14, s45, Fr.upds_self _ _ ⟨rfl, rfl, rfl, rfl, trivial⟩, h⟩
            · replace h := h.2 c40
              have dc40 : (decide (x11 < ((⟨some (b37, 0), 12, 12⟩ : Sl).len : Int))) = false := (decide_eq_false c40)
              refine SW.cond_f (t := decide (x11 < ((⟨some (b37, 0), 12, 12⟩ : Sl).len : Int))) rfl dc40 ?_
              refine SW.skip ?_
              exact ⟨_, x11, b12, b14, ByteArray.empty, Fr.upds_self _ _ ⟨rfl, rfl, rfl, rfl, trivial⟩, h⟩
          · replace h := h.2 c39
            have dc39 : (decide (x11 ≥ 0)) = false := (decide_eq_false c39)
            refine SOps.off rfl (wantX (c := decide (x11 ≥ 0)) rfl rfl rfl dc39) ?_
            refine SOps.off rfl (wantX (c := decide (x11 ≥ 0)) rfl rfl rfl dc39) ?_
            refine SOps.off rfl (wantX (c := decide (x11 ≥ 0)) rfl rfl rfl dc39) ?_
            refine SOps.off rfl (wantX (c := decide (x11 ≥ 0)) rfl rfl rfl dc39) ?_
            refine SOps.val (v := .bool false) rfl (wantN rfl) (fun w => ev_pickF (v := .bool false) rfl (t := decide (x11 ≥ 0)) rfl dc39 rfl w) ?_
            refine SOps.nil ?_
            refine SW.cond_f (t := false) rfl rfl ?_
            refine SW.skip ?_
            exact ⟨_, x11, b12, b14, ByteArray.empty, Fr.upds_self _ _ ⟨rfl, rfl, rfl, rfl, trivial⟩, h⟩
  · replace h := h.2 c18
    have dc18 : q16 = false := (Bool.eq_false_iff.mpr c18)
    refine SW.cond_t (t := !q16) rfl (not_f dc18) ?_
    refine SW.seq ?_
    refine SW.region ?_
    refine SOps.val (v := .bool false) rfl (wantN rfl) (fun _ => by kernel_rfl) ?_
    refine SOps.nil ?_
    obtain ⟨Hr, hr, h⟩ := h
    exact SW.ret (retQ.mk (.bool false) (res1 rfl rfl) hr ⟨false, rfl, h⟩)

end Go.Proofs.Ytkfbmoekghbgbaa.K
