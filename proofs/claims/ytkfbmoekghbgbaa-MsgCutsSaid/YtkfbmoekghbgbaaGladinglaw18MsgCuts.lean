import Derived.Test.YtkfbmoekghbgbaaGladinglaw18
set_option linter.unusedVariables false
set_option linter.unusedSimpArgs false
set_option maxRecDepth 100000
namespace Go.Proofs.Ytkfbmoekghbgbaa.K
open Go
attribute [local irreducible] SW SOps SQ SCalls retQ

/-! ### lading/ladinglaw18.MsgCuts: function 6 -/
def ladinglaw18_MsgCuts.r1 (F : Nat) (K : Bool → SH → Prop) (R1 : Nat → ByteArray → Nat → Option EV → Int → Int → SH → Prop) (b73 : Nat) (s74 : ByteArray) (b75 : Nat) (e76 : Option EV) (x77 : Int) (x78 : Int) (H : SH) : Prop :=
  (x78 < x77 →
    ∃ (l80 : Sl),
    SH.has H (b75, 4) (sv l80) ∧
    ∃ p82, l80.a = some p82 ∧ 0 ≤ x78 ∧ x78 < (l80.len : Int) ∧
    SH.wrs H (p82.1, (p82.2 + x78.toNat * 1)) 1 ∧
    R1 b73 s74 b75 e76 x77 (w64 (x78 + 1)) (SH.setl H (p82.1, (p82.2 + x78.toNat * 1)) [.string (⟨#[116, 117, 114, 110, 101, 100]⟩ : ByteArray)])
  ) ∧ (¬ (x78 < x77) →
    msg_Get.wp F s74 H (fun x87 x88 x89 s90 l91 e92 H93 =>
      ∀ b94, H93 b94 = none →
      SH.wrs (SH.upd H93 b94 ⟨[.int .i64 0, .int .i64 0, .int .i64 0, .string ByteArray.empty, sv Sl.nil], 24, false, 5⟩) (b94, 0) 5 ∧
      (e76 = none →
        (e92 = none →
          ∃ (x99 : Int) (x100 : Int) (x101 : Int) (s102 : ByteArray) (l103 : Sl),
          SH.row (SH.setl (SH.upd H93 b94 ⟨[.int .i64 0, .int .i64 0, .int .i64 0, .string ByteArray.empty, sv Sl.nil], 24, false, 5⟩) (b94, 0) [.int .i64 x87, .int .i64 x88, .int .i64 x89, .string s90, sv l91]) (some (b94, 0)) [.int .i64 x99, .int .i64 x100, .int .i64 x101, .string s102, sv l103] ∧
          ∃ (x105 : Int) (x106 : Int) (x107 : Int) (s108 : ByteArray) (l109 : Sl),
          SH.row (SH.setl (SH.upd H93 b94 ⟨[.int .i64 0, .int .i64 0, .int .i64 0, .string ByteArray.empty, sv Sl.nil], 24, false, 5⟩) (b94, 0) [.int .i64 x87, .int .i64 x88, .int .i64 x89, .string s90, sv l91]) (some (b73, 0)) [.int .i64 x105, .int .i64 x106, .int .i64 x107, .string s108, sv l109] ∧
          ladinglaw18_same.wp F x99 x100 x101 s102 l103 x105 x106 x107 s108 l109 (SH.setl (SH.upd H93 b94 ⟨[.int .i64 0, .int .i64 0, .int .i64 0, .string ByteArray.empty, sv Sl.nil], 24, false, 5⟩) (b94, 0) [.int .i64 x87, .int .i64 x88, .int .i64 x89, .string s90, sv l91]) (fun q111 H112 =>
            ∃ Hr, SH.le Hr H112 ∧ K q111 Hr
          )
        ) ∧ (∀ v98, e92 = some v98 →
          ∃ Hr, SH.le Hr (SH.setl (SH.upd H93 b94 ⟨[.int .i64 0, .int .i64 0, .int .i64 0, .string ByteArray.empty, sv Sl.nil], 24, false, 5⟩) (b94, 0) [.int .i64 x87, .int .i64 x88, .int .i64 x89, .string s90, sv l91]) ∧ K false Hr
        )
      ) ∧ (∀ v97, e76 = some v97 →
        ∃ Hr, SH.le Hr (SH.setl (SH.upd H93 b94 ⟨[.int .i64 0, .int .i64 0, .int .i64 0, .string ByteArray.empty, sv Sl.nil], 24, false, 5⟩) (b94, 0) [.int .i64 x87, .int .i64 x88, .int .i64 x89, .string s90, sv l91]) ∧ K false Hr
      )
    )
  )
def ladinglaw18_MsgCuts.l1 (F : Nat) (K : Bool → SH → Prop) : Nat → Nat → ByteArray → Nat → Option EV → Int → Int → SH → Prop
  | 0, _, _, _, _, _, _, _ => False
  | k + 1, b73, s74, b75, e76, x77, x78, H => ladinglaw18_MsgCuts.r1 F K (ladinglaw18_MsgCuts.l1 F K k) b73 s74 b75 e76 x77 x78 H
def ladinglaw18_MsgCuts.r2 (F : Nat) (K : Bool → SH → Prop) (R2 : Nat → ByteArray → Nat → Option EV → Int → Int → SH → Prop) (b128 : Nat) (s129 : ByteArray) (b130 : Nat) (e131 : Option EV) (x132 : Int) (x133 : Int) (H : SH) : Prop :=
  (x133 < x132 →
    ∃ (l135 : Sl),
    SH.has H (b130, 4) (sv l135) ∧
    ∃ p137, l135.a = some p137 ∧ 0 ≤ x133 ∧ x133 < (l135.len : Int) ∧
    SH.wrs H (p137.1, (p137.2 + x133.toNat * 1)) 1 ∧
    R2 b128 s129 b130 e131 x132 (w64 (x133 + 1)) (SH.setl H (p137.1, (p137.2 + x133.toNat * 1)) [.string (⟨#[116, 117, 114, 110, 101, 100]⟩ : ByteArray)])
  ) ∧ (¬ (x133 < x132) →
    msg_Get.wp F s129 H (fun x142 x143 x144 s145 l146 e147 H148 =>
      ∀ b149, H148 b149 = none →
      SH.wrs (SH.upd H148 b149 ⟨[.int .i64 0, .int .i64 0, .int .i64 0, .string ByteArray.empty, sv Sl.nil], 24, false, 5⟩) (b149, 0) 5 ∧
      (e131 = none →
        (e147 = none →
          ∃ (x154 : Int) (x155 : Int) (x156 : Int) (s157 : ByteArray) (l158 : Sl),
          SH.row (SH.setl (SH.upd H148 b149 ⟨[.int .i64 0, .int .i64 0, .int .i64 0, .string ByteArray.empty, sv Sl.nil], 24, false, 5⟩) (b149, 0) [.int .i64 x142, .int .i64 x143, .int .i64 x144, .string s145, sv l146]) (some (b149, 0)) [.int .i64 x154, .int .i64 x155, .int .i64 x156, .string s157, sv l158] ∧
          ∃ (x160 : Int) (x161 : Int) (x162 : Int) (s163 : ByteArray) (l164 : Sl),
          SH.row (SH.setl (SH.upd H148 b149 ⟨[.int .i64 0, .int .i64 0, .int .i64 0, .string ByteArray.empty, sv Sl.nil], 24, false, 5⟩) (b149, 0) [.int .i64 x142, .int .i64 x143, .int .i64 x144, .string s145, sv l146]) (some (b128, 0)) [.int .i64 x160, .int .i64 x161, .int .i64 x162, .string s163, sv l164] ∧
          ladinglaw18_same.wp F x154 x155 x156 s157 l158 x160 x161 x162 s163 l164 (SH.setl (SH.upd H148 b149 ⟨[.int .i64 0, .int .i64 0, .int .i64 0, .string ByteArray.empty, sv Sl.nil], 24, false, 5⟩) (b149, 0) [.int .i64 x142, .int .i64 x143, .int .i64 x144, .string s145, sv l146]) (fun q166 H167 =>
            ∃ Hr, SH.le Hr H167 ∧ K q166 Hr
          )
        ) ∧ (∀ v153, e147 = some v153 →
          ∃ Hr, SH.le Hr (SH.setl (SH.upd H148 b149 ⟨[.int .i64 0, .int .i64 0, .int .i64 0, .string ByteArray.empty, sv Sl.nil], 24, false, 5⟩) (b149, 0) [.int .i64 x142, .int .i64 x143, .int .i64 x144, .string s145, sv l146]) ∧ K false Hr
        )
      ) ∧ (∀ v152, e131 = some v152 →
        ∃ Hr, SH.le Hr (SH.setl (SH.upd H148 b149 ⟨[.int .i64 0, .int .i64 0, .int .i64 0, .string ByteArray.empty, sv Sl.nil], 24, false, 5⟩) (b149, 0) [.int .i64 x142, .int .i64 x143, .int .i64 x144, .string s145, sv l146]) ∧ K false Hr
      )
    )
  )
def ladinglaw18_MsgCuts.l2 (F : Nat) (K : Bool → SH → Prop) : Nat → Nat → ByteArray → Nat → Option EV → Int → Int → SH → Prop
  | 0, _, _, _, _, _, _, _ => False
  | k + 1, b128, s129, b130, e131, x132, x133, H => ladinglaw18_MsgCuts.r2 F K (ladinglaw18_MsgCuts.l2 F K k) b128 s129 b130 e131 x132 x133 H
def ladinglaw18_MsgCuts.wp (F : Nat) (x1 : Int) (x2 : Int) (x3 : Int) (s4 : ByteArray) (l5 : Sl) (x6 : Int) (s7 : ByteArray) (H : SH) (K : Bool → SH → Prop) : Prop :=
  ∀ b8, H b8 = none →
  ladinglaw18_awake.wp F  (SH.upd H b8 ⟨[.int .i64 x1, .int .i64 x2, .int .i64 x3, .string s4, sv l5], 24, false, 5⟩) (fun q10 H11 =>
    (q10 = true →
      ∃ (x13 : Int) (x14 : Int) (x15 : Int) (s16 : ByteArray) (l17 : Sl),
      SH.row H11 (some (b8, 0)) [.int .i64 x13, .int .i64 x14, .int .i64 x15, .string s16, sv l17] ∧
      ladinglaw18_Great.wp F x13 x14 x15 s16 l17 H11 (fun q19 H20 =>
        (q19 = true →
          ∃ Hr, SH.le Hr H20 ∧ K true Hr
        ) ∧ (¬ (q19 = true) →
          ((s7.size : Int) > 100 →
            ∃ Hr, SH.le Hr H20 ∧ K true Hr
          ) ∧ (¬ ((s7.size : Int) > 100) →
            ∃ (x23 : Int) (x24 : Int) (x25 : Int) (s26 : ByteArray) (l27 : Sl),
            SH.row H20 (some (b8, 0)) [.int .i64 x23, .int .i64 x24, .int .i64 x25, .string s26, sv l27] ∧
            msg_Put.wp F x23 x24 x25 s26 l27 H20 (fun s29 e30 H31 =>
              (e30 = none →
                (s29.size : Int) ≠ 0 ∧
                0 ≤ (0 : Int) ∧
                (0 : Int) ≤ ((w64 x6).tmod (s29.size : Int)) ∧
                ((w64 x6).tmod (s29.size : Int)) ≤ (s29.size : Int) ∧
                msg_Get.wp F (s29.extract (0 : Int).toNat ((w64 x6).tmod (s29.size : Int)).toNat) H31 (fun x37 x38 x39 s40 l41 e42 H43 =>
                  ∀ b44, H43 b44 = none →
                  SH.wrs (SH.upd H43 b44 ⟨[.int .i64 0, .int .i64 0, .int .i64 0, .string ByteArray.empty, sv Sl.nil], 24, false, 5⟩) (b44, 0) 5 ∧
                  (e42 = none →
                    ∃ Hr, SH.le Hr (SH.setl (SH.upd H43 b44 ⟨[.int .i64 0, .int .i64 0, .int .i64 0, .string ByteArray.empty, sv Sl.nil], 24, false, 5⟩) (b44, 0) [.int .i64 x37, .int .i64 x38, .int .i64 x39, .string s40, sv l41]) ∧ K false Hr
                  ) ∧ (∀ v47, e42 = some v47 →
                    s29.size + s7.size ≤ 9223372036854775807 ∧
                    msg_Get.wp F (s29 ++ s7) (SH.setl (SH.upd H43 b44 ⟨[.int .i64 0, .int .i64 0, .int .i64 0, .string ByteArray.empty, sv Sl.nil], 24, false, 5⟩) (b44, 0) [.int .i64 x37, .int .i64 x38, .int .i64 x39, .string s40, sv l41]) (fun x49 x50 x51 s52 l53 e54 H55 =>
                      ∀ b56, H55 b56 = none →
                      SH.wrs (SH.upd H55 b56 ⟨[.int .i64 0, .int .i64 0, .int .i64 0, .string ByteArray.empty, sv Sl.nil], 24, false, 5⟩) (b56, 0) 5 ∧
                      (e54 = none →
                        (true ≠ (decide (s7 = ByteArray.empty)) →
                          ∃ Hr, SH.le Hr (SH.setl (SH.upd H55 b56 ⟨[.int .i64 0, .int .i64 0, .int .i64 0, .string ByteArray.empty, sv Sl.nil], 24, false, 5⟩) (b56, 0) [.int .i64 x49, .int .i64 x50, .int .i64 x51, .string s52, sv l53]) ∧ K false Hr
                        ) ∧ (¬ (true ≠ (decide (s7 = ByteArray.empty))) →
                          msg_Get.wp F s29 (SH.setl (SH.upd H55 b56 ⟨[.int .i64 0, .int .i64 0, .int .i64 0, .string ByteArray.empty, sv Sl.nil], 24, false, 5⟩) (b56, 0) [.int .i64 x49, .int .i64 x50, .int .i64 x51, .string s52, sv l53]) (fun x61 x62 x63 s64 l65 e66 H67 =>
                            ∀ b68, H67 b68 = none →
                            SH.wrs (SH.upd H67 b68 ⟨[.int .i64 0, .int .i64 0, .int .i64 0, .string ByteArray.empty, sv Sl.nil], 24, false, 5⟩) (b68, 0) 5 ∧
                            ∃ (l71 : Sl),
                            SH.has (SH.setl (SH.upd H67 b68 ⟨[.int .i64 0, .int .i64 0, .int .i64 0, .string ByteArray.empty, sv Sl.nil], 24, false, 5⟩) (b68, 0) [.int .i64 x61, .int .i64 x62, .int .i64 x63, .string s64, sv l65]) (b68, 4) (sv l71) ∧
                            ladinglaw18_MsgCuts.l1 F K F b8 s29 b68 e66 (l71.len : Int) 0 (SH.setl (SH.upd H67 b68 ⟨[.int .i64 0, .int .i64 0, .int .i64 0, .string ByteArray.empty, sv Sl.nil], 24, false, 5⟩) (b68, 0) [.int .i64 x61, .int .i64 x62, .int .i64 x63, .string s64, sv l65])
                          )
                        )
                      ) ∧ (∀ v59, e54 = some v59 →
                        (false ≠ (decide (s7 = ByteArray.empty)) →
                          ∃ Hr, SH.le Hr (SH.setl (SH.upd H55 b56 ⟨[.int .i64 0, .int .i64 0, .int .i64 0, .string ByteArray.empty, sv Sl.nil], 24, false, 5⟩) (b56, 0) [.int .i64 x49, .int .i64 x50, .int .i64 x51, .string s52, sv l53]) ∧ K false Hr
                        ) ∧ (¬ (false ≠ (decide (s7 = ByteArray.empty))) →
                          msg_Get.wp F s29 (SH.setl (SH.upd H55 b56 ⟨[.int .i64 0, .int .i64 0, .int .i64 0, .string ByteArray.empty, sv Sl.nil], 24, false, 5⟩) (b56, 0) [.int .i64 x49, .int .i64 x50, .int .i64 x51, .string s52, sv l53]) (fun x116 x117 x118 s119 l120 e121 H122 =>
                            ∀ b123, H122 b123 = none →
                            SH.wrs (SH.upd H122 b123 ⟨[.int .i64 0, .int .i64 0, .int .i64 0, .string ByteArray.empty, sv Sl.nil], 24, false, 5⟩) (b123, 0) 5 ∧
                            ∃ (l126 : Sl),
                            SH.has (SH.setl (SH.upd H122 b123 ⟨[.int .i64 0, .int .i64 0, .int .i64 0, .string ByteArray.empty, sv Sl.nil], 24, false, 5⟩) (b123, 0) [.int .i64 x116, .int .i64 x117, .int .i64 x118, .string s119, sv l120]) (b123, 4) (sv l126) ∧
                            ladinglaw18_MsgCuts.l2 F K F b8 s29 b123 e121 (l126.len : Int) 0 (SH.setl (SH.upd H122 b123 ⟨[.int .i64 0, .int .i64 0, .int .i64 0, .string ByteArray.empty, sv Sl.nil], 24, false, 5⟩) (b123, 0) [.int .i64 x116, .int .i64 x117, .int .i64 x118, .string s119, sv l120])
                          )
                        )
                      )
                    )
                  )
                )
              ) ∧ (∀ v32, e30 = some v32 →
                ∃ Hr, SH.le Hr H31 ∧ K true Hr
              )
            )
          )
        )
      )
    ) ∧ (¬ (q10 = true) →
      ∃ Hr, SH.le Hr H11 ∧ K false Hr
    )
  )
set_option maxHeartbeats 8000000 in
theorem ladinglaw18_MsgCuts.sound (F : Nat) (x1 : Int) (x2 : Int) (x3 : Int) (s4 : ByteArray) (l5 : Sl) (x6 : Int) (s7 : ByteArray) (H : SH) (K : Bool → SH → Prop) (h : ladinglaw18_MsgCuts.wp F x1 x2 x3 s4 l5 x6 s7 H K) : SCalls Try.prog 6 #[.agg #[.int .i64 x1, .int .i64 x2, .int .i64 x3, .string s4, sv l5], .int .u16 x6, .string s7] H (fun v H' => ∃ (q171 : Bool), v = .bool q171 ∧ K q171 H') := by
  unfold ladinglaw18_MsgCuts.wp at h
  refine SCalls.body Try.func6 rfl (Nat.le_of_ble_eq_true rfl) ?_
  refine SW.seq ?_
  refine SW.region ?_
  refine SOps.box rfl rfl (wantN rfl) (v := .agg #[.int .i64 x1, .int .i64 x2, .int .i64 x3, .string s4, sv l5]) rfl (fun b8 c9 => ?_)
  replace h := h b8 c9
  refine SOps.val (v := .bool false) rfl (wantN rfl) (fun _ => by kernel_rfl) ?_
  refine SOps.nil ?_
  refine SW.seq ?_
  refine SW.seq ?_
  refine SW.region ?_
  refine SOps.enter rfl (wantN rfl) (fun _ => by kernel_rfl) (ladinglaw18_awake.sound F  (SH.upd H b8 ⟨[.int .i64 x1, .int .i64 x2, .int .i64 x3, .string s4, sv l5], 24, false, 5⟩) _ h) ?_
  clear h
  rintro v H11 ⟨q10, rfl, h⟩
  refine SOps.val (v := .bool (!q10)) rfl (wantN rfl) (fun _ => by kernel_rfl) ?_
  refine SOps.nil ?_
  by_cases c12 : q10 = true
  · replace h := h.1 c12
    have dc12 : q10 = true := c12
    refine SW.cond_f (t := !q10) rfl (not_t dc12) ?_
    refine SW.skip ?_
    refine SW.seq ?_
    refine SW.seq ?_
    refine SW.region ?_
    obtain ⟨x13, x14, x15, s16, l17, c18, h⟩ := h
    refine SOps.rd (v := .agg #[.int .i64 x13, .int .i64 x14, .int .i64 x15, .string s16, sv l17]) rfl (wantN rfl) (fun w hw => ev_loadN rfl (fun _ => by kernel_rfl) (size := 5) (by kernel_rfl) (p := (b8, 0)) rfl rfl c18 w hw) ?_
    refine SOps.enter rfl (wantN rfl) (fun _ => by kernel_rfl) (ladinglaw18_Great.sound F x13 x14 x15 s16 l17 H11 _ h) ?_
    clear h
    rintro v H20 ⟨q19, rfl, h⟩
    refine SOps.val (v := .bool q19) rfl (wantN rfl) (fun _ => by kernel_rfl) ?_
    by_cases c21 : q19 = true
    · replace h := h.1 c21
      have dc21 : q19 = true := c21
      refine SOps.off rfl (wantX (c := q19) rfl rfl rfl dc21) ?_
      refine SOps.off rfl (wantX (c := q19) rfl rfl rfl dc21) ?_
      refine SOps.off rfl (wantX (c := q19) rfl rfl rfl dc21) ?_
      refine SOps.val (v := .bool true) rfl (wantN rfl) (fun w => ev_pickT (v := .bool true) rfl (t := q19) rfl dc21 rfl w) ?_
      refine SOps.nil ?_
      refine SW.cond_t (t := true) rfl rfl ?_
      refine SW.seq ?_
      refine SW.region ?_
      refine SOps.val (v := .bool true) rfl (wantN rfl) (fun _ => by kernel_rfl) ?_
      refine SOps.nil ?_
      obtain ⟨Hr, hr, h⟩ := h
      exact SW.ret (retQ.mk (.bool true) (res1 rfl rfl) hr ⟨true, rfl, h⟩)
    · replace h := h.2 c21
      have dc21 : q19 = false := (Bool.eq_false_iff.mpr c21)
      refine SOps.val (v := .string s7) rfl (wantY (c := q19) rfl rfl rfl dc21) (fun _ => by kernel_rfl) ?_
      refine SOps.val (v := .int .i64 (s7.size : Int)) rfl (wantY (c := q19) rfl rfl rfl dc21) (fun _ => by kernel_rfl) ?_
      refine SOps.val (v := .bool (decide ((s7.size : Int) > 100))) rfl (wantY (c := q19) rfl rfl rfl dc21) (fun _ => by kernel_rfl) ?_
      refine SOps.val (v := .bool (decide ((s7.size : Int) > 100))) rfl (wantN rfl) (fun w => ev_pickF (v := .bool (decide ((s7.size : Int) > 100))) rfl (t := q19) rfl dc21 rfl w) ?_
      refine SOps.nil ?_
      by_cases c22 : (s7.size : Int) > 100
      · replace h := h.1 c22
        have dc22 : (decide ((s7.size : Int) > 100)) = true := (decide_eq_true c22)
        refine SW.cond_t (t := decide ((s7.size : Int) > 100)) rfl dc22 ?_
        refine SW.seq ?_
        refine SW.region ?_
        refine SOps.val (v := .bool true) rfl (wantN rfl) (fun _ => by kernel_rfl) ?_
        refine SOps.nil ?_
        obtain ⟨Hr, hr, h⟩ := h
        exact SW.ret (retQ.mk (.bool true) (res1 rfl rfl) hr ⟨true, rfl, h⟩)
      · replace h := h.2 c22
        have dc22 : (decide ((s7.size : Int) > 100)) = false := (decide_eq_false c22)
        refine SW.cond_f (t := decide ((s7.size : Int) > 100)) rfl dc22 ?_
        refine SW.skip ?_
        refine SW.seq ?_
        refine SW.region ?_
        obtain ⟨x23, x24, x25, s26, l27, c28, h⟩ := h
        refine SOps.rd (v := .agg #[.int .i64 x23, .int .i64 x24, .int .i64 x25, .string s26, sv l27]) rfl (wantN rfl) (fun w hw => ev_loadN rfl (fun _ => by kernel_rfl) (size := 5) (by kernel_rfl) (p := (b8, 0)) rfl rfl c28 w hw) ?_
        refine SOps.enter rfl (wantN rfl) (fun _ => by kernel_rfl) (msg_Put.sound F x23 x24 x25 s26 l27 H20 _ h) ?_
        clear h
        rintro v H31 ⟨s29, e30, rfl, h⟩
        refine SOps.val (v := .tuple #[.string s29, errV e30]) rfl (wantN rfl) (fun _ => by kernel_rfl) ?_
        refine SOps.val (v := .string s29) rfl (wantN rfl) (fun _ => by kernel_rfl) ?_
        refine SOps.val (v := errV e30) rfl (wantN rfl) (fun _ => by kernel_rfl) ?_
        refine SOps.val (v := .string s29) rfl (wantN rfl) (fun _ => by kernel_rfl) ?_
        refine SOps.val (v := errV e30) rfl (wantN rfl) (fun _ => by kernel_rfl) ?_
        refine SOps.nil ?_
        refine SW.seq ?_
        refine SW.seq ?_
        refine SW.region ?_
        refine SOps.val (v := errV e30) rfl (wantN rfl) (fun _ => by kernel_rfl) ?_
        rcases e30 with _ | v32
        · replace h := h.1 rfl
          refine SOps.val (v := .bool false) rfl (wantN rfl) (fun w => ev_errNe (e := none) rfl Try.underlying30 rfl rfl w) ?_
          refine SOps.nil ?_
          refine SW.cond_f (t := false) rfl rfl ?_
          refine SW.skip ?_
          refine SW.seq ?_
          refine SW.seq ?_
          refine SW.region ?_
          refine SOps.val (v := .string s29) rfl (wantN rfl) (fun _ => by kernel_rfl) ?_
          refine SOps.val (v := .int .u16 x6) rfl (wantN rfl) (fun _ => by kernel_rfl) ?_
          refine SOps.val (v := .int .i64 (w64 x6)) rfl (wantN rfl) (fun _ => by kernel_rfl) ?_
          refine SOps.val (v := .string s29) rfl (wantN rfl) (fun _ => by kernel_rfl) ?_
          refine SOps.val (v := .int .i64 (s29.size : Int)) rfl (wantN rfl) (fun _ => by kernel_rfl) ?_
          obtain ⟨c33, h⟩ := h
          refine SOps.val (v := .int .i64 ((w64 x6).tmod (s29.size : Int))) rfl (wantN rfl) (fun w => ev_rem rfl rfl rfl c33 w) ?_
          obtain ⟨c34, c35, c36, h⟩ := h
          refine SOps.val (v := .string (s29.extract (0 : Int).toNat ((w64 x6).tmod (s29.size : Int)).toNat)) rfl (wantN rfl) (fun w => ev_subS (a := (0 : Int)) (b := ((w64 x6).tmod (s29.size : Int))) rfl Try.underlying9 rfl (Or.inl ⟨rfl, rfl⟩) (Or.inr ⟨_, rfl⟩) c34 c35 c36 w) ?_
          refine SOps.enter rfl (wantN rfl) (fun _ => by kernel_rfl) (msg_Get.sound F (s29.extract (0 : Int).toNat ((w64 x6).tmod (s29.size : Int)).toNat) H31 _ h) ?_
          clear h
          rintro v H43 ⟨x37, x38, x39, s40, l41, e42, rfl, h⟩
          refine SOps.val (v := .tuple #[.agg #[.int .i64 x37, .int .i64 x38, .int .i64 x39, .string s40, sv l41], errV e42]) rfl (wantN rfl) (fun _ => by kernel_rfl) ?_
          refine SOps.val (v := .agg #[.int .i64 x37, .int .i64 x38, .int .i64 x39, .string s40, sv l41]) rfl (wantN rfl) (fun _ => by kernel_rfl) ?_
          refine SOps.val (v := errV e42) rfl (wantN rfl) (fun _ => by kernel_rfl) ?_
          refine SOps.alloc rfl rfl (wantN rfl) (z := .agg #[.int .i64 0, .int .i64 0, .int .i64 0, .string ByteArray.empty, sv Sl.nil]) (by kernel_rfl) (fun b44 c45 => ?_)
          replace h := h b44 c45
          obtain ⟨c46, h⟩ := h
          refine SOps.storeL (p := (b44, 0)) (v := .agg #[.int .i64 x37, .int .i64 x38, .int .i64 x39, .string s40, sv l41]) (cs := [.int .i64 x37, .int .i64 x38, .int .i64 x39, .string s40, sv l41]) rfl rfl (wantN rfl) (size := 5) (by kernel_rfl) rfl rfl rfl rfl (by simp [Value.oneCell', errV_one, pv, sv]) c46 ?_
          refine SOps.val (v := errV e42) rfl (wantN rfl) (fun _ => by kernel_rfl) ?_
          refine SOps.nil ?_
          refine SW.seq ?_
          refine SW.region ?_
          refine SOps.val (v := errV e42) rfl (wantN rfl) (fun _ => by kernel_rfl) ?_
          rcases e42 with _ | v47
          · replace h := h.1 rfl
            refine SOps.val (v := .bool true) rfl (wantN rfl) (fun w => ev_errEq (e := none) rfl Try.underlying30 rfl rfl w) ?_
            refine SOps.nil ?_
            refine SW.cond_t (t := true) rfl rfl ?_
            refine SW.seq ?_
            refine SW.region ?_
            refine SOps.val (v := .bool false) rfl (wantN rfl) (fun _ => by kernel_rfl) ?_
            refine SOps.nil ?_
            obtain ⟨Hr, hr, h⟩ := h
            exact SW.ret (retQ.mk (.bool false) (res1 rfl rfl) hr ⟨false, rfl, h⟩)
          · replace h := h.2 v47 rfl
            refine SOps.val (v := .bool false) rfl (wantN rfl) (fun w => ev_errEq (e := some v47) rfl Try.underlying30 rfl rfl w) ?_
            refine SOps.nil ?_
            refine SW.cond_f (t := false) rfl rfl ?_
            refine SW.skip ?_
            refine SW.seq ?_
            refine SW.seq ?_
            refine SW.region ?_
            refine SOps.val (v := .string s29) rfl (wantN rfl) (fun _ => by kernel_rfl) ?_
            refine SOps.val (v := .string s7) rfl (wantN rfl) (fun _ => by kernel_rfl) ?_
            obtain ⟨c48, h⟩ := h
            refine SOps.val (v := .string (s29 ++ s7)) rfl (wantN rfl) (fun w => ev_cat rfl rfl rfl c48 w) ?_
            refine SOps.enter rfl (wantN rfl) (fun _ => by kernel_rfl) (msg_Get.sound F (s29 ++ s7) (SH.setl (SH.upd H43 b44 ⟨[.int .i64 0, .int .i64 0, .int .i64 0, .string ByteArray.empty, sv Sl.nil], 24, false, 5⟩) (b44, 0) [.int .i64 x37, .int .i64 x38, .int .i64 x39, .string s40, sv l41]) _ h) ?_
            clear h
            rintro v H55 ⟨x49, x50, x51, s52, l53, e54, rfl, h⟩
            refine SOps.val (v := .tuple #[.agg #[.int .i64 x49, .int .i64 x50, .int .i64 x51, .string s52, sv l53], errV e54]) rfl (wantN rfl) (fun _ => by kernel_rfl) ?_
            refine SOps.val (v := .agg #[.int .i64 x49, .int .i64 x50, .int .i64 x51, .string s52, sv l53]) rfl (wantN rfl) (fun _ => by kernel_rfl) ?_
            refine SOps.val (v := errV e54) rfl (wantN rfl) (fun _ => by kernel_rfl) ?_
            refine SOps.alloc rfl rfl (wantN rfl) (z := .agg #[.int .i64 0, .int .i64 0, .int .i64 0, .string ByteArray.empty, sv Sl.nil]) (by kernel_rfl) (fun b56 c57 => ?_)
            replace h := h b56 c57
            obtain ⟨c58, h⟩ := h
            refine SOps.storeL (p := (b56, 0)) (v := .agg #[.int .i64 x49, .int .i64 x50, .int .i64 x51, .string s52, sv l53]) (cs := [.int .i64 x49, .int .i64 x50, .int .i64 x51, .string s52, sv l53]) rfl rfl (wantN rfl) (size := 5) (by kernel_rfl) rfl rfl rfl rfl (by simp [Value.oneCell', errV_one, pv, sv]) c58 ?_
            refine SOps.val (v := errV e54) rfl (wantN rfl) (fun _ => by kernel_rfl) ?_
            refine SOps.nil ?_
            refine SW.seq ?_
            refine SW.region ?_
            refine SOps.val (v := errV e54) rfl (wantN rfl) (fun _ => by kernel_rfl) ?_
            rcases e54 with _ | v59
            · replace h := h.1 rfl
              refine SOps.val (v := .bool true) rfl (wantN rfl) (fun w => ev_errEq (e := none) rfl Try.underlying30 rfl rfl w) ?_
              refine SOps.val (v := .string s7) rfl (wantN rfl) (fun _ => by kernel_rfl) ?_
              refine SOps.val (v := .bool (decide (s7 = ByteArray.empty))) rfl (wantN rfl) (fun w => ev_eqS rfl rfl rfl w) ?_
              refine SOps.val (v := .bool (true != (decide (s7 = ByteArray.empty)))) rfl (wantN rfl) (fun _ => by kernel_rfl) ?_
              refine SOps.nil ?_
              by_cases c60 : true ≠ (decide (s7 = ByteArray.empty))
              · replace h := h.1 c60
                have dc60 : (true != (decide (s7 = ByteArray.empty))) = true := (bne_iff_ne.mpr c60)
                refine SW.cond_t (t := (true != (decide (s7 = ByteArray.empty)))) rfl dc60 ?_
                refine SW.seq ?_
                refine SW.region ?_
                refine SOps.val (v := .bool false) rfl (wantN rfl) (fun _ => by kernel_rfl) ?_
                refine SOps.nil ?_
                obtain ⟨Hr, hr, h⟩ := h
                exact SW.ret (retQ.mk (.bool false) (res1 rfl rfl) hr ⟨false, rfl, h⟩)
              · replace h := h.2 c60
                have dc60 : (true != (decide (s7 = ByteArray.empty))) = false := (by simpa using c60)
                refine SW.cond_f (t := (true != (decide (s7 = ByteArray.empty)))) rfl dc60 ?_
                refine SW.skip ?_
                refine SW.seq ?_
                refine SW.region ?_
                refine SOps.val (v := .string s29) rfl (wantN rfl) (fun _ => by kernel_rfl) ?_
                refine SOps.enter rfl (wantN rfl) (fun _ => by kernel_rfl) (msg_Get.sound F s29 (SH.setl (SH.upd H55 b56 ⟨[.int .i64 0, .int .i64 0, .int .i64 0, .string ByteArray.empty, sv Sl.nil], 24, false, 5⟩) (b56, 0) [.int .i64 x49, .int .i64 x50, .int .i64 x51, .string s52, sv l53]) _ h) ?_
                clear h
                rintro v H67 ⟨x61, x62, x63, s64, l65, e66, rfl, h⟩
                refine SOps.val (v := .tuple #[.agg #[.int .i64 x61, .int .i64 x62, .int .i64 x63, .string s64, sv l65], errV e66]) rfl (wantN rfl) (fun _ => by kernel_rfl) ?_
                refine SOps.val (v := .agg #[.int .i64 x61, .int .i64 x62, .int .i64 x63, .string s64, sv l65]) rfl (wantN rfl) (fun _ => by kernel_rfl) ?_
                refine SOps.val (v := errV e66) rfl (wantN rfl) (fun _ => by kernel_rfl) ?_
                refine SOps.alloc rfl rfl (wantN rfl) (z := .agg #[.int .i64 0, .int .i64 0, .int .i64 0, .string ByteArray.empty, sv Sl.nil]) (by kernel_rfl) (fun b68 c69 => ?_)
                replace h := h b68 c69
                obtain ⟨c70, h⟩ := h
                refine SOps.storeL (p := (b68, 0)) (v := .agg #[.int .i64 x61, .int .i64 x62, .int .i64 x63, .string s64, sv l65]) (cs := [.int .i64 x61, .int .i64 x62, .int .i64 x63, .string s64, sv l65]) rfl rfl (wantN rfl) (size := 5) (by kernel_rfl) rfl rfl rfl rfl (by simp [Value.oneCell', errV_one, pv, sv]) c70 ?_
                refine SOps.val (v := errV e66) rfl (wantN rfl) (fun _ => by kernel_rfl) ?_
                refine SOps.nil ?_
                refine SW.seq ?_
                refine SW.seq ?_
                refine SW.region ?_
                refine SOps.val (v := pv (some (b68, 4))) rfl (wantN rfl) (fun _ => by kernel_rfl) ?_
                obtain ⟨l71, c72, h⟩ := h
                refine SOps.rd (v := sv l71) rfl (wantN rfl) (fun w hw => ev_load1 rfl (fun _ => by kernel_rfl) (p := (b68, 4)) rfl c72 w hw) ?_
                refine SOps.val (v := .int .i64 (l71.len : Int)) rfl (wantN rfl) (fun _ => by kernel_rfl) ?_
                refine SOps.val (v := .int .i64 0) rfl (wantN rfl) (fun _ => by kernel_rfl) ?_
                refine SOps.nil ?_
                refine SW.block ?_
                refine SW.loop (fun k1 fr H => ∃ (g : Fr) (b73 : Nat) (s74 : ByteArray) (b75 : Nat) (e76 : Option EV) (x77 : Int) (x78 : Int), fr = g.upds [(3, pv (some (b73, 0))), (7, (.string s74 : Value)), (13, pv (some (b75, 0))), (14, errV e76), (66, (.int .i64 x77 : Value)), (67, (.int .i64 x78 : Value))] ∧ ladinglaw18_MsgCuts.l1 F K k1 b73 s74 b75 e76 x77 x78 H) F ⟨_, b8, s29, b68, e66, (l71.len : Int), 0, (Fr.upds_self _ _ ⟨rfl, rfl, rfl, rfl, rfl, rfl, trivial⟩), h⟩ ?_
                clear h
                rintro k1 fr H ⟨g, b73, s74, b75, e76, x77, x78, rfl, h⟩
                cases k1 with
                | zero => exact h.elim
                | succ k1 =>
                  replace h : ladinglaw18_MsgCuts.r1 F K (ladinglaw18_MsgCuts.l1 F K k1) b73 s74 b75 e76 x77 x78 H := h
                  unfold ladinglaw18_MsgCuts.r1 at h
                  refine SW.seq ?_
                  refine SW.region ?_
                  refine SOps.val (v := .bool (decide (x78 < x77))) rfl (wantN rfl) (fun _ => by kernel_rfl) ?_
                  refine SOps.nil ?_
                  refine SW.seq ?_
                  by_cases c79 : x78 < x77
                  · replace h := h.1 c79
                    have dc79 : (decide (x78 < x77)) = true := (decide_eq_true c79)
                    refine SW.cond_t (t := decide (x78 < x77)) rfl dc79 ?_
                    refine SW.skip ?_
                    refine SW.seq ?_
                    refine SW.block ?_
                    refine SW.seq ?_
                    refine SW.region ?_
                    refine SOps.val (v := .int .i64 x78) rfl (wantN rfl) (fun _ => by kernel_rfl) ?_
                    refine SOps.val (v := .int .i64 x78) rfl (wantN rfl) (fun _ => by kernel_rfl) ?_
                    refine SOps.nil ?_
                    refine SW.region ?_
                    refine SOps.val (v := pv (some (b75, 4))) rfl (wantN rfl) (fun _ => by kernel_rfl) ?_
                    obtain ⟨l80, c81, h⟩ := h
                    refine SOps.rd (v := sv l80) rfl (wantN rfl) (fun w hw => ev_load1 rfl (fun _ => by kernel_rfl) (p := (b75, 4)) rfl c81 w hw) ?_
                    refine SOps.val (v := .int .i64 x78) rfl (wantN rfl) (fun _ => by kernel_rfl) ?_
                    obtain ⟨p82, c83, c84, c85, h⟩ := h
                    refine SOps.val (v := pv (some (p82.1, (p82.2 + x78.toNat * 1)))) rfl (wantN rfl) (fun w => ev_iaddr rfl Try.underlying22 (size := 1) (by kernel_rfl) rfl rfl c83 c84 c85 w) ?_
                    obtain ⟨c86, h⟩ := h
                    refine SOps.storeL (p := (p82.1, (p82.2 + x78.toNat * 1))) (v := .string (⟨#[116, 117, 114, 110, 101, 100]⟩ : ByteArray)) (cs := [.string (⟨#[116, 117, 114, 110, 101, 100]⟩ : ByteArray)]) rfl rfl (wantN rfl) (size := 1) (by kernel_rfl) rfl rfl rfl rfl (by simp [Value.oneCell', errV_one, pv, sv]) c86 ?_
                    refine SOps.nil ?_
                    refine SW.region ?_
                    refine SOps.val (v := .int .i64 (w64 (x78 + 1))) rfl (wantN rfl) (fun _ => by kernel_rfl) ?_
                    refine SOps.val (v := .int .i64 (w64 (x78 + 1))) rfl (wantN rfl) (fun _ => by kernel_rfl) ?_
                    refine SOps.nil ?_
                    exact ⟨k1, Nat.lt_succ_self k1, _, b73, s74, b75, e76, x77, w64 (x78 + 1), (Fr.upds_self _ _ ⟨rfl, rfl, rfl, rfl, rfl, rfl, trivial⟩), h⟩
                  · replace h := h.2 c79
                    have dc79 : (decide (x78 < x77)) = false := (decide_eq_false c79)
                    refine SW.cond_f (t := decide (x78 < x77)) rfl dc79 ?_
                    refine SW.exit ?_
                    refine SW.seq ?_
                    refine SW.region ?_
                    refine SOps.val (v := .string s74) rfl (wantN rfl) (fun _ => by kernel_rfl) ?_
                    refine SOps.enter rfl (wantN rfl) (fun _ => by kernel_rfl) (msg_Get.sound F s74 H _ h) ?_
                    clear h
                    rintro v H93 ⟨x87, x88, x89, s90, l91, e92, rfl, h⟩
                    refine SOps.val (v := .tuple #[.agg #[.int .i64 x87, .int .i64 x88, .int .i64 x89, .string s90, sv l91], errV e92]) rfl (wantN rfl) (fun _ => by kernel_rfl) ?_
                    refine SOps.val (v := .agg #[.int .i64 x87, .int .i64 x88, .int .i64 x89, .string s90, sv l91]) rfl (wantN rfl) (fun _ => by kernel_rfl) ?_
                    refine SOps.val (v := errV e92) rfl (wantN rfl) (fun _ => by kernel_rfl) ?_
                    refine SOps.alloc rfl rfl (wantN rfl) (z := .agg #[.int .i64 0, .int .i64 0, .int .i64 0, .string ByteArray.empty, sv Sl.nil]) (by kernel_rfl) (fun b94 c95 => ?_)
                    replace h := h b94 c95
                    obtain ⟨c96, h⟩ := h
                    refine SOps.storeL (p := (b94, 0)) (v := .agg #[.int .i64 x87, .int .i64 x88, .int .i64 x89, .string s90, sv l91]) (cs := [.int .i64 x87, .int .i64 x88, .int .i64 x89, .string s90, sv l91]) rfl rfl (wantN rfl) (size := 5) (by kernel_rfl) rfl rfl rfl rfl (by simp [Value.oneCell', errV_one, pv, sv]) c96 ?_
                    refine SOps.val (v := errV e92) rfl (wantN rfl) (fun _ => by kernel_rfl) ?_
                    refine SOps.nil ?_
                    refine SW.seq ?_
                    refine SW.region ?_
                    refine SOps.val (v := errV e76) rfl (wantN rfl) (fun _ => by kernel_rfl) ?_
                    rcases e76 with _ | v97
                    · replace h := h.1 rfl
                      refine SOps.val (v := .bool true) rfl (wantN rfl) (fun w => ev_errEq (e := none) rfl Try.underlying30 rfl rfl w) ?_
                      refine SOps.val (v := .bool true) rfl (wantN rfl) (fun _ => by kernel_rfl) ?_
                      refine SOps.val (v := errV e92) rfl (wantY (c := true) rfl rfl rfl rfl) (fun _ => by kernel_rfl) ?_
                      rcases e92 with _ | v98
                      · replace h := h.1 rfl
                        refine SOps.val (v := .bool true) rfl (wantY (c := true) rfl rfl rfl rfl) (fun w => ev_errEq (e := none) rfl Try.underlying30 rfl rfl w) ?_
                        refine SOps.val (v := .bool true) rfl (wantN rfl) (fun w => ev_pickT (v := .bool true) rfl (t := true) rfl rfl rfl w) ?_
                        refine SOps.val (v := .bool true) rfl (wantN rfl) (fun _ => by kernel_rfl) ?_
                        obtain ⟨x99, x100, x101, s102, l103, c104, h⟩ := h
                        refine SOps.rd (v := .agg #[.int .i64 x99, .int .i64 x100, .int .i64 x101, .string s102, sv l103]) rfl (wantY (c := true) rfl rfl rfl rfl) (fun w hw => ev_loadN rfl (fun _ => by kernel_rfl) (size := 5) (by kernel_rfl) (p := (b94, 0)) rfl rfl c104 w hw) ?_
                        obtain ⟨x105, x106, x107, s108, l109, c110, h⟩ := h
                        refine SOps.rd (v := .agg #[.int .i64 x105, .int .i64 x106, .int .i64 x107, .string s108, sv l109]) rfl (wantY (c := true) rfl rfl rfl rfl) (fun w hw => ev_loadN rfl (fun _ => by kernel_rfl) (size := 5) (by kernel_rfl) (p := (b73, 0)) rfl rfl c110 w hw) ?_
                        refine SOps.enter rfl (wantY (c := true) rfl rfl rfl rfl) (fun _ => by kernel_rfl) (ladinglaw18_same.sound F x99 x100 x101 s102 l103 x105 x106 x107 s108 l109 (SH.setl (SH.upd H93 b94 ⟨[.int .i64 0, .int .i64 0, .int .i64 0, .string ByteArray.empty, sv Sl.nil], 24, false, 5⟩) (b94, 0) [.int .i64 x87, .int .i64 x88, .int .i64 x89, .string s90, sv l91]) _ h) ?_
                        clear h
                        rintro v H112 ⟨q111, rfl, h⟩
                        refine SOps.val (v := .bool q111) rfl (wantN rfl) (fun w => ev_pickT (v := .bool q111) rfl (t := true) rfl rfl rfl w) ?_
                        refine SOps.val (v := .bool q111) rfl (wantN rfl) (fun _ => by kernel_rfl) ?_
                        refine SOps.nil ?_
                        obtain ⟨Hr, hr, h⟩ := h
                        exact SW.ret (retQ.mk (.bool q111) (res1 rfl rfl) hr ⟨q111, rfl, h⟩)
                      · replace h := h.2 v98 rfl
                        refine SOps.val (v := .bool false) rfl (wantY (c := true) rfl rfl rfl rfl) (fun w => ev_errEq (e := some v98) rfl Try.underlying30 rfl rfl w) ?_
                        refine SOps.val (v := .bool false) rfl (wantN rfl) (fun w => ev_pickT (v := .bool false) rfl (t := true) rfl rfl rfl w) ?_
                        refine SOps.val (v := .bool false) rfl (wantN rfl) (fun _ => by kernel_rfl) ?_
                        refine SOps.off rfl (wantX (c := false) rfl rfl rfl rfl) ?_
                        refine SOps.off rfl (wantX (c := false) rfl rfl rfl rfl) ?_
                        refine SOps.off rfl (wantX (c := false) rfl rfl rfl rfl) ?_
                        refine SOps.val (v := .bool false) rfl (wantN rfl) (fun w => ev_pickF (v := .bool false) rfl (t := false) rfl rfl rfl w) ?_
                        refine SOps.val (v := .bool false) rfl (wantN rfl) (fun _ => by kernel_rfl) ?_
                        refine SOps.nil ?_
                        obtain ⟨Hr, hr, h⟩ := h
                        exact SW.ret (retQ.mk (.bool false) (res1 rfl rfl) hr ⟨false, rfl, h⟩)
                    · replace h := h.2 v97 rfl
                      refine SOps.val (v := .bool false) rfl (wantN rfl) (fun w => ev_errEq (e := some v97) rfl Try.underlying30 rfl rfl w) ?_
                      refine SOps.val (v := .bool false) rfl (wantN rfl) (fun _ => by kernel_rfl) ?_
                      refine SOps.off rfl (wantX (c := false) rfl rfl rfl rfl) ?_
                      refine SOps.off rfl (wantX (c := false) rfl rfl rfl rfl) ?_
                      refine SOps.val (v := .bool false) rfl (wantN rfl) (fun w => ev_pickF (v := .bool false) rfl (t := false) rfl rfl rfl w) ?_
                      refine SOps.val (v := .bool false) rfl (wantN rfl) (fun _ => by kernel_rfl) ?_
                      refine SOps.off rfl (wantX (c := false) rfl rfl rfl rfl) ?_
                      refine SOps.off rfl (wantX (c := false) rfl rfl rfl rfl) ?_
                      refine SOps.off rfl (wantX (c := false) rfl rfl rfl rfl) ?_
                      refine SOps.val (v := .bool false) rfl (wantN rfl) (fun w => ev_pickF (v := .bool false) rfl (t := false) rfl rfl rfl w) ?_
                      refine SOps.val (v := .bool false) rfl (wantN rfl) (fun _ => by kernel_rfl) ?_
                      refine SOps.nil ?_
                      obtain ⟨Hr, hr, h⟩ := h
                      exact SW.ret (retQ.mk (.bool false) (res1 rfl rfl) hr ⟨false, rfl, h⟩)
            · replace h := h.2 v59 rfl
              refine SOps.val (v := .bool false) rfl (wantN rfl) (fun w => ev_errEq (e := some v59) rfl Try.underlying30 rfl rfl w) ?_
              refine SOps.val (v := .string s7) rfl (wantN rfl) (fun _ => by kernel_rfl) ?_
              refine SOps.val (v := .bool (decide (s7 = ByteArray.empty))) rfl (wantN rfl) (fun w => ev_eqS rfl rfl rfl w) ?_
              refine SOps.val (v := .bool (false != (decide (s7 = ByteArray.empty)))) rfl (wantN rfl) (fun _ => by kernel_rfl) ?_
              refine SOps.nil ?_
              by_cases c115 : false ≠ (decide (s7 = ByteArray.empty))
              · replace h := h.1 c115
                have dc115 : (false != (decide (s7 = ByteArray.empty))) = true := (bne_iff_ne.mpr c115)
                refine SW.cond_t (t := (false != (decide (s7 = ByteArray.empty)))) rfl dc115 ?_
                refine SW.seq ?_
                refine SW.region ?_
                refine SOps.val (v := .bool false) rfl (wantN rfl) (fun _ => by kernel_rfl) ?_
                refine SOps.nil ?_
                obtain ⟨Hr, hr, h⟩ := h
                exact SW.ret (retQ.mk (.bool false) (res1 rfl rfl) hr ⟨false, rfl, h⟩)
              · replace h := h.2 c115
                have dc115 : (false != (decide (s7 = ByteArray.empty))) = false := (by simpa using c115)
                refine SW.cond_f (t := (false != (decide (s7 = ByteArray.empty)))) rfl dc115 ?_
                refine SW.skip ?_
                refine SW.seq ?_
                refine SW.region ?_
                refine SOps.val (v := .string s29) rfl (wantN rfl) (fun _ => by kernel_rfl) ?_
                refine SOps.enter rfl (wantN rfl) (fun _ => by kernel_rfl) (msg_Get.sound F s29 (SH.setl (SH.upd H55 b56 ⟨[.int .i64 0, .int .i64 0, .int .i64 0, .string ByteArray.empty, sv Sl.nil], 24, false, 5⟩) (b56, 0) [.int .i64 x49, .int .i64 x50, .int .i64 x51, .string s52, sv l53]) _ h) ?_
                clear h
                rintro v H122 ⟨x116, x117, x118, s119, l120, e121, rfl, h⟩
                refine SOps.val (v := .tuple #[.agg #[.int .i64 x116, .int .i64 x117, .int .i64 x118, .string s119, sv l120], errV e121]) rfl (wantN rfl) (fun _ => by kernel_rfl) ?_
                refine SOps.val (v := .agg #[.int .i64 x116, .int .i64 x117, .int .i64 x118, .string s119, sv l120]) rfl (wantN rfl) (fun _ => by kernel_rfl) ?_
                refine SOps.val (v := errV e121) rfl (wantN rfl) (fun _ => by kernel_rfl) ?_
                refine SOps.alloc rfl rfl (wantN rfl) (z := .agg #[.int .i64 0, .int .i64 0, .int .i64 0, .string ByteArray.empty, sv Sl.nil]) (by kernel_rfl) (fun b123 c124 => ?_)
                replace h := h b123 c124
                obtain ⟨c125, h⟩ := h
                refine SOps.storeL (p := (b123, 0)) (v := .agg #[.int .i64 x116, .int .i64 x117, .int .i64 x118, .string s119, sv l120]) (cs := [.int .i64 x116, .int .i64 x117, .int .i64 x118, .string s119, sv l120]) rfl rfl (wantN rfl) (size := 5) (by kernel_rfl) rfl rfl rfl rfl (by simp [Value.oneCell', errV_one, pv, sv]) c125 ?_
                refine SOps.val (v := errV e121) rfl (wantN rfl) (fun _ => by kernel_rfl) ?_
                refine SOps.nil ?_
                refine SW.seq ?_
                refine SW.seq ?_
                refine SW.region ?_
                refine SOps.val (v := pv (some (b123, 4))) rfl (wantN rfl) (fun _ => by kernel_rfl) ?_
                obtain ⟨l126, c127, h⟩ := h
                refine SOps.rd (v := sv l126) rfl (wantN rfl) (fun w hw => ev_load1 rfl (fun _ => by kernel_rfl) (p := (b123, 4)) rfl c127 w hw) ?_
                refine SOps.val (v := .int .i64 (l126.len : Int)) rfl (wantN rfl) (fun _ => by kernel_rfl) ?_
                refine SOps.val (v := .int .i64 0) rfl (wantN rfl) (fun _ => by kernel_rfl) ?_
                refine SOps.nil ?_
                refine SW.block ?_
                refine SW.loop (fun k2 fr H => ∃ (g : Fr) (b128 : Nat) (s129 : ByteArray) (b130 : Nat) (e131 : Option EV) (x132 : Int) (x133 : Int), fr = g.upds [(3, pv (some (b128, 0))), (7, (.string s129 : Value)), (13, pv (some (b130, 0))), (14, errV e131), (66, (.int .i64 x132 : Value)), (67, (.int .i64 x133 : Value))] ∧ ladinglaw18_MsgCuts.l2 F K k2 b128 s129 b130 e131 x132 x133 H) F ⟨_, b8, s29, b123, e121, (l126.len : Int), 0, (Fr.upds_self _ _ ⟨rfl, rfl, rfl, rfl, rfl, rfl, trivial⟩), h⟩ ?_
                clear h
                rintro k2 fr H ⟨g, b128, s129, b130, e131, x132, x133, rfl, h⟩
                cases k2 with
                | zero => exact h.elim
                | succ k2 =>
                  replace h : ladinglaw18_MsgCuts.r2 F K (ladinglaw18_MsgCuts.l2 F K k2) b128 s129 b130 e131 x132 x133 H := h
                  unfold ladinglaw18_MsgCuts.r2 at h
                  refine SW.seq ?_
                  refine SW.region ?_
                  refine SOps.val (v := .bool (decide (x133 < x132))) rfl (wantN rfl) (fun _ => by kernel_rfl) ?_
                  refine SOps.nil ?_
                  refine SW.seq ?_
                  by_cases c134 : x133 < x132
                  · replace h := h.1 c134
                    have dc134 : (decide (x133 < x132)) = true := (decide_eq_true c134)
                    refine SW.cond_t (t := decide (x133 < x132)) rfl dc134 ?_
                    refine SW.skip ?_
                    refine SW.seq ?_
                    refine SW.block ?_
                    refine SW.seq ?_
                    refine SW.region ?_
                    refine SOps.val (v := .int .i64 x133) rfl (wantN rfl) (fun _ => by kernel_rfl) ?_
                    refine SOps.val (v := .int .i64 x133) rfl (wantN rfl) (fun _ => by kernel_rfl) ?_
                    refine SOps.nil ?_
                    refine SW.region ?_
                    refine SOps.val (v := pv (some (b130, 4))) rfl (wantN rfl) (fun _ => by kernel_rfl) ?_
                    obtain ⟨l135, c136, h⟩ := h
                    refine SOps.rd (v := sv l135) rfl (wantN rfl) (fun w hw => ev_load1 rfl (fun _ => by kernel_rfl) (p := (b130, 4)) rfl c136 w hw) ?_
                    refine SOps.val (v := .int .i64 x133) rfl (wantN rfl) (fun _ => by kernel_rfl) ?_
                    obtain ⟨p137, c138, c139, c140, h⟩ := h
                    refine SOps.val (v := pv (some (p137.1, (p137.2 + x133.toNat * 1)))) rfl (wantN rfl) (fun w => ev_iaddr rfl Try.underlying22 (size := 1) (by kernel_rfl) rfl rfl c138 c139 c140 w) ?_
                    obtain ⟨c141, h⟩ := h
                    refine SOps.storeL (p := (p137.1, (p137.2 + x133.toNat * 1))) (v := .string (⟨#[116, 117, 114, 110, 101, 100]⟩ : ByteArray)) (cs := [.string (⟨#[116, 117, 114, 110, 101, 100]⟩ : ByteArray)]) rfl rfl (wantN rfl) (size := 1) (by kernel_rfl) rfl rfl rfl rfl (by simp [Value.oneCell', errV_one, pv, sv]) c141 ?_
                    refine SOps.nil ?_
                    refine SW.region ?_
                    refine SOps.val (v := .int .i64 (w64 (x133 + 1))) rfl (wantN rfl) (fun _ => by kernel_rfl) ?_
                    refine SOps.val (v := .int .i64 (w64 (x133 + 1))) rfl (wantN rfl) (fun _ => by kernel_rfl) ?_
                    refine SOps.nil ?_
                    exact ⟨k2, Nat.lt_succ_self k2, _, b128, s129, b130, e131, x132, w64 (x133 + 1), (Fr.upds_self _ _ ⟨rfl, rfl, rfl, rfl, rfl, rfl, trivial⟩), h⟩
                  · replace h := h.2 c134
                    have dc134 : (decide (x133 < x132)) = false := (decide_eq_false c134)
                    refine SW.cond_f (t := decide (x133 < x132)) rfl dc134 ?_
                    refine SW.exit ?_
                    refine SW.seq ?_
                    refine SW.region ?_
                    refine SOps.val (v := .string s129) rfl (wantN rfl) (fun _ => by kernel_rfl) ?_
                    refine SOps.enter rfl (wantN rfl) (fun _ => by kernel_rfl) (msg_Get.sound F s129 H _ h) ?_
                    clear h
                    rintro v H148 ⟨x142, x143, x144, s145, l146, e147, rfl, h⟩
                    refine SOps.val (v := .tuple #[.agg #[.int .i64 x142, .int .i64 x143, .int .i64 x144, .string s145, sv l146], errV e147]) rfl (wantN rfl) (fun _ => by kernel_rfl) ?_
                    refine SOps.val (v := .agg #[.int .i64 x142, .int .i64 x143, .int .i64 x144, .string s145, sv l146]) rfl (wantN rfl) (fun _ => by kernel_rfl) ?_
                    refine SOps.val (v := errV e147) rfl (wantN rfl) (fun _ => by kernel_rfl) ?_
                    refine SOps.alloc rfl rfl (wantN rfl) (z := .agg #[.int .i64 0, .int .i64 0, .int .i64 0, .string ByteArray.empty, sv Sl.nil]) (by kernel_rfl) (fun b149 c150 => ?_)
                    replace h := h b149 c150
                    obtain ⟨c151, h⟩ := h
                    refine SOps.storeL (p := (b149, 0)) (v := .agg #[.int .i64 x142, .int .i64 x143, .int .i64 x144, .string s145, sv l146]) (cs := [.int .i64 x142, .int .i64 x143, .int .i64 x144, .string s145, sv l146]) rfl rfl (wantN rfl) (size := 5) (by kernel_rfl) rfl rfl rfl rfl (by simp [Value.oneCell', errV_one, pv, sv]) c151 ?_
                    refine SOps.val (v := errV e147) rfl (wantN rfl) (fun _ => by kernel_rfl) ?_
                    refine SOps.nil ?_
                    refine SW.seq ?_
                    refine SW.region ?_
                    refine SOps.val (v := errV e131) rfl (wantN rfl) (fun _ => by kernel_rfl) ?_
                    rcases e131 with _ | v152
                    · replace h := h.1 rfl
                      refine SOps.val (v := .bool true) rfl (wantN rfl) (fun w => ev_errEq (e := none) rfl Try.underlying30 rfl rfl w) ?_
                      refine SOps.val (v := .bool true) rfl (wantN rfl) (fun _ => by kernel_rfl) ?_
                      refine SOps.val (v := errV e147) rfl (wantY (c := true) rfl rfl rfl rfl) (fun _ => by kernel_rfl) ?_
                      rcases e147 with _ | v153
                      · replace h := h.1 rfl
                        refine SOps.val (v := .bool true) rfl (wantY (c := true) rfl rfl rfl rfl) (fun w => ev_errEq (e := none) rfl Try.underlying30 rfl rfl w) ?_
                        refine SOps.val (v := .bool true) rfl (wantN rfl) (fun w => ev_pickT (v := .bool true) rfl (t := true) rfl rfl rfl w) ?_
                        refine SOps.val (v := .bool true) rfl (wantN rfl) (fun _ => by kernel_rfl) ?_
                        obtain ⟨x154, x155, x156, s157, l158, c159, h⟩ := h
                        refine SOps.rd (v := .agg #[.int .i64 x154, .int .i64 x155, .int .i64 x156, .string s157, sv l158]) rfl (wantY (c := true) rfl rfl rfl rfl) (fun w hw => ev_loadN rfl (fun _ => by kernel_rfl) (size := 5) (by kernel_rfl) (p := (b149, 0)) rfl rfl c159 w hw) ?_
                        obtain ⟨x160, x161, x162, s163, l164, c165, h⟩ := h
                        refine SOps.rd (v := .agg #[.int .i64 x160, .int .i64 x161, .int .i64 x162, .string s163, sv l164]) rfl (wantY (c := true) rfl rfl rfl rfl) (fun w hw => ev_loadN rfl (fun _ => by kernel_rfl) (size := 5) (by kernel_rfl) (p := (b128, 0)) rfl rfl c165 w hw) ?_
                        refine SOps.enter rfl (wantY (c := true) rfl rfl rfl rfl) (fun _ => by kernel_rfl) (ladinglaw18_same.sound F x154 x155 x156 s157 l158 x160 x161 x162 s163 l164 (SH.setl (SH.upd H148 b149 ⟨[.int .i64 0, .int .i64 0, .int .i64 0, .string ByteArray.empty, sv Sl.nil], 24, false, 5⟩) (b149, 0) [.int .i64 x142, .int .i64 x143, .int .i64 x144, .string s145, sv l146]) _ h) ?_
                        clear h
                        rintro v H167 ⟨q166, rfl, h⟩
                        refine SOps.val (v := .bool q166) rfl (wantN rfl) (fun w => ev_pickT (v := .bool q166) rfl (t := true) rfl rfl rfl w) ?_
                        refine SOps.val (v := .bool q166) rfl (wantN rfl) (fun _ => by kernel_rfl) ?_
                        refine SOps.nil ?_
                        obtain ⟨Hr, hr, h⟩ := h
                        exact SW.ret (retQ.mk (.bool q166) (res1 rfl rfl) hr ⟨q166, rfl, h⟩)
                      · replace h := h.2 v153 rfl
                        refine SOps.val (v := .bool false) rfl (wantY (c := true) rfl rfl rfl rfl) (fun w => ev_errEq (e := some v153) rfl Try.underlying30 rfl rfl w) ?_
                        refine SOps.val (v := .bool false) rfl (wantN rfl) (fun w => ev_pickT (v := .bool false) rfl (t := true) rfl rfl rfl w) ?_
                        refine SOps.val (v := .bool false) rfl (wantN rfl) (fun _ => by kernel_rfl) ?_
                        refine SOps.off rfl (wantX (c := false) rfl rfl rfl rfl) ?_
                        refine SOps.off rfl (wantX (c := false) rfl rfl rfl rfl) ?_
                        refine SOps.off rfl (wantX (c := false) rfl rfl rfl rfl) ?_
                        refine SOps.val (v := .bool false) rfl (wantN rfl) (fun w => ev_pickF (v := .bool false) rfl (t := false) rfl rfl rfl w) ?_
                        refine SOps.val (v := .bool false) rfl (wantN rfl) (fun _ => by kernel_rfl) ?_
                        refine SOps.nil ?_
                        obtain ⟨Hr, hr, h⟩ := h
                        exact SW.ret (retQ.mk (.bool false) (res1 rfl rfl) hr ⟨false, rfl, h⟩)
                    · replace h := h.2 v152 rfl
                      refine SOps.val (v := .bool false) rfl (wantN rfl) (fun w => ev_errEq (e := some v152) rfl Try.underlying30 rfl rfl w) ?_
                      refine SOps.val (v := .bool false) rfl (wantN rfl) (fun _ => by kernel_rfl) ?_
                      refine SOps.off rfl (wantX (c := false) rfl rfl rfl rfl) ?_
                      refine SOps.off rfl (wantX (c := false) rfl rfl rfl rfl) ?_
                      refine SOps.val (v := .bool false) rfl (wantN rfl) (fun w => ev_pickF (v := .bool false) rfl (t := false) rfl rfl rfl w) ?_
                      refine SOps.val (v := .bool false) rfl (wantN rfl) (fun _ => by kernel_rfl) ?_
                      refine SOps.off rfl (wantX (c := false) rfl rfl rfl rfl) ?_
                      refine SOps.off rfl (wantX (c := false) rfl rfl rfl rfl) ?_
                      refine SOps.off rfl (wantX (c := false) rfl rfl rfl rfl) ?_
                      refine SOps.val (v := .bool false) rfl (wantN rfl) (fun w => ev_pickF (v := .bool false) rfl (t := false) rfl rfl rfl w) ?_
                      refine SOps.val (v := .bool false) rfl (wantN rfl) (fun _ => by kernel_rfl) ?_
                      refine SOps.nil ?_
                      obtain ⟨Hr, hr, h⟩ := h
                      exact SW.ret (retQ.mk (.bool false) (res1 rfl rfl) hr ⟨false, rfl, h⟩)
        · replace h := h.2 v32 rfl
          refine SOps.val (v := .bool true) rfl (wantN rfl) (fun w => ev_errNe (e := some v32) rfl Try.underlying30 rfl rfl w) ?_
          refine SOps.nil ?_
          refine SW.cond_t (t := true) rfl rfl ?_
          refine SW.seq ?_
          refine SW.region ?_
          refine SOps.val (v := .bool true) rfl (wantN rfl) (fun _ => by kernel_rfl) ?_
          refine SOps.nil ?_
          obtain ⟨Hr, hr, h⟩ := h
          exact SW.ret (retQ.mk (.bool true) (res1 rfl rfl) hr ⟨true, rfl, h⟩)
  · replace h := h.2 c12
    have dc12 : q10 = false := (Bool.eq_false_iff.mpr c12)
    refine SW.cond_t (t := !q10) rfl (not_f dc12) ?_
    refine SW.seq ?_
    refine SW.region ?_
    refine SOps.val (v := .bool false) rfl (wantN rfl) (fun _ => by kernel_rfl) ?_
    refine SOps.nil ?_
    obtain ⟨Hr, hr, h⟩ := h
    exact SW.ret (retQ.mk (.bool false) (res1 rfl rfl) hr ⟨false, rfl, h⟩)

end Go.Proofs.Ytkfbmoekghbgbaa.K
