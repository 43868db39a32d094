import Derived.Test.YtkfbmoekghbgbaaDoorGladinglaw18
set_option linter.unusedVariables false
set_option linter.unusedSimpArgs false
set_option maxRecDepth 100000
namespace Go.Proofs.YtkfbmoekghbgbaaDoor.K
open Go
attribute [local irreducible] SW SOps SQ SCalls retQ

/-! ### lading/ladinglaw18.MsgPuts: function 6 -/
def ladinglaw18_MsgPuts.j1 (F : Nat) (K : Bool → SH → Prop) (x56 : Int) (x57 : Int) (b58 : Nat) (q59 : Bool) (s60 : ByteArray) (e61 : Option EV) (H : SH) : Prop :=
  (q59 = true →
    msg_Get.wp F s60 H (fun x71 x72 x73 s74 l75 e76 H77 =>
      ∀ b78, H77 b78 = none →
      SH.wrs (SH.upd H77 b78 ⟨[.int .i64 0, .int .i64 0, .int .i64 0, .string ByteArray.empty, sv Sl.nil], 53, false, 5⟩) (b78, 0) 5 ∧
      (e61 = none →
        ∃ (x82 : Int) (x83 : Int) (x84 : Int) (s85 : ByteArray) (l86 : Sl),
        SH.row (SH.setl (SH.upd H77 b78 ⟨[.int .i64 0, .int .i64 0, .int .i64 0, .string ByteArray.empty, sv Sl.nil], 53, false, 5⟩) (b78, 0) [.int .i64 x71, .int .i64 x72, .int .i64 x73, .string s74, sv l75]) (some (b58, 0)) [.int .i64 x82, .int .i64 x83, .int .i64 x84, .string s85, sv l86] ∧
        ladinglaw18_parts.wp F x82 x83 x84 s85 l86 (SH.setl (SH.upd H77 b78 ⟨[.int .i64 0, .int .i64 0, .int .i64 0, .string ByteArray.empty, sv Sl.nil], 53, false, 5⟩) (b78, 0) [.int .i64 x71, .int .i64 x72, .int .i64 x73, .string s74, sv l75]) (fun x88 x89 x90 s91 l92 H93 =>
          ladingref18_Put.wp F x88 x89 x90 s91 l92 H93 (fun s94 H95 =>
            ((s60 = s94) →
              (e76 = none →
                ∃ (x98 : Int) (x99 : Int) (x100 : Int) (s101 : ByteArray) (l102 : Sl),
                SH.row H95 (some (b78, 0)) [.int .i64 x98, .int .i64 x99, .int .i64 x100, .string s101, sv l102] ∧
                ∃ (x104 : Int) (x105 : Int) (x106 : Int) (s107 : ByteArray) (l108 : Sl),
                SH.row H95 (some (b58, 0)) [.int .i64 x104, .int .i64 x105, .int .i64 x106, .string s107, sv l108] ∧
                ladinglaw18_same.wp F x98 x99 x100 s101 l102 x104 x105 x106 s107 l108 H95 (fun q110 H111 =>
                  (q110 = true →
                    ∃ (x113 : Int) (x114 : Int) (x115 : Int) (s116 : ByteArray) (l117 : Sl),
                    SH.row H111 (some (b78, 0)) [.int .i64 x113, .int .i64 x114, .int .i64 x115, .string s116, sv l117] ∧
                    ∃ (x119 : Int) (x120 : Int) (x121 : Int) (s122 : ByteArray) (l123 : Sl),
                    SH.row H111 (some (b58, 0)) [.int .i64 x119, .int .i64 x120, .int .i64 x121, .string s122, sv l123] ∧
                    msg_Same.wp F x113 x114 x115 s116 l117 x119 x120 x121 s122 l123 H111 (fun q125 H126 =>
                      (q125 = true →
                        ∀ b128 n129, H126 b128 = none → s60.size ≤ n129 →
                        ((⟨some (b128, 0), s60.size, n129⟩ : Sl).len : Int) ≠ 0 ∧
                        ∃ p133, (⟨some (b128, 0), s60.size, n129⟩ : Sl).a = some p133 ∧ 0 ≤ ((w64 x56).tmod ((⟨some (b128, 0), s60.size, n129⟩ : Sl).len : Int)) ∧ ((w64 x56).tmod ((⟨some (b128, 0), s60.size, n129⟩ : Sl).len : Int)) < ((⟨some (b128, 0), s60.size, n129⟩ : Sl).len : Int) ∧
                        ∃ (x137 : Int),
                        SH.has (SH.upd H126 b128 ⟨byteCells s60.data.toList, 5, false, n129⟩) (p133.1, (p133.2 + ((w64 x56).tmod ((⟨some (b128, 0), s60.size, n129⟩ : Sl).len : Int)).toNat * 1)) (.int .u8 x137) ∧
                        ∃ p139, (⟨some (b128, 0), s60.size, n129⟩ : Sl).a = some p139 ∧ 0 ≤ ((w64 x56).tmod ((⟨some (b128, 0), s60.size, n129⟩ : Sl).len : Int)) ∧ ((w64 x56).tmod ((⟨some (b128, 0), s60.size, n129⟩ : Sl).len : Int)) < ((⟨some (b128, 0), s60.size, n129⟩ : Sl).len : Int) ∧
                        SH.wrs (SH.upd H126 b128 ⟨byteCells s60.data.toList, 5, false, n129⟩) (p139.1, (p139.2 + ((w64 x56).tmod ((⟨some (b128, 0), s60.size, n129⟩ : Sl).len : Int)).toNat * 1)) 1 ∧
                        ∃ bs144 : List UInt8,
                        (⟨some (b128, 0), s60.size, n129⟩ : Sl).len = bs144.length ∧
                        SH.row (SH.setl (SH.upd H126 b128 ⟨byteCells s60.data.toList, 5, false, n129⟩) (p139.1, (p139.2 + ((w64 x56).tmod ((⟨some (b128, 0), s60.size, n129⟩ : Sl).len : Int)).toNat * 1)) [.int .u8 (ibits .xor .u8 x137 x57)]) (⟨some (b128, 0), s60.size, n129⟩ : Sl).a (byteCells bs144) ∧
                        msg_Get.wp F (⟨bs144.toArray⟩ : ByteArray) (SH.setl (SH.upd H126 b128 ⟨byteCells s60.data.toList, 5, false, n129⟩) (p139.1, (p139.2 + ((w64 x56).tmod ((⟨some (b128, 0), s60.size, n129⟩ : Sl).len : Int)).toNat * 1)) [.int .u8 (ibits .xor .u8 x137 x57)]) (fun x147 x148 x149 s150 l151 e152 H153 =>
                          ∀ b154, H153 b154 = none →
                          SH.wrs (SH.upd H153 b154 ⟨[.int .i64 0, .int .i64 0, .int .i64 0, .string ByteArray.empty, sv Sl.nil], 53, false, 5⟩) (b154, 0) 5 ∧
                          (x57 = 0 →
                            ∃ Hr, SH.le Hr (SH.setl (SH.upd H153 b154 ⟨[.int .i64 0, .int .i64 0, .int .i64 0, .string ByteArray.empty, sv Sl.nil], 53, false, 5⟩) (b154, 0) [.int .i64 x147, .int .i64 x148, .int .i64 x149, .string s150, sv l151]) ∧ K true Hr
                          ) ∧ (¬ (x57 = 0) →
                            (e152 = none →
                              ∃ Hr, SH.le Hr (SH.setl (SH.upd H153 b154 ⟨[.int .i64 0, .int .i64 0, .int .i64 0, .string ByteArray.empty, sv Sl.nil], 53, false, 5⟩) (b154, 0) [.int .i64 x147, .int .i64 x148, .int .i64 x149, .string s150, sv l151]) ∧ K false Hr
                            ) ∧ (∀ v158, e152 = some v158 →
                              ∃ (x159 : Int) (x160 : Int) (x161 : Int) (s162 : ByteArray) (l163 : Sl),
                              SH.row (SH.setl (SH.upd H153 b154 ⟨[.int .i64 0, .int .i64 0, .int .i64 0, .string ByteArray.empty, sv Sl.nil], 53, false, 5⟩) (b154, 0) [.int .i64 x147, .int .i64 x148, .int .i64 x149, .string s150, sv l151]) (some (b154, 0)) [.int .i64 x159, .int .i64 x160, .int .i64 x161, .string s162, sv l163] ∧
                              ladinglaw18_same.wp F x159 x160 x161 s162 l163 0 0 0 ByteArray.empty Sl.nil (SH.setl (SH.upd H153 b154 ⟨[.int .i64 0, .int .i64 0, .int .i64 0, .string ByteArray.empty, sv Sl.nil], 53, false, 5⟩) (b154, 0) [.int .i64 x147, .int .i64 x148, .int .i64 x149, .string s150, sv l151]) (fun q165 H166 =>
                                ∃ Hr, SH.le Hr H166 ∧ K q165 Hr
                              )
                            )
                          )
                        )
                      ) ∧ (¬ (q125 = true) →
                        ∃ Hr, SH.le Hr H126 ∧ K false Hr
                      )
                    )
                  ) ∧ (¬ (q110 = true) →
                    ∃ Hr, SH.le Hr H111 ∧ K false Hr
                  )
                )
              ) ∧ (∀ v97, e76 = some v97 →
                ∃ Hr, SH.le Hr H95 ∧ K false Hr
              )
            ) ∧ (¬ ((s60 = s94)) →
              ∃ Hr, SH.le Hr H95 ∧ K false Hr
            )
          )
        )
      ) ∧ (∀ v81, e61 = some v81 →
        ∃ Hr, SH.le Hr (SH.setl (SH.upd H77 b78 ⟨[.int .i64 0, .int .i64 0, .int .i64 0, .string ByteArray.empty, sv Sl.nil], 53, false, 5⟩) (b78, 0) [.int .i64 x71, .int .i64 x72, .int .i64 x73, .string s74, sv l75]) ∧ K false Hr
      )
    )
  ) ∧ (¬ (q59 = true) →
    (s60 = ByteArray.empty →
      api_Code.wp F e61 H (fun x168 H169 =>
        ∃ Hr, SH.le Hr H169 ∧ K (x168 == 4) Hr
      )
    ) ∧ (¬ (s60 = ByteArray.empty) →
      ∃ Hr, SH.le Hr H ∧ K false Hr
    )
  )
def ladinglaw18_MsgPuts.wp (F : Nat) (x1 : Int) (x2 : Int) (x3 : Int) (s4 : ByteArray) (l5 : Sl) (x6 : Int) (x7 : Int) (H : SH) (K : Bool → SH → Prop) : Prop :=
  ∀ b8, H b8 = none →
  ladinglaw18_awake.wp F  (SH.upd H b8 ⟨[.int .i64 x1, .int .i64 x2, .int .i64 x3, .string s4, sv l5], 53, false, 5⟩) (fun q10 H11 =>
    (q10 = true →
      ∃ (x13 : Int) (x14 : Int) (x15 : Int) (s16 : ByteArray) (l17 : Sl),
      SH.row H11 (some (b8, 0)) [.int .i64 x13, .int .i64 x14, .int .i64 x15, .string s16, sv l17] ∧
      ladinglaw18_Great.wp F x13 x14 x15 s16 l17 H11 (fun q19 H20 =>
        (q19 = true →
          ∃ Hr, SH.le Hr H20 ∧ K true Hr
        ) ∧ (¬ (q19 = true) →
          ∃ (x22 : Int) (x23 : Int) (x24 : Int) (s25 : ByteArray) (l26 : Sl),
          SH.row H20 (some (b8, 0)) [.int .i64 x22, .int .i64 x23, .int .i64 x24, .string s25, sv l26] ∧
          ladinglaw18_parts.wp F x22 x23 x24 s25 l26 H20 (fun x28 x29 x30 s31 l32 H33 =>
            ladingref18_May.wp F x28 x29 x30 s31 l32 H33 (fun q34 H35 =>
              ∃ (x36 : Int) (x37 : Int) (x38 : Int) (s39 : ByteArray) (l40 : Sl),
              SH.row H35 (some (b8, 0)) [.int .i64 x36, .int .i64 x37, .int .i64 x38, .string s39, sv l40] ∧
              msg_Put.wp F x36 x37 x38 s39 l40 H35 (fun s42 e43 H44 =>
                ∃ (x45 : Int) (x46 : Int) (x47 : Int) (s48 : ByteArray) (l49 : Sl),
                SH.row H44 (some (b8, 0)) [.int .i64 x45, .int .i64 x46, .int .i64 x47, .string s48, sv l49] ∧
                msg_Check.wp F x45 x46 x47 s48 l49 H44 (fun e51 H52 =>
                  (e51 = none →
                    (true ≠ q34 →
                      ∃ Hr, SH.le Hr H52 ∧ K false Hr
                    ) ∧ (¬ (true ≠ q34) →
                      (q34 = true →
                        ladinglaw18_MsgPuts.j1 F K x6 x7 b8 q34 s42 e43 H52
                      ) ∧ (¬ (q34 = true) →
                        api_Code.wp F none H52 (fun x62 H63 =>
                          (x62 ≠ 4 →
                            ∃ Hr, SH.le Hr H63 ∧ K false Hr
                          ) ∧ (¬ (x62 ≠ 4) →
                            ladinglaw18_MsgPuts.j1 F K x6 x7 b8 q34 s42 e43 H63
                          )
                        )
                      )
                    )
                  ) ∧ (∀ v53, e51 = some v53 →
                    (false ≠ q34 →
                      ∃ Hr, SH.le Hr H52 ∧ K false Hr
                    ) ∧ (¬ (false ≠ q34) →
                      (q34 = true →
                        ladinglaw18_MsgPuts.j1 F K x6 x7 b8 q34 s42 e43 H52
                      ) ∧ (¬ (q34 = true) →
                        api_Code.wp F (some v53) H52 (fun x67 H68 =>
                          (x67 ≠ 4 →
                            ∃ Hr, SH.le Hr H68 ∧ K false Hr
                          ) ∧ (¬ (x67 ≠ 4) →
                            ladinglaw18_MsgPuts.j1 F K x6 x7 b8 q34 s42 e43 H68
                          )
                        )
                      )
                    )
                  )
                )
              )
            )
          )
        )
      )
    ) ∧ (¬ (q10 = true) →
      ∃ Hr, SH.le Hr H11 ∧ K false Hr
    )
  )
set_option maxHeartbeats 8000000 in
theorem ladinglaw18_MsgPuts.sound (F : Nat) (x1 : Int) (x2 : Int) (x3 : Int) (s4 : ByteArray) (l5 : Sl) (x6 : Int) (x7 : Int) (H : SH) (K : Bool → SH → Prop) (h : ladinglaw18_MsgPuts.wp F x1 x2 x3 s4 l5 x6 x7 H K) : SCalls Tryd.prog 6 #[.agg #[.int .i64 x1, .int .i64 x2, .int .i64 x3, .string s4, sv l5], .int .u16 x6, .int .u8 x7] H (fun v H' => ∃ (q172 : Bool), v = .bool q172 ∧ K q172 H') := by
  unfold ladinglaw18_MsgPuts.wp at h
  refine SCalls.body Tryd.func6 rfl (Nat.le_of_ble_eq_true rfl) ?_
  refine SW.seq ?_
  refine SW.region ?_
  refine SOps.box rfl rfl (wantN rfl) (v := .agg #[.int .i64 x1, .int .i64 x2, .int .i64 x3, .string s4, sv l5]) rfl (fun b8 c9 => ?_)
  replace h := h b8 c9
  refine SOps.val (v := .bool false) rfl (wantN rfl) (fun _ => by kernel_rfl) ?_
  refine SOps.nil ?_
  refine SW.seq ?_
  refine SW.seq ?_
  refine SW.region ?_
  refine SOps.enter rfl (wantN rfl) (fun _ => by kernel_rfl) (ladinglaw18_awake.sound F  (SH.upd H b8 ⟨[.int .i64 x1, .int .i64 x2, .int .i64 x3, .string s4, sv l5], 53, false, 5⟩) _ h) ?_
  clear h
  rintro v H11 ⟨q10, rfl, h⟩
  refine SOps.val (v := .bool (!q10)) rfl (wantN rfl) (fun _ => by kernel_rfl) ?_
  refine SOps.nil ?_
  by_cases c12 : q10 = true
  · replace h := h.1 c12
    have dc12 : q10 = true := c12
    refine SW.cond_f (t := !q10) rfl (not_t dc12) ?_
    refine SW.skip ?_
    refine SW.seq ?_
    refine SW.seq ?_
    refine SW.region ?_
    obtain ⟨x13, x14, x15, s16, l17, c18, h⟩ := h
    refine SOps.rd (v := .agg #[.int .i64 x13, .int .i64 x14, .int .i64 x15, .string s16, sv l17]) rfl (wantN rfl) (fun w hw => ev_loadN rfl (fun _ => by kernel_rfl) (size := 5) (by kernel_rfl) (p := (b8, 0)) rfl rfl c18 w hw) ?_
    refine SOps.enter rfl (wantN rfl) (fun _ => by kernel_rfl) (ladinglaw18_Great.sound F x13 x14 x15 s16 l17 H11 _ h) ?_
    clear h
    rintro v H20 ⟨q19, rfl, h⟩
    refine SOps.nil ?_
    by_cases c21 : q19 = true
    · replace h := h.1 c21
      have dc21 : q19 = true := c21
      refine SW.cond_t (t := q19) rfl dc21 ?_
      refine SW.seq ?_
      refine SW.region ?_
      refine SOps.val (v := .bool true) rfl (wantN rfl) (fun _ => by kernel_rfl) ?_
      refine SOps.nil ?_
      obtain ⟨Hr, hr, h⟩ := h
      exact SW.ret (retQ.mk (.bool true) (res1 rfl rfl) hr ⟨true, rfl, h⟩)
    · replace h := h.2 c21
      have dc21 : q19 = false := (Bool.eq_false_iff.mpr c21)
      refine SW.cond_f (t := q19) rfl dc21 ?_
      refine SW.skip ?_
      refine SW.seq ?_
      refine SW.region ?_
      obtain ⟨x22, x23, x24, s25, l26, c27, h⟩ := h
      refine SOps.rd (v := .agg #[.int .i64 x22, .int .i64 x23, .int .i64 x24, .string s25, sv l26]) rfl (wantN rfl) (fun w hw => ev_loadN rfl (fun _ => by kernel_rfl) (size := 5) (by kernel_rfl) (p := (b8, 0)) rfl rfl c27 w hw) ?_
      refine SOps.enter rfl (wantN rfl) (fun _ => by kernel_rfl) (ladinglaw18_parts.sound F x22 x23 x24 s25 l26 H20 _ h) ?_
      clear h
      rintro v H33 ⟨x28, x29, x30, s31, l32, rfl, h⟩
      refine SOps.enter rfl (wantN rfl) (fun _ => by kernel_rfl) (ladingref18_May.sound F x28 x29 x30 s31 l32 H33 _ h) ?_
      clear h
      rintro v H35 ⟨q34, rfl, h⟩
      refine SOps.val (v := .bool q34) rfl (wantN rfl) (fun _ => by kernel_rfl) ?_
      refine SOps.nil ?_
      refine SW.seq ?_
      refine SW.region ?_
      obtain ⟨x36, x37, x38, s39, l40, c41, h⟩ := h
      refine SOps.rd (v := .agg #[.int .i64 x36, .int .i64 x37, .int .i64 x38, .string s39, sv l40]) rfl (wantN rfl) (fun w hw => ev_loadN rfl (fun _ => by kernel_rfl) (size := 5) (by kernel_rfl) (p := (b8, 0)) rfl rfl c41 w hw) ?_
      refine SOps.enter rfl (wantN rfl) (fun _ => by kernel_rfl) (msg_Put.sound F x36 x37 x38 s39 l40 H35 _ h) ?_
      clear h
      rintro v H44 ⟨s42, e43, rfl, h⟩
      refine SOps.val (v := .tuple #[.string s42, errV e43]) rfl (wantN rfl) (fun _ => by kernel_rfl) ?_
      refine SOps.val (v := .string s42) rfl (wantN rfl) (fun _ => by kernel_rfl) ?_
      refine SOps.val (v := errV e43) rfl (wantN rfl) (fun _ => by kernel_rfl) ?_
      refine SOps.val (v := .string s42) rfl (wantN rfl) (fun _ => by kernel_rfl) ?_
      refine SOps.val (v := errV e43) rfl (wantN rfl) (fun _ => by kernel_rfl) ?_
      refine SOps.nil ?_
      refine SW.seqJ (fun fr H => ∃ (g : Fr) (x56 : Int) (x57 : Int) (b58 : Nat) (q59 : Bool) (s60 : ByteArray) (e61 : Option EV), fr = g.upds [(1, (.int .u16 x56 : Value)), (2, (.int .u8 x57 : Value)), (3, pv (some (b58, 0))), (7, (.bool q59 : Value)), (8, (.string s60 : Value)), (9, errV e61)] ∧ ladinglaw18_MsgPuts.j1 F K x56 x57 b58 q59 s60 e61 H) ?_ ?_
      · clear h
        rintro fr H ⟨g, x56, x57, b58, q59, s60, e61, rfl, h⟩
        unfold ladinglaw18_MsgPuts.j1 at h
        refine SW.seq ?_
        refine SW.seq ?_
        refine SW.region ?_
        refine SOps.val (v := .bool q59) rfl (wantN rfl) (fun _ => by kernel_rfl) ?_
        refine SOps.val (v := .bool (!q59)) rfl (wantN rfl) (fun _ => by kernel_rfl) ?_
        refine SOps.nil ?_
        by_cases c70 : q59 = true
        · replace h := h.1 c70
          have dc70 : q59 = true := c70
          refine SW.cond_f (t := !q59) rfl (not_t dc70) ?_
          refine SW.skip ?_
          refine SW.seq ?_
          refine SW.region ?_
          refine SOps.val (v := .string s60) rfl (wantN rfl) (fun _ => by kernel_rfl) ?_
          refine SOps.enter rfl (wantN rfl) (fun _ => by kernel_rfl) (msg_Get.sound F s60 H _ h) ?_
          clear h
          rintro v H77 ⟨x71, x72, x73, s74, l75, e76, rfl, h⟩
          refine SOps.val (v := .tuple #[.agg #[.int .i64 x71, .int .i64 x72, .int .i64 x73, .string s74, sv l75], errV e76]) rfl (wantN rfl) (fun _ => by kernel_rfl) ?_
          refine SOps.val (v := .agg #[.int .i64 x71, .int .i64 x72, .int .i64 x73, .string s74, sv l75]) rfl (wantN rfl) (fun _ => by kernel_rfl) ?_
          refine SOps.val (v := errV e76) rfl (wantN rfl) (fun _ => by kernel_rfl) ?_
          refine SOps.alloc rfl rfl (wantN rfl) (z := .agg #[.int .i64 0, .int .i64 0, .int .i64 0, .string ByteArray.empty, sv Sl.nil]) (by kernel_rfl) (fun b78 c79 => ?_)
          replace h := h b78 c79
          obtain ⟨c80, h⟩ := h
          refine SOps.storeL (p := (b78, 0)) (v := .agg #[.int .i64 x71, .int .i64 x72, .int .i64 x73, .string s74, sv l75]) (cs := [.int .i64 x71, .int .i64 x72, .int .i64 x73, .string s74, sv l75]) rfl rfl (wantN rfl) (size := 5) (by kernel_rfl) rfl rfl rfl rfl (by simp [Value.oneCell', errV_one, pv, sv]) c80 ?_
          refine SOps.val (v := errV e76) rfl (wantN rfl) (fun _ => by kernel_rfl) ?_
          refine SOps.nil ?_
          refine SW.seq ?_
          refine SW.seq ?_
          refine SW.region ?_
          refine SOps.val (v := errV e61) rfl (wantN rfl) (fun _ => by kernel_rfl) ?_
          rcases e61 with _ | v81
          · replace h := h.1 rfl
            refine SOps.val (v := .bool false) rfl (wantN rfl) (fun w => ev_errNe (e := none) rfl Tryd.underlying31 rfl rfl w) ?_
            refine SOps.val (v := .bool false) rfl (wantN rfl) (fun _ => by kernel_rfl) ?_
            refine SOps.val (v := .string s60) rfl (wantY (c := false) rfl rfl rfl rfl) (fun _ => by kernel_rfl) ?_
            obtain ⟨x82, x83, x84, s85, l86, c87, h⟩ := h
            refine SOps.rd (v := .agg #[.int .i64 x82, .int .i64 x83, .int .i64 x84, .string s85, sv l86]) rfl (wantY (c := false) rfl rfl rfl rfl) (fun w hw => ev_loadN rfl (fun _ => by kernel_rfl) (size := 5) (by kernel_rfl) (p := (b58, 0)) rfl rfl c87 w hw) ?_
            refine SOps.enter rfl (wantY (c := false) rfl rfl rfl rfl) (fun _ => by kernel_rfl) (ladinglaw18_parts.sound F x82 x83 x84 s85 l86 (SH.setl (SH.upd H77 b78 ⟨[.int .i64 0, .int .i64 0, .int .i64 0, .string ByteArray.empty, sv Sl.nil], 53, false, 5⟩) (b78, 0) [.int .i64 x71, .int .i64 x72, .int .i64 x73, .string s74, sv l75]) _ h) ?_
            clear h
            rintro v H93 ⟨x88, x89, x90, s91, l92, rfl, h⟩
            refine SOps.enter rfl (wantY (c := false) rfl rfl rfl rfl) (fun _ => by kernel_rfl) (ladingref18_Put.sound F x88 x89 x90 s91 l92 H93 _ h) ?_
            clear h
            rintro v H95 ⟨s94, rfl, h⟩
            refine SOps.val (v := .bool (!decide (s60 = s94))) rfl (wantY (c := false) rfl rfl rfl rfl) (fun w => ev_neS rfl rfl rfl w) ?_
            refine SOps.val (v := .bool (!decide (s60 = s94))) rfl (wantN rfl) (fun w => ev_pickF (v := .bool (!decide (s60 = s94))) rfl (t := false) rfl rfl rfl w) ?_
            refine SOps.val (v := .bool (!decide (s60 = s94))) rfl (wantN rfl) (fun _ => by kernel_rfl) ?_
            by_cases c96 : (s60 = s94)
            · replace h := h.1 c96
              have dc96 : (decide (s60 = s94)) = true := (decide_eq_true c96)
              refine SOps.val (v := errV e76) rfl (wantY (c := !decide (s60 = s94)) rfl rfl rfl (not_t dc96)) (fun _ => by kernel_rfl) ?_
              rcases e76 with _ | v97
              · replace h := h.1 rfl
                refine SOps.val (v := .bool false) rfl (wantY (c := !decide (s60 = s94)) rfl rfl rfl (not_t dc96)) (fun w => ev_errNe (e := none) rfl Tryd.underlying31 rfl rfl w) ?_
                refine SOps.val (v := .bool false) rfl (wantN rfl) (fun w => ev_pickF (v := .bool false) rfl (t := !decide (s60 = s94)) rfl (not_t dc96) rfl w) ?_
                refine SOps.val (v := .bool false) rfl (wantN rfl) (fun _ => by kernel_rfl) ?_
                obtain ⟨x98, x99, x100, s101, l102, c103, h⟩ := h
                refine SOps.rd (v := .agg #[.int .i64 x98, .int .i64 x99, .int .i64 x100, .string s101, sv l102]) rfl (wantY (c := false) rfl rfl rfl rfl) (fun w hw => ev_loadN rfl (fun _ => by kernel_rfl) (size := 5) (by kernel_rfl) (p := (b78, 0)) rfl rfl c103 w hw) ?_
                obtain ⟨x104, x105, x106, s107, l108, c109, h⟩ := h
                refine SOps.rd (v := .agg #[.int .i64 x104, .int .i64 x105, .int .i64 x106, .string s107, sv l108]) rfl (wantY (c := false) rfl rfl rfl rfl) (fun w hw => ev_loadN rfl (fun _ => by kernel_rfl) (size := 5) (by kernel_rfl) (p := (b58, 0)) rfl rfl c109 w hw) ?_
                refine SOps.enter rfl (wantY (c := false) rfl rfl rfl rfl) (fun _ => by kernel_rfl) (ladinglaw18_same.sound F x98 x99 x100 s101 l102 x104 x105 x106 s107 l108 H95 _ h) ?_
                clear h
                rintro v H111 ⟨q110, rfl, h⟩
                refine SOps.val (v := .bool (!q110)) rfl (wantY (c := false) rfl rfl rfl rfl) (fun _ => by kernel_rfl) ?_
                refine SOps.val (v := .bool (!q110)) rfl (wantN rfl) (fun w => ev_pickF (v := .bool (!q110)) rfl (t := false) rfl rfl rfl w) ?_
                refine SOps.val (v := .bool (!q110)) rfl (wantN rfl) (fun _ => by kernel_rfl) ?_
                by_cases c112 : q110 = true
                · replace h := h.1 c112
                  have dc112 : q110 = true := c112
                  obtain ⟨x113, x114, x115, s116, l117, c118, h⟩ := h
                  refine SOps.rd (v := .agg #[.int .i64 x113, .int .i64 x114, .int .i64 x115, .string s116, sv l117]) rfl (wantY (c := !q110) rfl rfl rfl (not_t dc112)) (fun w hw => ev_loadN rfl (fun _ => by kernel_rfl) (size := 5) (by kernel_rfl) (p := (b78, 0)) rfl rfl c118 w hw) ?_
                  obtain ⟨x119, x120, x121, s122, l123, c124, h⟩ := h
                  refine SOps.rd (v := .agg #[.int .i64 x119, .int .i64 x120, .int .i64 x121, .string s122, sv l123]) rfl (wantY (c := !q110) rfl rfl rfl (not_t dc112)) (fun w hw => ev_loadN rfl (fun _ => by kernel_rfl) (size := 5) (by kernel_rfl) (p := (b58, 0)) rfl rfl c124 w hw) ?_
                  refine SOps.enter rfl (wantY (c := !q110) rfl rfl rfl (not_t dc112)) (fun _ => by kernel_rfl) (msg_Same.sound F x113 x114 x115 s116 l117 x119 x120 x121 s122 l123 H111 _ h) ?_
                  clear h
                  rintro v H126 ⟨q125, rfl, h⟩
                  refine SOps.val (v := .bool (!q125)) rfl (wantY (c := !q110) rfl rfl rfl (not_t dc112)) (fun _ => by kernel_rfl) ?_
                  refine SOps.val (v := .bool (!q125)) rfl (wantN rfl) (fun w => ev_pickF (v := .bool (!q125)) rfl (t := !q110) rfl (not_t dc112) rfl w) ?_
                  refine SOps.nil ?_
                  by_cases c127 : q125 = true
                  · replace h := h.1 c127
                    have dc127 : q125 = true := c127
                    refine SW.cond_f (t := !q125) rfl (not_t dc127) ?_
                    refine SW.skip ?_
                    refine SW.seq ?_
                    refine SW.region ?_
                    refine SOps.val (v := .string s60) rfl (wantN rfl) (fun _ => by kernel_rfl) ?_
                    refine SOps.bytes rfl rfl (wantN rfl) Tryd.underlying9 Tryd.underlying42 Tryd.underlying5 rfl (fun b128 n129 c130 c131 => ?_)
                    replace h := h b128 n129 c130 c131
                    refine SOps.val (v := sv (⟨some (b128, 0), s60.size, n129⟩ : Sl)) rfl (wantN rfl) (fun _ => by kernel_rfl) ?_
                    refine SOps.nil ?_
                    refine SW.seq ?_
                    refine SW.region ?_
                    refine SOps.val (v := sv (⟨some (b128, 0), s60.size, n129⟩ : Sl)) rfl (wantN rfl) (fun _ => by kernel_rfl) ?_
                    refine SOps.val (v := .int .u16 x56) rfl (wantN rfl) (fun _ => by kernel_rfl) ?_
                    refine SOps.val (v := .int .i64 (w64 x56)) rfl (wantN rfl) (fun _ => by kernel_rfl) ?_
                    refine SOps.val (v := sv (⟨some (b128, 0), s60.size, n129⟩ : Sl)) rfl (wantN rfl) (fun _ => by kernel_rfl) ?_
                    refine SOps.val (v := .int .i64 ((⟨some (b128, 0), s60.size, n129⟩ : Sl).len : Int)) rfl (wantN rfl) (fun _ => by kernel_rfl) ?_
                    obtain ⟨c132, h⟩ := h
                    refine SOps.val (v := .int .i64 ((w64 x56).tmod ((⟨some (b128, 0), s60.size, n129⟩ : Sl).len : Int))) rfl (wantN rfl) (fun w => ev_rem rfl rfl rfl c132 w) ?_
                    obtain ⟨p133, c134, c135, c136, h⟩ := h
                    refine SOps.val (v := pv (some (p133.1, (p133.2 + ((w64 x56).tmod ((⟨some (b128, 0), s60.size, n129⟩ : Sl).len : Int)).toNat * 1)))) rfl (wantN rfl) (fun w => ev_iaddr rfl Tryd.underlying42 (size := 1) (by kernel_rfl) rfl rfl c134 c135 c136 w) ?_
                    obtain ⟨x137, c138, h⟩ := h
                    refine SOps.rd (v := .int .u8 x137) rfl (wantN rfl) (fun w hw => ev_load1 rfl (fun _ => by kernel_rfl) (p := (p133.1, (p133.2 + ((w64 x56).tmod ((⟨some (b128, 0), s60.size, n129⟩ : Sl).len : Int)).toNat * 1))) rfl c138 w hw) ?_
                    refine SOps.val (v := .int .u8 x57) rfl (wantN rfl) (fun _ => by kernel_rfl) ?_
                    refine SOps.val (v := .int .u8 (ibits .xor .u8 x137 x57)) rfl (wantN rfl) (fun _ => by kernel_rfl) ?_
                    obtain ⟨p139, c140, c141, c142, h⟩ := h
                    refine SOps.val (v := pv (some (p139.1, (p139.2 + ((w64 x56).tmod ((⟨some (b128, 0), s60.size, n129⟩ : Sl).len : Int)).toNat * 1)))) rfl (wantN rfl) (fun w => ev_iaddr rfl Tryd.underlying42 (size := 1) (by kernel_rfl) rfl rfl c140 c141 c142 w) ?_
                    obtain ⟨c143, h⟩ := h
                    refine SOps.storeL (p := (p139.1, (p139.2 + ((w64 x56).tmod ((⟨some (b128, 0), s60.size, n129⟩ : Sl).len : Int)).toNat * 1))) (v := .int .u8 (ibits .xor .u8 x137 x57)) (cs := [.int .u8 (ibits .xor .u8 x137 x57)]) rfl rfl (wantN rfl) (size := 1) (by kernel_rfl) rfl rfl rfl rfl (by simp [Value.oneCell', errV_one, pv, sv]) c143 ?_
                    refine SOps.nil ?_
                    refine SW.seq ?_
                    refine SW.region ?_
                    refine SOps.val (v := sv (⟨some (b128, 0), s60.size, n129⟩ : Sl)) rfl (wantN rfl) (fun _ => by kernel_rfl) ?_
                    obtain ⟨bs144, c145, c146, h⟩ := h
                    refine SOps.rd (v := .string (⟨bs144.toArray⟩ : ByteArray)) rfl (wantN rfl) (fun w hw => ev_str rfl Tryd.underlying42 Tryd.underlying5 Tryd.underlying9 rfl c145 c146 w hw) ?_
                    refine SOps.enter rfl (wantN rfl) (fun _ => by kernel_rfl) (msg_Get.sound F (⟨bs144.toArray⟩ : ByteArray) (SH.setl (SH.upd H126 b128 ⟨byteCells s60.data.toList, 5, false, n129⟩) (p139.1, (p139.2 + ((w64 x56).tmod ((⟨some (b128, 0), s60.size, n129⟩ : Sl).len : Int)).toNat * 1)) [.int .u8 (ibits .xor .u8 x137 x57)]) _ h) ?_
                    clear h
                    rintro v H153 ⟨x147, x148, x149, s150, l151, e152, rfl, h⟩
                    refine SOps.val (v := .tuple #[.agg #[.int .i64 x147, .int .i64 x148, .int .i64 x149, .string s150, sv l151], errV e152]) rfl (wantN rfl) (fun _ => by kernel_rfl) ?_
                    refine SOps.val (v := .agg #[.int .i64 x147, .int .i64 x148, .int .i64 x149, .string s150, sv l151]) rfl (wantN rfl) (fun _ => by kernel_rfl) ?_
                    refine SOps.val (v := errV e152) rfl (wantN rfl) (fun _ => by kernel_rfl) ?_
                    refine SOps.alloc rfl rfl (wantN rfl) (z := .agg #[.int .i64 0, .int .i64 0, .int .i64 0, .string ByteArray.empty, sv Sl.nil]) (by kernel_rfl) (fun b154 c155 => ?_)
                    replace h := h b154 c155
                    obtain ⟨c156, h⟩ := h
                    refine SOps.storeL (p := (b154, 0)) (v := .agg #[.int .i64 x147, .int .i64 x148, .int .i64 x149, .string s150, sv l151]) (cs := [.int .i64 x147, .int .i64 x148, .int .i64 x149, .string s150, sv l151]) rfl rfl (wantN rfl) (size := 5) (by kernel_rfl) rfl rfl rfl rfl (by simp [Value.oneCell', errV_one, pv, sv]) c156 ?_
                    refine SOps.val (v := errV e152) rfl (wantN rfl) (fun _ => by kernel_rfl) ?_
                    refine SOps.nil ?_
                    refine SW.seq ?_
                    refine SW.region ?_
                    refine SOps.val (v := .int .u8 x57) rfl (wantN rfl) (fun _ => by kernel_rfl) ?_
                    refine SOps.val (v := .bool (x57 == 0)) rfl (wantN rfl) (fun _ => by kernel_rfl) ?_
                    refine SOps.val (v := .bool (x57 == 0)) rfl (wantN rfl) (fun _ => by kernel_rfl) ?_
                    by_cases c157 : x57 = 0
                    · replace h := h.1 c157
                      have dc157 : (x57 == 0) = true := (beq_iff_eq.mpr c157)
                      refine SOps.off rfl (wantX (c := (x57 == 0)) rfl rfl rfl dc157) ?_
                      refine SOps.off rfl (wantX (c := (x57 == 0)) rfl rfl rfl dc157) ?_
                      refine SOps.off rfl (wantX (c := (x57 == 0)) rfl rfl rfl dc157) ?_
                      refine SOps.off rfl (wantU rfl rfl rfl) ?_
                      refine SOps.off rfl (wantU rfl rfl rfl) ?_
                      refine SOps.off rfl (wantU rfl rfl rfl) ?_
                      refine SOps.off rfl (wantX (c := (x57 == 0)) rfl rfl rfl dc157) ?_
                      refine SOps.val (v := .bool true) rfl (wantN rfl) (fun w => ev_pickT (v := .bool true) rfl (t := (x57 == 0)) rfl dc157 rfl w) ?_
                      refine SOps.val (v := .bool true) rfl (wantN rfl) (fun _ => by kernel_rfl) ?_
                      refine SOps.nil ?_
                      obtain ⟨Hr, hr, h⟩ := h
                      exact SW.ret (retQ.mk (.bool true) (res1 rfl rfl) hr ⟨true, rfl, h⟩)
                    · replace h := h.2 c157
                      have dc157 : (x57 == 0) = false := (beq_eq_false_iff_ne.mpr c157)
                      refine SOps.val (v := errV e152) rfl (wantY (c := (x57 == 0)) rfl rfl rfl dc157) (fun _ => by kernel_rfl) ?_
                      rcases e152 with _ | v158
                      · replace h := h.1 rfl
                        refine SOps.val (v := .bool false) rfl (wantY (c := (x57 == 0)) rfl rfl rfl dc157) (fun w => ev_errNe (e := none) rfl Tryd.underlying31 rfl rfl w) ?_
                        refine SOps.val (v := .bool false) rfl (wantY (c := (x57 == 0)) rfl rfl rfl dc157) (fun _ => by kernel_rfl) ?_
                        refine SOps.off rfl (wantX (c := false) rfl rfl rfl rfl) ?_
                        refine SOps.off rfl (wantX (c := false) rfl rfl rfl rfl) ?_
                        refine SOps.off rfl (wantX (c := false) rfl rfl rfl rfl) ?_
                        refine SOps.val (v := .bool false) rfl (wantY (c := (x57 == 0)) rfl rfl rfl dc157) (fun w => ev_pickF (v := .bool false) rfl (t := false) rfl rfl rfl w) ?_
                        refine SOps.val (v := .bool false) rfl (wantN rfl) (fun w => ev_pickF (v := .bool false) rfl (t := (x57 == 0)) rfl dc157 rfl w) ?_
                        refine SOps.val (v := .bool false) rfl (wantN rfl) (fun _ => by kernel_rfl) ?_
                        refine SOps.nil ?_
                        obtain ⟨Hr, hr, h⟩ := h
                        exact SW.ret (retQ.mk (.bool false) (res1 rfl rfl) hr ⟨false, rfl, h⟩)
                      · replace h := h.2 v158 rfl
                        refine SOps.val (v := .bool true) rfl (wantY (c := (x57 == 0)) rfl rfl rfl dc157) (fun w => ev_errNe (e := some v158) rfl Tryd.underlying31 rfl rfl w) ?_
                        refine SOps.val (v := .bool true) rfl (wantY (c := (x57 == 0)) rfl rfl rfl dc157) (fun _ => by kernel_rfl) ?_
                        obtain ⟨x159, x160, x161, s162, l163, c164, h⟩ := h
                        refine SOps.rd (v := .agg #[.int .i64 x159, .int .i64 x160, .int .i64 x161, .string s162, sv l163]) rfl (wantY (c := true) rfl rfl rfl rfl) (fun w hw => ev_loadN rfl (fun _ => by kernel_rfl) (size := 5) (by kernel_rfl) (p := (b154, 0)) rfl rfl c164 w hw) ?_
                        refine SOps.val (v := .agg #[.int .i64 0, .int .i64 0, .int .i64 0, .string ByteArray.empty, sv Sl.nil]) rfl (wantY (c := true) rfl rfl rfl rfl) (fun _ => by kernel_rfl) ?_
                        refine SOps.enter rfl (wantY (c := true) rfl rfl rfl rfl) (fun _ => by kernel_rfl) (ladinglaw18_same.sound F x159 x160 x161 s162 l163 0 0 0 ByteArray.empty Sl.nil (SH.setl (SH.upd H153 b154 ⟨[.int .i64 0, .int .i64 0, .int .i64 0, .string ByteArray.empty, sv Sl.nil], 53, false, 5⟩) (b154, 0) [.int .i64 x147, .int .i64 x148, .int .i64 x149, .string s150, sv l151]) _ h) ?_
                        clear h
                        rintro v H166 ⟨q165, rfl, h⟩
                        refine SOps.val (v := .bool q165) rfl (wantY (c := (x57 == 0)) rfl rfl rfl dc157) (fun w => ev_pickT (v := .bool q165) rfl (t := true) rfl rfl rfl w) ?_
                        refine SOps.val (v := .bool q165) rfl (wantN rfl) (fun w => ev_pickF (v := .bool q165) rfl (t := (x57 == 0)) rfl dc157 rfl w) ?_
                        refine SOps.val (v := .bool q165) rfl (wantN rfl) (fun _ => by kernel_rfl) ?_
                        refine SOps.nil ?_
                        obtain ⟨Hr, hr, h⟩ := h
                        exact SW.ret (retQ.mk (.bool q165) (res1 rfl rfl) hr ⟨q165, rfl, h⟩)
                  · replace h := h.2 c127
                    have dc127 : q125 = false := (Bool.eq_false_iff.mpr c127)
                    refine SW.cond_t (t := !q125) rfl (not_f dc127) ?_
                    refine SW.seq ?_
                    refine SW.region ?_
                    refine SOps.val (v := .bool false) rfl (wantN rfl) (fun _ => by kernel_rfl) ?_
                    refine SOps.nil ?_
                    obtain ⟨Hr, hr, h⟩ := h
                    exact SW.ret (retQ.mk (.bool false) (res1 rfl rfl) hr ⟨false, rfl, h⟩)
                · replace h := h.2 c112
                  have dc112 : q110 = false := (Bool.eq_false_iff.mpr c112)
                  refine SOps.off rfl (wantX (c := !q110) rfl rfl rfl (not_f dc112)) ?_
                  refine SOps.off rfl (wantX (c := !q110) rfl rfl rfl (not_f dc112)) ?_
                  refine SOps.off rfl (wantX (c := !q110) rfl rfl rfl (not_f dc112)) ?_
                  refine SOps.off rfl (wantX (c := !q110) rfl rfl rfl (not_f dc112)) ?_
                  refine SOps.val (v := .bool true) rfl (wantN rfl) (fun w => ev_pickT (v := .bool true) rfl (t := !q110) rfl (not_f dc112) rfl w) ?_
                  refine SOps.nil ?_
                  refine SW.cond_t (t := true) rfl rfl ?_
                  refine SW.seq ?_
                  refine SW.region ?_
                  refine SOps.val (v := .bool false) rfl (wantN rfl) (fun _ => by kernel_rfl) ?_
                  refine SOps.nil ?_
                  obtain ⟨Hr, hr, h⟩ := h
                  exact SW.ret (retQ.mk (.bool false) (res1 rfl rfl) hr ⟨false, rfl, h⟩)
              · replace h := h.2 v97 rfl
                refine SOps.val (v := .bool true) rfl (wantY (c := !decide (s60 = s94)) rfl rfl rfl (not_t dc96)) (fun w => ev_errNe (e := some v97) rfl Tryd.underlying31 rfl rfl w) ?_
                refine SOps.val (v := .bool true) rfl (wantN rfl) (fun w => ev_pickF (v := .bool true) rfl (t := !decide (s60 = s94)) rfl (not_t dc96) rfl w) ?_
                refine SOps.val (v := .bool true) rfl (wantN rfl) (fun _ => by kernel_rfl) ?_
                refine SOps.off rfl (wantX (c := true) rfl rfl rfl rfl) ?_
                refine SOps.off rfl (wantX (c := true) rfl rfl rfl rfl) ?_
                refine SOps.off rfl (wantX (c := true) rfl rfl rfl rfl) ?_
                refine SOps.off rfl (wantX (c := true) rfl rfl rfl rfl) ?_
                refine SOps.val (v := .bool true) rfl (wantN rfl) (fun w => ev_pickT (v := .bool true) rfl (t := true) rfl rfl rfl w) ?_
                refine SOps.val (v := .bool true) rfl (wantN rfl) (fun _ => by kernel_rfl) ?_
                refine SOps.off rfl (wantX (c := true) rfl rfl rfl rfl) ?_
                refine SOps.off rfl (wantX (c := true) rfl rfl rfl rfl) ?_
                refine SOps.off rfl (wantX (c := true) rfl rfl rfl rfl) ?_
                refine SOps.off rfl (wantX (c := true) rfl rfl rfl rfl) ?_
                refine SOps.val (v := .bool true) rfl (wantN rfl) (fun w => ev_pickT (v := .bool true) rfl (t := true) rfl rfl rfl w) ?_
                refine SOps.nil ?_
                refine SW.cond_t (t := true) rfl rfl ?_
                refine SW.seq ?_
                refine SW.region ?_
                refine SOps.val (v := .bool false) rfl (wantN rfl) (fun _ => by kernel_rfl) ?_
                refine SOps.nil ?_
                obtain ⟨Hr, hr, h⟩ := h
                exact SW.ret (retQ.mk (.bool false) (res1 rfl rfl) hr ⟨false, rfl, h⟩)
            · replace h := h.2 c96
              have dc96 : (decide (s60 = s94)) = false := (decide_eq_false c96)
              refine SOps.off rfl (wantX (c := !decide (s60 = s94)) rfl rfl rfl (not_f dc96)) ?_
              refine SOps.off rfl (wantX (c := !decide (s60 = s94)) rfl rfl rfl (not_f dc96)) ?_
              refine SOps.val (v := .bool true) rfl (wantN rfl) (fun w => ev_pickT (v := .bool true) rfl (t := !decide (s60 = s94)) rfl (not_f dc96) rfl w) ?_
              refine SOps.val (v := .bool true) rfl (wantN rfl) (fun _ => by kernel_rfl) ?_
              refine SOps.off rfl (wantX (c := true) rfl rfl rfl rfl) ?_
              refine SOps.off rfl (wantX (c := true) rfl rfl rfl rfl) ?_
              refine SOps.off rfl (wantX (c := true) rfl rfl rfl rfl) ?_
              refine SOps.off rfl (wantX (c := true) rfl rfl rfl rfl) ?_
              refine SOps.val (v := .bool true) rfl (wantN rfl) (fun w => ev_pickT (v := .bool true) rfl (t := true) rfl rfl rfl w) ?_
              refine SOps.val (v := .bool true) rfl (wantN rfl) (fun _ => by kernel_rfl) ?_
              refine SOps.off rfl (wantX (c := true) rfl rfl rfl rfl) ?_
              refine SOps.off rfl (wantX (c := true) rfl rfl rfl rfl) ?_
              refine SOps.off rfl (wantX (c := true) rfl rfl rfl rfl) ?_
              refine SOps.off rfl (wantX (c := true) rfl rfl rfl rfl) ?_
              refine SOps.val (v := .bool true) rfl (wantN rfl) (fun w => ev_pickT (v := .bool true) rfl (t := true) rfl rfl rfl w) ?_
              refine SOps.nil ?_
              refine SW.cond_t (t := true) rfl rfl ?_
              refine SW.seq ?_
              refine SW.region ?_
              refine SOps.val (v := .bool false) rfl (wantN rfl) (fun _ => by kernel_rfl) ?_
              refine SOps.nil ?_
              obtain ⟨Hr, hr, h⟩ := h
              exact SW.ret (retQ.mk (.bool false) (res1 rfl rfl) hr ⟨false, rfl, h⟩)
          · replace h := h.2 v81 rfl
            refine SOps.val (v := .bool true) rfl (wantN rfl) (fun w => ev_errNe (e := some v81) rfl Tryd.underlying31 rfl rfl w) ?_
            refine SOps.val (v := .bool true) rfl (wantN rfl) (fun _ => by kernel_rfl) ?_
            refine SOps.off rfl (wantX (c := true) rfl rfl rfl rfl) ?_
            refine SOps.off rfl (wantX (c := true) rfl rfl rfl rfl) ?_
            refine SOps.off rfl (wantX (c := true) rfl rfl rfl rfl) ?_
            refine SOps.off rfl (wantX (c := true) rfl rfl rfl rfl) ?_
            refine SOps.off rfl (wantX (c := true) rfl rfl rfl rfl) ?_
            refine SOps.val (v := .bool true) rfl (wantN rfl) (fun w => ev_pickT (v := .bool true) rfl (t := true) rfl rfl rfl w) ?_
            refine SOps.val (v := .bool true) rfl (wantN rfl) (fun _ => by kernel_rfl) ?_
            refine SOps.off rfl (wantX (c := true) rfl rfl rfl rfl) ?_
            refine SOps.off rfl (wantX (c := true) rfl rfl rfl rfl) ?_
            refine SOps.val (v := .bool true) rfl (wantN rfl) (fun w => ev_pickT (v := .bool true) rfl (t := true) rfl rfl rfl w) ?_
            refine SOps.val (v := .bool true) rfl (wantN rfl) (fun _ => by kernel_rfl) ?_
            refine SOps.off rfl (wantX (c := true) rfl rfl rfl rfl) ?_
            refine SOps.off rfl (wantX (c := true) rfl rfl rfl rfl) ?_
            refine SOps.off rfl (wantX (c := true) rfl rfl rfl rfl) ?_
            refine SOps.off rfl (wantX (c := true) rfl rfl rfl rfl) ?_
            refine SOps.val (v := .bool true) rfl (wantN rfl) (fun w => ev_pickT (v := .bool true) rfl (t := true) rfl rfl rfl w) ?_
            refine SOps.val (v := .bool true) rfl (wantN rfl) (fun _ => by kernel_rfl) ?_
            refine SOps.off rfl (wantX (c := true) rfl rfl rfl rfl) ?_
            refine SOps.off rfl (wantX (c := true) rfl rfl rfl rfl) ?_
            refine SOps.off rfl (wantX (c := true) rfl rfl rfl rfl) ?_
            refine SOps.off rfl (wantX (c := true) rfl rfl rfl rfl) ?_
            refine SOps.val (v := .bool true) rfl (wantN rfl) (fun w => ev_pickT (v := .bool true) rfl (t := true) rfl rfl rfl w) ?_
            refine SOps.nil ?_
            refine SW.cond_t (t := true) rfl rfl ?_
            refine SW.seq ?_
            refine SW.region ?_
            refine SOps.val (v := .bool false) rfl (wantN rfl) (fun _ => by kernel_rfl) ?_
            refine SOps.nil ?_
            obtain ⟨Hr, hr, h⟩ := h
            exact SW.ret (retQ.mk (.bool false) (res1 rfl rfl) hr ⟨false, rfl, h⟩)
        · replace h := h.2 c70
          have dc70 : q59 = false := (Bool.eq_false_iff.mpr c70)
          refine SW.cond_t (t := !q59) rfl (not_f dc70) ?_
          refine SW.seq ?_
          refine SW.region ?_
          refine SOps.val (v := .string s60) rfl (wantN rfl) (fun _ => by kernel_rfl) ?_
          refine SOps.val (v := .bool (decide (s60 = ByteArray.empty))) rfl (wantN rfl) (fun w => ev_eqS rfl rfl rfl w) ?_
          refine SOps.val (v := .bool (decide (s60 = ByteArray.empty))) rfl (wantN rfl) (fun _ => by kernel_rfl) ?_
          by_cases c167 : s60 = ByteArray.empty
          · replace h := h.1 c167
            have dc167 : (decide (s60 = ByteArray.empty)) = true := (decide_eq_true c167)
            refine SOps.val (v := errV e61) rfl (wantY (c := decide (s60 = ByteArray.empty)) rfl rfl rfl dc167) (fun _ => by kernel_rfl) ?_
            refine SOps.enter rfl (wantY (c := decide (s60 = ByteArray.empty)) rfl rfl rfl dc167) (fun _ => by kernel_rfl) (api_Code.sound F e61 H _ h) ?_
            clear h
            rintro v H169 ⟨x168, rfl, h⟩
            refine SOps.val (v := .bool (x168 == 4)) rfl (wantY (c := decide (s60 = ByteArray.empty)) rfl rfl rfl dc167) (fun _ => by kernel_rfl) ?_
            refine SOps.val (v := .bool (x168 == 4)) rfl (wantN rfl) (fun w => ev_pickT (v := .bool (x168 == 4)) rfl (t := decide (s60 = ByteArray.empty)) rfl dc167 rfl w) ?_
            refine SOps.val (v := .bool (x168 == 4)) rfl (wantN rfl) (fun _ => by kernel_rfl) ?_
            refine SOps.nil ?_
            obtain ⟨Hr, hr, h⟩ := h
            exact SW.ret (retQ.mk (.bool (x168 == 4)) (res1 rfl rfl) hr ⟨(x168 == 4), rfl, h⟩)
          · replace h := h.2 c167
            have dc167 : (decide (s60 = ByteArray.empty)) = false := (decide_eq_false c167)
            refine SOps.off rfl (wantX (c := decide (s60 = ByteArray.empty)) rfl rfl rfl dc167) ?_
            refine SOps.off rfl (wantX (c := decide (s60 = ByteArray.empty)) rfl rfl rfl dc167) ?_
            refine SOps.off rfl (wantX (c := decide (s60 = ByteArray.empty)) rfl rfl rfl dc167) ?_
            refine SOps.val (v := .bool false) rfl (wantN rfl) (fun w => ev_pickF (v := .bool false) rfl (t := decide (s60 = ByteArray.empty)) rfl dc167 rfl w) ?_
            refine SOps.val (v := .bool false) rfl (wantN rfl) (fun _ => by kernel_rfl) ?_
            refine SOps.nil ?_
            obtain ⟨Hr, hr, h⟩ := h
            exact SW.ret (retQ.mk (.bool false) (res1 rfl rfl) hr ⟨false, rfl, h⟩)
      · skip
        refine SW.seq ?_
        refine SW.region ?_
        obtain ⟨x45, x46, x47, s48, l49, c50, h⟩ := h
        refine SOps.rd (v := .agg #[.int .i64 x45, .int .i64 x46, .int .i64 x47, .string s48, sv l49]) rfl (wantN rfl) (fun w hw => ev_loadN rfl (fun _ => by kernel_rfl) (size := 5) (by kernel_rfl) (p := (b8, 0)) rfl rfl c50 w hw) ?_
        refine SOps.enter rfl (wantN rfl) (fun _ => by kernel_rfl) (msg_Check.sound F x45 x46 x47 s48 l49 H44 _ h) ?_
        clear h
        rintro v H52 ⟨e51, rfl, h⟩
        refine SOps.val (v := errV e51) rfl (wantN rfl) (fun _ => by kernel_rfl) ?_
        refine SOps.nil ?_
        refine SW.seq ?_
        refine SW.region ?_
        refine SOps.val (v := errV e51) rfl (wantN rfl) (fun _ => by kernel_rfl) ?_
        rcases e51 with _ | v53
        · replace h := h.1 rfl
          refine SOps.val (v := .bool true) rfl (wantN rfl) (fun w => ev_errEq (e := none) rfl Tryd.underlying31 rfl rfl w) ?_
          refine SOps.val (v := .bool q34) rfl (wantN rfl) (fun _ => by kernel_rfl) ?_
          refine SOps.val (v := .bool (true != q34)) rfl (wantN rfl) (fun _ => by kernel_rfl) ?_
          refine SOps.val (v := .bool (true != q34)) rfl (wantN rfl) (fun _ => by kernel_rfl) ?_
          by_cases c54 : true ≠ q34
          · replace h := h.1 c54
            have dc54 : (true != q34) = true := (bne_iff_ne.mpr c54)
            refine SOps.off rfl (wantX (c := (true != q34)) rfl rfl rfl dc54) ?_
            refine SOps.off rfl (wantX (c := (true != q34)) rfl rfl rfl dc54) ?_
            refine SOps.off rfl (wantX (c := (true != q34)) rfl rfl rfl dc54) ?_
            refine SOps.off rfl (wantU rfl rfl rfl) ?_
            refine SOps.off rfl (wantU rfl rfl rfl) ?_
            refine SOps.off rfl (wantU rfl rfl rfl) ?_
            refine SOps.off rfl (wantX (c := (true != q34)) rfl rfl rfl dc54) ?_
            refine SOps.val (v := .bool true) rfl (wantN rfl) (fun w => ev_pickT (v := .bool true) rfl (t := (true != q34)) rfl dc54 rfl w) ?_
            refine SOps.nil ?_
            refine SW.cond_t (t := true) rfl rfl ?_
            refine SW.seq ?_
            refine SW.region ?_
            refine SOps.val (v := .bool false) rfl (wantN rfl) (fun _ => by kernel_rfl) ?_
            refine SOps.nil ?_
            obtain ⟨Hr, hr, h⟩ := h
            exact SW.ret (retQ.mk (.bool false) (res1 rfl rfl) hr ⟨false, rfl, h⟩)
          · replace h := h.2 c54
            have dc54 : (true != q34) = false := (by simpa using c54)
            refine SOps.val (v := .bool q34) rfl (wantY (c := (true != q34)) rfl rfl rfl dc54) (fun _ => by kernel_rfl) ?_
            refine SOps.val (v := .bool (!q34)) rfl (wantY (c := (true != q34)) rfl rfl rfl dc54) (fun _ => by kernel_rfl) ?_
            refine SOps.val (v := .bool (!q34)) rfl (wantY (c := (true != q34)) rfl rfl rfl dc54) (fun _ => by kernel_rfl) ?_
            by_cases c55 : q34 = true
            · replace h := h.1 c55
              have dc55 : q34 = true := c55
              refine SOps.off rfl (wantX (c := !q34) rfl rfl rfl (not_t dc55)) ?_
              refine SOps.off rfl (wantX (c := !q34) rfl rfl rfl (not_t dc55)) ?_
              refine SOps.off rfl (wantX (c := !q34) rfl rfl rfl (not_t dc55)) ?_
              refine SOps.val (v := .bool false) rfl (wantY (c := (true != q34)) rfl rfl rfl dc54) (fun w => ev_pickF (v := .bool false) rfl (t := !q34) rfl (not_t dc55) rfl w) ?_
              refine SOps.val (v := .bool false) rfl (wantN rfl) (fun w => ev_pickF (v := .bool false) rfl (t := (true != q34)) rfl dc54 rfl w) ?_
              refine SOps.nil ?_
              refine SW.cond_f (t := false) rfl rfl ?_
              refine SW.skip ?_
              exact ⟨_, x6, x7, b8, q34, s42, e43, Fr.upds_self _ _ ⟨rfl, rfl, rfl, rfl, rfl, rfl, trivial⟩, h⟩
            · replace h := h.2 c55
              have dc55 : q34 = false := (Bool.eq_false_iff.mpr c55)
              refine SOps.val (v := errV none) rfl (wantY (c := !q34) rfl rfl rfl (not_f dc55)) (fun _ => by kernel_rfl) ?_
              refine SOps.enter rfl (wantY (c := !q34) rfl rfl rfl (not_f dc55)) (fun _ => by kernel_rfl) (api_Code.sound F none H52 _ h) ?_
              clear h
              rintro v H63 ⟨x62, rfl, h⟩
              refine SOps.val (v := .bool (x62 != 4)) rfl (wantY (c := !q34) rfl rfl rfl (not_f dc55)) (fun _ => by kernel_rfl) ?_
              refine SOps.val (v := .bool (x62 != 4)) rfl (wantY (c := (true != q34)) rfl rfl rfl dc54) (fun w => ev_pickT (v := .bool (x62 != 4)) rfl (t := !q34) rfl (not_f dc55) rfl w) ?_
              refine SOps.val (v := .bool (x62 != 4)) rfl (wantN rfl) (fun w => ev_pickF (v := .bool (x62 != 4)) rfl (t := (true != q34)) rfl dc54 rfl w) ?_
              refine SOps.nil ?_
              by_cases c64 : x62 ≠ 4
              · replace h := h.1 c64
                have dc64 : (x62 != 4) = true := (bne_iff_ne.mpr c64)
                refine SW.cond_t (t := (x62 != 4)) rfl dc64 ?_
                refine SW.seq ?_
                refine SW.region ?_
                refine SOps.val (v := .bool false) rfl (wantN rfl) (fun _ => by kernel_rfl) ?_
                refine SOps.nil ?_
                obtain ⟨Hr, hr, h⟩ := h
                exact SW.ret (retQ.mk (.bool false) (res1 rfl rfl) hr ⟨false, rfl, h⟩)
              · replace h := h.2 c64
                have dc64 : (x62 != 4) = false := (by simpa using c64)
                refine SW.cond_f (t := (x62 != 4)) rfl dc64 ?_
                refine SW.skip ?_
                exact ⟨_, x6, x7, b8, q34, s42, e43, Fr.upds_self _ _ ⟨rfl, rfl, rfl, rfl, rfl, rfl, trivial⟩, h⟩
        · replace h := h.2 v53 rfl
          refine SOps.val (v := .bool false) rfl (wantN rfl) (fun w => ev_errEq (e := some v53) rfl Tryd.underlying31 rfl rfl w) ?_
          refine SOps.val (v := .bool q34) rfl (wantN rfl) (fun _ => by kernel_rfl) ?_
          refine SOps.val (v := .bool (false != q34)) rfl (wantN rfl) (fun _ => by kernel_rfl) ?_
          refine SOps.val (v := .bool (false != q34)) rfl (wantN rfl) (fun _ => by kernel_rfl) ?_
          by_cases c65 : false ≠ q34
          · replace h := h.1 c65
            have dc65 : (false != q34) = true := (bne_iff_ne.mpr c65)
            refine SOps.off rfl (wantX (c := (false != q34)) rfl rfl rfl dc65) ?_
            refine SOps.off rfl (wantX (c := (false != q34)) rfl rfl rfl dc65) ?_
            refine SOps.off rfl (wantX (c := (false != q34)) rfl rfl rfl dc65) ?_
            refine SOps.off rfl (wantU rfl rfl rfl) ?_
            refine SOps.off rfl (wantU rfl rfl rfl) ?_
            refine SOps.off rfl (wantU rfl rfl rfl) ?_
            refine SOps.off rfl (wantX (c := (false != q34)) rfl rfl rfl dc65) ?_
            refine SOps.val (v := .bool true) rfl (wantN rfl) (fun w => ev_pickT (v := .bool true) rfl (t := (false != q34)) rfl dc65 rfl w) ?_
            refine SOps.nil ?_
            refine SW.cond_t (t := true) rfl rfl ?_
            refine SW.seq ?_
            refine SW.region ?_
            refine SOps.val (v := .bool false) rfl (wantN rfl) (fun _ => by kernel_rfl) ?_
            refine SOps.nil ?_
            obtain ⟨Hr, hr, h⟩ := h
            exact SW.ret (retQ.mk (.bool false) (res1 rfl rfl) hr ⟨false, rfl, h⟩)
          · replace h := h.2 c65
            have dc65 : (false != q34) = false := (by simpa using c65)
            refine SOps.val (v := .bool q34) rfl (wantY (c := (false != q34)) rfl rfl rfl dc65) (fun _ => by kernel_rfl) ?_
            refine SOps.val (v := .bool (!q34)) rfl (wantY (c := (false != q34)) rfl rfl rfl dc65) (fun _ => by kernel_rfl) ?_
            refine SOps.val (v := .bool (!q34)) rfl (wantY (c := (false != q34)) rfl rfl rfl dc65) (fun _ => by kernel_rfl) ?_
            by_cases c66 : q34 = true
            · replace h := h.1 c66
              have dc66 : q34 = true := c66
              refine SOps.off rfl (wantX (c := !q34) rfl rfl rfl (not_t dc66)) ?_
              refine SOps.off rfl (wantX (c := !q34) rfl rfl rfl (not_t dc66)) ?_
              refine SOps.off rfl (wantX (c := !q34) rfl rfl rfl (not_t dc66)) ?_
              refine SOps.val (v := .bool false) rfl (wantY (c := (false != q34)) rfl rfl rfl dc65) (fun w => ev_pickF (v := .bool false) rfl (t := !q34) rfl (not_t dc66) rfl w) ?_
              refine SOps.val (v := .bool false) rfl (wantN rfl) (fun w => ev_pickF (v := .bool false) rfl (t := (false != q34)) rfl dc65 rfl w) ?_
              refine SOps.nil ?_
              refine SW.cond_f (t := false) rfl rfl ?_
              refine SW.skip ?_
              exact ⟨_, x6, x7, b8, q34, s42, e43, Fr.upds_self _ _ ⟨rfl, rfl, rfl, rfl, rfl, rfl, trivial⟩, h⟩
            · replace h := h.2 c66
              have dc66 : q34 = false := (Bool.eq_false_iff.mpr c66)
              refine SOps.val (v := errV (some v53)) rfl (wantY (c := !q34) rfl rfl rfl (not_f dc66)) (fun _ => by kernel_rfl) ?_
              refine SOps.enter rfl (wantY (c := !q34) rfl rfl rfl (not_f dc66)) (fun _ => by kernel_rfl) (api_Code.sound F (some v53) H52 _ h) ?_
              clear h
              rintro v H68 ⟨x67, rfl, h⟩
              refine SOps.val (v := .bool (x67 != 4)) rfl (wantY (c := !q34) rfl rfl rfl (not_f dc66)) (fun _ => by kernel_rfl) ?_
              refine SOps.val (v := .bool (x67 != 4)) rfl (wantY (c := (false != q34)) rfl rfl rfl dc65) (fun w => ev_pickT (v := .bool (x67 != 4)) rfl (t := !q34) rfl (not_f dc66) rfl w) ?_
              refine SOps.val (v := .bool (x67 != 4)) rfl (wantN rfl) (fun w => ev_pickF (v := .bool (x67 != 4)) rfl (t := (false != q34)) rfl dc65 rfl w) ?_
              refine SOps.nil ?_
              by_cases c69 : x67 ≠ 4
              · replace h := h.1 c69
                have dc69 : (x67 != 4) = true := (bne_iff_ne.mpr c69)
                refine SW.cond_t (t := (x67 != 4)) rfl dc69 ?_
                refine SW.seq ?_
                refine SW.region ?_
                refine SOps.val (v := .bool false) rfl (wantN rfl) (fun _ => by kernel_rfl) ?_
                refine SOps.nil ?_
                obtain ⟨Hr, hr, h⟩ := h
                exact SW.ret (retQ.mk (.bool false) (res1 rfl rfl) hr ⟨false, rfl, h⟩)
              · replace h := h.2 c69
                have dc69 : (x67 != 4) = false := (by simpa using c69)
                refine SW.cond_f (t := (x67 != 4)) rfl dc69 ?_
                refine SW.skip ?_
                exact ⟨_, x6, x7, b8, q34, s42, e43, Fr.upds_self _ _ ⟨rfl, rfl, rfl, rfl, rfl, rfl, trivial⟩, h⟩
  · replace h := h.2 c12
    have dc12 : q10 = false := (Bool.eq_false_iff.mpr c12)
    refine SW.cond_t (t := !q10) rfl (not_f dc12) ?_
    refine SW.seq ?_
    refine SW.region ?_
    refine SOps.val (v := .bool false) rfl (wantN rfl) (fun _ => by kernel_rfl) ?_
    refine SOps.nil ?_
    obtain ⟨Hr, hr, h⟩ := h
    exact SW.ret (retQ.mk (.bool false) (res1 rfl rfl) hr ⟨false, rfl, h⟩)

end Go.Proofs.YtkfbmoekghbgbaaDoor.K
