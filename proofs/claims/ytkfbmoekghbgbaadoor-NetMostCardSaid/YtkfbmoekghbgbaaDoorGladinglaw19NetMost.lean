import Derived.Test.YtkfbmoekghbgbaaDoorGnet2
import Derived.Test.YtkfbmoekghbgbaaDoorApi2
set_option linter.unusedVariables false
set_option linter.unusedSimpArgs false
set_option maxRecDepth 100000
namespace Go.Proofs.YtkfbmoekghbgbaaDoor.K
open Go
attribute [local irreducible] SW SOps SQ SCalls retQ

/-! ### lading/ladinglaw19.NetMost: function 4 -/
def ladinglaw19_NetMost.r2 (F : Nat) (K : Bool → SH → Prop) (R2 : ByteArray → Option (Nat × Nat) → Int → Sl → Int → Int → SH → Prop) (s27 : ByteArray) (p28 : Option (Nat × Nat)) (x29 : Int) (l30 : Sl) (x31 : Int) (x32 : Int) (H : SH) : Prop :=
  (x32 < x31 →
    ∃ p34, l30.a = some p34 ∧ 0 ≤ x32 ∧ x32 < (l30.len : Int) ∧
    ∃ (x38 : Int) (x39 : Int) (s40 : ByteArray),
    SH.row H (some (p34.1, (p34.2 + x32.toNat * 3))) [.int .i64 x38, .int .i64 x39, .string s40] ∧
    ∀ b42, H b42 = none →
    SH.wrs (SH.upd H b42 ⟨[.int .i64 0, .int .i64 0, .string ByteArray.empty], 34, false, 3⟩) (b42, 0) 3 ∧
    ∃ (x45 : Int) (x46 : Int) (s47 : ByteArray),
    SH.row (SH.setl (SH.upd H b42 ⟨[.int .i64 0, .int .i64 0, .string ByteArray.empty], 34, false, 3⟩) (b42, 0) [.int .i64 x38, .int .i64 x39, .string s40]) (some (b42, 0)) [.int .i64 x45, .int .i64 x46, .string s47] ∧
    ∀ b49, (SH.setl (SH.upd H b42 ⟨[.int .i64 0, .int .i64 0, .string ByteArray.empty], 34, false, 3⟩) (b42, 0) [.int .i64 x38, .int .i64 x39, .string s40]) b49 = none →
    ∃ bs51 : List UInt8,
    (⟨some (b49, 0), 2, 2⟩ : Sl).len = bs51.length ∧
    SH.row (SH.upd (SH.setl (SH.upd H b42 ⟨[.int .i64 0, .int .i64 0, .string ByteArray.empty], 34, false, 3⟩) (b42, 0) [.int .i64 x38, .int .i64 x39, .string s40]) b49 ⟨[.int .u8 (IntKind.u8.wrap (w64 ((imax (w64 (x29 - 300)) 0) + x32))), .int .u8 (IntKind.u8.wrap (ishr .i64 (w64 ((imax (w64 (x29 - 300)) 0) + x32)) 8))], 5, false, 2⟩) (⟨some (b49, 0), 2, 2⟩ : Sl).a (byteCells bs51) ∧
    ((x45 = ((w64 ((imax (w64 (x29 - 300)) 0) + x32)).tmod 5) ∧ x46 = ((w64 ((w64 ((imax (w64 (x29 - 300)) 0) + x32)) + 1)).tmod 5) ∧ s47 = (⟨bs51.toArray⟩ : ByteArray)) →
      R2 s27 p28 x29 l30 x31 (w64 (x32 + 1)) (SH.upd (SH.setl (SH.upd H b42 ⟨[.int .i64 0, .int .i64 0, .string ByteArray.empty], 34, false, 3⟩) (b42, 0) [.int .i64 x38, .int .i64 x39, .string s40]) b49 ⟨[.int .u8 (IntKind.u8.wrap (w64 ((imax (w64 (x29 - 300)) 0) + x32))), .int .u8 (IntKind.u8.wrap (ishr .i64 (w64 ((imax (w64 (x29 - 300)) 0) + x32)) 8))], 5, false, 2⟩)
    ) ∧ (¬ ((x45 = ((w64 ((imax (w64 (x29 - 300)) 0) + x32)).tmod 5) ∧ x46 = ((w64 ((w64 ((imax (w64 (x29 - 300)) 0) + x32)) + 1)).tmod 5) ∧ s47 = (⟨bs51.toArray⟩ : ByteArray))) →
      ∃ Hr, SH.le Hr (SH.upd (SH.setl (SH.upd H b42 ⟨[.int .i64 0, .int .i64 0, .string ByteArray.empty], 34, false, 3⟩) (b42, 0) [.int .i64 x38, .int .i64 x39, .string s40]) b49 ⟨[.int .u8 (IntKind.u8.wrap (w64 ((imax (w64 (x29 - 300)) 0) + x32))), .int .u8 (IntKind.u8.wrap (ishr .i64 (w64 ((imax (w64 (x29 - 300)) 0) + x32)) 8))], 5, false, 2⟩) ∧ K false Hr
    )
  ) ∧ (¬ (x32 < x31) →
    net_Net_Take.wp F none 0 H (fun x55 x56 s57 e58 H59 =>
      ∀ b60, H59 b60 = none →
      SH.wrs (SH.upd H59 b60 ⟨[.int .i64 0, .int .i64 0, .string ByteArray.empty], 34, false, 3⟩) (b60, 0) 3 ∧
      net_Net_Look.wp F none 0 (SH.setl (SH.upd H59 b60 ⟨[.int .i64 0, .int .i64 0, .string ByteArray.empty], 34, false, 3⟩) (b60, 0) [.int .i64 x55, .int .i64 x56, .string s57]) (fun x63 x64 s65 e66 H67 =>
        ∀ b68, H67 b68 = none →
        SH.wrs (SH.upd H67 b68 ⟨[.int .i64 0, .int .i64 0, .string ByteArray.empty], 34, false, 3⟩) (b68, 0) 3 ∧
        0 ≤ (8001 : Int) ∧ (8001 : Int).toNat * 1 ≤ 281474976710656 ∧
        ∀ b71, (SH.setl (SH.upd H67 b68 ⟨[.int .i64 0, .int .i64 0, .string ByteArray.empty], 34, false, 3⟩) (b68, 0) [.int .i64 x63, .int .i64 x64, .string s65]) b71 = none →
        ∃ bs75 : List UInt8,
        (⟨some (b71, 0), (8001 : Int).toNat, (8001 : Int).toNat⟩ : Sl).len = bs75.length ∧
        SH.row (SH.upd (SH.setl (SH.upd H67 b68 ⟨[.int .i64 0, .int .i64 0, .string ByteArray.empty], 34, false, 3⟩) (b68, 0) [.int .i64 x63, .int .i64 x64, .string s65]) b71 ⟨(Builtin.zeroCells (Value.cells (.int .u8 0 : Value)) (8001 : Int).toNat).toList, 5, false, (8001 : Int).toNat * 1⟩) (⟨some (b71, 0), (8001 : Int).toNat, (8001 : Int).toNat⟩ : Sl).a (byteCells bs75) ∧
        net_Net_Send.wp F p28 0 1 (⟨bs75.toArray⟩ : ByteArray) (SH.upd (SH.setl (SH.upd H67 b68 ⟨[.int .i64 0, .int .i64 0, .string ByteArray.empty], 34, false, 3⟩) (b68, 0) [.int .i64 x63, .int .i64 x64, .string s65]) b71 ⟨(Builtin.zeroCells (Value.cells (.int .u8 0 : Value)) (8001 : Int).toNat).toList, 5, false, (8001 : Int).toNat * 1⟩) (fun e78 H79 =>
          api_Code.wp F e78 H79 (fun x80 H81 =>
            (x80 = 6 →
              net_Net_Len.wp F p28 H81 (fun x83 H84 =>
                (x83 = (imin x29 300) →
                  api_Code.wp F e58 H84 (fun x86 H87 =>
                    (x86 = 1 →
                      api_Code.wp F e66 H87 (fun x89 H90 =>
                        (x89 = 1 →
                          net_Net_Send.wp F none 0 1 s27 H90 (fun e92 H93 =>
                            api_Code.wp F e92 H93 (fun x94 H95 =>
                              (x94 = 1 →
                                net_Net_Drop.wp F none 0 H95 (fun e97 H98 =>
                                  api_Code.wp F e97 H98 (fun x99 H100 =>
                                    (x99 = 1 →
                                      net_Net_Twice.wp F none 0 H100 (fun e102 H103 =>
                                        api_Code.wp F e102 H103 (fun x104 H105 =>
                                          (x104 = 1 →
                                            net_Net_Turn.wp F none 0 0 H105 (fun e107 H108 =>
                                              api_Code.wp F e107 H108 (fun x109 H110 =>
                                                (x109 = 1 →
                                                  net_Net_Spoil.wp F none 0 0 1 H110 (fun e112 H113 =>
                                                    api_Code.wp F e112 H113 (fun x114 H115 =>
                                                      (x114 = 1 →
                                                        net_Net_Len.wp F none H115 (fun x117 H118 =>
                                                          net_Net_All.wp F none H118 (fun l119 H120 =>
                                                            net_Net_Clear.wp F none 0 H120 (fun x121 H122 =>
                                                              ∃ Hr, SH.le Hr H122 ∧ K ((w64 ((w64 (x117 + (l119.len : Int))) + x121)) == 0) Hr
                                                            )
                                                          )
                                                        )
                                                      ) ∧ (¬ (x114 = 1) →
                                                        ∃ Hr, SH.le Hr H115 ∧ K false Hr
                                                      )
                                                    )
                                                  )
                                                ) ∧ (¬ (x109 = 1) →
                                                  ∃ Hr, SH.le Hr H110 ∧ K false Hr
                                                )
                                              )
                                            )
                                          ) ∧ (¬ (x104 = 1) →
                                            ∃ Hr, SH.le Hr H105 ∧ K false Hr
                                          )
                                        )
                                      )
                                    ) ∧ (¬ (x99 = 1) →
                                      ∃ Hr, SH.le Hr H100 ∧ K false Hr
                                    )
                                  )
                                )
                              ) ∧ (¬ (x94 = 1) →
                                ∃ Hr, SH.le Hr H95 ∧ K false Hr
                              )
                            )
                          )
                        ) ∧ (¬ (x89 = 1) →
                          ∃ Hr, SH.le Hr H90 ∧ K false Hr
                        )
                      )
                    ) ∧ (¬ (x86 = 1) →
                      ∃ Hr, SH.le Hr H87 ∧ K false Hr
                    )
                  )
                ) ∧ (¬ (x83 = (imin x29 300)) →
                  ∃ Hr, SH.le Hr H84 ∧ K false Hr
                )
              )
            ) ∧ (¬ (x80 = 6) →
              ∃ Hr, SH.le Hr H81 ∧ K false Hr
            )
          )
        )
      )
    )
  )
def ladinglaw19_NetMost.l2 (F : Nat) (K : Bool → SH → Prop) : Nat → ByteArray → Option (Nat × Nat) → Int → Sl → Int → Int → SH → Prop
  | 0, _, _, _, _, _, _, _ => False
  | k + 1, s27, p28, x29, l30, x31, x32, H => ladinglaw19_NetMost.r2 F K (ladinglaw19_NetMost.l2 F K k) s27 p28 x29 l30 x31 x32 H
def ladinglaw19_NetMost.r1 (F : Nat) (K : Bool → SH → Prop) (R1 : ByteArray → Option (Nat × Nat) → Int → Int → SH → Prop) (s9 : ByteArray) (p10 : Option (Nat × Nat)) (x11 : Int) (x12 : Int) (H : SH) : Prop :=
  (x12 < x11 →
    ∀ b14, H b14 = none →
    ∃ bs16 : List UInt8,
    (⟨some (b14, 0), 2, 2⟩ : Sl).len = bs16.length ∧
    SH.row (SH.upd H b14 ⟨[.int .u8 (IntKind.u8.wrap x12), .int .u8 (IntKind.u8.wrap (ishr .i64 x12 8))], 5, false, 2⟩) (⟨some (b14, 0), 2, 2⟩ : Sl).a (byteCells bs16) ∧
    net_Net_Send.wp F p10 (x12.tmod 5) ((w64 (x12 + 1)).tmod 5) (⟨bs16.toArray⟩ : ByteArray) (SH.upd H b14 ⟨[.int .u8 (IntKind.u8.wrap x12), .int .u8 (IntKind.u8.wrap (ishr .i64 x12 8))], 5, false, 2⟩) (fun e19 H20 =>
      (e19 = none →
        R1 s9 p10 x11 (w64 (x12 + 1)) H20
      ) ∧ (∀ v21, e19 = some v21 →
        ∃ Hr, SH.le Hr H20 ∧ K false Hr
      )
    )
  ) ∧ (¬ (x12 < x11) →
    net_Net_Len.wp F p10 H (fun x22 H23 =>
      (x22 ≠ (imin x11 300) →
        ∃ Hr, SH.le Hr H23 ∧ K false Hr
      ) ∧ (¬ (x22 ≠ (imin x11 300)) →
        net_Net_All.wp F p10 H23 (fun l25 H26 =>
          ladinglaw19_NetMost.l2 F K F s9 p10 x11 l25 (l25.len : Int) 0 H26
        )
      )
    )
  )
def ladinglaw19_NetMost.l1 (F : Nat) (K : Bool → SH → Prop) : Nat → ByteArray → Option (Nat × Nat) → Int → Int → SH → Prop
  | 0, _, _, _, _, _ => False
  | k + 1, s9, p10, x11, x12, H => ladinglaw19_NetMost.r1 F K (ladinglaw19_NetMost.l1 F K k) s9 p10 x11 x12 H
def ladinglaw19_NetMost.wp (F : Nat) (x1 : Int) (s2 : ByteArray) (H : SH) (K : Bool → SH → Prop) : Prop :=
  ladinglaw19_awake.wp F  H (fun q3 H4 =>
    (q3 = true →
      ((s2.size : Int) > 100 →
        ∃ Hr, SH.le Hr H4 ∧ K true Hr
      ) ∧ (¬ ((s2.size : Int) > 100) →
        net_New.wp F  H4 (fun p7 H8 =>
          ladinglaw19_NetMost.l1 F K F s2 p7 ((w64 x1).tmod 400) 0 H8
        )
      )
    ) ∧ (¬ (q3 = true) →
      ∃ Hr, SH.le Hr H4 ∧ K false Hr
    )
  )
set_option maxHeartbeats 8000000 in
theorem ladinglaw19_NetMost.sound (F : Nat) (x1 : Int) (s2 : ByteArray) (H : SH) (K : Bool → SH → Prop) (h : ladinglaw19_NetMost.wp F x1 s2 H K) : SCalls Tryd.prog 4 #[.int .u16 x1, .string s2] H (fun v H' => ∃ (q128 : Bool), v = .bool q128 ∧ K q128 H') := by
  unfold ladinglaw19_NetMost.wp at h
  refine SCalls.body Tryd.func4 rfl (Nat.le_of_ble_eq_true rfl) ?_
  refine SW.seq ?_
  refine SW.region ?_
  refine SOps.val (v := .bool false) rfl (wantN rfl) (fun _ => by kernel_rfl) ?_
  refine SOps.nil ?_
  refine SW.seq ?_
  refine SW.seq ?_
  refine SW.region ?_
  refine SOps.enter rfl (wantN rfl) (fun _ => by kernel_rfl) (ladinglaw19_awake.sound F  H _ h) ?_
  clear h
  rintro v H4 ⟨q3, rfl, h⟩
  refine SOps.val (v := .bool (!q3)) rfl (wantN rfl) (fun _ => by kernel_rfl) ?_
  refine SOps.nil ?_
  by_cases c5 : q3 = true
  · replace h := h.1 c5
    have dc5 : q3 = true := c5
    refine SW.cond_f (t := !q3) rfl (not_t dc5) ?_
    refine SW.skip ?_
    refine SW.seq ?_
    refine SW.seq ?_
    refine SW.region ?_
    refine SOps.val (v := .string s2) rfl (wantN rfl) (fun _ => by kernel_rfl) ?_
    refine SOps.val (v := .int .i64 (s2.size : Int)) rfl (wantN rfl) (fun _ => by kernel_rfl) ?_
    refine SOps.val (v := .bool (decide ((s2.size : Int) > 100))) rfl (wantN rfl) (fun _ => by kernel_rfl) ?_
    refine SOps.nil ?_
    by_cases c6 : (s2.size : Int) > 100
    · replace h := h.1 c6
      have dc6 : (decide ((s2.size : Int) > 100)) = true := (decide_eq_true c6)
      refine SW.cond_t (t := decide ((s2.size : Int) > 100)) rfl dc6 ?_
      refine SW.seq ?_
      refine SW.region ?_
      refine SOps.val (v := .bool true) rfl (wantN rfl) (fun _ => by kernel_rfl) ?_
      refine SOps.nil ?_
      obtain ⟨Hr, hr, h⟩ := h
      exact SW.ret (retQ.mk (.bool true) (res1 rfl rfl) hr ⟨true, rfl, h⟩)
    · replace h := h.2 c6
      have dc6 : (decide ((s2.size : Int) > 100)) = false := (decide_eq_false c6)
      refine SW.cond_f (t := decide ((s2.size : Int) > 100)) rfl dc6 ?_
      refine SW.skip ?_
      refine SW.seq ?_
      refine SW.region ?_
      refine SOps.enter rfl (wantN rfl) (fun _ => by kernel_rfl) (net_New.sound F  H4 _ h) ?_
      clear h
      rintro v H8 ⟨p7, rfl, h⟩
      refine SOps.val (v := pv p7) rfl (wantN rfl) (fun _ => by kernel_rfl) ?_
      refine SOps.nil ?_
      refine SW.seq ?_
      refine SW.region ?_
      refine SOps.val (v := .int .u16 x1) rfl (wantN rfl) (fun _ => by kernel_rfl) ?_
      refine SOps.val (v := .int .i64 (w64 x1)) rfl (wantN rfl) (fun _ => by kernel_rfl) ?_
      refine SOps.val (v := .int .i64 ((w64 x1).tmod 400)) rfl (wantN rfl) (fun w => ev_rem rfl rfl rfl (by decide) w) ?_
      refine SOps.val (v := .int .i64 ((w64 x1).tmod 400)) rfl (wantN rfl) (fun _ => by kernel_rfl) ?_
      refine SOps.nil ?_
      refine SW.seq ?_
      refine SW.seq ?_
      refine SW.region ?_
      refine SOps.val (v := .int .i64 0) rfl (wantN rfl) (fun _ => by kernel_rfl) ?_
      refine SOps.nil ?_
      refine SW.block ?_
      refine SW.loop (fun k1 fr H => ∃ (g : Fr) (s9 : ByteArray) (p10 : Option (Nat × Nat)) (x11 : Int) (x12 : Int), fr = g.upds [(1, (.string s9 : Value)), (5, pv p10), (6, (.int .i64 x11 : Value)), (7, (.int .i64 x12 : Value))] ∧ ladinglaw19_NetMost.l1 F K k1 s9 p10 x11 x12 H) F ⟨_, s2, p7, (w64 x1).tmod 400, 0, (Fr.upds_self _ _ ⟨rfl, rfl, rfl, rfl, trivial⟩), h⟩ ?_
      clear h
      rintro k1 fr H ⟨g, s9, p10, x11, x12, rfl, h⟩
      cases k1 with
      | zero => exact h.elim
      | succ k1 =>
        replace h : ladinglaw19_NetMost.r1 F K (ladinglaw19_NetMost.l1 F K k1) s9 p10 x11 x12 H := h
        unfold ladinglaw19_NetMost.r1 at h
        refine SW.seq ?_
        refine SW.seq ?_
        refine SW.region ?_
        refine SOps.val (v := .int .i64 x12) rfl (wantN rfl) (fun _ => by kernel_rfl) ?_
        refine SOps.val (v := .int .i64 x11) rfl (wantN rfl) (fun _ => by kernel_rfl) ?_
        refine SOps.val (v := .bool (decide (x12 < x11))) rfl (wantN rfl) (fun _ => by kernel_rfl) ?_
        refine SOps.nil ?_
        by_cases c13 : x12 < x11
        · replace h := h.1 c13
          have dc13 : (decide (x12 < x11)) = true := (decide_eq_true c13)
          refine SW.cond_t (t := decide (x12 < x11)) rfl dc13 ?_
          refine SW.skip ?_
          refine SW.seq ?_
          refine SW.block ?_
          refine SW.seq ?_
          refine SW.region ?_
          refine SOps.val (v := pv p10) rfl (wantN rfl) (fun _ => by kernel_rfl) ?_
          refine SOps.val (v := .int .i64 x12) rfl (wantN rfl) (fun _ => by kernel_rfl) ?_
          refine SOps.val (v := .int .i64 (x12.tmod 5)) rfl (wantN rfl) (fun w => ev_rem rfl rfl rfl (by decide) w) ?_
          refine SOps.val (v := .int .i64 x12) rfl (wantN rfl) (fun _ => by kernel_rfl) ?_
          refine SOps.val (v := .int .i64 (w64 (x12 + 1))) rfl (wantN rfl) (fun _ => by kernel_rfl) ?_
          refine SOps.val (v := .int .i64 ((w64 (x12 + 1)).tmod 5)) rfl (wantN rfl) (fun w => ev_rem rfl rfl rfl (by decide) w) ?_
          refine SOps.val (v := .int .i64 x12) rfl (wantN rfl) (fun _ => by kernel_rfl) ?_
          refine SOps.val (v := .int .u8 (IntKind.u8.wrap x12)) rfl (wantN rfl) (fun _ => by kernel_rfl) ?_
          refine SOps.val (v := .int .i64 x12) rfl (wantN rfl) (fun _ => by kernel_rfl) ?_
          refine SOps.val (v := .int .i64 (ishr .i64 x12 8)) rfl (wantN rfl) (fun w => ev_shr rfl rfl rfl (by decide) w) ?_
          refine SOps.val (v := .int .u8 (IntKind.u8.wrap (ishr .i64 x12 8))) rfl (wantN rfl) (fun _ => by kernel_rfl) ?_
          refine SOps.lit (E := 5) (cs := #[.int .u8 (IntKind.u8.wrap x12), .int .u8 (IntKind.u8.wrap (ishr .i64 x12 8))]) rfl rfl (wantN rfl) (fun _ => by kernel_rfl) (fun b14 c15 => ?_)
          replace h := h b14 c15
          obtain ⟨bs16, c17, c18, h⟩ := h
          refine SOps.rd (v := .string (⟨bs16.toArray⟩ : ByteArray)) rfl (wantN rfl) (fun w hw => ev_str rfl Tryd.underlying42 Tryd.underlying5 Tryd.underlying9 rfl c17 c18 w hw) ?_
          refine SOps.enter rfl (wantN rfl) (fun _ => by kernel_rfl) (net_Net_Send.sound F p10 (x12.tmod 5) ((w64 (x12 + 1)).tmod 5) (⟨bs16.toArray⟩ : ByteArray) (SH.upd H b14 ⟨[.int .u8 (IntKind.u8.wrap x12), .int .u8 (IntKind.u8.wrap (ishr .i64 x12 8))], 5, false, 2⟩) _ h) ?_
          clear h
          rintro v H20 ⟨e19, rfl, h⟩
          rcases e19 with _ | v21
          · replace h := h.1 rfl
            refine SOps.val (v := .bool false) rfl (wantN rfl) (fun w => ev_errNe (e := none) rfl Tryd.underlying31 rfl rfl w) ?_
            refine SOps.nil ?_
            refine SW.cond_f (t := false) rfl rfl ?_
            refine SW.skip ?_
            refine SW.region ?_
            refine SOps.val (v := .int .i64 x12) rfl (wantN rfl) (fun _ => by kernel_rfl) ?_
            refine SOps.val (v := .int .i64 (w64 (x12 + 1))) rfl (wantN rfl) (fun _ => by kernel_rfl) ?_
            refine SOps.val (v := .int .i64 (w64 (x12 + 1))) rfl (wantN rfl) (fun _ => by kernel_rfl) ?_
            refine SOps.nil ?_
            exact ⟨k1, Nat.lt_succ_self k1, _, s9, p10, x11, w64 (x12 + 1), (Fr.upds_self _ _ ⟨rfl, rfl, rfl, rfl, trivial⟩), h⟩
          · replace h := h.2 v21 rfl
            refine SOps.val (v := .bool true) rfl (wantN rfl) (fun w => ev_errNe (e := some v21) rfl Tryd.underlying31 rfl rfl w) ?_
            refine SOps.nil ?_
            refine SW.cond_t (t := true) rfl rfl ?_
            refine SW.seq ?_
            refine SW.region ?_
            refine SOps.val (v := .bool false) rfl (wantN rfl) (fun _ => by kernel_rfl) ?_
            refine SOps.nil ?_
            obtain ⟨Hr, hr, h⟩ := h
            exact SW.ret (retQ.mk (.bool false) (res1 rfl rfl) hr ⟨false, rfl, h⟩)
        · replace h := h.2 c13
          have dc13 : (decide (x12 < x11)) = false := (decide_eq_false c13)
          refine SW.cond_f (t := decide (x12 < x11)) rfl dc13 ?_
          refine SW.exit ?_
          refine SW.seq ?_
          refine SW.seq ?_
          refine SW.region ?_
          refine SOps.val (v := pv p10) rfl (wantN rfl) (fun _ => by kernel_rfl) ?_
          refine SOps.enter rfl (wantN rfl) (fun _ => by kernel_rfl) (net_Net_Len.sound F p10 H _ h) ?_
          clear h
          rintro v H23 ⟨x22, rfl, h⟩
          refine SOps.val (v := .int .i64 x11) rfl (wantN rfl) (fun _ => by kernel_rfl) ?_
          refine SOps.val (v := .int .i64 (imin x11 300)) rfl (wantN rfl) (fun _ => by kernel_rfl) ?_
          refine SOps.val (v := .bool (x22 != (imin x11 300))) rfl (wantN rfl) (fun _ => by kernel_rfl) ?_
          refine SOps.nil ?_
          by_cases c24 : x22 ≠ (imin x11 300)
          · replace h := h.1 c24
            have dc24 : (x22 != (imin x11 300)) = true := (bne_iff_ne.mpr c24)
            refine SW.cond_t (t := (x22 != (imin x11 300))) rfl dc24 ?_
            refine SW.seq ?_
            refine SW.region ?_
            refine SOps.val (v := .bool false) rfl (wantN rfl) (fun _ => by kernel_rfl) ?_
            refine SOps.nil ?_
            obtain ⟨Hr, hr, h⟩ := h
            exact SW.ret (retQ.mk (.bool false) (res1 rfl rfl) hr ⟨false, rfl, h⟩)
          · replace h := h.2 c24
            have dc24 : (x22 != (imin x11 300)) = false := (by simpa using c24)
            refine SW.cond_f (t := (x22 != (imin x11 300))) rfl dc24 ?_
            refine SW.skip ?_
            refine SW.seq ?_
            refine SW.seq ?_
            refine SW.region ?_
            refine SOps.val (v := pv p10) rfl (wantN rfl) (fun _ => by kernel_rfl) ?_
            refine SOps.enter rfl (wantN rfl) (fun _ => by kernel_rfl) (net_Net_All.sound F p10 H23 _ h) ?_
            clear h
            rintro v H26 ⟨l25, rfl, h⟩
            refine SOps.val (v := .int .i64 (l25.len : Int)) rfl (wantN rfl) (fun _ => by kernel_rfl) ?_
            refine SOps.val (v := .int .i64 0) rfl (wantN rfl) (fun _ => by kernel_rfl) ?_
            refine SOps.nil ?_
            refine SW.block ?_
            refine SW.loop (fun k2 fr H => ∃ (g : Fr) (s27 : ByteArray) (p28 : Option (Nat × Nat)) (x29 : Int) (l30 : Sl) (x31 : Int) (x32 : Int), fr = g.upds [(1, (.string s27 : Value)), (5, pv p28), (6, (.int .i64 x29 : Value)), (52, sv l30), (53, (.int .i64 x31 : Value)), (54, (.int .i64 x32 : Value))] ∧ ladinglaw19_NetMost.l2 F K k2 s27 p28 x29 l30 x31 x32 H) F ⟨_, s9, p10, x11, l25, (l25.len : Int), 0, (Fr.upds_self _ _ ⟨rfl, rfl, rfl, rfl, rfl, rfl, trivial⟩), h⟩ ?_
            clear h
            rintro k2 fr H ⟨g, s27, p28, x29, l30, x31, x32, rfl, h⟩
            cases k2 with
            | zero => exact h.elim
            | succ k2 =>
              replace h : ladinglaw19_NetMost.r2 F K (ladinglaw19_NetMost.l2 F K k2) s27 p28 x29 l30 x31 x32 H := h
              unfold ladinglaw19_NetMost.r2 at h
              refine SW.seq ?_
              refine SW.region ?_
              refine SOps.val (v := .bool (decide (x32 < x31))) rfl (wantN rfl) (fun _ => by kernel_rfl) ?_
              refine SOps.nil ?_
              refine SW.seq ?_
              by_cases c33 : x32 < x31
              · replace h := h.1 c33
                have dc33 : (decide (x32 < x31)) = true := (decide_eq_true c33)
                refine SW.cond_t (t := decide (x32 < x31)) rfl dc33 ?_
                refine SW.skip ?_
                refine SW.seq ?_
                refine SW.block ?_
                refine SW.seq ?_
                refine SW.region ?_
                refine SOps.val (v := .int .i64 x32) rfl (wantN rfl) (fun _ => by kernel_rfl) ?_
                obtain ⟨p34, c35, c36, c37, h⟩ := h
                refine SOps.val (v := pv (some (p34.1, (p34.2 + x32.toNat * 3)))) rfl (wantN rfl) (fun w => ev_iaddr rfl Tryd.underlying44 (size := 3) (by kernel_rfl) rfl rfl c35 c36 c37 w) ?_
                obtain ⟨x38, x39, s40, c41, h⟩ := h
                refine SOps.rd (v := .agg #[.int .i64 x38, .int .i64 x39, .string s40]) rfl (wantN rfl) (fun w hw => ev_loadN rfl (fun _ => by kernel_rfl) (size := 3) (by kernel_rfl) (p := (p34.1, (p34.2 + x32.toNat * 3))) rfl rfl c41 w hw) ?_
                refine SOps.alloc rfl rfl (wantN rfl) (z := .agg #[.int .i64 0, .int .i64 0, .string ByteArray.empty]) (by kernel_rfl) (fun b42 c43 => ?_)
                replace h := h b42 c43
                refine SOps.val (v := .int .i64 x32) rfl (wantN rfl) (fun _ => by kernel_rfl) ?_
                obtain ⟨c44, h⟩ := h
                refine SOps.storeL (p := (b42, 0)) (v := .agg #[.int .i64 x38, .int .i64 x39, .string s40]) (cs := [.int .i64 x38, .int .i64 x39, .string s40]) rfl rfl (wantN rfl) (size := 3) (by kernel_rfl) rfl rfl rfl rfl (by simp [Value.oneCell', errV_one, pv, sv]) c44 ?_
                refine SOps.nil ?_
                refine SW.seq ?_
                refine SW.region ?_
                refine SOps.val (v := .int .i64 x29) rfl (wantN rfl) (fun _ => by kernel_rfl) ?_
                refine SOps.val (v := .int .i64 (w64 (x29 - 300))) rfl (wantN rfl) (fun _ => by kernel_rfl) ?_
                refine SOps.val (v := .int .i64 (imax (w64 (x29 - 300)) 0)) rfl (wantN rfl) (fun _ => by kernel_rfl) ?_
                refine SOps.val (v := .int .i64 x32) rfl (wantN rfl) (fun _ => by kernel_rfl) ?_
                refine SOps.val (v := .int .i64 (w64 ((imax (w64 (x29 - 300)) 0) + x32))) rfl (wantN rfl) (fun _ => by kernel_rfl) ?_
                refine SOps.val (v := .int .i64 (w64 ((imax (w64 (x29 - 300)) 0) + x32))) rfl (wantN rfl) (fun _ => by kernel_rfl) ?_
                refine SOps.nil ?_
                refine SW.seq ?_
                refine SW.region ?_
                obtain ⟨x45, x46, s47, c48, h⟩ := h
                refine SOps.rd (v := .agg #[.int .i64 x45, .int .i64 x46, .string s47]) rfl (wantN rfl) (fun w hw => ev_loadN rfl (fun _ => by kernel_rfl) (size := 3) (by kernel_rfl) (p := (b42, 0)) rfl rfl c48 w hw) ?_
                refine SOps.val (v := .int .i64 (w64 ((imax (w64 (x29 - 300)) 0) + x32))) rfl (wantN rfl) (fun _ => by kernel_rfl) ?_
                refine SOps.val (v := .int .i64 ((w64 ((imax (w64 (x29 - 300)) 0) + x32)).tmod 5)) rfl (wantN rfl) (fun w => ev_rem rfl rfl rfl (by decide) w) ?_
                refine SOps.val (v := .int .i64 (w64 ((imax (w64 (x29 - 300)) 0) + x32))) rfl (wantN rfl) (fun _ => by kernel_rfl) ?_
                refine SOps.val (v := .int .i64 (w64 ((w64 ((imax (w64 (x29 - 300)) 0) + x32)) + 1))) rfl (wantN rfl) (fun _ => by kernel_rfl) ?_
                refine SOps.val (v := .int .i64 ((w64 ((w64 ((imax (w64 (x29 - 300)) 0) + x32)) + 1)).tmod 5)) rfl (wantN rfl) (fun w => ev_rem rfl rfl rfl (by decide) w) ?_
                refine SOps.val (v := .int .i64 (w64 ((imax (w64 (x29 - 300)) 0) + x32))) rfl (wantN rfl) (fun _ => by kernel_rfl) ?_
                refine SOps.val (v := .int .u8 (IntKind.u8.wrap (w64 ((imax (w64 (x29 - 300)) 0) + x32)))) rfl (wantN rfl) (fun _ => by kernel_rfl) ?_
                refine SOps.val (v := .int .i64 (w64 ((imax (w64 (x29 - 300)) 0) + x32))) rfl (wantN rfl) (fun _ => by kernel_rfl) ?_
                refine SOps.val (v := .int .i64 (ishr .i64 (w64 ((imax (w64 (x29 - 300)) 0) + x32)) 8)) rfl (wantN rfl) (fun w => ev_shr rfl rfl rfl (by decide) w) ?_
                refine SOps.val (v := .int .u8 (IntKind.u8.wrap (ishr .i64 (w64 ((imax (w64 (x29 - 300)) 0) + x32)) 8))) rfl (wantN rfl) (fun _ => by kernel_rfl) ?_
                refine SOps.lit (E := 5) (cs := #[.int .u8 (IntKind.u8.wrap (w64 ((imax (w64 (x29 - 300)) 0) + x32))), .int .u8 (IntKind.u8.wrap (ishr .i64 (w64 ((imax (w64 (x29 - 300)) 0) + x32)) 8))]) rfl rfl (wantN rfl) (fun _ => by kernel_rfl) (fun b49 c50 => ?_)
                replace h := h b49 c50
                obtain ⟨bs51, c52, c53, h⟩ := h
                refine SOps.rd (v := .string (⟨bs51.toArray⟩ : ByteArray)) rfl (wantN rfl) (fun w hw => ev_str rfl Tryd.underlying42 Tryd.underlying5 Tryd.underlying9 rfl c52 c53 w hw) ?_
                refine SOps.val (v := .agg #[.int .i64 ((w64 ((imax (w64 (x29 - 300)) 0) + x32)).tmod 5), .int .i64 ((w64 ((w64 ((imax (w64 (x29 - 300)) 0) + x32)) + 1)).tmod 5), .string (⟨bs51.toArray⟩ : ByteArray)]) rfl (wantN rfl) (fun _ => by kernel_rfl) ?_
                refine SOps.val (v := .bool (!decide (x45 = ((w64 ((imax (w64 (x29 - 300)) 0) + x32)).tmod 5) ∧ x46 = ((w64 ((w64 ((imax (w64 (x29 - 300)) 0) + x32)) + 1)).tmod 5) ∧ s47 = (⟨bs51.toArray⟩ : ByteArray)))) rfl (wantN rfl) (fun w => ev_pktNe rfl rfl rfl w) ?_
                refine SOps.nil ?_
                by_cases c54 : (x45 = ((w64 ((imax (w64 (x29 - 300)) 0) + x32)).tmod 5) ∧ x46 = ((w64 ((w64 ((imax (w64 (x29 - 300)) 0) + x32)) + 1)).tmod 5) ∧ s47 = (⟨bs51.toArray⟩ : ByteArray))
                · replace h := h.1 c54
                  have dc54 : (decide (x45 = ((w64 ((imax (w64 (x29 - 300)) 0) + x32)).tmod 5) ∧ x46 = ((w64 ((w64 ((imax (w64 (x29 - 300)) 0) + x32)) + 1)).tmod 5) ∧ s47 = (⟨bs51.toArray⟩ : ByteArray))) = true := (decide_eq_true c54)
                  refine SW.cond_f (t := !decide (x45 = ((w64 ((imax (w64 (x29 - 300)) 0) + x32)).tmod 5) ∧ x46 = ((w64 ((w64 ((imax (w64 (x29 - 300)) 0) + x32)) + 1)).tmod 5) ∧ s47 = (⟨bs51.toArray⟩ : ByteArray))) rfl (not_t dc54) ?_
                  refine SW.skip ?_
                  refine SW.region ?_
                  refine SOps.val (v := .int .i64 (w64 (x32 + 1))) rfl (wantN rfl) (fun _ => by kernel_rfl) ?_
                  refine SOps.val (v := .int .i64 (w64 (x32 + 1))) rfl (wantN rfl) (fun _ => by kernel_rfl) ?_
                  refine SOps.nil ?_
                  exact ⟨k2, Nat.lt_succ_self k2, _, s27, p28, x29, l30, x31, w64 (x32 + 1), (Fr.upds_self _ _ ⟨rfl, rfl, rfl, rfl, rfl, rfl, trivial⟩), h⟩
                · replace h := h.2 c54
                  have dc54 : (decide (x45 = ((w64 ((imax (w64 (x29 - 300)) 0) + x32)).tmod 5) ∧ x46 = ((w64 ((w64 ((imax (w64 (x29 - 300)) 0) + x32)) + 1)).tmod 5) ∧ s47 = (⟨bs51.toArray⟩ : ByteArray))) = false := (decide_eq_false c54)
                  refine SW.cond_t (t := !decide (x45 = ((w64 ((imax (w64 (x29 - 300)) 0) + x32)).tmod 5) ∧ x46 = ((w64 ((w64 ((imax (w64 (x29 - 300)) 0) + x32)) + 1)).tmod 5) ∧ s47 = (⟨bs51.toArray⟩ : ByteArray))) rfl (not_f dc54) ?_
                  refine SW.seq ?_
                  refine SW.region ?_
                  refine SOps.val (v := .bool false) rfl (wantN rfl) (fun _ => by kernel_rfl) ?_
                  refine SOps.nil ?_
                  obtain ⟨Hr, hr, h⟩ := h
                  exact SW.ret (retQ.mk (.bool false) (res1 rfl rfl) hr ⟨false, rfl, h⟩)
              · replace h := h.2 c33
                have dc33 : (decide (x32 < x31)) = false := (decide_eq_false c33)
                refine SW.cond_f (t := decide (x32 < x31)) rfl dc33 ?_
                refine SW.exit ?_
                refine SW.seq ?_
                refine SW.region ?_
                refine SOps.val (v := pv none) rfl (wantN rfl) (fun _ => by kernel_rfl) ?_
                refine SOps.nil ?_
                refine SW.seq ?_
                refine SW.region ?_
                refine SOps.val (v := pv none) rfl (wantN rfl) (fun _ => by kernel_rfl) ?_
                refine SOps.enter rfl (wantN rfl) (fun _ => by kernel_rfl) (net_Net_Take.sound F none 0 H _ h) ?_
                clear h
                rintro v H59 ⟨x55, x56, s57, e58, rfl, h⟩
                refine SOps.val (v := .tuple #[.agg #[.int .i64 x55, .int .i64 x56, .string s57], errV e58]) rfl (wantN rfl) (fun _ => by kernel_rfl) ?_
                refine SOps.val (v := .agg #[.int .i64 x55, .int .i64 x56, .string s57]) rfl (wantN rfl) (fun _ => by kernel_rfl) ?_
                refine SOps.val (v := errV e58) rfl (wantN rfl) (fun _ => by kernel_rfl) ?_
                refine SOps.alloc rfl rfl (wantN rfl) (z := .agg #[.int .i64 0, .int .i64 0, .string ByteArray.empty]) (by kernel_rfl) (fun b60 c61 => ?_)
                replace h := h b60 c61
                obtain ⟨c62, h⟩ := h
                refine SOps.storeL (p := (b60, 0)) (v := .agg #[.int .i64 x55, .int .i64 x56, .string s57]) (cs := [.int .i64 x55, .int .i64 x56, .string s57]) rfl rfl (wantN rfl) (size := 3) (by kernel_rfl) rfl rfl rfl rfl (by simp [Value.oneCell', errV_one, pv, sv]) c62 ?_
                refine SOps.val (v := errV e58) rfl (wantN rfl) (fun _ => by kernel_rfl) ?_
                refine SOps.nil ?_
                refine SW.seq ?_
                refine SW.region ?_
                refine SOps.val (v := pv none) rfl (wantN rfl) (fun _ => by kernel_rfl) ?_
                refine SOps.enter rfl (wantN rfl) (fun _ => by kernel_rfl) (net_Net_Look.sound F none 0 (SH.setl (SH.upd H59 b60 ⟨[.int .i64 0, .int .i64 0, .string ByteArray.empty], 34, false, 3⟩) (b60, 0) [.int .i64 x55, .int .i64 x56, .string s57]) _ h) ?_
                clear h
                rintro v H67 ⟨x63, x64, s65, e66, rfl, h⟩
                refine SOps.val (v := .tuple #[.agg #[.int .i64 x63, .int .i64 x64, .string s65], errV e66]) rfl (wantN rfl) (fun _ => by kernel_rfl) ?_
                refine SOps.val (v := .agg #[.int .i64 x63, .int .i64 x64, .string s65]) rfl (wantN rfl) (fun _ => by kernel_rfl) ?_
                refine SOps.val (v := errV e66) rfl (wantN rfl) (fun _ => by kernel_rfl) ?_
                refine SOps.alloc rfl rfl (wantN rfl) (z := .agg #[.int .i64 0, .int .i64 0, .string ByteArray.empty]) (by kernel_rfl) (fun b68 c69 => ?_)
                replace h := h b68 c69
                obtain ⟨c70, h⟩ := h
                refine SOps.storeL (p := (b68, 0)) (v := .agg #[.int .i64 x63, .int .i64 x64, .string s65]) (cs := [.int .i64 x63, .int .i64 x64, .string s65]) rfl rfl (wantN rfl) (size := 3) (by kernel_rfl) rfl rfl rfl rfl (by simp [Value.oneCell', errV_one, pv, sv]) c70 ?_
                refine SOps.val (v := errV e66) rfl (wantN rfl) (fun _ => by kernel_rfl) ?_
                refine SOps.nil ?_
                refine SW.seq ?_
                refine SW.region ?_
                refine SOps.val (v := .int .i64 1) rfl (wantN rfl) (fun _ => by kernel_rfl) ?_
                refine SOps.nil ?_
                refine SW.seq ?_
                refine SW.region ?_
                refine SOps.val (v := pv p28) rfl (wantN rfl) (fun _ => by kernel_rfl) ?_
                obtain ⟨c73, c74, h⟩ := h
                refine SOps.make (z := .int .u8 0) (size := 1) (bytes := 1) rfl rfl (wantN rfl) Tryd.underlying42 (by kernel_rfl) rfl (by decide) (by decide) rfl rfl c73 c74 (fun b71 c72 => ?_)
                replace h := h b71 c72
                obtain ⟨bs75, c76, c77, h⟩ := h
                refine SOps.rd (v := .string (⟨bs75.toArray⟩ : ByteArray)) rfl (wantN rfl) (fun w hw => ev_str rfl Tryd.underlying42 Tryd.underlying5 Tryd.underlying9 rfl c76 c77 w hw) ?_
                refine SOps.enter rfl (wantN rfl) (fun _ => by kernel_rfl) (net_Net_Send.sound F p28 0 1 (⟨bs75.toArray⟩ : ByteArray) (SH.upd (SH.setl (SH.upd H67 b68 ⟨[.int .i64 0, .int .i64 0, .string ByteArray.empty], 34, false, 3⟩) (b68, 0) [.int .i64 x63, .int .i64 x64, .string s65]) b71 ⟨(Builtin.zeroCells (Value.cells (.int .u8 0 : Value)) (8001 : Int).toNat).toList, 5, false, (8001 : Int).toNat * 1⟩) _ h) ?_
                clear h
                rintro v H79 ⟨e78, rfl, h⟩
                refine SOps.enter rfl (wantN rfl) (fun _ => by kernel_rfl) (api_Code.sound F e78 H79 _ h) ?_
                clear h
                rintro v H81 ⟨x80, rfl, h⟩
                refine SOps.val (v := .bool (x80 == 6)) rfl (wantN rfl) (fun _ => by kernel_rfl) ?_
                refine SOps.val (v := .bool (x80 == 6)) rfl (wantN rfl) (fun _ => by kernel_rfl) ?_
                by_cases c82 : x80 = 6
                · replace h := h.1 c82
                  have dc82 : (x80 == 6) = true := (beq_iff_eq.mpr c82)
                  refine SOps.val (v := pv p28) rfl (wantY (c := (x80 == 6)) rfl rfl rfl dc82) (fun _ => by kernel_rfl) ?_
                  refine SOps.enter rfl (wantY (c := (x80 == 6)) rfl rfl rfl dc82) (fun _ => by kernel_rfl) (net_Net_Len.sound F p28 H81 _ h) ?_
                  clear h
                  rintro v H84 ⟨x83, rfl, h⟩
                  refine SOps.val (v := .int .i64 x29) rfl (wantY (c := (x80 == 6)) rfl rfl rfl dc82) (fun _ => by kernel_rfl) ?_
                  refine SOps.val (v := .int .i64 (imin x29 300)) rfl (wantY (c := (x80 == 6)) rfl rfl rfl dc82) (fun _ => by kernel_rfl) ?_
                  refine SOps.val (v := .bool (x83 == (imin x29 300))) rfl (wantY (c := (x80 == 6)) rfl rfl rfl dc82) (fun _ => by kernel_rfl) ?_
                  refine SOps.val (v := .bool (x83 == (imin x29 300))) rfl (wantN rfl) (fun w => ev_pickT (v := .bool (x83 == (imin x29 300))) rfl (t := (x80 == 6)) rfl dc82 rfl w) ?_
                  refine SOps.val (v := .bool (x83 == (imin x29 300))) rfl (wantN rfl) (fun _ => by kernel_rfl) ?_
                  by_cases c85 : x83 = (imin x29 300)
                  · replace h := h.1 c85
                    have dc85 : (x83 == (imin x29 300)) = true := (beq_iff_eq.mpr c85)
                    refine SOps.val (v := errV e58) rfl (wantY (c := (x83 == (imin x29 300))) rfl rfl rfl dc85) (fun _ => by kernel_rfl) ?_
                    refine SOps.enter rfl (wantY (c := (x83 == (imin x29 300))) rfl rfl rfl dc85) (fun _ => by kernel_rfl) (api_Code.sound F e58 H84 _ h) ?_
                    clear h
                    rintro v H87 ⟨x86, rfl, h⟩
                    refine SOps.val (v := .int .i64 1) rfl (wantY (c := (x83 == (imin x29 300))) rfl rfl rfl dc85) (fun _ => by kernel_rfl) ?_
                    refine SOps.val (v := .bool (x86 == 1)) rfl (wantY (c := (x83 == (imin x29 300))) rfl rfl rfl dc85) (fun _ => by kernel_rfl) ?_
                    refine SOps.val (v := .bool (x86 == 1)) rfl (wantN rfl) (fun w => ev_pickT (v := .bool (x86 == 1)) rfl (t := (x83 == (imin x29 300))) rfl dc85 rfl w) ?_
                    refine SOps.val (v := .bool (x86 == 1)) rfl (wantN rfl) (fun _ => by kernel_rfl) ?_
                    by_cases c88 : x86 = 1
                    · replace h := h.1 c88
                      have dc88 : (x86 == 1) = true := (beq_iff_eq.mpr c88)
                      refine SOps.val (v := errV e66) rfl (wantY (c := (x86 == 1)) rfl rfl rfl dc88) (fun _ => by kernel_rfl) ?_
                      refine SOps.enter rfl (wantY (c := (x86 == 1)) rfl rfl rfl dc88) (fun _ => by kernel_rfl) (api_Code.sound F e66 H87 _ h) ?_
                      clear h
                      rintro v H90 ⟨x89, rfl, h⟩
                      refine SOps.val (v := .int .i64 1) rfl (wantY (c := (x86 == 1)) rfl rfl rfl dc88) (fun _ => by kernel_rfl) ?_
                      refine SOps.val (v := .bool (x89 == 1)) rfl (wantY (c := (x86 == 1)) rfl rfl rfl dc88) (fun _ => by kernel_rfl) ?_
                      refine SOps.val (v := .bool (x89 == 1)) rfl (wantN rfl) (fun w => ev_pickT (v := .bool (x89 == 1)) rfl (t := (x86 == 1)) rfl dc88 rfl w) ?_
                      refine SOps.val (v := .bool (x89 == 1)) rfl (wantN rfl) (fun _ => by kernel_rfl) ?_
                      by_cases c91 : x89 = 1
                      · replace h := h.1 c91
                        have dc91 : (x89 == 1) = true := (beq_iff_eq.mpr c91)
                        refine SOps.val (v := pv none) rfl (wantY (c := (x89 == 1)) rfl rfl rfl dc91) (fun _ => by kernel_rfl) ?_
                        refine SOps.val (v := .string s27) rfl (wantY (c := (x89 == 1)) rfl rfl rfl dc91) (fun _ => by kernel_rfl) ?_
                        refine SOps.enter rfl (wantY (c := (x89 == 1)) rfl rfl rfl dc91) (fun _ => by kernel_rfl) (net_Net_Send.sound F none 0 1 s27 H90 _ h) ?_
                        clear h
                        rintro v H93 ⟨e92, rfl, h⟩
                        refine SOps.enter rfl (wantY (c := (x89 == 1)) rfl rfl rfl dc91) (fun _ => by kernel_rfl) (api_Code.sound F e92 H93 _ h) ?_
                        clear h
                        rintro v H95 ⟨x94, rfl, h⟩
                        refine SOps.val (v := .int .i64 1) rfl (wantY (c := (x89 == 1)) rfl rfl rfl dc91) (fun _ => by kernel_rfl) ?_
                        refine SOps.val (v := .bool (x94 == 1)) rfl (wantY (c := (x89 == 1)) rfl rfl rfl dc91) (fun _ => by kernel_rfl) ?_
                        refine SOps.val (v := .bool (x94 == 1)) rfl (wantN rfl) (fun w => ev_pickT (v := .bool (x94 == 1)) rfl (t := (x89 == 1)) rfl dc91 rfl w) ?_
                        refine SOps.val (v := .bool (x94 == 1)) rfl (wantN rfl) (fun _ => by kernel_rfl) ?_
                        by_cases c96 : x94 = 1
                        · replace h := h.1 c96
                          have dc96 : (x94 == 1) = true := (beq_iff_eq.mpr c96)
                          refine SOps.val (v := pv none) rfl (wantY (c := (x94 == 1)) rfl rfl rfl dc96) (fun _ => by kernel_rfl) ?_
                          refine SOps.enter rfl (wantY (c := (x94 == 1)) rfl rfl rfl dc96) (fun _ => by kernel_rfl) (net_Net_Drop.sound F none 0 H95 _ h) ?_
                          clear h
                          rintro v H98 ⟨e97, rfl, h⟩
                          refine SOps.enter rfl (wantY (c := (x94 == 1)) rfl rfl rfl dc96) (fun _ => by kernel_rfl) (api_Code.sound F e97 H98 _ h) ?_
                          clear h
                          rintro v H100 ⟨x99, rfl, h⟩
                          refine SOps.val (v := .int .i64 1) rfl (wantY (c := (x94 == 1)) rfl rfl rfl dc96) (fun _ => by kernel_rfl) ?_
                          refine SOps.val (v := .bool (x99 == 1)) rfl (wantY (c := (x94 == 1)) rfl rfl rfl dc96) (fun _ => by kernel_rfl) ?_
                          refine SOps.val (v := .bool (x99 == 1)) rfl (wantN rfl) (fun w => ev_pickT (v := .bool (x99 == 1)) rfl (t := (x94 == 1)) rfl dc96 rfl w) ?_
                          refine SOps.val (v := .bool (x99 == 1)) rfl (wantN rfl) (fun _ => by kernel_rfl) ?_
                          by_cases c101 : x99 = 1
                          · replace h := h.1 c101
                            have dc101 : (x99 == 1) = true := (beq_iff_eq.mpr c101)
                            refine SOps.val (v := pv none) rfl (wantY (c := (x99 == 1)) rfl rfl rfl dc101) (fun _ => by kernel_rfl) ?_
                            refine SOps.enter rfl (wantY (c := (x99 == 1)) rfl rfl rfl dc101) (fun _ => by kernel_rfl) (net_Net_Twice.sound F none 0 H100 _ h) ?_
                            clear h
                            rintro v H103 ⟨e102, rfl, h⟩
                            refine SOps.enter rfl (wantY (c := (x99 == 1)) rfl rfl rfl dc101) (fun _ => by kernel_rfl) (api_Code.sound F e102 H103 _ h) ?_
                            clear h
                            rintro v H105 ⟨x104, rfl, h⟩
                            refine SOps.val (v := .int .i64 1) rfl (wantY (c := (x99 == 1)) rfl rfl rfl dc101) (fun _ => by kernel_rfl) ?_
                            refine SOps.val (v := .bool (x104 == 1)) rfl (wantY (c := (x99 == 1)) rfl rfl rfl dc101) (fun _ => by kernel_rfl) ?_
                            refine SOps.val (v := .bool (x104 == 1)) rfl (wantN rfl) (fun w => ev_pickT (v := .bool (x104 == 1)) rfl (t := (x99 == 1)) rfl dc101 rfl w) ?_
                            refine SOps.val (v := .bool (x104 == 1)) rfl (wantN rfl) (fun _ => by kernel_rfl) ?_
                            by_cases c106 : x104 = 1
                            · replace h := h.1 c106
                              have dc106 : (x104 == 1) = true := (beq_iff_eq.mpr c106)
                              refine SOps.val (v := pv none) rfl (wantY (c := (x104 == 1)) rfl rfl rfl dc106) (fun _ => by kernel_rfl) ?_
                              refine SOps.enter rfl (wantY (c := (x104 == 1)) rfl rfl rfl dc106) (fun _ => by kernel_rfl) (net_Net_Turn.sound F none 0 0 H105 _ h) ?_
                              clear h
                              rintro v H108 ⟨e107, rfl, h⟩
                              refine SOps.enter rfl (wantY (c := (x104 == 1)) rfl rfl rfl dc106) (fun _ => by kernel_rfl) (api_Code.sound F e107 H108 _ h) ?_
                              clear h
                              rintro v H110 ⟨x109, rfl, h⟩
                              refine SOps.val (v := .int .i64 1) rfl (wantY (c := (x104 == 1)) rfl rfl rfl dc106) (fun _ => by kernel_rfl) ?_
                              refine SOps.val (v := .bool (x109 == 1)) rfl (wantY (c := (x104 == 1)) rfl rfl rfl dc106) (fun _ => by kernel_rfl) ?_
                              refine SOps.val (v := .bool (x109 == 1)) rfl (wantN rfl) (fun w => ev_pickT (v := .bool (x109 == 1)) rfl (t := (x104 == 1)) rfl dc106 rfl w) ?_
                              refine SOps.val (v := .bool (x109 == 1)) rfl (wantN rfl) (fun _ => by kernel_rfl) ?_
                              by_cases c111 : x109 = 1
                              · replace h := h.1 c111
                                have dc111 : (x109 == 1) = true := (beq_iff_eq.mpr c111)
                                refine SOps.val (v := pv none) rfl (wantY (c := (x109 == 1)) rfl rfl rfl dc111) (fun _ => by kernel_rfl) ?_
                                refine SOps.enter rfl (wantY (c := (x109 == 1)) rfl rfl rfl dc111) (fun _ => by kernel_rfl) (net_Net_Spoil.sound F none 0 0 1 H110 _ h) ?_
                                clear h
                                rintro v H113 ⟨e112, rfl, h⟩
                                refine SOps.enter rfl (wantY (c := (x109 == 1)) rfl rfl rfl dc111) (fun _ => by kernel_rfl) (api_Code.sound F e112 H113 _ h) ?_
                                clear h
                                rintro v H115 ⟨x114, rfl, h⟩
                                refine SOps.val (v := .int .i64 1) rfl (wantY (c := (x109 == 1)) rfl rfl rfl dc111) (fun _ => by kernel_rfl) ?_
                                refine SOps.val (v := .bool (x114 == 1)) rfl (wantY (c := (x109 == 1)) rfl rfl rfl dc111) (fun _ => by kernel_rfl) ?_
                                refine SOps.val (v := .bool (x114 == 1)) rfl (wantN rfl) (fun w => ev_pickT (v := .bool (x114 == 1)) rfl (t := (x109 == 1)) rfl dc111 rfl w) ?_
                                refine SOps.val (v := .bool (x114 == 1)) rfl (wantN rfl) (fun _ => by kernel_rfl) ?_
                                by_cases c116 : x114 = 1
                                · replace h := h.1 c116
                                  have dc116 : (x114 == 1) = true := (beq_iff_eq.mpr c116)
                                  refine SOps.val (v := pv none) rfl (wantY (c := (x114 == 1)) rfl rfl rfl dc116) (fun _ => by kernel_rfl) ?_
                                  refine SOps.enter rfl (wantY (c := (x114 == 1)) rfl rfl rfl dc116) (fun _ => by kernel_rfl) (net_Net_Len.sound F none H115 _ h) ?_
                                  clear h
                                  rintro v H118 ⟨x117, rfl, h⟩
                                  refine SOps.val (v := pv none) rfl (wantY (c := (x114 == 1)) rfl rfl rfl dc116) (fun _ => by kernel_rfl) ?_
                                  refine SOps.enter rfl (wantY (c := (x114 == 1)) rfl rfl rfl dc116) (fun _ => by kernel_rfl) (net_Net_All.sound F none H118 _ h) ?_
                                  clear h
                                  rintro v H120 ⟨l119, rfl, h⟩
                                  refine SOps.val (v := .int .i64 (l119.len : Int)) rfl (wantY (c := (x114 == 1)) rfl rfl rfl dc116) (fun _ => by kernel_rfl) ?_
                                  refine SOps.val (v := .int .i64 (w64 (x117 + (l119.len : Int)))) rfl (wantY (c := (x114 == 1)) rfl rfl rfl dc116) (fun _ => by kernel_rfl) ?_
                                  refine SOps.val (v := pv none) rfl (wantY (c := (x114 == 1)) rfl rfl rfl dc116) (fun _ => by kernel_rfl) ?_
                                  refine SOps.enter rfl (wantY (c := (x114 == 1)) rfl rfl rfl dc116) (fun _ => by kernel_rfl) (net_Net_Clear.sound F none 0 H120 _ h) ?_
                                  clear h
                                  rintro v H122 ⟨x121, rfl, h⟩
                                  refine SOps.val (v := .int .i64 (w64 ((w64 (x117 + (l119.len : Int))) + x121))) rfl (wantY (c := (x114 == 1)) rfl rfl rfl dc116) (fun _ => by kernel_rfl) ?_
                                  refine SOps.val (v := .bool ((w64 ((w64 (x117 + (l119.len : Int))) + x121)) == 0)) rfl (wantY (c := (x114 == 1)) rfl rfl rfl dc116) (fun _ => by kernel_rfl) ?_
                                  refine SOps.val (v := .bool ((w64 ((w64 (x117 + (l119.len : Int))) + x121)) == 0)) rfl (wantN rfl) (fun w => ev_pickT (v := .bool ((w64 ((w64 (x117 + (l119.len : Int))) + x121)) == 0)) rfl (t := (x114 == 1)) rfl dc116 rfl w) ?_
                                  refine SOps.val (v := .bool ((w64 ((w64 (x117 + (l119.len : Int))) + x121)) == 0)) rfl (wantN rfl) (fun _ => by kernel_rfl) ?_
                                  refine SOps.nil ?_
                                  obtain ⟨Hr, hr, h⟩ := h
                                  exact SW.ret (retQ.mk (.bool ((w64 ((w64 (x117 + (l119.len : Int))) + x121)) == 0)) (res1 rfl rfl) hr ⟨((w64 ((w64 (x117 + (l119.len : Int))) + x121)) == 0), rfl, h⟩)
                                · replace h := h.2 c116
                                  have dc116 : (x114 == 1) = false := (beq_eq_false_iff_ne.mpr c116)
                                  refine SOps.off rfl (wantX (c := (x114 == 1)) rfl rfl rfl dc116) ?_
                                  refine SOps.off rfl (wantX (c := (x114 == 1)) rfl rfl rfl dc116) ?_
                                  refine SOps.off rfl (wantX (c := (x114 == 1)) rfl rfl rfl dc116) ?_
                                  refine SOps.off rfl (wantX (c := (x114 == 1)) rfl rfl rfl dc116) ?_
                                  refine SOps.off rfl (wantX (c := (x114 == 1)) rfl rfl rfl dc116) ?_
                                  refine SOps.off rfl (wantX (c := (x114 == 1)) rfl rfl rfl dc116) ?_
                                  refine SOps.off rfl (wantX (c := (x114 == 1)) rfl rfl rfl dc116) ?_
                                  refine SOps.off rfl (wantX (c := (x114 == 1)) rfl rfl rfl dc116) ?_
                                  refine SOps.off rfl (wantX (c := (x114 == 1)) rfl rfl rfl dc116) ?_
                                  refine SOps.off rfl (wantX (c := (x114 == 1)) rfl rfl rfl dc116) ?_
                                  refine SOps.val (v := .bool false) rfl (wantN rfl) (fun w => ev_pickF (v := .bool false) rfl (t := (x114 == 1)) rfl dc116 rfl w) ?_
                                  refine SOps.val (v := .bool false) rfl (wantN rfl) (fun _ => by kernel_rfl) ?_
                                  refine SOps.nil ?_
                                  obtain ⟨Hr, hr, h⟩ := h
                                  exact SW.ret (retQ.mk (.bool false) (res1 rfl rfl) hr ⟨false, rfl, h⟩)
                              · replace h := h.2 c111
                                have dc111 : (x109 == 1) = false := (beq_eq_false_iff_ne.mpr c111)
                                refine SOps.off rfl (wantX (c := (x109 == 1)) rfl rfl rfl dc111) ?_
                                refine SOps.off rfl (wantX (c := (x109 == 1)) rfl rfl rfl dc111) ?_
                                refine SOps.off rfl (wantX (c := (x109 == 1)) rfl rfl rfl dc111) ?_
                                refine SOps.off rfl (wantX (c := (x109 == 1)) rfl rfl rfl dc111) ?_
                                refine SOps.off rfl (wantX (c := (x109 == 1)) rfl rfl rfl dc111) ?_
                                refine SOps.val (v := .bool false) rfl (wantN rfl) (fun w => ev_pickF (v := .bool false) rfl (t := (x109 == 1)) rfl dc111 rfl w) ?_
                                refine SOps.val (v := .bool false) rfl (wantN rfl) (fun _ => by kernel_rfl) ?_
                                refine SOps.off rfl (wantX (c := false) rfl rfl rfl rfl) ?_
                                refine SOps.off rfl (wantX (c := false) rfl rfl rfl rfl) ?_
                                refine SOps.off rfl (wantX (c := false) rfl rfl rfl rfl) ?_
                                refine SOps.off rfl (wantX (c := false) rfl rfl rfl rfl) ?_
                                refine SOps.off rfl (wantX (c := false) rfl rfl rfl rfl) ?_
                                refine SOps.off rfl (wantX (c := false) rfl rfl rfl rfl) ?_
                                refine SOps.off rfl (wantX (c := false) rfl rfl rfl rfl) ?_
                                refine SOps.off rfl (wantX (c := false) rfl rfl rfl rfl) ?_
                                refine SOps.off rfl (wantX (c := false) rfl rfl rfl rfl) ?_
                                refine SOps.off rfl (wantX (c := false) rfl rfl rfl rfl) ?_
                                refine SOps.val (v := .bool false) rfl (wantN rfl) (fun w => ev_pickF (v := .bool false) rfl (t := false) rfl rfl rfl w) ?_
                                refine SOps.val (v := .bool false) rfl (wantN rfl) (fun _ => by kernel_rfl) ?_
                                refine SOps.nil ?_
                                obtain ⟨Hr, hr, h⟩ := h
                                exact SW.ret (retQ.mk (.bool false) (res1 rfl rfl) hr ⟨false, rfl, h⟩)
                            · replace h := h.2 c106
                              have dc106 : (x104 == 1) = false := (beq_eq_false_iff_ne.mpr c106)
                              refine SOps.off rfl (wantX (c := (x104 == 1)) rfl rfl rfl dc106) ?_
                              refine SOps.off rfl (wantX (c := (x104 == 1)) rfl rfl rfl dc106) ?_
                              refine SOps.off rfl (wantX (c := (x104 == 1)) rfl rfl rfl dc106) ?_
                              refine SOps.off rfl (wantX (c := (x104 == 1)) rfl rfl rfl dc106) ?_
                              refine SOps.off rfl (wantX (c := (x104 == 1)) rfl rfl rfl dc106) ?_
                              refine SOps.val (v := .bool false) rfl (wantN rfl) (fun w => ev_pickF (v := .bool false) rfl (t := (x104 == 1)) rfl dc106 rfl w) ?_
                              refine SOps.val (v := .bool false) rfl (wantN rfl) (fun _ => by kernel_rfl) ?_
                              refine SOps.off rfl (wantX (c := false) rfl rfl rfl rfl) ?_
                              refine SOps.off rfl (wantX (c := false) rfl rfl rfl rfl) ?_
                              refine SOps.off rfl (wantX (c := false) rfl rfl rfl rfl) ?_
                              refine SOps.off rfl (wantX (c := false) rfl rfl rfl rfl) ?_
                              refine SOps.off rfl (wantX (c := false) rfl rfl rfl rfl) ?_
                              refine SOps.val (v := .bool false) rfl (wantN rfl) (fun w => ev_pickF (v := .bool false) rfl (t := false) rfl rfl rfl w) ?_
                              refine SOps.val (v := .bool false) rfl (wantN rfl) (fun _ => by kernel_rfl) ?_
                              refine SOps.off rfl (wantX (c := false) rfl rfl rfl rfl) ?_
                              refine SOps.off rfl (wantX (c := false) rfl rfl rfl rfl) ?_
                              refine SOps.off rfl (wantX (c := false) rfl rfl rfl rfl) ?_
                              refine SOps.off rfl (wantX (c := false) rfl rfl rfl rfl) ?_
                              refine SOps.off rfl (wantX (c := false) rfl rfl rfl rfl) ?_
                              refine SOps.off rfl (wantX (c := false) rfl rfl rfl rfl) ?_
                              refine SOps.off rfl (wantX (c := false) rfl rfl rfl rfl) ?_
                              refine SOps.off rfl (wantX (c := false) rfl rfl rfl rfl) ?_
                              refine SOps.off rfl (wantX (c := false) rfl rfl rfl rfl) ?_
                              refine SOps.off rfl (wantX (c := false) rfl rfl rfl rfl) ?_
                              refine SOps.val (v := .bool false) rfl (wantN rfl) (fun w => ev_pickF (v := .bool false) rfl (t := false) rfl rfl rfl w) ?_
                              refine SOps.val (v := .bool false) rfl (wantN rfl) (fun _ => by kernel_rfl) ?_
                              refine SOps.nil ?_
                              obtain ⟨Hr, hr, h⟩ := h
                              exact SW.ret (retQ.mk (.bool false) (res1 rfl rfl) hr ⟨false, rfl, h⟩)
                          · replace h := h.2 c101
                            have dc101 : (x99 == 1) = false := (beq_eq_false_iff_ne.mpr c101)
                            refine SOps.off rfl (wantX (c := (x99 == 1)) rfl rfl rfl dc101) ?_
                            refine SOps.off rfl (wantX (c := (x99 == 1)) rfl rfl rfl dc101) ?_
                            refine SOps.off rfl (wantX (c := (x99 == 1)) rfl rfl rfl dc101) ?_
                            refine SOps.off rfl (wantX (c := (x99 == 1)) rfl rfl rfl dc101) ?_
                            refine SOps.off rfl (wantX (c := (x99 == 1)) rfl rfl rfl dc101) ?_
                            refine SOps.val (v := .bool false) rfl (wantN rfl) (fun w => ev_pickF (v := .bool false) rfl (t := (x99 == 1)) rfl dc101 rfl w) ?_
                            refine SOps.val (v := .bool false) rfl (wantN rfl) (fun _ => by kernel_rfl) ?_
                            refine SOps.off rfl (wantX (c := false) rfl rfl rfl rfl) ?_
                            refine SOps.off rfl (wantX (c := false) rfl rfl rfl rfl) ?_
                            refine SOps.off rfl (wantX (c := false) rfl rfl rfl rfl) ?_
                            refine SOps.off rfl (wantX (c := false) rfl rfl rfl rfl) ?_
                            refine SOps.off rfl (wantX (c := false) rfl rfl rfl rfl) ?_
                            refine SOps.val (v := .bool false) rfl (wantN rfl) (fun w => ev_pickF (v := .bool false) rfl (t := false) rfl rfl rfl w) ?_
                            refine SOps.val (v := .bool false) rfl (wantN rfl) (fun _ => by kernel_rfl) ?_
                            refine SOps.off rfl (wantX (c := false) rfl rfl rfl rfl) ?_
                            refine SOps.off rfl (wantX (c := false) rfl rfl rfl rfl) ?_
                            refine SOps.off rfl (wantX (c := false) rfl rfl rfl rfl) ?_
                            refine SOps.off rfl (wantX (c := false) rfl rfl rfl rfl) ?_
                            refine SOps.off rfl (wantX (c := false) rfl rfl rfl rfl) ?_
                            refine SOps.val (v := .bool false) rfl (wantN rfl) (fun w => ev_pickF (v := .bool false) rfl (t := false) rfl rfl rfl w) ?_
                            refine SOps.val (v := .bool false) rfl (wantN rfl) (fun _ => by kernel_rfl) ?_
                            refine SOps.off rfl (wantX (c := false) rfl rfl rfl rfl) ?_
                            refine SOps.off rfl (wantX (c := false) rfl rfl rfl rfl) ?_
                            refine SOps.off rfl (wantX (c := false) rfl rfl rfl rfl) ?_
                            refine SOps.off rfl (wantX (c := false) rfl rfl rfl rfl) ?_
                            refine SOps.off rfl (wantX (c := false) rfl rfl rfl rfl) ?_
                            refine SOps.off rfl (wantX (c := false) rfl rfl rfl rfl) ?_
                            refine SOps.off rfl (wantX (c := false) rfl rfl rfl rfl) ?_
                            refine SOps.off rfl (wantX (c := false) rfl rfl rfl rfl) ?_
                            refine SOps.off rfl (wantX (c := false) rfl rfl rfl rfl) ?_
                            refine SOps.off rfl (wantX (c := false) rfl rfl rfl rfl) ?_
                            refine SOps.val (v := .bool false) rfl (wantN rfl) (fun w => ev_pickF (v := .bool false) rfl (t := false) rfl rfl rfl w) ?_
                            refine SOps.val (v := .bool false) rfl (wantN rfl) (fun _ => by kernel_rfl) ?_
                            refine SOps.nil ?_
                            obtain ⟨Hr, hr, h⟩ := h
                            exact SW.ret (retQ.mk (.bool false) (res1 rfl rfl) hr ⟨false, rfl, h⟩)
                        · replace h := h.2 c96
                          have dc96 : (x94 == 1) = false := (beq_eq_false_iff_ne.mpr c96)
                          refine SOps.off rfl (wantX (c := (x94 == 1)) rfl rfl rfl dc96) ?_
                          refine SOps.off rfl (wantX (c := (x94 == 1)) rfl rfl rfl dc96) ?_
                          refine SOps.off rfl (wantX (c := (x94 == 1)) rfl rfl rfl dc96) ?_
                          refine SOps.off rfl (wantX (c := (x94 == 1)) rfl rfl rfl dc96) ?_
                          refine SOps.off rfl (wantX (c := (x94 == 1)) rfl rfl rfl dc96) ?_
                          refine SOps.val (v := .bool false) rfl (wantN rfl) (fun w => ev_pickF (v := .bool false) rfl (t := (x94 == 1)) rfl dc96 rfl w) ?_
                          refine SOps.val (v := .bool false) rfl (wantN rfl) (fun _ => by kernel_rfl) ?_
                          refine SOps.off rfl (wantX (c := false) rfl rfl rfl rfl) ?_
                          refine SOps.off rfl (wantX (c := false) rfl rfl rfl rfl) ?_
                          refine SOps.off rfl (wantX (c := false) rfl rfl rfl rfl) ?_
                          refine SOps.off rfl (wantX (c := false) rfl rfl rfl rfl) ?_
                          refine SOps.off rfl (wantX (c := false) rfl rfl rfl rfl) ?_
                          refine SOps.val (v := .bool false) rfl (wantN rfl) (fun w => ev_pickF (v := .bool false) rfl (t := false) rfl rfl rfl w) ?_
                          refine SOps.val (v := .bool false) rfl (wantN rfl) (fun _ => by kernel_rfl) ?_
                          refine SOps.off rfl (wantX (c := false) rfl rfl rfl rfl) ?_
                          refine SOps.off rfl (wantX (c := false) rfl rfl rfl rfl) ?_
                          refine SOps.off rfl (wantX (c := false) rfl rfl rfl rfl) ?_
                          refine SOps.off rfl (wantX (c := false) rfl rfl rfl rfl) ?_
                          refine SOps.off rfl (wantX (c := false) rfl rfl rfl rfl) ?_
                          refine SOps.val (v := .bool false) rfl (wantN rfl) (fun w => ev_pickF (v := .bool false) rfl (t := false) rfl rfl rfl w) ?_
                          refine SOps.val (v := .bool false) rfl (wantN rfl) (fun _ => by kernel_rfl) ?_
                          refine SOps.off rfl (wantX (c := false) rfl rfl rfl rfl) ?_
                          refine SOps.off rfl (wantX (c := false) rfl rfl rfl rfl) ?_
                          refine SOps.off rfl (wantX (c := false) rfl rfl rfl rfl) ?_
                          refine SOps.off rfl (wantX (c := false) rfl rfl rfl rfl) ?_
                          refine SOps.off rfl (wantX (c := false) rfl rfl rfl rfl) ?_
                          refine SOps.val (v := .bool false) rfl (wantN rfl) (fun w => ev_pickF (v := .bool false) rfl (t := false) rfl rfl rfl w) ?_
                          refine SOps.val (v := .bool false) rfl (wantN rfl) (fun _ => by kernel_rfl) ?_
                          refine SOps.off rfl (wantX (c := false) rfl rfl rfl rfl) ?_
                          refine SOps.off rfl (wantX (c := false) rfl rfl rfl rfl) ?_
                          refine SOps.off rfl (wantX (c := false) rfl rfl rfl rfl) ?_
                          refine SOps.off rfl (wantX (c := false) rfl rfl rfl rfl) ?_
                          refine SOps.off rfl (wantX (c := false) rfl rfl rfl rfl) ?_
                          refine SOps.off rfl (wantX (c := false) rfl rfl rfl rfl) ?_
                          refine SOps.off rfl (wantX (c := false) rfl rfl rfl rfl) ?_
                          refine SOps.off rfl (wantX (c := false) rfl rfl rfl rfl) ?_
                          refine SOps.off rfl (wantX (c := false) rfl rfl rfl rfl) ?_
                          refine SOps.off rfl (wantX (c := false) rfl rfl rfl rfl) ?_
                          refine SOps.val (v := .bool false) rfl (wantN rfl) (fun w => ev_pickF (v := .bool false) rfl (t := false) rfl rfl rfl w) ?_
                          refine SOps.val (v := .bool false) rfl (wantN rfl) (fun _ => by kernel_rfl) ?_
                          refine SOps.nil ?_
                          obtain ⟨Hr, hr, h⟩ := h
                          exact SW.ret (retQ.mk (.bool false) (res1 rfl rfl) hr ⟨false, rfl, h⟩)
                      · replace h := h.2 c91
                        have dc91 : (x89 == 1) = false := (beq_eq_false_iff_ne.mpr c91)
                        refine SOps.off rfl (wantX (c := (x89 == 1)) rfl rfl rfl dc91) ?_
                        refine SOps.off rfl (wantX (c := (x89 == 1)) rfl rfl rfl dc91) ?_
                        refine SOps.off rfl (wantX (c := (x89 == 1)) rfl rfl rfl dc91) ?_
                        refine SOps.off rfl (wantX (c := (x89 == 1)) rfl rfl rfl dc91) ?_
                        refine SOps.off rfl (wantX (c := (x89 == 1)) rfl rfl rfl dc91) ?_
                        refine SOps.off rfl (wantX (c := (x89 == 1)) rfl rfl rfl dc91) ?_
                        refine SOps.val (v := .bool false) rfl (wantN rfl) (fun w => ev_pickF (v := .bool false) rfl (t := (x89 == 1)) rfl dc91 rfl w) ?_
                        refine SOps.val (v := .bool false) rfl (wantN rfl) (fun _ => by kernel_rfl) ?_
                        refine SOps.off rfl (wantX (c := false) rfl rfl rfl rfl) ?_
                        refine SOps.off rfl (wantX (c := false) rfl rfl rfl rfl) ?_
                        refine SOps.off rfl (wantX (c := false) rfl rfl rfl rfl) ?_
                        refine SOps.off rfl (wantX (c := false) rfl rfl rfl rfl) ?_
                        refine SOps.off rfl (wantX (c := false) rfl rfl rfl rfl) ?_
                        refine SOps.val (v := .bool false) rfl (wantN rfl) (fun w => ev_pickF (v := .bool false) rfl (t := false) rfl rfl rfl w) ?_
                        refine SOps.val (v := .bool false) rfl (wantN rfl) (fun _ => by kernel_rfl) ?_
                        refine SOps.off rfl (wantX (c := false) rfl rfl rfl rfl) ?_
                        refine SOps.off rfl (wantX (c := false) rfl rfl rfl rfl) ?_
                        refine SOps.off rfl (wantX (c := false) rfl rfl rfl rfl) ?_
                        refine SOps.off rfl (wantX (c := false) rfl rfl rfl rfl) ?_
                        refine SOps.off rfl (wantX (c := false) rfl rfl rfl rfl) ?_
                        refine SOps.val (v := .bool false) rfl (wantN rfl) (fun w => ev_pickF (v := .bool false) rfl (t := false) rfl rfl rfl w) ?_
                        refine SOps.val (v := .bool false) rfl (wantN rfl) (fun _ => by kernel_rfl) ?_
                        refine SOps.off rfl (wantX (c := false) rfl rfl rfl rfl) ?_
                        refine SOps.off rfl (wantX (c := false) rfl rfl rfl rfl) ?_
                        refine SOps.off rfl (wantX (c := false) rfl rfl rfl rfl) ?_
                        refine SOps.off rfl (wantX (c := false) rfl rfl rfl rfl) ?_
                        refine SOps.off rfl (wantX (c := false) rfl rfl rfl rfl) ?_
                        refine SOps.val (v := .bool false) rfl (wantN rfl) (fun w => ev_pickF (v := .bool false) rfl (t := false) rfl rfl rfl w) ?_
                        refine SOps.val (v := .bool false) rfl (wantN rfl) (fun _ => by kernel_rfl) ?_
                        refine SOps.off rfl (wantX (c := false) rfl rfl rfl rfl) ?_
                        refine SOps.off rfl (wantX (c := false) rfl rfl rfl rfl) ?_
                        refine SOps.off rfl (wantX (c := false) rfl rfl rfl rfl) ?_
                        refine SOps.off rfl (wantX (c := false) rfl rfl rfl rfl) ?_
                        refine SOps.off rfl (wantX (c := false) rfl rfl rfl rfl) ?_
                        refine SOps.val (v := .bool false) rfl (wantN rfl) (fun w => ev_pickF (v := .bool false) rfl (t := false) rfl rfl rfl w) ?_
                        refine SOps.val (v := .bool false) rfl (wantN rfl) (fun _ => by kernel_rfl) ?_
                        refine SOps.off rfl (wantX (c := false) rfl rfl rfl rfl) ?_
                        refine SOps.off rfl (wantX (c := false) rfl rfl rfl rfl) ?_
                        refine SOps.off rfl (wantX (c := false) rfl rfl rfl rfl) ?_
                        refine SOps.off rfl (wantX (c := false) rfl rfl rfl rfl) ?_
                        refine SOps.off rfl (wantX (c := false) rfl rfl rfl rfl) ?_
                        refine SOps.off rfl (wantX (c := false) rfl rfl rfl rfl) ?_
                        refine SOps.off rfl (wantX (c := false) rfl rfl rfl rfl) ?_
                        refine SOps.off rfl (wantX (c := false) rfl rfl rfl rfl) ?_
                        refine SOps.off rfl (wantX (c := false) rfl rfl rfl rfl) ?_
                        refine SOps.off rfl (wantX (c := false) rfl rfl rfl rfl) ?_
                        refine SOps.val (v := .bool false) rfl (wantN rfl) (fun w => ev_pickF (v := .bool false) rfl (t := false) rfl rfl rfl w) ?_
                        refine SOps.val (v := .bool false) rfl (wantN rfl) (fun _ => by kernel_rfl) ?_
                        refine SOps.nil ?_
                        obtain ⟨Hr, hr, h⟩ := h
                        exact SW.ret (retQ.mk (.bool false) (res1 rfl rfl) hr ⟨false, rfl, h⟩)
                    · replace h := h.2 c88
                      have dc88 : (x86 == 1) = false := (beq_eq_false_iff_ne.mpr c88)
                      refine SOps.off rfl (wantX (c := (x86 == 1)) rfl rfl rfl dc88) ?_
                      refine SOps.off rfl (wantX (c := (x86 == 1)) rfl rfl rfl dc88) ?_
                      refine SOps.off rfl (wantX (c := (x86 == 1)) rfl rfl rfl dc88) ?_
                      refine SOps.off rfl (wantX (c := (x86 == 1)) rfl rfl rfl dc88) ?_
                      refine SOps.val (v := .bool false) rfl (wantN rfl) (fun w => ev_pickF (v := .bool false) rfl (t := (x86 == 1)) rfl dc88 rfl w) ?_
                      refine SOps.val (v := .bool false) rfl (wantN rfl) (fun _ => by kernel_rfl) ?_
                      refine SOps.off rfl (wantX (c := false) rfl rfl rfl rfl) ?_
                      refine SOps.off rfl (wantX (c := false) rfl rfl rfl rfl) ?_
                      refine SOps.off rfl (wantX (c := false) rfl rfl rfl rfl) ?_
                      refine SOps.off rfl (wantX (c := false) rfl rfl rfl rfl) ?_
                      refine SOps.off rfl (wantX (c := false) rfl rfl rfl rfl) ?_
                      refine SOps.off rfl (wantX (c := false) rfl rfl rfl rfl) ?_
                      refine SOps.val (v := .bool false) rfl (wantN rfl) (fun w => ev_pickF (v := .bool false) rfl (t := false) rfl rfl rfl w) ?_
                      refine SOps.val (v := .bool false) rfl (wantN rfl) (fun _ => by kernel_rfl) ?_
                      refine SOps.off rfl (wantX (c := false) rfl rfl rfl rfl) ?_
                      refine SOps.off rfl (wantX (c := false) rfl rfl rfl rfl) ?_
                      refine SOps.off rfl (wantX (c := false) rfl rfl rfl rfl) ?_
                      refine SOps.off rfl (wantX (c := false) rfl rfl rfl rfl) ?_
                      refine SOps.off rfl (wantX (c := false) rfl rfl rfl rfl) ?_
                      refine SOps.val (v := .bool false) rfl (wantN rfl) (fun w => ev_pickF (v := .bool false) rfl (t := false) rfl rfl rfl w) ?_
                      refine SOps.val (v := .bool false) rfl (wantN rfl) (fun _ => by kernel_rfl) ?_
                      refine SOps.off rfl (wantX (c := false) rfl rfl rfl rfl) ?_
                      refine SOps.off rfl (wantX (c := false) rfl rfl rfl rfl) ?_
                      refine SOps.off rfl (wantX (c := false) rfl rfl rfl rfl) ?_
                      refine SOps.off rfl (wantX (c := false) rfl rfl rfl rfl) ?_
                      refine SOps.off rfl (wantX (c := false) rfl rfl rfl rfl) ?_
                      refine SOps.val (v := .bool false) rfl (wantN rfl) (fun w => ev_pickF (v := .bool false) rfl (t := false) rfl rfl rfl w) ?_
                      refine SOps.val (v := .bool false) rfl (wantN rfl) (fun _ => by kernel_rfl) ?_
                      refine SOps.off rfl (wantX (c := false) rfl rfl rfl rfl) ?_
                      refine SOps.off rfl (wantX (c := false) rfl rfl rfl rfl) ?_
                      refine SOps.off rfl (wantX (c := false) rfl rfl rfl rfl) ?_
                      refine SOps.off rfl (wantX (c := false) rfl rfl rfl rfl) ?_
                      refine SOps.off rfl (wantX (c := false) rfl rfl rfl rfl) ?_
                      refine SOps.val (v := .bool false) rfl (wantN rfl) (fun w => ev_pickF (v := .bool false) rfl (t := false) rfl rfl rfl w) ?_
                      refine SOps.val (v := .bool false) rfl (wantN rfl) (fun _ => by kernel_rfl) ?_
                      refine SOps.off rfl (wantX (c := false) rfl rfl rfl rfl) ?_
                      refine SOps.off rfl (wantX (c := false) rfl rfl rfl rfl) ?_
                      refine SOps.off rfl (wantX (c := false) rfl rfl rfl rfl) ?_
                      refine SOps.off rfl (wantX (c := false) rfl rfl rfl rfl) ?_
                      refine SOps.off rfl (wantX (c := false) rfl rfl rfl rfl) ?_
                      refine SOps.val (v := .bool false) rfl (wantN rfl) (fun w => ev_pickF (v := .bool false) rfl (t := false) rfl rfl rfl w) ?_
                      refine SOps.val (v := .bool false) rfl (wantN rfl) (fun _ => by kernel_rfl) ?_
                      refine SOps.off rfl (wantX (c := false) rfl rfl rfl rfl) ?_
                      refine SOps.off rfl (wantX (c := false) rfl rfl rfl rfl) ?_
                      refine SOps.off rfl (wantX (c := false) rfl rfl rfl rfl) ?_
                      refine SOps.off rfl (wantX (c := false) rfl rfl rfl rfl) ?_
                      refine SOps.off rfl (wantX (c := false) rfl rfl rfl rfl) ?_
                      refine SOps.off rfl (wantX (c := false) rfl rfl rfl rfl) ?_
                      refine SOps.off rfl (wantX (c := false) rfl rfl rfl rfl) ?_
                      refine SOps.off rfl (wantX (c := false) rfl rfl rfl rfl) ?_
                      refine SOps.off rfl (wantX (c := false) rfl rfl rfl rfl) ?_
                      refine SOps.off rfl (wantX (c := false) rfl rfl rfl rfl) ?_
                      refine SOps.val (v := .bool false) rfl (wantN rfl) (fun w => ev_pickF (v := .bool false) rfl (t := false) rfl rfl rfl w) ?_
                      refine SOps.val (v := .bool false) rfl (wantN rfl) (fun _ => by kernel_rfl) ?_
                      refine SOps.nil ?_
                      obtain ⟨Hr, hr, h⟩ := h
                      exact SW.ret (retQ.mk (.bool false) (res1 rfl rfl) hr ⟨false, rfl, h⟩)
                  · replace h := h.2 c85
                    have dc85 : (x83 == (imin x29 300)) = false := (beq_eq_false_iff_ne.mpr c85)
                    refine SOps.off rfl (wantX (c := (x83 == (imin x29 300))) rfl rfl rfl dc85) ?_
                    refine SOps.off rfl (wantX (c := (x83 == (imin x29 300))) rfl rfl rfl dc85) ?_
                    refine SOps.off rfl (wantX (c := (x83 == (imin x29 300))) rfl rfl rfl dc85) ?_
                    refine SOps.off rfl (wantX (c := (x83 == (imin x29 300))) rfl rfl rfl dc85) ?_
                    refine SOps.val (v := .bool false) rfl (wantN rfl) (fun w => ev_pickF (v := .bool false) rfl (t := (x83 == (imin x29 300))) rfl dc85 rfl w) ?_
                    refine SOps.val (v := .bool false) rfl (wantN rfl) (fun _ => by kernel_rfl) ?_
                    refine SOps.off rfl (wantX (c := false) rfl rfl rfl rfl) ?_
                    refine SOps.off rfl (wantX (c := false) rfl rfl rfl rfl) ?_
                    refine SOps.off rfl (wantX (c := false) rfl rfl rfl rfl) ?_
                    refine SOps.off rfl (wantX (c := false) rfl rfl rfl rfl) ?_
                    refine SOps.val (v := .bool false) rfl (wantN rfl) (fun w => ev_pickF (v := .bool false) rfl (t := false) rfl rfl rfl w) ?_
                    refine SOps.val (v := .bool false) rfl (wantN rfl) (fun _ => by kernel_rfl) ?_
                    refine SOps.off rfl (wantX (c := false) rfl rfl rfl rfl) ?_
                    refine SOps.off rfl (wantX (c := false) rfl rfl rfl rfl) ?_
                    refine SOps.off rfl (wantX (c := false) rfl rfl rfl rfl) ?_
                    refine SOps.off rfl (wantX (c := false) rfl rfl rfl rfl) ?_
                    refine SOps.off rfl (wantX (c := false) rfl rfl rfl rfl) ?_
                    refine SOps.off rfl (wantX (c := false) rfl rfl rfl rfl) ?_
                    refine SOps.val (v := .bool false) rfl (wantN rfl) (fun w => ev_pickF (v := .bool false) rfl (t := false) rfl rfl rfl w) ?_
                    refine SOps.val (v := .bool false) rfl (wantN rfl) (fun _ => by kernel_rfl) ?_
                    refine SOps.off rfl (wantX (c := false) rfl rfl rfl rfl) ?_
                    refine SOps.off rfl (wantX (c := false) rfl rfl rfl rfl) ?_
                    refine SOps.off rfl (wantX (c := false) rfl rfl rfl rfl) ?_
                    refine SOps.off rfl (wantX (c := false) rfl rfl rfl rfl) ?_
                    refine SOps.off rfl (wantX (c := false) rfl rfl rfl rfl) ?_
                    refine SOps.val (v := .bool false) rfl (wantN rfl) (fun w => ev_pickF (v := .bool false) rfl (t := false) rfl rfl rfl w) ?_
                    refine SOps.val (v := .bool false) rfl (wantN rfl) (fun _ => by kernel_rfl) ?_
                    refine SOps.off rfl (wantX (c := false) rfl rfl rfl rfl) ?_
                    refine SOps.off rfl (wantX (c := false) rfl rfl rfl rfl) ?_
                    refine SOps.off rfl (wantX (c := false) rfl rfl rfl rfl) ?_
                    refine SOps.off rfl (wantX (c := false) rfl rfl rfl rfl) ?_
                    refine SOps.off rfl (wantX (c := false) rfl rfl rfl rfl) ?_
                    refine SOps.val (v := .bool false) rfl (wantN rfl) (fun w => ev_pickF (v := .bool false) rfl (t := false) rfl rfl rfl w) ?_
                    refine SOps.val (v := .bool false) rfl (wantN rfl) (fun _ => by kernel_rfl) ?_
                    refine SOps.off rfl (wantX (c := false) rfl rfl rfl rfl) ?_
                    refine SOps.off rfl (wantX (c := false) rfl rfl rfl rfl) ?_
                    refine SOps.off rfl (wantX (c := false) rfl rfl rfl rfl) ?_
                    refine SOps.off rfl (wantX (c := false) rfl rfl rfl rfl) ?_
                    refine SOps.off rfl (wantX (c := false) rfl rfl rfl rfl) ?_
                    refine SOps.val (v := .bool false) rfl (wantN rfl) (fun w => ev_pickF (v := .bool false) rfl (t := false) rfl rfl rfl w) ?_
                    refine SOps.val (v := .bool false) rfl (wantN rfl) (fun _ => by kernel_rfl) ?_
                    refine SOps.off rfl (wantX (c := false) rfl rfl rfl rfl) ?_
                    refine SOps.off rfl (wantX (c := false) rfl rfl rfl rfl) ?_
                    refine SOps.off rfl (wantX (c := false) rfl rfl rfl rfl) ?_
                    refine SOps.off rfl (wantX (c := false) rfl rfl rfl rfl) ?_
                    refine SOps.off rfl (wantX (c := false) rfl rfl rfl rfl) ?_
                    refine SOps.val (v := .bool false) rfl (wantN rfl) (fun w => ev_pickF (v := .bool false) rfl (t := false) rfl rfl rfl w) ?_
                    refine SOps.val (v := .bool false) rfl (wantN rfl) (fun _ => by kernel_rfl) ?_
                    refine SOps.off rfl (wantX (c := false) rfl rfl rfl rfl) ?_
                    refine SOps.off rfl (wantX (c := false) rfl rfl rfl rfl) ?_
                    refine SOps.off rfl (wantX (c := false) rfl rfl rfl rfl) ?_
                    refine SOps.off rfl (wantX (c := false) rfl rfl rfl rfl) ?_
                    refine SOps.off rfl (wantX (c := false) rfl rfl rfl rfl) ?_
                    refine SOps.off rfl (wantX (c := false) rfl rfl rfl rfl) ?_
                    refine SOps.off rfl (wantX (c := false) rfl rfl rfl rfl) ?_
                    refine SOps.off rfl (wantX (c := false) rfl rfl rfl rfl) ?_
                    refine SOps.off rfl (wantX (c := false) rfl rfl rfl rfl) ?_
                    refine SOps.off rfl (wantX (c := false) rfl rfl rfl rfl) ?_
                    refine SOps.val (v := .bool false) rfl (wantN rfl) (fun w => ev_pickF (v := .bool false) rfl (t := false) rfl rfl rfl w) ?_
                    refine SOps.val (v := .bool false) rfl (wantN rfl) (fun _ => by kernel_rfl) ?_
                    refine SOps.nil ?_
                    obtain ⟨Hr, hr, h⟩ := h
                    exact SW.ret (retQ.mk (.bool false) (res1 rfl rfl) hr ⟨false, rfl, h⟩)
                · replace h := h.2 c82
                  have dc82 : (x80 == 6) = false := (beq_eq_false_iff_ne.mpr c82)
                  refine SOps.off rfl (wantX (c := (x80 == 6)) rfl rfl rfl dc82) ?_
                  refine SOps.off rfl (wantX (c := (x80 == 6)) rfl rfl rfl dc82) ?_
                  refine SOps.off rfl (wantX (c := (x80 == 6)) rfl rfl rfl dc82) ?_
                  refine SOps.off rfl (wantX (c := (x80 == 6)) rfl rfl rfl dc82) ?_
                  refine SOps.off rfl (wantX (c := (x80 == 6)) rfl rfl rfl dc82) ?_
                  refine SOps.val (v := .bool false) rfl (wantN rfl) (fun w => ev_pickF (v := .bool false) rfl (t := (x80 == 6)) rfl dc82 rfl w) ?_
                  refine SOps.val (v := .bool false) rfl (wantN rfl) (fun _ => by kernel_rfl) ?_
                  refine SOps.off rfl (wantX (c := false) rfl rfl rfl rfl) ?_
                  refine SOps.off rfl (wantX (c := false) rfl rfl rfl rfl) ?_
                  refine SOps.off rfl (wantX (c := false) rfl rfl rfl rfl) ?_
                  refine SOps.off rfl (wantX (c := false) rfl rfl rfl rfl) ?_
                  refine SOps.val (v := .bool false) rfl (wantN rfl) (fun w => ev_pickF (v := .bool false) rfl (t := false) rfl rfl rfl w) ?_
                  refine SOps.val (v := .bool false) rfl (wantN rfl) (fun _ => by kernel_rfl) ?_
                  refine SOps.off rfl (wantX (c := false) rfl rfl rfl rfl) ?_
                  refine SOps.off rfl (wantX (c := false) rfl rfl rfl rfl) ?_
                  refine SOps.off rfl (wantX (c := false) rfl rfl rfl rfl) ?_
                  refine SOps.off rfl (wantX (c := false) rfl rfl rfl rfl) ?_
                  refine SOps.val (v := .bool false) rfl (wantN rfl) (fun w => ev_pickF (v := .bool false) rfl (t := false) rfl rfl rfl w) ?_
                  refine SOps.val (v := .bool false) rfl (wantN rfl) (fun _ => by kernel_rfl) ?_
                  refine SOps.off rfl (wantX (c := false) rfl rfl rfl rfl) ?_
                  refine SOps.off rfl (wantX (c := false) rfl rfl rfl rfl) ?_
                  refine SOps.off rfl (wantX (c := false) rfl rfl rfl rfl) ?_
                  refine SOps.off rfl (wantX (c := false) rfl rfl rfl rfl) ?_
                  refine SOps.off rfl (wantX (c := false) rfl rfl rfl rfl) ?_
                  refine SOps.off rfl (wantX (c := false) rfl rfl rfl rfl) ?_
                  refine SOps.val (v := .bool false) rfl (wantN rfl) (fun w => ev_pickF (v := .bool false) rfl (t := false) rfl rfl rfl w) ?_
                  refine SOps.val (v := .bool false) rfl (wantN rfl) (fun _ => by kernel_rfl) ?_
                  refine SOps.off rfl (wantX (c := false) rfl rfl rfl rfl) ?_
                  refine SOps.off rfl (wantX (c := false) rfl rfl rfl rfl) ?_
                  refine SOps.off rfl (wantX (c := false) rfl rfl rfl rfl) ?_
                  refine SOps.off rfl (wantX (c := false) rfl rfl rfl rfl) ?_
                  refine SOps.off rfl (wantX (c := false) rfl rfl rfl rfl) ?_
                  refine SOps.val (v := .bool false) rfl (wantN rfl) (fun w => ev_pickF (v := .bool false) rfl (t := false) rfl rfl rfl w) ?_
                  refine SOps.val (v := .bool false) rfl (wantN rfl) (fun _ => by kernel_rfl) ?_
                  refine SOps.off rfl (wantX (c := false) rfl rfl rfl rfl) ?_
                  refine SOps.off rfl (wantX (c := false) rfl rfl rfl rfl) ?_
                  refine SOps.off rfl (wantX (c := false) rfl rfl rfl rfl) ?_
                  refine SOps.off rfl (wantX (c := false) rfl rfl rfl rfl) ?_
                  refine SOps.off rfl (wantX (c := false) rfl rfl rfl rfl) ?_
                  refine SOps.val (v := .bool false) rfl (wantN rfl) (fun w => ev_pickF (v := .bool false) rfl (t := false) rfl rfl rfl w) ?_
                  refine SOps.val (v := .bool false) rfl (wantN rfl) (fun _ => by kernel_rfl) ?_
                  refine SOps.off rfl (wantX (c := false) rfl rfl rfl rfl) ?_
                  refine SOps.off rfl (wantX (c := false) rfl rfl rfl rfl) ?_
                  refine SOps.off rfl (wantX (c := false) rfl rfl rfl rfl) ?_
                  refine SOps.off rfl (wantX (c := false) rfl rfl rfl rfl) ?_
                  refine SOps.off rfl (wantX (c := false) rfl rfl rfl rfl) ?_
                  refine SOps.val (v := .bool false) rfl (wantN rfl) (fun w => ev_pickF (v := .bool false) rfl (t := false) rfl rfl rfl w) ?_
                  refine SOps.val (v := .bool false) rfl (wantN rfl) (fun _ => by kernel_rfl) ?_
                  refine SOps.off rfl (wantX (c := false) rfl rfl rfl rfl) ?_
                  refine SOps.off rfl (wantX (c := false) rfl rfl rfl rfl) ?_
                  refine SOps.off rfl (wantX (c := false) rfl rfl rfl rfl) ?_
                  refine SOps.off rfl (wantX (c := false) rfl rfl rfl rfl) ?_
                  refine SOps.off rfl (wantX (c := false) rfl rfl rfl rfl) ?_
                  refine SOps.val (v := .bool false) rfl (wantN rfl) (fun w => ev_pickF (v := .bool false) rfl (t := false) rfl rfl rfl w) ?_
                  refine SOps.val (v := .bool false) rfl (wantN rfl) (fun _ => by kernel_rfl) ?_
                  refine SOps.off rfl (wantX (c := false) rfl rfl rfl rfl) ?_
                  refine SOps.off rfl (wantX (c := false) rfl rfl rfl rfl) ?_
                  refine SOps.off rfl (wantX (c := false) rfl rfl rfl rfl) ?_
                  refine SOps.off rfl (wantX (c := false) rfl rfl rfl rfl) ?_
                  refine SOps.off rfl (wantX (c := false) rfl rfl rfl rfl) ?_
                  refine SOps.off rfl (wantX (c := false) rfl rfl rfl rfl) ?_
                  refine SOps.off rfl (wantX (c := false) rfl rfl rfl rfl) ?_
                  refine SOps.off rfl (wantX (c := false) rfl rfl rfl rfl) ?_
                  refine SOps.off rfl (wantX (c := false) rfl rfl rfl rfl) ?_
                  refine SOps.off rfl (wantX (c := false) rfl rfl rfl rfl) ?_
                  refine SOps.val (v := .bool false) rfl (wantN rfl) (fun w => ev_pickF (v := .bool false) rfl (t := false) rfl rfl rfl w) ?_
                  refine SOps.val (v := .bool false) rfl (wantN rfl) (fun _ => by kernel_rfl) ?_
                  refine SOps.nil ?_
                  obtain ⟨Hr, hr, h⟩ := h
                  exact SW.ret (retQ.mk (.bool false) (res1 rfl rfl) hr ⟨false, rfl, h⟩)
  · replace h := h.2 c5
    have dc5 : q3 = false := (Bool.eq_false_iff.mpr c5)
    refine SW.cond_t (t := !q3) rfl (not_f dc5) ?_
    refine SW.seq ?_
    refine SW.region ?_
    refine SOps.val (v := .bool false) rfl (wantN rfl) (fun _ => by kernel_rfl) ?_
    refine SOps.nil ?_
    obtain ⟨Hr, hr, h⟩ := h
    exact SW.ret (retQ.mk (.bool false) (res1 rfl rfl) hr ⟨false, rfl, h⟩)

end Go.Proofs.YtkfbmoekghbgbaaDoor.K
