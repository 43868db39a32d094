import Derived.Test.YtpnbehgkbfhacaaDoorGladinglaw01
set_option linter.unusedVariables false
set_option linter.unusedSimpArgs false
set_option maxRecDepth 100000
namespace Go.Proofs.YtpnbehgkbfhacaaDoor.K
open Go
attribute [local irreducible] SW SOps SQ SCalls retQ

/-! ### lading/ladinglaw01.OctetRows: function 6 -/
def ladinglaw01_OctetRows.j1 (F : Nat) (K : Bool → SH → Prop) (R6 : Sl → ByteArray → Int → Sl → Int → Int → SH → Prop) (l132 : Sl) (s133 : ByteArray) (x134 : Int) (s135 : ByteArray) (l136 : Sl) (x137 : Int) (x138 : Int) (H : SH) : Prop :=
  octet_Text.wp F s133 x134 300 H (fun s139 x140 e141 H142 =>
    ((s139 = s135) →
      (e141 = none →
        R6 l132 s133 x140 l136 x137 (w64 (x138 + 1)) H142
      ) ∧ (∀ v144, e141 = some v144 →
        ∃ Hr, SH.le Hr H142 ∧ K false Hr
      )
    ) ∧ (¬ ((s139 = s135)) →
      ∃ Hr, SH.le Hr H142 ∧ K false Hr
    )
  )
def ladinglaw01_OctetRows.r6 (F : Nat) (K : Bool → SH → Prop) (R6 : Sl → ByteArray → Int → Sl → Int → Int → SH → Prop) (l105 : Sl) (s106 : ByteArray) (x107 : Int) (l108 : Sl) (x109 : Int) (x110 : Int) (H : SH) : Prop :=
  (x110 < x109 →
    ∃ p112, l108.a = some p112 ∧ 0 ≤ x110 ∧ x110 < (l108.len : Int) ∧
    ∃ (s116 : ByteArray),
    SH.has H (p112.1, (p112.2 + x110.toNat * 1)) (.string s116) ∧
    (x110 = (w64 ((l105.len : Int) - 1)) →
      0 ≤ (0 : Int) ∧
      (0 : Int) ≤ (w64 ((s106.size : Int) - 1)) ∧
      (w64 ((s106.size : Int) - 1)) ≤ (s106.size : Int) ∧
      octet_Text.wp F (s106.extract (0 : Int).toNat (w64 ((s106.size : Int) - 1)).toNat) x107 300 H (fun s122 x123 e124 H125 =>
        api_Code.wp F e124 H125 (fun x126 H127 =>
          (x126 ≠ 3 →
            ∃ Hr, SH.le Hr H127 ∧ K false Hr
          ) ∧ (¬ (x126 ≠ 3) →
            api_Place.wp F e124 H127 (fun x129 H130 =>
              (x129 ≠ ((s106.extract (0 : Int).toNat (w64 ((s106.size : Int) - 1)).toNat).size : Int) →
                ∃ Hr, SH.le Hr H130 ∧ K false Hr
              ) ∧ (¬ (x129 ≠ ((s106.extract (0 : Int).toNat (w64 ((s106.size : Int) - 1)).toNat).size : Int)) →
                ladinglaw01_OctetRows.j1 F K R6 l105 s106 x107 s116 l108 x109 x110 H130
              )
            )
          )
        )
      )
    ) ∧ (¬ (x110 = (w64 ((l105.len : Int) - 1))) →
      ladinglaw01_OctetRows.j1 F K R6 l105 s106 x107 s116 l108 x109 x110 H
    )
  ) ∧ (¬ (x110 < x109) →
    ∃ Hr, SH.le Hr H ∧ K (x107 == (s106.size : Int)) Hr
  )
def ladinglaw01_OctetRows.l6 (F : Nat) (K : Bool → SH → Prop) : Nat → Sl → ByteArray → Int → Sl → Int → Int → SH → Prop
  | 0, _, _, _, _, _, _, _ => False
  | k + 1, l105, s106, x107, l108, x109, x110, H => ladinglaw01_OctetRows.r6 F K (ladinglaw01_OctetRows.l6 F K k) l105 s106 x107 l108 x109 x110 H
def ladinglaw01_OctetRows.r5 (F : Nat) (K : Bool → SH → Prop) (R5 : Sl → ByteArray → Int → Sl → Int → Int → SH → Prop) (l86 : Sl) (s87 : ByteArray) (x88 : Int) (l89 : Sl) (x90 : Int) (x91 : Int) (H : SH) : Prop :=
  (x91 < x90 →
    ∃ p93, l89.a = some p93 ∧ 0 ≤ x91 ∧ x91 < (l89.len : Int) ∧
    ∃ (x97 : Int),
    SH.has H (p93.1, (p93.2 + x91.toNat * 1)) (.int .i32 x97) ∧
    octet_Turned.wp F s87 x88 H (fun x99 x100 e101 H102 =>
      (x99 ≠ (w64 x97) →
        ∃ Hr, SH.le Hr H102 ∧ K false Hr
      ) ∧ (¬ (x99 ≠ (w64 x97)) →
        (e101 = none →
          R5 l86 s87 x100 l89 x90 (w64 (x91 + 1)) H102
        ) ∧ (∀ v104, e101 = some v104 →
          ∃ Hr, SH.le Hr H102 ∧ K false Hr
        )
      )
    )
  ) ∧ (¬ (x91 < x90) →
    ladinglaw01_OctetRows.l6 F K F l86 s87 x88 l86 (l86.len : Int) 0 H
  )
def ladinglaw01_OctetRows.l5 (F : Nat) (K : Bool → SH → Prop) : Nat → Sl → ByteArray → Int → Sl → Int → Int → SH → Prop
  | 0, _, _, _, _, _, _, _ => False
  | k + 1, l86, s87, x88, l89, x90, x91, H => ladinglaw01_OctetRows.r5 F K (ladinglaw01_OctetRows.l5 F K k) l86 s87 x88 l89 x90 x91 H
def ladinglaw01_OctetRows.r4 (F : Nat) (K : Bool → SH → Prop) (R4 : Sl → Sl → ByteArray → Int → Sl → Int → Int → SH → Prop) (l66 : Sl) (l67 : Sl) (s68 : ByteArray) (x69 : Int) (l70 : Sl) (x71 : Int) (x72 : Int) (H : SH) : Prop :=
  (x72 < x71 →
    ∃ p74, l70.a = some p74 ∧ 0 ≤ x72 ∧ x72 < (l70.len : Int) ∧
    ∃ (x78 : Int),
    SH.has H (p74.1, (p74.2 + x72.toNat * 1)) (.int .u32 x78) ∧
    octet_Short.wp F s68 x69 H (fun x80 x81 e82 H83 =>
      (x80 ≠ (w64 x78) →
        ∃ Hr, SH.le Hr H83 ∧ K false Hr
      ) ∧ (¬ (x80 ≠ (w64 x78)) →
        (e82 = none →
          R4 l66 l67 s68 x81 l70 x71 (w64 (x72 + 1)) H83
        ) ∧ (∀ v85, e82 = some v85 →
          ∃ Hr, SH.le Hr H83 ∧ K false Hr
        )
      )
    )
  ) ∧ (¬ (x72 < x71) →
    ladinglaw01_OctetRows.l5 F K F l67 s68 x69 l66 (l66.len : Int) 0 H
  )
def ladinglaw01_OctetRows.l4 (F : Nat) (K : Bool → SH → Prop) : Nat → Sl → Sl → ByteArray → Int → Sl → Int → Int → SH → Prop
  | 0, _, _, _, _, _, _, _, _ => False
  | k + 1, l66, l67, s68, x69, l70, x71, x72, H => ladinglaw01_OctetRows.r4 F K (ladinglaw01_OctetRows.l4 F K k) l66 l67 s68 x69 l70 x71 x72 H
def ladinglaw01_OctetRows.r3 (F : Nat) (K : Bool → SH → Prop) (R3 : Sl → Sl → Sl → ByteArray → Sl → Int → Int → SH → Prop) (l48 : Sl) (l49 : Sl) (l50 : Sl) (s51 : ByteArray) (l52 : Sl) (x53 : Int) (x54 : Int) (H : SH) : Prop :=
  (x54 < x53 →
    ∃ p56, l52.a = some p56 ∧ 0 ≤ x54 ∧ x54 < (l52.len : Int) ∧
    ∃ (s60 : ByteArray),
    SH.has H (p56.1, (p56.2 + x54.toNat * 1)) (.string s60) ∧
    ((s60.size : Int) > 300 →
      ∃ Hr, SH.le Hr H ∧ K true Hr
    ) ∧ (¬ ((s60.size : Int) > 300) →
      R3 l48 l49 l50 s51 l52 x53 (w64 (x54 + 1)) H
    )
  ) ∧ (¬ (x54 < x53) →
    octet_PutText.wp F l50 H (fun s63 H64 =>
      s51.size + s63.size ≤ 9223372036854775807 ∧
      ladinglaw01_OctetRows.l4 F K F l49 l50 (s51 ++ s63) 0 l48 (l48.len : Int) 0 H64
    )
  )
def ladinglaw01_OctetRows.l3 (F : Nat) (K : Bool → SH → Prop) : Nat → Sl → Sl → Sl → ByteArray → Sl → Int → Int → SH → Prop
  | 0, _, _, _, _, _, _, _, _ => False
  | k + 1, l48, l49, l50, s51, l52, x53, x54, H => ladinglaw01_OctetRows.r3 F K (ladinglaw01_OctetRows.l3 F K k) l48 l49 l50 s51 l52 x53 x54 H
def ladinglaw01_OctetRows.r2 (F : Nat) (K : Bool → SH → Prop) (R2 : Sl → Sl → Sl → ByteArray → Sl → Int → Int → SH → Prop) (l29 : Sl) (l30 : Sl) (l31 : Sl) (s32 : ByteArray) (l33 : Sl) (x34 : Int) (x35 : Int) (H : SH) : Prop :=
  (x35 < x34 →
    ∃ p37, l33.a = some p37 ∧ 0 ≤ x35 ∧ x35 < (l33.len : Int) ∧
    ∃ (x41 : Int),
    SH.has H (p37.1, (p37.2 + x35.toNat * 1)) (.int .i32 x41) ∧
    octet_PutTurned.wp F (w64 x41) H (fun s43 e44 H45 =>
      (e44 = none →
        s32.size + s43.size ≤ 9223372036854775807 ∧
        R2 l29 l30 l31 (s32 ++ s43) l33 x34 (w64 (x35 + 1)) H45
      ) ∧ (∀ v46, e44 = some v46 →
        ∃ Hr, SH.le Hr H45 ∧ K false Hr
      )
    )
  ) ∧ (¬ (x35 < x34) →
    ladinglaw01_OctetRows.l3 F K F l29 l30 l31 s32 l31 (l31.len : Int) 0 H
  )
def ladinglaw01_OctetRows.l2 (F : Nat) (K : Bool → SH → Prop) : Nat → Sl → Sl → Sl → ByteArray → Sl → Int → Int → SH → Prop
  | 0, _, _, _, _, _, _, _, _ => False
  | k + 1, l29, l30, l31, s32, l33, x34, x35, H => ladinglaw01_OctetRows.r2 F K (ladinglaw01_OctetRows.l2 F K k) l29 l30 l31 s32 l33 x34 x35 H
def ladinglaw01_OctetRows.r1 (F : Nat) (K : Bool → SH → Prop) (R1 : Sl → Sl → Sl → ByteArray → Sl → Int → Int → SH → Prop) (l10 : Sl) (l11 : Sl) (l12 : Sl) (s13 : ByteArray) (l14 : Sl) (x15 : Int) (x16 : Int) (H : SH) : Prop :=
  (x16 < x15 →
    ∃ p18, l14.a = some p18 ∧ 0 ≤ x16 ∧ x16 < (l14.len : Int) ∧
    ∃ (x22 : Int),
    SH.has H (p18.1, (p18.2 + x16.toNat * 1)) (.int .u32 x22) ∧
    octet_PutShort.wp F (w64 x22) H (fun s24 e25 H26 =>
      (e25 = none →
        s13.size + s24.size ≤ 9223372036854775807 ∧
        R1 l10 l11 l12 (s13 ++ s24) l14 x15 (w64 (x16 + 1)) H26
      ) ∧ (∀ v27, e25 = some v27 →
        ∃ Hr, SH.le Hr H26 ∧ K false Hr
      )
    )
  ) ∧ (¬ (x16 < x15) →
    ladinglaw01_OctetRows.l2 F K F l10 l11 l12 s13 l11 (l11.len : Int) 0 H
  )
def ladinglaw01_OctetRows.l1 (F : Nat) (K : Bool → SH → Prop) : Nat → Sl → Sl → Sl → ByteArray → Sl → Int → Int → SH → Prop
  | 0, _, _, _, _, _, _, _, _ => False
  | k + 1, l10, l11, l12, s13, l14, x15, x16, H => ladinglaw01_OctetRows.r1 F K (ladinglaw01_OctetRows.l1 F K k) l10 l11 l12 s13 l14 x15 x16 H
def ladinglaw01_OctetRows.wp (F : Nat) (l1 : Sl) (l2 : Sl) (l3 : Sl) (H : SH) (K : Bool → SH → Prop) : Prop :=
  ladinglaw01_awake.wp F  H (fun q4 H5 =>
    (q4 = true →
      ((l1.len : Int) > 30 →
        ∃ Hr, SH.le Hr H5 ∧ K true Hr
      ) ∧ (¬ ((l1.len : Int) > 30) →
        ((l2.len : Int) > 30 →
          ∃ Hr, SH.le Hr H5 ∧ K true Hr
        ) ∧ (¬ ((l2.len : Int) > 30) →
          ((l3.len : Int) > 30 →
            ∃ Hr, SH.le Hr H5 ∧ K true Hr
          ) ∧ (¬ ((l3.len : Int) > 30) →
            ladinglaw01_OctetRows.l1 F K F l1 l2 l3 ByteArray.empty l1 (l1.len : Int) 0 H5
          )
        )
      )
    ) ∧ (¬ (q4 = true) →
      ∃ Hr, SH.le Hr H5 ∧ K false Hr
    )
  )
set_option maxHeartbeats 8000000 in
theorem ladinglaw01_OctetRows.sound (F : Nat) (l1 : Sl) (l2 : Sl) (l3 : Sl) (H : SH) (K : Bool → SH → Prop) (h : ladinglaw01_OctetRows.wp F l1 l2 l3 H K) : SCalls Tryd.prog 6 #[sv l1, sv l2, sv l3] H (fun v H' => ∃ (q159 : Bool), v = .bool q159 ∧ K q159 H') := by
  unfold ladinglaw01_OctetRows.wp at h
  refine SCalls.body Tryd.func6 rfl (Nat.le_of_ble_eq_true rfl) ?_
  refine SW.seq ?_
  refine SW.region ?_
  refine SOps.val (v := .bool false) rfl (wantN rfl) (fun _ => by kernel_rfl) ?_
  refine SOps.nil ?_
  refine SW.seq ?_
  refine SW.seq ?_
  refine SW.region ?_
  refine SOps.enter rfl (wantN rfl) (fun _ => by kernel_rfl) (ladinglaw01_awake.sound F  H _ h) ?_
  clear h
  rintro v H5 ⟨q4, rfl, h⟩
  refine SOps.val (v := .bool (!q4)) rfl (wantN rfl) (fun _ => by kernel_rfl) ?_
  refine SOps.nil ?_
  by_cases c6 : q4 = true
  · replace h := h.1 c6
    have dc6 : q4 = true := c6
    refine SW.cond_f (t := !q4) rfl (not_t dc6) ?_
    refine SW.skip ?_
    refine SW.seq ?_
    refine SW.seq ?_
    refine SW.region ?_
    refine SOps.val (v := sv l1) rfl (wantN rfl) (fun _ => by kernel_rfl) ?_
    refine SOps.val (v := .int .i64 (l1.len : Int)) rfl (wantN rfl) (fun _ => by kernel_rfl) ?_
    refine SOps.val (v := .bool (decide ((l1.len : Int) > 30))) rfl (wantN rfl) (fun _ => by kernel_rfl) ?_
    refine SOps.val (v := .bool (decide ((l1.len : Int) > 30))) rfl (wantN rfl) (fun _ => by kernel_rfl) ?_
    by_cases c7 : (l1.len : Int) > 30
    · replace h := h.1 c7
      have dc7 : (decide ((l1.len : Int) > 30)) = true := (decide_eq_true c7)
      refine SOps.off rfl (wantX (c := decide ((l1.len : Int) > 30)) rfl rfl rfl dc7) ?_
      refine SOps.off rfl (wantX (c := decide ((l1.len : Int) > 30)) rfl rfl rfl dc7) ?_
      refine SOps.off rfl (wantX (c := decide ((l1.len : Int) > 30)) rfl rfl rfl dc7) ?_
      refine SOps.val (v := .bool true) rfl (wantN rfl) (fun w => ev_pickT (v := .bool true) rfl (t := decide ((l1.len : Int) > 30)) rfl dc7 rfl w) ?_
      refine SOps.val (v := .bool true) rfl (wantN rfl) (fun _ => by kernel_rfl) ?_
      refine SOps.off rfl (wantX (c := true) rfl rfl rfl rfl) ?_
      refine SOps.off rfl (wantX (c := true) rfl rfl rfl rfl) ?_
      refine SOps.off rfl (wantX (c := true) rfl rfl rfl rfl) ?_
      refine SOps.val (v := .bool true) rfl (wantN rfl) (fun w => ev_pickT (v := .bool true) rfl (t := true) rfl rfl rfl w) ?_
      refine SOps.nil ?_
      refine SW.cond_t (t := true) rfl rfl ?_
      refine SW.seq ?_
      refine SW.region ?_
      refine SOps.val (v := .bool true) rfl (wantN rfl) (fun _ => by kernel_rfl) ?_
      refine SOps.nil ?_
      obtain ⟨Hr, hr, h⟩ := h
      exact SW.ret (retQ.mk (.bool true) (res1 rfl rfl) hr ⟨true, rfl, h⟩)
    · replace h := h.2 c7
      have dc7 : (decide ((l1.len : Int) > 30)) = false := (decide_eq_false c7)
      refine SOps.val (v := sv l2) rfl (wantY (c := decide ((l1.len : Int) > 30)) rfl rfl rfl dc7) (fun _ => by kernel_rfl) ?_
      refine SOps.val (v := .int .i64 (l2.len : Int)) rfl (wantY (c := decide ((l1.len : Int) > 30)) rfl rfl rfl dc7) (fun _ => by kernel_rfl) ?_
      refine SOps.val (v := .bool (decide ((l2.len : Int) > 30))) rfl (wantY (c := decide ((l1.len : Int) > 30)) rfl rfl rfl dc7) (fun _ => by kernel_rfl) ?_
      refine SOps.val (v := .bool (decide ((l2.len : Int) > 30))) rfl (wantN rfl) (fun w => ev_pickF (v := .bool (decide ((l2.len : Int) > 30))) rfl (t := decide ((l1.len : Int) > 30)) rfl dc7 rfl w) ?_
      refine SOps.val (v := .bool (decide ((l2.len : Int) > 30))) rfl (wantN rfl) (fun _ => by kernel_rfl) ?_
      by_cases c8 : (l2.len : Int) > 30
      · replace h := h.1 c8
        have dc8 : (decide ((l2.len : Int) > 30)) = true := (decide_eq_true c8)
        refine SOps.off rfl (wantX (c := decide ((l2.len : Int) > 30)) rfl rfl rfl dc8) ?_
        refine SOps.off rfl (wantX (c := decide ((l2.len : Int) > 30)) rfl rfl rfl dc8) ?_
        refine SOps.off rfl (wantX (c := decide ((l2.len : Int) > 30)) rfl rfl rfl dc8) ?_
        refine SOps.val (v := .bool true) rfl (wantN rfl) (fun w => ev_pickT (v := .bool true) rfl (t := decide ((l2.len : Int) > 30)) rfl dc8 rfl w) ?_
        refine SOps.nil ?_
        refine SW.cond_t (t := true) rfl rfl ?_
        refine SW.seq ?_
        refine SW.region ?_
        refine SOps.val (v := .bool true) rfl (wantN rfl) (fun _ => by kernel_rfl) ?_
        refine SOps.nil ?_
        obtain ⟨Hr, hr, h⟩ := h
        exact SW.ret (retQ.mk (.bool true) (res1 rfl rfl) hr ⟨true, rfl, h⟩)
      · replace h := h.2 c8
        have dc8 : (decide ((l2.len : Int) > 30)) = false := (decide_eq_false c8)
        refine SOps.val (v := sv l3) rfl (wantY (c := decide ((l2.len : Int) > 30)) rfl rfl rfl dc8) (fun _ => by kernel_rfl) ?_
        refine SOps.val (v := .int .i64 (l3.len : Int)) rfl (wantY (c := decide ((l2.len : Int) > 30)) rfl rfl rfl dc8) (fun _ => by kernel_rfl) ?_
        refine SOps.val (v := .bool (decide ((l3.len : Int) > 30))) rfl (wantY (c := decide ((l2.len : Int) > 30)) rfl rfl rfl dc8) (fun _ => by kernel_rfl) ?_
        refine SOps.val (v := .bool (decide ((l3.len : Int) > 30))) rfl (wantN rfl) (fun w => ev_pickF (v := .bool (decide ((l3.len : Int) > 30))) rfl (t := decide ((l2.len : Int) > 30)) rfl dc8 rfl w) ?_
        refine SOps.nil ?_
        by_cases c9 : (l3.len : Int) > 30
        · replace h := h.1 c9
          have dc9 : (decide ((l3.len : Int) > 30)) = true := (decide_eq_true c9)
          refine SW.cond_t (t := decide ((l3.len : Int) > 30)) rfl dc9 ?_
          refine SW.seq ?_
          refine SW.region ?_
          refine SOps.val (v := .bool true) rfl (wantN rfl) (fun _ => by kernel_rfl) ?_
          refine SOps.nil ?_
          obtain ⟨Hr, hr, h⟩ := h
          exact SW.ret (retQ.mk (.bool true) (res1 rfl rfl) hr ⟨true, rfl, h⟩)
        · replace h := h.2 c9
          have dc9 : (decide ((l3.len : Int) > 30)) = false := (decide_eq_false c9)
          refine SW.cond_f (t := decide ((l3.len : Int) > 30)) rfl dc9 ?_
          refine SW.skip ?_
          refine SW.seq ?_
          refine SW.region ?_
          refine SOps.val (v := .string ByteArray.empty) rfl (wantN rfl) (fun _ => by kernel_rfl) ?_
          refine SOps.nil ?_
          refine SW.seq ?_
          refine SW.seq ?_
          refine SW.region ?_
          refine SOps.val (v := sv l1) rfl (wantN rfl) (fun _ => by kernel_rfl) ?_
          refine SOps.val (v := .int .i64 (l1.len : Int)) rfl (wantN rfl) (fun _ => by kernel_rfl) ?_
          refine SOps.val (v := .int .i64 0) rfl (wantN rfl) (fun _ => by kernel_rfl) ?_
          refine SOps.nil ?_
          refine SW.block ?_
          refine SW.loop (fun k1 fr H => ∃ (g : Fr) (l10 : Sl) (l11 : Sl) (l12 : Sl) (s13 : ByteArray) (l14 : Sl) (x15 : Int) (x16 : Int), fr = g.upds [(0, sv l10), (1, sv l11), (2, sv l12), (7, (.string s13 : Value)), (53, sv l14), (54, (.int .i64 x15 : Value)), (55, (.int .i64 x16 : Value))] ∧ ladinglaw01_OctetRows.l1 F K k1 l10 l11 l12 s13 l14 x15 x16 H) F ⟨_, l1, l2, l3, ByteArray.empty, l1, (l1.len : Int), 0, (Fr.upds_self _ _ ⟨rfl, rfl, rfl, rfl, rfl, rfl, rfl, trivial⟩), h⟩ ?_
          clear h
          rintro k1 fr H ⟨g, l10, l11, l12, s13, l14, x15, x16, rfl, h⟩
          cases k1 with
          | zero => exact h.elim
          | succ k1 =>
            replace h : ladinglaw01_OctetRows.r1 F K (ladinglaw01_OctetRows.l1 F K k1) l10 l11 l12 s13 l14 x15 x16 H := h
            unfold ladinglaw01_OctetRows.r1 at h
            refine SW.seq ?_
            refine SW.region ?_
            refine SOps.val (v := .bool (decide (x16 < x15))) rfl (wantN rfl) (fun _ => by kernel_rfl) ?_
            refine SOps.nil ?_
            refine SW.seq ?_
            by_cases c17 : x16 < x15
            · replace h := h.1 c17
              have dc17 : (decide (x16 < x15)) = true := (decide_eq_true c17)
              refine SW.cond_t (t := decide (x16 < x15)) rfl dc17 ?_
              refine SW.skip ?_
              refine SW.seq ?_
              refine SW.block ?_
              refine SW.seq ?_
              refine SW.region ?_
              obtain ⟨p18, c19, c20, c21, h⟩ := h
              refine SOps.val (v := pv (some (p18.1, (p18.2 + x16.toNat * 1)))) rfl (wantN rfl) (fun w => ev_iaddr rfl Tryd.underlying48 (size := 1) (by kernel_rfl) rfl rfl c19 c20 c21 w) ?_
              obtain ⟨x22, c23, h⟩ := h
              refine SOps.rd (v := .int .u32 x22) rfl (wantN rfl) (fun w hw => ev_load1 rfl (fun _ => by kernel_rfl) (p := (p18.1, (p18.2 + x16.toNat * 1))) rfl c23 w hw) ?_
              refine SOps.val (v := .int .u32 x22) rfl (wantN rfl) (fun _ => by kernel_rfl) ?_
              refine SOps.nil ?_
              refine SW.seq ?_
              refine SW.region ?_
              refine SOps.val (v := .int .u32 x22) rfl (wantN rfl) (fun _ => by kernel_rfl) ?_
              refine SOps.val (v := .int .i64 (w64 x22)) rfl (wantN rfl) (fun _ => by kernel_rfl) ?_
              refine SOps.enter rfl (wantN rfl) (fun _ => by kernel_rfl) (octet_PutShort.sound F (w64 x22) H _ h) ?_
              clear h
              rintro v H26 ⟨s24, e25, rfl, h⟩
              refine SOps.val (v := .tuple #[.string s24, errV e25]) rfl (wantN rfl) (fun _ => by kernel_rfl) ?_
              refine SOps.val (v := .string s24) rfl (wantN rfl) (fun _ => by kernel_rfl) ?_
              refine SOps.val (v := errV e25) rfl (wantN rfl) (fun _ => by kernel_rfl) ?_
              refine SOps.val (v := .string s24) rfl (wantN rfl) (fun _ => by kernel_rfl) ?_
              refine SOps.val (v := errV e25) rfl (wantN rfl) (fun _ => by kernel_rfl) ?_
              refine SOps.nil ?_
              refine SW.seq ?_
              refine SW.seq ?_
              refine SW.region ?_
              refine SOps.val (v := errV e25) rfl (wantN rfl) (fun _ => by kernel_rfl) ?_
              rcases e25 with _ | v27
              · replace h := h.1 rfl
                refine SOps.val (v := .bool false) rfl (wantN rfl) (fun w => ev_errNe (e := none) rfl Tryd.underlying24 rfl rfl w) ?_
                refine SOps.nil ?_
                refine SW.cond_f (t := false) rfl rfl ?_
                refine SW.skip ?_
                refine SW.region ?_
                refine SOps.val (v := .string s13) rfl (wantN rfl) (fun _ => by kernel_rfl) ?_
                refine SOps.val (v := .string s24) rfl (wantN rfl) (fun _ => by kernel_rfl) ?_
                obtain ⟨c28, h⟩ := h
                refine SOps.val (v := .string (s13 ++ s24)) rfl (wantN rfl) (fun w => ev_cat rfl rfl rfl c28 w) ?_
                refine SOps.val (v := .string (s13 ++ s24)) rfl (wantN rfl) (fun _ => by kernel_rfl) ?_
                refine SOps.nil ?_
                refine SW.region ?_
                refine SOps.val (v := .int .i64 (w64 (x16 + 1))) rfl (wantN rfl) (fun _ => by kernel_rfl) ?_
                refine SOps.val (v := .int .i64 (w64 (x16 + 1))) rfl (wantN rfl) (fun _ => by kernel_rfl) ?_
                refine SOps.nil ?_
                exact ⟨k1, Nat.lt_succ_self k1, _, l10, l11, l12, s13 ++ s24, l14, x15, w64 (x16 + 1), (Fr.upds_self _ _ ⟨rfl, rfl, rfl, rfl, rfl, rfl, rfl, trivial⟩), h⟩
              · replace h := h.2 v27 rfl
                refine SOps.val (v := .bool true) rfl (wantN rfl) (fun w => ev_errNe (e := some v27) rfl Tryd.underlying24 rfl rfl w) ?_
                refine SOps.nil ?_
                refine SW.cond_t (t := true) rfl rfl ?_
                refine SW.seq ?_
                refine SW.region ?_
                refine SOps.val (v := .bool false) rfl (wantN rfl) (fun _ => by kernel_rfl) ?_
                refine SOps.nil ?_
                obtain ⟨Hr, hr, h⟩ := h
                exact SW.ret (retQ.mk (.bool false) (res1 rfl rfl) hr ⟨false, rfl, h⟩)
            · replace h := h.2 c17
              have dc17 : (decide (x16 < x15)) = false := (decide_eq_false c17)
              refine SW.cond_f (t := decide (x16 < x15)) rfl dc17 ?_
              refine SW.exit ?_
              refine SW.seq ?_
              refine SW.seq ?_
              refine SW.region ?_
              refine SOps.val (v := sv l11) rfl (wantN rfl) (fun _ => by kernel_rfl) ?_
              refine SOps.val (v := .int .i64 (l11.len : Int)) rfl (wantN rfl) (fun _ => by kernel_rfl) ?_
              refine SOps.val (v := .int .i64 0) rfl (wantN rfl) (fun _ => by kernel_rfl) ?_
              refine SOps.nil ?_
              refine SW.block ?_
              refine SW.loop (fun k2 fr H => ∃ (g : Fr) (l29 : Sl) (l30 : Sl) (l31 : Sl) (s32 : ByteArray) (l33 : Sl) (x34 : Int) (x35 : Int), fr = g.upds [(0, sv l29), (1, sv l30), (2, sv l31), (7, (.string s32 : Value)), (71, sv l33), (72, (.int .i64 x34 : Value)), (73, (.int .i64 x35 : Value))] ∧ ladinglaw01_OctetRows.l2 F K k2 l29 l30 l31 s32 l33 x34 x35 H) F ⟨_, l10, l11, l12, s13, l11, (l11.len : Int), 0, (Fr.upds_self _ _ ⟨rfl, rfl, rfl, rfl, rfl, rfl, rfl, trivial⟩), h⟩ ?_
              clear h
              rintro k2 fr H ⟨g, l29, l30, l31, s32, l33, x34, x35, rfl, h⟩
              cases k2 with
              | zero => exact h.elim
              | succ k2 =>
                replace h : ladinglaw01_OctetRows.r2 F K (ladinglaw01_OctetRows.l2 F K k2) l29 l30 l31 s32 l33 x34 x35 H := h
                unfold ladinglaw01_OctetRows.r2 at h
                refine SW.seq ?_
                refine SW.region ?_
                refine SOps.val (v := .bool (decide (x35 < x34))) rfl (wantN rfl) (fun _ => by kernel_rfl) ?_
                refine SOps.nil ?_
                refine SW.seq ?_
                by_cases c36 : x35 < x34
                · replace h := h.1 c36
                  have dc36 : (decide (x35 < x34)) = true := (decide_eq_true c36)
                  refine SW.cond_t (t := decide (x35 < x34)) rfl dc36 ?_
                  refine SW.skip ?_
                  refine SW.seq ?_
                  refine SW.block ?_
                  refine SW.seq ?_
                  refine SW.region ?_
                  obtain ⟨p37, c38, c39, c40, h⟩ := h
                  refine SOps.val (v := pv (some (p37.1, (p37.2 + x35.toNat * 1)))) rfl (wantN rfl) (fun w => ev_iaddr rfl Tryd.underlying49 (size := 1) (by kernel_rfl) rfl rfl c38 c39 c40 w) ?_
                  obtain ⟨x41, c42, h⟩ := h
                  refine SOps.rd (v := .int .i32 x41) rfl (wantN rfl) (fun w hw => ev_load1 rfl (fun _ => by kernel_rfl) (p := (p37.1, (p37.2 + x35.toNat * 1))) rfl c42 w hw) ?_
                  refine SOps.val (v := .int .i32 x41) rfl (wantN rfl) (fun _ => by kernel_rfl) ?_
                  refine SOps.nil ?_
                  refine SW.seq ?_
                  refine SW.region ?_
                  refine SOps.val (v := .int .i32 x41) rfl (wantN rfl) (fun _ => by kernel_rfl) ?_
                  refine SOps.val (v := .int .i64 (w64 x41)) rfl (wantN rfl) (fun _ => by kernel_rfl) ?_
                  refine SOps.enter rfl (wantN rfl) (fun _ => by kernel_rfl) (octet_PutTurned.sound F (w64 x41) H _ h) ?_
                  clear h
                  rintro v H45 ⟨s43, e44, rfl, h⟩
                  refine SOps.val (v := .tuple #[.string s43, errV e44]) rfl (wantN rfl) (fun _ => by kernel_rfl) ?_
                  refine SOps.val (v := .string s43) rfl (wantN rfl) (fun _ => by kernel_rfl) ?_
                  refine SOps.val (v := errV e44) rfl (wantN rfl) (fun _ => by kernel_rfl) ?_
                  refine SOps.val (v := .string s43) rfl (wantN rfl) (fun _ => by kernel_rfl) ?_
                  refine SOps.val (v := errV e44) rfl (wantN rfl) (fun _ => by kernel_rfl) ?_
                  refine SOps.nil ?_
                  refine SW.seq ?_
                  refine SW.seq ?_
                  refine SW.region ?_
                  refine SOps.val (v := errV e44) rfl (wantN rfl) (fun _ => by kernel_rfl) ?_
                  rcases e44 with _ | v46
                  · replace h := h.1 rfl
                    refine SOps.val (v := .bool false) rfl (wantN rfl) (fun w => ev_errNe (e := none) rfl Tryd.underlying24 rfl rfl w) ?_
                    refine SOps.nil ?_
                    refine SW.cond_f (t := false) rfl rfl ?_
                    refine SW.skip ?_
                    refine SW.region ?_
                    refine SOps.val (v := .string s32) rfl (wantN rfl) (fun _ => by kernel_rfl) ?_
                    refine SOps.val (v := .string s43) rfl (wantN rfl) (fun _ => by kernel_rfl) ?_
                    obtain ⟨c47, h⟩ := h
                    refine SOps.val (v := .string (s32 ++ s43)) rfl (wantN rfl) (fun w => ev_cat rfl rfl rfl c47 w) ?_
                    refine SOps.val (v := .string (s32 ++ s43)) rfl (wantN rfl) (fun _ => by kernel_rfl) ?_
                    refine SOps.nil ?_
                    refine SW.region ?_
                    refine SOps.val (v := .int .i64 (w64 (x35 + 1))) rfl (wantN rfl) (fun _ => by kernel_rfl) ?_
                    refine SOps.val (v := .int .i64 (w64 (x35 + 1))) rfl (wantN rfl) (fun _ => by kernel_rfl) ?_
                    refine SOps.nil ?_
                    exact ⟨k2, Nat.lt_succ_self k2, _, l29, l30, l31, s32 ++ s43, l33, x34, w64 (x35 + 1), (Fr.upds_self _ _ ⟨rfl, rfl, rfl, rfl, rfl, rfl, rfl, trivial⟩), h⟩
                  · replace h := h.2 v46 rfl
                    refine SOps.val (v := .bool true) rfl (wantN rfl) (fun w => ev_errNe (e := some v46) rfl Tryd.underlying24 rfl rfl w) ?_
                    refine SOps.nil ?_
                    refine SW.cond_t (t := true) rfl rfl ?_
                    refine SW.seq ?_
                    refine SW.region ?_
                    refine SOps.val (v := .bool false) rfl (wantN rfl) (fun _ => by kernel_rfl) ?_
                    refine SOps.nil ?_
                    obtain ⟨Hr, hr, h⟩ := h
                    exact SW.ret (retQ.mk (.bool false) (res1 rfl rfl) hr ⟨false, rfl, h⟩)
                · replace h := h.2 c36
                  have dc36 : (decide (x35 < x34)) = false := (decide_eq_false c36)
                  refine SW.cond_f (t := decide (x35 < x34)) rfl dc36 ?_
                  refine SW.exit ?_
                  refine SW.seq ?_
                  refine SW.seq ?_
                  refine SW.region ?_
                  refine SOps.val (v := sv l31) rfl (wantN rfl) (fun _ => by kernel_rfl) ?_
                  refine SOps.val (v := .int .i64 (l31.len : Int)) rfl (wantN rfl) (fun _ => by kernel_rfl) ?_
                  refine SOps.val (v := .int .i64 0) rfl (wantN rfl) (fun _ => by kernel_rfl) ?_
                  refine SOps.nil ?_
                  refine SW.block ?_
                  refine SW.loop (fun k3 fr H => ∃ (g : Fr) (l48 : Sl) (l49 : Sl) (l50 : Sl) (s51 : ByteArray) (l52 : Sl) (x53 : Int) (x54 : Int), fr = g.upds [(0, sv l48), (1, sv l49), (2, sv l50), (7, (.string s51 : Value)), (89, sv l52), (90, (.int .i64 x53 : Value)), (91, (.int .i64 x54 : Value))] ∧ ladinglaw01_OctetRows.l3 F K k3 l48 l49 l50 s51 l52 x53 x54 H) F ⟨_, l29, l30, l31, s32, l31, (l31.len : Int), 0, (Fr.upds_self _ _ ⟨rfl, rfl, rfl, rfl, rfl, rfl, rfl, trivial⟩), h⟩ ?_
                  clear h
                  rintro k3 fr H ⟨g, l48, l49, l50, s51, l52, x53, x54, rfl, h⟩
                  cases k3 with
                  | zero => exact h.elim
                  | succ k3 =>
                    replace h : ladinglaw01_OctetRows.r3 F K (ladinglaw01_OctetRows.l3 F K k3) l48 l49 l50 s51 l52 x53 x54 H := h
                    unfold ladinglaw01_OctetRows.r3 at h
                    refine SW.seq ?_
                    refine SW.region ?_
                    refine SOps.val (v := .bool (decide (x54 < x53))) rfl (wantN rfl) (fun _ => by kernel_rfl) ?_
                    refine SOps.nil ?_
                    refine SW.seq ?_
                    by_cases c55 : x54 < x53
                    · replace h := h.1 c55
                      have dc55 : (decide (x54 < x53)) = true := (decide_eq_true c55)
                      refine SW.cond_t (t := decide (x54 < x53)) rfl dc55 ?_
                      refine SW.skip ?_
                      refine SW.seq ?_
                      refine SW.block ?_
                      refine SW.seq ?_
                      refine SW.region ?_
                      obtain ⟨p56, c57, c58, c59, h⟩ := h
                      refine SOps.val (v := pv (some (p56.1, (p56.2 + x54.toNat * 1)))) rfl (wantN rfl) (fun w => ev_iaddr rfl Tryd.underlying50 (size := 1) (by kernel_rfl) rfl rfl c57 c58 c59 w) ?_
                      obtain ⟨s60, c61, h⟩ := h
                      refine SOps.rd (v := .string s60) rfl (wantN rfl) (fun w hw => ev_load1 rfl (fun _ => by kernel_rfl) (p := (p56.1, (p56.2 + x54.toNat * 1))) rfl c61 w hw) ?_
                      refine SOps.val (v := .string s60) rfl (wantN rfl) (fun _ => by kernel_rfl) ?_
                      refine SOps.nil ?_
                      refine SW.seq ?_
                      refine SW.region ?_
                      refine SOps.val (v := .string s60) rfl (wantN rfl) (fun _ => by kernel_rfl) ?_
                      refine SOps.val (v := .int .i64 (s60.size : Int)) rfl (wantN rfl) (fun _ => by kernel_rfl) ?_
                      refine SOps.val (v := .bool (decide ((s60.size : Int) > 300))) rfl (wantN rfl) (fun _ => by kernel_rfl) ?_
                      refine SOps.nil ?_
                      by_cases c62 : (s60.size : Int) > 300
                      · replace h := h.1 c62
                        have dc62 : (decide ((s60.size : Int) > 300)) = true := (decide_eq_true c62)
                        refine SW.cond_t (t := decide ((s60.size : Int) > 300)) rfl dc62 ?_
                        refine SW.seq ?_
                        refine SW.region ?_
                        refine SOps.val (v := .bool true) rfl (wantN rfl) (fun _ => by kernel_rfl) ?_
                        refine SOps.nil ?_
                        obtain ⟨Hr, hr, h⟩ := h
                        exact SW.ret (retQ.mk (.bool true) (res1 rfl rfl) hr ⟨true, rfl, h⟩)
                      · replace h := h.2 c62
                        have dc62 : (decide ((s60.size : Int) > 300)) = false := (decide_eq_false c62)
                        refine SW.cond_f (t := decide ((s60.size : Int) > 300)) rfl dc62 ?_
                        refine SW.skip ?_
                        refine SW.region ?_
                        refine SOps.val (v := .int .i64 (w64 (x54 + 1))) rfl (wantN rfl) (fun _ => by kernel_rfl) ?_
                        refine SOps.val (v := .int .i64 (w64 (x54 + 1))) rfl (wantN rfl) (fun _ => by kernel_rfl) ?_
                        refine SOps.nil ?_
                        exact ⟨k3, Nat.lt_succ_self k3, _, l48, l49, l50, s51, l52, x53, w64 (x54 + 1), (Fr.upds_self _ _ ⟨rfl, rfl, rfl, rfl, rfl, rfl, rfl, trivial⟩), h⟩
                    · replace h := h.2 c55
                      have dc55 : (decide (x54 < x53)) = false := (decide_eq_false c55)
                      refine SW.cond_f (t := decide (x54 < x53)) rfl dc55 ?_
                      refine SW.exit ?_
                      refine SW.seq ?_
                      refine SW.region ?_
                      refine SOps.val (v := .string s51) rfl (wantN rfl) (fun _ => by kernel_rfl) ?_
                      refine SOps.val (v := sv l50) rfl (wantN rfl) (fun _ => by kernel_rfl) ?_
                      refine SOps.enter rfl (wantN rfl) (fun _ => by kernel_rfl) (octet_PutText.sound F l50 H _ h) ?_
                      clear h
                      rintro v H64 ⟨s63, rfl, h⟩
                      obtain ⟨c65, h⟩ := h
                      refine SOps.val (v := .string (s51 ++ s63)) rfl (wantN rfl) (fun w => ev_cat rfl rfl rfl c65 w) ?_
                      refine SOps.val (v := .string (s51 ++ s63)) rfl (wantN rfl) (fun _ => by kernel_rfl) ?_
                      refine SOps.nil ?_
                      refine SW.seq ?_
                      refine SW.region ?_
                      refine SOps.val (v := .int .i64 0) rfl (wantN rfl) (fun _ => by kernel_rfl) ?_
                      refine SOps.nil ?_
                      refine SW.seq ?_
                      refine SW.seq ?_
                      refine SW.region ?_
                      refine SOps.val (v := sv l48) rfl (wantN rfl) (fun _ => by kernel_rfl) ?_
                      refine SOps.val (v := .int .i64 (l48.len : Int)) rfl (wantN rfl) (fun _ => by kernel_rfl) ?_
                      refine SOps.val (v := .int .i64 0) rfl (wantN rfl) (fun _ => by kernel_rfl) ?_
                      refine SOps.nil ?_
                      refine SW.block ?_
                      refine SW.loop (fun k4 fr H => ∃ (g : Fr) (l66 : Sl) (l67 : Sl) (s68 : ByteArray) (x69 : Int) (l70 : Sl) (x71 : Int) (x72 : Int), fr = g.upds [(1, sv l66), (2, sv l67), (7, (.string s68 : Value)), (18, (.int .i64 x69 : Value)), (103, sv l70), (104, (.int .i64 x71 : Value)), (105, (.int .i64 x72 : Value))] ∧ ladinglaw01_OctetRows.l4 F K k4 l66 l67 s68 x69 l70 x71 x72 H) F ⟨_, l49, l50, s51 ++ s63, 0, l48, (l48.len : Int), 0, (Fr.upds_self _ _ ⟨rfl, rfl, rfl, rfl, rfl, rfl, rfl, trivial⟩), h⟩ ?_
                      clear h
                      rintro k4 fr H ⟨g, l66, l67, s68, x69, l70, x71, x72, rfl, h⟩
                      cases k4 with
                      | zero => exact h.elim
                      | succ k4 =>
                        replace h : ladinglaw01_OctetRows.r4 F K (ladinglaw01_OctetRows.l4 F K k4) l66 l67 s68 x69 l70 x71 x72 H := h
                        unfold ladinglaw01_OctetRows.r4 at h
                        refine SW.seq ?_
                        refine SW.region ?_
                        refine SOps.val (v := .bool (decide (x72 < x71))) rfl (wantN rfl) (fun _ => by kernel_rfl) ?_
                        refine SOps.nil ?_
                        refine SW.seq ?_
                        by_cases c73 : x72 < x71
                        · replace h := h.1 c73
                          have dc73 : (decide (x72 < x71)) = true := (decide_eq_true c73)
                          refine SW.cond_t (t := decide (x72 < x71)) rfl dc73 ?_
                          refine SW.skip ?_
                          refine SW.seq ?_
                          refine SW.block ?_
                          refine SW.seq ?_
                          refine SW.region ?_
                          obtain ⟨p74, c75, c76, c77, h⟩ := h
                          refine SOps.val (v := pv (some (p74.1, (p74.2 + x72.toNat * 1)))) rfl (wantN rfl) (fun w => ev_iaddr rfl Tryd.underlying48 (size := 1) (by kernel_rfl) rfl rfl c75 c76 c77 w) ?_
                          obtain ⟨x78, c79, h⟩ := h
                          refine SOps.rd (v := .int .u32 x78) rfl (wantN rfl) (fun w hw => ev_load1 rfl (fun _ => by kernel_rfl) (p := (p74.1, (p74.2 + x72.toNat * 1))) rfl c79 w hw) ?_
                          refine SOps.val (v := .int .u32 x78) rfl (wantN rfl) (fun _ => by kernel_rfl) ?_
                          refine SOps.nil ?_
                          refine SW.seq ?_
                          refine SW.region ?_
                          refine SOps.val (v := .string s68) rfl (wantN rfl) (fun _ => by kernel_rfl) ?_
                          refine SOps.val (v := .int .i64 x69) rfl (wantN rfl) (fun _ => by kernel_rfl) ?_
                          refine SOps.enter rfl (wantN rfl) (fun _ => by kernel_rfl) (octet_Short.sound F s68 x69 H _ h) ?_
                          clear h
                          rintro v H83 ⟨x80, x81, e82, rfl, h⟩
                          refine SOps.val (v := .tuple #[.int .i64 x80, .int .i64 x81, errV e82]) rfl (wantN rfl) (fun _ => by kernel_rfl) ?_
                          refine SOps.val (v := .int .i64 x80) rfl (wantN rfl) (fun _ => by kernel_rfl) ?_
                          refine SOps.val (v := .int .i64 x81) rfl (wantN rfl) (fun _ => by kernel_rfl) ?_
                          refine SOps.val (v := errV e82) rfl (wantN rfl) (fun _ => by kernel_rfl) ?_
                          refine SOps.val (v := .int .i64 x80) rfl (wantN rfl) (fun _ => by kernel_rfl) ?_
                          refine SOps.val (v := .int .i64 x81) rfl (wantN rfl) (fun _ => by kernel_rfl) ?_
                          refine SOps.val (v := errV e82) rfl (wantN rfl) (fun _ => by kernel_rfl) ?_
                          refine SOps.nil ?_
                          refine SW.seq ?_
                          refine SW.seq ?_
                          refine SW.region ?_
                          refine SOps.val (v := .int .i64 x80) rfl (wantN rfl) (fun _ => by kernel_rfl) ?_
                          refine SOps.val (v := .int .u32 x78) rfl (wantN rfl) (fun _ => by kernel_rfl) ?_
                          refine SOps.val (v := .int .i64 (w64 x78)) rfl (wantN rfl) (fun _ => by kernel_rfl) ?_
                          refine SOps.val (v := .bool (x80 != (w64 x78))) rfl (wantN rfl) (fun _ => by kernel_rfl) ?_
                          refine SOps.val (v := .bool (x80 != (w64 x78))) rfl (wantN rfl) (fun _ => by kernel_rfl) ?_
                          by_cases c84 : x80 ≠ (w64 x78)
                          · replace h := h.1 c84
                            have dc84 : (x80 != (w64 x78)) = true := (bne_iff_ne.mpr c84)
                            refine SOps.off rfl (wantX (c := (x80 != (w64 x78))) rfl rfl rfl dc84) ?_
                            refine SOps.off rfl (wantX (c := (x80 != (w64 x78))) rfl rfl rfl dc84) ?_
                            refine SOps.val (v := .bool true) rfl (wantN rfl) (fun w => ev_pickT (v := .bool true) rfl (t := (x80 != (w64 x78))) rfl dc84 rfl w) ?_
                            refine SOps.nil ?_
                            refine SW.cond_t (t := true) rfl rfl ?_
                            refine SW.seq ?_
                            refine SW.region ?_
                            refine SOps.val (v := .bool false) rfl (wantN rfl) (fun _ => by kernel_rfl) ?_
                            refine SOps.nil ?_
                            obtain ⟨Hr, hr, h⟩ := h
                            exact SW.ret (retQ.mk (.bool false) (res1 rfl rfl) hr ⟨false, rfl, h⟩)
                          · replace h := h.2 c84
                            have dc84 : (x80 != (w64 x78)) = false := (by simpa using c84)
                            refine SOps.val (v := errV e82) rfl (wantY (c := (x80 != (w64 x78))) rfl rfl rfl dc84) (fun _ => by kernel_rfl) ?_
                            rcases e82 with _ | v85
                            · replace h := h.1 rfl
                              refine SOps.val (v := .bool false) rfl (wantY (c := (x80 != (w64 x78))) rfl rfl rfl dc84) (fun w => ev_errNe (e := none) rfl Tryd.underlying24 rfl rfl w) ?_
                              refine SOps.val (v := .bool false) rfl (wantN rfl) (fun w => ev_pickF (v := .bool false) rfl (t := (x80 != (w64 x78))) rfl dc84 rfl w) ?_
                              refine SOps.nil ?_
                              refine SW.cond_f (t := false) rfl rfl ?_
                              refine SW.skip ?_
                              refine SW.region ?_
                              refine SOps.val (v := .int .i64 x81) rfl (wantN rfl) (fun _ => by kernel_rfl) ?_
                              refine SOps.val (v := .int .i64 x81) rfl (wantN rfl) (fun _ => by kernel_rfl) ?_
                              refine SOps.nil ?_
                              refine SW.region ?_
                              refine SOps.val (v := .int .i64 (w64 (x72 + 1))) rfl (wantN rfl) (fun _ => by kernel_rfl) ?_
                              refine SOps.val (v := .int .i64 (w64 (x72 + 1))) rfl (wantN rfl) (fun _ => by kernel_rfl) ?_
                              refine SOps.nil ?_
                              exact ⟨k4, Nat.lt_succ_self k4, _, l66, l67, s68, x81, l70, x71, w64 (x72 + 1), (Fr.upds_self _ _ ⟨rfl, rfl, rfl, rfl, rfl, rfl, rfl, trivial⟩), h⟩
                            · replace h := h.2 v85 rfl
                              refine SOps.val (v := .bool true) rfl (wantY (c := (x80 != (w64 x78))) rfl rfl rfl dc84) (fun w => ev_errNe (e := some v85) rfl Tryd.underlying24 rfl rfl w) ?_
                              refine SOps.val (v := .bool true) rfl (wantN rfl) (fun w => ev_pickF (v := .bool true) rfl (t := (x80 != (w64 x78))) rfl dc84 rfl w) ?_
                              refine SOps.nil ?_
                              refine SW.cond_t (t := true) rfl rfl ?_
                              refine SW.seq ?_
                              refine SW.region ?_
                              refine SOps.val (v := .bool false) rfl (wantN rfl) (fun _ => by kernel_rfl) ?_
                              refine SOps.nil ?_
                              obtain ⟨Hr, hr, h⟩ := h
                              exact SW.ret (retQ.mk (.bool false) (res1 rfl rfl) hr ⟨false, rfl, h⟩)
                        · replace h := h.2 c73
                          have dc73 : (decide (x72 < x71)) = false := (decide_eq_false c73)
                          refine SW.cond_f (t := decide (x72 < x71)) rfl dc73 ?_
                          refine SW.exit ?_
                          refine SW.seq ?_
                          refine SW.seq ?_
                          refine SW.region ?_
                          refine SOps.val (v := sv l66) rfl (wantN rfl) (fun _ => by kernel_rfl) ?_
                          refine SOps.val (v := .int .i64 (l66.len : Int)) rfl (wantN rfl) (fun _ => by kernel_rfl) ?_
                          refine SOps.val (v := .int .i64 0) rfl (wantN rfl) (fun _ => by kernel_rfl) ?_
                          refine SOps.nil ?_
                          refine SW.block ?_
                          refine SW.loop (fun k5 fr H => ∃ (g : Fr) (l86 : Sl) (s87 : ByteArray) (x88 : Int) (l89 : Sl) (x90 : Int) (x91 : Int), fr = g.upds [(2, sv l86), (7, (.string s87 : Value)), (18, (.int .i64 x88 : Value)), (126, sv l89), (127, (.int .i64 x90 : Value)), (128, (.int .i64 x91 : Value))] ∧ ladinglaw01_OctetRows.l5 F K k5 l86 s87 x88 l89 x90 x91 H) F ⟨_, l67, s68, x69, l66, (l66.len : Int), 0, (Fr.upds_self _ _ ⟨rfl, rfl, rfl, rfl, rfl, rfl, trivial⟩), h⟩ ?_
                          clear h
                          rintro k5 fr H ⟨g, l86, s87, x88, l89, x90, x91, rfl, h⟩
                          cases k5 with
                          | zero => exact h.elim
                          | succ k5 =>
                            replace h : ladinglaw01_OctetRows.r5 F K (ladinglaw01_OctetRows.l5 F K k5) l86 s87 x88 l89 x90 x91 H := h
                            unfold ladinglaw01_OctetRows.r5 at h
                            refine SW.seq ?_
                            refine SW.region ?_
                            refine SOps.val (v := .bool (decide (x91 < x90))) rfl (wantN rfl) (fun _ => by kernel_rfl) ?_
                            refine SOps.nil ?_
                            refine SW.seq ?_
                            by_cases c92 : x91 < x90
                            · replace h := h.1 c92
                              have dc92 : (decide (x91 < x90)) = true := (decide_eq_true c92)
                              refine SW.cond_t (t := decide (x91 < x90)) rfl dc92 ?_
                              refine SW.skip ?_
                              refine SW.seq ?_
                              refine SW.block ?_
                              refine SW.seq ?_
                              refine SW.region ?_
                              obtain ⟨p93, c94, c95, c96, h⟩ := h
                              refine SOps.val (v := pv (some (p93.1, (p93.2 + x91.toNat * 1)))) rfl (wantN rfl) (fun w => ev_iaddr rfl Tryd.underlying49 (size := 1) (by kernel_rfl) rfl rfl c94 c95 c96 w) ?_
                              obtain ⟨x97, c98, h⟩ := h
                              refine SOps.rd (v := .int .i32 x97) rfl (wantN rfl) (fun w hw => ev_load1 rfl (fun _ => by kernel_rfl) (p := (p93.1, (p93.2 + x91.toNat * 1))) rfl c98 w hw) ?_
                              refine SOps.val (v := .int .i32 x97) rfl (wantN rfl) (fun _ => by kernel_rfl) ?_
                              refine SOps.nil ?_
                              refine SW.seq ?_
                              refine SW.region ?_
                              refine SOps.val (v := .string s87) rfl (wantN rfl) (fun _ => by kernel_rfl) ?_
                              refine SOps.val (v := .int .i64 x88) rfl (wantN rfl) (fun _ => by kernel_rfl) ?_
                              refine SOps.enter rfl (wantN rfl) (fun _ => by kernel_rfl) (octet_Turned.sound F s87 x88 H _ h) ?_
                              clear h
                              rintro v H102 ⟨x99, x100, e101, rfl, h⟩
                              refine SOps.val (v := .tuple #[.int .i64 x99, .int .i64 x100, errV e101]) rfl (wantN rfl) (fun _ => by kernel_rfl) ?_
                              refine SOps.val (v := .int .i64 x99) rfl (wantN rfl) (fun _ => by kernel_rfl) ?_
                              refine SOps.val (v := .int .i64 x100) rfl (wantN rfl) (fun _ => by kernel_rfl) ?_
                              refine SOps.val (v := errV e101) rfl (wantN rfl) (fun _ => by kernel_rfl) ?_
                              refine SOps.val (v := .int .i64 x99) rfl (wantN rfl) (fun _ => by kernel_rfl) ?_
                              refine SOps.val (v := .int .i64 x100) rfl (wantN rfl) (fun _ => by kernel_rfl) ?_
                              refine SOps.val (v := errV e101) rfl (wantN rfl) (fun _ => by kernel_rfl) ?_
                              refine SOps.nil ?_
                              refine SW.seq ?_
                              refine SW.seq ?_
                              refine SW.region ?_
                              refine SOps.val (v := .int .i64 x99) rfl (wantN rfl) (fun _ => by kernel_rfl) ?_
                              refine SOps.val (v := .int .i32 x97) rfl (wantN rfl) (fun _ => by kernel_rfl) ?_
                              refine SOps.val (v := .int .i64 (w64 x97)) rfl (wantN rfl) (fun _ => by kernel_rfl) ?_
                              refine SOps.val (v := .bool (x99 != (w64 x97))) rfl (wantN rfl) (fun _ => by kernel_rfl) ?_
                              refine SOps.val (v := .bool (x99 != (w64 x97))) rfl (wantN rfl) (fun _ => by kernel_rfl) ?_
                              by_cases c103 : x99 ≠ (w64 x97)
                              · replace h := h.1 c103
                                have dc103 : (x99 != (w64 x97)) = true := (bne_iff_ne.mpr c103)
                                refine SOps.off rfl (wantX (c := (x99 != (w64 x97))) rfl rfl rfl dc103) ?_
                                refine SOps.off rfl (wantX (c := (x99 != (w64 x97))) rfl rfl rfl dc103) ?_
                                refine SOps.val (v := .bool true) rfl (wantN rfl) (fun w => ev_pickT (v := .bool true) rfl (t := (x99 != (w64 x97))) rfl dc103 rfl w) ?_
                                refine SOps.nil ?_
                                refine SW.cond_t (t := true) rfl rfl ?_
                                refine SW.seq ?_
                                refine SW.region ?_
                                refine SOps.val (v := .bool false) rfl (wantN rfl) (fun _ => by kernel_rfl) ?_
                                refine SOps.nil ?_
                                obtain ⟨Hr, hr, h⟩ := h
                                exact SW.ret (retQ.mk (.bool false) (res1 rfl rfl) hr ⟨false, rfl, h⟩)
                              · replace h := h.2 c103
                                have dc103 : (x99 != (w64 x97)) = false := (by simpa using c103)
                                refine SOps.val (v := errV e101) rfl (wantY (c := (x99 != (w64 x97))) rfl rfl rfl dc103) (fun _ => by kernel_rfl) ?_
                                rcases e101 with _ | v104
                                · replace h := h.1 rfl
                                  refine SOps.val (v := .bool false) rfl (wantY (c := (x99 != (w64 x97))) rfl rfl rfl dc103) (fun w => ev_errNe (e := none) rfl Tryd.underlying24 rfl rfl w) ?_
                                  refine SOps.val (v := .bool false) rfl (wantN rfl) (fun w => ev_pickF (v := .bool false) rfl (t := (x99 != (w64 x97))) rfl dc103 rfl w) ?_
                                  refine SOps.nil ?_
                                  refine SW.cond_f (t := false) rfl rfl ?_
                                  refine SW.skip ?_
                                  refine SW.region ?_
                                  refine SOps.val (v := .int .i64 x100) rfl (wantN rfl) (fun _ => by kernel_rfl) ?_
                                  refine SOps.val (v := .int .i64 x100) rfl (wantN rfl) (fun _ => by kernel_rfl) ?_
                                  refine SOps.nil ?_
                                  refine SW.region ?_
                                  refine SOps.val (v := .int .i64 (w64 (x91 + 1))) rfl (wantN rfl) (fun _ => by kernel_rfl) ?_
                                  refine SOps.val (v := .int .i64 (w64 (x91 + 1))) rfl (wantN rfl) (fun _ => by kernel_rfl) ?_
                                  refine SOps.nil ?_
                                  exact ⟨k5, Nat.lt_succ_self k5, _, l86, s87, x100, l89, x90, w64 (x91 + 1), (Fr.upds_self _ _ ⟨rfl, rfl, rfl, rfl, rfl, rfl, trivial⟩), h⟩
                                · replace h := h.2 v104 rfl
                                  refine SOps.val (v := .bool true) rfl (wantY (c := (x99 != (w64 x97))) rfl rfl rfl dc103) (fun w => ev_errNe (e := some v104) rfl Tryd.underlying24 rfl rfl w) ?_
                                  refine SOps.val (v := .bool true) rfl (wantN rfl) (fun w => ev_pickF (v := .bool true) rfl (t := (x99 != (w64 x97))) rfl dc103 rfl w) ?_
                                  refine SOps.nil ?_
                                  refine SW.cond_t (t := true) rfl rfl ?_
                                  refine SW.seq ?_
                                  refine SW.region ?_
                                  refine SOps.val (v := .bool false) rfl (wantN rfl) (fun _ => by kernel_rfl) ?_
                                  refine SOps.nil ?_
                                  obtain ⟨Hr, hr, h⟩ := h
                                  exact SW.ret (retQ.mk (.bool false) (res1 rfl rfl) hr ⟨false, rfl, h⟩)
                            · replace h := h.2 c92
                              have dc92 : (decide (x91 < x90)) = false := (decide_eq_false c92)
                              refine SW.cond_f (t := decide (x91 < x90)) rfl dc92 ?_
                              refine SW.exit ?_
                              refine SW.seq ?_
                              refine SW.seq ?_
                              refine SW.region ?_
                              refine SOps.val (v := sv l86) rfl (wantN rfl) (fun _ => by kernel_rfl) ?_
                              refine SOps.val (v := .int .i64 (l86.len : Int)) rfl (wantN rfl) (fun _ => by kernel_rfl) ?_
                              refine SOps.val (v := .int .i64 0) rfl (wantN rfl) (fun _ => by kernel_rfl) ?_
                              refine SOps.nil ?_
                              refine SW.block ?_
                              refine SW.loop (fun k6 fr H => ∃ (g : Fr) (l105 : Sl) (s106 : ByteArray) (x107 : Int) (l108 : Sl) (x109 : Int) (x110 : Int), fr = g.upds [(2, sv l105), (7, (.string s106 : Value)), (18, (.int .i64 x107 : Value)), (149, sv l108), (150, (.int .i64 x109 : Value)), (151, (.int .i64 x110 : Value))] ∧ ladinglaw01_OctetRows.l6 F K k6 l105 s106 x107 l108 x109 x110 H) F ⟨_, l86, s87, x88, l86, (l86.len : Int), 0, (Fr.upds_self _ _ ⟨rfl, rfl, rfl, rfl, rfl, rfl, trivial⟩), h⟩ ?_
                              clear h
                              rintro k6 fr H ⟨g, l105, s106, x107, l108, x109, x110, rfl, h⟩
                              cases k6 with
                              | zero => exact h.elim
                              | succ k6 =>
                                replace h : ladinglaw01_OctetRows.r6 F K (ladinglaw01_OctetRows.l6 F K k6) l105 s106 x107 l108 x109 x110 H := h
                                unfold ladinglaw01_OctetRows.r6 at h
                                refine SW.seq ?_
                                refine SW.region ?_
                                refine SOps.val (v := .bool (decide (x110 < x109))) rfl (wantN rfl) (fun _ => by kernel_rfl) ?_
                                refine SOps.nil ?_
                                refine SW.seq ?_
                                by_cases c111 : x110 < x109
                                · replace h := h.1 c111
                                  have dc111 : (decide (x110 < x109)) = true := (decide_eq_true c111)
                                  refine SW.cond_t (t := decide (x110 < x109)) rfl dc111 ?_
                                  refine SW.skip ?_
                                  refine SW.seq ?_
                                  refine SW.block ?_
                                  refine SW.seq ?_
                                  refine SW.region ?_
                                  refine SOps.val (v := .int .i64 x110) rfl (wantN rfl) (fun _ => by kernel_rfl) ?_
                                  obtain ⟨p112, c113, c114, c115, h⟩ := h
                                  refine SOps.val (v := pv (some (p112.1, (p112.2 + x110.toNat * 1)))) rfl (wantN rfl) (fun w => ev_iaddr rfl Tryd.underlying50 (size := 1) (by kernel_rfl) rfl rfl c113 c114 c115 w) ?_
                                  obtain ⟨s116, c117, h⟩ := h
                                  refine SOps.rd (v := .string s116) rfl (wantN rfl) (fun w hw => ev_load1 rfl (fun _ => by kernel_rfl) (p := (p112.1, (p112.2 + x110.toNat * 1))) rfl c117 w hw) ?_
                                  refine SOps.val (v := .int .i64 x110) rfl (wantN rfl) (fun _ => by kernel_rfl) ?_
                                  refine SOps.val (v := .string s116) rfl (wantN rfl) (fun _ => by kernel_rfl) ?_
                                  refine SOps.nil ?_
                                  refine SW.seqJ (fun fr H => ∃ (g : Fr) (l132 : Sl) (s133 : ByteArray) (x134 : Int) (s135 : ByteArray) (l136 : Sl) (x137 : Int) (x138 : Int), fr = g.upds [(2, sv l132), (7, (.string s133 : Value)), (18, (.int .i64 x134 : Value)), (30, (.string s135 : Value)), (149, sv l136), (150, (.int .i64 x137 : Value)), (151, (.int .i64 x138 : Value))] ∧ ladinglaw01_OctetRows.j1 F K (ladinglaw01_OctetRows.l6 F K k6) l132 s133 x134 s135 l136 x137 x138 H) ?_ ?_
                                  · clear h
                                    rintro fr H ⟨g, l132, s133, x134, s135, l136, x137, x138, rfl, h⟩
                                    unfold ladinglaw01_OctetRows.j1 at h
                                    refine SW.seq ?_
                                    refine SW.region ?_
                                    refine SOps.val (v := .string s133) rfl (wantN rfl) (fun _ => by kernel_rfl) ?_
                                    refine SOps.val (v := .int .i64 x134) rfl (wantN rfl) (fun _ => by kernel_rfl) ?_
                                    refine SOps.enter rfl (wantN rfl) (fun _ => by kernel_rfl) (octet_Text.sound F s133 x134 300 H _ h) ?_
                                    clear h
                                    rintro v H142 ⟨s139, x140, e141, rfl, h⟩
                                    refine SOps.val (v := .tuple #[.string s139, .int .i64 x140, errV e141]) rfl (wantN rfl) (fun _ => by kernel_rfl) ?_
                                    refine SOps.val (v := .string s139) rfl (wantN rfl) (fun _ => by kernel_rfl) ?_
                                    refine SOps.val (v := .int .i64 x140) rfl (wantN rfl) (fun _ => by kernel_rfl) ?_
                                    refine SOps.val (v := errV e141) rfl (wantN rfl) (fun _ => by kernel_rfl) ?_
                                    refine SOps.val (v := .string s139) rfl (wantN rfl) (fun _ => by kernel_rfl) ?_
                                    refine SOps.val (v := .int .i64 x140) rfl (wantN rfl) (fun _ => by kernel_rfl) ?_
                                    refine SOps.val (v := errV e141) rfl (wantN rfl) (fun _ => by kernel_rfl) ?_
                                    refine SOps.nil ?_
                                    refine SW.seq ?_
                                    refine SW.seq ?_
                                    refine SW.region ?_
                                    refine SOps.val (v := .string s139) rfl (wantN rfl) (fun _ => by kernel_rfl) ?_
                                    refine SOps.val (v := .string s135) rfl (wantN rfl) (fun _ => by kernel_rfl) ?_
                                    refine SOps.val (v := .bool (!decide (s139 = s135))) rfl (wantN rfl) (fun w => ev_neS rfl rfl rfl w) ?_
                                    refine SOps.val (v := .bool (!decide (s139 = s135))) rfl (wantN rfl) (fun _ => by kernel_rfl) ?_
                                    by_cases c143 : (s139 = s135)
                                    · replace h := h.1 c143
                                      have dc143 : (decide (s139 = s135)) = true := (decide_eq_true c143)
                                      refine SOps.val (v := errV e141) rfl (wantY (c := !decide (s139 = s135)) rfl rfl rfl (not_t dc143)) (fun _ => by kernel_rfl) ?_
                                      rcases e141 with _ | v144
                                      · replace h := h.1 rfl
                                        refine SOps.val (v := .bool false) rfl (wantY (c := !decide (s139 = s135)) rfl rfl rfl (not_t dc143)) (fun w => ev_errNe (e := none) rfl Tryd.underlying24 rfl rfl w) ?_
                                        refine SOps.val (v := .bool false) rfl (wantN rfl) (fun w => ev_pickF (v := .bool false) rfl (t := !decide (s139 = s135)) rfl (not_t dc143) rfl w) ?_
                                        refine SOps.nil ?_
                                        refine SW.cond_f (t := false) rfl rfl ?_
                                        refine SW.skip ?_
                                        refine SW.region ?_
                                        refine SOps.val (v := .int .i64 x140) rfl (wantN rfl) (fun _ => by kernel_rfl) ?_
                                        refine SOps.val (v := .int .i64 x140) rfl (wantN rfl) (fun _ => by kernel_rfl) ?_
                                        refine SOps.nil ?_
                                        refine SW.region ?_
                                        refine SOps.val (v := .int .i64 (w64 (x138 + 1))) rfl (wantN rfl) (fun _ => by kernel_rfl) ?_
                                        refine SOps.val (v := .int .i64 (w64 (x138 + 1))) rfl (wantN rfl) (fun _ => by kernel_rfl) ?_
                                        refine SOps.nil ?_
                                        exact ⟨k6, Nat.lt_succ_self k6, _, l132, s133, x140, l136, x137, w64 (x138 + 1), (Fr.upds_self _ _ ⟨rfl, rfl, rfl, rfl, rfl, rfl, trivial⟩), h⟩
                                      · replace h := h.2 v144 rfl
                                        refine SOps.val (v := .bool true) rfl (wantY (c := !decide (s139 = s135)) rfl rfl rfl (not_t dc143)) (fun w => ev_errNe (e := some v144) rfl Tryd.underlying24 rfl rfl w) ?_
                                        refine SOps.val (v := .bool true) rfl (wantN rfl) (fun w => ev_pickF (v := .bool true) rfl (t := !decide (s139 = s135)) rfl (not_t dc143) rfl w) ?_
                                        refine SOps.nil ?_
                                        refine SW.cond_t (t := true) rfl rfl ?_
                                        refine SW.seq ?_
                                        refine SW.region ?_
                                        refine SOps.val (v := .bool false) rfl (wantN rfl) (fun _ => by kernel_rfl) ?_
                                        refine SOps.nil ?_
                                        obtain ⟨Hr, hr, h⟩ := h
                                        exact SW.ret (retQ.mk (.bool false) (res1 rfl rfl) hr ⟨false, rfl, h⟩)
                                    · replace h := h.2 c143
                                      have dc143 : (decide (s139 = s135)) = false := (decide_eq_false c143)
                                      refine SOps.off rfl (wantX (c := !decide (s139 = s135)) rfl rfl rfl (not_f dc143)) ?_
                                      refine SOps.off rfl (wantX (c := !decide (s139 = s135)) rfl rfl rfl (not_f dc143)) ?_
                                      refine SOps.val (v := .bool true) rfl (wantN rfl) (fun w => ev_pickT (v := .bool true) rfl (t := !decide (s139 = s135)) rfl (not_f dc143) rfl w) ?_
                                      refine SOps.nil ?_
                                      refine SW.cond_t (t := true) rfl rfl ?_
                                      refine SW.seq ?_
                                      refine SW.region ?_
                                      refine SOps.val (v := .bool false) rfl (wantN rfl) (fun _ => by kernel_rfl) ?_
                                      refine SOps.nil ?_
                                      obtain ⟨Hr, hr, h⟩ := h
                                      exact SW.ret (retQ.mk (.bool false) (res1 rfl rfl) hr ⟨false, rfl, h⟩)
                                  · skip
                                    refine SW.seq ?_
                                    refine SW.region ?_
                                    refine SOps.val (v := .int .i64 x110) rfl (wantN rfl) (fun _ => by kernel_rfl) ?_
                                    refine SOps.val (v := sv l105) rfl (wantN rfl) (fun _ => by kernel_rfl) ?_
                                    refine SOps.val (v := .int .i64 (l105.len : Int)) rfl (wantN rfl) (fun _ => by kernel_rfl) ?_
                                    refine SOps.val (v := .int .i64 (w64 ((l105.len : Int) - 1))) rfl (wantN rfl) (fun _ => by kernel_rfl) ?_
                                    refine SOps.val (v := .bool (x110 == (w64 ((l105.len : Int) - 1)))) rfl (wantN rfl) (fun _ => by kernel_rfl) ?_
                                    refine SOps.nil ?_
                                    by_cases c118 : x110 = (w64 ((l105.len : Int) - 1))
                                    · replace h := h.1 c118
                                      have dc118 : (x110 == (w64 ((l105.len : Int) - 1))) = true := (beq_iff_eq.mpr c118)
                                      refine SW.cond_t (t := (x110 == (w64 ((l105.len : Int) - 1)))) rfl dc118 ?_
                                      refine SW.seq ?_
                                      refine SW.region ?_
                                      refine SOps.val (v := .string s106) rfl (wantN rfl) (fun _ => by kernel_rfl) ?_
                                      refine SOps.val (v := .string s106) rfl (wantN rfl) (fun _ => by kernel_rfl) ?_
                                      refine SOps.val (v := .int .i64 (s106.size : Int)) rfl (wantN rfl) (fun _ => by kernel_rfl) ?_
                                      refine SOps.val (v := .int .i64 (w64 ((s106.size : Int) - 1))) rfl (wantN rfl) (fun _ => by kernel_rfl) ?_
                                      obtain ⟨c119, c120, c121, h⟩ := h
                                      refine SOps.val (v := .string (s106.extract (0 : Int).toNat (w64 ((s106.size : Int) - 1)).toNat)) rfl (wantN rfl) (fun w => ev_subS (a := (0 : Int)) (b := (w64 ((s106.size : Int) - 1))) rfl Tryd.underlying9 rfl (Or.inl ⟨rfl, rfl⟩) (Or.inr ⟨_, rfl⟩) c119 c120 c121 w) ?_
                                      refine SOps.val (v := .string (s106.extract (0 : Int).toNat (w64 ((s106.size : Int) - 1)).toNat)) rfl (wantN rfl) (fun _ => by kernel_rfl) ?_
                                      refine SOps.nil ?_
                                      refine SW.seq ?_
                                      refine SW.region ?_
                                      refine SOps.val (v := .string (s106.extract (0 : Int).toNat (w64 ((s106.size : Int) - 1)).toNat)) rfl (wantN rfl) (fun _ => by kernel_rfl) ?_
                                      refine SOps.val (v := .int .i64 x107) rfl (wantN rfl) (fun _ => by kernel_rfl) ?_
                                      refine SOps.enter rfl (wantN rfl) (fun _ => by kernel_rfl) (octet_Text.sound F (s106.extract (0 : Int).toNat (w64 ((s106.size : Int) - 1)).toNat) x107 300 H _ h) ?_
                                      clear h
                                      rintro v H125 ⟨s122, x123, e124, rfl, h⟩
                                      refine SOps.val (v := .tuple #[.string s122, .int .i64 x123, errV e124]) rfl (wantN rfl) (fun _ => by kernel_rfl) ?_
                                      refine SOps.val (v := .string s122) rfl (wantN rfl) (fun _ => by kernel_rfl) ?_
                                      refine SOps.val (v := .int .i64 x123) rfl (wantN rfl) (fun _ => by kernel_rfl) ?_
                                      refine SOps.val (v := errV e124) rfl (wantN rfl) (fun _ => by kernel_rfl) ?_
                                      refine SOps.val (v := .string s122) rfl (wantN rfl) (fun _ => by kernel_rfl) ?_
                                      refine SOps.val (v := .int .i64 x123) rfl (wantN rfl) (fun _ => by kernel_rfl) ?_
                                      refine SOps.val (v := errV e124) rfl (wantN rfl) (fun _ => by kernel_rfl) ?_
                                      refine SOps.nil ?_
                                      refine SW.seq ?_
                                      refine SW.region ?_
                                      refine SOps.val (v := errV e124) rfl (wantN rfl) (fun _ => by kernel_rfl) ?_
                                      refine SOps.enter rfl (wantN rfl) (fun _ => by kernel_rfl) (api_Code.sound F e124 H125 _ h) ?_
                                      clear h
                                      rintro v H127 ⟨x126, rfl, h⟩
                                      refine SOps.val (v := .bool (x126 != 3)) rfl (wantN rfl) (fun _ => by kernel_rfl) ?_
                                      refine SOps.val (v := .bool (x126 != 3)) rfl (wantN rfl) (fun _ => by kernel_rfl) ?_
                                      by_cases c128 : x126 ≠ 3
                                      · replace h := h.1 c128
                                        have dc128 : (x126 != 3) = true := (bne_iff_ne.mpr c128)
                                        refine SOps.off rfl (wantX (c := (x126 != 3)) rfl rfl rfl dc128) ?_
                                        refine SOps.off rfl (wantX (c := (x126 != 3)) rfl rfl rfl dc128) ?_
                                        refine SOps.off rfl (wantX (c := (x126 != 3)) rfl rfl rfl dc128) ?_
                                        refine SOps.off rfl (wantX (c := (x126 != 3)) rfl rfl rfl dc128) ?_
                                        refine SOps.off rfl (wantX (c := (x126 != 3)) rfl rfl rfl dc128) ?_
                                        refine SOps.val (v := .bool true) rfl (wantN rfl) (fun w => ev_pickT (v := .bool true) rfl (t := (x126 != 3)) rfl dc128 rfl w) ?_
                                        refine SOps.nil ?_
                                        refine SW.cond_t (t := true) rfl rfl ?_
                                        refine SW.seq ?_
                                        refine SW.region ?_
                                        refine SOps.val (v := .bool false) rfl (wantN rfl) (fun _ => by kernel_rfl) ?_
                                        refine SOps.nil ?_
                                        obtain ⟨Hr, hr, h⟩ := h
                                        exact SW.ret (retQ.mk (.bool false) (res1 rfl rfl) hr ⟨false, rfl, h⟩)
                                      · replace h := h.2 c128
                                        have dc128 : (x126 != 3) = false := (by simpa using c128)
                                        refine SOps.val (v := errV e124) rfl (wantY (c := (x126 != 3)) rfl rfl rfl dc128) (fun _ => by kernel_rfl) ?_
                                        refine SOps.enter rfl (wantY (c := (x126 != 3)) rfl rfl rfl dc128) (fun _ => by kernel_rfl) (api_Place.sound F e124 H127 _ h) ?_
                                        clear h
                                        rintro v H130 ⟨x129, rfl, h⟩
                                        refine SOps.val (v := .string (s106.extract (0 : Int).toNat (w64 ((s106.size : Int) - 1)).toNat)) rfl (wantY (c := (x126 != 3)) rfl rfl rfl dc128) (fun _ => by kernel_rfl) ?_
                                        refine SOps.val (v := .int .i64 ((s106.extract (0 : Int).toNat (w64 ((s106.size : Int) - 1)).toNat).size : Int)) rfl (wantY (c := (x126 != 3)) rfl rfl rfl dc128) (fun _ => by kernel_rfl) ?_
                                        refine SOps.val (v := .bool (x129 != ((s106.extract (0 : Int).toNat (w64 ((s106.size : Int) - 1)).toNat).size : Int))) rfl (wantY (c := (x126 != 3)) rfl rfl rfl dc128) (fun _ => by kernel_rfl) ?_
                                        refine SOps.val (v := .bool (x129 != ((s106.extract (0 : Int).toNat (w64 ((s106.size : Int) - 1)).toNat).size : Int))) rfl (wantN rfl) (fun w => ev_pickF (v := .bool (x129 != ((s106.extract (0 : Int).toNat (w64 ((s106.size : Int) - 1)).toNat).size : Int))) rfl (t := (x126 != 3)) rfl dc128 rfl w) ?_
                                        refine SOps.nil ?_
                                        by_cases c131 : x129 ≠ ((s106.extract (0 : Int).toNat (w64 ((s106.size : Int) - 1)).toNat).size : Int)
                                        · replace h := h.1 c131
                                          have dc131 : (x129 != ((s106.extract (0 : Int).toNat (w64 ((s106.size : Int) - 1)).toNat).size : Int)) = true := (bne_iff_ne.mpr c131)
                                          refine SW.cond_t (t := (x129 != ((s106.extract (0 : Int).toNat (w64 ((s106.size : Int) - 1)).toNat).size : Int))) rfl dc131 ?_
                                          refine SW.seq ?_
                                          refine SW.region ?_
                                          refine SOps.val (v := .bool false) rfl (wantN rfl) (fun _ => by kernel_rfl) ?_
                                          refine SOps.nil ?_
                                          obtain ⟨Hr, hr, h⟩ := h
                                          exact SW.ret (retQ.mk (.bool false) (res1 rfl rfl) hr ⟨false, rfl, h⟩)
                                        · replace h := h.2 c131
                                          have dc131 : (x129 != ((s106.extract (0 : Int).toNat (w64 ((s106.size : Int) - 1)).toNat).size : Int)) = false := (by simpa using c131)
                                          refine SW.cond_f (t := (x129 != ((s106.extract (0 : Int).toNat (w64 ((s106.size : Int) - 1)).toNat).size : Int))) rfl dc131 ?_
                                          refine SW.skip ?_
                                          exact ⟨_, l105, s106, x107, s116, l108, x109, x110, Fr.upds_self _ _ ⟨rfl, rfl, rfl, rfl, rfl, rfl, rfl, trivial⟩, h⟩
                                    · replace h := h.2 c118
                                      have dc118 : (x110 == (w64 ((l105.len : Int) - 1))) = false := (beq_eq_false_iff_ne.mpr c118)
                                      refine SW.cond_f (t := (x110 == (w64 ((l105.len : Int) - 1)))) rfl dc118 ?_
                                      refine SW.skip ?_
                                      exact ⟨_, l105, s106, x107, s116, l108, x109, x110, Fr.upds_self _ _ ⟨rfl, rfl, rfl, rfl, rfl, rfl, rfl, trivial⟩, h⟩
                                · replace h := h.2 c111
                                  have dc111 : (decide (x110 < x109)) = false := (decide_eq_false c111)
                                  refine SW.cond_f (t := decide (x110 < x109)) rfl dc111 ?_
                                  refine SW.exit ?_
                                  refine SW.seq ?_
                                  refine SW.region ?_
                                  refine SOps.val (v := .int .i64 x107) rfl (wantN rfl) (fun _ => by kernel_rfl) ?_
                                  refine SOps.val (v := .string s106) rfl (wantN rfl) (fun _ => by kernel_rfl) ?_
                                  refine SOps.val (v := .int .i64 (s106.size : Int)) rfl (wantN rfl) (fun _ => by kernel_rfl) ?_
                                  refine SOps.val (v := .bool (x107 == (s106.size : Int))) rfl (wantN rfl) (fun _ => by kernel_rfl) ?_
                                  refine SOps.val (v := .bool (x107 == (s106.size : Int))) rfl (wantN rfl) (fun _ => by kernel_rfl) ?_
                                  refine SOps.nil ?_
                                  obtain ⟨Hr, hr, h⟩ := h
                                  exact SW.ret (retQ.mk (.bool (x107 == (s106.size : Int))) (res1 rfl rfl) hr ⟨(x107 == (s106.size : Int)), rfl, h⟩)
  · replace h := h.2 c6
    have dc6 : q4 = false := (Bool.eq_false_iff.mpr c6)
    refine SW.cond_t (t := !q4) rfl (not_f dc6) ?_
    refine SW.seq ?_
    refine SW.region ?_
    refine SOps.val (v := .bool false) rfl (wantN rfl) (fun _ => by kernel_rfl) ?_
    refine SOps.nil ?_
    obtain ⟨Hr, hr, h⟩ := h
    exact SW.ret (retQ.mk (.bool false) (res1 rfl rfl) hr ⟨false, rfl, h⟩)

end Go.Proofs.YtpnbehgkbfhacaaDoor.K
