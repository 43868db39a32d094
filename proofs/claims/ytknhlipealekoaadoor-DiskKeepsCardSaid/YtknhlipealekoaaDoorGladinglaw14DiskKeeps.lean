import Derived.Test.YtknhlipealekoaaDoorGladinglaw14
set_option linter.unusedVariables false
set_option linter.unusedSimpArgs false
set_option maxRecDepth 100000
namespace Go.Proofs.YtknhlipealekoaaDoor.K
open Go
attribute [local irreducible] SW SOps SQ SCalls retQ

/-! ### lading/ladinglaw14.DiskKeeps: function 5 -/
def ladinglaw14_DiskKeeps.j1 (F : Nat) (K : Bool → SH → Prop) (R1 : Option (Nat × Nat) → Option (Nat × Nat) → Sl → Int → Int → SH → Prop) (p84 : Option (Nat × Nat)) (p85 : Option (Nat × Nat)) (l86 : Sl) (x87 : Int) (x88 : Int) (H : SH) : Prop :=
  R1 p84 p85 l86 x87 (w64 (x88 + 1)) H
def ladinglaw14_DiskKeeps.j2 (F : Nat) (K : Bool → SH → Prop) (R1 : Option (Nat × Nat) → Option (Nat × Nat) → Sl → Int → Int → SH → Prop) (p56 : Option (Nat × Nat)) (p57 : Option (Nat × Nat)) (l58 : Sl) (x59 : Int) (x60 : Int) (H : SH) : Prop :=
  ladinglaw14_DiskKeeps.j1 F K R1 p56 p57 l58 x59 x60 H
def ladinglaw14_DiskKeeps.r2 (F : Nat) (K : Bool → SH → Prop) (R2 : Option (Nat × Nat) → Option (Nat × Nat) → Sl → Int → Int → SH → Prop) (p103 : Option (Nat × Nat)) (p104 : Option (Nat × Nat)) (l105 : Sl) (x106 : Int) (x107 : Int) (H : SH) : Prop :=
  (x107 < x106 →
    ∃ p109, l105.a = some p109 ∧ 0 ≤ x107 ∧ x107 < (l105.len : Int) ∧
    SH.wrs H (p109.1, (p109.2 + x107.toNat * 1)) 1 ∧
    R2 p103 p104 l105 x106 (w64 (x107 + 1)) (SH.setl H (p109.1, (p109.2 + x107.toNat * 1)) [.bool true])
  ) ∧ (¬ (x107 < x106) →
    disk_Disk_Crash.wp F p103 l105 0 H (fun H114 =>
      disk_Disk_Same.wp F p103 p104 H114 (fun q115 H116 =>
        (q115 = true →
          disk_Disk_Waits.wp F p103 H116 (fun x118 H119 =>
            (x118 ≠ 0 →
              ∃ Hr, SH.le Hr H119 ∧ K false Hr
            ) ∧ (¬ (x118 ≠ 0) →
              disk_Disk_Crash.wp F p103 Sl.nil 0 H119 (fun H121 =>
                disk_Disk_Same.wp F p103 p104 H121 (fun q122 H123 =>
                  (q122 = true →
                    disk_Disk_Down.wp F p103 H123 (fun q125 H126 =>
                      ∃ Hr, SH.le Hr H126 ∧ K (!q125) Hr
                    )
                  ) ∧ (¬ (q122 = true) →
                    ∃ Hr, SH.le Hr H123 ∧ K false Hr
                  )
                )
              )
            )
          )
        ) ∧ (¬ (q115 = true) →
          ∃ Hr, SH.le Hr H116 ∧ K false Hr
        )
      )
    )
  )
def ladinglaw14_DiskKeeps.l2 (F : Nat) (K : Bool → SH → Prop) : Nat → Option (Nat × Nat) → Option (Nat × Nat) → Sl → Int → Int → SH → Prop
  | 0, _, _, _, _, _, _ => False
  | k + 1, p103, p104, l105, x106, x107, H => ladinglaw14_DiskKeeps.r2 F K (ladinglaw14_DiskKeeps.l2 F K k) p103 p104 l105 x106 x107 H
def ladinglaw14_DiskKeeps.r1 (F : Nat) (K : Bool → SH → Prop) (R1 : Option (Nat × Nat) → Option (Nat × Nat) → Sl → Int → Int → SH → Prop) (p12 : Option (Nat × Nat)) (p13 : Option (Nat × Nat)) (l14 : Sl) (x15 : Int) (x16 : Int) (H : SH) : Prop :=
  (x16 < x15 →
    ∃ p18, l14.a = some p18 ∧ 0 ≤ x16 ∧ x16 < (l14.len : Int) ∧
    ∃ (x22 : Int) (x23 : Int) (x24 : Int) (x25 : Int) (s26 : ByteArray) (l27 : SlW) (x28 : Int),
    SH.row H (some (p18.1, (p18.2 + x16.toNat * 7))) [.int .i64 x22, .int .i64 x23, .int .i64 x24, .int .u8 x25, .string s26, swv l27, .int .i64 x28] ∧
    ∀ b30, H b30 = none →
    SH.wrs (SH.upd H b30 ⟨[.int .i64 0, .int .i64 0, .int .i64 0, .int .u8 0, .string ByteArray.empty, sv Sl.nil, .int .i64 0], 41, false, 7⟩) (b30, 0) 7 ∧
    ∃ (x33 : Int),
    SH.has (SH.setl (SH.upd H b30 ⟨[.int .i64 0, .int .i64 0, .int .i64 0, .int .u8 0, .string ByteArray.empty, sv Sl.nil, .int .i64 0], 41, false, 7⟩) (b30, 0) [.int .i64 x22, .int .i64 x23, .int .i64 x24, .int .u8 x25, .string s26, swv l27, .int .i64 x28]) (b30, 0) (.int .i64 x33) ∧
    (x33 < 4 →
      ∃ (x36 : Int) (x37 : Int) (x38 : Int) (x39 : Int) (s40 : ByteArray) (l41 : SlW) (x42 : Int),
      SH.row (SH.setl (SH.upd H b30 ⟨[.int .i64 0, .int .i64 0, .int .i64 0, .int .u8 0, .string ByteArray.empty, sv Sl.nil, .int .i64 0], 41, false, 7⟩) (b30, 0) [.int .i64 x22, .int .i64 x23, .int .i64 x24, .int .u8 x25, .string s26, swv l27, .int .i64 x28]) (some (b30, 0)) [.int .i64 x36, .int .i64 x37, .int .i64 x38, .int .u8 x39, .string s40, swv l41, .int .i64 x42] ∧
      ladinglaw14_Do.wp F p12 x36 x37 x38 x39 s40 l41 x42 (SH.setl (SH.upd H b30 ⟨[.int .i64 0, .int .i64 0, .int .i64 0, .int .u8 0, .string ByteArray.empty, sv Sl.nil, .int .i64 0], 41, false, 7⟩) (b30, 0) [.int .i64 x22, .int .i64 x23, .int .i64 x24, .int .u8 x25, .string s26, swv l27, .int .i64 x28]) (fun x44 H45 =>
        ∃ (x46 : Int) (x47 : Int) (x48 : Int) (x49 : Int) (s50 : ByteArray) (l51 : SlW) (x52 : Int),
        SH.row H45 (some (b30, 0)) [.int .i64 x46, .int .i64 x47, .int .i64 x48, .int .u8 x49, .string s50, swv l51, .int .i64 x52] ∧
        ladinglaw14_Do.wp F p13 x46 x47 x48 x49 s50 l51 x52 H45 (fun x54 H55 =>
          ladinglaw14_DiskKeeps.j2 F K R1 p12 p13 l14 x15 x16 H55
        )
      )
    ) ∧ (¬ (x33 < 4) →
      ∃ (x61 : Int),
      SH.has (SH.setl (SH.upd H b30 ⟨[.int .i64 0, .int .i64 0, .int .i64 0, .int .u8 0, .string ByteArray.empty, sv Sl.nil, .int .i64 0], 41, false, 7⟩) (b30, 0) [.int .i64 x22, .int .i64 x23, .int .i64 x24, .int .u8 x25, .string s26, swv l27, .int .i64 x28]) (b30, 0) (.int .i64 x61) ∧
      (x61 = 6 →
        ∃ (x64 : Int) (x65 : Int) (x66 : Int) (x67 : Int) (s68 : ByteArray) (l69 : SlW) (x70 : Int),
        SH.row (SH.setl (SH.upd H b30 ⟨[.int .i64 0, .int .i64 0, .int .i64 0, .int .u8 0, .string ByteArray.empty, sv Sl.nil, .int .i64 0], 41, false, 7⟩) (b30, 0) [.int .i64 x22, .int .i64 x23, .int .i64 x24, .int .u8 x25, .string s26, swv l27, .int .i64 x28]) (some (b30, 0)) [.int .i64 x64, .int .i64 x65, .int .i64 x66, .int .u8 x67, .string s68, swv l69, .int .i64 x70] ∧
        ladinglaw14_Do.wp F p12 x64 x65 x66 x67 s68 l69 x70 (SH.setl (SH.upd H b30 ⟨[.int .i64 0, .int .i64 0, .int .i64 0, .int .u8 0, .string ByteArray.empty, sv Sl.nil, .int .i64 0], 41, false, 7⟩) (b30, 0) [.int .i64 x22, .int .i64 x23, .int .i64 x24, .int .u8 x25, .string s26, swv l27, .int .i64 x28]) (fun x72 H73 =>
          ∃ (x74 : Int) (x75 : Int) (x76 : Int) (x77 : Int) (s78 : ByteArray) (l79 : SlW) (x80 : Int),
          SH.row H73 (some (b30, 0)) [.int .i64 x74, .int .i64 x75, .int .i64 x76, .int .u8 x77, .string s78, swv l79, .int .i64 x80] ∧
          ladinglaw14_Do.wp F p13 x74 x75 x76 x77 s78 l79 x80 H73 (fun x82 H83 =>
            ladinglaw14_DiskKeeps.j2 F K R1 p12 p13 l14 x15 x16 H83
          )
        )
      ) ∧ (¬ (x61 = 6) →
        ladinglaw14_DiskKeeps.j2 F K R1 p12 p13 l14 x15 x16 (SH.setl (SH.upd H b30 ⟨[.int .i64 0, .int .i64 0, .int .i64 0, .int .u8 0, .string ByteArray.empty, sv Sl.nil, .int .i64 0], 41, false, 7⟩) (b30, 0) [.int .i64 x22, .int .i64 x23, .int .i64 x24, .int .u8 x25, .string s26, swv l27, .int .i64 x28])
      )
    )
  ) ∧ (¬ (x16 < x15) →
    disk_Disk_Same.wp F p12 p13 H (fun q91 H92 =>
      (q91 = true →
        disk_Disk_Waits.wp F p12 H92 (fun x94 H95 =>
          disk_Disk_Waits.wp F p13 H95 (fun x96 H97 =>
            (x94 ≠ x96 →
              ∃ Hr, SH.le Hr H97 ∧ K false Hr
            ) ∧ (¬ (x94 ≠ x96) →
              0 ≤ (200 : Int) ∧ (200 : Int).toNat * 1 ≤ 281474976710656 ∧
              ∀ b99, H97 b99 = none →
              ladinglaw14_DiskKeeps.l2 F K F p12 p13 (⟨some (b99, 0), (200 : Int).toNat, (200 : Int).toNat⟩ : Sl) ((⟨some (b99, 0), (200 : Int).toNat, (200 : Int).toNat⟩ : Sl).len : Int) 0 (SH.upd H97 b99 ⟨(Builtin.zeroCells (Value.cells (.bool false : Value)) (200 : Int).toNat).toList, 4, false, (200 : Int).toNat * 1⟩)
            )
          )
        )
      ) ∧ (¬ (q91 = true) →
        ∃ Hr, SH.le Hr H92 ∧ K false Hr
      )
    )
  )
def ladinglaw14_DiskKeeps.l1 (F : Nat) (K : Bool → SH → Prop) : Nat → Option (Nat × Nat) → Option (Nat × Nat) → Sl → Int → Int → SH → Prop
  | 0, _, _, _, _, _, _ => False
  | k + 1, p12, p13, l14, x15, x16, H => ladinglaw14_DiskKeeps.r1 F K (ladinglaw14_DiskKeeps.l1 F K k) p12 p13 l14 x15 x16 H
def ladinglaw14_DiskKeeps.wp (F : Nat) (l1 : Sl) (H : SH) (K : Bool → SH → Prop) : Prop :=
  ladinglaw14_awake.wp F  H (fun q2 H3 =>
    (q2 = true →
      ladinglaw14_Great.wp F l1 H3 (fun q5 H6 =>
        (q5 = true →
          ∃ Hr, SH.le Hr H6 ∧ K true Hr
        ) ∧ (¬ (q5 = true) →
          disk_New.wp F 4 H6 (fun p8 H9 =>
            disk_New.wp F 4 H9 (fun p10 H11 =>
              ladinglaw14_DiskKeeps.l1 F K F p8 p10 l1 (l1.len : Int) 0 H11
            )
          )
        )
      )
    ) ∧ (¬ (q2 = true) →
      ∃ Hr, SH.le Hr H3 ∧ K false Hr
    )
  )
set_option maxHeartbeats 8000000 in
theorem ladinglaw14_DiskKeeps.sound (F : Nat) (l1 : Sl) (H : SH) (K : Bool → SH → Prop) (h : ladinglaw14_DiskKeeps.wp F l1 H K) : SCalls Tryd.prog 5 #[sv l1] H (fun v H' => ∃ (q132 : Bool), v = .bool q132 ∧ K q132 H') := by
  unfold ladinglaw14_DiskKeeps.wp at h
  refine SCalls.body Tryd.func5 rfl (Nat.le_of_ble_eq_true rfl) ?_
  refine SW.seq ?_
  refine SW.region ?_
  refine SOps.val (v := .bool false) rfl (wantN rfl) (fun _ => by kernel_rfl) ?_
  refine SOps.nil ?_
  refine SW.seq ?_
  refine SW.seq ?_
  refine SW.region ?_
  refine SOps.enter rfl (wantN rfl) (fun _ => by kernel_rfl) (ladinglaw14_awake.sound F  H _ h) ?_
  clear h
  rintro v H3 ⟨q2, rfl, h⟩
  refine SOps.val (v := .bool (!q2)) rfl (wantN rfl) (fun _ => by kernel_rfl) ?_
  refine SOps.nil ?_
  by_cases c4 : q2 = true
  · replace h := h.1 c4
    have dc4 : q2 = true := c4
    refine SW.cond_f (t := !q2) rfl (not_t dc4) ?_
    refine SW.skip ?_
    refine SW.seq ?_
    refine SW.seq ?_
    refine SW.region ?_
    refine SOps.val (v := sv l1) rfl (wantN rfl) (fun _ => by kernel_rfl) ?_
    refine SOps.enter rfl (wantN rfl) (fun _ => by kernel_rfl) (ladinglaw14_Great.sound F l1 H3 _ h) ?_
    clear h
    rintro v H6 ⟨q5, rfl, h⟩
    refine SOps.nil ?_
    by_cases c7 : q5 = true
    · replace h := h.1 c7
      have dc7 : q5 = true := c7
      refine SW.cond_t (t := q5) rfl dc7 ?_
      refine SW.seq ?_
      refine SW.region ?_
      refine SOps.val (v := .bool true) rfl (wantN rfl) (fun _ => by kernel_rfl) ?_
      refine SOps.nil ?_
      obtain ⟨Hr, hr, h⟩ := h
      exact SW.ret (retQ.mk (.bool true) (res1 rfl rfl) hr ⟨true, rfl, h⟩)
    · replace h := h.2 c7
      have dc7 : q5 = false := (Bool.eq_false_iff.mpr c7)
      refine SW.cond_f (t := q5) rfl dc7 ?_
      refine SW.skip ?_
      refine SW.seq ?_
      refine SW.region ?_
      refine SOps.enter rfl (wantN rfl) (fun _ => by kernel_rfl) (disk_New.sound F 4 H6 _ h) ?_
      clear h
      rintro v H9 ⟨p8, rfl, h⟩
      refine SOps.enter rfl (wantN rfl) (fun _ => by kernel_rfl) (disk_New.sound F 4 H9 _ h) ?_
      clear h
      rintro v H11 ⟨p10, rfl, h⟩
      refine SOps.val (v := pv p8) rfl (wantN rfl) (fun _ => by kernel_rfl) ?_
      refine SOps.val (v := pv p10) rfl (wantN rfl) (fun _ => by kernel_rfl) ?_
      refine SOps.nil ?_
      refine SW.seq ?_
      refine SW.seq ?_
      refine SW.region ?_
      refine SOps.val (v := sv l1) rfl (wantN rfl) (fun _ => by kernel_rfl) ?_
      refine SOps.val (v := .int .i64 (l1.len : Int)) rfl (wantN rfl) (fun _ => by kernel_rfl) ?_
      refine SOps.val (v := .int .i64 0) rfl (wantN rfl) (fun _ => by kernel_rfl) ?_
      refine SOps.nil ?_
      refine SW.block ?_
      refine SW.loop (fun k1 fr H => ∃ (g : Fr) (p12 : Option (Nat × Nat)) (p13 : Option (Nat × Nat)) (l14 : Sl) (x15 : Int) (x16 : Int), fr = g.upds [(3, pv p12), (4, pv p13), (15, sv l14), (16, (.int .i64 x15 : Value)), (17, (.int .i64 x16 : Value))] ∧ ladinglaw14_DiskKeeps.l1 F K k1 p12 p13 l14 x15 x16 H) F ⟨_, p8, p10, l1, (l1.len : Int), 0, (Fr.upds_self _ _ ⟨rfl, rfl, rfl, rfl, rfl, trivial⟩), h⟩ ?_
      clear h
      rintro k1 fr H ⟨g, p12, p13, l14, x15, x16, rfl, h⟩
      cases k1 with
      | zero => exact h.elim
      | succ k1 =>
        replace h : ladinglaw14_DiskKeeps.r1 F K (ladinglaw14_DiskKeeps.l1 F K k1) p12 p13 l14 x15 x16 H := h
        unfold ladinglaw14_DiskKeeps.r1 at h
        refine SW.seq ?_
        refine SW.region ?_
        refine SOps.val (v := .bool (decide (x16 < x15))) rfl (wantN rfl) (fun _ => by kernel_rfl) ?_
        refine SOps.nil ?_
        refine SW.seq ?_
        by_cases c17 : x16 < x15
        · replace h := h.1 c17
          have dc17 : (decide (x16 < x15)) = true := (decide_eq_true c17)
          refine SW.cond_t (t := decide (x16 < x15)) rfl dc17 ?_
          refine SW.skip ?_
          refine SW.seqJ (fun fr H => ∃ (g : Fr) (p84 : Option (Nat × Nat)) (p85 : Option (Nat × Nat)) (l86 : Sl) (x87 : Int) (x88 : Int), fr = g.upds [(3, pv p84), (4, pv p85), (15, sv l86), (16, (.int .i64 x87 : Value)), (17, (.int .i64 x88 : Value))] ∧ ladinglaw14_DiskKeeps.j1 F K (ladinglaw14_DiskKeeps.l1 F K k1) p84 p85 l86 x87 x88 H) ?_ ?_
          · clear h
            rintro fr H ⟨g, p84, p85, l86, x87, x88, rfl, h⟩
            unfold ladinglaw14_DiskKeeps.j1 at h
            refine SW.region ?_
            refine SOps.val (v := .int .i64 (w64 (x88 + 1))) rfl (wantN rfl) (fun _ => by kernel_rfl) ?_
            refine SOps.val (v := .int .i64 (w64 (x88 + 1))) rfl (wantN rfl) (fun _ => by kernel_rfl) ?_
            refine SOps.nil ?_
            exact ⟨k1, Nat.lt_succ_self k1, _, p84, p85, l86, x87, w64 (x88 + 1), (Fr.upds_self _ _ ⟨rfl, rfl, rfl, rfl, rfl, trivial⟩), h⟩
          · skip
            refine SW.blockJ (fun fr H => ∃ (g : Fr) (p56 : Option (Nat × Nat)) (p57 : Option (Nat × Nat)) (l58 : Sl) (x59 : Int) (x60 : Int), fr = g.upds [(3, pv p56), (4, pv p57), (15, sv l58), (16, (.int .i64 x59 : Value)), (17, (.int .i64 x60 : Value))] ∧ ladinglaw14_DiskKeeps.j2 F K (ladinglaw14_DiskKeeps.l1 F K k1) p56 p57 l58 x59 x60 H) ?_ ?_
            · clear h
              rintro fr H ⟨g, p56, p57, l58, x59, x60, rfl, h⟩
              unfold ladinglaw14_DiskKeeps.j2 at h
              exact ⟨_, p56, p57, l58, x59, x60, Fr.upds_self _ _ ⟨rfl, rfl, rfl, rfl, rfl, trivial⟩, h⟩
            · skip
              refine SW.seq ?_
              refine SW.region ?_
              obtain ⟨p18, c19, c20, c21, h⟩ := h
              refine SOps.val (v := pv (some (p18.1, (p18.2 + x16.toNat * 7)))) rfl (wantN rfl) (fun w => ev_iaddr rfl Tryd.underlying38 (size := 7) (by kernel_rfl) rfl rfl c19 c20 c21 w) ?_
              obtain ⟨x22, x23, x24, x25, s26, l27, x28, c29, h⟩ := h
              refine SOps.rd (v := .agg #[.int .i64 x22, .int .i64 x23, .int .i64 x24, .int .u8 x25, .string s26, swv l27, .int .i64 x28]) rfl (wantN rfl) (fun w hw => ev_loadN rfl (fun _ => by kernel_rfl) (size := 7) (by kernel_rfl) (p := (p18.1, (p18.2 + x16.toNat * 7))) rfl rfl c29 w hw) ?_
              refine SOps.alloc rfl rfl (wantN rfl) (z := .agg #[.int .i64 0, .int .i64 0, .int .i64 0, .int .u8 0, .string ByteArray.empty, sv Sl.nil, .int .i64 0]) (by kernel_rfl) (fun b30 c31 => ?_)
              replace h := h b30 c31
              obtain ⟨c32, h⟩ := h
              refine SOps.storeL (p := (b30, 0)) (v := .agg #[.int .i64 x22, .int .i64 x23, .int .i64 x24, .int .u8 x25, .string s26, swv l27, .int .i64 x28]) (cs := [.int .i64 x22, .int .i64 x23, .int .i64 x24, .int .u8 x25, .string s26, swv l27, .int .i64 x28]) rfl rfl (wantN rfl) (size := 7) (by kernel_rfl) rfl rfl rfl rfl (by simp [Value.oneCell', errV_one, pv, sv, swv]) c32 ?_
              refine SOps.nil ?_
              refine SW.seq ?_
              refine SW.region ?_
              refine SOps.val (v := pv (some (b30, 0))) rfl (wantN rfl) (fun _ => by kernel_rfl) ?_
              obtain ⟨x33, c34, h⟩ := h
              refine SOps.rd (v := .int .i64 x33) rfl (wantN rfl) (fun w hw => ev_load1 rfl (fun _ => by kernel_rfl) (p := (b30, 0)) rfl c34 w hw) ?_
              refine SOps.val (v := .bool (decide (x33 < 4))) rfl (wantN rfl) (fun _ => by kernel_rfl) ?_
              refine SOps.val (v := .bool (decide (x33 < 4))) rfl (wantN rfl) (fun _ => by kernel_rfl) ?_
              by_cases c35 : x33 < 4
              · replace h := h.1 c35
                have dc35 : (decide (x33 < 4)) = true := (decide_eq_true c35)
                refine SOps.off rfl (wantX (c := decide (x33 < 4)) rfl rfl rfl dc35) ?_
                refine SOps.off rfl (wantX (c := decide (x33 < 4)) rfl rfl rfl dc35) ?_
                refine SOps.off rfl (wantX (c := decide (x33 < 4)) rfl rfl rfl dc35) ?_
                refine SOps.val (v := .bool true) rfl (wantN rfl) (fun w => ev_pickT (v := .bool true) rfl (t := decide (x33 < 4)) rfl dc35 rfl w) ?_
                refine SOps.nil ?_
                refine SW.cond_t (t := true) rfl rfl ?_
                refine SW.seq ?_
                refine SW.region ?_
                refine SOps.val (v := pv p12) rfl (wantN rfl) (fun _ => by kernel_rfl) ?_
                obtain ⟨x36, x37, x38, x39, s40, l41, x42, c43, h⟩ := h
                refine SOps.rd (v := .agg #[.int .i64 x36, .int .i64 x37, .int .i64 x38, .int .u8 x39, .string s40, swv l41, .int .i64 x42]) rfl (wantN rfl) (fun w hw => ev_loadN rfl (fun _ => by kernel_rfl) (size := 7) (by kernel_rfl) (p := (b30, 0)) rfl rfl c43 w hw) ?_
                refine SOps.enter rfl (wantN rfl) (fun _ => by kernel_rfl) (ladinglaw14_Do.sound F p12 x36 x37 x38 x39 s40 l41 x42 (SH.setl (SH.upd H b30 ⟨[.int .i64 0, .int .i64 0, .int .i64 0, .int .u8 0, .string ByteArray.empty, sv Sl.nil, .int .i64 0], 41, false, 7⟩) (b30, 0) [.int .i64 x22, .int .i64 x23, .int .i64 x24, .int .u8 x25, .string s26, swv l27, .int .i64 x28]) _ h) ?_
                clear h
                rintro v H45 ⟨x44, rfl, h⟩
                refine SOps.nil ?_
                refine SW.region ?_
                refine SOps.val (v := pv p13) rfl (wantN rfl) (fun _ => by kernel_rfl) ?_
                obtain ⟨x46, x47, x48, x49, s50, l51, x52, c53, h⟩ := h
                refine SOps.rd (v := .agg #[.int .i64 x46, .int .i64 x47, .int .i64 x48, .int .u8 x49, .string s50, swv l51, .int .i64 x52]) rfl (wantN rfl) (fun w hw => ev_loadN rfl (fun _ => by kernel_rfl) (size := 7) (by kernel_rfl) (p := (b30, 0)) rfl rfl c53 w hw) ?_
                refine SOps.enter rfl (wantN rfl) (fun _ => by kernel_rfl) (ladinglaw14_Do.sound F p13 x46 x47 x48 x49 s50 l51 x52 H45 _ h) ?_
                clear h
                rintro v H55 ⟨x54, rfl, h⟩
                refine SOps.nil ?_
                exact ⟨_, p12, p13, l14, x15, x16, Fr.upds_self _ _ ⟨rfl, rfl, rfl, rfl, rfl, trivial⟩, h⟩
              · replace h := h.2 c35
                have dc35 : (decide (x33 < 4)) = false := (decide_eq_false c35)
                refine SOps.val (v := pv (some (b30, 0))) rfl (wantY (c := decide (x33 < 4)) rfl rfl rfl dc35) (fun _ => by kernel_rfl) ?_
                obtain ⟨x61, c62, h⟩ := h
                refine SOps.rd (v := .int .i64 x61) rfl (wantY (c := decide (x33 < 4)) rfl rfl rfl dc35) (fun w hw => ev_load1 rfl (fun _ => by kernel_rfl) (p := (b30, 0)) rfl c62 w hw) ?_
                refine SOps.val (v := .bool (x61 == 6)) rfl (wantY (c := decide (x33 < 4)) rfl rfl rfl dc35) (fun _ => by kernel_rfl) ?_
                refine SOps.val (v := .bool (x61 == 6)) rfl (wantN rfl) (fun w => ev_pickF (v := .bool (x61 == 6)) rfl (t := decide (x33 < 4)) rfl dc35 rfl w) ?_
                refine SOps.nil ?_
                by_cases c63 : x61 = 6
                · replace h := h.1 c63
                  have dc63 : (x61 == 6) = true := (beq_iff_eq.mpr c63)
                  refine SW.cond_t (t := (x61 == 6)) rfl dc63 ?_
                  refine SW.seq ?_
                  refine SW.region ?_
                  refine SOps.val (v := pv p12) rfl (wantN rfl) (fun _ => by kernel_rfl) ?_
                  obtain ⟨x64, x65, x66, x67, s68, l69, x70, c71, h⟩ := h
                  refine SOps.rd (v := .agg #[.int .i64 x64, .int .i64 x65, .int .i64 x66, .int .u8 x67, .string s68, swv l69, .int .i64 x70]) rfl (wantN rfl) (fun w hw => ev_loadN rfl (fun _ => by kernel_rfl) (size := 7) (by kernel_rfl) (p := (b30, 0)) rfl rfl c71 w hw) ?_
                  refine SOps.enter rfl (wantN rfl) (fun _ => by kernel_rfl) (ladinglaw14_Do.sound F p12 x64 x65 x66 x67 s68 l69 x70 (SH.setl (SH.upd H b30 ⟨[.int .i64 0, .int .i64 0, .int .i64 0, .int .u8 0, .string ByteArray.empty, sv Sl.nil, .int .i64 0], 41, false, 7⟩) (b30, 0) [.int .i64 x22, .int .i64 x23, .int .i64 x24, .int .u8 x25, .string s26, swv l27, .int .i64 x28]) _ h) ?_
                  clear h
                  rintro v H73 ⟨x72, rfl, h⟩
                  refine SOps.nil ?_
                  refine SW.region ?_
                  refine SOps.val (v := pv p13) rfl (wantN rfl) (fun _ => by kernel_rfl) ?_
                  obtain ⟨x74, x75, x76, x77, s78, l79, x80, c81, h⟩ := h
                  refine SOps.rd (v := .agg #[.int .i64 x74, .int .i64 x75, .int .i64 x76, .int .u8 x77, .string s78, swv l79, .int .i64 x80]) rfl (wantN rfl) (fun w hw => ev_loadN rfl (fun _ => by kernel_rfl) (size := 7) (by kernel_rfl) (p := (b30, 0)) rfl rfl c81 w hw) ?_
                  refine SOps.enter rfl (wantN rfl) (fun _ => by kernel_rfl) (ladinglaw14_Do.sound F p13 x74 x75 x76 x77 s78 l79 x80 H73 _ h) ?_
                  clear h
                  rintro v H83 ⟨x82, rfl, h⟩
                  refine SOps.nil ?_
                  exact ⟨_, p12, p13, l14, x15, x16, Fr.upds_self _ _ ⟨rfl, rfl, rfl, rfl, rfl, trivial⟩, h⟩
                · replace h := h.2 c63
                  have dc63 : (x61 == 6) = false := (beq_eq_false_iff_ne.mpr c63)
                  refine SW.cond_f (t := (x61 == 6)) rfl dc63 ?_
                  refine SW.skip ?_
                  exact ⟨_, p12, p13, l14, x15, x16, Fr.upds_self _ _ ⟨rfl, rfl, rfl, rfl, rfl, trivial⟩, h⟩
        · replace h := h.2 c17
          have dc17 : (decide (x16 < x15)) = false := (decide_eq_false c17)
          refine SW.cond_f (t := decide (x16 < x15)) rfl dc17 ?_
          refine SW.exit ?_
          refine SW.seq ?_
          refine SW.seq ?_
          refine SW.region ?_
          refine SOps.val (v := pv p12) rfl (wantN rfl) (fun _ => by kernel_rfl) ?_
          refine SOps.val (v := pv p13) rfl (wantN rfl) (fun _ => by kernel_rfl) ?_
          refine SOps.enter rfl (wantN rfl) (fun _ => by kernel_rfl) (disk_Disk_Same.sound F p12 p13 H _ h) ?_
          clear h
          rintro v H92 ⟨q91, rfl, h⟩
          refine SOps.val (v := .bool (!q91)) rfl (wantN rfl) (fun _ => by kernel_rfl) ?_
          refine SOps.val (v := .bool (!q91)) rfl (wantN rfl) (fun _ => by kernel_rfl) ?_
          by_cases c93 : q91 = true
          · replace h := h.1 c93
            have dc93 : q91 = true := c93
            refine SOps.val (v := pv p12) rfl (wantY (c := !q91) rfl rfl rfl (not_t dc93)) (fun _ => by kernel_rfl) ?_
            refine SOps.enter rfl (wantY (c := !q91) rfl rfl rfl (not_t dc93)) (fun _ => by kernel_rfl) (disk_Disk_Waits.sound F p12 H92 _ h) ?_
            clear h
            rintro v H95 ⟨x94, rfl, h⟩
            refine SOps.val (v := pv p13) rfl (wantY (c := !q91) rfl rfl rfl (not_t dc93)) (fun _ => by kernel_rfl) ?_
            refine SOps.enter rfl (wantY (c := !q91) rfl rfl rfl (not_t dc93)) (fun _ => by kernel_rfl) (disk_Disk_Waits.sound F p13 H95 _ h) ?_
            clear h
            rintro v H97 ⟨x96, rfl, h⟩
            refine SOps.val (v := .bool (x94 != x96)) rfl (wantY (c := !q91) rfl rfl rfl (not_t dc93)) (fun _ => by kernel_rfl) ?_
            refine SOps.val (v := .bool (x94 != x96)) rfl (wantN rfl) (fun w => ev_pickF (v := .bool (x94 != x96)) rfl (t := !q91) rfl (not_t dc93) rfl w) ?_
            refine SOps.nil ?_
            by_cases c98 : x94 ≠ x96
            · replace h := h.1 c98
              have dc98 : (x94 != x96) = true := (bne_iff_ne.mpr c98)
              refine SW.cond_t (t := (x94 != x96)) rfl dc98 ?_
              refine SW.seq ?_
              refine SW.region ?_
              refine SOps.val (v := .bool false) rfl (wantN rfl) (fun _ => by kernel_rfl) ?_
              refine SOps.nil ?_
              obtain ⟨Hr, hr, h⟩ := h
              exact SW.ret (retQ.mk (.bool false) (res1 rfl rfl) hr ⟨false, rfl, h⟩)
            · replace h := h.2 c98
              have dc98 : (x94 != x96) = false := (by simpa using c98)
              refine SW.cond_f (t := (x94 != x96)) rfl dc98 ?_
              refine SW.skip ?_
              refine SW.seq ?_
              refine SW.region ?_
              obtain ⟨c101, c102, h⟩ := h
              refine SOps.make (z := .bool false) (size := 1) (bytes := 1) rfl rfl (wantN rfl) Tryd.underlying22 (by kernel_rfl) rfl (by decide) (by decide) rfl rfl c101 c102 (fun b99 c100 => ?_)
              replace h := h b99 c100
              refine SOps.val (v := sv (⟨some (b99, 0), (200 : Int).toNat, (200 : Int).toNat⟩ : Sl)) rfl (wantN rfl) (fun _ => by kernel_rfl) ?_
              refine SOps.nil ?_
              refine SW.seq ?_
              refine SW.seq ?_
              refine SW.region ?_
              refine SOps.val (v := sv (⟨some (b99, 0), (200 : Int).toNat, (200 : Int).toNat⟩ : Sl)) rfl (wantN rfl) (fun _ => by kernel_rfl) ?_
              refine SOps.val (v := .int .i64 ((⟨some (b99, 0), (200 : Int).toNat, (200 : Int).toNat⟩ : Sl).len : Int)) rfl (wantN rfl) (fun _ => by kernel_rfl) ?_
              refine SOps.val (v := .int .i64 0) rfl (wantN rfl) (fun _ => by kernel_rfl) ?_
              refine SOps.nil ?_
              refine SW.block ?_
              refine SW.loop (fun k2 fr H => ∃ (g : Fr) (p103 : Option (Nat × Nat)) (p104 : Option (Nat × Nat)) (l105 : Sl) (x106 : Int) (x107 : Int), fr = g.upds [(3, pv p103), (4, pv p104), (7, sv l105), (49, (.int .i64 x106 : Value)), (50, (.int .i64 x107 : Value))] ∧ ladinglaw14_DiskKeeps.l2 F K k2 p103 p104 l105 x106 x107 H) F ⟨_, p12, p13, (⟨some (b99, 0), (200 : Int).toNat, (200 : Int).toNat⟩ : Sl), ((⟨some (b99, 0), (200 : Int).toNat, (200 : Int).toNat⟩ : Sl).len : Int), 0, (Fr.upds_self _ _ ⟨rfl, rfl, rfl, rfl, rfl, trivial⟩), h⟩ ?_
              clear h
              rintro k2 fr H ⟨g, p103, p104, l105, x106, x107, rfl, h⟩
              cases k2 with
              | zero => exact h.elim
              | succ k2 =>
                replace h : ladinglaw14_DiskKeeps.r2 F K (ladinglaw14_DiskKeeps.l2 F K k2) p103 p104 l105 x106 x107 H := h
                unfold ladinglaw14_DiskKeeps.r2 at h
                refine SW.seq ?_
                refine SW.region ?_
                refine SOps.val (v := .bool (decide (x107 < x106))) rfl (wantN rfl) (fun _ => by kernel_rfl) ?_
                refine SOps.nil ?_
                refine SW.seq ?_
                by_cases c108 : x107 < x106
                · replace h := h.1 c108
                  have dc108 : (decide (x107 < x106)) = true := (decide_eq_true c108)
                  refine SW.cond_t (t := decide (x107 < x106)) rfl dc108 ?_
                  refine SW.skip ?_
                  refine SW.seq ?_
                  refine SW.block ?_
                  refine SW.seq ?_
                  refine SW.region ?_
                  refine SOps.val (v := .int .i64 x107) rfl (wantN rfl) (fun _ => by kernel_rfl) ?_
                  refine SOps.val (v := .int .i64 x107) rfl (wantN rfl) (fun _ => by kernel_rfl) ?_
                  refine SOps.nil ?_
                  refine SW.region ?_
                  refine SOps.val (v := sv l105) rfl (wantN rfl) (fun _ => by kernel_rfl) ?_
                  refine SOps.val (v := .int .i64 x107) rfl (wantN rfl) (fun _ => by kernel_rfl) ?_
                  obtain ⟨p109, c110, c111, c112, h⟩ := h
                  refine SOps.val (v := pv (some (p109.1, (p109.2 + x107.toNat * 1)))) rfl (wantN rfl) (fun w => ev_iaddr rfl Tryd.underlying22 (size := 1) (by kernel_rfl) rfl rfl c110 c111 c112 w) ?_
                  obtain ⟨c113, h⟩ := h
                  refine SOps.storeL (p := (p109.1, (p109.2 + x107.toNat * 1))) (v := .bool true) (cs := [.bool true]) rfl rfl (wantN rfl) (size := 1) (by kernel_rfl) rfl rfl rfl rfl (by simp [Value.oneCell', errV_one, pv, sv]) c113 ?_
                  refine SOps.nil ?_
                  refine SW.region ?_
                  refine SOps.val (v := .int .i64 (w64 (x107 + 1))) rfl (wantN rfl) (fun _ => by kernel_rfl) ?_
                  refine SOps.val (v := .int .i64 (w64 (x107 + 1))) rfl (wantN rfl) (fun _ => by kernel_rfl) ?_
                  refine SOps.nil ?_
                  exact ⟨k2, Nat.lt_succ_self k2, _, p103, p104, l105, x106, w64 (x107 + 1), (Fr.upds_self _ _ ⟨rfl, rfl, rfl, rfl, rfl, trivial⟩), h⟩
                · replace h := h.2 c108
                  have dc108 : (decide (x107 < x106)) = false := (decide_eq_false c108)
                  refine SW.cond_f (t := decide (x107 < x106)) rfl dc108 ?_
                  refine SW.exit ?_
                  refine SW.seq ?_
                  refine SW.region ?_
                  refine SOps.val (v := pv p103) rfl (wantN rfl) (fun _ => by kernel_rfl) ?_
                  refine SOps.val (v := sv l105) rfl (wantN rfl) (fun _ => by kernel_rfl) ?_
                  refine SOps.val (v := .agg #[sv l105, .int .i64 0]) rfl (wantN rfl) (fun _ => by kernel_rfl) ?_
                  refine SOps.enter rfl (wantN rfl) (fun _ => by kernel_rfl) (disk_Disk_Crash.sound F p103 l105 0 H _ h) ?_
                  clear h
                  rintro v H114 ⟨rfl, h⟩
                  refine SOps.nil ?_
                  refine SW.seq ?_
                  refine SW.seq ?_
                  refine SW.region ?_
                  refine SOps.val (v := pv p103) rfl (wantN rfl) (fun _ => by kernel_rfl) ?_
                  refine SOps.val (v := pv p104) rfl (wantN rfl) (fun _ => by kernel_rfl) ?_
                  refine SOps.enter rfl (wantN rfl) (fun _ => by kernel_rfl) (disk_Disk_Same.sound F p103 p104 H114 _ h) ?_
                  clear h
                  rintro v H116 ⟨q115, rfl, h⟩
                  refine SOps.val (v := .bool (!q115)) rfl (wantN rfl) (fun _ => by kernel_rfl) ?_
                  refine SOps.val (v := .bool (!q115)) rfl (wantN rfl) (fun _ => by kernel_rfl) ?_
                  by_cases c117 : q115 = true
                  · replace h := h.1 c117
                    have dc117 : q115 = true := c117
                    refine SOps.val (v := pv p103) rfl (wantY (c := !q115) rfl rfl rfl (not_t dc117)) (fun _ => by kernel_rfl) ?_
                    refine SOps.enter rfl (wantY (c := !q115) rfl rfl rfl (not_t dc117)) (fun _ => by kernel_rfl) (disk_Disk_Waits.sound F p103 H116 _ h) ?_
                    clear h
                    rintro v H119 ⟨x118, rfl, h⟩
                    refine SOps.val (v := .bool (x118 != 0)) rfl (wantY (c := !q115) rfl rfl rfl (not_t dc117)) (fun _ => by kernel_rfl) ?_
                    refine SOps.val (v := .bool (x118 != 0)) rfl (wantN rfl) (fun w => ev_pickF (v := .bool (x118 != 0)) rfl (t := !q115) rfl (not_t dc117) rfl w) ?_
                    refine SOps.nil ?_
                    by_cases c120 : x118 ≠ 0
                    · replace h := h.1 c120
                      have dc120 : (x118 != 0) = true := (bne_iff_ne.mpr c120)
                      refine SW.cond_t (t := (x118 != 0)) rfl dc120 ?_
                      refine SW.seq ?_
                      refine SW.region ?_
                      refine SOps.val (v := .bool false) rfl (wantN rfl) (fun _ => by kernel_rfl) ?_
                      refine SOps.nil ?_
                      obtain ⟨Hr, hr, h⟩ := h
                      exact SW.ret (retQ.mk (.bool false) (res1 rfl rfl) hr ⟨false, rfl, h⟩)
                    · replace h := h.2 c120
                      have dc120 : (x118 != 0) = false := (by simpa using c120)
                      refine SW.cond_f (t := (x118 != 0)) rfl dc120 ?_
                      refine SW.skip ?_
                      refine SW.seq ?_
                      refine SW.region ?_
                      refine SOps.val (v := pv p103) rfl (wantN rfl) (fun _ => by kernel_rfl) ?_
                      refine SOps.val (v := .agg #[sv Sl.nil, .int .i64 0]) rfl (wantN rfl) (fun _ => by kernel_rfl) ?_
                      refine SOps.enter rfl (wantN rfl) (fun _ => by kernel_rfl) (disk_Disk_Crash.sound F p103 Sl.nil 0 H119 _ h) ?_
                      clear h
                      rintro v H121 ⟨rfl, h⟩
                      refine SOps.nil ?_
                      refine SW.seq ?_
                      refine SW.region ?_
                      refine SOps.val (v := pv p103) rfl (wantN rfl) (fun _ => by kernel_rfl) ?_
                      refine SOps.val (v := pv p104) rfl (wantN rfl) (fun _ => by kernel_rfl) ?_
                      refine SOps.enter rfl (wantN rfl) (fun _ => by kernel_rfl) (disk_Disk_Same.sound F p103 p104 H121 _ h) ?_
                      clear h
                      rintro v H123 ⟨q122, rfl, h⟩
                      refine SOps.val (v := .bool q122) rfl (wantN rfl) (fun _ => by kernel_rfl) ?_
                      by_cases c124 : q122 = true
                      · replace h := h.1 c124
                        have dc124 : q122 = true := c124
                        refine SOps.val (v := pv p103) rfl (wantY (c := q122) rfl rfl rfl dc124) (fun _ => by kernel_rfl) ?_
                        refine SOps.enter rfl (wantY (c := q122) rfl rfl rfl dc124) (fun _ => by kernel_rfl) (disk_Disk_Down.sound F p103 H123 _ h) ?_
                        clear h
                        rintro v H126 ⟨q125, rfl, h⟩
                        refine SOps.val (v := .bool (!q125)) rfl (wantY (c := q122) rfl rfl rfl dc124) (fun _ => by kernel_rfl) ?_
                        refine SOps.val (v := .bool (!q125)) rfl (wantN rfl) (fun w => ev_pickT (v := .bool (!q125)) rfl (t := q122) rfl dc124 rfl w) ?_
                        refine SOps.val (v := .bool (!q125)) rfl (wantN rfl) (fun _ => by kernel_rfl) ?_
                        refine SOps.nil ?_
                        obtain ⟨Hr, hr, h⟩ := h
                        exact SW.ret (retQ.mk (.bool (!q125)) (res1 rfl rfl) hr ⟨!q125, rfl, h⟩)
                      · replace h := h.2 c124
                        have dc124 : q122 = false := (Bool.eq_false_iff.mpr c124)
                        refine SOps.off rfl (wantX (c := q122) rfl rfl rfl dc124) ?_
                        refine SOps.off rfl (wantX (c := q122) rfl rfl rfl dc124) ?_
                        refine SOps.off rfl (wantX (c := q122) rfl rfl rfl dc124) ?_
                        refine SOps.val (v := .bool false) rfl (wantN rfl) (fun w => ev_pickF (v := .bool false) rfl (t := q122) rfl dc124 rfl w) ?_
                        refine SOps.val (v := .bool false) rfl (wantN rfl) (fun _ => by kernel_rfl) ?_
                        refine SOps.nil ?_
                        obtain ⟨Hr, hr, h⟩ := h
                        exact SW.ret (retQ.mk (.bool false) (res1 rfl rfl) hr ⟨false, rfl, h⟩)
                  · replace h := h.2 c117
                    have dc117 : q115 = false := (Bool.eq_false_iff.mpr c117)
                    refine SOps.off rfl (wantX (c := !q115) rfl rfl rfl (not_f dc117)) ?_
                    refine SOps.off rfl (wantX (c := !q115) rfl rfl rfl (not_f dc117)) ?_
                    refine SOps.off rfl (wantX (c := !q115) rfl rfl rfl (not_f dc117)) ?_
                    refine SOps.val (v := .bool true) rfl (wantN rfl) (fun w => ev_pickT (v := .bool true) rfl (t := !q115) rfl (not_f dc117) rfl w) ?_
                    refine SOps.nil ?_
                    refine SW.cond_t (t := true) rfl rfl ?_
                    refine SW.seq ?_
                    refine SW.region ?_
                    refine SOps.val (v := .bool false) rfl (wantN rfl) (fun _ => by kernel_rfl) ?_
                    refine SOps.nil ?_
                    obtain ⟨Hr, hr, h⟩ := h
                    exact SW.ret (retQ.mk (.bool false) (res1 rfl rfl) hr ⟨false, rfl, h⟩)
          · replace h := h.2 c93
            have dc93 : q91 = false := (Bool.eq_false_iff.mpr c93)
            refine SOps.off rfl (wantX (c := !q91) rfl rfl rfl (not_f dc93)) ?_
            refine SOps.off rfl (wantX (c := !q91) rfl rfl rfl (not_f dc93)) ?_
            refine SOps.off rfl (wantX (c := !q91) rfl rfl rfl (not_f dc93)) ?_
            refine SOps.off rfl (wantX (c := !q91) rfl rfl rfl (not_f dc93)) ?_
            refine SOps.off rfl (wantX (c := !q91) rfl rfl rfl (not_f dc93)) ?_
            refine SOps.val (v := .bool true) rfl (wantN rfl) (fun w => ev_pickT (v := .bool true) rfl (t := !q91) rfl (not_f dc93) rfl w) ?_
            refine SOps.nil ?_
            refine SW.cond_t (t := true) rfl rfl ?_
            refine SW.seq ?_
            refine SW.region ?_
            refine SOps.val (v := .bool false) rfl (wantN rfl) (fun _ => by kernel_rfl) ?_
            refine SOps.nil ?_
            obtain ⟨Hr, hr, h⟩ := h
            exact SW.ret (retQ.mk (.bool false) (res1 rfl rfl) hr ⟨false, rfl, h⟩)
  · replace h := h.2 c4
    have dc4 : q2 = false := (Bool.eq_false_iff.mpr c4)
    refine SW.cond_t (t := !q2) rfl (not_f dc4) ?_
    refine SW.seq ?_
    refine SW.region ?_
    refine SOps.val (v := .bool false) rfl (wantN rfl) (fun _ => by kernel_rfl) ?_
    refine SOps.nil ?_
    obtain ⟨Hr, hr, h⟩ := h
    exact SW.ret (retQ.mk (.bool false) (res1 rfl rfl) hr ⟨false, rfl, h⟩)

end Go.Proofs.YtknhlipealekoaaDoor.K
