import Derived.Test.YtkfbmoekghbgbaaGnet
set_option linter.unusedVariables false
set_option linter.unusedSimpArgs false
set_option maxRecDepth 100000
namespace Go.Proofs.Ytkfbmoekghbgbaa.K
open Go
attribute [local irreducible] SW SOps SQ SCalls retQ

/-! ### lading/ladinglaw19.NetNames: function 5 -/
def ladinglaw19_NetNames.r2 (F : Nat) (K : Bool → SH → Prop) (R1 : Option (Nat × Nat) → Nat → Sl → Int → Int → SH → Prop) (R2 : Option (Nat × Nat) → Nat → Sl → Int → Int → Sl → Int → Int → SH → Prop) (p87 : Option (Nat × Nat)) (b88 : Nat) (l89 : Sl) (x90 : Int) (x91 : Int) (l92 : Sl) (x93 : Int) (x94 : Int) (H : SH) : Prop :=
  (x94 < x93 →
    ∃ p96, l92.a = some p96 ∧ 0 ≤ x94 ∧ x94 < (l92.len : Int) ∧
    ∃ (x100 : Int) (x101 : Int) (s102 : ByteArray),
    SH.row H (some (p96.1, (p96.2 + x94.toNat * 3))) [.int .i64 x100, .int .i64 x101, .string s102] ∧
    ∀ b104, H b104 = none →
    SH.wrs (SH.upd H b104 ⟨[.int .i64 0, .int .i64 0, .string ByteArray.empty], 45, false, 3⟩) (b104, 0) 3 ∧
    ∃ (x107 : Int),
    SH.has (SH.setl (SH.upd H b104 ⟨[.int .i64 0, .int .i64 0, .string ByteArray.empty], 45, false, 3⟩) (b104, 0) [.int .i64 x100, .int .i64 x101, .string s102]) (b104, 0) (.int .i64 x107) ∧
    0 ≤ x107 ∧ x107 < (6 : Int) ∧
    ∃ (x111 : Int),
    SH.has (SH.setl (SH.upd H b104 ⟨[.int .i64 0, .int .i64 0, .string ByteArray.empty], 45, false, 3⟩) (b104, 0) [.int .i64 x100, .int .i64 x101, .string s102]) (b88, (0 + x107.toNat * 1)) (.int .i64 x111) ∧
    (x111 = 0 →
      ∃ Hr, SH.le Hr (SH.setl (SH.upd H b104 ⟨[.int .i64 0, .int .i64 0, .string ByteArray.empty], 45, false, 3⟩) (b104, 0) [.int .i64 x100, .int .i64 x101, .string s102]) ∧ K false Hr
    ) ∧ (¬ (x111 = 0) →
      ∃ (x114 : Int),
      SH.has (SH.setl (SH.upd H b104 ⟨[.int .i64 0, .int .i64 0, .string ByteArray.empty], 45, false, 3⟩) (b104, 0) [.int .i64 x100, .int .i64 x101, .string s102]) (b104, 0) (.int .i64 x114) ∧
      ∃ (x116 : Int),
      SH.has (SH.setl (SH.upd H b104 ⟨[.int .i64 0, .int .i64 0, .string ByteArray.empty], 45, false, 3⟩) (b104, 0) [.int .i64 x100, .int .i64 x101, .string s102]) (b104, 1) (.int .i64 x116) ∧
      (x114 = x116 →
        ∃ Hr, SH.le Hr (SH.setl (SH.upd H b104 ⟨[.int .i64 0, .int .i64 0, .string ByteArray.empty], 45, false, 3⟩) (b104, 0) [.int .i64 x100, .int .i64 x101, .string s102]) ∧ K false Hr
      ) ∧ (¬ (x114 = x116) →
        R2 p87 b88 l89 x90 x91 l92 x93 (w64 (x94 + 1)) (SH.setl (SH.upd H b104 ⟨[.int .i64 0, .int .i64 0, .string ByteArray.empty], 45, false, 3⟩) (b104, 0) [.int .i64 x100, .int .i64 x101, .string s102])
      )
    )
  ) ∧ (¬ (x94 < x93) →
    R1 p87 b88 l89 x90 (w64 (x91 + 1)) H
  )
def ladinglaw19_NetNames.l2 (F : Nat) (K : Bool → SH → Prop) (R1 : Option (Nat × Nat) → Nat → Sl → Int → Int → SH → Prop) : Nat → Option (Nat × Nat) → Nat → Sl → Int → Int → Sl → Int → Int → SH → Prop
  | 0, _, _, _, _, _, _, _, _, _ => False
  | k + 1, p87, b88, l89, x90, x91, l92, x93, x94, H => ladinglaw19_NetNames.r2 F K R1 (ladinglaw19_NetNames.l2 F K R1 k) p87 b88 l89 x90 x91 l92 x93 x94 H
def ladinglaw19_NetNames.j1 (F : Nat) (K : Bool → SH → Prop) (R1 : Option (Nat × Nat) → Nat → Sl → Int → Int → SH → Prop) (p79 : Option (Nat × Nat)) (b80 : Nat) (l81 : Sl) (x82 : Int) (x83 : Int) (H : SH) : Prop :=
  net_Net_All.wp F p79 H (fun l85 H86 =>
    ladinglaw19_NetNames.l2 F K R1 F p79 b80 l81 x82 x83 l85 (l85.len : Int) 0 H86
  )
def ladinglaw19_NetNames.j2 (F : Nat) (K : Bool → SH → Prop) (R1 : Option (Nat × Nat) → Nat → Sl → Int → Int → SH → Prop) (p53 : Option (Nat × Nat)) (b54 : Nat) (l55 : Sl) (x56 : Int) (x57 : Int) (H : SH) : Prop :=
  ladinglaw19_NetNames.j1 F K R1 p53 b54 l55 x56 x57 H
def ladinglaw19_NetNames.r1 (F : Nat) (K : Bool → SH → Prop) (R1 : Option (Nat × Nat) → Nat → Sl → Int → Int → SH → Prop) (p10 : Option (Nat × Nat)) (b11 : Nat) (l12 : Sl) (x13 : Int) (x14 : Int) (H : SH) : Prop :=
  (x14 < x13 →
    ∃ p16, l12.a = some p16 ∧ 0 ≤ x14 ∧ x14 < (l12.len : Int) ∧
    ∃ (x20 : Int) (x21 : Int) (x22 : Int) (x23 : Int) (s24 : ByteArray),
    SH.row H (some (p16.1, (p16.2 + x14.toNat * 5))) [.int .i64 x20, .int .i64 x21, .int .i64 x22, .int .u8 x23, .string s24] ∧
    ∀ b26, H b26 = none →
    SH.wrs (SH.upd H b26 ⟨[.int .i64 0, .int .i64 0, .int .i64 0, .int .u8 0, .string ByteArray.empty], 53, false, 5⟩) (b26, 0) 5 ∧
    ∃ (s29 : ByteArray),
    SH.has (SH.setl (SH.upd H b26 ⟨[.int .i64 0, .int .i64 0, .int .i64 0, .int .u8 0, .string ByteArray.empty], 53, false, 5⟩) (b26, 0) [.int .i64 x20, .int .i64 x21, .int .i64 x22, .int .u8 x23, .string s24]) (b26, 4) (.string s29) ∧
    ((s29.size : Int) > 100 →
      ∃ Hr, SH.le Hr (SH.setl (SH.upd H b26 ⟨[.int .i64 0, .int .i64 0, .int .i64 0, .int .u8 0, .string ByteArray.empty], 53, false, 5⟩) (b26, 0) [.int .i64 x20, .int .i64 x21, .int .i64 x22, .int .u8 x23, .string s24]) ∧ K true Hr
    ) ∧ (¬ ((s29.size : Int) > 100) →
      ∃ (x32 : Int),
      SH.has (SH.setl (SH.upd H b26 ⟨[.int .i64 0, .int .i64 0, .int .i64 0, .int .u8 0, .string ByteArray.empty], 53, false, 5⟩) (b26, 0) [.int .i64 x20, .int .i64 x21, .int .i64 x22, .int .u8 x23, .string s24]) (b26, 0) (.int .i64 x32) ∧
      (x32 = 0 →
        ∃ (x35 : Int),
        SH.has (SH.setl (SH.upd H b26 ⟨[.int .i64 0, .int .i64 0, .int .i64 0, .int .u8 0, .string ByteArray.empty], 53, false, 5⟩) (b26, 0) [.int .i64 x20, .int .i64 x21, .int .i64 x22, .int .u8 x23, .string s24]) (b26, 1) (.int .i64 x35) ∧
        ∃ (x37 : Int),
        SH.has (SH.setl (SH.upd H b26 ⟨[.int .i64 0, .int .i64 0, .int .i64 0, .int .u8 0, .string ByteArray.empty], 53, false, 5⟩) (b26, 0) [.int .i64 x20, .int .i64 x21, .int .i64 x22, .int .u8 x23, .string s24]) (b26, 2) (.int .i64 x37) ∧
        ∃ (s39 : ByteArray),
        SH.has (SH.setl (SH.upd H b26 ⟨[.int .i64 0, .int .i64 0, .int .i64 0, .int .u8 0, .string ByteArray.empty], 53, false, 5⟩) (b26, 0) [.int .i64 x20, .int .i64 x21, .int .i64 x22, .int .u8 x23, .string s24]) (b26, 4) (.string s39) ∧
        net_Net_Send.wp F p10 x35 x37 s39 (SH.setl (SH.upd H b26 ⟨[.int .i64 0, .int .i64 0, .int .i64 0, .int .u8 0, .string ByteArray.empty], 53, false, 5⟩) (b26, 0) [.int .i64 x20, .int .i64 x21, .int .i64 x22, .int .u8 x23, .string s24]) (fun e41 H42 =>
          (e41 = none →
            ∃ (x44 : Int),
            SH.has H42 (b26, 1) (.int .i64 x44) ∧
            0 ≤ x44 ∧ x44 < (6 : Int) ∧
            ∃ (x48 : Int),
            SH.has H42 (b11, (0 + x44.toNat * 1)) (.int .i64 x48) ∧
            0 ≤ x44 ∧ x44 < (6 : Int) ∧
            SH.wrs H42 (b11, (0 + x44.toNat * 1)) 1 ∧
            ladinglaw19_NetNames.j2 F K R1 p10 b11 l12 x13 x14 (SH.setl H42 (b11, (0 + x44.toNat * 1)) [.int .i64 (w64 (x48 + 1000))])
          ) ∧ (∀ v43, e41 = some v43 →
            ladinglaw19_NetNames.j2 F K R1 p10 b11 l12 x13 x14 H42
          )
        )
      ) ∧ (¬ (x32 = 0) →
        (x32 = 4 →
          ∃ (x59 : Int),
          SH.has (SH.setl (SH.upd H b26 ⟨[.int .i64 0, .int .i64 0, .int .i64 0, .int .u8 0, .string ByteArray.empty], 53, false, 5⟩) (b26, 0) [.int .i64 x20, .int .i64 x21, .int .i64 x22, .int .u8 x23, .string s24]) (b26, 1) (.int .i64 x59) ∧
          net_Net_Twice.wp F p10 x59 (SH.setl (SH.upd H b26 ⟨[.int .i64 0, .int .i64 0, .int .i64 0, .int .u8 0, .string ByteArray.empty], 53, false, 5⟩) (b26, 0) [.int .i64 x20, .int .i64 x21, .int .i64 x22, .int .u8 x23, .string s24]) (fun e61 H62 =>
            ladinglaw19_NetNames.j2 F K R1 p10 b11 l12 x13 x14 H62
          )
        ) ∧ (¬ (x32 = 4) →
          (x32 = 5 →
            ∃ (x64 : Int),
            SH.has (SH.setl (SH.upd H b26 ⟨[.int .i64 0, .int .i64 0, .int .i64 0, .int .u8 0, .string ByteArray.empty], 53, false, 5⟩) (b26, 0) [.int .i64 x20, .int .i64 x21, .int .i64 x22, .int .u8 x23, .string s24]) (b26, 1) (.int .i64 x64) ∧
            ∃ (x66 : Int),
            SH.has (SH.setl (SH.upd H b26 ⟨[.int .i64 0, .int .i64 0, .int .i64 0, .int .u8 0, .string ByteArray.empty], 53, false, 5⟩) (b26, 0) [.int .i64 x20, .int .i64 x21, .int .i64 x22, .int .u8 x23, .string s24]) (b26, 2) (.int .i64 x66) ∧
            net_Net_Turn.wp F p10 x64 x66 (SH.setl (SH.upd H b26 ⟨[.int .i64 0, .int .i64 0, .int .i64 0, .int .u8 0, .string ByteArray.empty], 53, false, 5⟩) (b26, 0) [.int .i64 x20, .int .i64 x21, .int .i64 x22, .int .u8 x23, .string s24]) (fun e68 H69 =>
              ladinglaw19_NetNames.j2 F K R1 p10 b11 l12 x13 x14 H69
            )
          ) ∧ (¬ (x32 = 5) →
            (x32 = 6 →
              ∃ (x71 : Int),
              SH.has (SH.setl (SH.upd H b26 ⟨[.int .i64 0, .int .i64 0, .int .i64 0, .int .u8 0, .string ByteArray.empty], 53, false, 5⟩) (b26, 0) [.int .i64 x20, .int .i64 x21, .int .i64 x22, .int .u8 x23, .string s24]) (b26, 1) (.int .i64 x71) ∧
              ∃ (x73 : Int),
              SH.has (SH.setl (SH.upd H b26 ⟨[.int .i64 0, .int .i64 0, .int .i64 0, .int .u8 0, .string ByteArray.empty], 53, false, 5⟩) (b26, 0) [.int .i64 x20, .int .i64 x21, .int .i64 x22, .int .u8 x23, .string s24]) (b26, 2) (.int .i64 x73) ∧
              ∃ (x75 : Int),
              SH.has (SH.setl (SH.upd H b26 ⟨[.int .i64 0, .int .i64 0, .int .i64 0, .int .u8 0, .string ByteArray.empty], 53, false, 5⟩) (b26, 0) [.int .i64 x20, .int .i64 x21, .int .i64 x22, .int .u8 x23, .string s24]) (b26, 3) (.int .u8 x75) ∧
              net_Net_Spoil.wp F p10 x71 x73 x75 (SH.setl (SH.upd H b26 ⟨[.int .i64 0, .int .i64 0, .int .i64 0, .int .u8 0, .string ByteArray.empty], 53, false, 5⟩) (b26, 0) [.int .i64 x20, .int .i64 x21, .int .i64 x22, .int .u8 x23, .string s24]) (fun e77 H78 =>
                ladinglaw19_NetNames.j2 F K R1 p10 b11 l12 x13 x14 H78
              )
            ) ∧ (¬ (x32 = 6) →
              ladinglaw19_NetNames.j2 F K R1 p10 b11 l12 x13 x14 (SH.setl (SH.upd H b26 ⟨[.int .i64 0, .int .i64 0, .int .i64 0, .int .u8 0, .string ByteArray.empty], 53, false, 5⟩) (b26, 0) [.int .i64 x20, .int .i64 x21, .int .i64 x22, .int .u8 x23, .string s24])
            )
          )
        )
      )
    )
  ) ∧ (¬ (x14 < x13) →
    ∃ Hr, SH.le Hr H ∧ K true Hr
  )
def ladinglaw19_NetNames.l1 (F : Nat) (K : Bool → SH → Prop) : Nat → Option (Nat × Nat) → Nat → Sl → Int → Int → SH → Prop
  | 0, _, _, _, _, _, _ => False
  | k + 1, p10, b11, l12, x13, x14, H => ladinglaw19_NetNames.r1 F K (ladinglaw19_NetNames.l1 F K k) p10 b11 l12 x13 x14 H
def ladinglaw19_NetNames.wp (F : Nat) (l1 : Sl) (H : SH) (K : Bool → SH → Prop) : Prop :=
  ladinglaw19_awake.wp F  H (fun q2 H3 =>
    (q2 = true →
      ((l1.len : Int) > 100 →
        ∃ Hr, SH.le Hr H3 ∧ K true Hr
      ) ∧ (¬ ((l1.len : Int) > 100) →
        net_New.wp F  H3 (fun p6 H7 =>
          ∀ b8, H7 b8 = none →
          ladinglaw19_NetNames.l1 F K F p6 b8 l1 (l1.len : Int) 0 (SH.upd H7 b8 ⟨[.int .i64 0, .int .i64 0, .int .i64 0, .int .i64 0, .int .i64 0, .int .i64 0], 51, false, 6⟩)
        )
      )
    ) ∧ (¬ (q2 = true) →
      ∃ Hr, SH.le Hr H3 ∧ K false Hr
    )
  )
set_option maxHeartbeats 8000000 in
theorem ladinglaw19_NetNames.sound (F : Nat) (l1 : Sl) (H : SH) (K : Bool → SH → Prop) (h : ladinglaw19_NetNames.wp F l1 H K) : SCalls Try.prog 5 #[sv l1] H (fun v H' => ∃ (q125 : Bool), v = .bool q125 ∧ K q125 H') := by
  unfold ladinglaw19_NetNames.wp at h
  refine SCalls.body Try.func5 rfl (Nat.le_of_ble_eq_true rfl) ?_
  refine SW.seq ?_
  refine SW.region ?_
  refine SOps.val (v := .bool false) rfl (wantN rfl) (fun _ => by kernel_rfl) ?_
  refine SOps.nil ?_
  refine SW.seq ?_
  refine SW.seq ?_
  refine SW.region ?_
  refine SOps.enter rfl (wantN rfl) (fun _ => by kernel_rfl) (ladinglaw19_awake.sound F  H _ h) ?_
  clear h
  rintro v H3 ⟨q2, rfl, h⟩
  refine SOps.val (v := .bool (!q2)) rfl (wantN rfl) (fun _ => by kernel_rfl) ?_
  refine SOps.nil ?_
  by_cases c4 : q2 = true
  · replace h := h.1 c4
    have dc4 : q2 = true := c4
    refine SW.cond_f (t := !q2) rfl (not_t dc4) ?_
    refine SW.skip ?_
    refine SW.seq ?_
    refine SW.seq ?_
    refine SW.region ?_
    refine SOps.val (v := sv l1) rfl (wantN rfl) (fun _ => by kernel_rfl) ?_
    refine SOps.val (v := .int .i64 (l1.len : Int)) rfl (wantN rfl) (fun _ => by kernel_rfl) ?_
    refine SOps.val (v := .bool (decide ((l1.len : Int) > 100))) rfl (wantN rfl) (fun _ => by kernel_rfl) ?_
    refine SOps.nil ?_
    by_cases c5 : (l1.len : Int) > 100
    · replace h := h.1 c5
      have dc5 : (decide ((l1.len : Int) > 100)) = true := (decide_eq_true c5)
      refine SW.cond_t (t := decide ((l1.len : Int) > 100)) rfl dc5 ?_
      refine SW.seq ?_
      refine SW.region ?_
      refine SOps.val (v := .bool true) rfl (wantN rfl) (fun _ => by kernel_rfl) ?_
      refine SOps.nil ?_
      obtain ⟨Hr, hr, h⟩ := h
      exact SW.ret (retQ.mk (.bool true) (res1 rfl rfl) hr ⟨true, rfl, h⟩)
    · replace h := h.2 c5
      have dc5 : (decide ((l1.len : Int) > 100)) = false := (decide_eq_false c5)
      refine SW.cond_f (t := decide ((l1.len : Int) > 100)) rfl dc5 ?_
      refine SW.skip ?_
      refine SW.seq ?_
      refine SW.region ?_
      refine SOps.enter rfl (wantN rfl) (fun _ => by kernel_rfl) (net_New.sound F  H3 _ h) ?_
      clear h
      rintro v H7 ⟨p6, rfl, h⟩
      refine SOps.val (v := pv p6) rfl (wantN rfl) (fun _ => by kernel_rfl) ?_
      refine SOps.nil ?_
      refine SW.seq ?_
      refine SW.region ?_
      refine SOps.alloc rfl rfl (wantN rfl) (z := .agg #[.int .i64 0, .int .i64 0, .int .i64 0, .int .i64 0, .int .i64 0, .int .i64 0]) (by kernel_rfl) (fun b8 c9 => ?_)
      replace h := h b8 c9
      refine SOps.nil ?_
      refine SW.seq ?_
      refine SW.seq ?_
      refine SW.region ?_
      refine SOps.val (v := sv l1) rfl (wantN rfl) (fun _ => by kernel_rfl) ?_
      refine SOps.val (v := .int .i64 (l1.len : Int)) rfl (wantN rfl) (fun _ => by kernel_rfl) ?_
      refine SOps.val (v := .int .i64 0) rfl (wantN rfl) (fun _ => by kernel_rfl) ?_
      refine SOps.nil ?_
      refine SW.block ?_
      refine SW.loop (fun k1 fr H => ∃ (g : Fr) (p10 : Option (Nat × Nat)) (b11 : Nat) (l12 : Sl) (x13 : Int) (x14 : Int), fr = g.upds [(3, pv p10), (4, pv (some (b11, 0))), (15, sv l12), (16, (.int .i64 x13 : Value)), (17, (.int .i64 x14 : Value))] ∧ ladinglaw19_NetNames.l1 F K k1 p10 b11 l12 x13 x14 H) F ⟨_, p6, b8, l1, (l1.len : Int), 0, (Fr.upds_self _ _ ⟨rfl, rfl, rfl, rfl, rfl, trivial⟩), h⟩ ?_
      clear h
      rintro k1 fr H ⟨g, p10, b11, l12, x13, x14, rfl, h⟩
      cases k1 with
      | zero => exact h.elim
      | succ k1 =>
        replace h : ladinglaw19_NetNames.r1 F K (ladinglaw19_NetNames.l1 F K k1) p10 b11 l12 x13 x14 H := h
        unfold ladinglaw19_NetNames.r1 at h
        refine SW.seq ?_
        refine SW.region ?_
        refine SOps.val (v := .bool (decide (x14 < x13))) rfl (wantN rfl) (fun _ => by kernel_rfl) ?_
        refine SOps.nil ?_
        refine SW.seq ?_
        by_cases c15 : x14 < x13
        · replace h := h.1 c15
          have dc15 : (decide (x14 < x13)) = true := (decide_eq_true c15)
          refine SW.cond_t (t := decide (x14 < x13)) rfl dc15 ?_
          refine SW.skip ?_
          refine SW.seq ?_
          refine SW.block ?_
          refine SW.seq ?_
          refine SW.region ?_
          obtain ⟨p16, c17, c18, c19, h⟩ := h
          refine SOps.val (v := pv (some (p16.1, (p16.2 + x14.toNat * 5)))) rfl (wantN rfl) (fun w => ev_iaddr rfl Try.underlying50 (size := 5) (by kernel_rfl) rfl rfl c17 c18 c19 w) ?_
          obtain ⟨x20, x21, x22, x23, s24, c25, h⟩ := h
          refine SOps.rd (v := .agg #[.int .i64 x20, .int .i64 x21, .int .i64 x22, .int .u8 x23, .string s24]) rfl (wantN rfl) (fun w hw => ev_loadN rfl (fun _ => by kernel_rfl) (size := 5) (by kernel_rfl) (p := (p16.1, (p16.2 + x14.toNat * 5))) rfl rfl c25 w hw) ?_
          refine SOps.alloc rfl rfl (wantN rfl) (z := .agg #[.int .i64 0, .int .i64 0, .int .i64 0, .int .u8 0, .string ByteArray.empty]) (by kernel_rfl) (fun b26 c27 => ?_)
          replace h := h b26 c27
          obtain ⟨c28, h⟩ := h
          refine SOps.storeL (p := (b26, 0)) (v := .agg #[.int .i64 x20, .int .i64 x21, .int .i64 x22, .int .u8 x23, .string s24]) (cs := [.int .i64 x20, .int .i64 x21, .int .i64 x22, .int .u8 x23, .string s24]) rfl rfl (wantN rfl) (size := 5) (by kernel_rfl) rfl rfl rfl rfl (by simp [Value.oneCell', errV_one, pv, sv]) c28 ?_
          refine SOps.nil ?_
          refine SW.seq ?_
          refine SW.seq ?_
          refine SW.region ?_
          refine SOps.val (v := pv (some (b26, 4))) rfl (wantN rfl) (fun _ => by kernel_rfl) ?_
          obtain ⟨s29, c30, h⟩ := h
          refine SOps.rd (v := .string s29) rfl (wantN rfl) (fun w hw => ev_load1 rfl (fun _ => by kernel_rfl) (p := (b26, 4)) rfl c30 w hw) ?_
          refine SOps.val (v := .int .i64 (s29.size : Int)) rfl (wantN rfl) (fun _ => by kernel_rfl) ?_
          refine SOps.val (v := .bool (decide ((s29.size : Int) > 100))) rfl (wantN rfl) (fun _ => by kernel_rfl) ?_
          refine SOps.nil ?_
          by_cases c31 : (s29.size : Int) > 100
          · replace h := h.1 c31
            have dc31 : (decide ((s29.size : Int) > 100)) = true := (decide_eq_true c31)
            refine SW.cond_t (t := decide ((s29.size : Int) > 100)) rfl dc31 ?_
            refine SW.seq ?_
            refine SW.region ?_
            refine SOps.val (v := .bool true) rfl (wantN rfl) (fun _ => by kernel_rfl) ?_
            refine SOps.nil ?_
            obtain ⟨Hr, hr, h⟩ := h
            exact SW.ret (retQ.mk (.bool true) (res1 rfl rfl) hr ⟨true, rfl, h⟩)
          · replace h := h.2 c31
            have dc31 : (decide ((s29.size : Int) > 100)) = false := (decide_eq_false c31)
            refine SW.cond_f (t := decide ((s29.size : Int) > 100)) rfl dc31 ?_
            refine SW.skip ?_
            refine SW.seqJ (fun fr H => ∃ (g : Fr) (p79 : Option (Nat × Nat)) (b80 : Nat) (l81 : Sl) (x82 : Int) (x83 : Int), fr = g.upds [(3, pv p79), (4, pv (some (b80, 0))), (15, sv l81), (16, (.int .i64 x82 : Value)), (17, (.int .i64 x83 : Value))] ∧ ladinglaw19_NetNames.j1 F K (ladinglaw19_NetNames.l1 F K k1) p79 b80 l81 x82 x83 H) ?_ ?_
            · clear h
              rintro fr H ⟨g, p79, b80, l81, x82, x83, rfl, h⟩
              unfold ladinglaw19_NetNames.j1 at h
              refine SW.seq ?_
              refine SW.region ?_
              refine SOps.val (v := pv p79) rfl (wantN rfl) (fun _ => by kernel_rfl) ?_
              refine SOps.enter rfl (wantN rfl) (fun _ => by kernel_rfl) (net_Net_All.sound F p79 H _ h) ?_
              clear h
              rintro v H86 ⟨l85, rfl, h⟩
              refine SOps.val (v := .int .i64 (l85.len : Int)) rfl (wantN rfl) (fun _ => by kernel_rfl) ?_
              refine SOps.val (v := .int .i64 0) rfl (wantN rfl) (fun _ => by kernel_rfl) ?_
              refine SOps.nil ?_
              refine SW.block ?_
              refine SW.loop (fun k2 fr H => ∃ (g : Fr) (p87 : Option (Nat × Nat)) (b88 : Nat) (l89 : Sl) (x90 : Int) (x91 : Int) (l92 : Sl) (x93 : Int) (x94 : Int), fr = g.upds [(3, pv p87), (4, pv (some (b88, 0))), (15, sv l89), (16, (.int .i64 x90 : Value)), (17, (.int .i64 x91 : Value)), (69, sv l92), (70, (.int .i64 x93 : Value)), (71, (.int .i64 x94 : Value))] ∧ ladinglaw19_NetNames.l2 F K (ladinglaw19_NetNames.l1 F K k1) k2 p87 b88 l89 x90 x91 l92 x93 x94 H) F ⟨_, p79, b80, l81, x82, x83, l85, (l85.len : Int), 0, (Fr.upds_self _ _ ⟨rfl, rfl, rfl, rfl, rfl, rfl, rfl, rfl, trivial⟩), h⟩ ?_
              clear h
              rintro k2 fr H ⟨g, p87, b88, l89, x90, x91, l92, x93, x94, rfl, h⟩
              cases k2 with
              | zero => exact h.elim
              | succ k2 =>
                replace h : ladinglaw19_NetNames.r2 F K (ladinglaw19_NetNames.l1 F K k1) (ladinglaw19_NetNames.l2 F K (ladinglaw19_NetNames.l1 F K k1) k2) p87 b88 l89 x90 x91 l92 x93 x94 H := h
                unfold ladinglaw19_NetNames.r2 at h
                refine SW.seq ?_
                refine SW.region ?_
                refine SOps.val (v := .bool (decide (x94 < x93))) rfl (wantN rfl) (fun _ => by kernel_rfl) ?_
                refine SOps.nil ?_
                refine SW.seq ?_
                by_cases c95 : x94 < x93
                · replace h := h.1 c95
                  have dc95 : (decide (x94 < x93)) = true := (decide_eq_true c95)
                  refine SW.cond_t (t := decide (x94 < x93)) rfl dc95 ?_
                  refine SW.skip ?_
                  refine SW.seq ?_
                  refine SW.block ?_
                  refine SW.seq ?_
                  refine SW.region ?_
                  obtain ⟨p96, c97, c98, c99, h⟩ := h
                  refine SOps.val (v := pv (some (p96.1, (p96.2 + x94.toNat * 3)))) rfl (wantN rfl) (fun w => ev_iaddr rfl Try.underlying41 (size := 3) (by kernel_rfl) rfl rfl c97 c98 c99 w) ?_
                  obtain ⟨x100, x101, s102, c103, h⟩ := h
                  refine SOps.rd (v := .agg #[.int .i64 x100, .int .i64 x101, .string s102]) rfl (wantN rfl) (fun w hw => ev_loadN rfl (fun _ => by kernel_rfl) (size := 3) (by kernel_rfl) (p := (p96.1, (p96.2 + x94.toNat * 3))) rfl rfl c103 w hw) ?_
                  refine SOps.alloc rfl rfl (wantN rfl) (z := .agg #[.int .i64 0, .int .i64 0, .string ByteArray.empty]) (by kernel_rfl) (fun b104 c105 => ?_)
                  replace h := h b104 c105
                  obtain ⟨c106, h⟩ := h
                  refine SOps.storeL (p := (b104, 0)) (v := .agg #[.int .i64 x100, .int .i64 x101, .string s102]) (cs := [.int .i64 x100, .int .i64 x101, .string s102]) rfl rfl (wantN rfl) (size := 3) (by kernel_rfl) rfl rfl rfl rfl (by simp [Value.oneCell', errV_one, pv, sv]) c106 ?_
                  refine SOps.nil ?_
                  refine SW.seq ?_
                  refine SW.region ?_
                  refine SOps.val (v := pv (some (b104, 0))) rfl (wantN rfl) (fun _ => by kernel_rfl) ?_
                  obtain ⟨x107, c108, h⟩ := h
                  refine SOps.rd (v := .int .i64 x107) rfl (wantN rfl) (fun w hw => ev_load1 rfl (fun _ => by kernel_rfl) (p := (b104, 0)) rfl c108 w hw) ?_
                  obtain ⟨c109, c110, h⟩ := h
                  refine SOps.val (v := pv (some (b88, (0 + x107.toNat * 1)))) rfl (wantN rfl) (fun w => ev_iaddrA rfl Try.underlying51 (size := 1) (by kernel_rfl) (p := (b88, 0)) rfl rfl c109 c110 w) ?_
                  obtain ⟨x111, c112, h⟩ := h
                  refine SOps.rd (v := .int .i64 x111) rfl (wantN rfl) (fun w hw => ev_load1 rfl (fun _ => by kernel_rfl) (p := (b88, (0 + x107.toNat * 1))) rfl c112 w hw) ?_
                  refine SOps.val (v := .bool (x111 == 0)) rfl (wantN rfl) (fun _ => by kernel_rfl) ?_
                  refine SOps.val (v := .bool (x111 == 0)) rfl (wantN rfl) (fun _ => by kernel_rfl) ?_
                  by_cases c113 : x111 = 0
                  · replace h := h.1 c113
                    have dc113 : (x111 == 0) = true := (beq_iff_eq.mpr c113)
                    refine SOps.off rfl (wantX (c := (x111 == 0)) rfl rfl rfl dc113) ?_
                    refine SOps.off rfl (wantX (c := (x111 == 0)) rfl rfl rfl dc113) ?_
                    refine SOps.off rfl (wantX (c := (x111 == 0)) rfl rfl rfl dc113) ?_
                    refine SOps.off rfl (wantX (c := (x111 == 0)) rfl rfl rfl dc113) ?_
                    refine SOps.off rfl (wantX (c := (x111 == 0)) rfl rfl rfl dc113) ?_
                    refine SOps.val (v := .bool true) rfl (wantN rfl) (fun w => ev_pickT (v := .bool true) rfl (t := (x111 == 0)) rfl dc113 rfl w) ?_
                    refine SOps.nil ?_
                    refine SW.cond_t (t := true) rfl rfl ?_
                    refine SW.seq ?_
                    refine SW.region ?_
                    refine SOps.val (v := .bool false) rfl (wantN rfl) (fun _ => by kernel_rfl) ?_
                    refine SOps.nil ?_
                    obtain ⟨Hr, hr, h⟩ := h
                    exact SW.ret (retQ.mk (.bool false) (res1 rfl rfl) hr ⟨false, rfl, h⟩)
                  · replace h := h.2 c113
                    have dc113 : (x111 == 0) = false := (beq_eq_false_iff_ne.mpr c113)
                    refine SOps.val (v := pv (some (b104, 0))) rfl (wantY (c := (x111 == 0)) rfl rfl rfl dc113) (fun _ => by kernel_rfl) ?_
                    obtain ⟨x114, c115, h⟩ := h
                    refine SOps.rd (v := .int .i64 x114) rfl (wantY (c := (x111 == 0)) rfl rfl rfl dc113) (fun w hw => ev_load1 rfl (fun _ => by kernel_rfl) (p := (b104, 0)) rfl c115 w hw) ?_
                    refine SOps.val (v := pv (some (b104, 1))) rfl (wantY (c := (x111 == 0)) rfl rfl rfl dc113) (fun _ => by kernel_rfl) ?_
                    obtain ⟨x116, c117, h⟩ := h
                    refine SOps.rd (v := .int .i64 x116) rfl (wantY (c := (x111 == 0)) rfl rfl rfl dc113) (fun w hw => ev_load1 rfl (fun _ => by kernel_rfl) (p := (b104, 1)) rfl c117 w hw) ?_
                    refine SOps.val (v := .bool (x114 == x116)) rfl (wantY (c := (x111 == 0)) rfl rfl rfl dc113) (fun _ => by kernel_rfl) ?_
                    refine SOps.val (v := .bool (x114 == x116)) rfl (wantN rfl) (fun w => ev_pickF (v := .bool (x114 == x116)) rfl (t := (x111 == 0)) rfl dc113 rfl w) ?_
                    refine SOps.nil ?_
                    by_cases c118 : x114 = x116
                    · replace h := h.1 c118
                      have dc118 : (x114 == x116) = true := (beq_iff_eq.mpr c118)
                      refine SW.cond_t (t := (x114 == x116)) rfl dc118 ?_
                      refine SW.seq ?_
                      refine SW.region ?_
                      refine SOps.val (v := .bool false) rfl (wantN rfl) (fun _ => by kernel_rfl) ?_
                      refine SOps.nil ?_
                      obtain ⟨Hr, hr, h⟩ := h
                      exact SW.ret (retQ.mk (.bool false) (res1 rfl rfl) hr ⟨false, rfl, h⟩)
                    · replace h := h.2 c118
                      have dc118 : (x114 == x116) = false := (beq_eq_false_iff_ne.mpr c118)
                      refine SW.cond_f (t := (x114 == x116)) rfl dc118 ?_
                      refine SW.skip ?_
                      refine SW.region ?_
                      refine SOps.val (v := .int .i64 (w64 (x94 + 1))) rfl (wantN rfl) (fun _ => by kernel_rfl) ?_
                      refine SOps.val (v := .int .i64 (w64 (x94 + 1))) rfl (wantN rfl) (fun _ => by kernel_rfl) ?_
                      refine SOps.nil ?_
                      exact ⟨k2, Nat.lt_succ_self k2, _, p87, b88, l89, x90, x91, l92, x93, w64 (x94 + 1), (Fr.upds_self _ _ ⟨rfl, rfl, rfl, rfl, rfl, rfl, rfl, rfl, trivial⟩), h⟩
                · replace h := h.2 c95
                  have dc95 : (decide (x94 < x93)) = false := (decide_eq_false c95)
                  refine SW.cond_f (t := decide (x94 < x93)) rfl dc95 ?_
                  refine SW.exit ?_
                  refine SW.region ?_
                  refine SOps.val (v := .int .i64 (w64 (x91 + 1))) rfl (wantN rfl) (fun _ => by kernel_rfl) ?_
                  refine SOps.val (v := .int .i64 (w64 (x91 + 1))) rfl (wantN rfl) (fun _ => by kernel_rfl) ?_
                  refine SOps.nil ?_
                  exact ⟨k1, Nat.lt_succ_self k1, _, p87, b88, l89, x90, w64 (x91 + 1), (Fr.upds_self _ _ ⟨rfl, rfl, rfl, rfl, rfl, trivial⟩), h⟩
            · skip
              refine SW.seq ?_
              refine SW.region ?_
              refine SOps.val (v := pv (some (b26, 0))) rfl (wantN rfl) (fun _ => by kernel_rfl) ?_
              obtain ⟨x32, c33, h⟩ := h
              refine SOps.rd (v := .int .i64 x32) rfl (wantN rfl) (fun w hw => ev_load1 rfl (fun _ => by kernel_rfl) (p := (b26, 0)) rfl c33 w hw) ?_
              refine SOps.nil ?_
              refine SW.blockJ (fun fr H => ∃ (g : Fr) (p53 : Option (Nat × Nat)) (b54 : Nat) (l55 : Sl) (x56 : Int) (x57 : Int), fr = g.upds [(3, pv p53), (4, pv (some (b54, 0))), (15, sv l55), (16, (.int .i64 x56 : Value)), (17, (.int .i64 x57 : Value))] ∧ ladinglaw19_NetNames.j2 F K (ladinglaw19_NetNames.l1 F K k1) p53 b54 l55 x56 x57 H) ?_ ?_
              · clear h
                rintro fr H ⟨g, p53, b54, l55, x56, x57, rfl, h⟩
                unfold ladinglaw19_NetNames.j2 at h
                exact ⟨_, p53, b54, l55, x56, x57, Fr.upds_self _ _ ⟨rfl, rfl, rfl, rfl, rfl, trivial⟩, h⟩
              · skip
                refine SW.seq ?_
                refine SW.region ?_
                refine SOps.val (v := .bool (x32 == 0)) rfl (wantN rfl) (fun _ => by kernel_rfl) ?_
                refine SOps.val (v := .bool (x32 == 0)) rfl (wantN rfl) (fun _ => by kernel_rfl) ?_
                refine SOps.nil ?_
                by_cases c34 : x32 = 0
                · replace h := h.1 c34
                  have dc34 : (x32 == 0) = true := (beq_iff_eq.mpr c34)
                  refine SW.cond_t (t := (x32 == 0)) rfl dc34 ?_
                  refine SW.seq ?_
                  refine SW.region ?_
                  refine SOps.val (v := pv p10) rfl (wantN rfl) (fun _ => by kernel_rfl) ?_
                  refine SOps.val (v := pv (some (b26, 1))) rfl (wantN rfl) (fun _ => by kernel_rfl) ?_
                  obtain ⟨x35, c36, h⟩ := h
                  refine SOps.rd (v := .int .i64 x35) rfl (wantN rfl) (fun w hw => ev_load1 rfl (fun _ => by kernel_rfl) (p := (b26, 1)) rfl c36 w hw) ?_
                  refine SOps.val (v := pv (some (b26, 2))) rfl (wantN rfl) (fun _ => by kernel_rfl) ?_
                  obtain ⟨x37, c38, h⟩ := h
                  refine SOps.rd (v := .int .i64 x37) rfl (wantN rfl) (fun w hw => ev_load1 rfl (fun _ => by kernel_rfl) (p := (b26, 2)) rfl c38 w hw) ?_
                  refine SOps.val (v := pv (some (b26, 4))) rfl (wantN rfl) (fun _ => by kernel_rfl) ?_
                  obtain ⟨s39, c40, h⟩ := h
                  refine SOps.rd (v := .string s39) rfl (wantN rfl) (fun w hw => ev_load1 rfl (fun _ => by kernel_rfl) (p := (b26, 4)) rfl c40 w hw) ?_
                  refine SOps.enter rfl (wantN rfl) (fun _ => by kernel_rfl) (net_Net_Send.sound F p10 x35 x37 s39 (SH.setl (SH.upd H b26 ⟨[.int .i64 0, .int .i64 0, .int .i64 0, .int .u8 0, .string ByteArray.empty], 53, false, 5⟩) (b26, 0) [.int .i64 x20, .int .i64 x21, .int .i64 x22, .int .u8 x23, .string s24]) _ h) ?_
                  clear h
                  rintro v H42 ⟨e41, rfl, h⟩
                  rcases e41 with _ | v43
                  · replace h := h.1 rfl
                    refine SOps.val (v := .bool true) rfl (wantN rfl) (fun w => ev_errEq (e := none) rfl Try.underlying30 rfl rfl w) ?_
                    refine SOps.nil ?_
                    refine SW.cond_t (t := true) rfl rfl ?_
                    refine SW.region ?_
                    refine SOps.val (v := pv (some (b26, 1))) rfl (wantN rfl) (fun _ => by kernel_rfl) ?_
                    obtain ⟨x44, c45, h⟩ := h
                    refine SOps.rd (v := .int .i64 x44) rfl (wantN rfl) (fun w hw => ev_load1 rfl (fun _ => by kernel_rfl) (p := (b26, 1)) rfl c45 w hw) ?_
                    obtain ⟨c46, c47, h⟩ := h
                    refine SOps.val (v := pv (some (b11, (0 + x44.toNat * 1)))) rfl (wantN rfl) (fun w => ev_iaddrA rfl Try.underlying51 (size := 1) (by kernel_rfl) (p := (b11, 0)) rfl rfl c46 c47 w) ?_
                    obtain ⟨x48, c49, h⟩ := h
                    refine SOps.rd (v := .int .i64 x48) rfl (wantN rfl) (fun w hw => ev_load1 rfl (fun _ => by kernel_rfl) (p := (b11, (0 + x44.toNat * 1))) rfl c49 w hw) ?_
                    refine SOps.val (v := .int .i64 (w64 (x48 + 1000))) rfl (wantN rfl) (fun _ => by kernel_rfl) ?_
                    obtain ⟨c50, c51, h⟩ := h
                    refine SOps.val (v := pv (some (b11, (0 + x44.toNat * 1)))) rfl (wantN rfl) (fun w => ev_iaddrA rfl Try.underlying51 (size := 1) (by kernel_rfl) (p := (b11, 0)) rfl rfl c50 c51 w) ?_
                    obtain ⟨c52, h⟩ := h
                    refine SOps.storeL (p := (b11, (0 + x44.toNat * 1))) (v := .int .i64 (w64 (x48 + 1000))) (cs := [.int .i64 (w64 (x48 + 1000))]) rfl rfl (wantN rfl) (size := 1) (by kernel_rfl) rfl rfl rfl rfl (by simp [Value.oneCell', errV_one, pv, sv]) c52 ?_
                    refine SOps.nil ?_
                    exact ⟨_, p10, b11, l12, x13, x14, Fr.upds_self _ _ ⟨rfl, rfl, rfl, rfl, rfl, trivial⟩, h⟩
                  · replace h := h.2 v43 rfl
                    refine SOps.val (v := .bool false) rfl (wantN rfl) (fun w => ev_errEq (e := some v43) rfl Try.underlying30 rfl rfl w) ?_
                    refine SOps.nil ?_
                    refine SW.cond_f (t := false) rfl rfl ?_
                    refine SW.skip ?_
                    exact ⟨_, p10, b11, l12, x13, x14, Fr.upds_self _ _ ⟨rfl, rfl, rfl, rfl, rfl, trivial⟩, h⟩
                · replace h := h.2 c34
                  have dc34 : (x32 == 0) = false := (beq_eq_false_iff_ne.mpr c34)
                  refine SW.cond_f (t := (x32 == 0)) rfl dc34 ?_
                  refine SW.seq ?_
                  refine SW.region ?_
                  refine SOps.val (v := .bool (x32 == 4)) rfl (wantN rfl) (fun _ => by kernel_rfl) ?_
                  refine SOps.val (v := .bool (x32 == 4)) rfl (wantN rfl) (fun _ => by kernel_rfl) ?_
                  refine SOps.nil ?_
                  by_cases c58 : x32 = 4
                  · replace h := h.1 c58
                    have dc58 : (x32 == 4) = true := (beq_iff_eq.mpr c58)
                    refine SW.cond_t (t := (x32 == 4)) rfl dc58 ?_
                    refine SW.region ?_
                    refine SOps.val (v := pv p10) rfl (wantN rfl) (fun _ => by kernel_rfl) ?_
                    refine SOps.val (v := pv (some (b26, 1))) rfl (wantN rfl) (fun _ => by kernel_rfl) ?_
                    obtain ⟨x59, c60, h⟩ := h
                    refine SOps.rd (v := .int .i64 x59) rfl (wantN rfl) (fun w hw => ev_load1 rfl (fun _ => by kernel_rfl) (p := (b26, 1)) rfl c60 w hw) ?_
                    refine SOps.enter rfl (wantN rfl) (fun _ => by kernel_rfl) (net_Net_Twice.sound F p10 x59 (SH.setl (SH.upd H b26 ⟨[.int .i64 0, .int .i64 0, .int .i64 0, .int .u8 0, .string ByteArray.empty], 53, false, 5⟩) (b26, 0) [.int .i64 x20, .int .i64 x21, .int .i64 x22, .int .u8 x23, .string s24]) _ h) ?_
                    clear h
                    rintro v H62 ⟨e61, rfl, h⟩
                    refine SOps.nil ?_
                    exact ⟨_, p10, b11, l12, x13, x14, Fr.upds_self _ _ ⟨rfl, rfl, rfl, rfl, rfl, trivial⟩, h⟩
                  · replace h := h.2 c58
                    have dc58 : (x32 == 4) = false := (beq_eq_false_iff_ne.mpr c58)
                    refine SW.cond_f (t := (x32 == 4)) rfl dc58 ?_
                    refine SW.seq ?_
                    refine SW.region ?_
                    refine SOps.val (v := .bool (x32 == 5)) rfl (wantN rfl) (fun _ => by kernel_rfl) ?_
                    refine SOps.val (v := .bool (x32 == 5)) rfl (wantN rfl) (fun _ => by kernel_rfl) ?_
                    refine SOps.nil ?_
                    by_cases c63 : x32 = 5
                    · replace h := h.1 c63
                      have dc63 : (x32 == 5) = true := (beq_iff_eq.mpr c63)
                      refine SW.cond_t (t := (x32 == 5)) rfl dc63 ?_
                      refine SW.region ?_
                      refine SOps.val (v := pv p10) rfl (wantN rfl) (fun _ => by kernel_rfl) ?_
                      refine SOps.val (v := pv (some (b26, 1))) rfl (wantN rfl) (fun _ => by kernel_rfl) ?_
                      obtain ⟨x64, c65, h⟩ := h
                      refine SOps.rd (v := .int .i64 x64) rfl (wantN rfl) (fun w hw => ev_load1 rfl (fun _ => by kernel_rfl) (p := (b26, 1)) rfl c65 w hw) ?_
                      refine SOps.val (v := pv (some (b26, 2))) rfl (wantN rfl) (fun _ => by kernel_rfl) ?_
                      obtain ⟨x66, c67, h⟩ := h
                      refine SOps.rd (v := .int .i64 x66) rfl (wantN rfl) (fun w hw => ev_load1 rfl (fun _ => by kernel_rfl) (p := (b26, 2)) rfl c67 w hw) ?_
                      refine SOps.enter rfl (wantN rfl) (fun _ => by kernel_rfl) (net_Net_Turn.sound F p10 x64 x66 (SH.setl (SH.upd H b26 ⟨[.int .i64 0, .int .i64 0, .int .i64 0, .int .u8 0, .string ByteArray.empty], 53, false, 5⟩) (b26, 0) [.int .i64 x20, .int .i64 x21, .int .i64 x22, .int .u8 x23, .string s24]) _ h) ?_
                      clear h
                      rintro v H69 ⟨e68, rfl, h⟩
                      refine SOps.nil ?_
                      exact ⟨_, p10, b11, l12, x13, x14, Fr.upds_self _ _ ⟨rfl, rfl, rfl, rfl, rfl, trivial⟩, h⟩
                    · replace h := h.2 c63
                      have dc63 : (x32 == 5) = false := (beq_eq_false_iff_ne.mpr c63)
                      refine SW.cond_f (t := (x32 == 5)) rfl dc63 ?_
                      refine SW.seq ?_
                      refine SW.region ?_
                      refine SOps.val (v := .bool (x32 == 6)) rfl (wantN rfl) (fun _ => by kernel_rfl) ?_
                      refine SOps.val (v := .bool (x32 == 6)) rfl (wantN rfl) (fun _ => by kernel_rfl) ?_
                      refine SOps.nil ?_
                      by_cases c70 : x32 = 6
                      · replace h := h.1 c70
                        have dc70 : (x32 == 6) = true := (beq_iff_eq.mpr c70)
                        refine SW.cond_t (t := (x32 == 6)) rfl dc70 ?_
                        refine SW.region ?_
                        refine SOps.val (v := pv p10) rfl (wantN rfl) (fun _ => by kernel_rfl) ?_
                        refine SOps.val (v := pv (some (b26, 1))) rfl (wantN rfl) (fun _ => by kernel_rfl) ?_
                        obtain ⟨x71, c72, h⟩ := h
                        refine SOps.rd (v := .int .i64 x71) rfl (wantN rfl) (fun w hw => ev_load1 rfl (fun _ => by kernel_rfl) (p := (b26, 1)) rfl c72 w hw) ?_
                        refine SOps.val (v := pv (some (b26, 2))) rfl (wantN rfl) (fun _ => by kernel_rfl) ?_
                        obtain ⟨x73, c74, h⟩ := h
                        refine SOps.rd (v := .int .i64 x73) rfl (wantN rfl) (fun w hw => ev_load1 rfl (fun _ => by kernel_rfl) (p := (b26, 2)) rfl c74 w hw) ?_
                        refine SOps.val (v := pv (some (b26, 3))) rfl (wantN rfl) (fun _ => by kernel_rfl) ?_
                        obtain ⟨x75, c76, h⟩ := h
                        refine SOps.rd (v := .int .u8 x75) rfl (wantN rfl) (fun w hw => ev_load1 rfl (fun _ => by kernel_rfl) (p := (b26, 3)) rfl c76 w hw) ?_
                        refine SOps.enter rfl (wantN rfl) (fun _ => by kernel_rfl) (net_Net_Spoil.sound F p10 x71 x73 x75 (SH.setl (SH.upd H b26 ⟨[.int .i64 0, .int .i64 0, .int .i64 0, .int .u8 0, .string ByteArray.empty], 53, false, 5⟩) (b26, 0) [.int .i64 x20, .int .i64 x21, .int .i64 x22, .int .u8 x23, .string s24]) _ h) ?_
                        clear h
                        rintro v H78 ⟨e77, rfl, h⟩
                        refine SOps.nil ?_
                        exact ⟨_, p10, b11, l12, x13, x14, Fr.upds_self _ _ ⟨rfl, rfl, rfl, rfl, rfl, trivial⟩, h⟩
                      · replace h := h.2 c70
                        have dc70 : (x32 == 6) = false := (beq_eq_false_iff_ne.mpr c70)
                        refine SW.cond_f (t := (x32 == 6)) rfl dc70 ?_
                        refine SW.skip ?_
                        exact ⟨_, p10, b11, l12, x13, x14, Fr.upds_self _ _ ⟨rfl, rfl, rfl, rfl, rfl, trivial⟩, h⟩
        · replace h := h.2 c15
          have dc15 : (decide (x14 < x13)) = false := (decide_eq_false c15)
          refine SW.cond_f (t := decide (x14 < x13)) rfl dc15 ?_
          refine SW.exit ?_
          refine SW.seq ?_
          refine SW.region ?_
          refine SOps.val (v := .bool true) rfl (wantN rfl) (fun _ => by kernel_rfl) ?_
          refine SOps.nil ?_
          obtain ⟨Hr, hr, h⟩ := h
          exact SW.ret (retQ.mk (.bool true) (res1 rfl rfl) hr ⟨true, rfl, h⟩)
  · replace h := h.2 c4
    have dc4 : q2 = false := (Bool.eq_false_iff.mpr c4)
    refine SW.cond_t (t := !q2) rfl (not_f dc4) ?_
    refine SW.seq ?_
    refine SW.region ?_
    refine SOps.val (v := .bool false) rfl (wantN rfl) (fun _ => by kernel_rfl) ?_
    refine SOps.nil ?_
    obtain ⟨Hr, hr, h⟩ := h
    exact SW.ret (retQ.mk (.bool false) (res1 rfl rfl) hr ⟨false, rfl, h⟩)

end Go.Proofs.Ytkfbmoekghbgbaa.K
