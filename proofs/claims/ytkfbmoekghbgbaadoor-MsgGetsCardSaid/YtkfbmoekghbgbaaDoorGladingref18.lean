import Derived.Test.YtkfbmoekghbgbaaDoorGladingref01
import Derived.Test.YtkfbmoekghbgbaaDoorGladingref03
import Derived.Test.YtkfbmoekghbgbaaDoorSatWrit
set_option linter.unusedVariables false
set_option linter.unusedSimpArgs false
set_option maxRecDepth 100000
namespace Go.Proofs.YtkfbmoekghbgbaaDoor.K
open Go
attribute [local irreducible] SW SOps SQ SCalls retQ

/-! ### lading/ladingref18.May: function 24 -/
def ladingref18_May.j3 (F : Nat) (K : Bool → SH → Prop) (b90 : Nat) (H : SH) : Prop :=
  ∃ (l100 : Sl),
  SH.has H (b90, 4) (sv l100) ∧
  ((l100.len : Int) = 0 →
    ∃ Hr, SH.le Hr H ∧ K true Hr
  ) ∧ (¬ ((l100.len : Int) = 0) →
    ∃ (x103 : Int),
    SH.has H (b90, 0) (.int .i64 x103) ∧
    ∃ Hr, SH.le Hr H ∧ K (x103 == 3) Hr
  )
def ladingref18_May.j2 (F : Nat) (K : Bool → SH → Prop) (b86 : Nat) (H : SH) : Prop :=
  ∃ (s87 : ByteArray),
  SH.has H (b86, 3) (.string s87) ∧
  ((s87 = ByteArray.empty) →
    ladingref18_May.j3 F K b86 H
  ) ∧ (¬ ((s87 = ByteArray.empty)) →
    ∃ (x91 : Int),
    SH.has H (b86, 0) (.int .i64 x91) ∧
    (x91 ≠ 1 →
      ∃ (x94 : Int),
      SH.has H (b86, 0) (.int .i64 x94) ∧
      (x94 ≠ 3 →
        ∃ Hr, SH.le Hr H ∧ K false Hr
      ) ∧ (¬ (x94 ≠ 3) →
        ∃ (s97 : ByteArray),
        SH.has H (b86, 3) (.string s97) ∧
        ((s97.size : Int) > 64 →
          ∃ Hr, SH.le Hr H ∧ K false Hr
        ) ∧ (¬ ((s97.size : Int) > 64) →
          ladingref18_May.j3 F K b86 H
        )
      )
    ) ∧ (¬ (x91 ≠ 1) →
      ladingref18_May.j3 F K b86 H
    )
  )
def ladingref18_May.j1 (F : Nat) (K : Bool → SH → Prop) (b61 : Nat) (H : SH) : Prop :=
  ∃ (x71 : Int),
  SH.has H (b61, 2) (.int .i64 x71) ∧
  (x71 ≠ 0 →
    ∃ (x74 : Int),
    SH.has H (b61, 0) (.int .i64 x74) ∧
    (x74 ≠ 2 →
      ∃ (x77 : Int),
      SH.has H (b61, 0) (.int .i64 x77) ∧
      (x77 ≠ 3 →
        ∃ (x80 : Int),
        SH.has H (b61, 0) (.int .i64 x80) ∧
        (x80 ≠ 4 →
          ∃ (x83 : Int),
          SH.has H (b61, 0) (.int .i64 x83) ∧
          (x83 ≠ 10 →
            ∃ Hr, SH.le Hr H ∧ K false Hr
          ) ∧ (¬ (x83 ≠ 10) →
            ladingref18_May.j2 F K b61 H
          )
        ) ∧ (¬ (x80 ≠ 4) →
          ladingref18_May.j2 F K b61 H
        )
      ) ∧ (¬ (x77 ≠ 3) →
        ladingref18_May.j2 F K b61 H
      )
    ) ∧ (¬ (x74 ≠ 2) →
      ladingref18_May.j2 F K b61 H
    )
  ) ∧ (¬ (x71 ≠ 0) →
    ladingref18_May.j2 F K b61 H
  )
def ladingref18_May.r1 (F : Nat) (K : Bool → SH → Prop) (R1 : Nat → Int → SH → Prop) (b26 : Nat) (x27 : Int) (H : SH) : Prop :=
  ∃ (l28 : Sl),
  SH.has H (b26, 4) (sv l28) ∧
  (x27 < (l28.len : Int) →
    ∃ (l31 : Sl),
    SH.has H (b26, 4) (sv l31) ∧
    ∃ p33, l31.a = some p33 ∧ 0 ≤ x27 ∧ x27 < (l31.len : Int) ∧
    ∃ (s37 : ByteArray),
    SH.has H (p33.1, (p33.2 + x27.toNat * 1)) (.string s37) ∧
    ((s37.size : Int) ≠ 32 →
      ∃ Hr, SH.le Hr H ∧ K false Hr
    ) ∧ (¬ ((s37.size : Int) ≠ 32) →
      R1 b26 (w64 (x27 + 1)) H
    )
  ) ∧ (¬ (x27 < (l28.len : Int)) →
    ∃ (x40 : Int),
    SH.has H (b26, 0) (.int .i64 x40) ∧
    (x40 < 1 →
      ∃ Hr, SH.le Hr H ∧ K false Hr
    ) ∧ (¬ (x40 < 1) →
      ∃ (x43 : Int),
      SH.has H (b26, 0) (.int .i64 x43) ∧
      (x43 > 11 →
        ∃ Hr, SH.le Hr H ∧ K false Hr
      ) ∧ (¬ (x43 > 11) →
        ∃ (x46 : Int),
        SH.has H (b26, 0) (.int .i64 x46) ∧
        (x46 = 1 →
          ∃ (x49 : Int),
          SH.has H (b26, 1) (.int .i64 x49) ∧
          (x49 ≠ 0 →
            ∃ Hr, SH.le Hr H ∧ K false Hr
          ) ∧ (¬ (x49 ≠ 0) →
            ∃ (x52 : Int),
            SH.has H (b26, 0) (.int .i64 x52) ∧
            (x52 > 1 →
              ∃ (x55 : Int),
              SH.has H (b26, 0) (.int .i64 x55) ∧
              (x55 < 10 →
                ∃ (x58 : Int),
                SH.has H (b26, 1) (.int .i64 x58) ∧
                (x58 = 0 →
                  ∃ Hr, SH.le Hr H ∧ K false Hr
                ) ∧ (¬ (x58 = 0) →
                  ladingref18_May.j1 F K b26 H
                )
              ) ∧ (¬ (x55 < 10) →
                ladingref18_May.j1 F K b26 H
              )
            ) ∧ (¬ (x52 > 1) →
              ladingref18_May.j1 F K b26 H
            )
          )
        ) ∧ (¬ (x46 = 1) →
          ∃ (x62 : Int),
          SH.has H (b26, 0) (.int .i64 x62) ∧
          (x62 > 1 →
            ∃ (x65 : Int),
            SH.has H (b26, 0) (.int .i64 x65) ∧
            (x65 < 10 →
              ∃ (x68 : Int),
              SH.has H (b26, 1) (.int .i64 x68) ∧
              (x68 = 0 →
                ∃ Hr, SH.le Hr H ∧ K false Hr
              ) ∧ (¬ (x68 = 0) →
                ladingref18_May.j1 F K b26 H
              )
            ) ∧ (¬ (x65 < 10) →
              ladingref18_May.j1 F K b26 H
            )
          ) ∧ (¬ (x62 > 1) →
            ladingref18_May.j1 F K b26 H
          )
        )
      )
    )
  )
def ladingref18_May.l1 (F : Nat) (K : Bool → SH → Prop) : Nat → Nat → Int → SH → Prop
  | 0, _, _, _ => False
  | k + 1, b26, x27, H => ladingref18_May.r1 F K (ladingref18_May.l1 F K k) b26 x27 H
def ladingref18_May.wp (F : Nat) (x1 : Int) (x2 : Int) (x3 : Int) (s4 : ByteArray) (l5 : Sl) (H : SH) (K : Bool → SH → Prop) : Prop :=
  ∀ b6, H b6 = none →
  ∃ (x8 : Int),
  SH.has (SH.upd H b6 ⟨[.int .i64 x1, .int .i64 x2, .int .i64 x3, .string s4, sv l5], 58, false, 5⟩) (b6, 1) (.int .i64 x8) ∧
  (x8 < 0 →
    ∃ Hr, SH.le Hr (SH.upd H b6 ⟨[.int .i64 x1, .int .i64 x2, .int .i64 x3, .string s4, sv l5], 58, false, 5⟩) ∧ K false Hr
  ) ∧ (¬ (x8 < 0) →
    ∃ (x11 : Int),
    SH.has (SH.upd H b6 ⟨[.int .i64 x1, .int .i64 x2, .int .i64 x3, .string s4, sv l5], 58, false, 5⟩) (b6, 1) (.int .i64 x11) ∧
    (x11 > 1099511627776 →
      ∃ Hr, SH.le Hr (SH.upd H b6 ⟨[.int .i64 x1, .int .i64 x2, .int .i64 x3, .string s4, sv l5], 58, false, 5⟩) ∧ K false Hr
    ) ∧ (¬ (x11 > 1099511627776) →
      ∃ (x14 : Int),
      SH.has (SH.upd H b6 ⟨[.int .i64 x1, .int .i64 x2, .int .i64 x3, .string s4, sv l5], 58, false, 5⟩) (b6, 2) (.int .i64 x14) ∧
      (x14 < 0 →
        ∃ Hr, SH.le Hr (SH.upd H b6 ⟨[.int .i64 x1, .int .i64 x2, .int .i64 x3, .string s4, sv l5], 58, false, 5⟩) ∧ K false Hr
      ) ∧ (¬ (x14 < 0) →
        ∃ (x17 : Int),
        SH.has (SH.upd H b6 ⟨[.int .i64 x1, .int .i64 x2, .int .i64 x3, .string s4, sv l5], 58, false, 5⟩) (b6, 2) (.int .i64 x17) ∧
        (x17 > 1099511627776 →
          ∃ Hr, SH.le Hr (SH.upd H b6 ⟨[.int .i64 x1, .int .i64 x2, .int .i64 x3, .string s4, sv l5], 58, false, 5⟩) ∧ K false Hr
        ) ∧ (¬ (x17 > 1099511627776) →
          ∃ (s20 : ByteArray),
          SH.has (SH.upd H b6 ⟨[.int .i64 x1, .int .i64 x2, .int .i64 x3, .string s4, sv l5], 58, false, 5⟩) (b6, 3) (.string s20) ∧
          ((s20.size : Int) > 5000 →
            ∃ Hr, SH.le Hr (SH.upd H b6 ⟨[.int .i64 x1, .int .i64 x2, .int .i64 x3, .string s4, sv l5], 58, false, 5⟩) ∧ K false Hr
          ) ∧ (¬ ((s20.size : Int) > 5000) →
            ∃ (l23 : Sl),
            SH.has (SH.upd H b6 ⟨[.int .i64 x1, .int .i64 x2, .int .i64 x3, .string s4, sv l5], 58, false, 5⟩) (b6, 4) (sv l23) ∧
            ((l23.len : Int) > 20 →
              ∃ Hr, SH.le Hr (SH.upd H b6 ⟨[.int .i64 x1, .int .i64 x2, .int .i64 x3, .string s4, sv l5], 58, false, 5⟩) ∧ K false Hr
            ) ∧ (¬ ((l23.len : Int) > 20) →
              ladingref18_May.l1 F K F b6 0 (SH.upd H b6 ⟨[.int .i64 x1, .int .i64 x2, .int .i64 x3, .string s4, sv l5], 58, false, 5⟩)
            )
          )
        )
      )
    )
  )
set_option maxHeartbeats 8000000 in
theorem ladingref18_May.sound (F : Nat) (x1 : Int) (x2 : Int) (x3 : Int) (s4 : ByteArray) (l5 : Sl) (H : SH) (K : Bool → SH → Prop) (h : ladingref18_May.wp F x1 x2 x3 s4 l5 H K) : SCalls Tryd.prog 24 #[.agg #[.int .i64 x1, .int .i64 x2, .int .i64 x3, .string s4, sv l5]] H (fun v H' => ∃ (q111 : Bool), v = .bool q111 ∧ K q111 H') := by
  unfold ladingref18_May.wp at h
  refine SCalls.body Tryd.func24 rfl (Nat.le_of_ble_eq_true rfl) ?_
  refine SW.seq ?_
  refine SW.region ?_
  refine SOps.box rfl rfl (wantN rfl) (v := .agg #[.int .i64 x1, .int .i64 x2, .int .i64 x3, .string s4, sv l5]) rfl (fun b6 c7 => ?_)
  replace h := h b6 c7
  refine SOps.val (v := .bool false) rfl (wantN rfl) (fun _ => by kernel_rfl) ?_
  refine SOps.nil ?_
  refine SW.seq ?_
  refine SW.seq ?_
  refine SW.region ?_
  refine SOps.val (v := pv (some (b6, 1))) rfl (wantN rfl) (fun _ => by kernel_rfl) ?_
  obtain ⟨x8, c9, h⟩ := h
  refine SOps.rd (v := .int .i64 x8) rfl (wantN rfl) (fun w hw => ev_load1 rfl (fun _ => by kernel_rfl) (p := (b6, 1)) rfl c9 w hw) ?_
  refine SOps.val (v := .bool (decide (x8 < 0))) rfl (wantN rfl) (fun _ => by kernel_rfl) ?_
  refine SOps.val (v := .bool (decide (x8 < 0))) rfl (wantN rfl) (fun _ => by kernel_rfl) ?_
  by_cases c10 : x8 < 0
  · replace h := h.1 c10
    have dc10 : (decide (x8 < 0)) = true := (decide_eq_true c10)
    refine SOps.off rfl (wantX (c := decide (x8 < 0)) rfl rfl rfl dc10) ?_
    refine SOps.off rfl (wantX (c := decide (x8 < 0)) rfl rfl rfl dc10) ?_
    refine SOps.off rfl (wantX (c := decide (x8 < 0)) rfl rfl rfl dc10) ?_
    refine SOps.val (v := .bool true) rfl (wantN rfl) (fun w => ev_pickT (v := .bool true) rfl (t := decide (x8 < 0)) rfl dc10 rfl w) ?_
    refine SOps.val (v := .bool true) rfl (wantN rfl) (fun _ => by kernel_rfl) ?_
    refine SOps.off rfl (wantX (c := true) rfl rfl rfl rfl) ?_
    refine SOps.off rfl (wantX (c := true) rfl rfl rfl rfl) ?_
    refine SOps.off rfl (wantX (c := true) rfl rfl rfl rfl) ?_
    refine SOps.val (v := .bool true) rfl (wantN rfl) (fun w => ev_pickT (v := .bool true) rfl (t := true) rfl rfl rfl w) ?_
    refine SOps.val (v := .bool true) rfl (wantN rfl) (fun _ => by kernel_rfl) ?_
    refine SOps.off rfl (wantX (c := true) rfl rfl rfl rfl) ?_
    refine SOps.off rfl (wantX (c := true) rfl rfl rfl rfl) ?_
    refine SOps.off rfl (wantX (c := true) rfl rfl rfl rfl) ?_
    refine SOps.val (v := .bool true) rfl (wantN rfl) (fun w => ev_pickT (v := .bool true) rfl (t := true) rfl rfl rfl w) ?_
    refine SOps.val (v := .bool true) rfl (wantN rfl) (fun _ => by kernel_rfl) ?_
    refine SOps.off rfl (wantX (c := true) rfl rfl rfl rfl) ?_
    refine SOps.off rfl (wantX (c := true) rfl rfl rfl rfl) ?_
    refine SOps.off rfl (wantX (c := true) rfl rfl rfl rfl) ?_
    refine SOps.off rfl (wantX (c := true) rfl rfl rfl rfl) ?_
    refine SOps.val (v := .bool true) rfl (wantN rfl) (fun w => ev_pickT (v := .bool true) rfl (t := true) rfl rfl rfl w) ?_
    refine SOps.val (v := .bool true) rfl (wantN rfl) (fun _ => by kernel_rfl) ?_
    refine SOps.off rfl (wantX (c := true) rfl rfl rfl rfl) ?_
    refine SOps.off rfl (wantX (c := true) rfl rfl rfl rfl) ?_
    refine SOps.off rfl (wantX (c := true) rfl rfl rfl rfl) ?_
    refine SOps.off rfl (wantX (c := true) rfl rfl rfl rfl) ?_
    refine SOps.val (v := .bool true) rfl (wantN rfl) (fun w => ev_pickT (v := .bool true) rfl (t := true) rfl rfl rfl w) ?_
    refine SOps.nil ?_
    refine SW.cond_t (t := true) rfl rfl ?_
    refine SW.seq ?_
    refine SW.region ?_
    refine SOps.val (v := .bool false) rfl (wantN rfl) (fun _ => by kernel_rfl) ?_
    refine SOps.nil ?_
    obtain ⟨Hr, hr, h⟩ := h
    exact SW.ret (retQ.mk (.bool false) (res1 rfl rfl) hr ⟨false, rfl, h⟩)
  · replace h := h.2 c10
    have dc10 : (decide (x8 < 0)) = false := (decide_eq_false c10)
    refine SOps.val (v := pv (some (b6, 1))) rfl (wantY (c := decide (x8 < 0)) rfl rfl rfl dc10) (fun _ => by kernel_rfl) ?_
    obtain ⟨x11, c12, h⟩ := h
    refine SOps.rd (v := .int .i64 x11) rfl (wantY (c := decide (x8 < 0)) rfl rfl rfl dc10) (fun w hw => ev_load1 rfl (fun _ => by kernel_rfl) (p := (b6, 1)) rfl c12 w hw) ?_
    refine SOps.val (v := .bool (decide (x11 > 1099511627776))) rfl (wantY (c := decide (x8 < 0)) rfl rfl rfl dc10) (fun _ => by kernel_rfl) ?_
    refine SOps.val (v := .bool (decide (x11 > 1099511627776))) rfl (wantN rfl) (fun w => ev_pickF (v := .bool (decide (x11 > 1099511627776))) rfl (t := decide (x8 < 0)) rfl dc10 rfl w) ?_
    refine SOps.val (v := .bool (decide (x11 > 1099511627776))) rfl (wantN rfl) (fun _ => by kernel_rfl) ?_
    by_cases c13 : x11 > 1099511627776
    · replace h := h.1 c13
      have dc13 : (decide (x11 > 1099511627776)) = true := (decide_eq_true c13)
      refine SOps.off rfl (wantX (c := decide (x11 > 1099511627776)) rfl rfl rfl dc13) ?_
      refine SOps.off rfl (wantX (c := decide (x11 > 1099511627776)) rfl rfl rfl dc13) ?_
      refine SOps.off rfl (wantX (c := decide (x11 > 1099511627776)) rfl rfl rfl dc13) ?_
      refine SOps.val (v := .bool true) rfl (wantN rfl) (fun w => ev_pickT (v := .bool true) rfl (t := decide (x11 > 1099511627776)) rfl dc13 rfl w) ?_
      refine SOps.val (v := .bool true) rfl (wantN rfl) (fun _ => by kernel_rfl) ?_
      refine SOps.off rfl (wantX (c := true) rfl rfl rfl rfl) ?_
      refine SOps.off rfl (wantX (c := true) rfl rfl rfl rfl) ?_
      refine SOps.off rfl (wantX (c := true) rfl rfl rfl rfl) ?_
      refine SOps.val (v := .bool true) rfl (wantN rfl) (fun w => ev_pickT (v := .bool true) rfl (t := true) rfl rfl rfl w) ?_
      refine SOps.val (v := .bool true) rfl (wantN rfl) (fun _ => by kernel_rfl) ?_
      refine SOps.off rfl (wantX (c := true) rfl rfl rfl rfl) ?_
      refine SOps.off rfl (wantX (c := true) rfl rfl rfl rfl) ?_
      refine SOps.off rfl (wantX (c := true) rfl rfl rfl rfl) ?_
      refine SOps.off rfl (wantX (c := true) rfl rfl rfl rfl) ?_
      refine SOps.val (v := .bool true) rfl (wantN rfl) (fun w => ev_pickT (v := .bool true) rfl (t := true) rfl rfl rfl w) ?_
      refine SOps.val (v := .bool true) rfl (wantN rfl) (fun _ => by kernel_rfl) ?_
      refine SOps.off rfl (wantX (c := true) rfl rfl rfl rfl) ?_
      refine SOps.off rfl (wantX (c := true) rfl rfl rfl rfl) ?_
      refine SOps.off rfl (wantX (c := true) rfl rfl rfl rfl) ?_
      refine SOps.off rfl (wantX (c := true) rfl rfl rfl rfl) ?_
      refine SOps.val (v := .bool true) rfl (wantN rfl) (fun w => ev_pickT (v := .bool true) rfl (t := true) rfl rfl rfl w) ?_
      refine SOps.nil ?_
      refine SW.cond_t (t := true) rfl rfl ?_
      refine SW.seq ?_
      refine SW.region ?_
      refine SOps.val (v := .bool false) rfl (wantN rfl) (fun _ => by kernel_rfl) ?_
      refine SOps.nil ?_
      obtain ⟨Hr, hr, h⟩ := h
      exact SW.ret (retQ.mk (.bool false) (res1 rfl rfl) hr ⟨false, rfl, h⟩)
    · replace h := h.2 c13
      have dc13 : (decide (x11 > 1099511627776)) = false := (decide_eq_false c13)
      refine SOps.val (v := pv (some (b6, 2))) rfl (wantY (c := decide (x11 > 1099511627776)) rfl rfl rfl dc13) (fun _ => by kernel_rfl) ?_
      obtain ⟨x14, c15, h⟩ := h
      refine SOps.rd (v := .int .i64 x14) rfl (wantY (c := decide (x11 > 1099511627776)) rfl rfl rfl dc13) (fun w hw => ev_load1 rfl (fun _ => by kernel_rfl) (p := (b6, 2)) rfl c15 w hw) ?_
      refine SOps.val (v := .bool (decide (x14 < 0))) rfl (wantY (c := decide (x11 > 1099511627776)) rfl rfl rfl dc13) (fun _ => by kernel_rfl) ?_
      refine SOps.val (v := .bool (decide (x14 < 0))) rfl (wantN rfl) (fun w => ev_pickF (v := .bool (decide (x14 < 0))) rfl (t := decide (x11 > 1099511627776)) rfl dc13 rfl w) ?_
      refine SOps.val (v := .bool (decide (x14 < 0))) rfl (wantN rfl) (fun _ => by kernel_rfl) ?_
      by_cases c16 : x14 < 0
      · replace h := h.1 c16
        have dc16 : (decide (x14 < 0)) = true := (decide_eq_true c16)
        refine SOps.off rfl (wantX (c := decide (x14 < 0)) rfl rfl rfl dc16) ?_
        refine SOps.off rfl (wantX (c := decide (x14 < 0)) rfl rfl rfl dc16) ?_
        refine SOps.off rfl (wantX (c := decide (x14 < 0)) rfl rfl rfl dc16) ?_
        refine SOps.val (v := .bool true) rfl (wantN rfl) (fun w => ev_pickT (v := .bool true) rfl (t := decide (x14 < 0)) rfl dc16 rfl w) ?_
        refine SOps.val (v := .bool true) rfl (wantN rfl) (fun _ => by kernel_rfl) ?_
        refine SOps.off rfl (wantX (c := true) rfl rfl rfl rfl) ?_
        refine SOps.off rfl (wantX (c := true) rfl rfl rfl rfl) ?_
        refine SOps.off rfl (wantX (c := true) rfl rfl rfl rfl) ?_
        refine SOps.off rfl (wantX (c := true) rfl rfl rfl rfl) ?_
        refine SOps.val (v := .bool true) rfl (wantN rfl) (fun w => ev_pickT (v := .bool true) rfl (t := true) rfl rfl rfl w) ?_
        refine SOps.val (v := .bool true) rfl (wantN rfl) (fun _ => by kernel_rfl) ?_
        refine SOps.off rfl (wantX (c := true) rfl rfl rfl rfl) ?_
        refine SOps.off rfl (wantX (c := true) rfl rfl rfl rfl) ?_
        refine SOps.off rfl (wantX (c := true) rfl rfl rfl rfl) ?_
        refine SOps.off rfl (wantX (c := true) rfl rfl rfl rfl) ?_
        refine SOps.val (v := .bool true) rfl (wantN rfl) (fun w => ev_pickT (v := .bool true) rfl (t := true) rfl rfl rfl w) ?_
        refine SOps.nil ?_
        refine SW.cond_t (t := true) rfl rfl ?_
        refine SW.seq ?_
        refine SW.region ?_
        refine SOps.val (v := .bool false) rfl (wantN rfl) (fun _ => by kernel_rfl) ?_
        refine SOps.nil ?_
        obtain ⟨Hr, hr, h⟩ := h
        exact SW.ret (retQ.mk (.bool false) (res1 rfl rfl) hr ⟨false, rfl, h⟩)
      · replace h := h.2 c16
        have dc16 : (decide (x14 < 0)) = false := (decide_eq_false c16)
        refine SOps.val (v := pv (some (b6, 2))) rfl (wantY (c := decide (x14 < 0)) rfl rfl rfl dc16) (fun _ => by kernel_rfl) ?_
        obtain ⟨x17, c18, h⟩ := h
        refine SOps.rd (v := .int .i64 x17) rfl (wantY (c := decide (x14 < 0)) rfl rfl rfl dc16) (fun w hw => ev_load1 rfl (fun _ => by kernel_rfl) (p := (b6, 2)) rfl c18 w hw) ?_
        refine SOps.val (v := .bool (decide (x17 > 1099511627776))) rfl (wantY (c := decide (x14 < 0)) rfl rfl rfl dc16) (fun _ => by kernel_rfl) ?_
        refine SOps.val (v := .bool (decide (x17 > 1099511627776))) rfl (wantN rfl) (fun w => ev_pickF (v := .bool (decide (x17 > 1099511627776))) rfl (t := decide (x14 < 0)) rfl dc16 rfl w) ?_
        refine SOps.val (v := .bool (decide (x17 > 1099511627776))) rfl (wantN rfl) (fun _ => by kernel_rfl) ?_
        by_cases c19 : x17 > 1099511627776
        · replace h := h.1 c19
          have dc19 : (decide (x17 > 1099511627776)) = true := (decide_eq_true c19)
          refine SOps.off rfl (wantX (c := decide (x17 > 1099511627776)) rfl rfl rfl dc19) ?_
          refine SOps.off rfl (wantX (c := decide (x17 > 1099511627776)) rfl rfl rfl dc19) ?_
          refine SOps.off rfl (wantX (c := decide (x17 > 1099511627776)) rfl rfl rfl dc19) ?_
          refine SOps.off rfl (wantX (c := decide (x17 > 1099511627776)) rfl rfl rfl dc19) ?_
          refine SOps.val (v := .bool true) rfl (wantN rfl) (fun w => ev_pickT (v := .bool true) rfl (t := decide (x17 > 1099511627776)) rfl dc19 rfl w) ?_
          refine SOps.val (v := .bool true) rfl (wantN rfl) (fun _ => by kernel_rfl) ?_
          refine SOps.off rfl (wantX (c := true) rfl rfl rfl rfl) ?_
          refine SOps.off rfl (wantX (c := true) rfl rfl rfl rfl) ?_
          refine SOps.off rfl (wantX (c := true) rfl rfl rfl rfl) ?_
          refine SOps.off rfl (wantX (c := true) rfl rfl rfl rfl) ?_
          refine SOps.val (v := .bool true) rfl (wantN rfl) (fun w => ev_pickT (v := .bool true) rfl (t := true) rfl rfl rfl w) ?_
          refine SOps.nil ?_
          refine SW.cond_t (t := true) rfl rfl ?_
          refine SW.seq ?_
          refine SW.region ?_
          refine SOps.val (v := .bool false) rfl (wantN rfl) (fun _ => by kernel_rfl) ?_
          refine SOps.nil ?_
          obtain ⟨Hr, hr, h⟩ := h
          exact SW.ret (retQ.mk (.bool false) (res1 rfl rfl) hr ⟨false, rfl, h⟩)
        · replace h := h.2 c19
          have dc19 : (decide (x17 > 1099511627776)) = false := (decide_eq_false c19)
          refine SOps.val (v := pv (some (b6, 3))) rfl (wantY (c := decide (x17 > 1099511627776)) rfl rfl rfl dc19) (fun _ => by kernel_rfl) ?_
          obtain ⟨s20, c21, h⟩ := h
          refine SOps.rd (v := .string s20) rfl (wantY (c := decide (x17 > 1099511627776)) rfl rfl rfl dc19) (fun w hw => ev_load1 rfl (fun _ => by kernel_rfl) (p := (b6, 3)) rfl c21 w hw) ?_
          refine SOps.val (v := .int .i64 (s20.size : Int)) rfl (wantY (c := decide (x17 > 1099511627776)) rfl rfl rfl dc19) (fun _ => by kernel_rfl) ?_
          refine SOps.val (v := .bool (decide ((s20.size : Int) > 5000))) rfl (wantY (c := decide (x17 > 1099511627776)) rfl rfl rfl dc19) (fun _ => by kernel_rfl) ?_
          refine SOps.val (v := .bool (decide ((s20.size : Int) > 5000))) rfl (wantN rfl) (fun w => ev_pickF (v := .bool (decide ((s20.size : Int) > 5000))) rfl (t := decide (x17 > 1099511627776)) rfl dc19 rfl w) ?_
          refine SOps.val (v := .bool (decide ((s20.size : Int) > 5000))) rfl (wantN rfl) (fun _ => by kernel_rfl) ?_
          by_cases c22 : (s20.size : Int) > 5000
          · replace h := h.1 c22
            have dc22 : (decide ((s20.size : Int) > 5000)) = true := (decide_eq_true c22)
            refine SOps.off rfl (wantX (c := decide ((s20.size : Int) > 5000)) rfl rfl rfl dc22) ?_
            refine SOps.off rfl (wantX (c := decide ((s20.size : Int) > 5000)) rfl rfl rfl dc22) ?_
            refine SOps.off rfl (wantX (c := decide ((s20.size : Int) > 5000)) rfl rfl rfl dc22) ?_
            refine SOps.off rfl (wantX (c := decide ((s20.size : Int) > 5000)) rfl rfl rfl dc22) ?_
            refine SOps.val (v := .bool true) rfl (wantN rfl) (fun w => ev_pickT (v := .bool true) rfl (t := decide ((s20.size : Int) > 5000)) rfl dc22 rfl w) ?_
            refine SOps.nil ?_
            refine SW.cond_t (t := true) rfl rfl ?_
            refine SW.seq ?_
            refine SW.region ?_
            refine SOps.val (v := .bool false) rfl (wantN rfl) (fun _ => by kernel_rfl) ?_
            refine SOps.nil ?_
            obtain ⟨Hr, hr, h⟩ := h
            exact SW.ret (retQ.mk (.bool false) (res1 rfl rfl) hr ⟨false, rfl, h⟩)
          · replace h := h.2 c22
            have dc22 : (decide ((s20.size : Int) > 5000)) = false := (decide_eq_false c22)
            refine SOps.val (v := pv (some (b6, 4))) rfl (wantY (c := decide ((s20.size : Int) > 5000)) rfl rfl rfl dc22) (fun _ => by kernel_rfl) ?_
            obtain ⟨l23, c24, h⟩ := h
            refine SOps.rd (v := sv l23) rfl (wantY (c := decide ((s20.size : Int) > 5000)) rfl rfl rfl dc22) (fun w hw => ev_load1 rfl (fun _ => by kernel_rfl) (p := (b6, 4)) rfl c24 w hw) ?_
            refine SOps.val (v := .int .i64 (l23.len : Int)) rfl (wantY (c := decide ((s20.size : Int) > 5000)) rfl rfl rfl dc22) (fun _ => by kernel_rfl) ?_
            refine SOps.val (v := .bool (decide ((l23.len : Int) > 20))) rfl (wantY (c := decide ((s20.size : Int) > 5000)) rfl rfl rfl dc22) (fun _ => by kernel_rfl) ?_
            refine SOps.val (v := .bool (decide ((l23.len : Int) > 20))) rfl (wantN rfl) (fun w => ev_pickF (v := .bool (decide ((l23.len : Int) > 20))) rfl (t := decide ((s20.size : Int) > 5000)) rfl dc22 rfl w) ?_
            refine SOps.nil ?_
            by_cases c25 : (l23.len : Int) > 20
            · replace h := h.1 c25
              have dc25 : (decide ((l23.len : Int) > 20)) = true := (decide_eq_true c25)
              refine SW.cond_t (t := decide ((l23.len : Int) > 20)) rfl dc25 ?_
              refine SW.seq ?_
              refine SW.region ?_
              refine SOps.val (v := .bool false) rfl (wantN rfl) (fun _ => by kernel_rfl) ?_
              refine SOps.nil ?_
              obtain ⟨Hr, hr, h⟩ := h
              exact SW.ret (retQ.mk (.bool false) (res1 rfl rfl) hr ⟨false, rfl, h⟩)
            · replace h := h.2 c25
              have dc25 : (decide ((l23.len : Int) > 20)) = false := (decide_eq_false c25)
              refine SW.cond_f (t := decide ((l23.len : Int) > 20)) rfl dc25 ?_
              refine SW.skip ?_
              refine SW.seq ?_
              refine SW.seq ?_
              refine SW.region ?_
              refine SOps.val (v := .int .i64 0) rfl (wantN rfl) (fun _ => by kernel_rfl) ?_
              refine SOps.nil ?_
              refine SW.block ?_
              refine SW.loop (fun k1 fr H => ∃ (g : Fr) (b26 : Nat) (x27 : Int), fr = g.upds [(1, pv (some (b26, 0))), (3, (.int .i64 x27 : Value))] ∧ ladingref18_May.l1 F K k1 b26 x27 H) F ⟨_, b6, 0, (Fr.upds_self _ _ ⟨rfl, rfl, trivial⟩), h⟩ ?_
              clear h
              rintro k1 fr H ⟨g, b26, x27, rfl, h⟩
              cases k1 with
              | zero => exact h.elim
              | succ k1 =>
                replace h : ladingref18_May.r1 F K (ladingref18_May.l1 F K k1) b26 x27 H := h
                unfold ladingref18_May.r1 at h
                refine SW.seq ?_
                refine SW.seq ?_
                refine SW.region ?_
                refine SOps.val (v := .int .i64 x27) rfl (wantN rfl) (fun _ => by kernel_rfl) ?_
                refine SOps.val (v := pv (some (b26, 4))) rfl (wantN rfl) (fun _ => by kernel_rfl) ?_
                obtain ⟨l28, c29, h⟩ := h
                refine SOps.rd (v := sv l28) rfl (wantN rfl) (fun w hw => ev_load1 rfl (fun _ => by kernel_rfl) (p := (b26, 4)) rfl c29 w hw) ?_
                refine SOps.val (v := .int .i64 (l28.len : Int)) rfl (wantN rfl) (fun _ => by kernel_rfl) ?_
                refine SOps.val (v := .bool (decide (x27 < (l28.len : Int)))) rfl (wantN rfl) (fun _ => by kernel_rfl) ?_
                refine SOps.nil ?_
                by_cases c30 : x27 < (l28.len : Int)
                · replace h := h.1 c30
                  have dc30 : (decide (x27 < (l28.len : Int))) = true := (decide_eq_true c30)
                  refine SW.cond_t (t := decide (x27 < (l28.len : Int))) rfl dc30 ?_
                  refine SW.skip ?_
                  refine SW.seq ?_
                  refine SW.block ?_
                  refine SW.seq ?_
                  refine SW.region ?_
                  refine SOps.val (v := pv (some (b26, 4))) rfl (wantN rfl) (fun _ => by kernel_rfl) ?_
                  obtain ⟨l31, c32, h⟩ := h
                  refine SOps.rd (v := sv l31) rfl (wantN rfl) (fun w hw => ev_load1 rfl (fun _ => by kernel_rfl) (p := (b26, 4)) rfl c32 w hw) ?_
                  refine SOps.val (v := .int .i64 x27) rfl (wantN rfl) (fun _ => by kernel_rfl) ?_
                  obtain ⟨p33, c34, c35, c36, h⟩ := h
                  refine SOps.val (v := pv (some (p33.1, (p33.2 + x27.toNat * 1)))) rfl (wantN rfl) (fun w => ev_iaddr rfl Tryd.underlying51 (size := 1) (by kernel_rfl) rfl rfl c34 c35 c36 w) ?_
                  obtain ⟨s37, c38, h⟩ := h
                  refine SOps.rd (v := .string s37) rfl (wantN rfl) (fun w hw => ev_load1 rfl (fun _ => by kernel_rfl) (p := (p33.1, (p33.2 + x27.toNat * 1))) rfl c38 w hw) ?_
                  refine SOps.val (v := .int .i64 (s37.size : Int)) rfl (wantN rfl) (fun _ => by kernel_rfl) ?_
                  refine SOps.val (v := .bool ((s37.size : Int) != 32)) rfl (wantN rfl) (fun _ => by kernel_rfl) ?_
                  refine SOps.nil ?_
                  by_cases c39 : (s37.size : Int) ≠ 32
                  · replace h := h.1 c39
                    have dc39 : ((s37.size : Int) != 32) = true := (bne_iff_ne.mpr c39)
                    refine SW.cond_t (t := ((s37.size : Int) != 32)) rfl dc39 ?_
                    refine SW.seq ?_
                    refine SW.region ?_
                    refine SOps.val (v := .bool false) rfl (wantN rfl) (fun _ => by kernel_rfl) ?_
                    refine SOps.nil ?_
                    obtain ⟨Hr, hr, h⟩ := h
                    exact SW.ret (retQ.mk (.bool false) (res1 rfl rfl) hr ⟨false, rfl, h⟩)
                  · replace h := h.2 c39
                    have dc39 : ((s37.size : Int) != 32) = false := (by simpa using c39)
                    refine SW.cond_f (t := ((s37.size : Int) != 32)) rfl dc39 ?_
                    refine SW.skip ?_
                    refine SW.region ?_
                    refine SOps.val (v := .int .i64 x27) rfl (wantN rfl) (fun _ => by kernel_rfl) ?_
                    refine SOps.val (v := .int .i64 (w64 (x27 + 1))) rfl (wantN rfl) (fun _ => by kernel_rfl) ?_
                    refine SOps.val (v := .int .i64 (w64 (x27 + 1))) rfl (wantN rfl) (fun _ => by kernel_rfl) ?_
                    refine SOps.nil ?_
                    exact ⟨k1, Nat.lt_succ_self k1, _, b26, w64 (x27 + 1), (Fr.upds_self _ _ ⟨rfl, rfl, trivial⟩), h⟩
                · replace h := h.2 c30
                  have dc30 : (decide (x27 < (l28.len : Int))) = false := (decide_eq_false c30)
                  refine SW.cond_f (t := decide (x27 < (l28.len : Int))) rfl dc30 ?_
                  refine SW.exit ?_
                  refine SW.seq ?_
                  refine SW.seq ?_
                  refine SW.region ?_
                  refine SOps.val (v := pv (some (b26, 0))) rfl (wantN rfl) (fun _ => by kernel_rfl) ?_
                  obtain ⟨x40, c41, h⟩ := h
                  refine SOps.rd (v := .int .i64 x40) rfl (wantN rfl) (fun w hw => ev_load1 rfl (fun _ => by kernel_rfl) (p := (b26, 0)) rfl c41 w hw) ?_
                  refine SOps.val (v := .bool (decide (x40 < 1))) rfl (wantN rfl) (fun _ => by kernel_rfl) ?_
                  refine SOps.val (v := .bool (decide (x40 < 1))) rfl (wantN rfl) (fun _ => by kernel_rfl) ?_
                  by_cases c42 : x40 < 1
                  · replace h := h.1 c42
                    have dc42 : (decide (x40 < 1)) = true := (decide_eq_true c42)
                    refine SOps.off rfl (wantX (c := decide (x40 < 1)) rfl rfl rfl dc42) ?_
                    refine SOps.off rfl (wantX (c := decide (x40 < 1)) rfl rfl rfl dc42) ?_
                    refine SOps.off rfl (wantX (c := decide (x40 < 1)) rfl rfl rfl dc42) ?_
                    refine SOps.val (v := .bool true) rfl (wantN rfl) (fun w => ev_pickT (v := .bool true) rfl (t := decide (x40 < 1)) rfl dc42 rfl w) ?_
                    refine SOps.nil ?_
                    refine SW.cond_t (t := true) rfl rfl ?_
                    refine SW.seq ?_
                    refine SW.region ?_
                    refine SOps.val (v := .bool false) rfl (wantN rfl) (fun _ => by kernel_rfl) ?_
                    refine SOps.nil ?_
                    obtain ⟨Hr, hr, h⟩ := h
                    exact SW.ret (retQ.mk (.bool false) (res1 rfl rfl) hr ⟨false, rfl, h⟩)
                  · replace h := h.2 c42
                    have dc42 : (decide (x40 < 1)) = false := (decide_eq_false c42)
                    refine SOps.val (v := pv (some (b26, 0))) rfl (wantY (c := decide (x40 < 1)) rfl rfl rfl dc42) (fun _ => by kernel_rfl) ?_
                    obtain ⟨x43, c44, h⟩ := h
                    refine SOps.rd (v := .int .i64 x43) rfl (wantY (c := decide (x40 < 1)) rfl rfl rfl dc42) (fun w hw => ev_load1 rfl (fun _ => by kernel_rfl) (p := (b26, 0)) rfl c44 w hw) ?_
                    refine SOps.val (v := .bool (decide (x43 > 11))) rfl (wantY (c := decide (x40 < 1)) rfl rfl rfl dc42) (fun _ => by kernel_rfl) ?_
                    refine SOps.val (v := .bool (decide (x43 > 11))) rfl (wantN rfl) (fun w => ev_pickF (v := .bool (decide (x43 > 11))) rfl (t := decide (x40 < 1)) rfl dc42 rfl w) ?_
                    refine SOps.nil ?_
                    by_cases c45 : x43 > 11
                    · replace h := h.1 c45
                      have dc45 : (decide (x43 > 11)) = true := (decide_eq_true c45)
                      refine SW.cond_t (t := decide (x43 > 11)) rfl dc45 ?_
                      refine SW.seq ?_
                      refine SW.region ?_
                      refine SOps.val (v := .bool false) rfl (wantN rfl) (fun _ => by kernel_rfl) ?_
                      refine SOps.nil ?_
                      obtain ⟨Hr, hr, h⟩ := h
                      exact SW.ret (retQ.mk (.bool false) (res1 rfl rfl) hr ⟨false, rfl, h⟩)
                    · replace h := h.2 c45
                      have dc45 : (decide (x43 > 11)) = false := (decide_eq_false c45)
                      refine SW.cond_f (t := decide (x43 > 11)) rfl dc45 ?_
                      refine SW.skip ?_
                      refine SW.seqJ (fun fr H => ∃ (g : Fr) (b61 : Nat), fr = g.upds [(1, pv (some (b61, 0)))] ∧ ladingref18_May.j1 F K b61 H) ?_ ?_
                      · clear h
                        rintro fr H ⟨g, b61, rfl, h⟩
                        unfold ladingref18_May.j1 at h
                        refine SW.seqJ (fun fr H => ∃ (g : Fr) (b86 : Nat), fr = g.upds [(1, pv (some (b86, 0)))] ∧ ladingref18_May.j2 F K b86 H) ?_ ?_
                        · clear h
                          rintro fr H ⟨g, b86, rfl, h⟩
                          unfold ladingref18_May.j2 at h
                          refine SW.seqJ (fun fr H => ∃ (g : Fr) (b90 : Nat), fr = g.upds [(1, pv (some (b90, 0)))] ∧ ladingref18_May.j3 F K b90 H) ?_ ?_
                          · clear h
                            rintro fr H ⟨g, b90, rfl, h⟩
                            unfold ladingref18_May.j3 at h
                            refine SW.seq ?_
                            refine SW.region ?_
                            refine SOps.val (v := pv (some (b90, 4))) rfl (wantN rfl) (fun _ => by kernel_rfl) ?_
                            obtain ⟨l100, c101, h⟩ := h
                            refine SOps.rd (v := sv l100) rfl (wantN rfl) (fun w hw => ev_load1 rfl (fun _ => by kernel_rfl) (p := (b90, 4)) rfl c101 w hw) ?_
                            refine SOps.val (v := .int .i64 (l100.len : Int)) rfl (wantN rfl) (fun _ => by kernel_rfl) ?_
                            refine SOps.val (v := .bool ((l100.len : Int) == 0)) rfl (wantN rfl) (fun _ => by kernel_rfl) ?_
                            refine SOps.val (v := .bool ((l100.len : Int) == 0)) rfl (wantN rfl) (fun _ => by kernel_rfl) ?_
                            by_cases c102 : (l100.len : Int) = 0
                            · replace h := h.1 c102
                              have dc102 : ((l100.len : Int) == 0) = true := (beq_iff_eq.mpr c102)
                              refine SOps.off rfl (wantX (c := ((l100.len : Int) == 0)) rfl rfl rfl dc102) ?_
                              refine SOps.off rfl (wantX (c := ((l100.len : Int) == 0)) rfl rfl rfl dc102) ?_
                              refine SOps.off rfl (wantX (c := ((l100.len : Int) == 0)) rfl rfl rfl dc102) ?_
                              refine SOps.val (v := .bool true) rfl (wantN rfl) (fun w => ev_pickT (v := .bool true) rfl (t := ((l100.len : Int) == 0)) rfl dc102 rfl w) ?_
                              refine SOps.val (v := .bool true) rfl (wantN rfl) (fun _ => by kernel_rfl) ?_
                              refine SOps.nil ?_
                              obtain ⟨Hr, hr, h⟩ := h
                              exact SW.ret (retQ.mk (.bool true) (res1 rfl rfl) hr ⟨true, rfl, h⟩)
                            · replace h := h.2 c102
                              have dc102 : ((l100.len : Int) == 0) = false := (beq_eq_false_iff_ne.mpr c102)
                              refine SOps.val (v := pv (some (b90, 0))) rfl (wantY (c := ((l100.len : Int) == 0)) rfl rfl rfl dc102) (fun _ => by kernel_rfl) ?_
                              obtain ⟨x103, c104, h⟩ := h
                              refine SOps.rd (v := .int .i64 x103) rfl (wantY (c := ((l100.len : Int) == 0)) rfl rfl rfl dc102) (fun w hw => ev_load1 rfl (fun _ => by kernel_rfl) (p := (b90, 0)) rfl c104 w hw) ?_
                              refine SOps.val (v := .bool (x103 == 3)) rfl (wantY (c := ((l100.len : Int) == 0)) rfl rfl rfl dc102) (fun _ => by kernel_rfl) ?_
                              refine SOps.val (v := .bool (x103 == 3)) rfl (wantN rfl) (fun w => ev_pickF (v := .bool (x103 == 3)) rfl (t := ((l100.len : Int) == 0)) rfl dc102 rfl w) ?_
                              refine SOps.val (v := .bool (x103 == 3)) rfl (wantN rfl) (fun _ => by kernel_rfl) ?_
                              refine SOps.nil ?_
                              obtain ⟨Hr, hr, h⟩ := h
                              exact SW.ret (retQ.mk (.bool (x103 == 3)) (res1 rfl rfl) hr ⟨(x103 == 3), rfl, h⟩)
                          · skip
                            refine SW.seq ?_
                            refine SW.region ?_
                            refine SOps.val (v := pv (some (b86, 3))) rfl (wantN rfl) (fun _ => by kernel_rfl) ?_
                            obtain ⟨s87, c88, h⟩ := h
                            refine SOps.rd (v := .string s87) rfl (wantN rfl) (fun w hw => ev_load1 rfl (fun _ => by kernel_rfl) (p := (b86, 3)) rfl c88 w hw) ?_
                            refine SOps.val (v := .bool (!decide (s87 = ByteArray.empty))) rfl (wantN rfl) (fun w => ev_neS rfl rfl rfl w) ?_
                            refine SOps.val (v := .bool (!decide (s87 = ByteArray.empty))) rfl (wantN rfl) (fun _ => by kernel_rfl) ?_
                            by_cases c89 : (s87 = ByteArray.empty)
                            · replace h := h.1 c89
                              have dc89 : (decide (s87 = ByteArray.empty)) = true := (decide_eq_true c89)
                              refine SOps.off rfl (wantX (c := !decide (s87 = ByteArray.empty)) rfl rfl rfl (not_t dc89)) ?_
                              refine SOps.off rfl (wantX (c := !decide (s87 = ByteArray.empty)) rfl rfl rfl (not_t dc89)) ?_
                              refine SOps.off rfl (wantX (c := !decide (s87 = ByteArray.empty)) rfl rfl rfl (not_t dc89)) ?_
                              refine SOps.val (v := .bool false) rfl (wantN rfl) (fun w => ev_pickF (v := .bool false) rfl (t := !decide (s87 = ByteArray.empty)) rfl (not_t dc89) rfl w) ?_
                              refine SOps.val (v := .bool false) rfl (wantN rfl) (fun _ => by kernel_rfl) ?_
                              refine SOps.off rfl (wantX (c := false) rfl rfl rfl rfl) ?_
                              refine SOps.off rfl (wantX (c := false) rfl rfl rfl rfl) ?_
                              refine SOps.off rfl (wantX (c := false) rfl rfl rfl rfl) ?_
                              refine SOps.off rfl (wantX (c := false) rfl rfl rfl rfl) ?_
                              refine SOps.off rfl (wantU rfl rfl rfl) ?_
                              refine SOps.off rfl (wantU rfl rfl rfl) ?_
                              refine SOps.off rfl (wantU rfl rfl rfl) ?_
                              refine SOps.off rfl (wantU rfl rfl rfl) ?_
                              refine SOps.off rfl (wantX (c := false) rfl rfl rfl rfl) ?_
                              refine SOps.val (v := .bool false) rfl (wantN rfl) (fun w => ev_pickF (v := .bool false) rfl (t := false) rfl rfl rfl w) ?_
                              refine SOps.nil ?_
                              refine SW.cond_f (t := false) rfl rfl ?_
                              refine SW.skip ?_
                              exact ⟨_, b86, Fr.upds_self _ _ ⟨rfl, trivial⟩, h⟩
                            · replace h := h.2 c89
                              have dc89 : (decide (s87 = ByteArray.empty)) = false := (decide_eq_false c89)
                              refine SOps.val (v := pv (some (b86, 0))) rfl (wantY (c := !decide (s87 = ByteArray.empty)) rfl rfl rfl (not_f dc89)) (fun _ => by kernel_rfl) ?_
                              obtain ⟨x91, c92, h⟩ := h
                              refine SOps.rd (v := .int .i64 x91) rfl (wantY (c := !decide (s87 = ByteArray.empty)) rfl rfl rfl (not_f dc89)) (fun w hw => ev_load1 rfl (fun _ => by kernel_rfl) (p := (b86, 0)) rfl c92 w hw) ?_
                              refine SOps.val (v := .bool (x91 != 1)) rfl (wantY (c := !decide (s87 = ByteArray.empty)) rfl rfl rfl (not_f dc89)) (fun _ => by kernel_rfl) ?_
                              refine SOps.val (v := .bool (x91 != 1)) rfl (wantN rfl) (fun w => ev_pickT (v := .bool (x91 != 1)) rfl (t := !decide (s87 = ByteArray.empty)) rfl (not_f dc89) rfl w) ?_
                              refine SOps.val (v := .bool (x91 != 1)) rfl (wantN rfl) (fun _ => by kernel_rfl) ?_
                              by_cases c93 : x91 ≠ 1
                              · replace h := h.1 c93
                                have dc93 : (x91 != 1) = true := (bne_iff_ne.mpr c93)
                                refine SOps.val (v := pv (some (b86, 0))) rfl (wantY (c := (x91 != 1)) rfl rfl rfl dc93) (fun _ => by kernel_rfl) ?_
                                obtain ⟨x94, c95, h⟩ := h
                                refine SOps.rd (v := .int .i64 x94) rfl (wantY (c := (x91 != 1)) rfl rfl rfl dc93) (fun w hw => ev_load1 rfl (fun _ => by kernel_rfl) (p := (b86, 0)) rfl c95 w hw) ?_
                                refine SOps.val (v := .bool (x94 != 3)) rfl (wantY (c := (x91 != 1)) rfl rfl rfl dc93) (fun _ => by kernel_rfl) ?_
                                refine SOps.val (v := .bool (x94 != 3)) rfl (wantY (c := (x91 != 1)) rfl rfl rfl dc93) (fun _ => by kernel_rfl) ?_
                                by_cases c96 : x94 ≠ 3
                                · replace h := h.1 c96
                                  have dc96 : (x94 != 3) = true := (bne_iff_ne.mpr c96)
                                  refine SOps.off rfl (wantX (c := (x94 != 3)) rfl rfl rfl dc96) ?_
                                  refine SOps.off rfl (wantX (c := (x94 != 3)) rfl rfl rfl dc96) ?_
                                  refine SOps.off rfl (wantX (c := (x94 != 3)) rfl rfl rfl dc96) ?_
                                  refine SOps.off rfl (wantX (c := (x94 != 3)) rfl rfl rfl dc96) ?_
                                  refine SOps.val (v := .bool true) rfl (wantY (c := (x91 != 1)) rfl rfl rfl dc93) (fun w => ev_pickT (v := .bool true) rfl (t := (x94 != 3)) rfl dc96 rfl w) ?_
                                  refine SOps.val (v := .bool true) rfl (wantN rfl) (fun w => ev_pickT (v := .bool true) rfl (t := (x91 != 1)) rfl dc93 rfl w) ?_
                                  refine SOps.nil ?_
                                  refine SW.cond_t (t := true) rfl rfl ?_
                                  refine SW.seq ?_
                                  refine SW.region ?_
                                  refine SOps.val (v := .bool false) rfl (wantN rfl) (fun _ => by kernel_rfl) ?_
                                  refine SOps.nil ?_
                                  obtain ⟨Hr, hr, h⟩ := h
                                  exact SW.ret (retQ.mk (.bool false) (res1 rfl rfl) hr ⟨false, rfl, h⟩)
                                · replace h := h.2 c96
                                  have dc96 : (x94 != 3) = false := (by simpa using c96)
                                  refine SOps.val (v := pv (some (b86, 3))) rfl (wantY (c := (x94 != 3)) rfl rfl rfl dc96) (fun _ => by kernel_rfl) ?_
                                  obtain ⟨s97, c98, h⟩ := h
                                  refine SOps.rd (v := .string s97) rfl (wantY (c := (x94 != 3)) rfl rfl rfl dc96) (fun w hw => ev_load1 rfl (fun _ => by kernel_rfl) (p := (b86, 3)) rfl c98 w hw) ?_
                                  refine SOps.val (v := .int .i64 (s97.size : Int)) rfl (wantY (c := (x94 != 3)) rfl rfl rfl dc96) (fun _ => by kernel_rfl) ?_
                                  refine SOps.val (v := .bool (decide ((s97.size : Int) > 64))) rfl (wantY (c := (x94 != 3)) rfl rfl rfl dc96) (fun _ => by kernel_rfl) ?_
                                  refine SOps.val (v := .bool (decide ((s97.size : Int) > 64))) rfl (wantY (c := (x91 != 1)) rfl rfl rfl dc93) (fun w => ev_pickF (v := .bool (decide ((s97.size : Int) > 64))) rfl (t := (x94 != 3)) rfl dc96 rfl w) ?_
                                  refine SOps.val (v := .bool (decide ((s97.size : Int) > 64))) rfl (wantN rfl) (fun w => ev_pickT (v := .bool (decide ((s97.size : Int) > 64))) rfl (t := (x91 != 1)) rfl dc93 rfl w) ?_
                                  refine SOps.nil ?_
                                  by_cases c99 : (s97.size : Int) > 64
                                  · replace h := h.1 c99
                                    have dc99 : (decide ((s97.size : Int) > 64)) = true := (decide_eq_true c99)
                                    refine SW.cond_t (t := decide ((s97.size : Int) > 64)) rfl dc99 ?_
                                    refine SW.seq ?_
                                    refine SW.region ?_
                                    refine SOps.val (v := .bool false) rfl (wantN rfl) (fun _ => by kernel_rfl) ?_
                                    refine SOps.nil ?_
                                    obtain ⟨Hr, hr, h⟩ := h
                                    exact SW.ret (retQ.mk (.bool false) (res1 rfl rfl) hr ⟨false, rfl, h⟩)
                                  · replace h := h.2 c99
                                    have dc99 : (decide ((s97.size : Int) > 64)) = false := (decide_eq_false c99)
                                    refine SW.cond_f (t := decide ((s97.size : Int) > 64)) rfl dc99 ?_
                                    refine SW.skip ?_
                                    exact ⟨_, b86, Fr.upds_self _ _ ⟨rfl, trivial⟩, h⟩
                              · replace h := h.2 c93
                                have dc93 : (x91 != 1) = false := (by simpa using c93)
                                refine SOps.off rfl (wantX (c := (x91 != 1)) rfl rfl rfl dc93) ?_
                                refine SOps.off rfl (wantX (c := (x91 != 1)) rfl rfl rfl dc93) ?_
                                refine SOps.off rfl (wantX (c := (x91 != 1)) rfl rfl rfl dc93) ?_
                                refine SOps.off rfl (wantX (c := (x91 != 1)) rfl rfl rfl dc93) ?_
                                refine SOps.off rfl (wantU rfl rfl rfl) ?_
                                refine SOps.off rfl (wantU rfl rfl rfl) ?_
                                refine SOps.off rfl (wantU rfl rfl rfl) ?_
                                refine SOps.off rfl (wantU rfl rfl rfl) ?_
                                refine SOps.off rfl (wantX (c := (x91 != 1)) rfl rfl rfl dc93) ?_
                                refine SOps.val (v := .bool false) rfl (wantN rfl) (fun w => ev_pickF (v := .bool false) rfl (t := (x91 != 1)) rfl dc93 rfl w) ?_
                                refine SOps.nil ?_
                                refine SW.cond_f (t := false) rfl rfl ?_
                                refine SW.skip ?_
                                exact ⟨_, b86, Fr.upds_self _ _ ⟨rfl, trivial⟩, h⟩
                        · skip
                          refine SW.seq ?_
                          refine SW.region ?_
                          refine SOps.val (v := pv (some (b61, 2))) rfl (wantN rfl) (fun _ => by kernel_rfl) ?_
                          obtain ⟨x71, c72, h⟩ := h
                          refine SOps.rd (v := .int .i64 x71) rfl (wantN rfl) (fun w hw => ev_load1 rfl (fun _ => by kernel_rfl) (p := (b61, 2)) rfl c72 w hw) ?_
                          refine SOps.val (v := .bool (x71 != 0)) rfl (wantN rfl) (fun _ => by kernel_rfl) ?_
                          refine SOps.val (v := .bool (x71 != 0)) rfl (wantN rfl) (fun _ => by kernel_rfl) ?_
                          by_cases c73 : x71 ≠ 0
                          · replace h := h.1 c73
                            have dc73 : (x71 != 0) = true := (bne_iff_ne.mpr c73)
                            refine SOps.val (v := pv (some (b61, 0))) rfl (wantY (c := (x71 != 0)) rfl rfl rfl dc73) (fun _ => by kernel_rfl) ?_
                            obtain ⟨x74, c75, h⟩ := h
                            refine SOps.rd (v := .int .i64 x74) rfl (wantY (c := (x71 != 0)) rfl rfl rfl dc73) (fun w hw => ev_load1 rfl (fun _ => by kernel_rfl) (p := (b61, 0)) rfl c75 w hw) ?_
                            refine SOps.val (v := .bool (x74 != 2)) rfl (wantY (c := (x71 != 0)) rfl rfl rfl dc73) (fun _ => by kernel_rfl) ?_
                            refine SOps.val (v := .bool (x74 != 2)) rfl (wantN rfl) (fun w => ev_pickT (v := .bool (x74 != 2)) rfl (t := (x71 != 0)) rfl dc73 rfl w) ?_
                            refine SOps.val (v := .bool (x74 != 2)) rfl (wantN rfl) (fun _ => by kernel_rfl) ?_
                            by_cases c76 : x74 ≠ 2
                            · replace h := h.1 c76
                              have dc76 : (x74 != 2) = true := (bne_iff_ne.mpr c76)
                              refine SOps.val (v := pv (some (b61, 0))) rfl (wantY (c := (x74 != 2)) rfl rfl rfl dc76) (fun _ => by kernel_rfl) ?_
                              obtain ⟨x77, c78, h⟩ := h
                              refine SOps.rd (v := .int .i64 x77) rfl (wantY (c := (x74 != 2)) rfl rfl rfl dc76) (fun w hw => ev_load1 rfl (fun _ => by kernel_rfl) (p := (b61, 0)) rfl c78 w hw) ?_
                              refine SOps.val (v := .bool (x77 != 3)) rfl (wantY (c := (x74 != 2)) rfl rfl rfl dc76) (fun _ => by kernel_rfl) ?_
                              refine SOps.val (v := .bool (x77 != 3)) rfl (wantN rfl) (fun w => ev_pickT (v := .bool (x77 != 3)) rfl (t := (x74 != 2)) rfl dc76 rfl w) ?_
                              refine SOps.val (v := .bool (x77 != 3)) rfl (wantN rfl) (fun _ => by kernel_rfl) ?_
                              by_cases c79 : x77 ≠ 3
                              · replace h := h.1 c79
                                have dc79 : (x77 != 3) = true := (bne_iff_ne.mpr c79)
                                refine SOps.val (v := pv (some (b61, 0))) rfl (wantY (c := (x77 != 3)) rfl rfl rfl dc79) (fun _ => by kernel_rfl) ?_
                                obtain ⟨x80, c81, h⟩ := h
                                refine SOps.rd (v := .int .i64 x80) rfl (wantY (c := (x77 != 3)) rfl rfl rfl dc79) (fun w hw => ev_load1 rfl (fun _ => by kernel_rfl) (p := (b61, 0)) rfl c81 w hw) ?_
                                refine SOps.val (v := .bool (x80 != 4)) rfl (wantY (c := (x77 != 3)) rfl rfl rfl dc79) (fun _ => by kernel_rfl) ?_
                                refine SOps.val (v := .bool (x80 != 4)) rfl (wantN rfl) (fun w => ev_pickT (v := .bool (x80 != 4)) rfl (t := (x77 != 3)) rfl dc79 rfl w) ?_
                                refine SOps.val (v := .bool (x80 != 4)) rfl (wantN rfl) (fun _ => by kernel_rfl) ?_
                                by_cases c82 : x80 ≠ 4
                                · replace h := h.1 c82
                                  have dc82 : (x80 != 4) = true := (bne_iff_ne.mpr c82)
                                  refine SOps.val (v := pv (some (b61, 0))) rfl (wantY (c := (x80 != 4)) rfl rfl rfl dc82) (fun _ => by kernel_rfl) ?_
                                  obtain ⟨x83, c84, h⟩ := h
                                  refine SOps.rd (v := .int .i64 x83) rfl (wantY (c := (x80 != 4)) rfl rfl rfl dc82) (fun w hw => ev_load1 rfl (fun _ => by kernel_rfl) (p := (b61, 0)) rfl c84 w hw) ?_
                                  refine SOps.val (v := .bool (x83 != 10)) rfl (wantY (c := (x80 != 4)) rfl rfl rfl dc82) (fun _ => by kernel_rfl) ?_
                                  refine SOps.val (v := .bool (x83 != 10)) rfl (wantN rfl) (fun w => ev_pickT (v := .bool (x83 != 10)) rfl (t := (x80 != 4)) rfl dc82 rfl w) ?_
                                  refine SOps.nil ?_
                                  by_cases c85 : x83 ≠ 10
                                  · replace h := h.1 c85
                                    have dc85 : (x83 != 10) = true := (bne_iff_ne.mpr c85)
                                    refine SW.cond_t (t := (x83 != 10)) rfl dc85 ?_
                                    refine SW.seq ?_
                                    refine SW.region ?_
                                    refine SOps.val (v := .bool false) rfl (wantN rfl) (fun _ => by kernel_rfl) ?_
                                    refine SOps.nil ?_
                                    obtain ⟨Hr, hr, h⟩ := h
                                    exact SW.ret (retQ.mk (.bool false) (res1 rfl rfl) hr ⟨false, rfl, h⟩)
                                  · replace h := h.2 c85
                                    have dc85 : (x83 != 10) = false := (by simpa using c85)
                                    refine SW.cond_f (t := (x83 != 10)) rfl dc85 ?_
                                    refine SW.skip ?_
                                    exact ⟨_, b61, Fr.upds_self _ _ ⟨rfl, trivial⟩, h⟩
                                · replace h := h.2 c82
                                  have dc82 : (x80 != 4) = false := (by simpa using c82)
                                  refine SOps.off rfl (wantX (c := (x80 != 4)) rfl rfl rfl dc82) ?_
                                  refine SOps.off rfl (wantX (c := (x80 != 4)) rfl rfl rfl dc82) ?_
                                  refine SOps.off rfl (wantX (c := (x80 != 4)) rfl rfl rfl dc82) ?_
                                  refine SOps.val (v := .bool false) rfl (wantN rfl) (fun w => ev_pickF (v := .bool false) rfl (t := (x80 != 4)) rfl dc82 rfl w) ?_
                                  refine SOps.nil ?_
                                  refine SW.cond_f (t := false) rfl rfl ?_
                                  refine SW.skip ?_
                                  exact ⟨_, b61, Fr.upds_self _ _ ⟨rfl, trivial⟩, h⟩
                              · replace h := h.2 c79
                                have dc79 : (x77 != 3) = false := (by simpa using c79)
                                refine SOps.off rfl (wantX (c := (x77 != 3)) rfl rfl rfl dc79) ?_
                                refine SOps.off rfl (wantX (c := (x77 != 3)) rfl rfl rfl dc79) ?_
                                refine SOps.off rfl (wantX (c := (x77 != 3)) rfl rfl rfl dc79) ?_
                                refine SOps.val (v := .bool false) rfl (wantN rfl) (fun w => ev_pickF (v := .bool false) rfl (t := (x77 != 3)) rfl dc79 rfl w) ?_
                                refine SOps.val (v := .bool false) rfl (wantN rfl) (fun _ => by kernel_rfl) ?_
                                refine SOps.off rfl (wantX (c := false) rfl rfl rfl rfl) ?_
                                refine SOps.off rfl (wantX (c := false) rfl rfl rfl rfl) ?_
                                refine SOps.off rfl (wantX (c := false) rfl rfl rfl rfl) ?_
                                refine SOps.val (v := .bool false) rfl (wantN rfl) (fun w => ev_pickF (v := .bool false) rfl (t := false) rfl rfl rfl w) ?_
                                refine SOps.nil ?_
                                refine SW.cond_f (t := false) rfl rfl ?_
                                refine SW.skip ?_
                                exact ⟨_, b61, Fr.upds_self _ _ ⟨rfl, trivial⟩, h⟩
                            · replace h := h.2 c76
                              have dc76 : (x74 != 2) = false := (by simpa using c76)
                              refine SOps.off rfl (wantX (c := (x74 != 2)) rfl rfl rfl dc76) ?_
                              refine SOps.off rfl (wantX (c := (x74 != 2)) rfl rfl rfl dc76) ?_
                              refine SOps.off rfl (wantX (c := (x74 != 2)) rfl rfl rfl dc76) ?_
                              refine SOps.val (v := .bool false) rfl (wantN rfl) (fun w => ev_pickF (v := .bool false) rfl (t := (x74 != 2)) rfl dc76 rfl w) ?_
                              refine SOps.val (v := .bool false) rfl (wantN rfl) (fun _ => by kernel_rfl) ?_
                              refine SOps.off rfl (wantX (c := false) rfl rfl rfl rfl) ?_
                              refine SOps.off rfl (wantX (c := false) rfl rfl rfl rfl) ?_
                              refine SOps.off rfl (wantX (c := false) rfl rfl rfl rfl) ?_
                              refine SOps.val (v := .bool false) rfl (wantN rfl) (fun w => ev_pickF (v := .bool false) rfl (t := false) rfl rfl rfl w) ?_
                              refine SOps.val (v := .bool false) rfl (wantN rfl) (fun _ => by kernel_rfl) ?_
                              refine SOps.off rfl (wantX (c := false) rfl rfl rfl rfl) ?_
                              refine SOps.off rfl (wantX (c := false) rfl rfl rfl rfl) ?_
                              refine SOps.off rfl (wantX (c := false) rfl rfl rfl rfl) ?_
                              refine SOps.val (v := .bool false) rfl (wantN rfl) (fun w => ev_pickF (v := .bool false) rfl (t := false) rfl rfl rfl w) ?_
                              refine SOps.nil ?_
                              refine SW.cond_f (t := false) rfl rfl ?_
                              refine SW.skip ?_
                              exact ⟨_, b61, Fr.upds_self _ _ ⟨rfl, trivial⟩, h⟩
                          · replace h := h.2 c73
                            have dc73 : (x71 != 0) = false := (by simpa using c73)
                            refine SOps.off rfl (wantX (c := (x71 != 0)) rfl rfl rfl dc73) ?_
                            refine SOps.off rfl (wantX (c := (x71 != 0)) rfl rfl rfl dc73) ?_
                            refine SOps.off rfl (wantX (c := (x71 != 0)) rfl rfl rfl dc73) ?_
                            refine SOps.val (v := .bool false) rfl (wantN rfl) (fun w => ev_pickF (v := .bool false) rfl (t := (x71 != 0)) rfl dc73 rfl w) ?_
                            refine SOps.val (v := .bool false) rfl (wantN rfl) (fun _ => by kernel_rfl) ?_
                            refine SOps.off rfl (wantX (c := false) rfl rfl rfl rfl) ?_
                            refine SOps.off rfl (wantX (c := false) rfl rfl rfl rfl) ?_
                            refine SOps.off rfl (wantX (c := false) rfl rfl rfl rfl) ?_
                            refine SOps.val (v := .bool false) rfl (wantN rfl) (fun w => ev_pickF (v := .bool false) rfl (t := false) rfl rfl rfl w) ?_
                            refine SOps.val (v := .bool false) rfl (wantN rfl) (fun _ => by kernel_rfl) ?_
                            refine SOps.off rfl (wantX (c := false) rfl rfl rfl rfl) ?_
                            refine SOps.off rfl (wantX (c := false) rfl rfl rfl rfl) ?_
                            refine SOps.off rfl (wantX (c := false) rfl rfl rfl rfl) ?_
                            refine SOps.val (v := .bool false) rfl (wantN rfl) (fun w => ev_pickF (v := .bool false) rfl (t := false) rfl rfl rfl w) ?_
                            refine SOps.val (v := .bool false) rfl (wantN rfl) (fun _ => by kernel_rfl) ?_
                            refine SOps.off rfl (wantX (c := false) rfl rfl rfl rfl) ?_
                            refine SOps.off rfl (wantX (c := false) rfl rfl rfl rfl) ?_
                            refine SOps.off rfl (wantX (c := false) rfl rfl rfl rfl) ?_
                            refine SOps.val (v := .bool false) rfl (wantN rfl) (fun w => ev_pickF (v := .bool false) rfl (t := false) rfl rfl rfl w) ?_
                            refine SOps.nil ?_
                            refine SW.cond_f (t := false) rfl rfl ?_
                            refine SW.skip ?_
                            exact ⟨_, b61, Fr.upds_self _ _ ⟨rfl, trivial⟩, h⟩
                      · skip
                        refine SW.seq ?_
                        refine SW.region ?_
                        refine SOps.val (v := pv (some (b26, 0))) rfl (wantN rfl) (fun _ => by kernel_rfl) ?_
                        obtain ⟨x46, c47, h⟩ := h
                        refine SOps.rd (v := .int .i64 x46) rfl (wantN rfl) (fun w hw => ev_load1 rfl (fun _ => by kernel_rfl) (p := (b26, 0)) rfl c47 w hw) ?_
                        refine SOps.val (v := .bool (x46 == 1)) rfl (wantN rfl) (fun _ => by kernel_rfl) ?_
                        refine SOps.val (v := .bool (x46 == 1)) rfl (wantN rfl) (fun _ => by kernel_rfl) ?_
                        by_cases c48 : x46 = 1
                        · replace h := h.1 c48
                          have dc48 : (x46 == 1) = true := (beq_iff_eq.mpr c48)
                          refine SOps.val (v := pv (some (b26, 1))) rfl (wantY (c := (x46 == 1)) rfl rfl rfl dc48) (fun _ => by kernel_rfl) ?_
                          obtain ⟨x49, c50, h⟩ := h
                          refine SOps.rd (v := .int .i64 x49) rfl (wantY (c := (x46 == 1)) rfl rfl rfl dc48) (fun w hw => ev_load1 rfl (fun _ => by kernel_rfl) (p := (b26, 1)) rfl c50 w hw) ?_
                          refine SOps.val (v := .bool (x49 != 0)) rfl (wantY (c := (x46 == 1)) rfl rfl rfl dc48) (fun _ => by kernel_rfl) ?_
                          refine SOps.val (v := .bool (x49 != 0)) rfl (wantN rfl) (fun w => ev_pickT (v := .bool (x49 != 0)) rfl (t := (x46 == 1)) rfl dc48 rfl w) ?_
                          refine SOps.val (v := .bool (x49 != 0)) rfl (wantN rfl) (fun _ => by kernel_rfl) ?_
                          by_cases c51 : x49 ≠ 0
                          · replace h := h.1 c51
                            have dc51 : (x49 != 0) = true := (bne_iff_ne.mpr c51)
                            refine SOps.off rfl (wantX (c := (x49 != 0)) rfl rfl rfl dc51) ?_
                            refine SOps.off rfl (wantX (c := (x49 != 0)) rfl rfl rfl dc51) ?_
                            refine SOps.off rfl (wantX (c := (x49 != 0)) rfl rfl rfl dc51) ?_
                            refine SOps.off rfl (wantX (c := (x49 != 0)) rfl rfl rfl dc51) ?_
                            refine SOps.off rfl (wantU rfl rfl rfl) ?_
                            refine SOps.off rfl (wantU rfl rfl rfl) ?_
                            refine SOps.off rfl (wantU rfl rfl rfl) ?_
                            refine SOps.off rfl (wantX (c := (x49 != 0)) rfl rfl rfl dc51) ?_
                            refine SOps.off rfl (wantX (c := (x49 != 0)) rfl rfl rfl dc51) ?_
                            refine SOps.off rfl (wantU rfl rfl rfl) ?_
                            refine SOps.off rfl (wantU rfl rfl rfl) ?_
                            refine SOps.off rfl (wantU rfl rfl rfl) ?_
                            refine SOps.off rfl (wantX (c := (x49 != 0)) rfl rfl rfl dc51) ?_
                            refine SOps.val (v := .bool true) rfl (wantN rfl) (fun w => ev_pickT (v := .bool true) rfl (t := (x49 != 0)) rfl dc51 rfl w) ?_
                            refine SOps.nil ?_
                            refine SW.cond_t (t := true) rfl rfl ?_
                            refine SW.seq ?_
                            refine SW.region ?_
                            refine SOps.val (v := .bool false) rfl (wantN rfl) (fun _ => by kernel_rfl) ?_
                            refine SOps.nil ?_
                            obtain ⟨Hr, hr, h⟩ := h
                            exact SW.ret (retQ.mk (.bool false) (res1 rfl rfl) hr ⟨false, rfl, h⟩)
                          · replace h := h.2 c51
                            have dc51 : (x49 != 0) = false := (by simpa using c51)
                            refine SOps.val (v := pv (some (b26, 0))) rfl (wantY (c := (x49 != 0)) rfl rfl rfl dc51) (fun _ => by kernel_rfl) ?_
                            obtain ⟨x52, c53, h⟩ := h
                            refine SOps.rd (v := .int .i64 x52) rfl (wantY (c := (x49 != 0)) rfl rfl rfl dc51) (fun w hw => ev_load1 rfl (fun _ => by kernel_rfl) (p := (b26, 0)) rfl c53 w hw) ?_
                            refine SOps.val (v := .bool (decide (x52 > 1))) rfl (wantY (c := (x49 != 0)) rfl rfl rfl dc51) (fun _ => by kernel_rfl) ?_
                            refine SOps.val (v := .bool (decide (x52 > 1))) rfl (wantY (c := (x49 != 0)) rfl rfl rfl dc51) (fun _ => by kernel_rfl) ?_
                            by_cases c54 : x52 > 1
                            · replace h := h.1 c54
                              have dc54 : (decide (x52 > 1)) = true := (decide_eq_true c54)
                              refine SOps.val (v := pv (some (b26, 0))) rfl (wantY (c := decide (x52 > 1)) rfl rfl rfl dc54) (fun _ => by kernel_rfl) ?_
                              obtain ⟨x55, c56, h⟩ := h
                              refine SOps.rd (v := .int .i64 x55) rfl (wantY (c := decide (x52 > 1)) rfl rfl rfl dc54) (fun w hw => ev_load1 rfl (fun _ => by kernel_rfl) (p := (b26, 0)) rfl c56 w hw) ?_
                              refine SOps.val (v := .bool (decide (x55 < 10))) rfl (wantY (c := decide (x52 > 1)) rfl rfl rfl dc54) (fun _ => by kernel_rfl) ?_
                              refine SOps.val (v := .bool (decide (x55 < 10))) rfl (wantY (c := (x49 != 0)) rfl rfl rfl dc51) (fun w => ev_pickT (v := .bool (decide (x55 < 10))) rfl (t := decide (x52 > 1)) rfl dc54 rfl w) ?_
                              refine SOps.val (v := .bool (decide (x55 < 10))) rfl (wantY (c := (x49 != 0)) rfl rfl rfl dc51) (fun _ => by kernel_rfl) ?_
                              by_cases c57 : x55 < 10
                              · replace h := h.1 c57
                                have dc57 : (decide (x55 < 10)) = true := (decide_eq_true c57)
                                refine SOps.val (v := pv (some (b26, 1))) rfl (wantY (c := decide (x55 < 10)) rfl rfl rfl dc57) (fun _ => by kernel_rfl) ?_
                                obtain ⟨x58, c59, h⟩ := h
                                refine SOps.rd (v := .int .i64 x58) rfl (wantY (c := decide (x55 < 10)) rfl rfl rfl dc57) (fun w hw => ev_load1 rfl (fun _ => by kernel_rfl) (p := (b26, 1)) rfl c59 w hw) ?_
                                refine SOps.val (v := .bool (x58 == 0)) rfl (wantY (c := decide (x55 < 10)) rfl rfl rfl dc57) (fun _ => by kernel_rfl) ?_
                                refine SOps.val (v := .bool (x58 == 0)) rfl (wantY (c := (x49 != 0)) rfl rfl rfl dc51) (fun w => ev_pickT (v := .bool (x58 == 0)) rfl (t := decide (x55 < 10)) rfl dc57 rfl w) ?_
                                refine SOps.val (v := .bool (x58 == 0)) rfl (wantN rfl) (fun w => ev_pickF (v := .bool (x58 == 0)) rfl (t := (x49 != 0)) rfl dc51 rfl w) ?_
                                refine SOps.nil ?_
                                by_cases c60 : x58 = 0
                                · replace h := h.1 c60
                                  have dc60 : (x58 == 0) = true := (beq_iff_eq.mpr c60)
                                  refine SW.cond_t (t := (x58 == 0)) rfl dc60 ?_
                                  refine SW.seq ?_
                                  refine SW.region ?_
                                  refine SOps.val (v := .bool false) rfl (wantN rfl) (fun _ => by kernel_rfl) ?_
                                  refine SOps.nil ?_
                                  obtain ⟨Hr, hr, h⟩ := h
                                  exact SW.ret (retQ.mk (.bool false) (res1 rfl rfl) hr ⟨false, rfl, h⟩)
                                · replace h := h.2 c60
                                  have dc60 : (x58 == 0) = false := (beq_eq_false_iff_ne.mpr c60)
                                  refine SW.cond_f (t := (x58 == 0)) rfl dc60 ?_
                                  refine SW.skip ?_
                                  exact ⟨_, b26, Fr.upds_self _ _ ⟨rfl, trivial⟩, h⟩
                              · replace h := h.2 c57
                                have dc57 : (decide (x55 < 10)) = false := (decide_eq_false c57)
                                refine SOps.off rfl (wantX (c := decide (x55 < 10)) rfl rfl rfl dc57) ?_
                                refine SOps.off rfl (wantX (c := decide (x55 < 10)) rfl rfl rfl dc57) ?_
                                refine SOps.off rfl (wantX (c := decide (x55 < 10)) rfl rfl rfl dc57) ?_
                                refine SOps.val (v := .bool false) rfl (wantY (c := (x49 != 0)) rfl rfl rfl dc51) (fun w => ev_pickF (v := .bool false) rfl (t := decide (x55 < 10)) rfl dc57 rfl w) ?_
                                refine SOps.val (v := .bool false) rfl (wantN rfl) (fun w => ev_pickF (v := .bool false) rfl (t := (x49 != 0)) rfl dc51 rfl w) ?_
                                refine SOps.nil ?_
                                refine SW.cond_f (t := false) rfl rfl ?_
                                refine SW.skip ?_
                                exact ⟨_, b26, Fr.upds_self _ _ ⟨rfl, trivial⟩, h⟩
                            · replace h := h.2 c54
                              have dc54 : (decide (x52 > 1)) = false := (decide_eq_false c54)
                              refine SOps.off rfl (wantX (c := decide (x52 > 1)) rfl rfl rfl dc54) ?_
                              refine SOps.off rfl (wantX (c := decide (x52 > 1)) rfl rfl rfl dc54) ?_
                              refine SOps.off rfl (wantX (c := decide (x52 > 1)) rfl rfl rfl dc54) ?_
                              refine SOps.val (v := .bool false) rfl (wantY (c := (x49 != 0)) rfl rfl rfl dc51) (fun w => ev_pickF (v := .bool false) rfl (t := decide (x52 > 1)) rfl dc54 rfl w) ?_
                              refine SOps.val (v := .bool false) rfl (wantY (c := (x49 != 0)) rfl rfl rfl dc51) (fun _ => by kernel_rfl) ?_
                              refine SOps.off rfl (wantX (c := false) rfl rfl rfl rfl) ?_
                              refine SOps.off rfl (wantX (c := false) rfl rfl rfl rfl) ?_
                              refine SOps.off rfl (wantX (c := false) rfl rfl rfl rfl) ?_
                              refine SOps.val (v := .bool false) rfl (wantY (c := (x49 != 0)) rfl rfl rfl dc51) (fun w => ev_pickF (v := .bool false) rfl (t := false) rfl rfl rfl w) ?_
                              refine SOps.val (v := .bool false) rfl (wantN rfl) (fun w => ev_pickF (v := .bool false) rfl (t := (x49 != 0)) rfl dc51 rfl w) ?_
                              refine SOps.nil ?_
                              refine SW.cond_f (t := false) rfl rfl ?_
                              refine SW.skip ?_
                              exact ⟨_, b26, Fr.upds_self _ _ ⟨rfl, trivial⟩, h⟩
                        · replace h := h.2 c48
                          have dc48 : (x46 == 1) = false := (beq_eq_false_iff_ne.mpr c48)
                          refine SOps.off rfl (wantX (c := (x46 == 1)) rfl rfl rfl dc48) ?_
                          refine SOps.off rfl (wantX (c := (x46 == 1)) rfl rfl rfl dc48) ?_
                          refine SOps.off rfl (wantX (c := (x46 == 1)) rfl rfl rfl dc48) ?_
                          refine SOps.val (v := .bool false) rfl (wantN rfl) (fun w => ev_pickF (v := .bool false) rfl (t := (x46 == 1)) rfl dc48 rfl w) ?_
                          refine SOps.val (v := .bool false) rfl (wantN rfl) (fun _ => by kernel_rfl) ?_
                          refine SOps.val (v := pv (some (b26, 0))) rfl (wantY (c := false) rfl rfl rfl rfl) (fun _ => by kernel_rfl) ?_
                          obtain ⟨x62, c63, h⟩ := h
                          refine SOps.rd (v := .int .i64 x62) rfl (wantY (c := false) rfl rfl rfl rfl) (fun w hw => ev_load1 rfl (fun _ => by kernel_rfl) (p := (b26, 0)) rfl c63 w hw) ?_
                          refine SOps.val (v := .bool (decide (x62 > 1))) rfl (wantY (c := false) rfl rfl rfl rfl) (fun _ => by kernel_rfl) ?_
                          refine SOps.val (v := .bool (decide (x62 > 1))) rfl (wantY (c := false) rfl rfl rfl rfl) (fun _ => by kernel_rfl) ?_
                          by_cases c64 : x62 > 1
                          · replace h := h.1 c64
                            have dc64 : (decide (x62 > 1)) = true := (decide_eq_true c64)
                            refine SOps.val (v := pv (some (b26, 0))) rfl (wantY (c := decide (x62 > 1)) rfl rfl rfl dc64) (fun _ => by kernel_rfl) ?_
                            obtain ⟨x65, c66, h⟩ := h
                            refine SOps.rd (v := .int .i64 x65) rfl (wantY (c := decide (x62 > 1)) rfl rfl rfl dc64) (fun w hw => ev_load1 rfl (fun _ => by kernel_rfl) (p := (b26, 0)) rfl c66 w hw) ?_
                            refine SOps.val (v := .bool (decide (x65 < 10))) rfl (wantY (c := decide (x62 > 1)) rfl rfl rfl dc64) (fun _ => by kernel_rfl) ?_
                            refine SOps.val (v := .bool (decide (x65 < 10))) rfl (wantY (c := false) rfl rfl rfl rfl) (fun w => ev_pickT (v := .bool (decide (x65 < 10))) rfl (t := decide (x62 > 1)) rfl dc64 rfl w) ?_
                            refine SOps.val (v := .bool (decide (x65 < 10))) rfl (wantY (c := false) rfl rfl rfl rfl) (fun _ => by kernel_rfl) ?_
                            by_cases c67 : x65 < 10
                            · replace h := h.1 c67
                              have dc67 : (decide (x65 < 10)) = true := (decide_eq_true c67)
                              refine SOps.val (v := pv (some (b26, 1))) rfl (wantY (c := decide (x65 < 10)) rfl rfl rfl dc67) (fun _ => by kernel_rfl) ?_
                              obtain ⟨x68, c69, h⟩ := h
                              refine SOps.rd (v := .int .i64 x68) rfl (wantY (c := decide (x65 < 10)) rfl rfl rfl dc67) (fun w hw => ev_load1 rfl (fun _ => by kernel_rfl) (p := (b26, 1)) rfl c69 w hw) ?_
                              refine SOps.val (v := .bool (x68 == 0)) rfl (wantY (c := decide (x65 < 10)) rfl rfl rfl dc67) (fun _ => by kernel_rfl) ?_
                              refine SOps.val (v := .bool (x68 == 0)) rfl (wantY (c := false) rfl rfl rfl rfl) (fun w => ev_pickT (v := .bool (x68 == 0)) rfl (t := decide (x65 < 10)) rfl dc67 rfl w) ?_
                              refine SOps.val (v := .bool (x68 == 0)) rfl (wantN rfl) (fun w => ev_pickF (v := .bool (x68 == 0)) rfl (t := false) rfl rfl rfl w) ?_
                              refine SOps.nil ?_
                              by_cases c70 : x68 = 0
                              · replace h := h.1 c70
                                have dc70 : (x68 == 0) = true := (beq_iff_eq.mpr c70)
                                refine SW.cond_t (t := (x68 == 0)) rfl dc70 ?_
                                refine SW.seq ?_
                                refine SW.region ?_
                                refine SOps.val (v := .bool false) rfl (wantN rfl) (fun _ => by kernel_rfl) ?_
                                refine SOps.nil ?_
                                obtain ⟨Hr, hr, h⟩ := h
                                exact SW.ret (retQ.mk (.bool false) (res1 rfl rfl) hr ⟨false, rfl, h⟩)
                              · replace h := h.2 c70
                                have dc70 : (x68 == 0) = false := (beq_eq_false_iff_ne.mpr c70)
                                refine SW.cond_f (t := (x68 == 0)) rfl dc70 ?_
                                refine SW.skip ?_
                                exact ⟨_, b26, Fr.upds_self _ _ ⟨rfl, trivial⟩, h⟩
                            · replace h := h.2 c67
                              have dc67 : (decide (x65 < 10)) = false := (decide_eq_false c67)
                              refine SOps.off rfl (wantX (c := decide (x65 < 10)) rfl rfl rfl dc67) ?_
                              refine SOps.off rfl (wantX (c := decide (x65 < 10)) rfl rfl rfl dc67) ?_
                              refine SOps.off rfl (wantX (c := decide (x65 < 10)) rfl rfl rfl dc67) ?_
                              refine SOps.val (v := .bool false) rfl (wantY (c := false) rfl rfl rfl rfl) (fun w => ev_pickF (v := .bool false) rfl (t := decide (x65 < 10)) rfl dc67 rfl w) ?_
                              refine SOps.val (v := .bool false) rfl (wantN rfl) (fun w => ev_pickF (v := .bool false) rfl (t := false) rfl rfl rfl w) ?_
                              refine SOps.nil ?_
                              refine SW.cond_f (t := false) rfl rfl ?_
                              refine SW.skip ?_
                              exact ⟨_, b26, Fr.upds_self _ _ ⟨rfl, trivial⟩, h⟩
                          · replace h := h.2 c64
                            have dc64 : (decide (x62 > 1)) = false := (decide_eq_false c64)
                            refine SOps.off rfl (wantX (c := decide (x62 > 1)) rfl rfl rfl dc64) ?_
                            refine SOps.off rfl (wantX (c := decide (x62 > 1)) rfl rfl rfl dc64) ?_
                            refine SOps.off rfl (wantX (c := decide (x62 > 1)) rfl rfl rfl dc64) ?_
                            refine SOps.val (v := .bool false) rfl (wantY (c := false) rfl rfl rfl rfl) (fun w => ev_pickF (v := .bool false) rfl (t := decide (x62 > 1)) rfl dc64 rfl w) ?_
                            refine SOps.val (v := .bool false) rfl (wantY (c := false) rfl rfl rfl rfl) (fun _ => by kernel_rfl) ?_
                            refine SOps.off rfl (wantX (c := false) rfl rfl rfl rfl) ?_
                            refine SOps.off rfl (wantX (c := false) rfl rfl rfl rfl) ?_
                            refine SOps.off rfl (wantX (c := false) rfl rfl rfl rfl) ?_
                            refine SOps.val (v := .bool false) rfl (wantY (c := false) rfl rfl rfl rfl) (fun w => ev_pickF (v := .bool false) rfl (t := false) rfl rfl rfl w) ?_
                            refine SOps.val (v := .bool false) rfl (wantN rfl) (fun w => ev_pickF (v := .bool false) rfl (t := false) rfl rfl rfl w) ?_
                            refine SOps.nil ?_
                            refine SW.cond_f (t := false) rfl rfl ?_
                            refine SW.skip ?_
                            exact ⟨_, b26, Fr.upds_self _ _ ⟨rfl, trivial⟩, h⟩

/-! ### lading/ladingref18.Put: function 26 -/
def ladingref18_Put.r1 (F : Nat) (K : ByteArray → SH → Prop) (R1 : Nat → ByteArray → Int → SH → Prop) (b35 : Nat) (s36 : ByteArray) (x37 : Int) (H : SH) : Prop :=
  ∃ (l38 : Sl),
  SH.has H (b35, 4) (sv l38) ∧
  (x37 < (l38.len : Int) →
    ∃ (l41 : Sl),
    SH.has H (b35, 4) (sv l41) ∧
    ∃ p43, l41.a = some p43 ∧ 0 ≤ x37 ∧ x37 < (l41.len : Int) ∧
    ∃ (s47 : ByteArray),
    SH.has H (p43.1, (p43.2 + x37.toNat * 1)) (.string s47) ∧
    ladingref01_Text.wp F s47 H (fun s49 H50 =>
      s36.size + s49.size ≤ 9223372036854775807 ∧
      R1 b35 (s36 ++ s49) (w64 (x37 + 1)) H50
    )
  ) ∧ (¬ (x37 < (l38.len : Int)) →
    ladingref03_Seal.wp F s36 H (fun s52 H53 =>
      ∃ Hr, SH.le Hr H53 ∧ K s52 Hr
    )
  )
def ladingref18_Put.l1 (F : Nat) (K : ByteArray → SH → Prop) : Nat → Nat → ByteArray → Int → SH → Prop
  | 0, _, _, _, _ => False
  | k + 1, b35, s36, x37, H => ladingref18_Put.r1 F K (ladingref18_Put.l1 F K k) b35 s36 x37 H
def ladingref18_Put.wp (F : Nat) (x1 : Int) (x2 : Int) (x3 : Int) (s4 : ByteArray) (l5 : Sl) (H : SH) (K : ByteArray → SH → Prop) : Prop :=
  ∀ b6, H b6 = none →
  ∃ (x8 : Int),
  SH.has (SH.upd H b6 ⟨[.int .i64 x1, .int .i64 x2, .int .i64 x3, .string s4, sv l5], 58, false, 5⟩) (b6, 0) (.int .i64 x8) ∧
  ∃ bs12 : List UInt8,
  ([.int .u8 (IntKind.u8.wrap x8)] : List Value) = byteCells bs12 ∧
  ∃ (x14 : Int),
  SH.has (SH.upd H b6 ⟨[.int .i64 x1, .int .i64 x2, .int .i64 x3, .string s4, sv l5], 58, false, 5⟩) (b6, 1) (.int .i64 x14) ∧
  ∃ (s16 : ByteArray),
  ( ladingref01_Short.wp F x14 (SH.upd H b6 ⟨[.int .i64 x1, .int .i64 x2, .int .i64 x3, .string s4, sv l5], 58, false, 5⟩) (fun s16' H' => s16' = s16 ∧ SH.le (SH.upd H b6 ⟨[.int .i64 x1, .int .i64 x2, .int .i64 x3, .string s4, sv l5], 58, false, 5⟩) H')) ∧
  (⟨bs12.toArray⟩ : ByteArray).size + s16.size ≤ 9223372036854775807 ∧
  ∃ (x19 : Int),
  SH.has (SH.upd H b6 ⟨[.int .i64 x1, .int .i64 x2, .int .i64 x3, .string s4, sv l5], 58, false, 5⟩) (b6, 2) (.int .i64 x19) ∧
  ∃ (s21 : ByteArray),
  ( ladingref01_Short.wp F x19 (SH.upd H b6 ⟨[.int .i64 x1, .int .i64 x2, .int .i64 x3, .string s4, sv l5], 58, false, 5⟩) (fun s21' H' => s21' = s21 ∧ SH.le (SH.upd H b6 ⟨[.int .i64 x1, .int .i64 x2, .int .i64 x3, .string s4, sv l5], 58, false, 5⟩) H')) ∧
  ((⟨bs12.toArray⟩ : ByteArray) ++ s16).size + s21.size ≤ 9223372036854775807 ∧
  ∃ (s24 : ByteArray),
  SH.has (SH.upd H b6 ⟨[.int .i64 x1, .int .i64 x2, .int .i64 x3, .string s4, sv l5], 58, false, 5⟩) (b6, 3) (.string s24) ∧
  ∃ (s26 : ByteArray),
  ( ladingref01_Text.wp F s24 (SH.upd H b6 ⟨[.int .i64 x1, .int .i64 x2, .int .i64 x3, .string s4, sv l5], 58, false, 5⟩) (fun s26' H' => s26' = s26 ∧ SH.le (SH.upd H b6 ⟨[.int .i64 x1, .int .i64 x2, .int .i64 x3, .string s4, sv l5], 58, false, 5⟩) H')) ∧
  (((⟨bs12.toArray⟩ : ByteArray) ++ s16) ++ s21).size + s26.size ≤ 9223372036854775807 ∧
  ∃ (l29 : Sl),
  SH.has (SH.upd H b6 ⟨[.int .i64 x1, .int .i64 x2, .int .i64 x3, .string s4, sv l5], 58, false, 5⟩) (b6, 4) (sv l29) ∧
  ∃ (s31 : ByteArray),
  ( ladingref01_Short.wp F (l29.len : Int) (SH.upd H b6 ⟨[.int .i64 x1, .int .i64 x2, .int .i64 x3, .string s4, sv l5], 58, false, 5⟩) (fun s31' H' => s31' = s31 ∧ SH.le (SH.upd H b6 ⟨[.int .i64 x1, .int .i64 x2, .int .i64 x3, .string s4, sv l5], 58, false, 5⟩) H')) ∧
  ((((⟨bs12.toArray⟩ : ByteArray) ++ s16) ++ s21) ++ s26).size + s31.size ≤ 9223372036854775807 ∧
  ladingref18_Put.l1 F K F b6 (((((⟨bs12.toArray⟩ : ByteArray) ++ s16) ++ s21) ++ s26) ++ s31) 0 (SH.upd H b6 ⟨[.int .i64 x1, .int .i64 x2, .int .i64 x3, .string s4, sv l5], 58, false, 5⟩)
set_option maxHeartbeats 8000000 in
theorem ladingref18_Put.sound (F : Nat) (x1 : Int) (x2 : Int) (x3 : Int) (s4 : ByteArray) (l5 : Sl) (H : SH) (K : ByteArray → SH → Prop) (h : ladingref18_Put.wp F x1 x2 x3 s4 l5 H K) : SCalls Tryd.prog 26 #[.agg #[.int .i64 x1, .int .i64 x2, .int .i64 x3, .string s4, sv l5]] H (fun v H' => ∃ (s57 : ByteArray), v = .string s57 ∧ K s57 H') := by
  unfold ladingref18_Put.wp at h
  refine SCalls.body Tryd.func26 rfl (Nat.le_of_ble_eq_true rfl) ?_
  refine SW.seq ?_
  refine SW.region ?_
  refine SOps.box rfl rfl (wantN rfl) (v := .agg #[.int .i64 x1, .int .i64 x2, .int .i64 x3, .string s4, sv l5]) rfl (fun b6 c7 => ?_)
  replace h := h b6 c7
  refine SOps.val (v := .string ByteArray.empty) rfl (wantN rfl) (fun _ => by kernel_rfl) ?_
  refine SOps.nil ?_
  refine SW.seq ?_
  obtain ⟨x8, c9, h⟩ := h
  obtain ⟨bs12, c13, h⟩ := h
  obtain ⟨x14, c15, h⟩ := h
  obtain ⟨s16, c17, h⟩ := h
  obtain ⟨c18, h⟩ := h
  obtain ⟨x19, c20, h⟩ := h
  obtain ⟨s21, c22, h⟩ := h
  obtain ⟨c23, h⟩ := h
  obtain ⟨s24, c25, h⟩ := h
  obtain ⟨s26, c27, h⟩ := h
  obtain ⟨c28, h⟩ := h
  obtain ⟨l29, c30, h⟩ := h
  obtain ⟨s31, c32, h⟩ := h
  obtain ⟨c33, h⟩ := h
  refine SW.drawA [.val (pv (some (b6, 0))), .val (.int .i64 x8), .val (.int .u8 (IntKind.u8.wrap x8)), .fresh 3 (fun b c => sv ⟨some (b, 0), 1, 1⟩) (fun c => (⟨[.int .u8 (IntKind.u8.wrap x8)], 5, false, 1⟩ : AO)) (fun _ => True), .val (.string (⟨bs12.toArray⟩ : ByteArray)), .val (pv (some (b6, 1))), .val (.int .i64 x14), .val (.string s16), .val (.string ((⟨bs12.toArray⟩ : ByteArray) ++ s16)), .val (pv (some (b6, 2))), .val (.int .i64 x19), .val (.string s21), .val (.string (((⟨bs12.toArray⟩ : ByteArray) ++ s16) ++ s21)), .val (pv (some (b6, 3))), .val (.string s24), .val (.string s26), .val (.string ((((⟨bs12.toArray⟩ : ByteArray) ++ s16) ++ s21) ++ s26)), .val (pv (some (b6, 4))), .val (sv l29), .val (.int .i64 (l29.len : Int)), .val (.string s31), .val (.string (((((⟨bs12.toArray⟩ : ByteArray) ++ s16) ++ s21) ++ s26) ++ s31)), .val (.string (((((⟨bs12.toArray⟩ : ByteArray) ++ s16) ++ s21) ++ s26) ++ s31))] (by kernel_rfl) (by kernel_rfl) (And.intro ?_ (And.intro ?_ (And.intro ?_ (And.intro ?_ (And.intro ?_ (And.intro ?_ (And.intro ?_ (And.intro ?_ (And.intro ?_ (And.intro ?_ (And.intro ?_ (And.intro ?_ (And.intro ?_ (And.intro ?_ (And.intro ?_ (And.intro ?_ (And.intro ?_ (And.intro ?_ (And.intro ?_ (And.intro ?_ (And.intro ?_ (And.intro ?_ (And.intro ?_ (trivial)))))))))))))))))))))))) ?_
  · clear h
    intro fr' T' H' hle hs hA
    have a1 : fr' 1 = pv (some (b6, 0)) := hs 1 (by kernel_rfl)
    obtain ⟨g', hg'⟩ : ∃ g' : Fr, fr' = g'.upds [(1, pv (some (b6, 0)))] := ⟨_, Fr.upds_self _ _ ⟨a1, trivial⟩⟩
    subst hg'
    exact SA.val (v := pv (some (b6, 0))) rfl (wantN rfl) (fun _ => by kernel_rfl)
  · clear h
    intro fr' T' H' hle hs hA
    have a5 : fr' 5 = pv (some (b6, 0)) := hA 0 (by kernel_rfl)
    obtain ⟨g', hg'⟩ : ∃ g' : Fr, fr' = g'.upds [(5, pv (some (b6, 0)))] := ⟨_, Fr.upds_self _ _ ⟨a5, trivial⟩⟩
    subst hg'
    exact SA.rd hle (v := .int .i64 x8) rfl (wantN rfl) (fun w hw => ev_load1 rfl (fun _ => by kernel_rfl) (p := (b6, 0)) rfl c9 w hw)
  · clear h
    intro fr' T' H' hle hs hA
    have a6 : fr' 6 = (.int .i64 x8 : Value) := hA 1 (by kernel_rfl)
    obtain ⟨g', hg'⟩ : ∃ g' : Fr, fr' = g'.upds [(6, (.int .i64 x8 : Value))] := ⟨_, Fr.upds_self _ _ ⟨a6, trivial⟩⟩
    subst hg'
    exact SA.val (v := .int .u8 (IntKind.u8.wrap x8)) rfl (wantN rfl) (fun _ => by kernel_rfl)
  · clear h
    intro fr' T' H' hle hs hA
    have a7 : fr' 7 = (.int .u8 (IntKind.u8.wrap x8) : Value) := hA 2 (by kernel_rfl)
    obtain ⟨g', hg'⟩ : ∃ g' : Fr, fr' = g'.upds [(7, (.int .u8 (IntKind.u8.wrap x8) : Value))] := ⟨_, Fr.upds_self _ _ ⟨a7, trivial⟩⟩
    subst hg'
    exact SA.fresh hle (fun h => SOps.lit (E := 5) (cs := #[.int .u8 (IntKind.u8.wrap x8)]) rfl rfl (wantN rfl) (fun _ => by kernel_rfl) (fun b c => h b 0 c trivial))
  · clear h
    intro fr' T' H' hle hs hA
    obtain ⟨b10, n11, a8, nb10, kb10, tb10, ob10⟩ := hA 3 (by kernel_rfl)
    obtain ⟨g', hg'⟩ : ∃ g' : Fr, fr' = g'.upds [(8, sv (⟨some (b10, 0), 1, 1⟩ : Sl))] := ⟨_, Fr.upds_self _ _ ⟨a8, trivial⟩⟩
    subst hg'
    exact SA.rdH (Hc := SH.upd (SH.upd H b6 ⟨[.int .i64 x1, .int .i64 x2, .int .i64 x3, .string s4, sv l5], 58, false, 5⟩) b10 (⟨[.int .u8 (IntKind.u8.wrap x8)], 5, false, 1⟩ : AO)) (v := .string (⟨bs12.toArray⟩ : ByteArray)) (SH.le.upd_in hle kb10) rfl (wantN rfl) (fun w hw => ev_str rfl Tryd.underlying42 Tryd.underlying5 Tryd.underlying9 rfl (cells_len c13) (row_updD c13) w hw)
  · clear h
    intro fr' T' H' hle hs hA
    have a1 : fr' 1 = pv (some (b6, 0)) := hs 1 (by kernel_rfl)
    obtain ⟨g', hg'⟩ : ∃ g' : Fr, fr' = g'.upds [(1, pv (some (b6, 0)))] := ⟨_, Fr.upds_self _ _ ⟨a1, trivial⟩⟩
    subst hg'
    exact SA.val (v := pv (some (b6, 1))) rfl (wantN rfl) (fun _ => by kernel_rfl)
  · clear h
    intro fr' T' H' hle hs hA
    have a10 : fr' 10 = pv (some (b6, 1)) := hA 5 (by kernel_rfl)
    obtain ⟨g', hg'⟩ : ∃ g' : Fr, fr' = g'.upds [(10, pv (some (b6, 1)))] := ⟨_, Fr.upds_self _ _ ⟨a10, trivial⟩⟩
    subst hg'
    exact SA.rd hle (v := .int .i64 x14) rfl (wantN rfl) (fun w hw => ev_load1 rfl (fun _ => by kernel_rfl) (p := (b6, 1)) rfl c15 w hw)
  · clear h
    intro fr' T' H' hle hs hA
    have a11 : fr' 11 = (.int .i64 x14 : Value) := hA 6 (by kernel_rfl)
    obtain ⟨g', hg'⟩ : ∃ g' : Fr, fr' = g'.upds [(11, (.int .i64 x14 : Value))] := ⟨_, Fr.upds_self _ _ ⟨a11, trivial⟩⟩
    subst hg'
    exact SA.enter (Hc := SH.upd H b6 ⟨[.int .i64 x1, .int .i64 x2, .int .i64 x3, .string s4, sv l5], 58, false, 5⟩) (v := .string s16) hle rfl (wantN rfl) (fun _ => by kernel_rfl) ((ladingref01_Short.sound F x14 (SH.upd H b6 ⟨[.int .i64 x1, .int .i64 x2, .int .i64 x3, .string s4, sv l5], 58, false, 5⟩) _ c17).mono (by rintro v H' ⟨_, rfl, rfl, h'⟩; exact ⟨rfl, h'⟩))
  · clear h
    intro fr' T' H' hle hs hA
    have a9 : fr' 9 = (.string (⟨bs12.toArray⟩ : ByteArray) : Value) := hA 4 (by kernel_rfl)
    have a12 : fr' 12 = (.string s16 : Value) := hA 7 (by kernel_rfl)
    obtain ⟨g', hg'⟩ : ∃ g' : Fr, fr' = g'.upds [(9, (.string (⟨bs12.toArray⟩ : ByteArray) : Value)), (12, (.string s16 : Value))] := ⟨_, Fr.upds_self _ _ ⟨a9, a12, trivial⟩⟩
    subst hg'
    exact SA.val (v := .string ((⟨bs12.toArray⟩ : ByteArray) ++ s16)) rfl (wantN rfl) (fun w => ev_cat rfl rfl rfl c18 w)
  · clear h
    intro fr' T' H' hle hs hA
    have a1 : fr' 1 = pv (some (b6, 0)) := hs 1 (by kernel_rfl)
    obtain ⟨g', hg'⟩ : ∃ g' : Fr, fr' = g'.upds [(1, pv (some (b6, 0)))] := ⟨_, Fr.upds_self _ _ ⟨a1, trivial⟩⟩
    subst hg'
    exact SA.val (v := pv (some (b6, 2))) rfl (wantN rfl) (fun _ => by kernel_rfl)
  · clear h
    intro fr' T' H' hle hs hA
    have a14 : fr' 14 = pv (some (b6, 2)) := hA 9 (by kernel_rfl)
    obtain ⟨g', hg'⟩ : ∃ g' : Fr, fr' = g'.upds [(14, pv (some (b6, 2)))] := ⟨_, Fr.upds_self _ _ ⟨a14, trivial⟩⟩
    subst hg'
    exact SA.rd hle (v := .int .i64 x19) rfl (wantN rfl) (fun w hw => ev_load1 rfl (fun _ => by kernel_rfl) (p := (b6, 2)) rfl c20 w hw)
  · clear h
    intro fr' T' H' hle hs hA
    have a15 : fr' 15 = (.int .i64 x19 : Value) := hA 10 (by kernel_rfl)
    obtain ⟨g', hg'⟩ : ∃ g' : Fr, fr' = g'.upds [(15, (.int .i64 x19 : Value))] := ⟨_, Fr.upds_self _ _ ⟨a15, trivial⟩⟩
    subst hg'
    exact SA.enter (Hc := SH.upd H b6 ⟨[.int .i64 x1, .int .i64 x2, .int .i64 x3, .string s4, sv l5], 58, false, 5⟩) (v := .string s21) hle rfl (wantN rfl) (fun _ => by kernel_rfl) ((ladingref01_Short.sound F x19 (SH.upd H b6 ⟨[.int .i64 x1, .int .i64 x2, .int .i64 x3, .string s4, sv l5], 58, false, 5⟩) _ c22).mono (by rintro v H' ⟨_, rfl, rfl, h'⟩; exact ⟨rfl, h'⟩))
  · clear h
    intro fr' T' H' hle hs hA
    have a13 : fr' 13 = (.string ((⟨bs12.toArray⟩ : ByteArray) ++ s16) : Value) := hA 8 (by kernel_rfl)
    have a16 : fr' 16 = (.string s21 : Value) := hA 11 (by kernel_rfl)
    obtain ⟨g', hg'⟩ : ∃ g' : Fr, fr' = g'.upds [(13, (.string ((⟨bs12.toArray⟩ : ByteArray) ++ s16) : Value)), (16, (.string s21 : Value))] := ⟨_, Fr.upds_self _ _ ⟨a13, a16, trivial⟩⟩
    subst hg'
    exact SA.val (v := .string (((⟨bs12.toArray⟩ : ByteArray) ++ s16) ++ s21)) rfl (wantN rfl) (fun w => ev_cat rfl rfl rfl c23 w)
  · clear h
    intro fr' T' H' hle hs hA
    have a1 : fr' 1 = pv (some (b6, 0)) := hs 1 (by kernel_rfl)
    obtain ⟨g', hg'⟩ : ∃ g' : Fr, fr' = g'.upds [(1, pv (some (b6, 0)))] := ⟨_, Fr.upds_self _ _ ⟨a1, trivial⟩⟩
    subst hg'
    exact SA.val (v := pv (some (b6, 3))) rfl (wantN rfl) (fun _ => by kernel_rfl)
  · clear h
    intro fr' T' H' hle hs hA
    have a18 : fr' 18 = pv (some (b6, 3)) := hA 13 (by kernel_rfl)
    obtain ⟨g', hg'⟩ : ∃ g' : Fr, fr' = g'.upds [(18, pv (some (b6, 3)))] := ⟨_, Fr.upds_self _ _ ⟨a18, trivial⟩⟩
    subst hg'
    exact SA.rd hle (v := .string s24) rfl (wantN rfl) (fun w hw => ev_load1 rfl (fun _ => by kernel_rfl) (p := (b6, 3)) rfl c25 w hw)
  · clear h
    intro fr' T' H' hle hs hA
    have a19 : fr' 19 = (.string s24 : Value) := hA 14 (by kernel_rfl)
    obtain ⟨g', hg'⟩ : ∃ g' : Fr, fr' = g'.upds [(19, (.string s24 : Value))] := ⟨_, Fr.upds_self _ _ ⟨a19, trivial⟩⟩
    subst hg'
    exact SA.enter (Hc := SH.upd H b6 ⟨[.int .i64 x1, .int .i64 x2, .int .i64 x3, .string s4, sv l5], 58, false, 5⟩) (v := .string s26) hle rfl (wantN rfl) (fun _ => by kernel_rfl) ((ladingref01_Text.sound F s24 (SH.upd H b6 ⟨[.int .i64 x1, .int .i64 x2, .int .i64 x3, .string s4, sv l5], 58, false, 5⟩) _ c27).mono (by rintro v H' ⟨_, rfl, rfl, h'⟩; exact ⟨rfl, h'⟩))
  · clear h
    intro fr' T' H' hle hs hA
    have a17 : fr' 17 = (.string (((⟨bs12.toArray⟩ : ByteArray) ++ s16) ++ s21) : Value) := hA 12 (by kernel_rfl)
    have a20 : fr' 20 = (.string s26 : Value) := hA 15 (by kernel_rfl)
    obtain ⟨g', hg'⟩ : ∃ g' : Fr, fr' = g'.upds [(17, (.string (((⟨bs12.toArray⟩ : ByteArray) ++ s16) ++ s21) : Value)), (20, (.string s26 : Value))] := ⟨_, Fr.upds_self _ _ ⟨a17, a20, trivial⟩⟩
    subst hg'
    exact SA.val (v := .string ((((⟨bs12.toArray⟩ : ByteArray) ++ s16) ++ s21) ++ s26)) rfl (wantN rfl) (fun w => ev_cat rfl rfl rfl c28 w)
  · clear h
    intro fr' T' H' hle hs hA
    have a1 : fr' 1 = pv (some (b6, 0)) := hs 1 (by kernel_rfl)
    obtain ⟨g', hg'⟩ : ∃ g' : Fr, fr' = g'.upds [(1, pv (some (b6, 0)))] := ⟨_, Fr.upds_self _ _ ⟨a1, trivial⟩⟩
    subst hg'
    exact SA.val (v := pv (some (b6, 4))) rfl (wantN rfl) (fun _ => by kernel_rfl)
  · clear h
    intro fr' T' H' hle hs hA
    have a22 : fr' 22 = pv (some (b6, 4)) := hA 17 (by kernel_rfl)
    obtain ⟨g', hg'⟩ : ∃ g' : Fr, fr' = g'.upds [(22, pv (some (b6, 4)))] := ⟨_, Fr.upds_self _ _ ⟨a22, trivial⟩⟩
    subst hg'
    exact SA.rd hle (v := sv l29) rfl (wantN rfl) (fun w hw => ev_load1 rfl (fun _ => by kernel_rfl) (p := (b6, 4)) rfl c30 w hw)
  · clear h
    intro fr' T' H' hle hs hA
    have a23 : fr' 23 = sv l29 := hA 18 (by kernel_rfl)
    obtain ⟨g', hg'⟩ : ∃ g' : Fr, fr' = g'.upds [(23, sv l29)] := ⟨_, Fr.upds_self _ _ ⟨a23, trivial⟩⟩
    subst hg'
    exact SA.val (v := .int .i64 (l29.len : Int)) rfl (wantN rfl) (fun _ => by kernel_rfl)
  · clear h
    intro fr' T' H' hle hs hA
    have a24 : fr' 24 = (.int .i64 (l29.len : Int) : Value) := hA 19 (by kernel_rfl)
    obtain ⟨g', hg'⟩ : ∃ g' : Fr, fr' = g'.upds [(24, (.int .i64 (l29.len : Int) : Value))] := ⟨_, Fr.upds_self _ _ ⟨a24, trivial⟩⟩
    subst hg'
    exact SA.enter (Hc := SH.upd H b6 ⟨[.int .i64 x1, .int .i64 x2, .int .i64 x3, .string s4, sv l5], 58, false, 5⟩) (v := .string s31) hle rfl (wantN rfl) (fun _ => by kernel_rfl) ((ladingref01_Short.sound F (l29.len : Int) (SH.upd H b6 ⟨[.int .i64 x1, .int .i64 x2, .int .i64 x3, .string s4, sv l5], 58, false, 5⟩) _ c32).mono (by rintro v H' ⟨_, rfl, rfl, h'⟩; exact ⟨rfl, h'⟩))
  · clear h
    intro fr' T' H' hle hs hA
    have a21 : fr' 21 = (.string ((((⟨bs12.toArray⟩ : ByteArray) ++ s16) ++ s21) ++ s26) : Value) := hA 16 (by kernel_rfl)
    have a25 : fr' 25 = (.string s31 : Value) := hA 20 (by kernel_rfl)
    obtain ⟨g', hg'⟩ : ∃ g' : Fr, fr' = g'.upds [(21, (.string ((((⟨bs12.toArray⟩ : ByteArray) ++ s16) ++ s21) ++ s26) : Value)), (25, (.string s31 : Value))] := ⟨_, Fr.upds_self _ _ ⟨a21, a25, trivial⟩⟩
    subst hg'
    exact SA.val (v := .string (((((⟨bs12.toArray⟩ : ByteArray) ++ s16) ++ s21) ++ s26) ++ s31)) rfl (wantN rfl) (fun w => ev_cat rfl rfl rfl c33 w)
  · clear h
    intro fr' T' H' hle hs hA
    have a26 : fr' 26 = (.string (((((⟨bs12.toArray⟩ : ByteArray) ++ s16) ++ s21) ++ s26) ++ s31) : Value) := hA 21 (by kernel_rfl)
    obtain ⟨g', hg'⟩ : ∃ g' : Fr, fr' = g'.upds [(26, (.string (((((⟨bs12.toArray⟩ : ByteArray) ++ s16) ++ s21) ++ s26) ++ s31) : Value))] := ⟨_, Fr.upds_self _ _ ⟨a26, trivial⟩⟩
    subst hg'
    exact SA.val (v := .string (((((⟨bs12.toArray⟩ : ByteArray) ++ s16) ++ s21) ++ s26) ++ s31)) rfl (wantN rfl) (fun _ => by kernel_rfl)
  · intro fr' T' H' hle hs hA
    have a1 : fr' 1 = pv (some (b6, 0)) := hs 1 (by kernel_rfl)
    have a3 : fr' 3 = (.string (((((⟨bs12.toArray⟩ : ByteArray) ++ s16) ++ s21) ++ s26) ++ s31) : Value) := hA 22 (Nat.le_of_ble_eq_true rfl)
    obtain ⟨g', hg'⟩ : ∃ g' : Fr, fr' = g'.upds [(1, pv (some (b6, 0))), (3, (.string (((((⟨bs12.toArray⟩ : ByteArray) ++ s16) ++ s21) ++ s26) ++ s31) : Value))] := ⟨_, Fr.upds_self _ _ ⟨a1, a3, trivial⟩⟩
    subst hg'
    refine SOps.forget (SH.upd H b6 ⟨[.int .i64 x1, .int .i64 x2, .int .i64 x3, .string s4, sv l5], 58, false, 5⟩) hle ?_
    clear hle hs hA
    refine SOps.nil ?_
    refine SW.seq ?_
    refine SW.seq ?_
    refine SW.region ?_
    refine SOps.val (v := .int .i64 0) rfl (wantN rfl) (fun _ => by kernel_rfl) ?_
    refine SOps.nil ?_
    refine SW.block ?_
    refine SW.loop (fun k1 fr H => ∃ (g : Fr) (b35 : Nat) (s36 : ByteArray) (x37 : Int), fr = g.upds [(1, pv (some (b35, 0))), (3, (.string s36 : Value)), (4, (.int .i64 x37 : Value))] ∧ ladingref18_Put.l1 F K k1 b35 s36 x37 H) F ⟨_, b6, ((((⟨bs12.toArray⟩ : ByteArray) ++ s16) ++ s21) ++ s26) ++ s31, 0, (Fr.upds_self _ _ ⟨rfl, rfl, rfl, trivial⟩), h⟩ ?_
    clear h
    rintro k1 fr H ⟨g, b35, s36, x37, rfl, h⟩
    cases k1 with
    | zero => exact h.elim
    | succ k1 =>
      replace h : ladingref18_Put.r1 F K (ladingref18_Put.l1 F K k1) b35 s36 x37 H := h
      unfold ladingref18_Put.r1 at h
      refine SW.seq ?_
      refine SW.seq ?_
      refine SW.region ?_
      refine SOps.val (v := .int .i64 x37) rfl (wantN rfl) (fun _ => by kernel_rfl) ?_
      refine SOps.val (v := pv (some (b35, 4))) rfl (wantN rfl) (fun _ => by kernel_rfl) ?_
      obtain ⟨l38, c39, h⟩ := h
      refine SOps.rd (v := sv l38) rfl (wantN rfl) (fun w hw => ev_load1 rfl (fun _ => by kernel_rfl) (p := (b35, 4)) rfl c39 w hw) ?_
      refine SOps.val (v := .int .i64 (l38.len : Int)) rfl (wantN rfl) (fun _ => by kernel_rfl) ?_
      refine SOps.val (v := .bool (decide (x37 < (l38.len : Int)))) rfl (wantN rfl) (fun _ => by kernel_rfl) ?_
      refine SOps.nil ?_
      by_cases c40 : x37 < (l38.len : Int)
      · replace h := h.1 c40
        have dc40 : (decide (x37 < (l38.len : Int))) = true := (decide_eq_true c40)
        refine SW.cond_t (t := decide (x37 < (l38.len : Int))) rfl dc40 ?_
        refine SW.skip ?_
        refine SW.seq ?_
        refine SW.block ?_
        refine SW.region ?_
        refine SOps.val (v := .string s36) rfl (wantN rfl) (fun _ => by kernel_rfl) ?_
        refine SOps.val (v := pv (some (b35, 4))) rfl (wantN rfl) (fun _ => by kernel_rfl) ?_
        obtain ⟨l41, c42, h⟩ := h
        refine SOps.rd (v := sv l41) rfl (wantN rfl) (fun w hw => ev_load1 rfl (fun _ => by kernel_rfl) (p := (b35, 4)) rfl c42 w hw) ?_
        refine SOps.val (v := .int .i64 x37) rfl (wantN rfl) (fun _ => by kernel_rfl) ?_
        obtain ⟨p43, c44, c45, c46, h⟩ := h
        refine SOps.val (v := pv (some (p43.1, (p43.2 + x37.toNat * 1)))) rfl (wantN rfl) (fun w => ev_iaddr rfl Tryd.underlying51 (size := 1) (by kernel_rfl) rfl rfl c44 c45 c46 w) ?_
        obtain ⟨s47, c48, h⟩ := h
        refine SOps.rd (v := .string s47) rfl (wantN rfl) (fun w hw => ev_load1 rfl (fun _ => by kernel_rfl) (p := (p43.1, (p43.2 + x37.toNat * 1))) rfl c48 w hw) ?_
        refine SOps.enter rfl (wantN rfl) (fun _ => by kernel_rfl) (ladingref01_Text.sound F s47 H _ h) ?_
        clear h
        rintro v H50 ⟨s49, rfl, h⟩
        obtain ⟨c51, h⟩ := h
        refine SOps.val (v := .string (s36 ++ s49)) rfl (wantN rfl) (fun w => ev_cat rfl rfl rfl c51 w) ?_
        refine SOps.val (v := .string (s36 ++ s49)) rfl (wantN rfl) (fun _ => by kernel_rfl) ?_
        refine SOps.nil ?_
        refine SW.region ?_
        refine SOps.val (v := .int .i64 x37) rfl (wantN rfl) (fun _ => by kernel_rfl) ?_
        refine SOps.val (v := .int .i64 (w64 (x37 + 1))) rfl (wantN rfl) (fun _ => by kernel_rfl) ?_
        refine SOps.val (v := .int .i64 (w64 (x37 + 1))) rfl (wantN rfl) (fun _ => by kernel_rfl) ?_
        refine SOps.nil ?_
        exact ⟨k1, Nat.lt_succ_self k1, _, b35, s36 ++ s49, w64 (x37 + 1), (Fr.upds_self _ _ ⟨rfl, rfl, rfl, trivial⟩), h⟩
      · replace h := h.2 c40
        have dc40 : (decide (x37 < (l38.len : Int))) = false := (decide_eq_false c40)
        refine SW.cond_f (t := decide (x37 < (l38.len : Int))) rfl dc40 ?_
        refine SW.exit ?_
        refine SW.seq ?_
        refine SW.region ?_
        refine SOps.val (v := .string s36) rfl (wantN rfl) (fun _ => by kernel_rfl) ?_
        refine SOps.enter rfl (wantN rfl) (fun _ => by kernel_rfl) (ladingref03_Seal.sound F s36 H _ h) ?_
        clear h
        rintro v H53 ⟨s52, rfl, h⟩
        refine SOps.val (v := .string s52) rfl (wantN rfl) (fun _ => by kernel_rfl) ?_
        refine SOps.nil ?_
        obtain ⟨Hr, hr, h⟩ := h
        exact SW.ret (retQ.mk (.string s52) (res1 rfl rfl) hr ⟨s52, rfl, h⟩)

end Go.Proofs.YtkfbmoekghbgbaaDoor.K
