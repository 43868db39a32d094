import Derived.Test.YtpnbehgkbfhacaaSatWrit
import Derived.Test.YtpnbehgkbfhacaaGlaw06
set_option linter.unusedVariables false
set_option linter.unusedSimpArgs false
set_option maxRecDepth 100000
namespace Go.Proofs.Ytpnbehgkbfhacaa.K
open Go
attribute [local irreducible] SW SOps SQ SCalls retQ

/-! ### lading/ladinglaw06.GapChain: function 7 -/
def ladinglaw06_GapChain.j1 (F : Nat) (K : Bool → SH → Prop) (R1 : Int → ByteArray → Sl → Sl → Int → Int → SH → Prop) (R3 : Int → ByteArray → Sl → Int → Nat → Sl → Int → Sl → Int → Int → SH → Prop) (x75 : Int) (s76 : ByteArray) (l77 : Sl) (x78 : Int) (b79 : Nat) (l80 : Sl) (x81 : Int) (l82 : Sl) (x83 : Int) (x84 : Int) (H : SH) : Prop :=
  R3 x75 s76 l77 x78 b79 l80 (w64 (x81 + 1)) l82 x83 x84 H
def ladinglaw06_GapChain.j2 (F : Nat) (K : Bool → SH → Prop) (R1 : Int → ByteArray → Sl → Sl → Int → Int → SH → Prop) (R3 : Int → ByteArray → Sl → Int → Nat → Sl → Int → Sl → Int → Int → SH → Prop) (x65 : Int) (s66 : ByteArray) (l67 : Sl) (x68 : Int) (b69 : Nat) (l70 : Sl) (x71 : Int) (l72 : Sl) (x73 : Int) (x74 : Int) (H : SH) : Prop :=
  ladinglaw06_GapChain.j1 F K R1 R3 x65 s66 l67 x68 b69 l70 x71 l72 x73 x74 H
def ladinglaw06_GapChain.r3 (F : Nat) (K : Bool → SH → Prop) (R1 : Int → ByteArray → Sl → Sl → Int → Int → SH → Prop) (R3 : Int → ByteArray → Sl → Int → Nat → Sl → Int → Sl → Int → Int → SH → Prop) (x45 : Int) (s46 : ByteArray) (l47 : Sl) (x48 : Int) (b49 : Nat) (l50 : Sl) (x51 : Int) (l52 : Sl) (x53 : Int) (x54 : Int) (H : SH) : Prop :=
  (x51 < x45 →
    ∃ es56 : List (Value × Value), H b49 = some (AO.map es56) ∧ MKeys (.int .i64) (.int .i64 x51) es56 ∧
    ∃ (q60 : Bool), (mfind (.int .i64 x51) es56).getD (.bool false) = .bool q60 ∧
    (q60 = true →
      AppendQ H 3 1 8 l50 1 [.int .i64 x51] (fun l62 H63 =>
        ladinglaw06_GapChain.j2 F K R1 R3 x45 s46 l47 x48 b49 l62 x51 l52 x53 x54 H63
      )
    ) ∧ (¬ (q60 = true) →
      ladinglaw06_GapChain.j2 F K R1 R3 x45 s46 l47 x48 b49 l50 x51 l52 x53 x54 H
    )
  ) ∧ (¬ (x51 < x45) →
    gap_Put.wp F x45 x48 l50 H (fun s87 e88 H89 =>
      (e88 = none →
        s46.size + s87.size ≤ 9223372036854775807 ∧
        AppendQ H89 36 1 24 l47 1 [sv l50] (fun l92 H93 =>
          R1 x45 (s46 ++ s87) l92 l52 x53 (w64 (x54 + 1)) H93
        )
      ) ∧ (∀ v90, e88 = some v90 →
        ∃ Hr, SH.le Hr H89 ∧ K false Hr
      )
    )
  )
def ladinglaw06_GapChain.l3 (F : Nat) (K : Bool → SH → Prop) (R1 : Int → ByteArray → Sl → Sl → Int → Int → SH → Prop) : Nat → Int → ByteArray → Sl → Int → Nat → Sl → Int → Sl → Int → Int → SH → Prop
  | 0, _, _, _, _, _, _, _, _, _, _, _ => False
  | k + 1, x45, s46, l47, x48, b49, l50, x51, l52, x53, x54, H => ladinglaw06_GapChain.r3 F K R1 (ladinglaw06_GapChain.l3 F K R1 k) x45 s46 l47 x48 b49 l50 x51 l52 x53 x54 H
def ladinglaw06_GapChain.r2 (F : Nat) (K : Bool → SH → Prop) (R1 : Int → ByteArray → Sl → Sl → Int → Int → SH → Prop) (R2 : Int → ByteArray → Sl → Int → Nat → Sl → Int → Int → SlW → Int → Int → SH → Prop) (x22 : Int) (s23 : ByteArray) (l24 : Sl) (x25 : Int) (b26 : Nat) (l27 : Sl) (x28 : Int) (x29 : Int) (l30 : SlW) (x31 : Int) (x32 : Int) (H : SH) : Prop :=
  (x32 < x31 →
    ∃ p34, l30.a = some (ad p34) ∧ 0 ≤ x32 ∧ x32 < (l30.len : Int) ∧
    ∃ (x38 : Int),
    SH.has H (p34.1, (p34.2 + x32.toNat * 1)) (.int .u8 x38) ∧
    x22 ≠ 0 ∧
    ∃ es41 : List (Value × Value), H b26 = some (AO.map es41) ∧ MKeys (.int .i64) (.int .i64 ((w64 x38).tmod x22)) es41 ∧
    R2 x22 s23 l24 x25 b26 l27 x28 x29 l30 x31 (w64 (x32 + 1)) (SH.upd H b26 (AO.map (mput (.int .i64 ((w64 x38).tmod x22)) (.bool true) es41)))
  ) ∧ (¬ (x32 < x31) →
    ladinglaw06_GapChain.l3 F K R1 F x22 s23 l24 x25 b26 Sl.nil 0 l27 x28 x29 H
  )
def ladinglaw06_GapChain.l2 (F : Nat) (K : Bool → SH → Prop) (R1 : Int → ByteArray → Sl → Sl → Int → Int → SH → Prop) : Nat → Int → ByteArray → Sl → Int → Nat → Sl → Int → Int → SlW → Int → Int → SH → Prop
  | 0, _, _, _, _, _, _, _, _, _, _, _, _ => False
  | k + 1, x22, s23, l24, x25, b26, l27, x28, x29, l30, x31, x32, H => ladinglaw06_GapChain.r2 F K R1 (ladinglaw06_GapChain.l2 F K R1 k) x22 s23 l24 x25 b26 l27 x28 x29 l30 x31 x32 H
def ladinglaw06_GapChain.r4 (F : Nat) (K : Bool → SH → Prop) (R4 : Int → ByteArray → Int → Sl → Int → Int → SH → Prop) (x99 : Int) (s100 : ByteArray) (x101 : Int) (l102 : Sl) (x103 : Int) (x104 : Int) (H : SH) : Prop :=
  (x104 < x103 →
    ∃ p106, l102.a = some p106 ∧ 0 ≤ x104 ∧ x104 < (l102.len : Int) ∧
    ∃ (l110 : Sl),
    SH.has H (p106.1, (p106.2 + x104.toNat * 1)) (sv l110) ∧
    gap_Count.wp F s100 x101 x99 H (fun x112 e113 H114 =>
      gap_Skip.wp F s100 x101 x99 H114 (fun x115 e116 H117 =>
        gap_Get.wp F s100 x101 x99 x104 H117 (fun l118 x119 e120 H121 =>
          (e113 = none →
            (e116 = none →
              (e120 = none →
                (x112 ≠ (l110.len : Int) →
                  ∃ Hr, SH.le Hr H121 ∧ K false Hr
                ) ∧ (¬ (x112 ≠ (l110.len : Int)) →
                  (x115 ≠ x119 →
                    ∃ Hr, SH.le Hr H121 ∧ K false Hr
                  ) ∧ (¬ (x115 ≠ x119) →
                    ladingref05_Ints.wp F l118 l110 H121 (fun q127 H128 =>
                      (q127 = true →
                        R4 x99 s100 x119 l102 x103 (w64 (x104 + 1)) H128
                      ) ∧ (¬ (q127 = true) →
                        ∃ Hr, SH.le Hr H128 ∧ K false Hr
                      )
                    )
                  )
                )
              ) ∧ (∀ v124, e120 = some v124 →
                ∃ Hr, SH.le Hr H121 ∧ K false Hr
              )
            ) ∧ (∀ v123, e116 = some v123 →
              ∃ Hr, SH.le Hr H121 ∧ K false Hr
            )
          ) ∧ (∀ v122, e113 = some v122 →
            ∃ Hr, SH.le Hr H121 ∧ K false Hr
          )
        )
      )
    )
  ) ∧ (¬ (x104 < x103) →
    ∃ Hr, SH.le Hr H ∧ K (x101 == (s100.size : Int)) Hr
  )
def ladinglaw06_GapChain.l4 (F : Nat) (K : Bool → SH → Prop) : Nat → Int → ByteArray → Int → Sl → Int → Int → SH → Prop
  | 0, _, _, _, _, _, _, _ => False
  | k + 1, x99, s100, x101, l102, x103, x104, H => ladinglaw06_GapChain.r4 F K (ladinglaw06_GapChain.l4 F K k) x99 s100 x101 l102 x103 x104 H
def ladinglaw06_GapChain.r1 (F : Nat) (K : Bool → SH → Prop) (R1 : Int → ByteArray → Sl → Sl → Int → Int → SH → Prop) (x7 : Int) (s8 : ByteArray) (l9 : Sl) (l10 : Sl) (x11 : Int) (x12 : Int) (H : SH) : Prop :=
  (x12 < x11 →
    ∃ p14, l10.a = some p14 ∧ 0 ≤ x12 ∧ x12 < (l10.len : Int) ∧
    ∃ (l18 : SlW),
    SH.has H (p14.1, (p14.2 + x12.toNat * 1)) (swv l18) ∧
    ∀ b20, H b20 = none →
    ladinglaw06_GapChain.l2 F K R1 F x7 s8 l9 x12 b20 l10 x11 x12 l18 (l18.len : Int) 0 (SH.upd H b20 (AO.map []))
  ) ∧ (¬ (x12 < x11) →
    ladinglaw06_GapChain.l4 F K F x7 s8 0 l9 (l9.len : Int) 0 H
  )
def ladinglaw06_GapChain.l1 (F : Nat) (K : Bool → SH → Prop) : Nat → Int → ByteArray → Sl → Sl → Int → Int → SH → Prop
  | 0, _, _, _, _, _, _, _ => False
  | k + 1, x7, s8, l9, l10, x11, x12, H => ladinglaw06_GapChain.r1 F K (ladinglaw06_GapChain.l1 F K k) x7 s8 l9 l10 x11 x12 H
def ladinglaw06_GapChain.wp (F : Nat) (l1 : Sl) (H : SH) (K : Bool → SH → Prop) : Prop :=
  ladinglaw06_awake.wp F  H (fun q2 H3 =>
    (q2 = true →
      ((l1.len : Int) > 40 →
        ∃ Hr, SH.le Hr H3 ∧ K true Hr
      ) ∧ (¬ ((l1.len : Int) > 40) →
        ((l1.len : Int) = 0 →
          ∃ Hr, SH.le Hr H3 ∧ K true Hr
        ) ∧ (¬ ((l1.len : Int) = 0) →
          ladinglaw06_GapChain.l1 F K F (l1.len : Int) ByteArray.empty Sl.nil l1 (l1.len : Int) 0 H3
        )
      )
    ) ∧ (¬ (q2 = true) →
      ∃ Hr, SH.le Hr H3 ∧ K false Hr
    )
  )
set_option maxHeartbeats 8000000 in
theorem ladinglaw06_GapChain.sound (F : Nat) (l1 : Sl) (H : SH) (K : Bool → SH → Prop) (h : ladinglaw06_GapChain.wp F l1 H K) : SCalls Try.prog 7 #[sv l1] H (fun v H' => ∃ (q135 : Bool), v = .bool q135 ∧ K q135 H') := by
  unfold ladinglaw06_GapChain.wp at h
  refine SCalls.body Try.func7 rfl (Nat.le_of_ble_eq_true rfl) ?_
  refine SW.seq ?_
  refine SW.region ?_
  refine SOps.val (v := .bool false) rfl (wantN rfl) (fun _ => by kernel_rfl) ?_
  refine SOps.nil ?_
  refine SW.seq ?_
  refine SW.seq ?_
  refine SW.region ?_
  refine SOps.enter rfl (wantN rfl) (fun _ => by kernel_rfl) (ladinglaw06_awake.sound F  H _ h) ?_
  clear h
  rintro v H3 ⟨q2, rfl, h⟩
  refine SOps.val (v := .bool (!q2)) rfl (wantN rfl) (fun _ => by kernel_rfl) ?_
  refine SOps.nil ?_
  by_cases c4 : q2 = true
  · replace h := h.1 c4
    have dc4 : q2 = true := c4
    refine SW.cond_f (t := !q2) rfl (not_t dc4) ?_
    refine SW.skip ?_
    refine SW.seq ?_
    refine SW.region ?_
    refine SOps.val (v := sv l1) rfl (wantN rfl) (fun _ => by kernel_rfl) ?_
    refine SOps.val (v := .int .i64 (l1.len : Int)) rfl (wantN rfl) (fun _ => by kernel_rfl) ?_
    refine SOps.val (v := .int .i64 (l1.len : Int)) rfl (wantN rfl) (fun _ => by kernel_rfl) ?_
    refine SOps.nil ?_
    refine SW.seq ?_
    refine SW.seq ?_
    refine SW.region ?_
    refine SOps.val (v := .int .i64 (l1.len : Int)) rfl (wantN rfl) (fun _ => by kernel_rfl) ?_
    refine SOps.val (v := .bool (decide ((l1.len : Int) > 40))) rfl (wantN rfl) (fun _ => by kernel_rfl) ?_
    refine SOps.val (v := .bool (decide ((l1.len : Int) > 40))) rfl (wantN rfl) (fun _ => by kernel_rfl) ?_
    by_cases c5 : (l1.len : Int) > 40
    · replace h := h.1 c5
      have dc5 : (decide ((l1.len : Int) > 40)) = true := (decide_eq_true c5)
      refine SOps.off rfl (wantX (c := decide ((l1.len : Int) > 40)) rfl rfl rfl dc5) ?_
      refine SOps.off rfl (wantX (c := decide ((l1.len : Int) > 40)) rfl rfl rfl dc5) ?_
      refine SOps.val (v := .bool true) rfl (wantN rfl) (fun w => ev_pickT (v := .bool true) rfl (t := decide ((l1.len : Int) > 40)) rfl dc5 rfl w) ?_
      refine SOps.nil ?_
      refine SW.cond_t (t := true) rfl rfl ?_
      refine SW.seq ?_
      refine SW.region ?_
      refine SOps.val (v := .bool true) rfl (wantN rfl) (fun _ => by kernel_rfl) ?_
      refine SOps.nil ?_
      obtain ⟨Hr, hr, h⟩ := h
      exact SW.ret (retQ.mk (.bool true) (res1 rfl rfl) hr ⟨true, rfl, h⟩)
    · replace h := h.2 c5
      have dc5 : (decide ((l1.len : Int) > 40)) = false := (decide_eq_false c5)
      refine SOps.val (v := .int .i64 (l1.len : Int)) rfl (wantY (c := decide ((l1.len : Int) > 40)) rfl rfl rfl dc5) (fun _ => by kernel_rfl) ?_
      refine SOps.val (v := .bool ((l1.len : Int) == 0)) rfl (wantY (c := decide ((l1.len : Int) > 40)) rfl rfl rfl dc5) (fun _ => by kernel_rfl) ?_
      refine SOps.val (v := .bool ((l1.len : Int) == 0)) rfl (wantN rfl) (fun w => ev_pickF (v := .bool ((l1.len : Int) == 0)) rfl (t := decide ((l1.len : Int) > 40)) rfl dc5 rfl w) ?_
      refine SOps.nil ?_
      by_cases c6 : (l1.len : Int) = 0
      · replace h := h.1 c6
        have dc6 : ((l1.len : Int) == 0) = true := (beq_iff_eq.mpr c6)
        refine SW.cond_t (t := ((l1.len : Int) == 0)) rfl dc6 ?_
        refine SW.seq ?_
        refine SW.region ?_
        refine SOps.val (v := .bool true) rfl (wantN rfl) (fun _ => by kernel_rfl) ?_
        refine SOps.nil ?_
        obtain ⟨Hr, hr, h⟩ := h
        exact SW.ret (retQ.mk (.bool true) (res1 rfl rfl) hr ⟨true, rfl, h⟩)
      · replace h := h.2 c6
        have dc6 : ((l1.len : Int) == 0) = false := (beq_eq_false_iff_ne.mpr c6)
        refine SW.cond_f (t := ((l1.len : Int) == 0)) rfl dc6 ?_
        refine SW.skip ?_
        refine SW.seq ?_
        refine SW.region ?_
        refine SOps.val (v := .string ByteArray.empty) rfl (wantN rfl) (fun _ => by kernel_rfl) ?_
        refine SOps.nil ?_
        refine SW.seq ?_
        refine SW.region ?_
        refine SOps.val (v := sv Sl.nil) rfl (wantN rfl) (fun _ => by kernel_rfl) ?_
        refine SOps.nil ?_
        refine SW.seq ?_
        refine SW.seq ?_
        refine SW.region ?_
        refine SOps.val (v := sv l1) rfl (wantN rfl) (fun _ => by kernel_rfl) ?_
        refine SOps.val (v := .int .i64 (l1.len : Int)) rfl (wantN rfl) (fun _ => by kernel_rfl) ?_
        refine SOps.val (v := .int .i64 0) rfl (wantN rfl) (fun _ => by kernel_rfl) ?_
        refine SOps.nil ?_
        refine SW.block ?_
        refine SW.loop (fun k1 fr H => ∃ (g : Fr) (x7 : Int) (s8 : ByteArray) (l9 : Sl) (l10 : Sl) (x11 : Int) (x12 : Int), fr = g.upds [(3, (.int .i64 x7 : Value)), (4, (.string s8 : Value)), (5, sv l9), (35, sv l10), (36, (.int .i64 x11 : Value)), (37, (.int .i64 x12 : Value))] ∧ ladinglaw06_GapChain.l1 F K k1 x7 s8 l9 l10 x11 x12 H) F ⟨_, (l1.len : Int), ByteArray.empty, Sl.nil, l1, (l1.len : Int), 0, (Fr.upds_self _ _ ⟨rfl, rfl, rfl, rfl, rfl, rfl, trivial⟩), h⟩ ?_
        clear h
        rintro k1 fr H ⟨g, x7, s8, l9, l10, x11, x12, rfl, h⟩
        cases k1 with
        | zero => exact h.elim
        | succ k1 =>
          replace h : ladinglaw06_GapChain.r1 F K (ladinglaw06_GapChain.l1 F K k1) x7 s8 l9 l10 x11 x12 H := h
          unfold ladinglaw06_GapChain.r1 at h
          refine SW.seq ?_
          refine SW.region ?_
          refine SOps.val (v := .bool (decide (x12 < x11))) rfl (wantN rfl) (fun _ => by kernel_rfl) ?_
          refine SOps.nil ?_
          refine SW.seq ?_
          by_cases c13 : x12 < x11
          · replace h := h.1 c13
            have dc13 : (decide (x12 < x11)) = true := (decide_eq_true c13)
            refine SW.cond_t (t := decide (x12 < x11)) rfl dc13 ?_
            refine SW.skip ?_
            refine SW.seq ?_
            refine SW.block ?_
            refine SW.seq ?_
            refine SW.region ?_
            refine SOps.val (v := .int .i64 x12) rfl (wantN rfl) (fun _ => by kernel_rfl) ?_
            obtain ⟨p14, c15, c16, c17, h⟩ := h
            refine SOps.val (v := pv (some (p14.1, (p14.2 + x12.toNat * 1)))) rfl (wantN rfl) (fun w => ev_iaddr rfl Try.underlying45 (size := 1) (by kernel_rfl) rfl rfl c15 c16 c17 w) ?_
            obtain ⟨l18, c19, h⟩ := h
            refine SOps.rd (v := swv l18) rfl (wantN rfl) (fun w hw => ev_load1 rfl (fun _ => by kernel_rfl) (p := (p14.1, (p14.2 + x12.toNat * 1))) rfl c19 w hw) ?_
            refine SOps.val (v := .int .i64 x12) rfl (wantN rfl) (fun _ => by kernel_rfl) ?_
            refine SOps.val (v := swv l18) rfl (wantN rfl) (fun _ => by kernel_rfl) ?_
            refine SOps.nil ?_
            refine SW.seq ?_
            refine SW.region ?_
            refine SOps.makeMap rfl rfl (wantN rfl) (fun b20 c21 => ?_)
            replace h := h b20 c21
            refine SOps.val (v := .map (some b20)) rfl (wantN rfl) (fun _ => by kernel_rfl) ?_
            refine SOps.nil ?_
            refine SW.seq ?_
            refine SW.seq ?_
            refine SW.region ?_
            refine SOps.val (v := swv l18) rfl (wantN rfl) (fun _ => by kernel_rfl) ?_
            refine SOps.val (v := .int .i64 (l18.len : Int)) rfl (wantN rfl) (fun _ => by kernel_rfl) ?_
            refine SOps.val (v := .int .i64 0) rfl (wantN rfl) (fun _ => by kernel_rfl) ?_
            refine SOps.nil ?_
            refine SW.block ?_
            refine SW.loop (fun k2 fr H => ∃ (g : Fr) (x22 : Int) (s23 : ByteArray) (l24 : Sl) (x25 : Int) (b26 : Nat) (l27 : Sl) (x28 : Int) (x29 : Int) (l30 : SlW) (x31 : Int) (x32 : Int), fr = g.upds [(3, (.int .i64 x22 : Value)), (4, (.string s23 : Value)), (5, sv l24), (6, (.int .i64 x25 : Value)), (8, (.map (some b26) : Value)), (35, sv l27), (36, (.int .i64 x28 : Value)), (37, (.int .i64 x29 : Value)), (43, swv l30), (44, (.int .i64 x31 : Value)), (45, (.int .i64 x32 : Value))] ∧ ladinglaw06_GapChain.l2 F K (ladinglaw06_GapChain.l1 F K k1) k2 x22 s23 l24 x25 b26 l27 x28 x29 l30 x31 x32 H) F ⟨_, x7, s8, l9, x12, b20, l10, x11, x12, l18, (l18.len : Int), 0, (Fr.upds_self _ _ ⟨rfl, rfl, rfl, rfl, rfl, rfl, rfl, rfl, rfl, rfl, rfl, trivial⟩), h⟩ ?_
            clear h
            rintro k2 fr H ⟨g, x22, s23, l24, x25, b26, l27, x28, x29, l30, x31, x32, rfl, h⟩
            cases k2 with
            | zero => exact h.elim
            | succ k2 =>
              replace h : ladinglaw06_GapChain.r2 F K (ladinglaw06_GapChain.l1 F K k1) (ladinglaw06_GapChain.l2 F K (ladinglaw06_GapChain.l1 F K k1) k2) x22 s23 l24 x25 b26 l27 x28 x29 l30 x31 x32 H := h
              unfold ladinglaw06_GapChain.r2 at h
              refine SW.seq ?_
              refine SW.region ?_
              refine SOps.val (v := .bool (decide (x32 < x31))) rfl (wantN rfl) (fun _ => by kernel_rfl) ?_
              refine SOps.nil ?_
              refine SW.seq ?_
              by_cases c33 : x32 < x31
              · replace h := h.1 c33
                have dc33 : (decide (x32 < x31)) = true := (decide_eq_true c33)
                refine SW.cond_t (t := decide (x32 < x31)) rfl dc33 ?_
                refine SW.skip ?_
                refine SW.seq ?_
                refine SW.block ?_
                refine SW.seq ?_
                refine SW.region ?_
                obtain ⟨p34, c35, c36, c37, h⟩ := h
                refine SOps.val (v := pv (some (p34.1, (p34.2 + x32.toNat * 1)))) rfl (wantN rfl) (fun w => ev_iaddrW rfl Try.underlying32 (size := 1) (by kernel_rfl) rfl rfl c35 c36 c37 w) ?_
                obtain ⟨x38, c39, h⟩ := h
                refine SOps.rd (v := .int .u8 x38) rfl (wantN rfl) (fun w hw => ev_load1 rfl (fun _ => by kernel_rfl) (p := (p34.1, (p34.2 + x32.toNat * 1))) rfl c39 w hw) ?_
                refine SOps.val (v := .int .u8 x38) rfl (wantN rfl) (fun _ => by kernel_rfl) ?_
                refine SOps.nil ?_
                refine SW.region ?_
                refine SOps.val (v := .map (some b26)) rfl (wantN rfl) (fun _ => by kernel_rfl) ?_
                refine SOps.val (v := .int .u8 x38) rfl (wantN rfl) (fun _ => by kernel_rfl) ?_
                refine SOps.val (v := .int .i64 (w64 x38)) rfl (wantN rfl) (fun _ => by kernel_rfl) ?_
                refine SOps.val (v := .int .i64 x22) rfl (wantN rfl) (fun _ => by kernel_rfl) ?_
                obtain ⟨c40, h⟩ := h
                refine SOps.val (v := .int .i64 ((w64 x38).tmod x22)) rfl (wantN rfl) (fun w => ev_rem rfl rfl rfl c40 w) ?_
                obtain ⟨es41, c42, c43, h⟩ := h
                refine SOps.mapUpdate (d := .int .i64) (key := .int .i64 ((w64 x38).tmod x22)) (v := .bool true) rfl rfl (wantN rfl) Try.underlying47 Try.underlying3 rfl rfl rfl c42 c43 ?_
                refine SOps.nil ?_
                refine SW.region ?_
                refine SOps.val (v := .int .i64 (w64 (x32 + 1))) rfl (wantN rfl) (fun _ => by kernel_rfl) ?_
                refine SOps.val (v := .int .i64 (w64 (x32 + 1))) rfl (wantN rfl) (fun _ => by kernel_rfl) ?_
                refine SOps.nil ?_
                exact ⟨k2, Nat.lt_succ_self k2, _, x22, s23, l24, x25, b26, l27, x28, x29, l30, x31, w64 (x32 + 1), (Fr.upds_self _ _ ⟨rfl, rfl, rfl, rfl, rfl, rfl, rfl, rfl, rfl, rfl, rfl, trivial⟩), h⟩
              · replace h := h.2 c33
                have dc33 : (decide (x32 < x31)) = false := (decide_eq_false c33)
                refine SW.cond_f (t := decide (x32 < x31)) rfl dc33 ?_
                refine SW.exit ?_
                refine SW.seq ?_
                refine SW.region ?_
                refine SOps.val (v := sv Sl.nil) rfl (wantN rfl) (fun _ => by kernel_rfl) ?_
                refine SOps.nil ?_
                refine SW.seq ?_
                refine SW.seq ?_
                refine SW.region ?_
                refine SOps.val (v := .int .i64 0) rfl (wantN rfl) (fun _ => by kernel_rfl) ?_
                refine SOps.nil ?_
                refine SW.block ?_
                refine SW.loop (fun k3 fr H => ∃ (g : Fr) (x45 : Int) (s46 : ByteArray) (l47 : Sl) (x48 : Int) (b49 : Nat) (l50 : Sl) (x51 : Int) (l52 : Sl) (x53 : Int) (x54 : Int), fr = g.upds [(3, (.int .i64 x45 : Value)), (4, (.string s46 : Value)), (5, sv l47), (6, (.int .i64 x48 : Value)), (8, (.map (some b49) : Value)), (11, sv l50), (12, (.int .i64 x51 : Value)), (35, sv l52), (36, (.int .i64 x53 : Value)), (37, (.int .i64 x54 : Value))] ∧ ladinglaw06_GapChain.l3 F K (ladinglaw06_GapChain.l1 F K k1) k3 x45 s46 l47 x48 b49 l50 x51 l52 x53 x54 H) F ⟨_, x22, s23, l24, x25, b26, Sl.nil, 0, l27, x28, x29, (Fr.upds_self _ _ ⟨rfl, rfl, rfl, rfl, rfl, rfl, rfl, rfl, rfl, rfl, trivial⟩), h⟩ ?_
                clear h
                rintro k3 fr H ⟨g, x45, s46, l47, x48, b49, l50, x51, l52, x53, x54, rfl, h⟩
                cases k3 with
                | zero => exact h.elim
                | succ k3 =>
                  replace h : ladinglaw06_GapChain.r3 F K (ladinglaw06_GapChain.l1 F K k1) (ladinglaw06_GapChain.l3 F K (ladinglaw06_GapChain.l1 F K k1) k3) x45 s46 l47 x48 b49 l50 x51 l52 x53 x54 H := h
                  unfold ladinglaw06_GapChain.r3 at h
                  refine SW.seq ?_
                  refine SW.seq ?_
                  refine SW.region ?_
                  refine SOps.val (v := .int .i64 x51) rfl (wantN rfl) (fun _ => by kernel_rfl) ?_
                  refine SOps.val (v := .int .i64 x45) rfl (wantN rfl) (fun _ => by kernel_rfl) ?_
                  refine SOps.val (v := .bool (decide (x51 < x45))) rfl (wantN rfl) (fun _ => by kernel_rfl) ?_
                  refine SOps.nil ?_
                  by_cases c55 : x51 < x45
                  · replace h := h.1 c55
                    have dc55 : (decide (x51 < x45)) = true := (decide_eq_true c55)
                    refine SW.cond_t (t := decide (x51 < x45)) rfl dc55 ?_
                    refine SW.skip ?_
                    refine SW.seqJ (fun fr H => ∃ (g : Fr) (x75 : Int) (s76 : ByteArray) (l77 : Sl) (x78 : Int) (b79 : Nat) (l80 : Sl) (x81 : Int) (l82 : Sl) (x83 : Int) (x84 : Int), fr = g.upds [(3, (.int .i64 x75 : Value)), (4, (.string s76 : Value)), (5, sv l77), (6, (.int .i64 x78 : Value)), (8, (.map (some b79) : Value)), (11, sv l80), (12, (.int .i64 x81 : Value)), (35, sv l82), (36, (.int .i64 x83 : Value)), (37, (.int .i64 x84 : Value))] ∧ ladinglaw06_GapChain.j1 F K (ladinglaw06_GapChain.l1 F K k1) (ladinglaw06_GapChain.l3 F K (ladinglaw06_GapChain.l1 F K k1) k3) x75 s76 l77 x78 b79 l80 x81 l82 x83 x84 H) ?_ ?_
                    · clear h
                      rintro fr H ⟨g, x75, s76, l77, x78, b79, l80, x81, l82, x83, x84, rfl, h⟩
                      unfold ladinglaw06_GapChain.j1 at h
                      refine SW.region ?_
                      refine SOps.val (v := .int .i64 x81) rfl (wantN rfl) (fun _ => by kernel_rfl) ?_
                      refine SOps.val (v := .int .i64 (w64 (x81 + 1))) rfl (wantN rfl) (fun _ => by kernel_rfl) ?_
                      refine SOps.val (v := .int .i64 (w64 (x81 + 1))) rfl (wantN rfl) (fun _ => by kernel_rfl) ?_
                      refine SOps.nil ?_
                      exact ⟨k3, Nat.lt_succ_self k3, _, x75, s76, l77, x78, b79, l80, w64 (x81 + 1), l82, x83, x84, (Fr.upds_self _ _ ⟨rfl, rfl, rfl, rfl, rfl, rfl, rfl, rfl, rfl, rfl, trivial⟩), h⟩
                    · skip
                      refine SW.blockJ (fun fr H => ∃ (g : Fr) (x65 : Int) (s66 : ByteArray) (l67 : Sl) (x68 : Int) (b69 : Nat) (l70 : Sl) (x71 : Int) (l72 : Sl) (x73 : Int) (x74 : Int), fr = g.upds [(3, (.int .i64 x65 : Value)), (4, (.string s66 : Value)), (5, sv l67), (6, (.int .i64 x68 : Value)), (8, (.map (some b69) : Value)), (11, sv l70), (12, (.int .i64 x71 : Value)), (35, sv l72), (36, (.int .i64 x73 : Value)), (37, (.int .i64 x74 : Value))] ∧ ladinglaw06_GapChain.j2 F K (ladinglaw06_GapChain.l1 F K k1) (ladinglaw06_GapChain.l3 F K (ladinglaw06_GapChain.l1 F K k1) k3) x65 s66 l67 x68 b69 l70 x71 l72 x73 x74 H) ?_ ?_
                      · clear h
                        rintro fr H ⟨g, x65, s66, l67, x68, b69, l70, x71, l72, x73, x74, rfl, h⟩
                        unfold ladinglaw06_GapChain.j2 at h
                        exact ⟨_, x65, s66, l67, x68, b69, l70, x71, l72, x73, x74, Fr.upds_self _ _ ⟨rfl, rfl, rfl, rfl, rfl, rfl, rfl, rfl, rfl, rfl, trivial⟩, h⟩
                      · skip
                        refine SW.seq ?_
                        refine SW.region ?_
                        refine SOps.val (v := .map (some b49)) rfl (wantN rfl) (fun _ => by kernel_rfl) ?_
                        refine SOps.val (v := .int .i64 x51) rfl (wantN rfl) (fun _ => by kernel_rfl) ?_
                        obtain ⟨es56, c57, c58, q60, c59, h⟩ := h
                        refine SOps.rd (v := .bool q60) rfl (wantN rfl) (fun w hw => ev_lookup (d := .int .i64) rfl Try.underlying47 Try.underlying3 rfl rfl (by kernel_rfl) c57 c58 c59 w hw) ?_
                        refine SOps.nil ?_
                        by_cases c61 : q60 = true
                        · replace h := h.1 c61
                          have dc61 : q60 = true := c61
                          refine SW.cond_t (t := q60) rfl dc61 ?_
                          refine SW.region ?_
                          refine SOps.val (v := sv l50) rfl (wantN rfl) (fun _ => by kernel_rfl) ?_
                          refine SOps.val (v := .int .i64 x51) rfl (wantN rfl) (fun _ => by kernel_rfl) ?_
                          refine SOps.litAppend (E := 3) (z := .int .i64 0) (size := 1) (bytes := 8) (cs := #[.int .i64 x51]) rfl rfl (wantN rfl) (fun _ => by kernel_rfl) rfl rfl (fun _ => wantN rfl) Try.underlying36 Try.underlying36 (by kernel_rfl) rfl rfl (fun _ => rfl) (AppendQ.mono h ?_)
                          clear h
                          intro l62 H63 h b64
                          refine SOps.val (v := sv l62) rfl (wantN rfl) (fun _ => by kernel_rfl) ?_
                          refine SOps.nil ?_
                          exact ⟨_, x45, s46, l47, x48, b49, l62, x51, l52, x53, x54, Fr.upds_self _ _ ⟨rfl, rfl, rfl, rfl, rfl, rfl, rfl, rfl, rfl, rfl, trivial⟩, h⟩
                        · replace h := h.2 c61
                          have dc61 : q60 = false := (Bool.eq_false_iff.mpr c61)
                          refine SW.cond_f (t := q60) rfl dc61 ?_
                          refine SW.skip ?_
                          exact ⟨_, x45, s46, l47, x48, b49, l50, x51, l52, x53, x54, Fr.upds_self _ _ ⟨rfl, rfl, rfl, rfl, rfl, rfl, rfl, rfl, rfl, rfl, trivial⟩, h⟩
                  · replace h := h.2 c55
                    have dc55 : (decide (x51 < x45)) = false := (decide_eq_false c55)
                    refine SW.cond_f (t := decide (x51 < x45)) rfl dc55 ?_
                    refine SW.exit ?_
                    refine SW.seq ?_
                    refine SW.region ?_
                    refine SOps.val (v := .int .i64 x45) rfl (wantN rfl) (fun _ => by kernel_rfl) ?_
                    refine SOps.val (v := .int .i64 x48) rfl (wantN rfl) (fun _ => by kernel_rfl) ?_
                    refine SOps.val (v := sv l50) rfl (wantN rfl) (fun _ => by kernel_rfl) ?_
                    refine SOps.enter rfl (wantN rfl) (fun _ => by kernel_rfl) (gap_Put.sound F x45 x48 l50 H _ h) ?_
                    clear h
                    rintro v H89 ⟨s87, e88, rfl, h⟩
                    refine SOps.val (v := .tuple #[.string s87, errV e88]) rfl (wantN rfl) (fun _ => by kernel_rfl) ?_
                    refine SOps.val (v := .string s87) rfl (wantN rfl) (fun _ => by kernel_rfl) ?_
                    refine SOps.val (v := errV e88) rfl (wantN rfl) (fun _ => by kernel_rfl) ?_
                    refine SOps.val (v := .string s87) rfl (wantN rfl) (fun _ => by kernel_rfl) ?_
                    refine SOps.val (v := errV e88) rfl (wantN rfl) (fun _ => by kernel_rfl) ?_
                    refine SOps.nil ?_
                    refine SW.seq ?_
                    refine SW.seq ?_
                    refine SW.region ?_
                    refine SOps.val (v := errV e88) rfl (wantN rfl) (fun _ => by kernel_rfl) ?_
                    rcases e88 with _ | v90
                    · replace h := h.1 rfl
                      refine SOps.val (v := .bool false) rfl (wantN rfl) (fun w => ev_errNe (e := none) rfl Try.underlying24 rfl rfl w) ?_
                      refine SOps.nil ?_
                      refine SW.cond_f (t := false) rfl rfl ?_
                      refine SW.skip ?_
                      refine SW.seq ?_
                      refine SW.region ?_
                      refine SOps.val (v := .string s46) rfl (wantN rfl) (fun _ => by kernel_rfl) ?_
                      refine SOps.val (v := .string s87) rfl (wantN rfl) (fun _ => by kernel_rfl) ?_
                      obtain ⟨c91, h⟩ := h
                      refine SOps.val (v := .string (s46 ++ s87)) rfl (wantN rfl) (fun w => ev_cat rfl rfl rfl c91 w) ?_
                      refine SOps.val (v := .string (s46 ++ s87)) rfl (wantN rfl) (fun _ => by kernel_rfl) ?_
                      refine SOps.nil ?_
                      refine SW.region ?_
                      refine SOps.val (v := sv l47) rfl (wantN rfl) (fun _ => by kernel_rfl) ?_
                      refine SOps.val (v := sv l50) rfl (wantN rfl) (fun _ => by kernel_rfl) ?_
                      refine SOps.litAppend (E := 36) (z := sv Sl.nil) (size := 1) (bytes := 24) (cs := #[sv l50]) rfl rfl (wantN rfl) (fun _ => by kernel_rfl) rfl rfl (fun _ => wantN rfl) Try.underlying46 Try.underlying46 (by kernel_rfl) rfl rfl (fun _ => rfl) (AppendQ.mono h ?_)
                      clear h
                      intro l92 H93 h b94
                      refine SOps.val (v := sv l92) rfl (wantN rfl) (fun _ => by kernel_rfl) ?_
                      refine SOps.nil ?_
                      refine SW.region ?_
                      refine SOps.val (v := .int .i64 (w64 (x54 + 1))) rfl (wantN rfl) (fun _ => by kernel_rfl) ?_
                      refine SOps.val (v := .int .i64 (w64 (x54 + 1))) rfl (wantN rfl) (fun _ => by kernel_rfl) ?_
                      refine SOps.nil ?_
                      exact ⟨k1, Nat.lt_succ_self k1, _, x45, s46 ++ s87, l92, l52, x53, w64 (x54 + 1), (Fr.upds_self _ _ ⟨rfl, rfl, rfl, rfl, rfl, rfl, trivial⟩), h⟩
                    · replace h := h.2 v90 rfl
                      refine SOps.val (v := .bool true) rfl (wantN rfl) (fun w => ev_errNe (e := some v90) rfl Try.underlying24 rfl rfl w) ?_
                      refine SOps.nil ?_
                      refine SW.cond_t (t := true) rfl rfl ?_
                      refine SW.seq ?_
                      refine SW.region ?_
                      refine SOps.val (v := .bool false) rfl (wantN rfl) (fun _ => by kernel_rfl) ?_
                      refine SOps.nil ?_
                      obtain ⟨Hr, hr, h⟩ := h
                      exact SW.ret (retQ.mk (.bool false) (res1 rfl rfl) hr ⟨false, rfl, h⟩)
          · replace h := h.2 c13
            have dc13 : (decide (x12 < x11)) = false := (decide_eq_false c13)
            refine SW.cond_f (t := decide (x12 < x11)) rfl dc13 ?_
            refine SW.exit ?_
            refine SW.seq ?_
            refine SW.region ?_
            refine SOps.val (v := .int .i64 0) rfl (wantN rfl) (fun _ => by kernel_rfl) ?_
            refine SOps.nil ?_
            refine SW.seq ?_
            refine SW.seq ?_
            refine SW.region ?_
            refine SOps.val (v := sv l9) rfl (wantN rfl) (fun _ => by kernel_rfl) ?_
            refine SOps.val (v := .int .i64 (l9.len : Int)) rfl (wantN rfl) (fun _ => by kernel_rfl) ?_
            refine SOps.val (v := .int .i64 0) rfl (wantN rfl) (fun _ => by kernel_rfl) ?_
            refine SOps.nil ?_
            refine SW.block ?_
            refine SW.loop (fun k4 fr H => ∃ (g : Fr) (x99 : Int) (s100 : ByteArray) (x101 : Int) (l102 : Sl) (x103 : Int) (x104 : Int), fr = g.upds [(3, (.int .i64 x99 : Value)), (4, (.string s100 : Value)), (15, (.int .i64 x101 : Value)), (84, sv l102), (85, (.int .i64 x103 : Value)), (86, (.int .i64 x104 : Value))] ∧ ladinglaw06_GapChain.l4 F K k4 x99 s100 x101 l102 x103 x104 H) F ⟨_, x7, s8, 0, l9, (l9.len : Int), 0, (Fr.upds_self _ _ ⟨rfl, rfl, rfl, rfl, rfl, rfl, trivial⟩), h⟩ ?_
            clear h
            rintro k4 fr H ⟨g, x99, s100, x101, l102, x103, x104, rfl, h⟩
            cases k4 with
            | zero => exact h.elim
            | succ k4 =>
              replace h : ladinglaw06_GapChain.r4 F K (ladinglaw06_GapChain.l4 F K k4) x99 s100 x101 l102 x103 x104 H := h
              unfold ladinglaw06_GapChain.r4 at h
              refine SW.seq ?_
              refine SW.region ?_
              refine SOps.val (v := .bool (decide (x104 < x103))) rfl (wantN rfl) (fun _ => by kernel_rfl) ?_
              refine SOps.nil ?_
              refine SW.seq ?_
              by_cases c105 : x104 < x103
              · replace h := h.1 c105
                have dc105 : (decide (x104 < x103)) = true := (decide_eq_true c105)
                refine SW.cond_t (t := decide (x104 < x103)) rfl dc105 ?_
                refine SW.skip ?_
                refine SW.seq ?_
                refine SW.block ?_
                refine SW.seq ?_
                refine SW.region ?_
                refine SOps.val (v := .int .i64 x104) rfl (wantN rfl) (fun _ => by kernel_rfl) ?_
                obtain ⟨p106, c107, c108, c109, h⟩ := h
                refine SOps.val (v := pv (some (p106.1, (p106.2 + x104.toNat * 1)))) rfl (wantN rfl) (fun w => ev_iaddr rfl Try.underlying46 (size := 1) (by kernel_rfl) rfl rfl c107 c108 c109 w) ?_
                obtain ⟨l110, c111, h⟩ := h
                refine SOps.rd (v := sv l110) rfl (wantN rfl) (fun w hw => ev_load1 rfl (fun _ => by kernel_rfl) (p := (p106.1, (p106.2 + x104.toNat * 1))) rfl c111 w hw) ?_
                refine SOps.val (v := .int .i64 x104) rfl (wantN rfl) (fun _ => by kernel_rfl) ?_
                refine SOps.val (v := sv l110) rfl (wantN rfl) (fun _ => by kernel_rfl) ?_
                refine SOps.nil ?_
                refine SW.seq ?_
                refine SW.region ?_
                refine SOps.val (v := .string s100) rfl (wantN rfl) (fun _ => by kernel_rfl) ?_
                refine SOps.val (v := .int .i64 x101) rfl (wantN rfl) (fun _ => by kernel_rfl) ?_
                refine SOps.val (v := .int .i64 x99) rfl (wantN rfl) (fun _ => by kernel_rfl) ?_
                refine SOps.enter rfl (wantN rfl) (fun _ => by kernel_rfl) (gap_Count.sound F s100 x101 x99 H _ h) ?_
                clear h
                rintro v H114 ⟨x112, e113, rfl, h⟩
                refine SOps.val (v := .tuple #[.int .i64 x112, errV e113]) rfl (wantN rfl) (fun _ => by kernel_rfl) ?_
                refine SOps.val (v := .int .i64 x112) rfl (wantN rfl) (fun _ => by kernel_rfl) ?_
                refine SOps.val (v := errV e113) rfl (wantN rfl) (fun _ => by kernel_rfl) ?_
                refine SOps.val (v := .int .i64 x112) rfl (wantN rfl) (fun _ => by kernel_rfl) ?_
                refine SOps.val (v := errV e113) rfl (wantN rfl) (fun _ => by kernel_rfl) ?_
                refine SOps.nil ?_
                refine SW.seq ?_
                refine SW.region ?_
                refine SOps.val (v := .string s100) rfl (wantN rfl) (fun _ => by kernel_rfl) ?_
                refine SOps.val (v := .int .i64 x101) rfl (wantN rfl) (fun _ => by kernel_rfl) ?_
                refine SOps.val (v := .int .i64 x99) rfl (wantN rfl) (fun _ => by kernel_rfl) ?_
                refine SOps.enter rfl (wantN rfl) (fun _ => by kernel_rfl) (gap_Skip.sound F s100 x101 x99 H114 _ h) ?_
                clear h
                rintro v H117 ⟨x115, e116, rfl, h⟩
                refine SOps.val (v := .tuple #[.int .i64 x115, errV e116]) rfl (wantN rfl) (fun _ => by kernel_rfl) ?_
                refine SOps.val (v := .int .i64 x115) rfl (wantN rfl) (fun _ => by kernel_rfl) ?_
                refine SOps.val (v := errV e116) rfl (wantN rfl) (fun _ => by kernel_rfl) ?_
                refine SOps.val (v := .int .i64 x115) rfl (wantN rfl) (fun _ => by kernel_rfl) ?_
                refine SOps.val (v := errV e116) rfl (wantN rfl) (fun _ => by kernel_rfl) ?_
                refine SOps.nil ?_
                refine SW.seq ?_
                refine SW.region ?_
                refine SOps.val (v := .string s100) rfl (wantN rfl) (fun _ => by kernel_rfl) ?_
                refine SOps.val (v := .int .i64 x101) rfl (wantN rfl) (fun _ => by kernel_rfl) ?_
                refine SOps.val (v := .int .i64 x99) rfl (wantN rfl) (fun _ => by kernel_rfl) ?_
                refine SOps.val (v := .int .i64 x104) rfl (wantN rfl) (fun _ => by kernel_rfl) ?_
                refine SOps.enter rfl (wantN rfl) (fun _ => by kernel_rfl) (gap_Get.sound F s100 x101 x99 x104 H117 _ h) ?_
                clear h
                rintro v H121 ⟨l118, x119, e120, rfl, h⟩
                refine SOps.val (v := .tuple #[sv l118, .int .i64 x119, errV e120]) rfl (wantN rfl) (fun _ => by kernel_rfl) ?_
                refine SOps.val (v := sv l118) rfl (wantN rfl) (fun _ => by kernel_rfl) ?_
                refine SOps.val (v := .int .i64 x119) rfl (wantN rfl) (fun _ => by kernel_rfl) ?_
                refine SOps.val (v := errV e120) rfl (wantN rfl) (fun _ => by kernel_rfl) ?_
                refine SOps.val (v := sv l118) rfl (wantN rfl) (fun _ => by kernel_rfl) ?_
                refine SOps.val (v := .int .i64 x119) rfl (wantN rfl) (fun _ => by kernel_rfl) ?_
                refine SOps.val (v := errV e120) rfl (wantN rfl) (fun _ => by kernel_rfl) ?_
                refine SOps.nil ?_
                refine SW.seq ?_
                refine SW.seq ?_
                refine SW.region ?_
                refine SOps.val (v := errV e113) rfl (wantN rfl) (fun _ => by kernel_rfl) ?_
                rcases e113 with _ | v122
                · replace h := h.1 rfl
                  refine SOps.val (v := .bool false) rfl (wantN rfl) (fun w => ev_errNe (e := none) rfl Try.underlying24 rfl rfl w) ?_
                  refine SOps.val (v := .bool false) rfl (wantN rfl) (fun _ => by kernel_rfl) ?_
                  refine SOps.val (v := errV e116) rfl (wantY (c := false) rfl rfl rfl rfl) (fun _ => by kernel_rfl) ?_
                  rcases e116 with _ | v123
                  · replace h := h.1 rfl
                    refine SOps.val (v := .bool false) rfl (wantY (c := false) rfl rfl rfl rfl) (fun w => ev_errNe (e := none) rfl Try.underlying24 rfl rfl w) ?_
                    refine SOps.val (v := .bool false) rfl (wantN rfl) (fun w => ev_pickF (v := .bool false) rfl (t := false) rfl rfl rfl w) ?_
                    refine SOps.val (v := .bool false) rfl (wantN rfl) (fun _ => by kernel_rfl) ?_
                    refine SOps.val (v := errV e120) rfl (wantY (c := false) rfl rfl rfl rfl) (fun _ => by kernel_rfl) ?_
                    rcases e120 with _ | v124
                    · replace h := h.1 rfl
                      refine SOps.val (v := .bool false) rfl (wantY (c := false) rfl rfl rfl rfl) (fun w => ev_errNe (e := none) rfl Try.underlying24 rfl rfl w) ?_
                      refine SOps.val (v := .bool false) rfl (wantN rfl) (fun w => ev_pickF (v := .bool false) rfl (t := false) rfl rfl rfl w) ?_
                      refine SOps.val (v := .bool false) rfl (wantN rfl) (fun _ => by kernel_rfl) ?_
                      refine SOps.val (v := .int .i64 x112) rfl (wantY (c := false) rfl rfl rfl rfl) (fun _ => by kernel_rfl) ?_
                      refine SOps.val (v := sv l110) rfl (wantY (c := false) rfl rfl rfl rfl) (fun _ => by kernel_rfl) ?_
                      refine SOps.val (v := .int .i64 (l110.len : Int)) rfl (wantY (c := false) rfl rfl rfl rfl) (fun _ => by kernel_rfl) ?_
                      refine SOps.val (v := .bool (x112 != (l110.len : Int))) rfl (wantY (c := false) rfl rfl rfl rfl) (fun _ => by kernel_rfl) ?_
                      refine SOps.val (v := .bool (x112 != (l110.len : Int))) rfl (wantN rfl) (fun w => ev_pickF (v := .bool (x112 != (l110.len : Int))) rfl (t := false) rfl rfl rfl w) ?_
                      refine SOps.val (v := .bool (x112 != (l110.len : Int))) rfl (wantN rfl) (fun _ => by kernel_rfl) ?_
                      by_cases c125 : x112 ≠ (l110.len : Int)
                      · replace h := h.1 c125
                        have dc125 : (x112 != (l110.len : Int)) = true := (bne_iff_ne.mpr c125)
                        refine SOps.off rfl (wantX (c := (x112 != (l110.len : Int))) rfl rfl rfl dc125) ?_
                        refine SOps.off rfl (wantX (c := (x112 != (l110.len : Int))) rfl rfl rfl dc125) ?_
                        refine SOps.off rfl (wantX (c := (x112 != (l110.len : Int))) rfl rfl rfl dc125) ?_
                        refine SOps.val (v := .bool true) rfl (wantN rfl) (fun w => ev_pickT (v := .bool true) rfl (t := (x112 != (l110.len : Int))) rfl dc125 rfl w) ?_
                        refine SOps.val (v := .bool true) rfl (wantN rfl) (fun _ => by kernel_rfl) ?_
                        refine SOps.off rfl (wantX (c := true) rfl rfl rfl rfl) ?_
                        refine SOps.off rfl (wantX (c := true) rfl rfl rfl rfl) ?_
                        refine SOps.off rfl (wantX (c := true) rfl rfl rfl rfl) ?_
                        refine SOps.off rfl (wantX (c := true) rfl rfl rfl rfl) ?_
                        refine SOps.val (v := .bool true) rfl (wantN rfl) (fun w => ev_pickT (v := .bool true) rfl (t := true) rfl rfl rfl w) ?_
                        refine SOps.nil ?_
                        refine SW.cond_t (t := true) rfl rfl ?_
                        refine SW.seq ?_
                        refine SW.region ?_
                        refine SOps.val (v := .bool false) rfl (wantN rfl) (fun _ => by kernel_rfl) ?_
                        refine SOps.nil ?_
                        obtain ⟨Hr, hr, h⟩ := h
                        exact SW.ret (retQ.mk (.bool false) (res1 rfl rfl) hr ⟨false, rfl, h⟩)
                      · replace h := h.2 c125
                        have dc125 : (x112 != (l110.len : Int)) = false := (by simpa using c125)
                        refine SOps.val (v := .int .i64 x115) rfl (wantY (c := (x112 != (l110.len : Int))) rfl rfl rfl dc125) (fun _ => by kernel_rfl) ?_
                        refine SOps.val (v := .int .i64 x119) rfl (wantY (c := (x112 != (l110.len : Int))) rfl rfl rfl dc125) (fun _ => by kernel_rfl) ?_
                        refine SOps.val (v := .bool (x115 != x119)) rfl (wantY (c := (x112 != (l110.len : Int))) rfl rfl rfl dc125) (fun _ => by kernel_rfl) ?_
                        refine SOps.val (v := .bool (x115 != x119)) rfl (wantN rfl) (fun w => ev_pickF (v := .bool (x115 != x119)) rfl (t := (x112 != (l110.len : Int))) rfl dc125 rfl w) ?_
                        refine SOps.val (v := .bool (x115 != x119)) rfl (wantN rfl) (fun _ => by kernel_rfl) ?_
                        by_cases c126 : x115 ≠ x119
                        · replace h := h.1 c126
                          have dc126 : (x115 != x119) = true := (bne_iff_ne.mpr c126)
                          refine SOps.off rfl (wantX (c := (x115 != x119)) rfl rfl rfl dc126) ?_
                          refine SOps.off rfl (wantX (c := (x115 != x119)) rfl rfl rfl dc126) ?_
                          refine SOps.off rfl (wantX (c := (x115 != x119)) rfl rfl rfl dc126) ?_
                          refine SOps.off rfl (wantX (c := (x115 != x119)) rfl rfl rfl dc126) ?_
                          refine SOps.val (v := .bool true) rfl (wantN rfl) (fun w => ev_pickT (v := .bool true) rfl (t := (x115 != x119)) rfl dc126 rfl w) ?_
                          refine SOps.nil ?_
                          refine SW.cond_t (t := true) rfl rfl ?_
                          refine SW.seq ?_
                          refine SW.region ?_
                          refine SOps.val (v := .bool false) rfl (wantN rfl) (fun _ => by kernel_rfl) ?_
                          refine SOps.nil ?_
                          obtain ⟨Hr, hr, h⟩ := h
                          exact SW.ret (retQ.mk (.bool false) (res1 rfl rfl) hr ⟨false, rfl, h⟩)
                        · replace h := h.2 c126
                          have dc126 : (x115 != x119) = false := (by simpa using c126)
                          refine SOps.val (v := sv l118) rfl (wantY (c := (x115 != x119)) rfl rfl rfl dc126) (fun _ => by kernel_rfl) ?_
                          refine SOps.val (v := sv l110) rfl (wantY (c := (x115 != x119)) rfl rfl rfl dc126) (fun _ => by kernel_rfl) ?_
                          refine SOps.enter rfl (wantY (c := (x115 != x119)) rfl rfl rfl dc126) (fun _ => by kernel_rfl) (ladingref05_Ints.sound F l118 l110 H121 _ h) ?_
                          clear h
                          rintro v H128 ⟨q127, rfl, h⟩
                          refine SOps.val (v := .bool (!q127)) rfl (wantY (c := (x115 != x119)) rfl rfl rfl dc126) (fun _ => by kernel_rfl) ?_
                          refine SOps.val (v := .bool (!q127)) rfl (wantN rfl) (fun w => ev_pickF (v := .bool (!q127)) rfl (t := (x115 != x119)) rfl dc126 rfl w) ?_
                          refine SOps.nil ?_
                          by_cases c129 : q127 = true
                          · replace h := h.1 c129
                            have dc129 : q127 = true := c129
                            refine SW.cond_f (t := !q127) rfl (not_t dc129) ?_
                            refine SW.skip ?_
                            refine SW.region ?_
                            refine SOps.val (v := .int .i64 x119) rfl (wantN rfl) (fun _ => by kernel_rfl) ?_
                            refine SOps.val (v := .int .i64 x119) rfl (wantN rfl) (fun _ => by kernel_rfl) ?_
                            refine SOps.nil ?_
                            refine SW.region ?_
                            refine SOps.val (v := .int .i64 (w64 (x104 + 1))) rfl (wantN rfl) (fun _ => by kernel_rfl) ?_
                            refine SOps.val (v := .int .i64 (w64 (x104 + 1))) rfl (wantN rfl) (fun _ => by kernel_rfl) ?_
                            refine SOps.nil ?_
                            exact ⟨k4, Nat.lt_succ_self k4, _, x99, s100, x119, l102, x103, w64 (x104 + 1), (Fr.upds_self _ _ ⟨rfl, rfl, rfl, rfl, rfl, rfl, trivial⟩), h⟩
                          · replace h := h.2 c129
                            have dc129 : q127 = false := (Bool.eq_false_iff.mpr c129)
                            refine SW.cond_t (t := !q127) rfl (not_f dc129) ?_
                            refine SW.seq ?_
                            refine SW.region ?_
                            refine SOps.val (v := .bool false) rfl (wantN rfl) (fun _ => by kernel_rfl) ?_
                            refine SOps.nil ?_
                            obtain ⟨Hr, hr, h⟩ := h
                            exact SW.ret (retQ.mk (.bool false) (res1 rfl rfl) hr ⟨false, rfl, h⟩)
                    · replace h := h.2 v124 rfl
                      refine SOps.val (v := .bool true) rfl (wantY (c := false) rfl rfl rfl rfl) (fun w => ev_errNe (e := some v124) rfl Try.underlying24 rfl rfl w) ?_
                      refine SOps.val (v := .bool true) rfl (wantN rfl) (fun w => ev_pickF (v := .bool true) rfl (t := false) rfl rfl rfl w) ?_
                      refine SOps.val (v := .bool true) rfl (wantN rfl) (fun _ => by kernel_rfl) ?_
                      refine SOps.off rfl (wantX (c := true) rfl rfl rfl rfl) ?_
                      refine SOps.off rfl (wantX (c := true) rfl rfl rfl rfl) ?_
                      refine SOps.off rfl (wantX (c := true) rfl rfl rfl rfl) ?_
                      refine SOps.off rfl (wantX (c := true) rfl rfl rfl rfl) ?_
                      refine SOps.val (v := .bool true) rfl (wantN rfl) (fun w => ev_pickT (v := .bool true) rfl (t := true) rfl rfl rfl w) ?_
                      refine SOps.val (v := .bool true) rfl (wantN rfl) (fun _ => by kernel_rfl) ?_
                      refine SOps.off rfl (wantX (c := true) rfl rfl rfl rfl) ?_
                      refine SOps.off rfl (wantX (c := true) rfl rfl rfl rfl) ?_
                      refine SOps.off rfl (wantX (c := true) rfl rfl rfl rfl) ?_
                      refine SOps.val (v := .bool true) rfl (wantN rfl) (fun w => ev_pickT (v := .bool true) rfl (t := true) rfl rfl rfl w) ?_
                      refine SOps.val (v := .bool true) rfl (wantN rfl) (fun _ => by kernel_rfl) ?_
                      refine SOps.off rfl (wantX (c := true) rfl rfl rfl rfl) ?_
                      refine SOps.off rfl (wantX (c := true) rfl rfl rfl rfl) ?_
                      refine SOps.off rfl (wantX (c := true) rfl rfl rfl rfl) ?_
                      refine SOps.off rfl (wantX (c := true) rfl rfl rfl rfl) ?_
                      refine SOps.val (v := .bool true) rfl (wantN rfl) (fun w => ev_pickT (v := .bool true) rfl (t := true) rfl rfl rfl w) ?_
                      refine SOps.nil ?_
                      refine SW.cond_t (t := true) rfl rfl ?_
                      refine SW.seq ?_
                      refine SW.region ?_
                      refine SOps.val (v := .bool false) rfl (wantN rfl) (fun _ => by kernel_rfl) ?_
                      refine SOps.nil ?_
                      obtain ⟨Hr, hr, h⟩ := h
                      exact SW.ret (retQ.mk (.bool false) (res1 rfl rfl) hr ⟨false, rfl, h⟩)
                  · replace h := h.2 v123 rfl
                    refine SOps.val (v := .bool true) rfl (wantY (c := false) rfl rfl rfl rfl) (fun w => ev_errNe (e := some v123) rfl Try.underlying24 rfl rfl w) ?_
                    refine SOps.val (v := .bool true) rfl (wantN rfl) (fun w => ev_pickF (v := .bool true) rfl (t := false) rfl rfl rfl w) ?_
                    refine SOps.val (v := .bool true) rfl (wantN rfl) (fun _ => by kernel_rfl) ?_
                    refine SOps.off rfl (wantX (c := true) rfl rfl rfl rfl) ?_
                    refine SOps.off rfl (wantX (c := true) rfl rfl rfl rfl) ?_
                    refine SOps.val (v := .bool true) rfl (wantN rfl) (fun w => ev_pickT (v := .bool true) rfl (t := true) rfl rfl rfl w) ?_
                    refine SOps.val (v := .bool true) rfl (wantN rfl) (fun _ => by kernel_rfl) ?_
                    refine SOps.off rfl (wantX (c := true) rfl rfl rfl rfl) ?_
                    refine SOps.off rfl (wantX (c := true) rfl rfl rfl rfl) ?_
                    refine SOps.off rfl (wantX (c := true) rfl rfl rfl rfl) ?_
                    refine SOps.off rfl (wantX (c := true) rfl rfl rfl rfl) ?_
                    refine SOps.val (v := .bool true) rfl (wantN rfl) (fun w => ev_pickT (v := .bool true) rfl (t := true) rfl rfl rfl w) ?_
                    refine SOps.val (v := .bool true) rfl (wantN rfl) (fun _ => by kernel_rfl) ?_
                    refine SOps.off rfl (wantX (c := true) rfl rfl rfl rfl) ?_
                    refine SOps.off rfl (wantX (c := true) rfl rfl rfl rfl) ?_
                    refine SOps.off rfl (wantX (c := true) rfl rfl rfl rfl) ?_
                    refine SOps.val (v := .bool true) rfl (wantN rfl) (fun w => ev_pickT (v := .bool true) rfl (t := true) rfl rfl rfl w) ?_
                    refine SOps.val (v := .bool true) rfl (wantN rfl) (fun _ => by kernel_rfl) ?_
                    refine SOps.off rfl (wantX (c := true) rfl rfl rfl rfl) ?_
                    refine SOps.off rfl (wantX (c := true) rfl rfl rfl rfl) ?_
                    refine SOps.off rfl (wantX (c := true) rfl rfl rfl rfl) ?_
                    refine SOps.off rfl (wantX (c := true) rfl rfl rfl rfl) ?_
                    refine SOps.val (v := .bool true) rfl (wantN rfl) (fun w => ev_pickT (v := .bool true) rfl (t := true) rfl rfl rfl w) ?_
                    refine SOps.nil ?_
                    refine SW.cond_t (t := true) rfl rfl ?_
                    refine SW.seq ?_
                    refine SW.region ?_
                    refine SOps.val (v := .bool false) rfl (wantN rfl) (fun _ => by kernel_rfl) ?_
                    refine SOps.nil ?_
                    obtain ⟨Hr, hr, h⟩ := h
                    exact SW.ret (retQ.mk (.bool false) (res1 rfl rfl) hr ⟨false, rfl, h⟩)
                · replace h := h.2 v122 rfl
                  refine SOps.val (v := .bool true) rfl (wantN rfl) (fun w => ev_errNe (e := some v122) rfl Try.underlying24 rfl rfl w) ?_
                  refine SOps.val (v := .bool true) rfl (wantN rfl) (fun _ => by kernel_rfl) ?_
                  refine SOps.off rfl (wantX (c := true) rfl rfl rfl rfl) ?_
                  refine SOps.off rfl (wantX (c := true) rfl rfl rfl rfl) ?_
                  refine SOps.val (v := .bool true) rfl (wantN rfl) (fun w => ev_pickT (v := .bool true) rfl (t := true) rfl rfl rfl w) ?_
                  refine SOps.val (v := .bool true) rfl (wantN rfl) (fun _ => by kernel_rfl) ?_
                  refine SOps.off rfl (wantX (c := true) rfl rfl rfl rfl) ?_
                  refine SOps.off rfl (wantX (c := true) rfl rfl rfl rfl) ?_
                  refine SOps.val (v := .bool true) rfl (wantN rfl) (fun w => ev_pickT (v := .bool true) rfl (t := true) rfl rfl rfl w) ?_
                  refine SOps.val (v := .bool true) rfl (wantN rfl) (fun _ => by kernel_rfl) ?_
                  refine SOps.off rfl (wantX (c := true) rfl rfl rfl rfl) ?_
                  refine SOps.off rfl (wantX (c := true) rfl rfl rfl rfl) ?_
                  refine SOps.off rfl (wantX (c := true) rfl rfl rfl rfl) ?_
                  refine SOps.off rfl (wantX (c := true) rfl rfl rfl rfl) ?_
                  refine SOps.val (v := .bool true) rfl (wantN rfl) (fun w => ev_pickT (v := .bool true) rfl (t := true) rfl rfl rfl w) ?_
                  refine SOps.val (v := .bool true) rfl (wantN rfl) (fun _ => by kernel_rfl) ?_
                  refine SOps.off rfl (wantX (c := true) rfl rfl rfl rfl) ?_
                  refine SOps.off rfl (wantX (c := true) rfl rfl rfl rfl) ?_
                  refine SOps.off rfl (wantX (c := true) rfl rfl rfl rfl) ?_
                  refine SOps.val (v := .bool true) rfl (wantN rfl) (fun w => ev_pickT (v := .bool true) rfl (t := true) rfl rfl rfl w) ?_
                  refine SOps.val (v := .bool true) rfl (wantN rfl) (fun _ => by kernel_rfl) ?_
                  refine SOps.off rfl (wantX (c := true) rfl rfl rfl rfl) ?_
                  refine SOps.off rfl (wantX (c := true) rfl rfl rfl rfl) ?_
                  refine SOps.off rfl (wantX (c := true) rfl rfl rfl rfl) ?_
                  refine SOps.off rfl (wantX (c := true) rfl rfl rfl rfl) ?_
                  refine SOps.val (v := .bool true) rfl (wantN rfl) (fun w => ev_pickT (v := .bool true) rfl (t := true) rfl rfl rfl w) ?_
                  refine SOps.nil ?_
                  refine SW.cond_t (t := true) rfl rfl ?_
                  refine SW.seq ?_
                  refine SW.region ?_
                  refine SOps.val (v := .bool false) rfl (wantN rfl) (fun _ => by kernel_rfl) ?_
                  refine SOps.nil ?_
                  obtain ⟨Hr, hr, h⟩ := h
                  exact SW.ret (retQ.mk (.bool false) (res1 rfl rfl) hr ⟨false, rfl, h⟩)
              · replace h := h.2 c105
                have dc105 : (decide (x104 < x103)) = false := (decide_eq_false c105)
                refine SW.cond_f (t := decide (x104 < x103)) rfl dc105 ?_
                refine SW.exit ?_
                refine SW.seq ?_
                refine SW.region ?_
                refine SOps.val (v := .int .i64 x101) rfl (wantN rfl) (fun _ => by kernel_rfl) ?_
                refine SOps.val (v := .string s100) rfl (wantN rfl) (fun _ => by kernel_rfl) ?_
                refine SOps.val (v := .int .i64 (s100.size : Int)) rfl (wantN rfl) (fun _ => by kernel_rfl) ?_
                refine SOps.val (v := .bool (x101 == (s100.size : Int))) rfl (wantN rfl) (fun _ => by kernel_rfl) ?_
                refine SOps.val (v := .bool (x101 == (s100.size : Int))) rfl (wantN rfl) (fun _ => by kernel_rfl) ?_
                refine SOps.nil ?_
                obtain ⟨Hr, hr, h⟩ := h
                exact SW.ret (retQ.mk (.bool (x101 == (s100.size : Int))) (res1 rfl rfl) hr ⟨(x101 == (s100.size : Int)), rfl, h⟩)
  · replace h := h.2 c4
    have dc4 : q2 = false := (Bool.eq_false_iff.mpr c4)
    refine SW.cond_t (t := !q2) rfl (not_f dc4) ?_
    refine SW.seq ?_
    refine SW.region ?_
    refine SOps.val (v := .bool false) rfl (wantN rfl) (fun _ => by kernel_rfl) ?_
    refine SOps.nil ?_
    obtain ⟨Hr, hr, h⟩ := h
    exact SW.ret (retQ.mk (.bool false) (res1 rfl rfl) hr ⟨false, rfl, h⟩)

end Go.Proofs.Ytpnbehgkbfhacaa.K
