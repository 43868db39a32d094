import Derived.Test.YtpnbehgkbfhacaaGoctet
set_option linter.unusedVariables false
set_option linter.unusedSimpArgs false
set_option maxRecDepth 100000
namespace Go.Proofs.Ytpnbehgkbfhacaa.K
open Go
attribute [local irreducible] SW SOps SQ SCalls retQ

/-! ### lading/gap.wrong: function 30 -/
def gap_wrong.wp (F : Nat) (x1 : Int) (e2 : Option EV) (H : SH) (K : Option EV → SH → Prop) : Prop :=
  ∃ Hr, SH.le Hr H ∧ K (some (EV.mk x1 e2)) Hr
set_option maxHeartbeats 8000000 in
theorem gap_wrong.sound (F : Nat) (x1 : Int) (e2 : Option EV) (H : SH) (K : Option EV → SH → Prop) (h : gap_wrong.wp F x1 e2 H K) : SCalls Try.prog 30 #[.int .i64 x1, errV e2] H (fun v H' => ∃ (e4 : Option EV), v = errV e4 ∧ K e4 H') := by
  unfold gap_wrong.wp at h
  refine SCalls.body Try.func30 rfl (Nat.le_of_ble_eq_true rfl) ?_
  refine SW.seq ?_
  refine SW.region ?_
  refine SOps.val (v := errV none) rfl (wantN rfl) (fun _ => by kernel_rfl) ?_
  refine SOps.nil ?_
  refine SW.seq ?_
  refine SW.region ?_
  refine SOps.val (v := .int .i64 x1) rfl (wantN rfl) (fun _ => by kernel_rfl) ?_
  refine SOps.val (v := errV e2) rfl (wantN rfl) (fun _ => by kernel_rfl) ?_
  refine SOps.val (v := .agg #[.int .i64 x1, errV e2]) rfl (wantN rfl) (fun w => ev_buildF rfl rfl rfl w) ?_
  refine SOps.val (v := errV (some (EV.mk x1 e2))) rfl (wantN rfl) (fun w => ev_fault rfl rfl w) ?_
  refine SOps.val (v := errV (some (EV.mk x1 e2))) rfl (wantN rfl) (fun _ => by kernel_rfl) ?_
  refine SOps.nil ?_
  obtain ⟨Hr, hr, h⟩ := h
  exact SW.ret (retQ.mk (errV (some (EV.mk x1 e2))) (res1 rfl rfl) hr ⟨some (EV.mk x1 e2), rfl, h⟩)

/-! ### lading/gap.may: function 29 -/
def gap_may.wp (F : Nat) (x1 : Int) (x2 : Int) (H : SH) (K : Option EV → SH → Prop) : Prop :=
  (x1 < 0 →
    ∃ Hr, SH.le Hr H ∧ K (some (EV.no 1)) Hr
  ) ∧ (¬ (x1 < 0) →
    (x1 > 4096 →
      ∃ Hr, SH.le Hr H ∧ K (some (EV.no 1)) Hr
    ) ∧ (¬ (x1 > 4096) →
      (x2 < 0 →
        ∃ Hr, SH.le Hr H ∧ K (some (EV.no 2)) Hr
      ) ∧ (¬ (x2 < 0) →
        (x2 ≥ x1 →
          ∃ Hr, SH.le Hr H ∧ K (some (EV.no 2)) Hr
        ) ∧ (¬ (x2 ≥ x1) →
          ∃ Hr, SH.le Hr H ∧ K none Hr
        )
      )
    )
  )
set_option maxHeartbeats 8000000 in
theorem gap_may.sound (F : Nat) (x1 : Int) (x2 : Int) (H : SH) (K : Option EV → SH → Prop) (h : gap_may.wp F x1 x2 H K) : SCalls Try.prog 29 #[.int .i64 x1, .int .i64 x2] H (fun v H' => ∃ (e8 : Option EV), v = errV e8 ∧ K e8 H') := by
  unfold gap_may.wp at h
  refine SCalls.body Try.func29 rfl (Nat.le_of_ble_eq_true rfl) ?_
  refine SW.seq ?_
  refine SW.region ?_
  refine SOps.val (v := errV none) rfl (wantN rfl) (fun _ => by kernel_rfl) ?_
  refine SOps.nil ?_
  refine SW.seq ?_
  refine SW.block ?_
  refine SW.seq ?_
  refine SW.region ?_
  refine SOps.val (v := .int .i64 x1) rfl (wantN rfl) (fun _ => by kernel_rfl) ?_
  refine SOps.val (v := .bool (decide (x1 < 0))) rfl (wantN rfl) (fun _ => by kernel_rfl) ?_
  refine SOps.val (v := .bool (decide (x1 < 0))) rfl (wantN rfl) (fun _ => by kernel_rfl) ?_
  by_cases c3 : x1 < 0
  · replace h := h.1 c3
    have dc3 : (decide (x1 < 0)) = true := (decide_eq_true c3)
    refine SOps.off rfl (wantX (c := decide (x1 < 0)) rfl rfl rfl dc3) ?_
    refine SOps.off rfl (wantX (c := decide (x1 < 0)) rfl rfl rfl dc3) ?_
    refine SOps.val (v := .bool true) rfl (wantN rfl) (fun w => ev_pickT (v := .bool true) rfl (t := decide (x1 < 0)) rfl dc3 rfl w) ?_
    refine SOps.val (v := .bool true) rfl (wantN rfl) (fun _ => by kernel_rfl) ?_
    refine SOps.nil ?_
    refine SW.cond_t (t := true) rfl rfl ?_
    refine SW.seq ?_
    refine SW.region ?_
    refine SOps.val (v := errV (some (EV.no 1))) rfl (wantN rfl) (fun _ => by kernel_rfl) ?_
    refine SOps.val (v := errV (some (EV.no 1))) rfl (wantN rfl) (fun _ => by kernel_rfl) ?_
    refine SOps.nil ?_
    obtain ⟨Hr, hr, h⟩ := h
    exact SW.ret (retQ.mk (errV (some (EV.no 1))) (res1 rfl rfl) hr ⟨some (EV.no 1), rfl, h⟩)
  · replace h := h.2 c3
    have dc3 : (decide (x1 < 0)) = false := (decide_eq_false c3)
    refine SOps.val (v := .int .i64 x1) rfl (wantY (c := decide (x1 < 0)) rfl rfl rfl dc3) (fun _ => by kernel_rfl) ?_
    refine SOps.val (v := .bool (decide (x1 > 4096))) rfl (wantY (c := decide (x1 < 0)) rfl rfl rfl dc3) (fun _ => by kernel_rfl) ?_
    refine SOps.val (v := .bool (decide (x1 > 4096))) rfl (wantN rfl) (fun w => ev_pickF (v := .bool (decide (x1 > 4096))) rfl (t := decide (x1 < 0)) rfl dc3 rfl w) ?_
    refine SOps.val (v := .bool (decide (x1 > 4096))) rfl (wantN rfl) (fun _ => by kernel_rfl) ?_
    refine SOps.nil ?_
    by_cases c4 : x1 > 4096
    · replace h := h.1 c4
      have dc4 : (decide (x1 > 4096)) = true := (decide_eq_true c4)
      refine SW.cond_t (t := decide (x1 > 4096)) rfl dc4 ?_
      refine SW.seq ?_
      refine SW.region ?_
      refine SOps.val (v := errV (some (EV.no 1))) rfl (wantN rfl) (fun _ => by kernel_rfl) ?_
      refine SOps.val (v := errV (some (EV.no 1))) rfl (wantN rfl) (fun _ => by kernel_rfl) ?_
      refine SOps.nil ?_
      obtain ⟨Hr, hr, h⟩ := h
      exact SW.ret (retQ.mk (errV (some (EV.no 1))) (res1 rfl rfl) hr ⟨some (EV.no 1), rfl, h⟩)
    · replace h := h.2 c4
      have dc4 : (decide (x1 > 4096)) = false := (decide_eq_false c4)
      refine SW.cond_f (t := decide (x1 > 4096)) rfl dc4 ?_
      refine SW.seq ?_
      refine SW.region ?_
      refine SOps.val (v := .int .i64 x2) rfl (wantN rfl) (fun _ => by kernel_rfl) ?_
      refine SOps.val (v := .bool (decide (x2 < 0))) rfl (wantN rfl) (fun _ => by kernel_rfl) ?_
      refine SOps.val (v := .bool (decide (x2 < 0))) rfl (wantN rfl) (fun _ => by kernel_rfl) ?_
      by_cases c5 : x2 < 0
      · replace h := h.1 c5
        have dc5 : (decide (x2 < 0)) = true := (decide_eq_true c5)
        refine SOps.off rfl (wantX (c := decide (x2 < 0)) rfl rfl rfl dc5) ?_
        refine SOps.off rfl (wantX (c := decide (x2 < 0)) rfl rfl rfl dc5) ?_
        refine SOps.off rfl (wantX (c := decide (x2 < 0)) rfl rfl rfl dc5) ?_
        refine SOps.val (v := .bool true) rfl (wantN rfl) (fun w => ev_pickT (v := .bool true) rfl (t := decide (x2 < 0)) rfl dc5 rfl w) ?_
        refine SOps.val (v := .bool true) rfl (wantN rfl) (fun _ => by kernel_rfl) ?_
        refine SOps.nil ?_
        refine SW.cond_t (t := true) rfl rfl ?_
        refine SW.seq ?_
        refine SW.region ?_
        refine SOps.val (v := errV (some (EV.no 2))) rfl (wantN rfl) (fun _ => by kernel_rfl) ?_
        refine SOps.val (v := errV (some (EV.no 2))) rfl (wantN rfl) (fun _ => by kernel_rfl) ?_
        refine SOps.nil ?_
        obtain ⟨Hr, hr, h⟩ := h
        exact SW.ret (retQ.mk (errV (some (EV.no 2))) (res1 rfl rfl) hr ⟨some (EV.no 2), rfl, h⟩)
      · replace h := h.2 c5
        have dc5 : (decide (x2 < 0)) = false := (decide_eq_false c5)
        refine SOps.val (v := .int .i64 x2) rfl (wantY (c := decide (x2 < 0)) rfl rfl rfl dc5) (fun _ => by kernel_rfl) ?_
        refine SOps.val (v := .int .i64 x1) rfl (wantY (c := decide (x2 < 0)) rfl rfl rfl dc5) (fun _ => by kernel_rfl) ?_
        refine SOps.val (v := .bool (decide (x2 ≥ x1))) rfl (wantY (c := decide (x2 < 0)) rfl rfl rfl dc5) (fun _ => by kernel_rfl) ?_
        refine SOps.val (v := .bool (decide (x2 ≥ x1))) rfl (wantN rfl) (fun w => ev_pickF (v := .bool (decide (x2 ≥ x1))) rfl (t := decide (x2 < 0)) rfl dc5 rfl w) ?_
        refine SOps.val (v := .bool (decide (x2 ≥ x1))) rfl (wantN rfl) (fun _ => by kernel_rfl) ?_
        refine SOps.nil ?_
        by_cases c6 : x2 ≥ x1
        · replace h := h.1 c6
          have dc6 : (decide (x2 ≥ x1)) = true := (decide_eq_true c6)
          refine SW.cond_t (t := decide (x2 ≥ x1)) rfl dc6 ?_
          refine SW.seq ?_
          refine SW.region ?_
          refine SOps.val (v := errV (some (EV.no 2))) rfl (wantN rfl) (fun _ => by kernel_rfl) ?_
          refine SOps.val (v := errV (some (EV.no 2))) rfl (wantN rfl) (fun _ => by kernel_rfl) ?_
          refine SOps.nil ?_
          obtain ⟨Hr, hr, h⟩ := h
          exact SW.ret (retQ.mk (errV (some (EV.no 2))) (res1 rfl rfl) hr ⟨some (EV.no 2), rfl, h⟩)
        · replace h := h.2 c6
          have dc6 : (decide (x2 ≥ x1)) = false := (decide_eq_false c6)
          refine SW.cond_f (t := decide (x2 ≥ x1)) rfl dc6 ?_
          refine SW.skip ?_
          refine SW.seq ?_
          refine SW.region ?_
          refine SOps.val (v := errV none) rfl (wantN rfl) (fun _ => by kernel_rfl) ?_
          refine SOps.nil ?_
          obtain ⟨Hr, hr, h⟩ := h
          exact SW.ret (retQ.mk (errV none) (res1 rfl rfl) hr ⟨none, rfl, h⟩)

/-! ### lading/gap.Put: function 17 -/
def gap_Put.j1 (F : Nat) (K : ByteArray → Option EV → SH → Prop) (R2 : Int → Sl → ByteArray → Sl → Int → Int → SH → Prop) (x63 : Int) (l64 : Sl) (s65 : ByteArray) (s66 : ByteArray) (l67 : Sl) (x68 : Int) (x69 : Int) (H : SH) : Prop :=
  s65.size + s66.size ≤ 9223372036854775807 ∧
  R2 x63 l64 (s65 ++ s66) l67 x68 (w64 (x69 + 1)) H
def gap_Put.j2 (F : Nat) (K : ByteArray → Option EV → SH → Prop) (R2 : Int → Sl → ByteArray → Sl → Int → Int → SH → Prop) (x47 : Int) (l48 : Sl) (s49 : ByteArray) (s50 : ByteArray) (l51 : Sl) (x52 : Int) (x53 : Int) (H : SH) : Prop :=
  gap_Put.j1 F K R2 x47 l48 s49 s50 l51 x52 x53 H
def gap_Put.r2 (F : Nat) (K : ByteArray → Option EV → SH → Prop) (R2 : Int → Sl → ByteArray → Sl → Int → Int → SH → Prop) (x30 : Int) (l31 : Sl) (s32 : ByteArray) (l33 : Sl) (x34 : Int) (x35 : Int) (H : SH) : Prop :=
  (x35 < x34 →
    ∃ p37, l33.a = some p37 ∧ 0 ≤ x35 ∧ x35 < (l33.len : Int) ∧
    ∃ (x41 : Int),
    SH.has H (p37.1, (p37.2 + x35.toNat * 1)) (.int .i64 x41) ∧
    (x35 = 0 →
      octet_PutTurned.wp F (w64 (x41 - x30)) H (fun s44 e45 H46 =>
        gap_Put.j2 F K R2 x30 l31 s32 s44 l33 x34 x35 H46
      )
    ) ∧ (¬ (x35 = 0) →
      ∃ p54, l31.a = some p54 ∧ 0 ≤ (w64 (x35 - 1)) ∧ (w64 (x35 - 1)) < (l31.len : Int) ∧
      ∃ (x58 : Int),
      SH.has H (p54.1, (p54.2 + (w64 (x35 - 1)).toNat * 1)) (.int .i64 x58) ∧
      octet_PutShort.wp F (w64 ((w64 (x41 - x58)) - 1)) H (fun s60 e61 H62 =>
        gap_Put.j2 F K R2 x30 l31 s32 s60 l33 x34 x35 H62
      )
    )
  ) ∧ (¬ (x35 < x34) →
    ∃ Hr, SH.le Hr H ∧ K s32 none Hr
  )
def gap_Put.l2 (F : Nat) (K : ByteArray → Option EV → SH → Prop) : Nat → Int → Sl → ByteArray → Sl → Int → Int → SH → Prop
  | 0, _, _, _, _, _, _, _ => False
  | k + 1, x30, l31, s32, l33, x34, x35, H => gap_Put.r2 F K (gap_Put.l2 F K k) x30 l31 s32 l33 x34 x35 H
def gap_Put.r1 (F : Nat) (K : ByteArray → Option EV → SH → Prop) (R1 : Int → Int → Sl → Int → Sl → Int → Int → SH → Prop) (x7 : Int) (x8 : Int) (l9 : Sl) (x10 : Int) (l11 : Sl) (x12 : Int) (x13 : Int) (H : SH) : Prop :=
  (x13 < x12 →
    ∃ p15, l11.a = some p15 ∧ 0 ≤ x13 ∧ x13 < (l11.len : Int) ∧
    ∃ (x19 : Int),
    SH.has H (p15.1, (p15.2 + x13.toNat * 1)) (.int .i64 x19) ∧
    (x19 ≤ x10 →
      gap_wrong.wp F x13 (some (EV.no 10)) H (fun e22 H23 =>
        ∃ Hr, SH.le Hr H23 ∧ K ByteArray.empty e22 Hr
      )
    ) ∧ (¬ (x19 ≤ x10) →
      (x19 ≥ x7 →
        gap_wrong.wp F x13 (some (EV.no 10)) H (fun e25 H26 =>
          ∃ Hr, SH.le Hr H26 ∧ K ByteArray.empty e25 Hr
        )
      ) ∧ (¬ (x19 ≥ x7) →
        R1 x7 x8 l9 x19 l11 x12 (w64 (x13 + 1)) H
      )
    )
  ) ∧ (¬ (x13 < x12) →
    octet_PutShort.wp F (l9.len : Int) H (fun s27 e28 H29 =>
      gap_Put.l2 F K F x8 l9 s27 l9 (l9.len : Int) 0 H29
    )
  )
def gap_Put.l1 (F : Nat) (K : ByteArray → Option EV → SH → Prop) : Nat → Int → Int → Sl → Int → Sl → Int → Int → SH → Prop
  | 0, _, _, _, _, _, _, _, _ => False
  | k + 1, x7, x8, l9, x10, l11, x12, x13, H => gap_Put.r1 F K (gap_Put.l1 F K k) x7 x8 l9 x10 l11 x12 x13 H
def gap_Put.wp (F : Nat) (x1 : Int) (x2 : Int) (l3 : Sl) (H : SH) (K : ByteArray → Option EV → SH → Prop) : Prop :=
  gap_may.wp F x1 x2 H (fun e4 H5 =>
    (e4 = none →
      gap_Put.l1 F K F x1 x2 l3 (-1) l3 (l3.len : Int) 0 H5
    ) ∧ (∀ v6, e4 = some v6 →
      ∃ Hr, SH.le Hr H5 ∧ K ByteArray.empty (some v6) Hr
    )
  )
set_option maxHeartbeats 8000000 in
theorem gap_Put.sound (F : Nat) (x1 : Int) (x2 : Int) (l3 : Sl) (H : SH) (K : ByteArray → Option EV → SH → Prop) (h : gap_Put.wp F x1 x2 l3 H K) : SCalls Try.prog 17 #[.int .i64 x1, .int .i64 x2, sv l3] H (fun v H' => ∃ (s85 : ByteArray) (e86 : Option EV), v = .tuple #[.string s85, errV e86] ∧ K s85 e86 H') := by
  unfold gap_Put.wp at h
  refine SCalls.body Try.func17 rfl (Nat.le_of_ble_eq_true rfl) ?_
  refine SW.seq ?_
  refine SW.region ?_
  refine SOps.val (v := .string ByteArray.empty) rfl (wantN rfl) (fun _ => by kernel_rfl) ?_
  refine SOps.val (v := errV none) rfl (wantN rfl) (fun _ => by kernel_rfl) ?_
  refine SOps.nil ?_
  refine SW.seq ?_
  refine SW.seq ?_
  refine SW.region ?_
  refine SOps.val (v := .int .i64 x1) rfl (wantN rfl) (fun _ => by kernel_rfl) ?_
  refine SOps.val (v := .int .i64 x2) rfl (wantN rfl) (fun _ => by kernel_rfl) ?_
  refine SOps.enter rfl (wantN rfl) (fun _ => by kernel_rfl) (gap_may.sound F x1 x2 H _ h) ?_
  clear h
  rintro v H5 ⟨e4, rfl, h⟩
  refine SOps.val (v := errV e4) rfl (wantN rfl) (fun _ => by kernel_rfl) ?_
  refine SOps.nil ?_
  refine SW.seq ?_
  refine SW.region ?_
  refine SOps.val (v := errV e4) rfl (wantN rfl) (fun _ => by kernel_rfl) ?_
  rcases e4 with _ | v6
  · replace h := h.1 rfl
    refine SOps.val (v := .bool false) rfl (wantN rfl) (fun w => ev_errNe (e := none) rfl Try.underlying24 rfl rfl w) ?_
    refine SOps.nil ?_
    refine SW.cond_f (t := false) rfl rfl ?_
    refine SW.skip ?_
    refine SW.seq ?_
    refine SW.region ?_
    refine SOps.val (v := .int .i64 (-1)) rfl (wantN rfl) (fun _ => by kernel_rfl) ?_
    refine SOps.nil ?_
    refine SW.seq ?_
    refine SW.seq ?_
    refine SW.region ?_
    refine SOps.val (v := sv l3) rfl (wantN rfl) (fun _ => by kernel_rfl) ?_
    refine SOps.val (v := .int .i64 (l3.len : Int)) rfl (wantN rfl) (fun _ => by kernel_rfl) ?_
    refine SOps.val (v := .int .i64 0) rfl (wantN rfl) (fun _ => by kernel_rfl) ?_
    refine SOps.nil ?_
    refine SW.block ?_
    refine SW.loop (fun k1 fr H => ∃ (g : Fr) (x7 : Int) (x8 : Int) (l9 : Sl) (x10 : Int) (l11 : Sl) (x12 : Int) (x13 : Int), fr = g.upds [(0, (.int .i64 x7 : Value)), (1, (.int .i64 x8 : Value)), (2, sv l9), (9, (.int .i64 x10 : Value)), (23, sv l11), (24, (.int .i64 x12 : Value)), (25, (.int .i64 x13 : Value))] ∧ gap_Put.l1 F K k1 x7 x8 l9 x10 l11 x12 x13 H) F ⟨_, x1, x2, l3, (-1), l3, (l3.len : Int), 0, (Fr.upds_self _ _ ⟨rfl, rfl, rfl, rfl, rfl, rfl, rfl, trivial⟩), h⟩ ?_
    clear h
    rintro k1 fr H ⟨g, x7, x8, l9, x10, l11, x12, x13, rfl, h⟩
    cases k1 with
    | zero => exact h.elim
    | succ k1 =>
      replace h : gap_Put.r1 F K (gap_Put.l1 F K k1) x7 x8 l9 x10 l11 x12 x13 H := h
      unfold gap_Put.r1 at h
      refine SW.seq ?_
      refine SW.region ?_
      refine SOps.val (v := .bool (decide (x13 < x12))) rfl (wantN rfl) (fun _ => by kernel_rfl) ?_
      refine SOps.nil ?_
      refine SW.seq ?_
      by_cases c14 : x13 < x12
      · replace h := h.1 c14
        have dc14 : (decide (x13 < x12)) = true := (decide_eq_true c14)
        refine SW.cond_t (t := decide (x13 < x12)) rfl dc14 ?_
        refine SW.skip ?_
        refine SW.seq ?_
        refine SW.block ?_
        refine SW.seq ?_
        refine SW.region ?_
        refine SOps.val (v := .int .i64 x13) rfl (wantN rfl) (fun _ => by kernel_rfl) ?_
        obtain ⟨p15, c16, c17, c18, h⟩ := h
        refine SOps.val (v := pv (some (p15.1, (p15.2 + x13.toNat * 1)))) rfl (wantN rfl) (fun w => ev_iaddr rfl Try.underlying36 (size := 1) (by kernel_rfl) rfl rfl c16 c17 c18 w) ?_
        obtain ⟨x19, c20, h⟩ := h
        refine SOps.rd (v := .int .i64 x19) rfl (wantN rfl) (fun w hw => ev_load1 rfl (fun _ => by kernel_rfl) (p := (p15.1, (p15.2 + x13.toNat * 1))) rfl c20 w hw) ?_
        refine SOps.val (v := .int .i64 x13) rfl (wantN rfl) (fun _ => by kernel_rfl) ?_
        refine SOps.val (v := .int .i64 x19) rfl (wantN rfl) (fun _ => by kernel_rfl) ?_
        refine SOps.nil ?_
        refine SW.seq ?_
        refine SW.seq ?_
        refine SW.region ?_
        refine SOps.val (v := .int .i64 x19) rfl (wantN rfl) (fun _ => by kernel_rfl) ?_
        refine SOps.val (v := .int .i64 x10) rfl (wantN rfl) (fun _ => by kernel_rfl) ?_
        refine SOps.val (v := .bool (decide (x19 ≤ x10))) rfl (wantN rfl) (fun _ => by kernel_rfl) ?_
        refine SOps.val (v := .bool (decide (x19 ≤ x10))) rfl (wantN rfl) (fun _ => by kernel_rfl) ?_
        by_cases c21 : x19 ≤ x10
        · replace h := h.1 c21
          have dc21 : (decide (x19 ≤ x10)) = true := (decide_eq_true c21)
          refine SOps.off rfl (wantX (c := decide (x19 ≤ x10)) rfl rfl rfl dc21) ?_
          refine SOps.off rfl (wantX (c := decide (x19 ≤ x10)) rfl rfl rfl dc21) ?_
          refine SOps.off rfl (wantX (c := decide (x19 ≤ x10)) rfl rfl rfl dc21) ?_
          refine SOps.val (v := .bool true) rfl (wantN rfl) (fun w => ev_pickT (v := .bool true) rfl (t := decide (x19 ≤ x10)) rfl dc21 rfl w) ?_
          refine SOps.nil ?_
          refine SW.cond_t (t := true) rfl rfl ?_
          refine SW.seq ?_
          refine SW.region ?_
          refine SOps.val (v := .int .i64 x13) rfl (wantN rfl) (fun _ => by kernel_rfl) ?_
          refine SOps.val (v := errV (some (EV.no 10))) rfl (wantN rfl) (fun _ => by kernel_rfl) ?_
          refine SOps.enter rfl (wantN rfl) (fun _ => by kernel_rfl) (gap_wrong.sound F x13 (some (EV.no 10)) H _ h) ?_
          clear h
          rintro v H23 ⟨e22, rfl, h⟩
          refine SOps.val (v := .string ByteArray.empty) rfl (wantN rfl) (fun _ => by kernel_rfl) ?_
          refine SOps.val (v := errV e22) rfl (wantN rfl) (fun _ => by kernel_rfl) ?_
          refine SOps.nil ?_
          obtain ⟨Hr, hr, h⟩ := h
          exact SW.ret (retQ.mk (.tuple #[.string ByteArray.empty, errV e22]) (res2 rfl rfl rfl) hr ⟨ByteArray.empty, e22, rfl, h⟩)
        · replace h := h.2 c21
          have dc21 : (decide (x19 ≤ x10)) = false := (decide_eq_false c21)
          refine SOps.val (v := .int .i64 x19) rfl (wantY (c := decide (x19 ≤ x10)) rfl rfl rfl dc21) (fun _ => by kernel_rfl) ?_
          refine SOps.val (v := .int .i64 x7) rfl (wantY (c := decide (x19 ≤ x10)) rfl rfl rfl dc21) (fun _ => by kernel_rfl) ?_
          refine SOps.val (v := .bool (decide (x19 ≥ x7))) rfl (wantY (c := decide (x19 ≤ x10)) rfl rfl rfl dc21) (fun _ => by kernel_rfl) ?_
          refine SOps.val (v := .bool (decide (x19 ≥ x7))) rfl (wantN rfl) (fun w => ev_pickF (v := .bool (decide (x19 ≥ x7))) rfl (t := decide (x19 ≤ x10)) rfl dc21 rfl w) ?_
          refine SOps.nil ?_
          by_cases c24 : x19 ≥ x7
          · replace h := h.1 c24
            have dc24 : (decide (x19 ≥ x7)) = true := (decide_eq_true c24)
            refine SW.cond_t (t := decide (x19 ≥ x7)) rfl dc24 ?_
            refine SW.seq ?_
            refine SW.region ?_
            refine SOps.val (v := .int .i64 x13) rfl (wantN rfl) (fun _ => by kernel_rfl) ?_
            refine SOps.val (v := errV (some (EV.no 10))) rfl (wantN rfl) (fun _ => by kernel_rfl) ?_
            refine SOps.enter rfl (wantN rfl) (fun _ => by kernel_rfl) (gap_wrong.sound F x13 (some (EV.no 10)) H _ h) ?_
            clear h
            rintro v H26 ⟨e25, rfl, h⟩
            refine SOps.val (v := .string ByteArray.empty) rfl (wantN rfl) (fun _ => by kernel_rfl) ?_
            refine SOps.val (v := errV e25) rfl (wantN rfl) (fun _ => by kernel_rfl) ?_
            refine SOps.nil ?_
            obtain ⟨Hr, hr, h⟩ := h
            exact SW.ret (retQ.mk (.tuple #[.string ByteArray.empty, errV e25]) (res2 rfl rfl rfl) hr ⟨ByteArray.empty, e25, rfl, h⟩)
          · replace h := h.2 c24
            have dc24 : (decide (x19 ≥ x7)) = false := (decide_eq_false c24)
            refine SW.cond_f (t := decide (x19 ≥ x7)) rfl dc24 ?_
            refine SW.skip ?_
            refine SW.region ?_
            refine SOps.val (v := .int .i64 x19) rfl (wantN rfl) (fun _ => by kernel_rfl) ?_
            refine SOps.val (v := .int .i64 x19) rfl (wantN rfl) (fun _ => by kernel_rfl) ?_
            refine SOps.nil ?_
            refine SW.region ?_
            refine SOps.val (v := .int .i64 (w64 (x13 + 1))) rfl (wantN rfl) (fun _ => by kernel_rfl) ?_
            refine SOps.val (v := .int .i64 (w64 (x13 + 1))) rfl (wantN rfl) (fun _ => by kernel_rfl) ?_
            refine SOps.nil ?_
            exact ⟨k1, Nat.lt_succ_self k1, _, x7, x8, l9, x19, l11, x12, w64 (x13 + 1), (Fr.upds_self _ _ ⟨rfl, rfl, rfl, rfl, rfl, rfl, rfl, trivial⟩), h⟩
      · replace h := h.2 c14
        have dc14 : (decide (x13 < x12)) = false := (decide_eq_false c14)
        refine SW.cond_f (t := decide (x13 < x12)) rfl dc14 ?_
        refine SW.exit ?_
        refine SW.seq ?_
        refine SW.region ?_
        refine SOps.val (v := sv l9) rfl (wantN rfl) (fun _ => by kernel_rfl) ?_
        refine SOps.val (v := .int .i64 (l9.len : Int)) rfl (wantN rfl) (fun _ => by kernel_rfl) ?_
        refine SOps.enter rfl (wantN rfl) (fun _ => by kernel_rfl) (octet_PutShort.sound F (l9.len : Int) H _ h) ?_
        clear h
        rintro v H29 ⟨s27, e28, rfl, h⟩
        refine SOps.val (v := .tuple #[.string s27, errV e28]) rfl (wantN rfl) (fun _ => by kernel_rfl) ?_
        refine SOps.val (v := .string s27) rfl (wantN rfl) (fun _ => by kernel_rfl) ?_
        refine SOps.val (v := errV e28) rfl (wantN rfl) (fun _ => by kernel_rfl) ?_
        refine SOps.val (v := .string s27) rfl (wantN rfl) (fun _ => by kernel_rfl) ?_
        refine SOps.val (v := errV e28) rfl (wantN rfl) (fun _ => by kernel_rfl) ?_
        refine SOps.nil ?_
        refine SW.seq ?_
        refine SW.seq ?_
        refine SW.region ?_
        refine SOps.val (v := sv l9) rfl (wantN rfl) (fun _ => by kernel_rfl) ?_
        refine SOps.val (v := .int .i64 (l9.len : Int)) rfl (wantN rfl) (fun _ => by kernel_rfl) ?_
        refine SOps.val (v := .int .i64 0) rfl (wantN rfl) (fun _ => by kernel_rfl) ?_
        refine SOps.nil ?_
        refine SW.block ?_
        refine SW.loop (fun k2 fr H => ∃ (g : Fr) (x30 : Int) (l31 : Sl) (s32 : ByteArray) (l33 : Sl) (x34 : Int) (x35 : Int), fr = g.upds [(1, (.int .i64 x30 : Value)), (2, sv l31), (12, (.string s32 : Value)), (49, sv l33), (50, (.int .i64 x34 : Value)), (51, (.int .i64 x35 : Value))] ∧ gap_Put.l2 F K k2 x30 l31 s32 l33 x34 x35 H) F ⟨_, x8, l9, s27, l9, (l9.len : Int), 0, (Fr.upds_self _ _ ⟨rfl, rfl, rfl, rfl, rfl, rfl, trivial⟩), h⟩ ?_
        clear h
        rintro k2 fr H ⟨g, x30, l31, s32, l33, x34, x35, rfl, h⟩
        cases k2 with
        | zero => exact h.elim
        | succ k2 =>
          replace h : gap_Put.r2 F K (gap_Put.l2 F K k2) x30 l31 s32 l33 x34 x35 H := h
          unfold gap_Put.r2 at h
          refine SW.seq ?_
          refine SW.region ?_
          refine SOps.val (v := .bool (decide (x35 < x34))) rfl (wantN rfl) (fun _ => by kernel_rfl) ?_
          refine SOps.nil ?_
          refine SW.seq ?_
          by_cases c36 : x35 < x34
          · replace h := h.1 c36
            have dc36 : (decide (x35 < x34)) = true := (decide_eq_true c36)
            refine SW.cond_t (t := decide (x35 < x34)) rfl dc36 ?_
            refine SW.skip ?_
            refine SW.seq ?_
            refine SW.block ?_
            refine SW.seq ?_
            refine SW.region ?_
            refine SOps.val (v := .int .i64 x35) rfl (wantN rfl) (fun _ => by kernel_rfl) ?_
            obtain ⟨p37, c38, c39, c40, h⟩ := h
            refine SOps.val (v := pv (some (p37.1, (p37.2 + x35.toNat * 1)))) rfl (wantN rfl) (fun w => ev_iaddr rfl Try.underlying36 (size := 1) (by kernel_rfl) rfl rfl c38 c39 c40 w) ?_
            obtain ⟨x41, c42, h⟩ := h
            refine SOps.rd (v := .int .i64 x41) rfl (wantN rfl) (fun w hw => ev_load1 rfl (fun _ => by kernel_rfl) (p := (p37.1, (p37.2 + x35.toNat * 1))) rfl c42 w hw) ?_
            refine SOps.val (v := .int .i64 x35) rfl (wantN rfl) (fun _ => by kernel_rfl) ?_
            refine SOps.val (v := .int .i64 x41) rfl (wantN rfl) (fun _ => by kernel_rfl) ?_
            refine SOps.nil ?_
            refine SW.seq ?_
            refine SW.region ?_
            refine SOps.val (v := .string ByteArray.empty) rfl (wantN rfl) (fun _ => by kernel_rfl) ?_
            refine SOps.nil ?_
            refine SW.seqJ (fun fr H => ∃ (g : Fr) (x63 : Int) (l64 : Sl) (s65 : ByteArray) (s66 : ByteArray) (l67 : Sl) (x68 : Int) (x69 : Int), fr = g.upds [(1, (.int .i64 x63 : Value)), (2, sv l64), (12, (.string s65 : Value)), (16, (.string s66 : Value)), (49, sv l67), (50, (.int .i64 x68 : Value)), (51, (.int .i64 x69 : Value))] ∧ gap_Put.j1 F K (gap_Put.l2 F K k2) x63 l64 s65 s66 l67 x68 x69 H) ?_ ?_
            · clear h
              rintro fr H ⟨g, x63, l64, s65, s66, l67, x68, x69, rfl, h⟩
              unfold gap_Put.j1 at h
              refine SW.region ?_
              refine SOps.val (v := .string s65) rfl (wantN rfl) (fun _ => by kernel_rfl) ?_
              refine SOps.val (v := .string s66) rfl (wantN rfl) (fun _ => by kernel_rfl) ?_
              obtain ⟨c72, h⟩ := h
              refine SOps.val (v := .string (s65 ++ s66)) rfl (wantN rfl) (fun w => ev_cat rfl rfl rfl c72 w) ?_
              refine SOps.val (v := .string (s65 ++ s66)) rfl (wantN rfl) (fun _ => by kernel_rfl) ?_
              refine SOps.nil ?_
              refine SW.region ?_
              refine SOps.val (v := .int .i64 (w64 (x69 + 1))) rfl (wantN rfl) (fun _ => by kernel_rfl) ?_
              refine SOps.val (v := .int .i64 (w64 (x69 + 1))) rfl (wantN rfl) (fun _ => by kernel_rfl) ?_
              refine SOps.nil ?_
              exact ⟨k2, Nat.lt_succ_self k2, _, x63, l64, s65 ++ s66, l67, x68, w64 (x69 + 1), (Fr.upds_self _ _ ⟨rfl, rfl, rfl, rfl, rfl, rfl, trivial⟩), h⟩
            · skip
              refine SW.seq ?_
              refine SW.region ?_
              refine SOps.val (v := .int .i64 x35) rfl (wantN rfl) (fun _ => by kernel_rfl) ?_
              refine SOps.nil ?_
              refine SW.blockJ (fun fr H => ∃ (g : Fr) (x47 : Int) (l48 : Sl) (s49 : ByteArray) (s50 : ByteArray) (l51 : Sl) (x52 : Int) (x53 : Int), fr = g.upds [(1, (.int .i64 x47 : Value)), (2, sv l48), (12, (.string s49 : Value)), (16, (.string s50 : Value)), (49, sv l51), (50, (.int .i64 x52 : Value)), (51, (.int .i64 x53 : Value))] ∧ gap_Put.j2 F K (gap_Put.l2 F K k2) x47 l48 s49 s50 l51 x52 x53 H) ?_ ?_
              · clear h
                rintro fr H ⟨g, x47, l48, s49, s50, l51, x52, x53, rfl, h⟩
                unfold gap_Put.j2 at h
                exact ⟨_, x47, l48, s49, s50, l51, x52, x53, Fr.upds_self _ _ ⟨rfl, rfl, rfl, rfl, rfl, rfl, rfl, trivial⟩, h⟩
              · skip
                refine SW.seq ?_
                refine SW.region ?_
                refine SOps.val (v := .bool (x35 == 0)) rfl (wantN rfl) (fun _ => by kernel_rfl) ?_
                refine SOps.val (v := .bool (x35 == 0)) rfl (wantN rfl) (fun _ => by kernel_rfl) ?_
                refine SOps.nil ?_
                by_cases c43 : x35 = 0
                · replace h := h.1 c43
                  have dc43 : (x35 == 0) = true := (beq_iff_eq.mpr c43)
                  refine SW.cond_t (t := (x35 == 0)) rfl dc43 ?_
                  refine SW.region ?_
                  refine SOps.val (v := .int .i64 x41) rfl (wantN rfl) (fun _ => by kernel_rfl) ?_
                  refine SOps.val (v := .int .i64 x30) rfl (wantN rfl) (fun _ => by kernel_rfl) ?_
                  refine SOps.val (v := .int .i64 (w64 (x41 - x30))) rfl (wantN rfl) (fun _ => by kernel_rfl) ?_
                  refine SOps.enter rfl (wantN rfl) (fun _ => by kernel_rfl) (octet_PutTurned.sound F (w64 (x41 - x30)) H _ h) ?_
                  clear h
                  rintro v H46 ⟨s44, e45, rfl, h⟩
                  refine SOps.val (v := .tuple #[.string s44, errV e45]) rfl (wantN rfl) (fun _ => by kernel_rfl) ?_
                  refine SOps.val (v := .string s44) rfl (wantN rfl) (fun _ => by kernel_rfl) ?_
                  refine SOps.val (v := errV e45) rfl (wantN rfl) (fun _ => by kernel_rfl) ?_
                  refine SOps.val (v := .string s44) rfl (wantN rfl) (fun _ => by kernel_rfl) ?_
                  refine SOps.nil ?_
                  exact ⟨_, x30, l31, s32, s44, l33, x34, x35, Fr.upds_self _ _ ⟨rfl, rfl, rfl, rfl, rfl, rfl, rfl, trivial⟩, h⟩
                · replace h := h.2 c43
                  have dc43 : (x35 == 0) = false := (beq_eq_false_iff_ne.mpr c43)
                  refine SW.cond_f (t := (x35 == 0)) rfl dc43 ?_
                  refine SW.region ?_
                  refine SOps.val (v := .int .i64 x41) rfl (wantN rfl) (fun _ => by kernel_rfl) ?_
                  refine SOps.val (v := sv l31) rfl (wantN rfl) (fun _ => by kernel_rfl) ?_
                  refine SOps.val (v := .int .i64 x35) rfl (wantN rfl) (fun _ => by kernel_rfl) ?_
                  refine SOps.val (v := .int .i64 (w64 (x35 - 1))) rfl (wantN rfl) (fun _ => by kernel_rfl) ?_
                  obtain ⟨p54, c55, c56, c57, h⟩ := h
                  refine SOps.val (v := pv (some (p54.1, (p54.2 + (w64 (x35 - 1)).toNat * 1)))) rfl (wantN rfl) (fun w => ev_iaddr rfl Try.underlying36 (size := 1) (by kernel_rfl) rfl rfl c55 c56 c57 w) ?_
                  obtain ⟨x58, c59, h⟩ := h
                  refine SOps.rd (v := .int .i64 x58) rfl (wantN rfl) (fun w hw => ev_load1 rfl (fun _ => by kernel_rfl) (p := (p54.1, (p54.2 + (w64 (x35 - 1)).toNat * 1))) rfl c59 w hw) ?_
                  refine SOps.val (v := .int .i64 (w64 (x41 - x58))) rfl (wantN rfl) (fun _ => by kernel_rfl) ?_
                  refine SOps.val (v := .int .i64 (w64 ((w64 (x41 - x58)) - 1))) rfl (wantN rfl) (fun _ => by kernel_rfl) ?_
                  refine SOps.enter rfl (wantN rfl) (fun _ => by kernel_rfl) (octet_PutShort.sound F (w64 ((w64 (x41 - x58)) - 1)) H _ h) ?_
                  clear h
                  rintro v H62 ⟨s60, e61, rfl, h⟩
                  refine SOps.val (v := .tuple #[.string s60, errV e61]) rfl (wantN rfl) (fun _ => by kernel_rfl) ?_
                  refine SOps.val (v := .string s60) rfl (wantN rfl) (fun _ => by kernel_rfl) ?_
                  refine SOps.val (v := errV e61) rfl (wantN rfl) (fun _ => by kernel_rfl) ?_
                  refine SOps.val (v := .string s60) rfl (wantN rfl) (fun _ => by kernel_rfl) ?_
                  refine SOps.nil ?_
                  exact ⟨_, x30, l31, s32, s60, l33, x34, x35, Fr.upds_self _ _ ⟨rfl, rfl, rfl, rfl, rfl, rfl, rfl, trivial⟩, h⟩
          · replace h := h.2 c36
            have dc36 : (decide (x35 < x34)) = false := (decide_eq_false c36)
            refine SW.cond_f (t := decide (x35 < x34)) rfl dc36 ?_
            refine SW.exit ?_
            refine SW.seq ?_
            refine SW.region ?_
            refine SOps.val (v := .string s32) rfl (wantN rfl) (fun _ => by kernel_rfl) ?_
            refine SOps.val (v := .string s32) rfl (wantN rfl) (fun _ => by kernel_rfl) ?_
            refine SOps.val (v := errV none) rfl (wantN rfl) (fun _ => by kernel_rfl) ?_
            refine SOps.nil ?_
            obtain ⟨Hr, hr, h⟩ := h
            exact SW.ret (retQ.mk (.tuple #[.string s32, errV none]) (res2 rfl rfl rfl) hr ⟨s32, none, rfl, h⟩)
  · replace h := h.2 v6 rfl
    refine SOps.val (v := .bool true) rfl (wantN rfl) (fun w => ev_errNe (e := some v6) rfl Try.underlying24 rfl rfl w) ?_
    refine SOps.nil ?_
    refine SW.cond_t (t := true) rfl rfl ?_
    refine SW.seq ?_
    refine SW.region ?_
    refine SOps.val (v := errV (some v6)) rfl (wantN rfl) (fun _ => by kernel_rfl) ?_
    refine SOps.val (v := .string ByteArray.empty) rfl (wantN rfl) (fun _ => by kernel_rfl) ?_
    refine SOps.val (v := errV (some v6)) rfl (wantN rfl) (fun _ => by kernel_rfl) ?_
    refine SOps.nil ?_
    obtain ⟨Hr, hr, h⟩ := h
    exact SW.ret (retQ.mk (.tuple #[.string ByteArray.empty, errV (some v6)]) (res2 rfl rfl rfl) hr ⟨ByteArray.empty, some v6, rfl, h⟩)

/-! ### lading/gap.count: function 31 -/
def gap_count.wp (F : Nat) (s1 : ByteArray) (x2 : Int) (x3 : Int) (H : SH) (K : Int → Int → Option EV → SH → Prop) : Prop :=
  octet_Short.wp F s1 x2 H (fun x4 x5 e6 H7 =>
    (e6 = none →
      (x4 > x3 →
        gap_wrong.wp F x2 (some (EV.no 4)) H7 (fun e10 H11 =>
          ∃ Hr, SH.le Hr H11 ∧ K 0 x2 e10 Hr
        )
      ) ∧ (¬ (x4 > x3) →
        ∃ Hr, SH.le Hr H7 ∧ K x4 x5 none Hr
      )
    ) ∧ (∀ v8, e6 = some v8 →
      ∃ Hr, SH.le Hr H7 ∧ K 0 x2 (some v8) Hr
    )
  )
set_option maxHeartbeats 8000000 in
theorem gap_count.sound (F : Nat) (s1 : ByteArray) (x2 : Int) (x3 : Int) (H : SH) (K : Int → Int → Option EV → SH → Prop) (h : gap_count.wp F s1 x2 x3 H K) : SCalls Try.prog 31 #[.string s1, .int .i64 x2, .int .i64 x3] H (fun v H' => ∃ (x15 : Int) (x16 : Int) (e17 : Option EV), v = .tuple #[.int .i64 x15, .int .i64 x16, errV e17] ∧ K x15 x16 e17 H') := by
  unfold gap_count.wp at h
  refine SCalls.body Try.func31 rfl (Nat.le_of_ble_eq_true rfl) ?_
  refine SW.seq ?_
  refine SW.region ?_
  refine SOps.val (v := .int .i64 0) rfl (wantN rfl) (fun _ => by kernel_rfl) ?_
  refine SOps.val (v := .int .i64 0) rfl (wantN rfl) (fun _ => by kernel_rfl) ?_
  refine SOps.val (v := errV none) rfl (wantN rfl) (fun _ => by kernel_rfl) ?_
  refine SOps.nil ?_
  refine SW.seq ?_
  refine SW.region ?_
  refine SOps.val (v := .string s1) rfl (wantN rfl) (fun _ => by kernel_rfl) ?_
  refine SOps.val (v := .int .i64 x2) rfl (wantN rfl) (fun _ => by kernel_rfl) ?_
  refine SOps.enter rfl (wantN rfl) (fun _ => by kernel_rfl) (octet_Short.sound F s1 x2 H _ h) ?_
  clear h
  rintro v H7 ⟨x4, x5, e6, rfl, h⟩
  refine SOps.val (v := .tuple #[.int .i64 x4, .int .i64 x5, errV e6]) rfl (wantN rfl) (fun _ => by kernel_rfl) ?_
  refine SOps.val (v := .int .i64 x4) rfl (wantN rfl) (fun _ => by kernel_rfl) ?_
  refine SOps.val (v := .int .i64 x5) rfl (wantN rfl) (fun _ => by kernel_rfl) ?_
  refine SOps.val (v := errV e6) rfl (wantN rfl) (fun _ => by kernel_rfl) ?_
  refine SOps.val (v := .int .i64 x4) rfl (wantN rfl) (fun _ => by kernel_rfl) ?_
  refine SOps.val (v := .int .i64 x5) rfl (wantN rfl) (fun _ => by kernel_rfl) ?_
  refine SOps.val (v := errV e6) rfl (wantN rfl) (fun _ => by kernel_rfl) ?_
  refine SOps.nil ?_
  refine SW.seq ?_
  refine SW.block ?_
  refine SW.seq ?_
  refine SW.region ?_
  refine SOps.val (v := errV e6) rfl (wantN rfl) (fun _ => by kernel_rfl) ?_
  rcases e6 with _ | v8
  · replace h := h.1 rfl
    refine SOps.val (v := .bool false) rfl (wantN rfl) (fun w => ev_errNe (e := none) rfl Try.underlying24 rfl rfl w) ?_
    refine SOps.val (v := .bool false) rfl (wantN rfl) (fun _ => by kernel_rfl) ?_
    refine SOps.nil ?_
    refine SW.cond_f (t := false) rfl rfl ?_
    refine SW.seq ?_
    refine SW.region ?_
    refine SOps.val (v := .int .i64 x4) rfl (wantN rfl) (fun _ => by kernel_rfl) ?_
    refine SOps.val (v := .int .i64 x3) rfl (wantN rfl) (fun _ => by kernel_rfl) ?_
    refine SOps.val (v := .bool (decide (x4 > x3))) rfl (wantN rfl) (fun _ => by kernel_rfl) ?_
    refine SOps.val (v := .bool (decide (x4 > x3))) rfl (wantN rfl) (fun _ => by kernel_rfl) ?_
    refine SOps.nil ?_
    by_cases c9 : x4 > x3
    · replace h := h.1 c9
      have dc9 : (decide (x4 > x3)) = true := (decide_eq_true c9)
      refine SW.cond_t (t := decide (x4 > x3)) rfl dc9 ?_
      refine SW.seq ?_
      refine SW.region ?_
      refine SOps.val (v := .int .i64 x2) rfl (wantN rfl) (fun _ => by kernel_rfl) ?_
      refine SOps.val (v := .int .i64 x2) rfl (wantN rfl) (fun _ => by kernel_rfl) ?_
      refine SOps.val (v := errV (some (EV.no 4))) rfl (wantN rfl) (fun _ => by kernel_rfl) ?_
      refine SOps.enter rfl (wantN rfl) (fun _ => by kernel_rfl) (gap_wrong.sound F x2 (some (EV.no 4)) H7 _ h) ?_
      clear h
      rintro v H11 ⟨e10, rfl, h⟩
      refine SOps.val (v := .int .i64 0) rfl (wantN rfl) (fun _ => by kernel_rfl) ?_
      refine SOps.val (v := .int .i64 x2) rfl (wantN rfl) (fun _ => by kernel_rfl) ?_
      refine SOps.val (v := errV e10) rfl (wantN rfl) (fun _ => by kernel_rfl) ?_
      refine SOps.nil ?_
      obtain ⟨Hr, hr, h⟩ := h
      exact SW.ret (retQ.mk (.tuple #[.int .i64 0, .int .i64 x2, errV e10]) (res3 rfl rfl rfl rfl) hr ⟨0, x2, e10, rfl, h⟩)
    · replace h := h.2 c9
      have dc9 : (decide (x4 > x3)) = false := (decide_eq_false c9)
      refine SW.cond_f (t := decide (x4 > x3)) rfl dc9 ?_
      refine SW.skip ?_
      refine SW.seq ?_
      refine SW.region ?_
      refine SOps.val (v := .int .i64 x4) rfl (wantN rfl) (fun _ => by kernel_rfl) ?_
      refine SOps.val (v := .int .i64 x5) rfl (wantN rfl) (fun _ => by kernel_rfl) ?_
      refine SOps.val (v := .int .i64 x4) rfl (wantN rfl) (fun _ => by kernel_rfl) ?_
      refine SOps.val (v := .int .i64 x5) rfl (wantN rfl) (fun _ => by kernel_rfl) ?_
      refine SOps.val (v := errV none) rfl (wantN rfl) (fun _ => by kernel_rfl) ?_
      refine SOps.nil ?_
      obtain ⟨Hr, hr, h⟩ := h
      exact SW.ret (retQ.mk (.tuple #[.int .i64 x4, .int .i64 x5, errV none]) (res3 rfl rfl rfl rfl) hr ⟨x4, x5, none, rfl, h⟩)
  · replace h := h.2 v8 rfl
    refine SOps.val (v := .bool true) rfl (wantN rfl) (fun w => ev_errNe (e := some v8) rfl Try.underlying24 rfl rfl w) ?_
    refine SOps.val (v := .bool true) rfl (wantN rfl) (fun _ => by kernel_rfl) ?_
    refine SOps.nil ?_
    refine SW.cond_t (t := true) rfl rfl ?_
    refine SW.seq ?_
    refine SW.region ?_
    refine SOps.val (v := .int .i64 x2) rfl (wantN rfl) (fun _ => by kernel_rfl) ?_
    refine SOps.val (v := errV (some v8)) rfl (wantN rfl) (fun _ => by kernel_rfl) ?_
    refine SOps.val (v := .int .i64 0) rfl (wantN rfl) (fun _ => by kernel_rfl) ?_
    refine SOps.val (v := .int .i64 x2) rfl (wantN rfl) (fun _ => by kernel_rfl) ?_
    refine SOps.val (v := errV (some v8)) rfl (wantN rfl) (fun _ => by kernel_rfl) ?_
    refine SOps.nil ?_
    obtain ⟨Hr, hr, h⟩ := h
    exact SW.ret (retQ.mk (.tuple #[.int .i64 0, .int .i64 x2, errV (some v8)]) (res3 rfl rfl rfl rfl) hr ⟨0, x2, some v8, rfl, h⟩)

/-! ### (*lading/gap.reader).step: function 32 -/
def gap_reader_step.j1 (F : Nat) (K : Option EV → SH → Prop) (b29 : Nat) (o30 : Nat) (x31 : Int) (x32 : Int) (e33 : Option EV) (H : SH) : Prop :=
  (e33 = none →
    ∃ (x36 : Int),
    SH.has H (b29, (o30 + 3)) (.int .i64 x36) ∧
    (x31 < (w64 (0 - x36)) →
      ∃ (x39 : Int),
      SH.has H (b29, (o30 + 1)) (.int .i64 x39) ∧
      gap_wrong.wp F x39 (some (EV.no 4)) H (fun e41 H42 =>
        ∃ Hr, SH.le Hr H42 ∧ K e41 Hr
      )
    ) ∧ (¬ (x31 < (w64 (0 - x36))) →
      ∃ (x43 : Int),
      SH.has H (b29, (o30 + 2)) (.int .i64 x43) ∧
      ∃ (x45 : Int),
      SH.has H (b29, (o30 + 3)) (.int .i64 x45) ∧
      (x31 ≥ (w64 (x43 - x45)) →
        ∃ (x48 : Int),
        SH.has H (b29, (o30 + 1)) (.int .i64 x48) ∧
        gap_wrong.wp F x48 (some (EV.no 4)) H (fun e50 H51 =>
          ∃ Hr, SH.le Hr H51 ∧ K e50 Hr
        )
      ) ∧ (¬ (x31 ≥ (w64 (x43 - x45))) →
        ∃ (x52 : Int),
        SH.has H (b29, (o30 + 3)) (.int .i64 x52) ∧
        SH.wrs H (b29, (o30 + 3)) 1 ∧
        SH.wrs (SH.setl H (b29, (o30 + 3)) [.int .i64 (w64 (x52 + x31))]) (b29, (o30 + 1)) 1 ∧
        ∃ Hr, SH.le Hr (SH.setl (SH.setl H (b29, (o30 + 3)) [.int .i64 (w64 (x52 + x31))]) (b29, (o30 + 1)) [.int .i64 x32]) ∧ K none Hr
      )
    )
  ) ∧ (∀ v35, e33 = some v35 →
    ∃ Hr, SH.le Hr H ∧ K (some v35) Hr
  )
def gap_reader_step.j2 (F : Nat) (K : Option EV → SH → Prop) (b14 : Nat) (o15 : Nat) (x16 : Int) (x17 : Int) (e18 : Option EV) (H : SH) : Prop :=
  gap_reader_step.j1 F K b14 o15 x16 x17 e18 H
def gap_reader_step.wp (F : Nat) (p1 : Option (Nat × Nat)) (q2 : Bool) (H : SH) (K : Option EV → SH → Prop) : Prop :=
  (q2 = true →
    (p1 = none →
      False
    ) ∧ (∀ b4 o5, p1 = some (b4, o5) →
      ∃ (s6 : ByteArray),
      SH.has H (b4, o5) (.string s6) ∧
      ∃ (x8 : Int),
      SH.has H (b4, (o5 + 1)) (.int .i64 x8) ∧
      ∃ (x10 : Int) (x11 : Int) (e12 : Option EV),
      octet_Turned.wp F s6 x8 H (fun x10' x11' e12' H' => x10' = x10 ∧ x11' = x11 ∧ e12' = e12 ∧ H' = H) ∧
      gap_reader_step.j2 F K b4 o5 x10 x11 e12 H
    )
  ) ∧ (¬ (q2 = true) →
    (p1 = none →
      False
    ) ∧ (∀ b19 o20, p1 = some (b19, o20) →
      ∃ (s21 : ByteArray),
      SH.has H (b19, o20) (.string s21) ∧
      ∃ (x23 : Int),
      SH.has H (b19, (o20 + 1)) (.int .i64 x23) ∧
      ∃ (x25 : Int) (x26 : Int) (e27 : Option EV),
      octet_Short.wp F s21 x23 H (fun x25' x26' e27' H' => x25' = x25 ∧ x26' = x26 ∧ e27' = e27 ∧ H' = H) ∧
      gap_reader_step.j2 F K b19 o20 (w64 (x25 + 1)) x26 e27 H
    )
  )
set_option maxHeartbeats 8000000 in
theorem gap_reader_step.sound (F : Nat) (p1 : Option (Nat × Nat)) (q2 : Bool) (H : SH) (K : Option EV → SH → Prop) (h : gap_reader_step.wp F p1 q2 H K) : SCalls Try.prog 32 #[pv p1, .bool q2] H (fun v H' => ∃ (e58 : Option EV), v = errV e58 ∧ K e58 H') := by
  unfold gap_reader_step.wp at h
  refine SCalls.body Try.func32 rfl (Nat.le_of_ble_eq_true rfl) ?_
  refine SW.seq ?_
  refine SW.region ?_
  refine SOps.val (v := errV none) rfl (wantN rfl) (fun _ => by kernel_rfl) ?_
  refine SOps.nil ?_
  refine SW.seq ?_
  refine SW.region ?_
  refine SOps.val (v := .int .i64 0) rfl (wantN rfl) (fun _ => by kernel_rfl) ?_
  refine SOps.val (v := .int .i64 0) rfl (wantN rfl) (fun _ => by kernel_rfl) ?_
  refine SOps.val (v := errV none) rfl (wantN rfl) (fun _ => by kernel_rfl) ?_
  refine SOps.nil ?_
  refine SW.seqJ (fun fr H => ∃ (g : Fr) (b29 : Nat) (o30 : Nat) (x31 : Int) (x32 : Int) (e33 : Option EV), fr = g.upds [(0, pv (some (b29, o30))), (5, (.int .i64 x31 : Value)), (6, (.int .i64 x32 : Value)), (7, errV e33)] ∧ gap_reader_step.j1 F K b29 o30 x31 x32 e33 H) ?_ ?_
  · clear h
    rintro fr H ⟨g, b29, o30, x31, x32, e33, rfl, h⟩
    unfold gap_reader_step.j1 at h
    refine SW.seq ?_
    refine SW.seq ?_
    refine SW.region ?_
    refine SOps.val (v := errV e33) rfl (wantN rfl) (fun _ => by kernel_rfl) ?_
    rcases e33 with _ | v35
    · replace h := h.1 rfl
      refine SOps.val (v := .bool false) rfl (wantN rfl) (fun w => ev_errNe (e := none) rfl Try.underlying24 rfl rfl w) ?_
      refine SOps.nil ?_
      refine SW.cond_f (t := false) rfl rfl ?_
      refine SW.skip ?_
      refine SW.seq ?_
      refine SW.seq ?_
      refine SW.draw (by kernel_rfl) (by kernel_rfl) ?_
      refine SQ.val (v := .int .i64 x31) rfl (wantN rfl) (fun _ => by kernel_rfl) ?_
      refine SQ.val (v := pv (some (b29, o30))) rfl (wantN rfl) (fun _ => by kernel_rfl) ?_
      refine SQ.val (v := pv (some (b29, o30))) rfl (wantN rfl) (fun _ => by kernel_rfl) ?_
      refine SQ.val (v := pv (some (b29, (o30 + 3)))) rfl (wantN rfl) (fun _ => by kernel_rfl) ?_
      obtain ⟨x36, c37, h⟩ := h
      refine SQ.rd (v := .int .i64 x36) rfl (wantN rfl) (fun w hw => ev_load1 rfl (fun _ => by kernel_rfl) (p := (b29, (o30 + 3))) rfl c37 w hw) ?_
      refine SQ.val (v := .int .i64 (w64 (0 - x36))) rfl (wantN rfl) (fun _ => by kernel_rfl) ?_
      refine SQ.val (v := .bool (decide (x31 < (w64 (0 - x36))))) rfl (wantN rfl) (fun _ => by kernel_rfl) ?_
      refine SQ.val (v := .bool (decide (x31 < (w64 (0 - x36))))) rfl (wantN rfl) (fun _ => by kernel_rfl) ?_
      by_cases c38 : x31 < (w64 (0 - x36))
      · replace h := h.1 c38
        have dc38 : (decide (x31 < (w64 (0 - x36)))) = true := (decide_eq_true c38)
        refine SQ.off rfl (wantX (c := decide (x31 < (w64 (0 - x36)))) rfl rfl rfl dc38) ?_
        refine SQ.off rfl (wantX (c := decide (x31 < (w64 (0 - x36)))) rfl rfl rfl dc38) ?_
        refine SQ.off rfl (wantX (c := decide (x31 < (w64 (0 - x36)))) rfl rfl rfl dc38) ?_
        refine SQ.off rfl (wantX (c := decide (x31 < (w64 (0 - x36)))) rfl rfl rfl dc38) ?_
        refine SQ.off rfl (wantX (c := decide (x31 < (w64 (0 - x36)))) rfl rfl rfl dc38) ?_
        refine SQ.off rfl (wantX (c := decide (x31 < (w64 (0 - x36)))) rfl rfl rfl dc38) ?_
        refine SQ.off rfl (wantX (c := decide (x31 < (w64 (0 - x36)))) rfl rfl rfl dc38) ?_
        refine SQ.off rfl (wantX (c := decide (x31 < (w64 (0 - x36)))) rfl rfl rfl dc38) ?_
        refine SQ.off rfl (wantX (c := decide (x31 < (w64 (0 - x36)))) rfl rfl rfl dc38) ?_
        refine SQ.off rfl (wantX (c := decide (x31 < (w64 (0 - x36)))) rfl rfl rfl dc38) ?_
        refine SQ.off rfl (wantX (c := decide (x31 < (w64 (0 - x36)))) rfl rfl rfl dc38) ?_
        refine SQ.val (v := .bool true) rfl (wantN rfl) (fun w => ev_pickT (v := .bool true) rfl (t := decide (x31 < (w64 (0 - x36)))) rfl dc38 rfl w) ?_
        refine SQ.nil ?_
        refine SW.cond_t (t := true) rfl rfl ?_
        refine SW.seq ?_
        refine SW.region ?_
        refine SOps.val (v := pv (some (b29, o30))) rfl (wantN rfl) (fun _ => by kernel_rfl) ?_
        refine SOps.val (v := pv (some (b29, o30))) rfl (wantN rfl) (fun _ => by kernel_rfl) ?_
        refine SOps.val (v := pv (some (b29, (o30 + 1)))) rfl (wantN rfl) (fun _ => by kernel_rfl) ?_
        obtain ⟨x39, c40, h⟩ := h
        refine SOps.rd (v := .int .i64 x39) rfl (wantN rfl) (fun w hw => ev_load1 rfl (fun _ => by kernel_rfl) (p := (b29, (o30 + 1))) rfl c40 w hw) ?_
        refine SOps.val (v := errV (some (EV.no 4))) rfl (wantN rfl) (fun _ => by kernel_rfl) ?_
        refine SOps.enter rfl (wantN rfl) (fun _ => by kernel_rfl) (gap_wrong.sound F x39 (some (EV.no 4)) H _ h) ?_
        clear h
        rintro v H42 ⟨e41, rfl, h⟩
        refine SOps.val (v := errV e41) rfl (wantN rfl) (fun _ => by kernel_rfl) ?_
        refine SOps.nil ?_
        obtain ⟨Hr, hr, h⟩ := h
        exact SW.ret (retQ.mk (errV e41) (res1 rfl rfl) hr ⟨e41, rfl, h⟩)
      · replace h := h.2 c38
        have dc38 : (decide (x31 < (w64 (0 - x36)))) = false := (decide_eq_false c38)
        refine SQ.val (v := .int .i64 x31) rfl (wantY (c := decide (x31 < (w64 (0 - x36)))) rfl rfl rfl dc38) (fun _ => by kernel_rfl) ?_
        refine SQ.val (v := pv (some (b29, o30))) rfl (wantY (c := decide (x31 < (w64 (0 - x36)))) rfl rfl rfl dc38) (fun _ => by kernel_rfl) ?_
        refine SQ.val (v := pv (some (b29, o30))) rfl (wantY (c := decide (x31 < (w64 (0 - x36)))) rfl rfl rfl dc38) (fun _ => by kernel_rfl) ?_
        refine SQ.val (v := pv (some (b29, (o30 + 2)))) rfl (wantY (c := decide (x31 < (w64 (0 - x36)))) rfl rfl rfl dc38) (fun _ => by kernel_rfl) ?_
        obtain ⟨x43, c44, h⟩ := h
        refine SQ.rd (v := .int .i64 x43) rfl (wantY (c := decide (x31 < (w64 (0 - x36)))) rfl rfl rfl dc38) (fun w hw => ev_load1 rfl (fun _ => by kernel_rfl) (p := (b29, (o30 + 2))) rfl c44 w hw) ?_
        refine SQ.val (v := pv (some (b29, o30))) rfl (wantY (c := decide (x31 < (w64 (0 - x36)))) rfl rfl rfl dc38) (fun _ => by kernel_rfl) ?_
        refine SQ.val (v := pv (some (b29, o30))) rfl (wantY (c := decide (x31 < (w64 (0 - x36)))) rfl rfl rfl dc38) (fun _ => by kernel_rfl) ?_
        refine SQ.val (v := pv (some (b29, (o30 + 3)))) rfl (wantY (c := decide (x31 < (w64 (0 - x36)))) rfl rfl rfl dc38) (fun _ => by kernel_rfl) ?_
        obtain ⟨x45, c46, h⟩ := h
        refine SQ.rd (v := .int .i64 x45) rfl (wantY (c := decide (x31 < (w64 (0 - x36)))) rfl rfl rfl dc38) (fun w hw => ev_load1 rfl (fun _ => by kernel_rfl) (p := (b29, (o30 + 3))) rfl c46 w hw) ?_
        refine SQ.val (v := .int .i64 (w64 (x43 - x45))) rfl (wantY (c := decide (x31 < (w64 (0 - x36)))) rfl rfl rfl dc38) (fun _ => by kernel_rfl) ?_
        refine SQ.val (v := .bool (decide (x31 ≥ (w64 (x43 - x45))))) rfl (wantY (c := decide (x31 < (w64 (0 - x36)))) rfl rfl rfl dc38) (fun _ => by kernel_rfl) ?_
        refine SQ.val (v := .bool (decide (x31 ≥ (w64 (x43 - x45))))) rfl (wantN rfl) (fun w => ev_pickF (v := .bool (decide (x31 ≥ (w64 (x43 - x45))))) rfl (t := decide (x31 < (w64 (0 - x36)))) rfl dc38 rfl w) ?_
        refine SQ.nil ?_
        by_cases c47 : x31 ≥ (w64 (x43 - x45))
        · replace h := h.1 c47
          have dc47 : (decide (x31 ≥ (w64 (x43 - x45)))) = true := (decide_eq_true c47)
          refine SW.cond_t (t := decide (x31 ≥ (w64 (x43 - x45)))) rfl dc47 ?_
          refine SW.seq ?_
          refine SW.region ?_
          refine SOps.val (v := pv (some (b29, o30))) rfl (wantN rfl) (fun _ => by kernel_rfl) ?_
          refine SOps.val (v := pv (some (b29, o30))) rfl (wantN rfl) (fun _ => by kernel_rfl) ?_
          refine SOps.val (v := pv (some (b29, (o30 + 1)))) rfl (wantN rfl) (fun _ => by kernel_rfl) ?_
          obtain ⟨x48, c49, h⟩ := h
          refine SOps.rd (v := .int .i64 x48) rfl (wantN rfl) (fun w hw => ev_load1 rfl (fun _ => by kernel_rfl) (p := (b29, (o30 + 1))) rfl c49 w hw) ?_
          refine SOps.val (v := errV (some (EV.no 4))) rfl (wantN rfl) (fun _ => by kernel_rfl) ?_
          refine SOps.enter rfl (wantN rfl) (fun _ => by kernel_rfl) (gap_wrong.sound F x48 (some (EV.no 4)) H _ h) ?_
          clear h
          rintro v H51 ⟨e50, rfl, h⟩
          refine SOps.val (v := errV e50) rfl (wantN rfl) (fun _ => by kernel_rfl) ?_
          refine SOps.nil ?_
          obtain ⟨Hr, hr, h⟩ := h
          exact SW.ret (retQ.mk (errV e50) (res1 rfl rfl) hr ⟨e50, rfl, h⟩)
        · replace h := h.2 c47
          have dc47 : (decide (x31 ≥ (w64 (x43 - x45)))) = false := (decide_eq_false c47)
          refine SW.cond_f (t := decide (x31 ≥ (w64 (x43 - x45)))) rfl dc47 ?_
          refine SW.skip ?_
          refine SW.seq ?_
          refine SW.region ?_
          refine SOps.val (v := pv (some (b29, o30))) rfl (wantN rfl) (fun _ => by kernel_rfl) ?_
          refine SOps.val (v := pv (some (b29, o30))) rfl (wantN rfl) (fun _ => by kernel_rfl) ?_
          refine SOps.val (v := pv (some (b29, o30))) rfl (wantN rfl) (fun _ => by kernel_rfl) ?_
          refine SOps.val (v := pv (some (b29, o30))) rfl (wantN rfl) (fun _ => by kernel_rfl) ?_
          refine SOps.val (v := pv (some (b29, (o30 + 3)))) rfl (wantN rfl) (fun _ => by kernel_rfl) ?_
          obtain ⟨x52, c53, h⟩ := h
          refine SOps.rd (v := .int .i64 x52) rfl (wantN rfl) (fun w hw => ev_load1 rfl (fun _ => by kernel_rfl) (p := (b29, (o30 + 3))) rfl c53 w hw) ?_
          refine SOps.val (v := .int .i64 x31) rfl (wantN rfl) (fun _ => by kernel_rfl) ?_
          refine SOps.val (v := .int .i64 (w64 (x52 + x31))) rfl (wantN rfl) (fun _ => by kernel_rfl) ?_
          refine SOps.val (v := .int .i64 x32) rfl (wantN rfl) (fun _ => by kernel_rfl) ?_
          refine SOps.val (v := pv (some (b29, o30))) rfl (wantN rfl) (fun _ => by kernel_rfl) ?_
          refine SOps.val (v := pv (some (b29, (o30 + 3)))) rfl (wantN rfl) (fun _ => by kernel_rfl) ?_
          obtain ⟨c54, h⟩ := h
          refine SOps.storeL (p := (b29, (o30 + 3))) (v := .int .i64 (w64 (x52 + x31))) (cs := [.int .i64 (w64 (x52 + x31))]) rfl rfl (wantN rfl) (size := 1) (by kernel_rfl) rfl rfl rfl rfl (by simp [Value.oneCell', errV_one, pv, sv]) c54 ?_
          refine SOps.val (v := pv (some (b29, o30))) rfl (wantN rfl) (fun _ => by kernel_rfl) ?_
          refine SOps.val (v := pv (some (b29, (o30 + 1)))) rfl (wantN rfl) (fun _ => by kernel_rfl) ?_
          obtain ⟨c55, h⟩ := h
          refine SOps.storeL (p := (b29, (o30 + 1))) (v := .int .i64 x32) (cs := [.int .i64 x32]) rfl rfl (wantN rfl) (size := 1) (by kernel_rfl) rfl rfl rfl rfl (by simp [Value.oneCell', errV_one, pv, sv]) c55 ?_
          refine SOps.nil ?_
          refine SW.seq ?_
          refine SW.region ?_
          refine SOps.val (v := errV none) rfl (wantN rfl) (fun _ => by kernel_rfl) ?_
          refine SOps.nil ?_
          obtain ⟨Hr, hr, h⟩ := h
          exact SW.ret (retQ.mk (errV none) (res1 rfl rfl) hr ⟨none, rfl, h⟩)
    · replace h := h.2 v35 rfl
      refine SOps.val (v := .bool true) rfl (wantN rfl) (fun w => ev_errNe (e := some v35) rfl Try.underlying24 rfl rfl w) ?_
      refine SOps.nil ?_
      refine SW.cond_t (t := true) rfl rfl ?_
      refine SW.seq ?_
      refine SW.region ?_
      refine SOps.val (v := errV (some v35)) rfl (wantN rfl) (fun _ => by kernel_rfl) ?_
      refine SOps.val (v := errV (some v35)) rfl (wantN rfl) (fun _ => by kernel_rfl) ?_
      refine SOps.nil ?_
      obtain ⟨Hr, hr, h⟩ := h
      exact SW.ret (retQ.mk (errV (some v35)) (res1 rfl rfl) hr ⟨some v35, rfl, h⟩)
  · skip
    refine SW.blockJ (fun fr H => ∃ (g : Fr) (b14 : Nat) (o15 : Nat) (x16 : Int) (x17 : Int) (e18 : Option EV), fr = g.upds [(0, pv (some (b14, o15))), (5, (.int .i64 x16 : Value)), (6, (.int .i64 x17 : Value)), (7, errV e18)] ∧ gap_reader_step.j2 F K b14 o15 x16 x17 e18 H) ?_ ?_
    · clear h
      rintro fr H ⟨g, b14, o15, x16, x17, e18, rfl, h⟩
      unfold gap_reader_step.j2 at h
      exact ⟨_, b14, o15, x16, x17, e18, Fr.upds_self _ _ ⟨rfl, rfl, rfl, rfl, trivial⟩, h⟩
    · skip
      refine SW.seq ?_
      refine SW.region ?_
      refine SOps.val (v := .bool q2) rfl (wantN rfl) (fun _ => by kernel_rfl) ?_
      refine SOps.val (v := .bool q2) rfl (wantN rfl) (fun _ => by kernel_rfl) ?_
      refine SOps.nil ?_
      by_cases c3 : q2 = true
      · replace h := h.1 c3
        have dc3 : q2 = true := c3
        refine SW.cond_t (t := q2) rfl dc3 ?_
        refine SW.draw (by kernel_rfl) (by kernel_rfl) ?_
        refine SQ.val (v := pv p1) rfl (wantN rfl) (fun _ => by kernel_rfl) ?_
        rcases p1 with _ | ⟨b4, o5⟩
        · replace h := h.1 rfl
          exact h.elim
        · replace h := h.2 b4 o5 rfl
          refine SQ.val (v := pv (some (b4, o5))) rfl (wantN rfl) (fun _ => by kernel_rfl) ?_
          refine SQ.val (v := pv (some (b4, o5))) rfl (wantN rfl) (fun _ => by kernel_rfl) ?_
          obtain ⟨s6, c7, h⟩ := h
          refine SQ.rd (v := .string s6) rfl (wantN rfl) (fun w hw => ev_load1 rfl (fun _ => by kernel_rfl) (p := (b4, o5)) rfl c7 w hw) ?_
          refine SQ.val (v := pv (some (b4, o5))) rfl (wantN rfl) (fun _ => by kernel_rfl) ?_
          refine SQ.val (v := pv (some (b4, o5))) rfl (wantN rfl) (fun _ => by kernel_rfl) ?_
          refine SQ.val (v := pv (some (b4, (o5 + 1)))) rfl (wantN rfl) (fun _ => by kernel_rfl) ?_
          obtain ⟨x8, c9, h⟩ := h
          refine SQ.rd (v := .int .i64 x8) rfl (wantN rfl) (fun w hw => ev_load1 rfl (fun _ => by kernel_rfl) (p := (b4, (o5 + 1))) rfl c9 w hw) ?_
          obtain ⟨x10, x11, e12, c13, h⟩ := h
          refine SQ.enter (v := .tuple #[.int .i64 x10, .int .i64 x11, errV e12]) rfl (wantN rfl) (fun _ => by kernel_rfl) ((octet_Turned.sound F s6 x8 H _ c13).mono (by rintro v H' ⟨_, _, _, rfl, rfl, rfl, rfl, rfl⟩; exact ⟨rfl, rfl⟩)) ?_
          refine SQ.val (v := .tuple #[.int .i64 x10, .int .i64 x11, errV e12]) rfl (wantN rfl) (fun _ => by kernel_rfl) ?_
          refine SQ.val (v := .int .i64 x10) rfl (wantN rfl) (fun _ => by kernel_rfl) ?_
          refine SQ.val (v := .int .i64 x11) rfl (wantN rfl) (fun _ => by kernel_rfl) ?_
          refine SQ.val (v := errV e12) rfl (wantN rfl) (fun _ => by kernel_rfl) ?_
          refine SQ.val (v := .int .i64 x10) rfl (wantN rfl) (fun _ => by kernel_rfl) ?_
          refine SQ.val (v := .int .i64 x11) rfl (wantN rfl) (fun _ => by kernel_rfl) ?_
          refine SQ.val (v := errV e12) rfl (wantN rfl) (fun _ => by kernel_rfl) ?_
          refine SQ.nil ?_
          exact ⟨_, b4, o5, x10, x11, e12, Fr.upds_self _ _ ⟨rfl, rfl, rfl, rfl, trivial⟩, h⟩
      · replace h := h.2 c3
        have dc3 : q2 = false := (Bool.eq_false_iff.mpr c3)
        refine SW.cond_f (t := q2) rfl dc3 ?_
        refine SW.seq ?_
        refine SW.draw (by kernel_rfl) (by kernel_rfl) ?_
        refine SQ.val (v := pv p1) rfl (wantN rfl) (fun _ => by kernel_rfl) ?_
        rcases p1 with _ | ⟨b19, o20⟩
        · replace h := h.1 rfl
          exact h.elim
        · replace h := h.2 b19 o20 rfl
          refine SQ.val (v := pv (some (b19, o20))) rfl (wantN rfl) (fun _ => by kernel_rfl) ?_
          refine SQ.val (v := pv (some (b19, o20))) rfl (wantN rfl) (fun _ => by kernel_rfl) ?_
          obtain ⟨s21, c22, h⟩ := h
          refine SQ.rd (v := .string s21) rfl (wantN rfl) (fun w hw => ev_load1 rfl (fun _ => by kernel_rfl) (p := (b19, o20)) rfl c22 w hw) ?_
          refine SQ.val (v := pv (some (b19, o20))) rfl (wantN rfl) (fun _ => by kernel_rfl) ?_
          refine SQ.val (v := pv (some (b19, o20))) rfl (wantN rfl) (fun _ => by kernel_rfl) ?_
          refine SQ.val (v := pv (some (b19, (o20 + 1)))) rfl (wantN rfl) (fun _ => by kernel_rfl) ?_
          obtain ⟨x23, c24, h⟩ := h
          refine SQ.rd (v := .int .i64 x23) rfl (wantN rfl) (fun w hw => ev_load1 rfl (fun _ => by kernel_rfl) (p := (b19, (o20 + 1))) rfl c24 w hw) ?_
          obtain ⟨x25, x26, e27, c28, h⟩ := h
          refine SQ.enter (v := .tuple #[.int .i64 x25, .int .i64 x26, errV e27]) rfl (wantN rfl) (fun _ => by kernel_rfl) ((octet_Short.sound F s21 x23 H _ c28).mono (by rintro v H' ⟨_, _, _, rfl, rfl, rfl, rfl, rfl⟩; exact ⟨rfl, rfl⟩)) ?_
          refine SQ.val (v := .tuple #[.int .i64 x25, .int .i64 x26, errV e27]) rfl (wantN rfl) (fun _ => by kernel_rfl) ?_
          refine SQ.val (v := .int .i64 x25) rfl (wantN rfl) (fun _ => by kernel_rfl) ?_
          refine SQ.val (v := .int .i64 x26) rfl (wantN rfl) (fun _ => by kernel_rfl) ?_
          refine SQ.val (v := errV e27) rfl (wantN rfl) (fun _ => by kernel_rfl) ?_
          refine SQ.val (v := .int .i64 x25) rfl (wantN rfl) (fun _ => by kernel_rfl) ?_
          refine SQ.val (v := .int .i64 x26) rfl (wantN rfl) (fun _ => by kernel_rfl) ?_
          refine SQ.val (v := errV e27) rfl (wantN rfl) (fun _ => by kernel_rfl) ?_
          refine SQ.nil ?_
          refine SW.region ?_
          refine SOps.val (v := .int .i64 x25) rfl (wantN rfl) (fun _ => by kernel_rfl) ?_
          refine SOps.val (v := .int .i64 (w64 (x25 + 1))) rfl (wantN rfl) (fun _ => by kernel_rfl) ?_
          refine SOps.val (v := .int .i64 (w64 (x25 + 1))) rfl (wantN rfl) (fun _ => by kernel_rfl) ?_
          refine SOps.nil ?_
          exact ⟨_, b19, o20, w64 (x25 + 1), x26, e27, Fr.upds_self _ _ ⟨rfl, rfl, rfl, rfl, trivial⟩, h⟩

/-! ### lading/gap.Get: function 16 -/
def gap_Get.r1 (F : Nat) (K : Sl → Int → Option EV → SH → Prop) (R1 : Int → Nat → Sl → Int → Int → SH → Prop) (x15 : Int) (b16 : Nat) (l17 : Sl) (x18 : Int) (x19 : Int) (H : SH) : Prop :=
  (x19 < x18 →
    gap_reader_step.wp F (some (b16, 0)) (x19 == 0) H (fun e21 H22 =>
      (e21 = none →
        ∃ (x24 : Int),
        SH.has H22 (b16, 3) (.int .i64 x24) ∧
        AppendQ H22 3 1 8 l17 1 [.int .i64 x24] (fun l26 H27 =>
          R1 x15 b16 l26 x18 (w64 (x19 + 1)) H27
        )
      ) ∧ (∀ v23, e21 = some v23 →
        ∃ Hr, SH.le Hr H22 ∧ K Sl.nil x15 (some v23) Hr
      )
    )
  ) ∧ (¬ (x19 < x18) →
    ∃ (x29 : Int),
    SH.has H (b16, 1) (.int .i64 x29) ∧
    ∃ Hr, SH.le Hr H ∧ K l17 x29 none Hr
  )
def gap_Get.l1 (F : Nat) (K : Sl → Int → Option EV → SH → Prop) : Nat → Int → Nat → Sl → Int → Int → SH → Prop
  | 0, _, _, _, _, _, _ => False
  | k + 1, x15, b16, l17, x18, x19, H => gap_Get.r1 F K (gap_Get.l1 F K k) x15 b16 l17 x18 x19 H
def gap_Get.wp (F : Nat) (s1 : ByteArray) (x2 : Int) (x3 : Int) (x4 : Int) (H : SH) (K : Sl → Int → Option EV → SH → Prop) : Prop :=
  gap_may.wp F x3 x4 H (fun e5 H6 =>
    (e5 = none →
      gap_count.wp F s1 x2 x3 H6 (fun x8 x9 e10 H11 =>
        (e10 = none →
          ∀ b13, H11 b13 = none →
          gap_Get.l1 F K F x2 b13 Sl.nil x8 0 (SH.upd H11 b13 ⟨[.string s1, .int .i64 x9, .int .i64 x3, .int .i64 x4], 66, false, 4⟩)
        ) ∧ (∀ v12, e10 = some v12 →
          ∃ Hr, SH.le Hr H11 ∧ K Sl.nil x2 (some v12) Hr
        )
      )
    ) ∧ (∀ v7, e5 = some v7 →
      gap_wrong.wp F x2 (some v7) H6 (fun e37 H38 =>
        ∃ Hr, SH.le Hr H38 ∧ K Sl.nil x2 e37 Hr
      )
    )
  )
set_option maxHeartbeats 8000000 in
theorem gap_Get.sound (F : Nat) (s1 : ByteArray) (x2 : Int) (x3 : Int) (x4 : Int) (H : SH) (K : Sl → Int → Option EV → SH → Prop) (h : gap_Get.wp F s1 x2 x3 x4 H K) : SCalls Try.prog 16 #[.string s1, .int .i64 x2, .int .i64 x3, .int .i64 x4] H (fun v H' => ∃ (l42 : Sl) (x43 : Int) (e44 : Option EV), v = .tuple #[sv l42, .int .i64 x43, errV e44] ∧ K l42 x43 e44 H') := by
  unfold gap_Get.wp at h
  refine SCalls.body Try.func16 rfl (Nat.le_of_ble_eq_true rfl) ?_
  refine SW.seq ?_
  refine SW.region ?_
  refine SOps.val (v := sv Sl.nil) rfl (wantN rfl) (fun _ => by kernel_rfl) ?_
  refine SOps.val (v := .int .i64 0) rfl (wantN rfl) (fun _ => by kernel_rfl) ?_
  refine SOps.val (v := errV none) rfl (wantN rfl) (fun _ => by kernel_rfl) ?_
  refine SOps.nil ?_
  refine SW.seq ?_
  refine SW.seq ?_
  refine SW.region ?_
  refine SOps.val (v := .int .i64 x3) rfl (wantN rfl) (fun _ => by kernel_rfl) ?_
  refine SOps.val (v := .int .i64 x4) rfl (wantN rfl) (fun _ => by kernel_rfl) ?_
  refine SOps.enter rfl (wantN rfl) (fun _ => by kernel_rfl) (gap_may.sound F x3 x4 H _ h) ?_
  clear h
  rintro v H6 ⟨e5, rfl, h⟩
  refine SOps.val (v := errV e5) rfl (wantN rfl) (fun _ => by kernel_rfl) ?_
  refine SOps.nil ?_
  refine SW.seq ?_
  refine SW.region ?_
  refine SOps.val (v := errV e5) rfl (wantN rfl) (fun _ => by kernel_rfl) ?_
  rcases e5 with _ | v7
  · replace h := h.1 rfl
    refine SOps.val (v := .bool false) rfl (wantN rfl) (fun w => ev_errNe (e := none) rfl Try.underlying24 rfl rfl w) ?_
    refine SOps.nil ?_
    refine SW.cond_f (t := false) rfl rfl ?_
    refine SW.skip ?_
    refine SW.seq ?_
    refine SW.region ?_
    refine SOps.val (v := .string s1) rfl (wantN rfl) (fun _ => by kernel_rfl) ?_
    refine SOps.val (v := .int .i64 x2) rfl (wantN rfl) (fun _ => by kernel_rfl) ?_
    refine SOps.val (v := .int .i64 x3) rfl (wantN rfl) (fun _ => by kernel_rfl) ?_
    refine SOps.enter rfl (wantN rfl) (fun _ => by kernel_rfl) (gap_count.sound F s1 x2 x3 H6 _ h) ?_
    clear h
    rintro v H11 ⟨x8, x9, e10, rfl, h⟩
    refine SOps.val (v := .tuple #[.int .i64 x8, .int .i64 x9, errV e10]) rfl (wantN rfl) (fun _ => by kernel_rfl) ?_
    refine SOps.val (v := .int .i64 x8) rfl (wantN rfl) (fun _ => by kernel_rfl) ?_
    refine SOps.val (v := .int .i64 x9) rfl (wantN rfl) (fun _ => by kernel_rfl) ?_
    refine SOps.val (v := errV e10) rfl (wantN rfl) (fun _ => by kernel_rfl) ?_
    refine SOps.val (v := .int .i64 x8) rfl (wantN rfl) (fun _ => by kernel_rfl) ?_
    refine SOps.val (v := .int .i64 x9) rfl (wantN rfl) (fun _ => by kernel_rfl) ?_
    refine SOps.val (v := errV e10) rfl (wantN rfl) (fun _ => by kernel_rfl) ?_
    refine SOps.nil ?_
    refine SW.seq ?_
    refine SW.seq ?_
    refine SW.region ?_
    refine SOps.val (v := errV e10) rfl (wantN rfl) (fun _ => by kernel_rfl) ?_
    rcases e10 with _ | v12
    · replace h := h.1 rfl
      refine SOps.val (v := .bool false) rfl (wantN rfl) (fun w => ev_errNe (e := none) rfl Try.underlying24 rfl rfl w) ?_
      refine SOps.nil ?_
      refine SW.cond_f (t := false) rfl rfl ?_
      refine SW.skip ?_
      refine SW.seq ?_
      refine SW.region ?_
      refine SOps.val (v := .string s1) rfl (wantN rfl) (fun _ => by kernel_rfl) ?_
      refine SOps.val (v := .int .i64 x9) rfl (wantN rfl) (fun _ => by kernel_rfl) ?_
      refine SOps.val (v := .int .i64 x3) rfl (wantN rfl) (fun _ => by kernel_rfl) ?_
      refine SOps.val (v := .int .i64 x4) rfl (wantN rfl) (fun _ => by kernel_rfl) ?_
      refine SOps.val (v := .agg #[.string s1, .int .i64 x9, .int .i64 x3, .int .i64 x4]) rfl (wantN rfl) (fun _ => by kernel_rfl) ?_
      refine SOps.box rfl rfl (wantN rfl) (v := .agg #[.string s1, .int .i64 x9, .int .i64 x3, .int .i64 x4]) rfl (fun b13 c14 => ?_)
      replace h := h b13 c14
      refine SOps.val (v := pv (some (b13, 0))) rfl (wantN rfl) (fun _ => by kernel_rfl) ?_
      refine SOps.nil ?_
      refine SW.seq ?_
      refine SW.region ?_
      refine SOps.val (v := sv Sl.nil) rfl (wantN rfl) (fun _ => by kernel_rfl) ?_
      refine SOps.nil ?_
      refine SW.seq ?_
      refine SW.seq ?_
      refine SW.region ?_
      refine SOps.val (v := .int .i64 x8) rfl (wantN rfl) (fun _ => by kernel_rfl) ?_
      refine SOps.val (v := .int .i64 0) rfl (wantN rfl) (fun _ => by kernel_rfl) ?_
      refine SOps.nil ?_
      refine SW.block ?_
      refine SW.loop (fun k1 fr H => ∃ (g : Fr) (x15 : Int) (b16 : Nat) (l17 : Sl) (x18 : Int) (x19 : Int), fr = g.upds [(1, (.int .i64 x15 : Value)), (15, pv (some (b16, 0))), (16, sv l17), (46, (.int .i64 x18 : Value)), (47, (.int .i64 x19 : Value))] ∧ gap_Get.l1 F K k1 x15 b16 l17 x18 x19 H) F ⟨_, x2, b13, Sl.nil, x8, 0, (Fr.upds_self _ _ ⟨rfl, rfl, rfl, rfl, rfl, trivial⟩), h⟩ ?_
      clear h
      rintro k1 fr H ⟨g, x15, b16, l17, x18, x19, rfl, h⟩
      cases k1 with
      | zero => exact h.elim
      | succ k1 =>
        replace h : gap_Get.r1 F K (gap_Get.l1 F K k1) x15 b16 l17 x18 x19 H := h
        unfold gap_Get.r1 at h
        refine SW.seq ?_
        refine SW.region ?_
        refine SOps.val (v := .bool (decide (x19 < x18))) rfl (wantN rfl) (fun _ => by kernel_rfl) ?_
        refine SOps.nil ?_
        refine SW.seq ?_
        by_cases c20 : x19 < x18
        · replace h := h.1 c20
          have dc20 : (decide (x19 < x18)) = true := (decide_eq_true c20)
          refine SW.cond_t (t := decide (x19 < x18)) rfl dc20 ?_
          refine SW.skip ?_
          refine SW.seq ?_
          refine SW.block ?_
          refine SW.seq ?_
          refine SW.region ?_
          refine SOps.val (v := .int .i64 x19) rfl (wantN rfl) (fun _ => by kernel_rfl) ?_
          refine SOps.val (v := .int .i64 x19) rfl (wantN rfl) (fun _ => by kernel_rfl) ?_
          refine SOps.nil ?_
          refine SW.seq ?_
          refine SW.seq ?_
          refine SW.region ?_
          refine SOps.val (v := pv (some (b16, 0))) rfl (wantN rfl) (fun _ => by kernel_rfl) ?_
          refine SOps.val (v := .int .i64 x19) rfl (wantN rfl) (fun _ => by kernel_rfl) ?_
          refine SOps.val (v := .bool (x19 == 0)) rfl (wantN rfl) (fun _ => by kernel_rfl) ?_
          refine SOps.enter rfl (wantN rfl) (fun _ => by kernel_rfl) (gap_reader_step.sound F (some (b16, 0)) (x19 == 0) H _ h) ?_
          clear h
          rintro v H22 ⟨e21, rfl, h⟩
          refine SOps.val (v := errV e21) rfl (wantN rfl) (fun _ => by kernel_rfl) ?_
          refine SOps.nil ?_
          refine SW.seq ?_
          refine SW.region ?_
          refine SOps.val (v := errV e21) rfl (wantN rfl) (fun _ => by kernel_rfl) ?_
          rcases e21 with _ | v23
          · replace h := h.1 rfl
            refine SOps.val (v := .bool false) rfl (wantN rfl) (fun w => ev_errNe (e := none) rfl Try.underlying24 rfl rfl w) ?_
            refine SOps.nil ?_
            refine SW.cond_f (t := false) rfl rfl ?_
            refine SW.skip ?_
            refine SW.region ?_
            refine SOps.val (v := sv l17) rfl (wantN rfl) (fun _ => by kernel_rfl) ?_
            refine SOps.val (v := pv (some (b16, 0))) rfl (wantN rfl) (fun _ => by kernel_rfl) ?_
            refine SOps.val (v := pv (some (b16, 0))) rfl (wantN rfl) (fun _ => by kernel_rfl) ?_
            refine SOps.val (v := pv (some (b16, 3))) rfl (wantN rfl) (fun _ => by kernel_rfl) ?_
            obtain ⟨x24, c25, h⟩ := h
            refine SOps.rd (v := .int .i64 x24) rfl (wantN rfl) (fun w hw => ev_load1 rfl (fun _ => by kernel_rfl) (p := (b16, 3)) rfl c25 w hw) ?_
            refine SOps.litAppend (E := 3) (z := .int .i64 0) (size := 1) (bytes := 8) (cs := #[.int .i64 x24]) rfl rfl (wantN rfl) (fun _ => by kernel_rfl) rfl rfl (fun _ => wantN rfl) Try.underlying36 Try.underlying36 (by kernel_rfl) rfl rfl (fun _ => rfl) (AppendQ.mono h ?_)
            clear h
            intro l26 H27 h b28
            refine SOps.val (v := sv l26) rfl (wantN rfl) (fun _ => by kernel_rfl) ?_
            refine SOps.nil ?_
            refine SW.region ?_
            refine SOps.val (v := .int .i64 (w64 (x19 + 1))) rfl (wantN rfl) (fun _ => by kernel_rfl) ?_
            refine SOps.val (v := .int .i64 (w64 (x19 + 1))) rfl (wantN rfl) (fun _ => by kernel_rfl) ?_
            refine SOps.nil ?_
            exact ⟨k1, Nat.lt_succ_self k1, _, x15, b16, l26, x18, w64 (x19 + 1), (Fr.upds_self _ _ ⟨rfl, rfl, rfl, rfl, rfl, trivial⟩), h⟩
          · replace h := h.2 v23 rfl
            refine SOps.val (v := .bool true) rfl (wantN rfl) (fun w => ev_errNe (e := some v23) rfl Try.underlying24 rfl rfl w) ?_
            refine SOps.nil ?_
            refine SW.cond_t (t := true) rfl rfl ?_
            refine SW.seq ?_
            refine SW.region ?_
            refine SOps.val (v := .int .i64 x15) rfl (wantN rfl) (fun _ => by kernel_rfl) ?_
            refine SOps.val (v := errV (some v23)) rfl (wantN rfl) (fun _ => by kernel_rfl) ?_
            refine SOps.val (v := sv Sl.nil) rfl (wantN rfl) (fun _ => by kernel_rfl) ?_
            refine SOps.val (v := .int .i64 x15) rfl (wantN rfl) (fun _ => by kernel_rfl) ?_
            refine SOps.val (v := errV (some v23)) rfl (wantN rfl) (fun _ => by kernel_rfl) ?_
            refine SOps.nil ?_
            obtain ⟨Hr, hr, h⟩ := h
            exact SW.ret (retQ.mk (.tuple #[sv Sl.nil, .int .i64 x15, errV (some v23)]) (res3 rfl rfl rfl rfl) hr ⟨Sl.nil, x15, some v23, rfl, h⟩)
        · replace h := h.2 c20
          have dc20 : (decide (x19 < x18)) = false := (decide_eq_false c20)
          refine SW.cond_f (t := decide (x19 < x18)) rfl dc20 ?_
          refine SW.exit ?_
          refine SW.seq ?_
          refine SW.draw (by kernel_rfl) (by kernel_rfl) ?_
          refine SQ.val (v := sv l17) rfl (wantN rfl) (fun _ => by kernel_rfl) ?_
          refine SQ.val (v := pv (some (b16, 0))) rfl (wantN rfl) (fun _ => by kernel_rfl) ?_
          refine SQ.val (v := pv (some (b16, 0))) rfl (wantN rfl) (fun _ => by kernel_rfl) ?_
          refine SQ.val (v := pv (some (b16, 1))) rfl (wantN rfl) (fun _ => by kernel_rfl) ?_
          obtain ⟨x29, c30, h⟩ := h
          refine SQ.rd (v := .int .i64 x29) rfl (wantN rfl) (fun w hw => ev_load1 rfl (fun _ => by kernel_rfl) (p := (b16, 1)) rfl c30 w hw) ?_
          refine SQ.val (v := sv l17) rfl (wantN rfl) (fun _ => by kernel_rfl) ?_
          refine SQ.val (v := .int .i64 x29) rfl (wantN rfl) (fun _ => by kernel_rfl) ?_
          refine SQ.val (v := errV none) rfl (wantN rfl) (fun _ => by kernel_rfl) ?_
          refine SQ.nil ?_
          obtain ⟨Hr, hr, h⟩ := h
          exact SW.ret (retQ.mk (.tuple #[sv l17, .int .i64 x29, errV none]) (res3 rfl rfl rfl rfl) hr ⟨l17, x29, none, rfl, h⟩)
    · replace h := h.2 v12 rfl
      refine SOps.val (v := .bool true) rfl (wantN rfl) (fun w => ev_errNe (e := some v12) rfl Try.underlying24 rfl rfl w) ?_
      refine SOps.nil ?_
      refine SW.cond_t (t := true) rfl rfl ?_
      refine SW.seq ?_
      refine SW.region ?_
      refine SOps.val (v := .int .i64 x2) rfl (wantN rfl) (fun _ => by kernel_rfl) ?_
      refine SOps.val (v := errV (some v12)) rfl (wantN rfl) (fun _ => by kernel_rfl) ?_
      refine SOps.val (v := sv Sl.nil) rfl (wantN rfl) (fun _ => by kernel_rfl) ?_
      refine SOps.val (v := .int .i64 x2) rfl (wantN rfl) (fun _ => by kernel_rfl) ?_
      refine SOps.val (v := errV (some v12)) rfl (wantN rfl) (fun _ => by kernel_rfl) ?_
      refine SOps.nil ?_
      obtain ⟨Hr, hr, h⟩ := h
      exact SW.ret (retQ.mk (.tuple #[sv Sl.nil, .int .i64 x2, errV (some v12)]) (res3 rfl rfl rfl rfl) hr ⟨Sl.nil, x2, some v12, rfl, h⟩)
  · replace h := h.2 v7 rfl
    refine SOps.val (v := .bool true) rfl (wantN rfl) (fun w => ev_errNe (e := some v7) rfl Try.underlying24 rfl rfl w) ?_
    refine SOps.nil ?_
    refine SW.cond_t (t := true) rfl rfl ?_
    refine SW.seq ?_
    refine SW.region ?_
    refine SOps.val (v := .int .i64 x2) rfl (wantN rfl) (fun _ => by kernel_rfl) ?_
    refine SOps.val (v := .int .i64 x2) rfl (wantN rfl) (fun _ => by kernel_rfl) ?_
    refine SOps.val (v := errV (some v7)) rfl (wantN rfl) (fun _ => by kernel_rfl) ?_
    refine SOps.enter rfl (wantN rfl) (fun _ => by kernel_rfl) (gap_wrong.sound F x2 (some v7) H6 _ h) ?_
    clear h
    rintro v H38 ⟨e37, rfl, h⟩
    refine SOps.val (v := sv Sl.nil) rfl (wantN rfl) (fun _ => by kernel_rfl) ?_
    refine SOps.val (v := .int .i64 x2) rfl (wantN rfl) (fun _ => by kernel_rfl) ?_
    refine SOps.val (v := errV e37) rfl (wantN rfl) (fun _ => by kernel_rfl) ?_
    refine SOps.nil ?_
    obtain ⟨Hr, hr, h⟩ := h
    exact SW.ret (retQ.mk (.tuple #[sv Sl.nil, .int .i64 x2, errV e37]) (res3 rfl rfl rfl rfl) hr ⟨Sl.nil, x2, e37, rfl, h⟩)

/-! ### lading/gap.nodesFit: function 34 -/
def gap_nodesFit.wp (F : Nat) (x1 : Int) (x2 : Int) (H : SH) (K : Option EV → SH → Prop) : Prop :=
  (x2 < 0 →
    gap_wrong.wp F x1 (some (EV.no 1)) H (fun e4 H5 =>
      ∃ Hr, SH.le Hr H5 ∧ K e4 Hr
    )
  ) ∧ (¬ (x2 < 0) →
    (x2 > 4096 →
      gap_wrong.wp F x1 (some (EV.no 1)) H (fun e7 H8 =>
        ∃ Hr, SH.le Hr H8 ∧ K e7 Hr
      )
    ) ∧ (¬ (x2 > 4096) →
      ∃ Hr, SH.le Hr H ∧ K none Hr
    )
  )
set_option maxHeartbeats 8000000 in
theorem gap_nodesFit.sound (F : Nat) (x1 : Int) (x2 : Int) (H : SH) (K : Option EV → SH → Prop) (h : gap_nodesFit.wp F x1 x2 H K) : SCalls Try.prog 34 #[.int .i64 x1, .int .i64 x2] H (fun v H' => ∃ (e10 : Option EV), v = errV e10 ∧ K e10 H') := by
  unfold gap_nodesFit.wp at h
  refine SCalls.body Try.func34 rfl (Nat.le_of_ble_eq_true rfl) ?_
  refine SW.seq ?_
  refine SW.region ?_
  refine SOps.val (v := errV none) rfl (wantN rfl) (fun _ => by kernel_rfl) ?_
  refine SOps.nil ?_
  refine SW.seq ?_
  refine SW.seq ?_
  refine SW.region ?_
  refine SOps.val (v := .int .i64 x2) rfl (wantN rfl) (fun _ => by kernel_rfl) ?_
  refine SOps.val (v := .bool (decide (x2 < 0))) rfl (wantN rfl) (fun _ => by kernel_rfl) ?_
  refine SOps.val (v := .bool (decide (x2 < 0))) rfl (wantN rfl) (fun _ => by kernel_rfl) ?_
  by_cases c3 : x2 < 0
  · replace h := h.1 c3
    have dc3 : (decide (x2 < 0)) = true := (decide_eq_true c3)
    refine SOps.off rfl (wantX (c := decide (x2 < 0)) rfl rfl rfl dc3) ?_
    refine SOps.off rfl (wantX (c := decide (x2 < 0)) rfl rfl rfl dc3) ?_
    refine SOps.val (v := .bool true) rfl (wantN rfl) (fun w => ev_pickT (v := .bool true) rfl (t := decide (x2 < 0)) rfl dc3 rfl w) ?_
    refine SOps.nil ?_
    refine SW.cond_t (t := true) rfl rfl ?_
    refine SW.seq ?_
    refine SW.region ?_
    refine SOps.val (v := .int .i64 x1) rfl (wantN rfl) (fun _ => by kernel_rfl) ?_
    refine SOps.val (v := errV (some (EV.no 1))) rfl (wantN rfl) (fun _ => by kernel_rfl) ?_
    refine SOps.enter rfl (wantN rfl) (fun _ => by kernel_rfl) (gap_wrong.sound F x1 (some (EV.no 1)) H _ h) ?_
    clear h
    rintro v H5 ⟨e4, rfl, h⟩
    refine SOps.val (v := errV e4) rfl (wantN rfl) (fun _ => by kernel_rfl) ?_
    refine SOps.nil ?_
    obtain ⟨Hr, hr, h⟩ := h
    exact SW.ret (retQ.mk (errV e4) (res1 rfl rfl) hr ⟨e4, rfl, h⟩)
  · replace h := h.2 c3
    have dc3 : (decide (x2 < 0)) = false := (decide_eq_false c3)
    refine SOps.val (v := .int .i64 x2) rfl (wantY (c := decide (x2 < 0)) rfl rfl rfl dc3) (fun _ => by kernel_rfl) ?_
    refine SOps.val (v := .bool (decide (x2 > 4096))) rfl (wantY (c := decide (x2 < 0)) rfl rfl rfl dc3) (fun _ => by kernel_rfl) ?_
    refine SOps.val (v := .bool (decide (x2 > 4096))) rfl (wantN rfl) (fun w => ev_pickF (v := .bool (decide (x2 > 4096))) rfl (t := decide (x2 < 0)) rfl dc3 rfl w) ?_
    refine SOps.nil ?_
    by_cases c6 : x2 > 4096
    · replace h := h.1 c6
      have dc6 : (decide (x2 > 4096)) = true := (decide_eq_true c6)
      refine SW.cond_t (t := decide (x2 > 4096)) rfl dc6 ?_
      refine SW.seq ?_
      refine SW.region ?_
      refine SOps.val (v := .int .i64 x1) rfl (wantN rfl) (fun _ => by kernel_rfl) ?_
      refine SOps.val (v := errV (some (EV.no 1))) rfl (wantN rfl) (fun _ => by kernel_rfl) ?_
      refine SOps.enter rfl (wantN rfl) (fun _ => by kernel_rfl) (gap_wrong.sound F x1 (some (EV.no 1)) H _ h) ?_
      clear h
      rintro v H8 ⟨e7, rfl, h⟩
      refine SOps.val (v := errV e7) rfl (wantN rfl) (fun _ => by kernel_rfl) ?_
      refine SOps.nil ?_
      obtain ⟨Hr, hr, h⟩ := h
      exact SW.ret (retQ.mk (errV e7) (res1 rfl rfl) hr ⟨e7, rfl, h⟩)
    · replace h := h.2 c6
      have dc6 : (decide (x2 > 4096)) = false := (decide_eq_false c6)
      refine SW.cond_f (t := decide (x2 > 4096)) rfl dc6 ?_
      refine SW.skip ?_
      refine SW.seq ?_
      refine SW.region ?_
      refine SOps.val (v := errV none) rfl (wantN rfl) (fun _ => by kernel_rfl) ?_
      refine SOps.nil ?_
      obtain ⟨Hr, hr, h⟩ := h
      exact SW.ret (retQ.mk (errV none) (res1 rfl rfl) hr ⟨none, rfl, h⟩)

/-! ### lading/gap.Count: function 18 -/
def gap_Count.wp (F : Nat) (s1 : ByteArray) (x2 : Int) (x3 : Int) (H : SH) (K : Int → Option EV → SH → Prop) : Prop :=
  gap_nodesFit.wp F x2 x3 H (fun e4 H5 =>
    (e4 = none →
      gap_count.wp F s1 x2 x3 H5 (fun x7 x8 e9 H10 =>
        ∃ Hr, SH.le Hr H10 ∧ K x7 e9 Hr
      )
    ) ∧ (∀ v6, e4 = some v6 →
      ∃ Hr, SH.le Hr H5 ∧ K 0 (some v6) Hr
    )
  )
set_option maxHeartbeats 8000000 in
theorem gap_Count.sound (F : Nat) (s1 : ByteArray) (x2 : Int) (x3 : Int) (H : SH) (K : Int → Option EV → SH → Prop) (h : gap_Count.wp F s1 x2 x3 H K) : SCalls Try.prog 18 #[.string s1, .int .i64 x2, .int .i64 x3] H (fun v H' => ∃ (x13 : Int) (e14 : Option EV), v = .tuple #[.int .i64 x13, errV e14] ∧ K x13 e14 H') := by
  unfold gap_Count.wp at h
  refine SCalls.body Try.func18 rfl (Nat.le_of_ble_eq_true rfl) ?_
  refine SW.seq ?_
  refine SW.region ?_
  refine SOps.val (v := .int .i64 0) rfl (wantN rfl) (fun _ => by kernel_rfl) ?_
  refine SOps.val (v := errV none) rfl (wantN rfl) (fun _ => by kernel_rfl) ?_
  refine SOps.nil ?_
  refine SW.seq ?_
  refine SW.seq ?_
  refine SW.region ?_
  refine SOps.val (v := .int .i64 x2) rfl (wantN rfl) (fun _ => by kernel_rfl) ?_
  refine SOps.val (v := .int .i64 x3) rfl (wantN rfl) (fun _ => by kernel_rfl) ?_
  refine SOps.enter rfl (wantN rfl) (fun _ => by kernel_rfl) (gap_nodesFit.sound F x2 x3 H _ h) ?_
  clear h
  rintro v H5 ⟨e4, rfl, h⟩
  refine SOps.val (v := errV e4) rfl (wantN rfl) (fun _ => by kernel_rfl) ?_
  refine SOps.nil ?_
  refine SW.seq ?_
  refine SW.region ?_
  refine SOps.val (v := errV e4) rfl (wantN rfl) (fun _ => by kernel_rfl) ?_
  rcases e4 with _ | v6
  · replace h := h.1 rfl
    refine SOps.val (v := .bool false) rfl (wantN rfl) (fun w => ev_errNe (e := none) rfl Try.underlying24 rfl rfl w) ?_
    refine SOps.nil ?_
    refine SW.cond_f (t := false) rfl rfl ?_
    refine SW.skip ?_
    refine SW.seq ?_
    refine SW.region ?_
    refine SOps.val (v := .string s1) rfl (wantN rfl) (fun _ => by kernel_rfl) ?_
    refine SOps.val (v := .int .i64 x2) rfl (wantN rfl) (fun _ => by kernel_rfl) ?_
    refine SOps.val (v := .int .i64 x3) rfl (wantN rfl) (fun _ => by kernel_rfl) ?_
    refine SOps.enter rfl (wantN rfl) (fun _ => by kernel_rfl) (gap_count.sound F s1 x2 x3 H5 _ h) ?_
    clear h
    rintro v H10 ⟨x7, x8, e9, rfl, h⟩
    refine SOps.val (v := .tuple #[.int .i64 x7, .int .i64 x8, errV e9]) rfl (wantN rfl) (fun _ => by kernel_rfl) ?_
    refine SOps.val (v := .int .i64 x7) rfl (wantN rfl) (fun _ => by kernel_rfl) ?_
    refine SOps.val (v := .int .i64 x8) rfl (wantN rfl) (fun _ => by kernel_rfl) ?_
    refine SOps.val (v := errV e9) rfl (wantN rfl) (fun _ => by kernel_rfl) ?_
    refine SOps.val (v := .int .i64 x7) rfl (wantN rfl) (fun _ => by kernel_rfl) ?_
    refine SOps.val (v := .int .i64 x8) rfl (wantN rfl) (fun _ => by kernel_rfl) ?_
    refine SOps.val (v := errV e9) rfl (wantN rfl) (fun _ => by kernel_rfl) ?_
    refine SOps.nil ?_
    refine SW.seq ?_
    refine SW.region ?_
    refine SOps.val (v := .int .i64 x7) rfl (wantN rfl) (fun _ => by kernel_rfl) ?_
    refine SOps.val (v := errV e9) rfl (wantN rfl) (fun _ => by kernel_rfl) ?_
    refine SOps.val (v := .int .i64 x7) rfl (wantN rfl) (fun _ => by kernel_rfl) ?_
    refine SOps.val (v := errV e9) rfl (wantN rfl) (fun _ => by kernel_rfl) ?_
    refine SOps.nil ?_
    obtain ⟨Hr, hr, h⟩ := h
    exact SW.ret (retQ.mk (.tuple #[.int .i64 x7, errV e9]) (res2 rfl rfl rfl) hr ⟨x7, e9, rfl, h⟩)
  · replace h := h.2 v6 rfl
    refine SOps.val (v := .bool true) rfl (wantN rfl) (fun w => ev_errNe (e := some v6) rfl Try.underlying24 rfl rfl w) ?_
    refine SOps.nil ?_
    refine SW.cond_t (t := true) rfl rfl ?_
    refine SW.seq ?_
    refine SW.region ?_
    refine SOps.val (v := errV (some v6)) rfl (wantN rfl) (fun _ => by kernel_rfl) ?_
    refine SOps.val (v := .int .i64 0) rfl (wantN rfl) (fun _ => by kernel_rfl) ?_
    refine SOps.val (v := errV (some v6)) rfl (wantN rfl) (fun _ => by kernel_rfl) ?_
    refine SOps.nil ?_
    obtain ⟨Hr, hr, h⟩ := h
    exact SW.ret (retQ.mk (.tuple #[.int .i64 0, errV (some v6)]) (res2 rfl rfl rfl) hr ⟨0, some v6, rfl, h⟩)

/-! ### lading/gap.Skip: function 19 -/
def gap_Skip.r1 (F : Nat) (K : Int → Option EV → SH → Prop) (R1 : ByteArray → Int → Int → Option EV → Int → Int → SH → Prop) (s11 : ByteArray) (x12 : Int) (x13 : Int) (e14 : Option EV) (x15 : Int) (x16 : Int) (H : SH) : Prop :=
  (x16 < x15 →
    octet_Short.wp F s11 x13 H (fun x18 x19 e20 H21 =>
      (e20 = none →
        R1 s11 x12 x19 none x15 (w64 (x16 + 1)) H21
      ) ∧ (∀ v22, e20 = some v22 →
        ∃ Hr, SH.le Hr H21 ∧ K x12 (some v22) Hr
      )
    )
  ) ∧ (¬ (x16 < x15) →
    (e14 = none →
      ∃ Hr, SH.le Hr H ∧ K x13 none Hr
    ) ∧ (∀ v23, e14 = some v23 →
      ∃ Hr, SH.le Hr H ∧ K x12 (some v23) Hr
    )
  )
def gap_Skip.l1 (F : Nat) (K : Int → Option EV → SH → Prop) : Nat → ByteArray → Int → Int → Option EV → Int → Int → SH → Prop
  | 0, _, _, _, _, _, _, _ => False
  | k + 1, s11, x12, x13, e14, x15, x16, H => gap_Skip.r1 F K (gap_Skip.l1 F K k) s11 x12 x13 e14 x15 x16 H
def gap_Skip.wp (F : Nat) (s1 : ByteArray) (x2 : Int) (x3 : Int) (H : SH) (K : Int → Option EV → SH → Prop) : Prop :=
  gap_nodesFit.wp F x2 x3 H (fun e4 H5 =>
    (e4 = none →
      gap_count.wp F s1 x2 x3 H5 (fun x7 x8 e9 H10 =>
        gap_Skip.l1 F K F s1 x2 x8 e9 x7 0 H10
      )
    ) ∧ (∀ v6, e4 = some v6 →
      ∃ Hr, SH.le Hr H5 ∧ K x2 (some v6) Hr
    )
  )
set_option maxHeartbeats 8000000 in
theorem gap_Skip.sound (F : Nat) (s1 : ByteArray) (x2 : Int) (x3 : Int) (H : SH) (K : Int → Option EV → SH → Prop) (h : gap_Skip.wp F s1 x2 x3 H K) : SCalls Try.prog 19 #[.string s1, .int .i64 x2, .int .i64 x3] H (fun v H' => ∃ (x30 : Int) (e31 : Option EV), v = .tuple #[.int .i64 x30, errV e31] ∧ K x30 e31 H') := by
  unfold gap_Skip.wp at h
  refine SCalls.body Try.func19 rfl (Nat.le_of_ble_eq_true rfl) ?_
  refine SW.seq ?_
  refine SW.region ?_
  refine SOps.val (v := .int .i64 0) rfl (wantN rfl) (fun _ => by kernel_rfl) ?_
  refine SOps.val (v := errV none) rfl (wantN rfl) (fun _ => by kernel_rfl) ?_
  refine SOps.nil ?_
  refine SW.seq ?_
  refine SW.seq ?_
  refine SW.region ?_
  refine SOps.val (v := .int .i64 x2) rfl (wantN rfl) (fun _ => by kernel_rfl) ?_
  refine SOps.val (v := .int .i64 x3) rfl (wantN rfl) (fun _ => by kernel_rfl) ?_
  refine SOps.enter rfl (wantN rfl) (fun _ => by kernel_rfl) (gap_nodesFit.sound F x2 x3 H _ h) ?_
  clear h
  rintro v H5 ⟨e4, rfl, h⟩
  refine SOps.val (v := errV e4) rfl (wantN rfl) (fun _ => by kernel_rfl) ?_
  refine SOps.nil ?_
  refine SW.seq ?_
  refine SW.region ?_
  refine SOps.val (v := errV e4) rfl (wantN rfl) (fun _ => by kernel_rfl) ?_
  rcases e4 with _ | v6
  · replace h := h.1 rfl
    refine SOps.val (v := .bool false) rfl (wantN rfl) (fun w => ev_errNe (e := none) rfl Try.underlying24 rfl rfl w) ?_
    refine SOps.nil ?_
    refine SW.cond_f (t := false) rfl rfl ?_
    refine SW.skip ?_
    refine SW.seq ?_
    refine SW.region ?_
    refine SOps.val (v := .string s1) rfl (wantN rfl) (fun _ => by kernel_rfl) ?_
    refine SOps.val (v := .int .i64 x2) rfl (wantN rfl) (fun _ => by kernel_rfl) ?_
    refine SOps.val (v := .int .i64 x3) rfl (wantN rfl) (fun _ => by kernel_rfl) ?_
    refine SOps.enter rfl (wantN rfl) (fun _ => by kernel_rfl) (gap_count.sound F s1 x2 x3 H5 _ h) ?_
    clear h
    rintro v H10 ⟨x7, x8, e9, rfl, h⟩
    refine SOps.val (v := .tuple #[.int .i64 x7, .int .i64 x8, errV e9]) rfl (wantN rfl) (fun _ => by kernel_rfl) ?_
    refine SOps.val (v := .int .i64 x7) rfl (wantN rfl) (fun _ => by kernel_rfl) ?_
    refine SOps.val (v := .int .i64 x8) rfl (wantN rfl) (fun _ => by kernel_rfl) ?_
    refine SOps.val (v := errV e9) rfl (wantN rfl) (fun _ => by kernel_rfl) ?_
    refine SOps.val (v := .int .i64 x7) rfl (wantN rfl) (fun _ => by kernel_rfl) ?_
    refine SOps.val (v := .int .i64 x8) rfl (wantN rfl) (fun _ => by kernel_rfl) ?_
    refine SOps.val (v := errV e9) rfl (wantN rfl) (fun _ => by kernel_rfl) ?_
    refine SOps.nil ?_
    refine SW.seq ?_
    refine SW.seq ?_
    refine SW.region ?_
    refine SOps.val (v := .int .i64 x7) rfl (wantN rfl) (fun _ => by kernel_rfl) ?_
    refine SOps.val (v := .int .i64 0) rfl (wantN rfl) (fun _ => by kernel_rfl) ?_
    refine SOps.nil ?_
    refine SW.block ?_
    refine SW.loop (fun k1 fr H => ∃ (g : Fr) (s11 : ByteArray) (x12 : Int) (x13 : Int) (e14 : Option EV) (x15 : Int) (x16 : Int), fr = g.upds [(0, (.string s11 : Value)), (1, (.int .i64 x12 : Value)), (10, (.int .i64 x13 : Value)), (11, errV e14), (27, (.int .i64 x15 : Value)), (28, (.int .i64 x16 : Value))] ∧ gap_Skip.l1 F K k1 s11 x12 x13 e14 x15 x16 H) F ⟨_, s1, x2, x8, e9, x7, 0, (Fr.upds_self _ _ ⟨rfl, rfl, rfl, rfl, rfl, rfl, trivial⟩), h⟩ ?_
    clear h
    rintro k1 fr H ⟨g, s11, x12, x13, e14, x15, x16, rfl, h⟩
    cases k1 with
    | zero => exact h.elim
    | succ k1 =>
      replace h : gap_Skip.r1 F K (gap_Skip.l1 F K k1) s11 x12 x13 e14 x15 x16 H := h
      unfold gap_Skip.r1 at h
      refine SW.seq ?_
      refine SW.region ?_
      refine SOps.val (v := .bool (decide (x16 < x15))) rfl (wantN rfl) (fun _ => by kernel_rfl) ?_
      refine SOps.nil ?_
      refine SW.seq ?_
      by_cases c17 : x16 < x15
      · replace h := h.1 c17
        have dc17 : (decide (x16 < x15)) = true := (decide_eq_true c17)
        refine SW.cond_t (t := decide (x16 < x15)) rfl dc17 ?_
        refine SW.skip ?_
        refine SW.seq ?_
        refine SW.block ?_
        refine SW.seq ?_
        refine SW.region ?_
        refine SOps.val (v := .string s11) rfl (wantN rfl) (fun _ => by kernel_rfl) ?_
        refine SOps.val (v := .int .i64 x13) rfl (wantN rfl) (fun _ => by kernel_rfl) ?_
        refine SOps.enter rfl (wantN rfl) (fun _ => by kernel_rfl) (octet_Short.sound F s11 x13 H _ h) ?_
        clear h
        rintro v H21 ⟨x18, x19, e20, rfl, h⟩
        refine SOps.val (v := .tuple #[.int .i64 x18, .int .i64 x19, errV e20]) rfl (wantN rfl) (fun _ => by kernel_rfl) ?_
        refine SOps.val (v := .int .i64 x18) rfl (wantN rfl) (fun _ => by kernel_rfl) ?_
        refine SOps.val (v := .int .i64 x19) rfl (wantN rfl) (fun _ => by kernel_rfl) ?_
        refine SOps.val (v := errV e20) rfl (wantN rfl) (fun _ => by kernel_rfl) ?_
        refine SOps.val (v := .int .i64 x19) rfl (wantN rfl) (fun _ => by kernel_rfl) ?_
        refine SOps.val (v := errV e20) rfl (wantN rfl) (fun _ => by kernel_rfl) ?_
        refine SOps.nil ?_
        refine SW.seq ?_
        refine SW.region ?_
        refine SOps.val (v := errV e20) rfl (wantN rfl) (fun _ => by kernel_rfl) ?_
        rcases e20 with _ | v22
        · replace h := h.1 rfl
          refine SOps.val (v := .bool false) rfl (wantN rfl) (fun w => ev_errNe (e := none) rfl Try.underlying24 rfl rfl w) ?_
          refine SOps.nil ?_
          refine SW.cond_f (t := false) rfl rfl ?_
          refine SW.skip ?_
          refine SW.region ?_
          refine SOps.val (v := .int .i64 (w64 (x16 + 1))) rfl (wantN rfl) (fun _ => by kernel_rfl) ?_
          refine SOps.val (v := .int .i64 (w64 (x16 + 1))) rfl (wantN rfl) (fun _ => by kernel_rfl) ?_
          refine SOps.nil ?_
          exact ⟨k1, Nat.lt_succ_self k1, _, s11, x12, x19, none, x15, w64 (x16 + 1), (Fr.upds_self _ _ ⟨rfl, rfl, rfl, rfl, rfl, rfl, trivial⟩), h⟩
        · replace h := h.2 v22 rfl
          refine SOps.val (v := .bool true) rfl (wantN rfl) (fun w => ev_errNe (e := some v22) rfl Try.underlying24 rfl rfl w) ?_
          refine SOps.nil ?_
          refine SW.cond_t (t := true) rfl rfl ?_
          refine SW.seq ?_
          refine SW.region ?_
          refine SOps.val (v := .int .i64 x12) rfl (wantN rfl) (fun _ => by kernel_rfl) ?_
          refine SOps.val (v := errV (some v22)) rfl (wantN rfl) (fun _ => by kernel_rfl) ?_
          refine SOps.val (v := .int .i64 x12) rfl (wantN rfl) (fun _ => by kernel_rfl) ?_
          refine SOps.val (v := errV (some v22)) rfl (wantN rfl) (fun _ => by kernel_rfl) ?_
          refine SOps.nil ?_
          obtain ⟨Hr, hr, h⟩ := h
          exact SW.ret (retQ.mk (.tuple #[.int .i64 x12, errV (some v22)]) (res2 rfl rfl rfl) hr ⟨x12, some v22, rfl, h⟩)
      · replace h := h.2 c17
        have dc17 : (decide (x16 < x15)) = false := (decide_eq_false c17)
        refine SW.cond_f (t := decide (x16 < x15)) rfl dc17 ?_
        refine SW.exit ?_
        refine SW.seq ?_
        refine SW.seq ?_
        refine SW.region ?_
        refine SOps.val (v := errV e14) rfl (wantN rfl) (fun _ => by kernel_rfl) ?_
        rcases e14 with _ | v23
        · replace h := h.1 rfl
          refine SOps.val (v := .bool false) rfl (wantN rfl) (fun w => ev_errNe (e := none) rfl Try.underlying24 rfl rfl w) ?_
          refine SOps.nil ?_
          refine SW.cond_f (t := false) rfl rfl ?_
          refine SW.skip ?_
          refine SW.seq ?_
          refine SW.region ?_
          refine SOps.val (v := .int .i64 x13) rfl (wantN rfl) (fun _ => by kernel_rfl) ?_
          refine SOps.val (v := .int .i64 x13) rfl (wantN rfl) (fun _ => by kernel_rfl) ?_
          refine SOps.val (v := errV none) rfl (wantN rfl) (fun _ => by kernel_rfl) ?_
          refine SOps.nil ?_
          obtain ⟨Hr, hr, h⟩ := h
          exact SW.ret (retQ.mk (.tuple #[.int .i64 x13, errV none]) (res2 rfl rfl rfl) hr ⟨x13, none, rfl, h⟩)
        · replace h := h.2 v23 rfl
          refine SOps.val (v := .bool true) rfl (wantN rfl) (fun w => ev_errNe (e := some v23) rfl Try.underlying24 rfl rfl w) ?_
          refine SOps.nil ?_
          refine SW.cond_t (t := true) rfl rfl ?_
          refine SW.seq ?_
          refine SW.region ?_
          refine SOps.val (v := .int .i64 x12) rfl (wantN rfl) (fun _ => by kernel_rfl) ?_
          refine SOps.val (v := errV (some v23)) rfl (wantN rfl) (fun _ => by kernel_rfl) ?_
          refine SOps.val (v := .int .i64 x12) rfl (wantN rfl) (fun _ => by kernel_rfl) ?_
          refine SOps.val (v := errV (some v23)) rfl (wantN rfl) (fun _ => by kernel_rfl) ?_
          refine SOps.nil ?_
          obtain ⟨Hr, hr, h⟩ := h
          exact SW.ret (retQ.mk (.tuple #[.int .i64 x12, errV (some v23)]) (res2 rfl rfl rfl) hr ⟨x12, some v23, rfl, h⟩)
  · replace h := h.2 v6 rfl
    refine SOps.val (v := .bool true) rfl (wantN rfl) (fun w => ev_errNe (e := some v6) rfl Try.underlying24 rfl rfl w) ?_
    refine SOps.nil ?_
    refine SW.cond_t (t := true) rfl rfl ?_
    refine SW.seq ?_
    refine SW.region ?_
    refine SOps.val (v := .int .i64 x2) rfl (wantN rfl) (fun _ => by kernel_rfl) ?_
    refine SOps.val (v := errV (some v6)) rfl (wantN rfl) (fun _ => by kernel_rfl) ?_
    refine SOps.val (v := .int .i64 x2) rfl (wantN rfl) (fun _ => by kernel_rfl) ?_
    refine SOps.val (v := errV (some v6)) rfl (wantN rfl) (fun _ => by kernel_rfl) ?_
    refine SOps.nil ?_
    obtain ⟨Hr, hr, h⟩ := h
    exact SW.ret (retQ.mk (.tuple #[.int .i64 x2, errV (some v6)]) (res2 rfl rfl rfl) hr ⟨x2, some v6, rfl, h⟩)

/-! ### lading/ladingref05.Ints: function 20 -/
def ladingref05_Ints.r1 (F : Nat) (K : Bool → SH → Prop) (R1 : Sl → Sl → Int → SH → Prop) (l4 : Sl) (l5 : Sl) (x6 : Int) (H : SH) : Prop :=
  (x6 < (l4.len : Int) →
    ∃ p8, l4.a = some p8 ∧ 0 ≤ x6 ∧ x6 < (l4.len : Int) ∧
    ∃ (x12 : Int),
    SH.has H (p8.1, (p8.2 + x6.toNat * 1)) (.int .i64 x12) ∧
    ∃ p14, l5.a = some p14 ∧ 0 ≤ x6 ∧ x6 < (l5.len : Int) ∧
    ∃ (x18 : Int),
    SH.has H (p14.1, (p14.2 + x6.toNat * 1)) (.int .i64 x18) ∧
    (x12 ≠ x18 →
      ∃ Hr, SH.le Hr H ∧ K false Hr
    ) ∧ (¬ (x12 ≠ x18) →
      R1 l4 l5 (w64 (x6 + 1)) H
    )
  ) ∧ (¬ (x6 < (l4.len : Int)) →
    ∃ Hr, SH.le Hr H ∧ K true Hr
  )
def ladingref05_Ints.l1 (F : Nat) (K : Bool → SH → Prop) : Nat → Sl → Sl → Int → SH → Prop
  | 0, _, _, _, _ => False
  | k + 1, l4, l5, x6, H => ladingref05_Ints.r1 F K (ladingref05_Ints.l1 F K k) l4 l5 x6 H
def ladingref05_Ints.wp (F : Nat) (l1 : Sl) (l2 : Sl) (H : SH) (K : Bool → SH → Prop) : Prop :=
  ((l1.len : Int) ≠ (l2.len : Int) →
    ∃ Hr, SH.le Hr H ∧ K false Hr
  ) ∧ (¬ ((l1.len : Int) ≠ (l2.len : Int)) →
    ladingref05_Ints.l1 F K F l1 l2 0 H
  )
set_option maxHeartbeats 8000000 in
theorem ladingref05_Ints.sound (F : Nat) (l1 : Sl) (l2 : Sl) (H : SH) (K : Bool → SH → Prop) (h : ladingref05_Ints.wp F l1 l2 H K) : SCalls Try.prog 20 #[sv l1, sv l2] H (fun v H' => ∃ (q24 : Bool), v = .bool q24 ∧ K q24 H') := by
  unfold ladingref05_Ints.wp at h
  refine SCalls.body Try.func20 rfl (Nat.le_of_ble_eq_true rfl) ?_
  refine SW.seq ?_
  refine SW.region ?_
  refine SOps.val (v := .bool false) rfl (wantN rfl) (fun _ => by kernel_rfl) ?_
  refine SOps.nil ?_
  refine SW.seq ?_
  refine SW.seq ?_
  refine SW.region ?_
  refine SOps.val (v := sv l1) rfl (wantN rfl) (fun _ => by kernel_rfl) ?_
  refine SOps.val (v := .int .i64 (l1.len : Int)) rfl (wantN rfl) (fun _ => by kernel_rfl) ?_
  refine SOps.val (v := sv l2) rfl (wantN rfl) (fun _ => by kernel_rfl) ?_
  refine SOps.val (v := .int .i64 (l2.len : Int)) rfl (wantN rfl) (fun _ => by kernel_rfl) ?_
  refine SOps.val (v := .bool ((l1.len : Int) != (l2.len : Int))) rfl (wantN rfl) (fun _ => by kernel_rfl) ?_
  refine SOps.nil ?_
  by_cases c3 : (l1.len : Int) ≠ (l2.len : Int)
  · replace h := h.1 c3
    have dc3 : ((l1.len : Int) != (l2.len : Int)) = true := (bne_iff_ne.mpr c3)
    refine SW.cond_t (t := ((l1.len : Int) != (l2.len : Int))) rfl dc3 ?_
    refine SW.seq ?_
    refine SW.region ?_
    refine SOps.val (v := .bool false) rfl (wantN rfl) (fun _ => by kernel_rfl) ?_
    refine SOps.nil ?_
    obtain ⟨Hr, hr, h⟩ := h
    exact SW.ret (retQ.mk (.bool false) (res1 rfl rfl) hr ⟨false, rfl, h⟩)
  · replace h := h.2 c3
    have dc3 : ((l1.len : Int) != (l2.len : Int)) = false := (by simpa using c3)
    refine SW.cond_f (t := ((l1.len : Int) != (l2.len : Int))) rfl dc3 ?_
    refine SW.skip ?_
    refine SW.seq ?_
    refine SW.seq ?_
    refine SW.region ?_
    refine SOps.val (v := .int .i64 0) rfl (wantN rfl) (fun _ => by kernel_rfl) ?_
    refine SOps.nil ?_
    refine SW.block ?_
    refine SW.loop (fun k1 fr H => ∃ (g : Fr) (l4 : Sl) (l5 : Sl) (x6 : Int), fr = g.upds [(0, sv l4), (1, sv l5), (5, (.int .i64 x6 : Value))] ∧ ladingref05_Ints.l1 F K k1 l4 l5 x6 H) F ⟨_, l1, l2, 0, (Fr.upds_self _ _ ⟨rfl, rfl, rfl, trivial⟩), h⟩ ?_
    clear h
    rintro k1 fr H ⟨g, l4, l5, x6, rfl, h⟩
    cases k1 with
    | zero => exact h.elim
    | succ k1 =>
      replace h : ladingref05_Ints.r1 F K (ladingref05_Ints.l1 F K k1) l4 l5 x6 H := h
      unfold ladingref05_Ints.r1 at h
      refine SW.seq ?_
      refine SW.seq ?_
      refine SW.region ?_
      refine SOps.val (v := .int .i64 x6) rfl (wantN rfl) (fun _ => by kernel_rfl) ?_
      refine SOps.val (v := sv l4) rfl (wantN rfl) (fun _ => by kernel_rfl) ?_
      refine SOps.val (v := .int .i64 (l4.len : Int)) rfl (wantN rfl) (fun _ => by kernel_rfl) ?_
      refine SOps.val (v := .bool (decide (x6 < (l4.len : Int)))) rfl (wantN rfl) (fun _ => by kernel_rfl) ?_
      refine SOps.nil ?_
      by_cases c7 : x6 < (l4.len : Int)
      · replace h := h.1 c7
        have dc7 : (decide (x6 < (l4.len : Int))) = true := (decide_eq_true c7)
        refine SW.cond_t (t := decide (x6 < (l4.len : Int))) rfl dc7 ?_
        refine SW.skip ?_
        refine SW.seq ?_
        refine SW.block ?_
        refine SW.seq ?_
        refine SW.draw (by kernel_rfl) (by kernel_rfl) ?_
        refine SQ.val (v := sv l4) rfl (wantN rfl) (fun _ => by kernel_rfl) ?_
        refine SQ.val (v := .int .i64 x6) rfl (wantN rfl) (fun _ => by kernel_rfl) ?_
        obtain ⟨p8, c9, c10, c11, h⟩ := h
        refine SQ.val (v := pv (some (p8.1, (p8.2 + x6.toNat * 1)))) rfl (wantN rfl) (fun w => ev_iaddr rfl Try.underlying36 (size := 1) (by kernel_rfl) rfl rfl c9 c10 c11 w) ?_
        obtain ⟨x12, c13, h⟩ := h
        refine SQ.rd (v := .int .i64 x12) rfl (wantN rfl) (fun w hw => ev_load1 rfl (fun _ => by kernel_rfl) (p := (p8.1, (p8.2 + x6.toNat * 1))) rfl c13 w hw) ?_
        refine SQ.val (v := sv l5) rfl (wantN rfl) (fun _ => by kernel_rfl) ?_
        refine SQ.val (v := .int .i64 x6) rfl (wantN rfl) (fun _ => by kernel_rfl) ?_
        obtain ⟨p14, c15, c16, c17, h⟩ := h
        refine SQ.val (v := pv (some (p14.1, (p14.2 + x6.toNat * 1)))) rfl (wantN rfl) (fun w => ev_iaddr rfl Try.underlying36 (size := 1) (by kernel_rfl) rfl rfl c15 c16 c17 w) ?_
        obtain ⟨x18, c19, h⟩ := h
        refine SQ.rd (v := .int .i64 x18) rfl (wantN rfl) (fun w hw => ev_load1 rfl (fun _ => by kernel_rfl) (p := (p14.1, (p14.2 + x6.toNat * 1))) rfl c19 w hw) ?_
        refine SQ.val (v := .bool (x12 != x18)) rfl (wantN rfl) (fun _ => by kernel_rfl) ?_
        refine SQ.nil ?_
        by_cases c20 : x12 ≠ x18
        · replace h := h.1 c20
          have dc20 : (x12 != x18) = true := (bne_iff_ne.mpr c20)
          refine SW.cond_t (t := (x12 != x18)) rfl dc20 ?_
          refine SW.seq ?_
          refine SW.region ?_
          refine SOps.val (v := .bool false) rfl (wantN rfl) (fun _ => by kernel_rfl) ?_
          refine SOps.nil ?_
          obtain ⟨Hr, hr, h⟩ := h
          exact SW.ret (retQ.mk (.bool false) (res1 rfl rfl) hr ⟨false, rfl, h⟩)
        · replace h := h.2 c20
          have dc20 : (x12 != x18) = false := (by simpa using c20)
          refine SW.cond_f (t := (x12 != x18)) rfl dc20 ?_
          refine SW.skip ?_
          refine SW.region ?_
          refine SOps.val (v := .int .i64 x6) rfl (wantN rfl) (fun _ => by kernel_rfl) ?_
          refine SOps.val (v := .int .i64 (w64 (x6 + 1))) rfl (wantN rfl) (fun _ => by kernel_rfl) ?_
          refine SOps.val (v := .int .i64 (w64 (x6 + 1))) rfl (wantN rfl) (fun _ => by kernel_rfl) ?_
          refine SOps.nil ?_
          exact ⟨k1, Nat.lt_succ_self k1, _, l4, l5, w64 (x6 + 1), (Fr.upds_self _ _ ⟨rfl, rfl, rfl, trivial⟩), h⟩
      · replace h := h.2 c7
        have dc7 : (decide (x6 < (l4.len : Int))) = false := (decide_eq_false c7)
        refine SW.cond_f (t := decide (x6 < (l4.len : Int))) rfl dc7 ?_
        refine SW.exit ?_
        refine SW.seq ?_
        refine SW.region ?_
        refine SOps.val (v := .bool true) rfl (wantN rfl) (fun _ => by kernel_rfl) ?_
        refine SOps.nil ?_
        obtain ⟨Hr, hr, h⟩ := h
        exact SW.ret (retQ.mk (.bool true) (res1 rfl rfl) hr ⟨true, rfl, h⟩)

end Go.Proofs.Ytpnbehgkbfhacaa.K
