import Derived.Test.YtknhlipealekoaaDoorGoctet
set_option linter.unusedVariables false
set_option linter.unusedSimpArgs false
set_option maxRecDepth 100000
namespace Go.Proofs.YtknhlipealekoaaDoor.K
open Go
attribute [local irreducible] SW SOps SQ SCalls retQ

/-! ### lading/frame.step: function 71 -/
def frame_step.j1 (F : Nat) (K : Int → SH → Prop) (R1 : Int → Int → SH → Prop) (x9 : Int) (x10 : Int) (H : SH) : Prop :=
  R1 x9 (w64 (x10 + 1)) H
def frame_step.j2 (F : Nat) (K : Int → SH → Prop) (R1 : Int → Int → SH → Prop) (x7 : Int) (x8 : Int) (H : SH) : Prop :=
  frame_step.j1 F K R1 x7 x8 H
def frame_step.r1 (F : Nat) (K : Int → SH → Prop) (R1 : Int → Int → SH → Prop) (x3 : Int) (x4 : Int) (H : SH) : Prop :=
  (x4 < 8 →
    ((ibits .and .u32 x3 1) = 1 →
      frame_step.j2 F K R1 (ibits .xor .u32 (ishr .u32 x3 1) 2197175160) x4 H
    ) ∧ (¬ ((ibits .and .u32 x3 1) = 1) →
      frame_step.j2 F K R1 (ishr .u32 x3 1) x4 H
    )
  ) ∧ (¬ (x4 < 8) →
    ∃ Hr, SH.le Hr H ∧ K x3 Hr
  )
def frame_step.l1 (F : Nat) (K : Int → SH → Prop) : Nat → Int → Int → SH → Prop
  | 0, _, _, _ => False
  | k + 1, x3, x4, H => frame_step.r1 F K (frame_step.l1 F K k) x3 x4 H
def frame_step.wp (F : Nat) (x1 : Int) (x2 : Int) (H : SH) (K : Int → SH → Prop) : Prop :=
  frame_step.l1 F K F (ibits .xor .u32 x1 (IntKind.u32.wrap x2)) 0 H
set_option maxHeartbeats 8000000 in
theorem frame_step.sound (F : Nat) (x1 : Int) (x2 : Int) (H : SH) (K : Int → SH → Prop) (h : frame_step.wp F x1 x2 H K) : SCalls Tryd.prog 71 #[.int .u32 x1, .int .u8 x2] H (fun v H' => ∃ (x16 : Int), v = .int .u32 x16 ∧ K x16 H') := by
  unfold frame_step.wp at h
  refine SCalls.body Tryd.func71 rfl (Nat.le_of_ble_eq_true rfl) ?_
  refine SW.seq ?_
  refine SW.region ?_
  refine SOps.val (v := .int .u32 0) rfl (wantN rfl) (fun _ => by kernel_rfl) ?_
  refine SOps.nil ?_
  refine SW.seq ?_
  refine SW.region ?_
  refine SOps.val (v := .int .u32 x1) rfl (wantN rfl) (fun _ => by kernel_rfl) ?_
  refine SOps.val (v := .int .u8 x2) rfl (wantN rfl) (fun _ => by kernel_rfl) ?_
  refine SOps.val (v := .int .u32 (IntKind.u32.wrap x2)) rfl (wantN rfl) (fun _ => by kernel_rfl) ?_
  refine SOps.val (v := .int .u32 (ibits .xor .u32 x1 (IntKind.u32.wrap x2))) rfl (wantN rfl) (fun _ => by kernel_rfl) ?_
  refine SOps.val (v := .int .u32 (ibits .xor .u32 x1 (IntKind.u32.wrap x2))) rfl (wantN rfl) (fun _ => by kernel_rfl) ?_
  refine SOps.nil ?_
  refine SW.seq ?_
  refine SW.seq ?_
  refine SW.region ?_
  refine SOps.val (v := .int .i64 0) rfl (wantN rfl) (fun _ => by kernel_rfl) ?_
  refine SOps.nil ?_
  refine SW.block ?_
  refine SW.loop (fun k1 fr H => ∃ (g : Fr) (x3 : Int) (x4 : Int), fr = g.upds [(0, (.int .u32 x3 : Value)), (10, (.int .i64 x4 : Value))] ∧ frame_step.l1 F K k1 x3 x4 H) F ⟨_, ibits .xor .u32 x1 (IntKind.u32.wrap x2), 0, (Fr.upds_self _ _ ⟨rfl, rfl, trivial⟩), h⟩ ?_
  clear h
  rintro k1 fr H ⟨g, x3, x4, rfl, h⟩
  cases k1 with
  | zero => exact h.elim
  | succ k1 =>
    replace h : frame_step.r1 F K (frame_step.l1 F K k1) x3 x4 H := h
    unfold frame_step.r1 at h
    refine SW.seq ?_
    refine SW.region ?_
    refine SOps.val (v := .bool (decide (x4 < 8))) rfl (wantN rfl) (fun _ => by kernel_rfl) ?_
    refine SOps.nil ?_
    refine SW.seq ?_
    by_cases c5 : x4 < 8
    · replace h := h.1 c5
      have dc5 : (decide (x4 < 8)) = true := (decide_eq_true c5)
      refine SW.cond_t (t := decide (x4 < 8)) rfl dc5 ?_
      refine SW.skip ?_
      refine SW.seqJ (fun fr H => ∃ (g : Fr) (x9 : Int) (x10 : Int), fr = g.upds [(0, (.int .u32 x9 : Value)), (10, (.int .i64 x10 : Value))] ∧ frame_step.j1 F K (frame_step.l1 F K k1) x9 x10 H) ?_ ?_
      · clear h
        rintro fr H ⟨g, x9, x10, rfl, h⟩
        unfold frame_step.j1 at h
        refine SW.region ?_
        refine SOps.val (v := .int .i64 (w64 (x10 + 1))) rfl (wantN rfl) (fun _ => by kernel_rfl) ?_
        refine SOps.val (v := .int .i64 (w64 (x10 + 1))) rfl (wantN rfl) (fun _ => by kernel_rfl) ?_
        refine SOps.nil ?_
        exact ⟨k1, Nat.lt_succ_self k1, _, x9, w64 (x10 + 1), (Fr.upds_self _ _ ⟨rfl, rfl, trivial⟩), h⟩
      · skip
        refine SW.blockJ (fun fr H => ∃ (g : Fr) (x7 : Int) (x8 : Int), fr = g.upds [(0, (.int .u32 x7 : Value)), (10, (.int .i64 x8 : Value))] ∧ frame_step.j2 F K (frame_step.l1 F K k1) x7 x8 H) ?_ ?_
        · clear h
          rintro fr H ⟨g, x7, x8, rfl, h⟩
          unfold frame_step.j2 at h
          exact ⟨_, x7, x8, Fr.upds_self _ _ ⟨rfl, rfl, trivial⟩, h⟩
        · skip
          refine SW.seq ?_
          refine SW.region ?_
          refine SOps.val (v := .int .u32 x3) rfl (wantN rfl) (fun _ => by kernel_rfl) ?_
          refine SOps.val (v := .int .u32 (ibits .and .u32 x3 1)) rfl (wantN rfl) (fun _ => by kernel_rfl) ?_
          refine SOps.val (v := .int .u32 (ibits .and .u32 x3 1)) rfl (wantN rfl) (fun _ => by kernel_rfl) ?_
          refine SOps.nil ?_
          refine SW.seq ?_
          refine SW.region ?_
          refine SOps.val (v := .int .u32 x3) rfl (wantN rfl) (fun _ => by kernel_rfl) ?_
          refine SOps.val (v := .int .u32 (ishr .u32 x3 1)) rfl (wantN rfl) (fun w => ev_shr rfl rfl rfl (by decide) w) ?_
          refine SOps.val (v := .int .u32 (ishr .u32 x3 1)) rfl (wantN rfl) (fun _ => by kernel_rfl) ?_
          refine SOps.nil ?_
          refine SW.seq ?_
          refine SW.region ?_
          refine SOps.val (v := .int .u32 (ibits .and .u32 x3 1)) rfl (wantN rfl) (fun _ => by kernel_rfl) ?_
          refine SOps.val (v := .bool ((ibits .and .u32 x3 1) == 1)) rfl (wantN rfl) (fun _ => by kernel_rfl) ?_
          refine SOps.nil ?_
          by_cases c6 : (ibits .and .u32 x3 1) = 1
          · replace h := h.1 c6
            have dc6 : ((ibits .and .u32 x3 1) == 1) = true := (beq_iff_eq.mpr c6)
            refine SW.cond_t (t := ((ibits .and .u32 x3 1) == 1)) rfl dc6 ?_
            refine SW.region ?_
            refine SOps.val (v := .int .u32 (ishr .u32 x3 1)) rfl (wantN rfl) (fun _ => by kernel_rfl) ?_
            refine SOps.val (v := .int .u32 (ibits .xor .u32 (ishr .u32 x3 1) 2197175160)) rfl (wantN rfl) (fun _ => by kernel_rfl) ?_
            refine SOps.val (v := .int .u32 (ibits .xor .u32 (ishr .u32 x3 1) 2197175160)) rfl (wantN rfl) (fun _ => by kernel_rfl) ?_
            refine SOps.nil ?_
            exact ⟨_, ibits .xor .u32 (ishr .u32 x3 1) 2197175160, x4, Fr.upds_self _ _ ⟨rfl, rfl, trivial⟩, h⟩
          · replace h := h.2 c6
            have dc6 : ((ibits .and .u32 x3 1) == 1) = false := (beq_eq_false_iff_ne.mpr c6)
            refine SW.cond_f (t := ((ibits .and .u32 x3 1) == 1)) rfl dc6 ?_
            refine SW.skip ?_
            exact ⟨_, ishr .u32 x3 1, x4, Fr.upds_self _ _ ⟨rfl, rfl, trivial⟩, h⟩
    · replace h := h.2 c5
      have dc5 : (decide (x4 < 8)) = false := (decide_eq_false c5)
      refine SW.cond_f (t := decide (x4 < 8)) rfl dc5 ?_
      refine SW.exit ?_
      refine SW.seq ?_
      refine SW.region ?_
      refine SOps.val (v := .int .u32 x3) rfl (wantN rfl) (fun _ => by kernel_rfl) ?_
      refine SOps.val (v := .int .u32 x3) rfl (wantN rfl) (fun _ => by kernel_rfl) ?_
      refine SOps.nil ?_
      obtain ⟨Hr, hr, h⟩ := h
      exact SW.ret (retQ.mk (.int .u32 x3) (res1 rfl rfl) hr ⟨x3, rfl, h⟩)

/-! ### lading/frame.Sum: function 63 -/
def frame_Sum.r2 (F : Nat) (K : Int → SH → Prop) (R1 : Int → Sl → Int → Int → SH → Prop) (R2 : Int → ByteArray → Sl → Int → Int → Int → Int → SH → Prop) (x13 : Int) (s14 : ByteArray) (l15 : Sl) (x16 : Int) (x17 : Int) (x18 : Int) (x19 : Int) (H : SH) : Prop :=
  (x19 < x18 →
    0 ≤ x19 ∧
    x19 < (s14.size : Int) ∧
    frame_step.wp F x13 (bt s14 x19) H (fun x23 H24 =>
      R2 x23 s14 l15 x16 x17 x18 (w64 (x19 + 1)) H24
    )
  ) ∧ (¬ (x19 < x18) →
    R1 x13 l15 x16 (w64 (x17 + 1)) H
  )
def frame_Sum.l2 (F : Nat) (K : Int → SH → Prop) (R1 : Int → Sl → Int → Int → SH → Prop) : Nat → Int → ByteArray → Sl → Int → Int → Int → Int → SH → Prop
  | 0, _, _, _, _, _, _, _, _ => False
  | k + 1, x13, s14, l15, x16, x17, x18, x19, H => frame_Sum.r2 F K R1 (frame_Sum.l2 F K R1 k) x13 s14 l15 x16 x17 x18 x19 H
def frame_Sum.r1 (F : Nat) (K : Int → SH → Prop) (R1 : Int → Sl → Int → Int → SH → Prop) (x2 : Int) (l3 : Sl) (x4 : Int) (x5 : Int) (H : SH) : Prop :=
  (x5 < x4 →
    ∃ p7, l3.a = some p7 ∧ 0 ≤ x5 ∧ x5 < (l3.len : Int) ∧
    ∃ (s11 : ByteArray),
    SH.has H (p7.1, (p7.2 + x5.toNat * 1)) (.string s11) ∧
    frame_Sum.l2 F K R1 F x2 s11 l3 x4 x5 (s11.size : Int) 0 H
  ) ∧ (¬ (x5 < x4) →
    ∃ Hr, SH.le Hr H ∧ K (w64 (ibits .xor .u32 (4294967295) x2)) Hr
  )
def frame_Sum.l1 (F : Nat) (K : Int → SH → Prop) : Nat → Int → Sl → Int → Int → SH → Prop
  | 0, _, _, _, _, _ => False
  | k + 1, x2, l3, x4, x5, H => frame_Sum.r1 F K (frame_Sum.l1 F K k) x2 l3 x4 x5 H
def frame_Sum.wp (F : Nat) (l1 : Sl) (H : SH) (K : Int → SH → Prop) : Prop :=
  frame_Sum.l1 F K F 4294967295 l1 (l1.len : Int) 0 H
set_option maxHeartbeats 8000000 in
theorem frame_Sum.sound (F : Nat) (l1 : Sl) (H : SH) (K : Int → SH → Prop) (h : frame_Sum.wp F l1 H K) : SCalls Tryd.prog 63 #[sv l1] H (fun v H' => ∃ (x30 : Int), v = .int .i64 x30 ∧ K x30 H') := by
  unfold frame_Sum.wp at h
  refine SCalls.body Tryd.func63 rfl (Nat.le_of_ble_eq_true rfl) ?_
  refine SW.seq ?_
  refine SW.region ?_
  refine SOps.val (v := .int .i64 0) rfl (wantN rfl) (fun _ => by kernel_rfl) ?_
  refine SOps.nil ?_
  refine SW.seq ?_
  refine SW.region ?_
  refine SOps.val (v := .int .u32 4294967295) rfl (wantN rfl) (fun _ => by kernel_rfl) ?_
  refine SOps.nil ?_
  refine SW.seq ?_
  refine SW.seq ?_
  refine SW.region ?_
  refine SOps.val (v := sv l1) rfl (wantN rfl) (fun _ => by kernel_rfl) ?_
  refine SOps.val (v := .int .i64 (l1.len : Int)) rfl (wantN rfl) (fun _ => by kernel_rfl) ?_
  refine SOps.val (v := .int .i64 0) rfl (wantN rfl) (fun _ => by kernel_rfl) ?_
  refine SOps.nil ?_
  refine SW.block ?_
  refine SW.loop (fun k1 fr H => ∃ (g : Fr) (x2 : Int) (l3 : Sl) (x4 : Int) (x5 : Int), fr = g.upds [(3, (.int .u32 x2 : Value)), (7, sv l3), (8, (.int .i64 x4 : Value)), (9, (.int .i64 x5 : Value))] ∧ frame_Sum.l1 F K k1 x2 l3 x4 x5 H) F ⟨_, 4294967295, l1, (l1.len : Int), 0, (Fr.upds_self _ _ ⟨rfl, rfl, rfl, rfl, trivial⟩), h⟩ ?_
  clear h
  rintro k1 fr H ⟨g, x2, l3, x4, x5, rfl, h⟩
  cases k1 with
  | zero => exact h.elim
  | succ k1 =>
    replace h : frame_Sum.r1 F K (frame_Sum.l1 F K k1) x2 l3 x4 x5 H := h
    unfold frame_Sum.r1 at h
    refine SW.seq ?_
    refine SW.region ?_
    refine SOps.val (v := .bool (decide (x5 < x4))) rfl (wantN rfl) (fun _ => by kernel_rfl) ?_
    refine SOps.nil ?_
    refine SW.seq ?_
    by_cases c6 : x5 < x4
    · replace h := h.1 c6
      have dc6 : (decide (x5 < x4)) = true := (decide_eq_true c6)
      refine SW.cond_t (t := decide (x5 < x4)) rfl dc6 ?_
      refine SW.skip ?_
      refine SW.seq ?_
      refine SW.block ?_
      refine SW.seq ?_
      refine SW.region ?_
      obtain ⟨p7, c8, c9, c10, h⟩ := h
      refine SOps.val (v := pv (some (p7.1, (p7.2 + x5.toNat * 1)))) rfl (wantN rfl) (fun w => ev_iaddr rfl Tryd.underlying55 (size := 1) (by kernel_rfl) rfl rfl c8 c9 c10 w) ?_
      obtain ⟨s11, c12, h⟩ := h
      refine SOps.rd (v := .string s11) rfl (wantN rfl) (fun w hw => ev_load1 rfl (fun _ => by kernel_rfl) (p := (p7.1, (p7.2 + x5.toNat * 1))) rfl c12 w hw) ?_
      refine SOps.val (v := .string s11) rfl (wantN rfl) (fun _ => by kernel_rfl) ?_
      refine SOps.nil ?_
      refine SW.seq ?_
      refine SW.region ?_
      refine SOps.val (v := .string s11) rfl (wantN rfl) (fun _ => by kernel_rfl) ?_
      refine SOps.val (v := .int .i64 (s11.size : Int)) rfl (wantN rfl) (fun _ => by kernel_rfl) ?_
      refine SOps.val (v := .int .i64 0) rfl (wantN rfl) (fun _ => by kernel_rfl) ?_
      refine SOps.nil ?_
      refine SW.block ?_
      refine SW.loop (fun k2 fr H => ∃ (g : Fr) (x13 : Int) (s14 : ByteArray) (l15 : Sl) (x16 : Int) (x17 : Int) (x18 : Int) (x19 : Int), fr = g.upds [(3, (.int .u32 x13 : Value)), (5, (.string s14 : Value)), (7, sv l15), (8, (.int .i64 x16 : Value)), (9, (.int .i64 x17 : Value)), (14, (.int .i64 x18 : Value)), (15, (.int .i64 x19 : Value))] ∧ frame_Sum.l2 F K (frame_Sum.l1 F K k1) k2 x13 s14 l15 x16 x17 x18 x19 H) F ⟨_, x2, s11, l3, x4, x5, (s11.size : Int), 0, (Fr.upds_self _ _ ⟨rfl, rfl, rfl, rfl, rfl, rfl, rfl, trivial⟩), h⟩ ?_
      clear h
      rintro k2 fr H ⟨g, x13, s14, l15, x16, x17, x18, x19, rfl, h⟩
      cases k2 with
      | zero => exact h.elim
      | succ k2 =>
        replace h : frame_Sum.r2 F K (frame_Sum.l1 F K k1) (frame_Sum.l2 F K (frame_Sum.l1 F K k1) k2) x13 s14 l15 x16 x17 x18 x19 H := h
        unfold frame_Sum.r2 at h
        refine SW.seq ?_
        refine SW.region ?_
        refine SOps.val (v := .bool (decide (x19 < x18))) rfl (wantN rfl) (fun _ => by kernel_rfl) ?_
        refine SOps.nil ?_
        refine SW.seq ?_
        by_cases c20 : x19 < x18
        · replace h := h.1 c20
          have dc20 : (decide (x19 < x18)) = true := (decide_eq_true c20)
          refine SW.cond_t (t := decide (x19 < x18)) rfl dc20 ?_
          refine SW.skip ?_
          refine SW.seq ?_
          refine SW.block ?_
          refine SW.seq ?_
          refine SW.region ?_
          refine SOps.val (v := .int .i64 x19) rfl (wantN rfl) (fun _ => by kernel_rfl) ?_
          refine SOps.val (v := .int .i64 x19) rfl (wantN rfl) (fun _ => by kernel_rfl) ?_
          refine SOps.nil ?_
          refine SW.region ?_
          refine SOps.val (v := .int .u32 x13) rfl (wantN rfl) (fun _ => by kernel_rfl) ?_
          refine SOps.val (v := .string s14) rfl (wantN rfl) (fun _ => by kernel_rfl) ?_
          refine SOps.val (v := .int .i64 x19) rfl (wantN rfl) (fun _ => by kernel_rfl) ?_
          obtain ⟨c21, c22, h⟩ := h
          refine SOps.val (v := .int .u8 (bt s14 x19)) rfl (wantN rfl) (fun w => ev_idxB rfl Tryd.underlying9 rfl rfl c21 c22 w) ?_
          refine SOps.enter rfl (wantN rfl) (fun _ => by kernel_rfl) (frame_step.sound F x13 (bt s14 x19) H _ h) ?_
          clear h
          rintro v H24 ⟨x23, rfl, h⟩
          refine SOps.val (v := .int .u32 x23) rfl (wantN rfl) (fun _ => by kernel_rfl) ?_
          refine SOps.nil ?_
          refine SW.region ?_
          refine SOps.val (v := .int .i64 (w64 (x19 + 1))) rfl (wantN rfl) (fun _ => by kernel_rfl) ?_
          refine SOps.val (v := .int .i64 (w64 (x19 + 1))) rfl (wantN rfl) (fun _ => by kernel_rfl) ?_
          refine SOps.nil ?_
          exact ⟨k2, Nat.lt_succ_self k2, _, x23, s14, l15, x16, x17, x18, w64 (x19 + 1), (Fr.upds_self _ _ ⟨rfl, rfl, rfl, rfl, rfl, rfl, rfl, trivial⟩), h⟩
        · replace h := h.2 c20
          have dc20 : (decide (x19 < x18)) = false := (decide_eq_false c20)
          refine SW.cond_f (t := decide (x19 < x18)) rfl dc20 ?_
          refine SW.exit ?_
          refine SW.region ?_
          refine SOps.val (v := .int .i64 (w64 (x17 + 1))) rfl (wantN rfl) (fun _ => by kernel_rfl) ?_
          refine SOps.val (v := .int .i64 (w64 (x17 + 1))) rfl (wantN rfl) (fun _ => by kernel_rfl) ?_
          refine SOps.nil ?_
          exact ⟨k1, Nat.lt_succ_self k1, _, x13, l15, x16, w64 (x17 + 1), (Fr.upds_self _ _ ⟨rfl, rfl, rfl, rfl, trivial⟩), h⟩
    · replace h := h.2 c6
      have dc6 : (decide (x5 < x4)) = false := (decide_eq_false c6)
      refine SW.cond_f (t := decide (x5 < x4)) rfl dc6 ?_
      refine SW.exit ?_
      refine SW.seq ?_
      refine SW.region ?_
      refine SOps.val (v := .int .u32 x2) rfl (wantN rfl) (fun _ => by kernel_rfl) ?_
      refine SOps.val (v := .int .u32 (ibits .xor .u32 (4294967295) x2)) rfl (wantN rfl) (fun _ => by kernel_rfl) ?_
      refine SOps.val (v := .int .i64 (w64 (ibits .xor .u32 (4294967295) x2))) rfl (wantN rfl) (fun _ => by kernel_rfl) ?_
      refine SOps.val (v := .int .i64 (w64 (ibits .xor .u32 (4294967295) x2))) rfl (wantN rfl) (fun _ => by kernel_rfl) ?_
      refine SOps.nil ?_
      obtain ⟨Hr, hr, h⟩ := h
      exact SW.ret (retQ.mk (.int .i64 (w64 (ibits .xor .u32 (4294967295) x2))) (res1 rfl rfl) hr ⟨w64 (ibits .xor .u32 (4294967295) x2), rfl, h⟩)

/-! ### lading/frame.Next$1: function 69 -/
def frame_Next_1.wp (F : Nat) (e1 : Option EV) (p2 : Option (Nat × Nat)) (H : SH) (K : ByteArray → Int → Option EV → SH → Prop) : Prop :=
  (p2 = none →
    False
  ) ∧ (∀ b3 o4, p2 = some (b3, o4) →
    ∃ (x5 : Int),
    SH.has H (b3, o4) (.int .i64 x5) ∧
    ∃ (x7 : Int),
    SH.has H (b3, o4) (.int .i64 x7) ∧
    ∃ Hr, SH.le Hr H ∧ K ByteArray.empty x5 (some (EV.mk x7 e1)) Hr
  )
set_option maxHeartbeats 8000000 in
theorem frame_Next_1.sound (F : Nat) (e1 : Option EV) (p2 : Option (Nat × Nat)) (H : SH) (K : ByteArray → Int → Option EV → SH → Prop) (h : frame_Next_1.wp F e1 p2 H K) : SCalls Tryd.prog 69 #[errV e1, pv p2] H (fun v H' => ∃ (s12 : ByteArray) (x13 : Int) (e14 : Option EV), v = .tuple #[.string s12, .int .i64 x13, errV e14] ∧ K s12 x13 e14 H') := by
  unfold frame_Next_1.wp at h
  refine SCalls.body Tryd.func69 rfl (Nat.le_of_ble_eq_true rfl) ?_
  refine SW.seq ?_
  refine SW.region ?_
  refine SOps.val (v := .string ByteArray.empty) rfl (wantN rfl) (fun _ => by kernel_rfl) ?_
  refine SOps.val (v := .int .i64 0) rfl (wantN rfl) (fun _ => by kernel_rfl) ?_
  refine SOps.val (v := errV none) rfl (wantN rfl) (fun _ => by kernel_rfl) ?_
  refine SOps.nil ?_
  refine SW.seq ?_
  refine SW.draw (by kernel_rfl) (by kernel_rfl) ?_
  rcases p2 with _ | ⟨b3, o4⟩
  · replace h := h.1 rfl
    exact h.elim
  · replace h := h.2 b3 o4 rfl
    obtain ⟨x5, c6, h⟩ := h
    refine SQ.rd (v := .int .i64 x5) rfl (wantN rfl) (fun w hw => ev_load1 rfl (fun _ => by kernel_rfl) (p := (b3, o4)) rfl c6 w hw) ?_
    obtain ⟨x7, c8, h⟩ := h
    refine SQ.rd (v := .int .i64 x7) rfl (wantN rfl) (fun w hw => ev_load1 rfl (fun _ => by kernel_rfl) (p := (b3, o4)) rfl c8 w hw) ?_
    refine SQ.val (v := errV e1) rfl (wantN rfl) (fun _ => by kernel_rfl) ?_
    refine SQ.val (v := .agg #[.int .i64 x7, errV e1]) rfl (wantN rfl) (fun w => ev_buildF rfl rfl rfl w) ?_
    refine SQ.val (v := errV (some (EV.mk x7 e1))) rfl (wantN rfl) (fun w => ev_fault rfl rfl w) ?_
    refine SQ.val (v := .string ByteArray.empty) rfl (wantN rfl) (fun _ => by kernel_rfl) ?_
    refine SQ.val (v := .int .i64 x5) rfl (wantN rfl) (fun _ => by kernel_rfl) ?_
    refine SQ.val (v := errV (some (EV.mk x7 e1))) rfl (wantN rfl) (fun _ => by kernel_rfl) ?_
    refine SQ.nil ?_
    obtain ⟨Hr, hr, h⟩ := h
    exact SW.ret (retQ.mk (.tuple #[.string ByteArray.empty, .int .i64 x5, errV (some (EV.mk x7 e1))]) (res3 rfl rfl rfl rfl) hr ⟨ByteArray.empty, x5, some (EV.mk x7 e1), rfl, h⟩)

/-! ### lading/frame.Next: function 61 -/
def frame_Next.wp (F : Nat) (s1 : ByteArray) (x2 : Int) (H : SH) (K : ByteArray → Int → Option EV → SH → Prop) : Prop :=
  ∀ b3, H b3 = none →
  ∃ (x5 : Int),
  SH.has (SH.upd H b3 ⟨[.int .i64 x2], 3, false, 1⟩) (b3, 0) (.int .i64 x5) ∧
  (x5 < 0 →
    frame_Next_1.wp F (some (EV.no 1)) (some (b3, 0)) (SH.upd H b3 ⟨[.int .i64 x2], 3, false, 1⟩) (fun s8 x9 e10 H11 =>
      ∃ Hr, SH.le Hr H11 ∧ K s8 x9 e10 Hr
    )
  ) ∧ (¬ (x5 < 0) →
    ∃ (x12 : Int),
    SH.has (SH.upd H b3 ⟨[.int .i64 x2], 3, false, 1⟩) (b3, 0) (.int .i64 x12) ∧
    (x12 > (s1.size : Int) →
      frame_Next_1.wp F (some (EV.no 1)) (some (b3, 0)) (SH.upd H b3 ⟨[.int .i64 x2], 3, false, 1⟩) (fun s15 x16 e17 H18 =>
        ∃ Hr, SH.le Hr H18 ∧ K s15 x16 e17 Hr
      )
    ) ∧ (¬ (x12 > (s1.size : Int)) →
      ∃ (x19 : Int),
      SH.has (SH.upd H b3 ⟨[.int .i64 x2], 3, false, 1⟩) (b3, 0) (.int .i64 x19) ∧
      ((w64 ((s1.size : Int) - x19)) < 6 →
        frame_Next_1.wp F (some (EV.no 3)) (some (b3, 0)) (SH.upd H b3 ⟨[.int .i64 x2], 3, false, 1⟩) (fun s22 x23 e24 H25 =>
          ∃ Hr, SH.le Hr H25 ∧ K s22 x23 e24 Hr
        )
      ) ∧ (¬ ((w64 ((s1.size : Int) - x19)) < 6) →
        ∃ (x26 : Int),
        SH.has (SH.upd H b3 ⟨[.int .i64 x2], 3, false, 1⟩) (b3, 0) (.int .i64 x26) ∧
        octet_Fixed.wp F s1 x26 4 (SH.upd H b3 ⟨[.int .i64 x2], 3, false, 1⟩) (fun x28 x29 e30 H31 =>
          octet_Fixed.wp F s1 x29 2 H31 (fun x32 x33 e34 H35 =>
            (x32 > 60000 →
              frame_Next_1.wp F (some (EV.no 6)) (some (b3, 0)) H35 (fun s37 x38 e39 H40 =>
                ∃ Hr, SH.le Hr H40 ∧ K s37 x38 e39 Hr
              )
            ) ∧ (¬ (x32 > 60000) →
              (x32 > (w64 ((s1.size : Int) - x33)) →
                frame_Next_1.wp F (some (EV.no 3)) (some (b3, 0)) H35 (fun s42 x43 e44 H45 =>
                  ∃ Hr, SH.le Hr H45 ∧ K s42 x43 e44 Hr
                )
              ) ∧ (¬ (x32 > (w64 ((s1.size : Int) - x33))) →
                0 ≤ x29 ∧
                x29 ≤ (w64 (x33 + x32)) ∧
                (w64 (x33 + x32)) ≤ (s1.size : Int) ∧
                ∀ b49, H35 b49 = none →
                frame_Sum.wp F (⟨some (b49, 0), 1, 1⟩ : Sl) (SH.upd H35 b49 ⟨[.string (s1.extract x29.toNat (w64 (x33 + x32)).toNat)], 9, false, 1⟩) (fun x51 H52 =>
                  (x51 ≠ x28 →
                    frame_Next_1.wp F (some (EV.no 5)) (some (b3, 0)) H52 (fun s54 x55 e56 H57 =>
                      ∃ Hr, SH.le Hr H57 ∧ K s54 x55 e56 Hr
                    )
                  ) ∧ (¬ (x51 ≠ x28) →
                    0 ≤ x33 ∧
                    x33 ≤ (w64 (x33 + x32)) ∧
                    (w64 (x33 + x32)) ≤ (s1.size : Int) ∧
                    ∃ Hr, SH.le Hr H52 ∧ K (s1.extract x33.toNat (w64 (x33 + x32)).toNat) (w64 (x33 + x32)) none Hr
                  )
                )
              )
            )
          )
        )
      )
    )
  )
set_option maxHeartbeats 8000000 in
theorem frame_Next.sound (F : Nat) (s1 : ByteArray) (x2 : Int) (H : SH) (K : ByteArray → Int → Option EV → SH → Prop) (h : frame_Next.wp F s1 x2 H K) : SCalls Tryd.prog 61 #[.string s1, .int .i64 x2] H (fun v H' => ∃ (s64 : ByteArray) (x65 : Int) (e66 : Option EV), v = .tuple #[.string s64, .int .i64 x65, errV e66] ∧ K s64 x65 e66 H') := by
  unfold frame_Next.wp at h
  refine SCalls.body Tryd.func61 rfl (Nat.le_of_ble_eq_true rfl) ?_
  refine SW.seq ?_
  refine SW.region ?_
  refine SOps.box rfl rfl (wantN rfl) (v := .int .i64 x2) rfl (fun b3 c4 => ?_)
  replace h := h b3 c4
  refine SOps.val (v := .string ByteArray.empty) rfl (wantN rfl) (fun _ => by kernel_rfl) ?_
  refine SOps.val (v := .int .i64 0) rfl (wantN rfl) (fun _ => by kernel_rfl) ?_
  refine SOps.val (v := errV none) rfl (wantN rfl) (fun _ => by kernel_rfl) ?_
  refine SOps.nil ?_
  refine SW.seq ?_
  refine SW.region ?_
  refine SOps.val (v := .func (.func 69) #[] #[pv (some (b3, 0))]) rfl (wantN rfl) (fun _ => by kernel_rfl) ?_
  refine SOps.val (v := .func (.func 69) #[] #[pv (some (b3, 0))]) rfl (wantN rfl) (fun _ => by kernel_rfl) ?_
  refine SOps.nil ?_
  refine SW.seq ?_
  refine SW.block ?_
  refine SW.seq ?_
  refine SW.region ?_
  obtain ⟨x5, c6, h⟩ := h
  refine SOps.rd (v := .int .i64 x5) rfl (wantN rfl) (fun w hw => ev_load1 rfl (fun _ => by kernel_rfl) (p := (b3, 0)) rfl c6 w hw) ?_
  refine SOps.val (v := .bool (decide (x5 < 0))) rfl (wantN rfl) (fun _ => by kernel_rfl) ?_
  refine SOps.val (v := .bool (decide (x5 < 0))) rfl (wantN rfl) (fun _ => by kernel_rfl) ?_
  by_cases c7 : x5 < 0
  · replace h := h.1 c7
    have dc7 : (decide (x5 < 0)) = true := (decide_eq_true c7)
    refine SOps.off rfl (wantX (c := decide (x5 < 0)) rfl rfl rfl dc7) ?_
    refine SOps.off rfl (wantX (c := decide (x5 < 0)) rfl rfl rfl dc7) ?_
    refine SOps.off rfl (wantX (c := decide (x5 < 0)) rfl rfl rfl dc7) ?_
    refine SOps.off rfl (wantX (c := decide (x5 < 0)) rfl rfl rfl dc7) ?_
    refine SOps.val (v := .bool true) rfl (wantN rfl) (fun w => ev_pickT (v := .bool true) rfl (t := decide (x5 < 0)) rfl dc7 rfl w) ?_
    refine SOps.val (v := .bool true) rfl (wantN rfl) (fun _ => by kernel_rfl) ?_
    refine SOps.nil ?_
    refine SW.cond_t (t := true) rfl rfl ?_
    refine SW.seq ?_
    refine SW.region ?_
    refine SOps.val (v := .func (.func 69) #[] #[pv (some (b3, 0))]) rfl (wantN rfl) (fun _ => by kernel_rfl) ?_
    refine SOps.val (v := errV (some (EV.no 1))) rfl (wantN rfl) (fun _ => by kernel_rfl) ?_
    refine SOps.enter rfl (wantN rfl) (fun _ => by kernel_rfl) (frame_Next_1.sound F (some (EV.no 1)) (some (b3, 0)) (SH.upd H b3 ⟨[.int .i64 x2], 3, false, 1⟩) _ h) ?_
    clear h
    rintro v H11 ⟨s8, x9, e10, rfl, h⟩
    refine SOps.val (v := .string s8) rfl (wantN rfl) (fun _ => by kernel_rfl) ?_
    refine SOps.val (v := .int .i64 x9) rfl (wantN rfl) (fun _ => by kernel_rfl) ?_
    refine SOps.val (v := errV e10) rfl (wantN rfl) (fun _ => by kernel_rfl) ?_
    refine SOps.val (v := .string s8) rfl (wantN rfl) (fun _ => by kernel_rfl) ?_
    refine SOps.val (v := .int .i64 x9) rfl (wantN rfl) (fun _ => by kernel_rfl) ?_
    refine SOps.val (v := errV e10) rfl (wantN rfl) (fun _ => by kernel_rfl) ?_
    refine SOps.nil ?_
    obtain ⟨Hr, hr, h⟩ := h
    exact SW.ret (retQ.mk (.tuple #[.string s8, .int .i64 x9, errV e10]) (res3 rfl rfl rfl rfl) hr ⟨s8, x9, e10, rfl, h⟩)
  · replace h := h.2 c7
    have dc7 : (decide (x5 < 0)) = false := (decide_eq_false c7)
    obtain ⟨x12, c13, h⟩ := h
    refine SOps.rd (v := .int .i64 x12) rfl (wantY (c := decide (x5 < 0)) rfl rfl rfl dc7) (fun w hw => ev_load1 rfl (fun _ => by kernel_rfl) (p := (b3, 0)) rfl c13 w hw) ?_
    refine SOps.val (v := .string s1) rfl (wantY (c := decide (x5 < 0)) rfl rfl rfl dc7) (fun _ => by kernel_rfl) ?_
    refine SOps.val (v := .int .i64 (s1.size : Int)) rfl (wantY (c := decide (x5 < 0)) rfl rfl rfl dc7) (fun _ => by kernel_rfl) ?_
    refine SOps.val (v := .bool (decide (x12 > (s1.size : Int)))) rfl (wantY (c := decide (x5 < 0)) rfl rfl rfl dc7) (fun _ => by kernel_rfl) ?_
    refine SOps.val (v := .bool (decide (x12 > (s1.size : Int)))) rfl (wantN rfl) (fun w => ev_pickF (v := .bool (decide (x12 > (s1.size : Int)))) rfl (t := decide (x5 < 0)) rfl dc7 rfl w) ?_
    refine SOps.val (v := .bool (decide (x12 > (s1.size : Int)))) rfl (wantN rfl) (fun _ => by kernel_rfl) ?_
    refine SOps.nil ?_
    by_cases c14 : x12 > (s1.size : Int)
    · replace h := h.1 c14
      have dc14 : (decide (x12 > (s1.size : Int))) = true := (decide_eq_true c14)
      refine SW.cond_t (t := decide (x12 > (s1.size : Int))) rfl dc14 ?_
      refine SW.seq ?_
      refine SW.region ?_
      refine SOps.val (v := .func (.func 69) #[] #[pv (some (b3, 0))]) rfl (wantN rfl) (fun _ => by kernel_rfl) ?_
      refine SOps.val (v := errV (some (EV.no 1))) rfl (wantN rfl) (fun _ => by kernel_rfl) ?_
      refine SOps.enter rfl (wantN rfl) (fun _ => by kernel_rfl) (frame_Next_1.sound F (some (EV.no 1)) (some (b3, 0)) (SH.upd H b3 ⟨[.int .i64 x2], 3, false, 1⟩) _ h) ?_
      clear h
      rintro v H18 ⟨s15, x16, e17, rfl, h⟩
      refine SOps.val (v := .string s15) rfl (wantN rfl) (fun _ => by kernel_rfl) ?_
      refine SOps.val (v := .int .i64 x16) rfl (wantN rfl) (fun _ => by kernel_rfl) ?_
      refine SOps.val (v := errV e17) rfl (wantN rfl) (fun _ => by kernel_rfl) ?_
      refine SOps.val (v := .string s15) rfl (wantN rfl) (fun _ => by kernel_rfl) ?_
      refine SOps.val (v := .int .i64 x16) rfl (wantN rfl) (fun _ => by kernel_rfl) ?_
      refine SOps.val (v := errV e17) rfl (wantN rfl) (fun _ => by kernel_rfl) ?_
      refine SOps.nil ?_
      obtain ⟨Hr, hr, h⟩ := h
      exact SW.ret (retQ.mk (.tuple #[.string s15, .int .i64 x16, errV e17]) (res3 rfl rfl rfl rfl) hr ⟨s15, x16, e17, rfl, h⟩)
    · replace h := h.2 c14
      have dc14 : (decide (x12 > (s1.size : Int))) = false := (decide_eq_false c14)
      refine SW.cond_f (t := decide (x12 > (s1.size : Int))) rfl dc14 ?_
      refine SW.seq ?_
      refine SW.region ?_
      refine SOps.val (v := .string s1) rfl (wantN rfl) (fun _ => by kernel_rfl) ?_
      refine SOps.val (v := .int .i64 (s1.size : Int)) rfl (wantN rfl) (fun _ => by kernel_rfl) ?_
      obtain ⟨x19, c20, h⟩ := h
      refine SOps.rd (v := .int .i64 x19) rfl (wantN rfl) (fun w hw => ev_load1 rfl (fun _ => by kernel_rfl) (p := (b3, 0)) rfl c20 w hw) ?_
      refine SOps.val (v := .int .i64 (w64 ((s1.size : Int) - x19))) rfl (wantN rfl) (fun _ => by kernel_rfl) ?_
      refine SOps.val (v := .bool (decide ((w64 ((s1.size : Int) - x19)) < 6))) rfl (wantN rfl) (fun _ => by kernel_rfl) ?_
      refine SOps.val (v := .bool (decide ((w64 ((s1.size : Int) - x19)) < 6))) rfl (wantN rfl) (fun _ => by kernel_rfl) ?_
      refine SOps.nil ?_
      by_cases c21 : (w64 ((s1.size : Int) - x19)) < 6
      · replace h := h.1 c21
        have dc21 : (decide ((w64 ((s1.size : Int) - x19)) < 6)) = true := (decide_eq_true c21)
        refine SW.cond_t (t := decide ((w64 ((s1.size : Int) - x19)) < 6)) rfl dc21 ?_
        refine SW.seq ?_
        refine SW.region ?_
        refine SOps.val (v := .func (.func 69) #[] #[pv (some (b3, 0))]) rfl (wantN rfl) (fun _ => by kernel_rfl) ?_
        refine SOps.val (v := errV (some (EV.no 3))) rfl (wantN rfl) (fun _ => by kernel_rfl) ?_
        refine SOps.enter rfl (wantN rfl) (fun _ => by kernel_rfl) (frame_Next_1.sound F (some (EV.no 3)) (some (b3, 0)) (SH.upd H b3 ⟨[.int .i64 x2], 3, false, 1⟩) _ h) ?_
        clear h
        rintro v H25 ⟨s22, x23, e24, rfl, h⟩
        refine SOps.val (v := .string s22) rfl (wantN rfl) (fun _ => by kernel_rfl) ?_
        refine SOps.val (v := .int .i64 x23) rfl (wantN rfl) (fun _ => by kernel_rfl) ?_
        refine SOps.val (v := errV e24) rfl (wantN rfl) (fun _ => by kernel_rfl) ?_
        refine SOps.val (v := .string s22) rfl (wantN rfl) (fun _ => by kernel_rfl) ?_
        refine SOps.val (v := .int .i64 x23) rfl (wantN rfl) (fun _ => by kernel_rfl) ?_
        refine SOps.val (v := errV e24) rfl (wantN rfl) (fun _ => by kernel_rfl) ?_
        refine SOps.nil ?_
        obtain ⟨Hr, hr, h⟩ := h
        exact SW.ret (retQ.mk (.tuple #[.string s22, .int .i64 x23, errV e24]) (res3 rfl rfl rfl rfl) hr ⟨s22, x23, e24, rfl, h⟩)
      · replace h := h.2 c21
        have dc21 : (decide ((w64 ((s1.size : Int) - x19)) < 6)) = false := (decide_eq_false c21)
        refine SW.cond_f (t := decide ((w64 ((s1.size : Int) - x19)) < 6)) rfl dc21 ?_
        refine SW.skip ?_
        refine SW.seq ?_
        refine SW.region ?_
        refine SOps.val (v := .string s1) rfl (wantN rfl) (fun _ => by kernel_rfl) ?_
        obtain ⟨x26, c27, h⟩ := h
        refine SOps.rd (v := .int .i64 x26) rfl (wantN rfl) (fun w hw => ev_load1 rfl (fun _ => by kernel_rfl) (p := (b3, 0)) rfl c27 w hw) ?_
        refine SOps.enter rfl (wantN rfl) (fun _ => by kernel_rfl) (octet_Fixed.sound F s1 x26 4 (SH.upd H b3 ⟨[.int .i64 x2], 3, false, 1⟩) _ h) ?_
        clear h
        rintro v H31 ⟨x28, x29, e30, rfl, h⟩
        refine SOps.val (v := .tuple #[.int .i64 x28, .int .i64 x29, errV e30]) rfl (wantN rfl) (fun _ => by kernel_rfl) ?_
        refine SOps.val (v := .int .i64 x28) rfl (wantN rfl) (fun _ => by kernel_rfl) ?_
        refine SOps.val (v := .int .i64 x29) rfl (wantN rfl) (fun _ => by kernel_rfl) ?_
        refine SOps.val (v := errV e30) rfl (wantN rfl) (fun _ => by kernel_rfl) ?_
        refine SOps.val (v := .int .i64 x28) rfl (wantN rfl) (fun _ => by kernel_rfl) ?_
        refine SOps.val (v := .int .i64 x29) rfl (wantN rfl) (fun _ => by kernel_rfl) ?_
        refine SOps.val (v := errV e30) rfl (wantN rfl) (fun _ => by kernel_rfl) ?_
        refine SOps.nil ?_
        refine SW.seq ?_
        refine SW.region ?_
        refine SOps.val (v := .string s1) rfl (wantN rfl) (fun _ => by kernel_rfl) ?_
        refine SOps.val (v := .int .i64 x29) rfl (wantN rfl) (fun _ => by kernel_rfl) ?_
        refine SOps.enter rfl (wantN rfl) (fun _ => by kernel_rfl) (octet_Fixed.sound F s1 x29 2 H31 _ h) ?_
        clear h
        rintro v H35 ⟨x32, x33, e34, rfl, h⟩
        refine SOps.val (v := .tuple #[.int .i64 x32, .int .i64 x33, errV e34]) rfl (wantN rfl) (fun _ => by kernel_rfl) ?_
        refine SOps.val (v := .int .i64 x32) rfl (wantN rfl) (fun _ => by kernel_rfl) ?_
        refine SOps.val (v := .int .i64 x33) rfl (wantN rfl) (fun _ => by kernel_rfl) ?_
        refine SOps.val (v := errV e34) rfl (wantN rfl) (fun _ => by kernel_rfl) ?_
        refine SOps.val (v := .int .i64 x32) rfl (wantN rfl) (fun _ => by kernel_rfl) ?_
        refine SOps.val (v := .int .i64 x33) rfl (wantN rfl) (fun _ => by kernel_rfl) ?_
        refine SOps.val (v := errV e34) rfl (wantN rfl) (fun _ => by kernel_rfl) ?_
        refine SOps.nil ?_
        refine SW.seq ?_
        refine SW.block ?_
        refine SW.seq ?_
        refine SW.region ?_
        refine SOps.val (v := .int .i64 x32) rfl (wantN rfl) (fun _ => by kernel_rfl) ?_
        refine SOps.val (v := .bool (decide (x32 > 60000))) rfl (wantN rfl) (fun _ => by kernel_rfl) ?_
        refine SOps.val (v := .bool (decide (x32 > 60000))) rfl (wantN rfl) (fun _ => by kernel_rfl) ?_
        refine SOps.nil ?_
        by_cases c36 : x32 > 60000
        · replace h := h.1 c36
          have dc36 : (decide (x32 > 60000)) = true := (decide_eq_true c36)
          refine SW.cond_t (t := decide (x32 > 60000)) rfl dc36 ?_
          refine SW.seq ?_
          refine SW.region ?_
          refine SOps.val (v := .func (.func 69) #[] #[pv (some (b3, 0))]) rfl (wantN rfl) (fun _ => by kernel_rfl) ?_
          refine SOps.val (v := errV (some (EV.no 6))) rfl (wantN rfl) (fun _ => by kernel_rfl) ?_
          refine SOps.enter rfl (wantN rfl) (fun _ => by kernel_rfl) (frame_Next_1.sound F (some (EV.no 6)) (some (b3, 0)) H35 _ h) ?_
          clear h
          rintro v H40 ⟨s37, x38, e39, rfl, h⟩
          refine SOps.val (v := .string s37) rfl (wantN rfl) (fun _ => by kernel_rfl) ?_
          refine SOps.val (v := .int .i64 x38) rfl (wantN rfl) (fun _ => by kernel_rfl) ?_
          refine SOps.val (v := errV e39) rfl (wantN rfl) (fun _ => by kernel_rfl) ?_
          refine SOps.val (v := .string s37) rfl (wantN rfl) (fun _ => by kernel_rfl) ?_
          refine SOps.val (v := .int .i64 x38) rfl (wantN rfl) (fun _ => by kernel_rfl) ?_
          refine SOps.val (v := errV e39) rfl (wantN rfl) (fun _ => by kernel_rfl) ?_
          refine SOps.nil ?_
          obtain ⟨Hr, hr, h⟩ := h
          exact SW.ret (retQ.mk (.tuple #[.string s37, .int .i64 x38, errV e39]) (res3 rfl rfl rfl rfl) hr ⟨s37, x38, e39, rfl, h⟩)
        · replace h := h.2 c36
          have dc36 : (decide (x32 > 60000)) = false := (decide_eq_false c36)
          refine SW.cond_f (t := decide (x32 > 60000)) rfl dc36 ?_
          refine SW.seq ?_
          refine SW.region ?_
          refine SOps.val (v := .int .i64 x32) rfl (wantN rfl) (fun _ => by kernel_rfl) ?_
          refine SOps.val (v := .string s1) rfl (wantN rfl) (fun _ => by kernel_rfl) ?_
          refine SOps.val (v := .int .i64 (s1.size : Int)) rfl (wantN rfl) (fun _ => by kernel_rfl) ?_
          refine SOps.val (v := .int .i64 x33) rfl (wantN rfl) (fun _ => by kernel_rfl) ?_
          refine SOps.val (v := .int .i64 (w64 ((s1.size : Int) - x33))) rfl (wantN rfl) (fun _ => by kernel_rfl) ?_
          refine SOps.val (v := .bool (decide (x32 > (w64 ((s1.size : Int) - x33))))) rfl (wantN rfl) (fun _ => by kernel_rfl) ?_
          refine SOps.val (v := .bool (decide (x32 > (w64 ((s1.size : Int) - x33))))) rfl (wantN rfl) (fun _ => by kernel_rfl) ?_
          refine SOps.nil ?_
          by_cases c41 : x32 > (w64 ((s1.size : Int) - x33))
          · replace h := h.1 c41
            have dc41 : (decide (x32 > (w64 ((s1.size : Int) - x33)))) = true := (decide_eq_true c41)
            refine SW.cond_t (t := decide (x32 > (w64 ((s1.size : Int) - x33)))) rfl dc41 ?_
            refine SW.seq ?_
            refine SW.region ?_
            refine SOps.val (v := .func (.func 69) #[] #[pv (some (b3, 0))]) rfl (wantN rfl) (fun _ => by kernel_rfl) ?_
            refine SOps.val (v := errV (some (EV.no 3))) rfl (wantN rfl) (fun _ => by kernel_rfl) ?_
            refine SOps.enter rfl (wantN rfl) (fun _ => by kernel_rfl) (frame_Next_1.sound F (some (EV.no 3)) (some (b3, 0)) H35 _ h) ?_
            clear h
            rintro v H45 ⟨s42, x43, e44, rfl, h⟩
            refine SOps.val (v := .string s42) rfl (wantN rfl) (fun _ => by kernel_rfl) ?_
            refine SOps.val (v := .int .i64 x43) rfl (wantN rfl) (fun _ => by kernel_rfl) ?_
            refine SOps.val (v := errV e44) rfl (wantN rfl) (fun _ => by kernel_rfl) ?_
            refine SOps.val (v := .string s42) rfl (wantN rfl) (fun _ => by kernel_rfl) ?_
            refine SOps.val (v := .int .i64 x43) rfl (wantN rfl) (fun _ => by kernel_rfl) ?_
            refine SOps.val (v := errV e44) rfl (wantN rfl) (fun _ => by kernel_rfl) ?_
            refine SOps.nil ?_
            obtain ⟨Hr, hr, h⟩ := h
            exact SW.ret (retQ.mk (.tuple #[.string s42, .int .i64 x43, errV e44]) (res3 rfl rfl rfl rfl) hr ⟨s42, x43, e44, rfl, h⟩)
          · replace h := h.2 c41
            have dc41 : (decide (x32 > (w64 ((s1.size : Int) - x33)))) = false := (decide_eq_false c41)
            refine SW.cond_f (t := decide (x32 > (w64 ((s1.size : Int) - x33)))) rfl dc41 ?_
            refine SW.seq ?_
            refine SW.region ?_
            refine SOps.val (v := .string s1) rfl (wantN rfl) (fun _ => by kernel_rfl) ?_
            refine SOps.val (v := .int .i64 x29) rfl (wantN rfl) (fun _ => by kernel_rfl) ?_
            refine SOps.val (v := .int .i64 x33) rfl (wantN rfl) (fun _ => by kernel_rfl) ?_
            refine SOps.val (v := .int .i64 x32) rfl (wantN rfl) (fun _ => by kernel_rfl) ?_
            refine SOps.val (v := .int .i64 (w64 (x33 + x32))) rfl (wantN rfl) (fun _ => by kernel_rfl) ?_
            obtain ⟨c46, c47, c48, h⟩ := h
            refine SOps.val (v := .string (s1.extract x29.toNat (w64 (x33 + x32)).toNat)) rfl (wantN rfl) (fun w => ev_subS (a := x29) (b := (w64 (x33 + x32))) rfl Tryd.underlying9 rfl (Or.inr ⟨_, rfl⟩) (Or.inr ⟨_, rfl⟩) c46 c47 c48 w) ?_
            refine SOps.lit (E := 9) (cs := #[.string (s1.extract x29.toNat (w64 (x33 + x32)).toNat)]) rfl rfl (wantN rfl) (fun _ => by kernel_rfl) (fun b49 c50 => ?_)
            replace h := h b49 c50
            refine SOps.enter rfl (wantN rfl) (fun _ => by kernel_rfl) (frame_Sum.sound F (⟨some (b49, 0), 1, 1⟩ : Sl) (SH.upd H35 b49 ⟨[.string (s1.extract x29.toNat (w64 (x33 + x32)).toNat)], 9, false, 1⟩) _ h) ?_
            clear h
            rintro v H52 ⟨x51, rfl, h⟩
            refine SOps.val (v := .int .i64 x28) rfl (wantN rfl) (fun _ => by kernel_rfl) ?_
            refine SOps.val (v := .bool (x51 != x28)) rfl (wantN rfl) (fun _ => by kernel_rfl) ?_
            refine SOps.val (v := .bool (x51 != x28)) rfl (wantN rfl) (fun _ => by kernel_rfl) ?_
            refine SOps.nil ?_
            by_cases c53 : x51 ≠ x28
            · replace h := h.1 c53
              have dc53 : (x51 != x28) = true := (bne_iff_ne.mpr c53)
              refine SW.cond_t (t := (x51 != x28)) rfl dc53 ?_
              refine SW.seq ?_
              refine SW.region ?_
              refine SOps.val (v := .func (.func 69) #[] #[pv (some (b3, 0))]) rfl (wantN rfl) (fun _ => by kernel_rfl) ?_
              refine SOps.val (v := errV (some (EV.no 5))) rfl (wantN rfl) (fun _ => by kernel_rfl) ?_
              refine SOps.enter rfl (wantN rfl) (fun _ => by kernel_rfl) (frame_Next_1.sound F (some (EV.no 5)) (some (b3, 0)) H52 _ h) ?_
              clear h
              rintro v H57 ⟨s54, x55, e56, rfl, h⟩
              refine SOps.val (v := .string s54) rfl (wantN rfl) (fun _ => by kernel_rfl) ?_
              refine SOps.val (v := .int .i64 x55) rfl (wantN rfl) (fun _ => by kernel_rfl) ?_
              refine SOps.val (v := errV e56) rfl (wantN rfl) (fun _ => by kernel_rfl) ?_
              refine SOps.val (v := .string s54) rfl (wantN rfl) (fun _ => by kernel_rfl) ?_
              refine SOps.val (v := .int .i64 x55) rfl (wantN rfl) (fun _ => by kernel_rfl) ?_
              refine SOps.val (v := errV e56) rfl (wantN rfl) (fun _ => by kernel_rfl) ?_
              refine SOps.nil ?_
              obtain ⟨Hr, hr, h⟩ := h
              exact SW.ret (retQ.mk (.tuple #[.string s54, .int .i64 x55, errV e56]) (res3 rfl rfl rfl rfl) hr ⟨s54, x55, e56, rfl, h⟩)
            · replace h := h.2 c53
              have dc53 : (x51 != x28) = false := (by simpa using c53)
              refine SW.cond_f (t := (x51 != x28)) rfl dc53 ?_
              refine SW.skip ?_
              refine SW.seq ?_
              refine SW.region ?_
              refine SOps.val (v := .string s1) rfl (wantN rfl) (fun _ => by kernel_rfl) ?_
              refine SOps.val (v := .int .i64 x33) rfl (wantN rfl) (fun _ => by kernel_rfl) ?_
              refine SOps.val (v := .int .i64 x33) rfl (wantN rfl) (fun _ => by kernel_rfl) ?_
              refine SOps.val (v := .int .i64 x32) rfl (wantN rfl) (fun _ => by kernel_rfl) ?_
              refine SOps.val (v := .int .i64 (w64 (x33 + x32))) rfl (wantN rfl) (fun _ => by kernel_rfl) ?_
              obtain ⟨c58, c59, c60, h⟩ := h
              refine SOps.val (v := .string (s1.extract x33.toNat (w64 (x33 + x32)).toNat)) rfl (wantN rfl) (fun w => ev_subS (a := x33) (b := (w64 (x33 + x32))) rfl Tryd.underlying9 rfl (Or.inr ⟨_, rfl⟩) (Or.inr ⟨_, rfl⟩) c58 c59 c60 w) ?_
              refine SOps.val (v := .int .i64 x33) rfl (wantN rfl) (fun _ => by kernel_rfl) ?_
              refine SOps.val (v := .int .i64 x32) rfl (wantN rfl) (fun _ => by kernel_rfl) ?_
              refine SOps.val (v := .int .i64 (w64 (x33 + x32))) rfl (wantN rfl) (fun _ => by kernel_rfl) ?_
              refine SOps.val (v := .string (s1.extract x33.toNat (w64 (x33 + x32)).toNat)) rfl (wantN rfl) (fun _ => by kernel_rfl) ?_
              refine SOps.val (v := .int .i64 (w64 (x33 + x32))) rfl (wantN rfl) (fun _ => by kernel_rfl) ?_
              refine SOps.val (v := errV none) rfl (wantN rfl) (fun _ => by kernel_rfl) ?_
              refine SOps.nil ?_
              obtain ⟨Hr, hr, h⟩ := h
              exact SW.ret (retQ.mk (.tuple #[.string (s1.extract x33.toNat (w64 (x33 + x32)).toNat), .int .i64 (w64 (x33 + x32)), errV none]) (res3 rfl rfl rfl rfl) hr ⟨s1.extract x33.toNat (w64 (x33 + x32)).toNat, w64 (x33 + x32), none, rfl, h⟩)

/-! ### lading/frame.All: function 52 -/
def frame_All.r1 (F : Nat) (K : Sl → Int → SH → Prop) (R1 : ByteArray → Sl → Int → SH → Prop) (s2 : ByteArray) (l3 : Sl) (x4 : Int) (H : SH) : Prop :=
  frame_Next.wp F s2 x4 H (fun s5 x6 e7 H8 =>
    (e7 = none →
      AppendQ H8 9 1 16 l3 1 [.string s5] (fun l10 H11 =>
        R1 s2 l10 x6 H11
      )
    ) ∧ (∀ v9, e7 = some v9 →
      ∃ Hr, SH.le Hr H8 ∧ K l3 x4 Hr
    )
  )
def frame_All.l1 (F : Nat) (K : Sl → Int → SH → Prop) : Nat → ByteArray → Sl → Int → SH → Prop
  | 0, _, _, _, _ => False
  | k + 1, s2, l3, x4, H => frame_All.r1 F K (frame_All.l1 F K k) s2 l3 x4 H
def frame_All.wp (F : Nat) (s1 : ByteArray) (H : SH) (K : Sl → Int → SH → Prop) : Prop :=
  frame_All.l1 F K F s1 Sl.nil 0 H
set_option maxHeartbeats 8000000 in
theorem frame_All.sound (F : Nat) (s1 : ByteArray) (H : SH) (K : Sl → Int → SH → Prop) (h : frame_All.wp F s1 H K) : SCalls Tryd.prog 52 #[.string s1] H (fun v H' => ∃ (l19 : Sl) (x20 : Int), v = .tuple #[sv l19, .int .i64 x20] ∧ K l19 x20 H') := by
  unfold frame_All.wp at h
  refine SCalls.body Tryd.func52 rfl (Nat.le_of_ble_eq_true rfl) ?_
  refine SW.seq ?_
  refine SW.region ?_
  refine SOps.val (v := sv Sl.nil) rfl (wantN rfl) (fun _ => by kernel_rfl) ?_
  refine SOps.val (v := .int .i64 0) rfl (wantN rfl) (fun _ => by kernel_rfl) ?_
  refine SOps.nil ?_
  refine SW.seq ?_
  refine SW.region ?_
  refine SOps.val (v := sv Sl.nil) rfl (wantN rfl) (fun _ => by kernel_rfl) ?_
  refine SOps.nil ?_
  refine SW.seq ?_
  refine SW.region ?_
  refine SOps.val (v := .int .i64 0) rfl (wantN rfl) (fun _ => by kernel_rfl) ?_
  refine SOps.nil ?_
  refine SW.block ?_
  refine SW.loop (fun k1 fr H => ∃ (g : Fr) (s2 : ByteArray) (l3 : Sl) (x4 : Int), fr = g.upds [(0, (.string s2 : Value)), (4, sv l3), (5, (.int .i64 x4 : Value))] ∧ frame_All.l1 F K k1 s2 l3 x4 H) F ⟨_, s1, Sl.nil, 0, (Fr.upds_self _ _ ⟨rfl, rfl, rfl, trivial⟩), h⟩ ?_
  clear h
  rintro k1 fr H ⟨g, s2, l3, x4, rfl, h⟩
  cases k1 with
  | zero => exact h.elim
  | succ k1 =>
    replace h : frame_All.r1 F K (frame_All.l1 F K k1) s2 l3 x4 H := h
    unfold frame_All.r1 at h
    refine SW.block ?_
    refine SW.seq ?_
    refine SW.region ?_
    refine SOps.val (v := .string s2) rfl (wantN rfl) (fun _ => by kernel_rfl) ?_
    refine SOps.val (v := .int .i64 x4) rfl (wantN rfl) (fun _ => by kernel_rfl) ?_
    refine SOps.enter rfl (wantN rfl) (fun _ => by kernel_rfl) (frame_Next.sound F s2 x4 H _ h) ?_
    clear h
    rintro v H8 ⟨s5, x6, e7, rfl, h⟩
    refine SOps.val (v := .tuple #[.string s5, .int .i64 x6, errV e7]) rfl (wantN rfl) (fun _ => by kernel_rfl) ?_
    refine SOps.val (v := .string s5) rfl (wantN rfl) (fun _ => by kernel_rfl) ?_
    refine SOps.val (v := .int .i64 x6) rfl (wantN rfl) (fun _ => by kernel_rfl) ?_
    refine SOps.val (v := errV e7) rfl (wantN rfl) (fun _ => by kernel_rfl) ?_
    refine SOps.val (v := .string s5) rfl (wantN rfl) (fun _ => by kernel_rfl) ?_
    refine SOps.val (v := .int .i64 x6) rfl (wantN rfl) (fun _ => by kernel_rfl) ?_
    refine SOps.val (v := errV e7) rfl (wantN rfl) (fun _ => by kernel_rfl) ?_
    refine SOps.nil ?_
    refine SW.seq ?_
    refine SW.seq ?_
    refine SW.region ?_
    refine SOps.val (v := errV e7) rfl (wantN rfl) (fun _ => by kernel_rfl) ?_
    rcases e7 with _ | v9
    · replace h := h.1 rfl
      refine SOps.val (v := .bool false) rfl (wantN rfl) (fun w => ev_errNe (e := none) rfl Tryd.underlying28 rfl rfl w) ?_
      refine SOps.nil ?_
      refine SW.cond_f (t := false) rfl rfl ?_
      refine SW.skip ?_
      refine SW.region ?_
      refine SOps.val (v := sv l3) rfl (wantN rfl) (fun _ => by kernel_rfl) ?_
      refine SOps.val (v := .string s5) rfl (wantN rfl) (fun _ => by kernel_rfl) ?_
      refine SOps.litAppend (E := 9) (z := .string ByteArray.empty) (size := 1) (bytes := 16) (cs := #[.string s5]) rfl rfl (wantN rfl) (fun _ => by kernel_rfl) rfl rfl (fun _ => wantN rfl) Tryd.underlying55 Tryd.underlying55 (by kernel_rfl) rfl rfl (fun _ => rfl) (AppendQ.mono h ?_)
      clear h
      intro l10 H11 h b12
      refine SOps.val (v := .int .i64 x6) rfl (wantN rfl) (fun _ => by kernel_rfl) ?_
      refine SOps.val (v := sv l10) rfl (wantN rfl) (fun _ => by kernel_rfl) ?_
      refine SOps.val (v := .int .i64 x6) rfl (wantN rfl) (fun _ => by kernel_rfl) ?_
      refine SOps.nil ?_
      exact ⟨k1, Nat.lt_succ_self k1, _, s2, l10, x6, (Fr.upds_self _ _ ⟨rfl, rfl, rfl, trivial⟩), h⟩
    · replace h := h.2 v9 rfl
      refine SOps.val (v := .bool true) rfl (wantN rfl) (fun w => ev_errNe (e := some v9) rfl Tryd.underlying28 rfl rfl w) ?_
      refine SOps.nil ?_
      refine SW.cond_t (t := true) rfl rfl ?_
      refine SW.seq ?_
      refine SW.region ?_
      refine SOps.val (v := sv l3) rfl (wantN rfl) (fun _ => by kernel_rfl) ?_
      refine SOps.val (v := .int .i64 x4) rfl (wantN rfl) (fun _ => by kernel_rfl) ?_
      refine SOps.val (v := sv l3) rfl (wantN rfl) (fun _ => by kernel_rfl) ?_
      refine SOps.val (v := .int .i64 x4) rfl (wantN rfl) (fun _ => by kernel_rfl) ?_
      refine SOps.nil ?_
      obtain ⟨Hr, hr, h⟩ := h
      exact SW.ret (retQ.mk (.tuple #[sv l3, .int .i64 x4]) (res2 rfl rfl rfl) hr ⟨l3, x4, rfl, h⟩)

/-! ### lading/frame.Seal: function 53 -/
def frame_Seal.wp (F : Nat) (s1 : ByteArray) (H : SH) (K : ByteArray → Option EV → SH → Prop) : Prop :=
  ((s1.size : Int) > 60000 →
    ∃ Hr, SH.le Hr H ∧ K ByteArray.empty (some (EV.no 6)) Hr
  ) ∧ (¬ ((s1.size : Int) > 60000) →
    octet_PutFixed.wp F 2 (s1.size : Int) H (fun s3 e4 H5 =>
      ∀ b6, H5 b6 = none →
      frame_Sum.wp F (⟨some (b6, 0), 2, 2⟩ : Sl) (SH.upd H5 b6 ⟨[.string s3, .string s1], 9, false, 2⟩) (fun x8 H9 =>
        octet_PutFixed.wp F 4 x8 H9 (fun s10 e11 H12 =>
          s10.size + s3.size ≤ 9223372036854775807 ∧
          (s10 ++ s3).size + s1.size ≤ 9223372036854775807 ∧
          ∃ Hr, SH.le Hr H12 ∧ K ((s10 ++ s3) ++ s1) none Hr
        )
      )
    )
  )
set_option maxHeartbeats 8000000 in
theorem frame_Seal.sound (F : Nat) (s1 : ByteArray) (H : SH) (K : ByteArray → Option EV → SH → Prop) (h : frame_Seal.wp F s1 H K) : SCalls Tryd.prog 53 #[.string s1] H (fun v H' => ∃ (s17 : ByteArray) (e18 : Option EV), v = .tuple #[.string s17, errV e18] ∧ K s17 e18 H') := by
  unfold frame_Seal.wp at h
  refine SCalls.body Tryd.func53 rfl (Nat.le_of_ble_eq_true rfl) ?_
  refine SW.seq ?_
  refine SW.region ?_
  refine SOps.val (v := .string ByteArray.empty) rfl (wantN rfl) (fun _ => by kernel_rfl) ?_
  refine SOps.val (v := errV none) rfl (wantN rfl) (fun _ => by kernel_rfl) ?_
  refine SOps.nil ?_
  refine SW.seq ?_
  refine SW.seq ?_
  refine SW.region ?_
  refine SOps.val (v := .string s1) rfl (wantN rfl) (fun _ => by kernel_rfl) ?_
  refine SOps.val (v := .int .i64 (s1.size : Int)) rfl (wantN rfl) (fun _ => by kernel_rfl) ?_
  refine SOps.val (v := .bool (decide ((s1.size : Int) > 60000))) rfl (wantN rfl) (fun _ => by kernel_rfl) ?_
  refine SOps.nil ?_
  by_cases c2 : (s1.size : Int) > 60000
  · replace h := h.1 c2
    have dc2 : (decide ((s1.size : Int) > 60000)) = true := (decide_eq_true c2)
    refine SW.cond_t (t := decide ((s1.size : Int) > 60000)) rfl dc2 ?_
    refine SW.seq ?_
    refine SW.region ?_
    refine SOps.val (v := errV (some (EV.no 6))) rfl (wantN rfl) (fun _ => by kernel_rfl) ?_
    refine SOps.val (v := .string ByteArray.empty) rfl (wantN rfl) (fun _ => by kernel_rfl) ?_
    refine SOps.val (v := errV (some (EV.no 6))) rfl (wantN rfl) (fun _ => by kernel_rfl) ?_
    refine SOps.nil ?_
    obtain ⟨Hr, hr, h⟩ := h
    exact SW.ret (retQ.mk (.tuple #[.string ByteArray.empty, errV (some (EV.no 6))]) (res2 rfl rfl rfl) hr ⟨ByteArray.empty, some (EV.no 6), rfl, h⟩)
  · replace h := h.2 c2
    have dc2 : (decide ((s1.size : Int) > 60000)) = false := (decide_eq_false c2)
    refine SW.cond_f (t := decide ((s1.size : Int) > 60000)) rfl dc2 ?_
    refine SW.skip ?_
    refine SW.seq ?_
    refine SW.region ?_
    refine SOps.val (v := .string s1) rfl (wantN rfl) (fun _ => by kernel_rfl) ?_
    refine SOps.val (v := .int .i64 (s1.size : Int)) rfl (wantN rfl) (fun _ => by kernel_rfl) ?_
    refine SOps.enter rfl (wantN rfl) (fun _ => by kernel_rfl) (octet_PutFixed.sound F 2 (s1.size : Int) H _ h) ?_
    clear h
    rintro v H5 ⟨s3, e4, rfl, h⟩
    refine SOps.val (v := .tuple #[.string s3, errV e4]) rfl (wantN rfl) (fun _ => by kernel_rfl) ?_
    refine SOps.val (v := .string s3) rfl (wantN rfl) (fun _ => by kernel_rfl) ?_
    refine SOps.val (v := errV e4) rfl (wantN rfl) (fun _ => by kernel_rfl) ?_
    refine SOps.val (v := .string s3) rfl (wantN rfl) (fun _ => by kernel_rfl) ?_
    refine SOps.val (v := errV e4) rfl (wantN rfl) (fun _ => by kernel_rfl) ?_
    refine SOps.nil ?_
    refine SW.seq ?_
    refine SW.region ?_
    refine SOps.val (v := .string s3) rfl (wantN rfl) (fun _ => by kernel_rfl) ?_
    refine SOps.val (v := .string s1) rfl (wantN rfl) (fun _ => by kernel_rfl) ?_
    refine SOps.lit (E := 9) (cs := #[.string s3, .string s1]) rfl rfl (wantN rfl) (fun _ => by kernel_rfl) (fun b6 c7 => ?_)
    replace h := h b6 c7
    refine SOps.enter rfl (wantN rfl) (fun _ => by kernel_rfl) (frame_Sum.sound F (⟨some (b6, 0), 2, 2⟩ : Sl) (SH.upd H5 b6 ⟨[.string s3, .string s1], 9, false, 2⟩) _ h) ?_
    clear h
    rintro v H9 ⟨x8, rfl, h⟩
    refine SOps.enter rfl (wantN rfl) (fun _ => by kernel_rfl) (octet_PutFixed.sound F 4 x8 H9 _ h) ?_
    clear h
    rintro v H12 ⟨s10, e11, rfl, h⟩
    refine SOps.val (v := .tuple #[.string s10, errV e11]) rfl (wantN rfl) (fun _ => by kernel_rfl) ?_
    refine SOps.val (v := .string s10) rfl (wantN rfl) (fun _ => by kernel_rfl) ?_
    refine SOps.val (v := errV e11) rfl (wantN rfl) (fun _ => by kernel_rfl) ?_
    refine SOps.val (v := .string s10) rfl (wantN rfl) (fun _ => by kernel_rfl) ?_
    refine SOps.val (v := errV e11) rfl (wantN rfl) (fun _ => by kernel_rfl) ?_
    refine SOps.nil ?_
    refine SW.seq ?_
    refine SW.region ?_
    refine SOps.val (v := .string s10) rfl (wantN rfl) (fun _ => by kernel_rfl) ?_
    refine SOps.val (v := .string s3) rfl (wantN rfl) (fun _ => by kernel_rfl) ?_
    obtain ⟨c13, h⟩ := h
    refine SOps.val (v := .string (s10 ++ s3)) rfl (wantN rfl) (fun w => ev_cat rfl rfl rfl c13 w) ?_
    refine SOps.val (v := .string s1) rfl (wantN rfl) (fun _ => by kernel_rfl) ?_
    obtain ⟨c14, h⟩ := h
    refine SOps.val (v := .string ((s10 ++ s3) ++ s1)) rfl (wantN rfl) (fun w => ev_cat rfl rfl rfl c14 w) ?_
    refine SOps.val (v := .string ((s10 ++ s3) ++ s1)) rfl (wantN rfl) (fun _ => by kernel_rfl) ?_
    refine SOps.val (v := errV none) rfl (wantN rfl) (fun _ => by kernel_rfl) ?_
    refine SOps.nil ?_
    obtain ⟨Hr, hr, h⟩ := h
    exact SW.ret (retQ.mk (.tuple #[.string ((s10 ++ s3) ++ s1), errV none]) (res2 rfl rfl rfl) hr ⟨(s10 ++ s3) ++ s1, none, rfl, h⟩)

end Go.Proofs.YtknhlipealekoaaDoor.K
