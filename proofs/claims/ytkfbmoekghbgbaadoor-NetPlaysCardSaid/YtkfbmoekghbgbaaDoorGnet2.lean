import Derived.Test.YtkfbmoekghbgbaaDoorGnet
set_option linter.unusedVariables false
set_option linter.unusedSimpArgs false
set_option maxRecDepth 100000
namespace Go.Proofs.YtkfbmoekghbgbaaDoor.K
open Go
attribute [local irreducible] SW SOps SQ SCalls retQ

/-! ### (*lading/net.Net).Clear$1: function 37 -/
def net_Net_Clear_1.wp (F : Nat) (x1 : Int) (x2 : Int) (s3 : ByteArray) (q4 : Bool) (p5 : Option (Nat × Nat)) (H : SH) (K : Bool → SH → Prop) : Prop :=
  ∀ b6, H b6 = none →
  ∃ (x8 : Int),
  SH.has (SH.upd H b6 ⟨[.int .i64 x1, .int .i64 x2, .string s3, .bool q4], 75, false, 4⟩) (b6, 0) (.int .i64 x8) ∧
  (p5 = none →
    False
  ) ∧ (∀ b10 o11, p5 = some (b10, o11) →
    ∃ (x12 : Int),
    SH.has (SH.upd H b6 ⟨[.int .i64 x1, .int .i64 x2, .string s3, .bool q4], 75, false, 4⟩) (b10, o11) (.int .i64 x12) ∧
    (x8 = x12 →
      ∃ Hr, SH.le Hr (SH.upd H b6 ⟨[.int .i64 x1, .int .i64 x2, .string s3, .bool q4], 75, false, 4⟩) ∧ K true Hr
    ) ∧ (¬ (x8 = x12) →
      ∃ (x15 : Int),
      SH.has (SH.upd H b6 ⟨[.int .i64 x1, .int .i64 x2, .string s3, .bool q4], 75, false, 4⟩) (b6, 1) (.int .i64 x15) ∧
      ∃ (x17 : Int),
      SH.has (SH.upd H b6 ⟨[.int .i64 x1, .int .i64 x2, .string s3, .bool q4], 75, false, 4⟩) (b10, o11) (.int .i64 x17) ∧
      ∃ Hr, SH.le Hr (SH.upd H b6 ⟨[.int .i64 x1, .int .i64 x2, .string s3, .bool q4], 75, false, 4⟩) ∧ K (x15 == x17) Hr
    )
  )
set_option maxHeartbeats 8000000 in
theorem net_Net_Clear_1.sound (F : Nat) (x1 : Int) (x2 : Int) (s3 : ByteArray) (q4 : Bool) (p5 : Option (Nat × Nat)) (H : SH) (K : Bool → SH → Prop) (h : net_Net_Clear_1.wp F x1 x2 s3 q4 p5 H K) : SCalls Tryd.prog 37 #[.agg #[.int .i64 x1, .int .i64 x2, .string s3, .bool q4], pv p5] H (fun v H' => ∃ (q20 : Bool), v = .bool q20 ∧ K q20 H') := by
  unfold net_Net_Clear_1.wp at h
  refine SCalls.body Tryd.func37 rfl (Nat.le_of_ble_eq_true rfl) ?_
  refine SW.seq ?_
  refine SW.region ?_
  refine SOps.box rfl rfl (wantN rfl) (v := .agg #[.int .i64 x1, .int .i64 x2, .string s3, .bool q4]) rfl (fun b6 c7 => ?_)
  replace h := h b6 c7
  refine SOps.val (v := .bool false) rfl (wantN rfl) (fun _ => by kernel_rfl) ?_
  refine SOps.nil ?_
  refine SW.seq ?_
  refine SW.region ?_
  refine SOps.val (v := pv (some (b6, 0))) rfl (wantN rfl) (fun _ => by kernel_rfl) ?_
  refine SOps.val (v := pv (some (b6, 0))) rfl (wantN rfl) (fun _ => by kernel_rfl) ?_
  obtain ⟨x8, c9, h⟩ := h
  refine SOps.rd (v := .int .i64 x8) rfl (wantN rfl) (fun w hw => ev_load1 rfl (fun _ => by kernel_rfl) (p := (b6, 0)) rfl c9 w hw) ?_
  rcases p5 with _ | ⟨b10, o11⟩
  · replace h := h.1 rfl
    exact h.elim
  · replace h := h.2 b10 o11 rfl
    obtain ⟨x12, c13, h⟩ := h
    refine SOps.rd (v := .int .i64 x12) rfl (wantN rfl) (fun w hw => ev_load1 rfl (fun _ => by kernel_rfl) (p := (b10, o11)) rfl c13 w hw) ?_
    refine SOps.val (v := .bool (x8 == x12)) rfl (wantN rfl) (fun _ => by kernel_rfl) ?_
    refine SOps.val (v := .bool (x8 == x12)) rfl (wantN rfl) (fun _ => by kernel_rfl) ?_
    by_cases c14 : x8 = x12
    · replace h := h.1 c14
      have dc14 : (x8 == x12) = true := (beq_iff_eq.mpr c14)
      refine SOps.off rfl (wantX (c := (x8 == x12)) rfl rfl rfl dc14) ?_
      refine SOps.off rfl (wantX (c := (x8 == x12)) rfl rfl rfl dc14) ?_
      refine SOps.off rfl (wantX (c := (x8 == x12)) rfl rfl rfl dc14) ?_
      refine SOps.off rfl (wantX (c := (x8 == x12)) rfl rfl rfl dc14) ?_
      refine SOps.off rfl (wantX (c := (x8 == x12)) rfl rfl rfl dc14) ?_
      refine SOps.val (v := .bool true) rfl (wantN rfl) (fun w => ev_pickT (v := .bool true) rfl (t := (x8 == x12)) rfl dc14 rfl w) ?_
      refine SOps.val (v := .bool true) rfl (wantN rfl) (fun _ => by kernel_rfl) ?_
      refine SOps.nil ?_
      obtain ⟨Hr, hr, h⟩ := h
      exact SW.ret (retQ.mk (.bool true) (res1 rfl rfl) hr ⟨true, rfl, h⟩)
    · replace h := h.2 c14
      have dc14 : (x8 == x12) = false := (beq_eq_false_iff_ne.mpr c14)
      refine SOps.val (v := pv (some (b6, 0))) rfl (wantY (c := (x8 == x12)) rfl rfl rfl dc14) (fun _ => by kernel_rfl) ?_
      refine SOps.val (v := pv (some (b6, 1))) rfl (wantY (c := (x8 == x12)) rfl rfl rfl dc14) (fun _ => by kernel_rfl) ?_
      obtain ⟨x15, c16, h⟩ := h
      refine SOps.rd (v := .int .i64 x15) rfl (wantY (c := (x8 == x12)) rfl rfl rfl dc14) (fun w hw => ev_load1 rfl (fun _ => by kernel_rfl) (p := (b6, 1)) rfl c16 w hw) ?_
      obtain ⟨x17, c18, h⟩ := h
      refine SOps.rd (v := .int .i64 x17) rfl (wantY (c := (x8 == x12)) rfl rfl rfl dc14) (fun w hw => ev_load1 rfl (fun _ => by kernel_rfl) (p := (b10, o11)) rfl c18 w hw) ?_
      refine SOps.val (v := .bool (x15 == x17)) rfl (wantY (c := (x8 == x12)) rfl rfl rfl dc14) (fun _ => by kernel_rfl) ?_
      refine SOps.val (v := .bool (x15 == x17)) rfl (wantN rfl) (fun w => ev_pickF (v := .bool (x15 == x17)) rfl (t := (x8 == x12)) rfl dc14 rfl w) ?_
      refine SOps.val (v := .bool (x15 == x17)) rfl (wantN rfl) (fun _ => by kernel_rfl) ?_
      refine SOps.nil ?_
      obtain ⟨Hr, hr, h⟩ := h
      exact SW.ret (retQ.mk (.bool (x15 == x17)) (res1 rfl rfl) hr ⟨(x15 == x17), rfl, h⟩)

/-! ### slices.IndexFunc[[]lading/net.flying,lading/net.flying]: function 62 -/
def slices_IndexFunc_net_flying_net_flying__net_Net_Clear_1.r1 (F : Nat) (K : Int → SH → Prop) (R1 : Sl → Option (Nat × Nat) → Int → Int → SH → Prop) (l3 : Sl) (p4 : Option (Nat × Nat)) (x5 : Int) (x6 : Int) (H : SH) : Prop :=
  (x6 < x5 →
    ∃ p8, l3.a = some p8 ∧ 0 ≤ x6 ∧ x6 < (l3.len : Int) ∧
    ∃ (x12 : Int) (x13 : Int) (s14 : ByteArray) (q15 : Bool),
    SH.row H (some (p8.1, (p8.2 + x6.toNat * 4))) [.int .i64 x12, .int .i64 x13, .string s14, .bool q15] ∧
    net_Net_Clear_1.wp F x12 x13 s14 q15 p4 H (fun q17 H18 =>
      (q17 = true →
        ∃ Hr, SH.le Hr H18 ∧ K x6 Hr
      ) ∧ (¬ (q17 = true) →
        R1 l3 p4 x5 (w64 (x6 + 1)) H18
      )
    )
  ) ∧ (¬ (x6 < x5) →
    ∃ Hr, SH.le Hr H ∧ K (-1) Hr
  )
def slices_IndexFunc_net_flying_net_flying__net_Net_Clear_1.l1 (F : Nat) (K : Int → SH → Prop) : Nat → Sl → Option (Nat × Nat) → Int → Int → SH → Prop
  | 0, _, _, _, _, _ => False
  | k + 1, l3, p4, x5, x6, H => slices_IndexFunc_net_flying_net_flying__net_Net_Clear_1.r1 F K (slices_IndexFunc_net_flying_net_flying__net_Net_Clear_1.l1 F K k) l3 p4 x5 x6 H
def slices_IndexFunc_net_flying_net_flying__net_Net_Clear_1.wp (F : Nat) (l1 : Sl) (p2 : Option (Nat × Nat)) (H : SH) (K : Int → SH → Prop) : Prop :=
  slices_IndexFunc_net_flying_net_flying__net_Net_Clear_1.l1 F K F l1 p2 (l1.len : Int) 0 H
set_option maxHeartbeats 8000000 in
theorem slices_IndexFunc_net_flying_net_flying__net_Net_Clear_1.sound (F : Nat) (l1 : Sl) (p2 : Option (Nat × Nat)) (H : SH) (K : Int → SH → Prop) (h : slices_IndexFunc_net_flying_net_flying__net_Net_Clear_1.wp F l1 p2 H K) : SCalls Tryd.prog 62 #[sv l1, .func (.func 37) #[] #[pv p2]] H (fun v H' => ∃ (x23 : Int), v = .int .i64 x23 ∧ K x23 H') := by
  unfold slices_IndexFunc_net_flying_net_flying__net_Net_Clear_1.wp at h
  refine SCalls.body Tryd.func62 rfl (Nat.le_of_ble_eq_true rfl) ?_
  refine SW.seq ?_
  refine SW.region ?_
  refine SOps.val (v := .int .i64 0) rfl (wantN rfl) (fun _ => by kernel_rfl) ?_
  refine SOps.nil ?_
  refine SW.seq ?_
  refine SW.seq ?_
  refine SW.region ?_
  refine SOps.val (v := sv l1) rfl (wantN rfl) (fun _ => by kernel_rfl) ?_
  refine SOps.val (v := .int .i64 (l1.len : Int)) rfl (wantN rfl) (fun _ => by kernel_rfl) ?_
  refine SOps.val (v := .int .i64 0) rfl (wantN rfl) (fun _ => by kernel_rfl) ?_
  refine SOps.nil ?_
  refine SW.block ?_
  refine SW.loop (fun k1 fr H => ∃ (g : Fr) (l3 : Sl) (p4 : Option (Nat × Nat)) (x5 : Int) (x6 : Int), fr = g.upds [(0, sv l3), (1, (.func (.func 37) #[] #[pv p4] : Value)), (7, (.int .i64 x5 : Value)), (8, (.int .i64 x6 : Value))] ∧ slices_IndexFunc_net_flying_net_flying__net_Net_Clear_1.l1 F K k1 l3 p4 x5 x6 H) F ⟨_, l1, p2, (l1.len : Int), 0, (Fr.upds_self _ _ ⟨rfl, rfl, rfl, rfl, trivial⟩), h⟩ ?_
  clear h
  rintro k1 fr H ⟨g, l3, p4, x5, x6, rfl, h⟩
  cases k1 with
  | zero => exact h.elim
  | succ k1 =>
    replace h : slices_IndexFunc_net_flying_net_flying__net_Net_Clear_1.r1 F K (slices_IndexFunc_net_flying_net_flying__net_Net_Clear_1.l1 F K k1) l3 p4 x5 x6 H := h
    unfold slices_IndexFunc_net_flying_net_flying__net_Net_Clear_1.r1 at h
    refine SW.seq ?_
    refine SW.region ?_
    refine SOps.val (v := .bool (decide (x6 < x5))) rfl (wantN rfl) (fun _ => by kernel_rfl) ?_
    refine SOps.nil ?_
    refine SW.seq ?_
    by_cases c7 : x6 < x5
    · replace h := h.1 c7
      have dc7 : (decide (x6 < x5)) = true := (decide_eq_true c7)
      refine SW.cond_t (t := decide (x6 < x5)) rfl dc7 ?_
      refine SW.skip ?_
      refine SW.seq ?_
      refine SW.block ?_
      refine SW.seq ?_
      refine SW.region ?_
      refine SOps.val (v := .int .i64 x6) rfl (wantN rfl) (fun _ => by kernel_rfl) ?_
      refine SOps.val (v := .int .i64 x6) rfl (wantN rfl) (fun _ => by kernel_rfl) ?_
      refine SOps.nil ?_
      refine SW.seq ?_
      refine SW.region ?_
      refine SOps.val (v := .func (.func 37) #[] #[pv p4]) rfl (wantN rfl) (fun _ => by kernel_rfl) ?_
      refine SOps.val (v := sv l3) rfl (wantN rfl) (fun _ => by kernel_rfl) ?_
      refine SOps.val (v := .int .i64 x6) rfl (wantN rfl) (fun _ => by kernel_rfl) ?_
      obtain ⟨p8, c9, c10, c11, h⟩ := h
      refine SOps.val (v := pv (some (p8.1, (p8.2 + x6.toNat * 4)))) rfl (wantN rfl) (fun w => ev_iaddr rfl Tryd.underlying67 (size := 4) (by kernel_rfl) rfl rfl c9 c10 c11 w) ?_
      obtain ⟨x12, x13, s14, q15, c16, h⟩ := h
      refine SOps.rd (v := .agg #[.int .i64 x12, .int .i64 x13, .string s14, .bool q15]) rfl (wantN rfl) (fun w hw => ev_loadN rfl (fun _ => by kernel_rfl) (size := 4) (by kernel_rfl) (p := (p8.1, (p8.2 + x6.toNat * 4))) rfl rfl c16 w hw) ?_
      refine SOps.enter rfl (wantN rfl) (fun _ => by kernel_rfl) (net_Net_Clear_1.sound F x12 x13 s14 q15 p4 H _ h) ?_
      clear h
      rintro v H18 ⟨q17, rfl, h⟩
      refine SOps.nil ?_
      by_cases c19 : q17 = true
      · replace h := h.1 c19
        have dc19 : q17 = true := c19
        refine SW.cond_t (t := q17) rfl dc19 ?_
        refine SW.seq ?_
        refine SW.region ?_
        refine SOps.val (v := .int .i64 x6) rfl (wantN rfl) (fun _ => by kernel_rfl) ?_
        refine SOps.val (v := .int .i64 x6) rfl (wantN rfl) (fun _ => by kernel_rfl) ?_
        refine SOps.nil ?_
        obtain ⟨Hr, hr, h⟩ := h
        exact SW.ret (retQ.mk (.int .i64 x6) (res1 rfl rfl) hr ⟨x6, rfl, h⟩)
      · replace h := h.2 c19
        have dc19 : q17 = false := (Bool.eq_false_iff.mpr c19)
        refine SW.cond_f (t := q17) rfl dc19 ?_
        refine SW.skip ?_
        refine SW.region ?_
        refine SOps.val (v := .int .i64 (w64 (x6 + 1))) rfl (wantN rfl) (fun _ => by kernel_rfl) ?_
        refine SOps.val (v := .int .i64 (w64 (x6 + 1))) rfl (wantN rfl) (fun _ => by kernel_rfl) ?_
        refine SOps.nil ?_
        exact ⟨k1, Nat.lt_succ_self k1, _, l3, p4, x5, w64 (x6 + 1), (Fr.upds_self _ _ ⟨rfl, rfl, rfl, rfl, trivial⟩), h⟩
    · replace h := h.2 c7
      have dc7 : (decide (x6 < x5)) = false := (decide_eq_false c7)
      refine SW.cond_f (t := decide (x6 < x5)) rfl dc7 ?_
      refine SW.exit ?_
      refine SW.seq ?_
      refine SW.region ?_
      refine SOps.val (v := .int .i64 (-1)) rfl (wantN rfl) (fun _ => by kernel_rfl) ?_
      refine SOps.nil ?_
      obtain ⟨Hr, hr, h⟩ := h
      exact SW.ret (retQ.mk (.int .i64 (-1)) (res1 rfl rfl) hr ⟨(-1), rfl, h⟩)
/-! ### slices.DeleteFunc[[]lading/net.flying,lading/net.flying]: function 36 -/
def slices_DeleteFunc_net_flying_net_flying__net_Net_Clear_1.j1 (F : Nat) (K : Sl → SH → Prop) (R1 : Sl → Option (Nat × Nat) → Int → Int → SH → Prop) (l45 : Sl) (p46 : Option (Nat × Nat)) (x47 : Int) (x48 : Int) (H : SH) : Prop :=
  R1 l45 p46 x47 (w64 (x48 + 1)) H
def slices_DeleteFunc_net_flying_net_flying__net_Net_Clear_1.j2 (F : Nat) (K : Sl → SH → Prop) (R1 : Sl → Option (Nat × Nat) → Int → Int → SH → Prop) (l31 : Sl) (p32 : Option (Nat × Nat)) (x33 : Int) (x34 : Int) (H : SH) : Prop :=
  slices_DeleteFunc_net_flying_net_flying__net_Net_Clear_1.j1 F K R1 l31 p32 x33 x34 H
def slices_DeleteFunc_net_flying_net_flying__net_Net_Clear_1.r1 (F : Nat) (K : Sl → SH → Prop) (R1 : Sl → Option (Nat × Nat) → Int → Int → SH → Prop) (l6 : Sl) (p7 : Option (Nat × Nat)) (x8 : Int) (x9 : Int) (H : SH) : Prop :=
  (x9 < (l6.len : Int) →
    ∃ p11, l6.a = some p11 ∧ 0 ≤ x9 ∧ x9 < (l6.len : Int) ∧
    ∃ (x15 : Int) (x16 : Int) (s17 : ByteArray) (q18 : Bool),
    SH.row H (some (p11.1, (p11.2 + x9.toNat * 4))) [.int .i64 x15, .int .i64 x16, .string s17, .bool q18] ∧
    ∀ b20, H b20 = none →
    SH.wrs (SH.upd H b20 ⟨[.int .i64 0, .int .i64 0, .string ByteArray.empty, .bool false], 75, false, 4⟩) (b20, 0) 4 ∧
    ∃ (x23 : Int) (x24 : Int) (s25 : ByteArray) (q26 : Bool),
    SH.row (SH.setl (SH.upd H b20 ⟨[.int .i64 0, .int .i64 0, .string ByteArray.empty, .bool false], 75, false, 4⟩) (b20, 0) [.int .i64 x15, .int .i64 x16, .string s17, .bool q18]) (some (b20, 0)) [.int .i64 x23, .int .i64 x24, .string s25, .bool q26] ∧
    net_Net_Clear_1.wp F x23 x24 s25 q26 p7 (SH.setl (SH.upd H b20 ⟨[.int .i64 0, .int .i64 0, .string ByteArray.empty, .bool false], 75, false, 4⟩) (b20, 0) [.int .i64 x15, .int .i64 x16, .string s17, .bool q18]) (fun q28 H29 =>
      (q28 = true →
        slices_DeleteFunc_net_flying_net_flying__net_Net_Clear_1.j2 F K R1 l6 p7 x8 x9 H29
      ) ∧ (¬ (q28 = true) →
        ∃ (x35 : Int) (x36 : Int) (s37 : ByteArray) (q38 : Bool),
        SH.row H29 (some (b20, 0)) [.int .i64 x35, .int .i64 x36, .string s37, .bool q38] ∧
        ∃ p40, l6.a = some p40 ∧ 0 ≤ x8 ∧ x8 < (l6.len : Int) ∧
        SH.wrs H29 (p40.1, (p40.2 + x8.toNat * 4)) 4 ∧
        slices_DeleteFunc_net_flying_net_flying__net_Net_Clear_1.j2 F K R1 l6 p7 (w64 (x8 + 1)) x9 (SH.setl H29 (p40.1, (p40.2 + x8.toNat * 4)) [.int .i64 x35, .int .i64 x36, .string s37, .bool q38])
      )
    )
  ) ∧ (¬ (x9 < (l6.len : Int)) →
    0 ≤ x8 ∧
    x8 ≤ (l6.len : Int) ∧
    (l6.len : Int) ≤ (l6.cap : Int) ∧
    (∀ p, (Sl.sub 4 l6 x8.toNat (l6.len : Int).toNat l6.cap).a = some p → SH.wrs H p ((Sl.sub 4 l6 x8.toNat (l6.len : Int).toNat l6.cap).len * 4)) ∧
    0 ≤ (0 : Int) ∧
    (0 : Int) ≤ x8 ∧
    x8 ≤ (l6.cap : Int) ∧
    ∃ Hr, SH.le Hr (SH.cpy H (Sl.sub 4 l6 x8.toNat (l6.len : Int).toNat l6.cap).a (Builtin.zeroCells (Value.cells (.agg #[.int .i64 0, .int .i64 0, .string ByteArray.empty, .bool false] : Value)) (Sl.sub 4 l6 x8.toNat (l6.len : Int).toNat l6.cap).len).toList) ∧ K (Sl.sub 4 l6 (0 : Int).toNat x8.toNat l6.cap) Hr
  )
def slices_DeleteFunc_net_flying_net_flying__net_Net_Clear_1.l1 (F : Nat) (K : Sl → SH → Prop) : Nat → Sl → Option (Nat × Nat) → Int → Int → SH → Prop
  | 0, _, _, _, _, _ => False
  | k + 1, l6, p7, x8, x9, H => slices_DeleteFunc_net_flying_net_flying__net_Net_Clear_1.r1 F K (slices_DeleteFunc_net_flying_net_flying__net_Net_Clear_1.l1 F K k) l6 p7 x8 x9 H
def slices_DeleteFunc_net_flying_net_flying__net_Net_Clear_1.wp (F : Nat) (l1 : Sl) (p2 : Option (Nat × Nat)) (H : SH) (K : Sl → SH → Prop) : Prop :=
  slices_IndexFunc_net_flying_net_flying__net_Net_Clear_1.wp F l1 p2 H (fun x3 H4 =>
    (x3 = (-1) →
      ∃ Hr, SH.le Hr H4 ∧ K l1 Hr
    ) ∧ (¬ (x3 = (-1)) →
      slices_DeleteFunc_net_flying_net_flying__net_Net_Clear_1.l1 F K F l1 p2 x3 (w64 (x3 + 1)) H4
    )
  )
set_option maxHeartbeats 8000000 in
theorem slices_DeleteFunc_net_flying_net_flying__net_Net_Clear_1.sound (F : Nat) (l1 : Sl) (p2 : Option (Nat × Nat)) (H : SH) (K : Sl → SH → Prop) (h : slices_DeleteFunc_net_flying_net_flying__net_Net_Clear_1.wp F l1 p2 H K) : SCalls Tryd.prog 36 #[sv l1, .func (.func 37) #[] #[pv p2]] H (fun v H' => ∃ (l61 : Sl), v = sv l61 ∧ K l61 H') := by
  unfold slices_DeleteFunc_net_flying_net_flying__net_Net_Clear_1.wp at h
  refine SCalls.body Tryd.func36 rfl (Nat.le_of_ble_eq_true rfl) ?_
  refine SW.seq ?_
  refine SW.region ?_
  refine SOps.val (v := sv Sl.nil) rfl (wantN rfl) (fun _ => by kernel_rfl) ?_
  refine SOps.nil ?_
  refine SW.seq ?_
  refine SW.region ?_
  refine SOps.val (v := sv l1) rfl (wantN rfl) (fun _ => by kernel_rfl) ?_
  refine SOps.val (v := .func (.func 37) #[] #[pv p2]) rfl (wantN rfl) (fun _ => by kernel_rfl) ?_
  refine SOps.enter rfl (wantN rfl) (fun _ => by kernel_rfl) (slices_IndexFunc_net_flying_net_flying__net_Net_Clear_1.sound F l1 p2 H _ h) ?_
  clear h
  rintro v H4 ⟨x3, rfl, h⟩
  refine SOps.val (v := .int .i64 x3) rfl (wantN rfl) (fun _ => by kernel_rfl) ?_
  refine SOps.nil ?_
  refine SW.seq ?_
  refine SW.seq ?_
  refine SW.region ?_
  refine SOps.val (v := .int .i64 x3) rfl (wantN rfl) (fun _ => by kernel_rfl) ?_
  refine SOps.val (v := .bool (x3 == (-1))) rfl (wantN rfl) (fun _ => by kernel_rfl) ?_
  refine SOps.nil ?_
  by_cases c5 : x3 = (-1)
  · replace h := h.1 c5
    have dc5 : (x3 == (-1)) = true := (beq_iff_eq.mpr c5)
    refine SW.cond_t (t := (x3 == (-1))) rfl dc5 ?_
    refine SW.seq ?_
    refine SW.region ?_
    refine SOps.val (v := sv l1) rfl (wantN rfl) (fun _ => by kernel_rfl) ?_
    refine SOps.val (v := sv l1) rfl (wantN rfl) (fun _ => by kernel_rfl) ?_
    refine SOps.nil ?_
    obtain ⟨Hr, hr, h⟩ := h
    exact SW.ret (retQ.mk (sv l1) (res1 rfl rfl) hr ⟨l1, rfl, h⟩)
  · replace h := h.2 c5
    have dc5 : (x3 == (-1)) = false := (beq_eq_false_iff_ne.mpr c5)
    refine SW.cond_f (t := (x3 == (-1))) rfl dc5 ?_
    refine SW.skip ?_
    refine SW.seq ?_
    refine SW.seq ?_
    refine SW.region ?_
    refine SOps.val (v := .int .i64 x3) rfl (wantN rfl) (fun _ => by kernel_rfl) ?_
    refine SOps.val (v := .int .i64 (w64 (x3 + 1))) rfl (wantN rfl) (fun _ => by kernel_rfl) ?_
    refine SOps.val (v := .int .i64 (w64 (x3 + 1))) rfl (wantN rfl) (fun _ => by kernel_rfl) ?_
    refine SOps.nil ?_
    refine SW.block ?_
    refine SW.loop (fun k1 fr H => ∃ (g : Fr) (l6 : Sl) (p7 : Option (Nat × Nat)) (x8 : Int) (x9 : Int), fr = g.upds [(0, sv l6), (1, (.func (.func 37) #[] #[pv p7] : Value)), (5, (.int .i64 x8 : Value)), (6, (.int .i64 x9 : Value))] ∧ slices_DeleteFunc_net_flying_net_flying__net_Net_Clear_1.l1 F K k1 l6 p7 x8 x9 H) F ⟨_, l1, p2, x3, w64 (x3 + 1), (Fr.upds_self _ _ ⟨rfl, rfl, rfl, rfl, trivial⟩), h⟩ ?_
    clear h
    rintro k1 fr H ⟨g, l6, p7, x8, x9, rfl, h⟩
    cases k1 with
    | zero => exact h.elim
    | succ k1 =>
      replace h : slices_DeleteFunc_net_flying_net_flying__net_Net_Clear_1.r1 F K (slices_DeleteFunc_net_flying_net_flying__net_Net_Clear_1.l1 F K k1) l6 p7 x8 x9 H := h
      unfold slices_DeleteFunc_net_flying_net_flying__net_Net_Clear_1.r1 at h
      refine SW.seq ?_
      refine SW.seq ?_
      refine SW.region ?_
      refine SOps.val (v := .int .i64 x9) rfl (wantN rfl) (fun _ => by kernel_rfl) ?_
      refine SOps.val (v := sv l6) rfl (wantN rfl) (fun _ => by kernel_rfl) ?_
      refine SOps.val (v := .int .i64 (l6.len : Int)) rfl (wantN rfl) (fun _ => by kernel_rfl) ?_
      refine SOps.val (v := .bool (decide (x9 < (l6.len : Int)))) rfl (wantN rfl) (fun _ => by kernel_rfl) ?_
      refine SOps.nil ?_
      by_cases c10 : x9 < (l6.len : Int)
      · replace h := h.1 c10
        have dc10 : (decide (x9 < (l6.len : Int))) = true := (decide_eq_true c10)
        refine SW.cond_t (t := decide (x9 < (l6.len : Int))) rfl dc10 ?_
        refine SW.skip ?_
        refine SW.seqJ (fun fr H => ∃ (g : Fr) (l45 : Sl) (p46 : Option (Nat × Nat)) (x47 : Int) (x48 : Int), fr = g.upds [(0, sv l45), (1, (.func (.func 37) #[] #[pv p46] : Value)), (5, (.int .i64 x47 : Value)), (6, (.int .i64 x48 : Value))] ∧ slices_DeleteFunc_net_flying_net_flying__net_Net_Clear_1.j1 F K (slices_DeleteFunc_net_flying_net_flying__net_Net_Clear_1.l1 F K k1) l45 p46 x47 x48 H) ?_ ?_
        · clear h
          rintro fr H ⟨g, l45, p46, x47, x48, rfl, h⟩
          unfold slices_DeleteFunc_net_flying_net_flying__net_Net_Clear_1.j1 at h
          refine SW.region ?_
          refine SOps.val (v := .int .i64 x48) rfl (wantN rfl) (fun _ => by kernel_rfl) ?_
          refine SOps.val (v := .int .i64 (w64 (x48 + 1))) rfl (wantN rfl) (fun _ => by kernel_rfl) ?_
          refine SOps.val (v := .int .i64 (w64 (x48 + 1))) rfl (wantN rfl) (fun _ => by kernel_rfl) ?_
          refine SOps.nil ?_
          exact ⟨k1, Nat.lt_succ_self k1, _, l45, p46, x47, w64 (x48 + 1), (Fr.upds_self _ _ ⟨rfl, rfl, rfl, rfl, trivial⟩), h⟩
        · skip
          refine SW.blockJ (fun fr H => ∃ (g : Fr) (l31 : Sl) (p32 : Option (Nat × Nat)) (x33 : Int) (x34 : Int), fr = g.upds [(0, sv l31), (1, (.func (.func 37) #[] #[pv p32] : Value)), (5, (.int .i64 x33 : Value)), (6, (.int .i64 x34 : Value))] ∧ slices_DeleteFunc_net_flying_net_flying__net_Net_Clear_1.j2 F K (slices_DeleteFunc_net_flying_net_flying__net_Net_Clear_1.l1 F K k1) l31 p32 x33 x34 H) ?_ ?_
          · clear h
            rintro fr H ⟨g, l31, p32, x33, x34, rfl, h⟩
            unfold slices_DeleteFunc_net_flying_net_flying__net_Net_Clear_1.j2 at h
            exact ⟨_, l31, p32, x33, x34, Fr.upds_self _ _ ⟨rfl, rfl, rfl, rfl, trivial⟩, h⟩
          · skip
            refine SW.seq ?_
            refine SW.region ?_
            refine SOps.val (v := sv l6) rfl (wantN rfl) (fun _ => by kernel_rfl) ?_
            refine SOps.val (v := .int .i64 x9) rfl (wantN rfl) (fun _ => by kernel_rfl) ?_
            obtain ⟨p11, c12, c13, c14, h⟩ := h
            refine SOps.val (v := pv (some (p11.1, (p11.2 + x9.toNat * 4)))) rfl (wantN rfl) (fun w => ev_iaddr rfl Tryd.underlying67 (size := 4) (by kernel_rfl) rfl rfl c12 c13 c14 w) ?_
            obtain ⟨x15, x16, s17, q18, c19, h⟩ := h
            refine SOps.rd (v := .agg #[.int .i64 x15, .int .i64 x16, .string s17, .bool q18]) rfl (wantN rfl) (fun w hw => ev_loadN rfl (fun _ => by kernel_rfl) (size := 4) (by kernel_rfl) (p := (p11.1, (p11.2 + x9.toNat * 4))) rfl rfl c19 w hw) ?_
            refine SOps.alloc rfl rfl (wantN rfl) (z := .agg #[.int .i64 0, .int .i64 0, .string ByteArray.empty, .bool false]) (by kernel_rfl) (fun b20 c21 => ?_)
            replace h := h b20 c21
            obtain ⟨c22, h⟩ := h
            refine SOps.storeL (p := (b20, 0)) (v := .agg #[.int .i64 x15, .int .i64 x16, .string s17, .bool q18]) (cs := [.int .i64 x15, .int .i64 x16, .string s17, .bool q18]) rfl rfl (wantN rfl) (size := 4) (by kernel_rfl) rfl rfl rfl rfl (by simp [Value.oneCell', errV_one, pv, sv]) c22 ?_
            refine SOps.nil ?_
            refine SW.seq ?_
            refine SW.region ?_
            refine SOps.val (v := .func (.func 37) #[] #[pv p7]) rfl (wantN rfl) (fun _ => by kernel_rfl) ?_
            obtain ⟨x23, x24, s25, q26, c27, h⟩ := h
            refine SOps.rd (v := .agg #[.int .i64 x23, .int .i64 x24, .string s25, .bool q26]) rfl (wantN rfl) (fun w hw => ev_loadN rfl (fun _ => by kernel_rfl) (size := 4) (by kernel_rfl) (p := (b20, 0)) rfl rfl c27 w hw) ?_
            refine SOps.enter rfl (wantN rfl) (fun _ => by kernel_rfl) (net_Net_Clear_1.sound F x23 x24 s25 q26 p7 (SH.setl (SH.upd H b20 ⟨[.int .i64 0, .int .i64 0, .string ByteArray.empty, .bool false], 75, false, 4⟩) (b20, 0) [.int .i64 x15, .int .i64 x16, .string s17, .bool q18]) _ h) ?_
            clear h
            rintro v H29 ⟨q28, rfl, h⟩
            refine SOps.val (v := .bool (!q28)) rfl (wantN rfl) (fun _ => by kernel_rfl) ?_
            refine SOps.nil ?_
            by_cases c30 : q28 = true
            · replace h := h.1 c30
              have dc30 : q28 = true := c30
              refine SW.cond_f (t := !q28) rfl (not_t dc30) ?_
              refine SW.skip ?_
              exact ⟨_, l6, p7, x8, x9, Fr.upds_self _ _ ⟨rfl, rfl, rfl, rfl, trivial⟩, h⟩
            · replace h := h.2 c30
              have dc30 : q28 = false := (Bool.eq_false_iff.mpr c30)
              refine SW.cond_t (t := !q28) rfl (not_f dc30) ?_
              refine SW.seq ?_
              refine SW.region ?_
              refine SOps.val (v := sv l6) rfl (wantN rfl) (fun _ => by kernel_rfl) ?_
              refine SOps.val (v := .int .i64 x8) rfl (wantN rfl) (fun _ => by kernel_rfl) ?_
              obtain ⟨x35, x36, s37, q38, c39, h⟩ := h
              refine SOps.rd (v := .agg #[.int .i64 x35, .int .i64 x36, .string s37, .bool q38]) rfl (wantN rfl) (fun w hw => ev_loadN rfl (fun _ => by kernel_rfl) (size := 4) (by kernel_rfl) (p := (b20, 0)) rfl rfl c39 w hw) ?_
              obtain ⟨p40, c41, c42, c43, h⟩ := h
              refine SOps.val (v := pv (some (p40.1, (p40.2 + x8.toNat * 4)))) rfl (wantN rfl) (fun w => ev_iaddr rfl Tryd.underlying67 (size := 4) (by kernel_rfl) rfl rfl c41 c42 c43 w) ?_
              obtain ⟨c44, h⟩ := h
              refine SOps.storeL (p := (p40.1, (p40.2 + x8.toNat * 4))) (v := .agg #[.int .i64 x35, .int .i64 x36, .string s37, .bool q38]) (cs := [.int .i64 x35, .int .i64 x36, .string s37, .bool q38]) rfl rfl (wantN rfl) (size := 4) (by kernel_rfl) rfl rfl rfl rfl (by simp [Value.oneCell', errV_one, pv, sv]) c44 ?_
              refine SOps.nil ?_
              refine SW.region ?_
              refine SOps.val (v := .int .i64 x8) rfl (wantN rfl) (fun _ => by kernel_rfl) ?_
              refine SOps.val (v := .int .i64 (w64 (x8 + 1))) rfl (wantN rfl) (fun _ => by kernel_rfl) ?_
              refine SOps.val (v := .int .i64 (w64 (x8 + 1))) rfl (wantN rfl) (fun _ => by kernel_rfl) ?_
              refine SOps.nil ?_
              exact ⟨_, l6, p7, w64 (x8 + 1), x9, Fr.upds_self _ _ ⟨rfl, rfl, rfl, rfl, trivial⟩, h⟩
      · replace h := h.2 c10
        have dc10 : (decide (x9 < (l6.len : Int))) = false := (decide_eq_false c10)
        refine SW.cond_f (t := decide (x9 < (l6.len : Int))) rfl dc10 ?_
        refine SW.exit ?_
        refine SW.seq ?_
        refine SW.region ?_
        refine SOps.val (v := sv l6) rfl (wantN rfl) (fun _ => by kernel_rfl) ?_
        refine SOps.val (v := .int .i64 x8) rfl (wantN rfl) (fun _ => by kernel_rfl) ?_
        obtain ⟨c51, c52, c53, h⟩ := h
        refine SOps.val (v := sv (Sl.sub 4 l6 x8.toNat (l6.len : Int).toNat l6.cap)) rfl (wantN rfl) (fun w => ev_sub (a := x8) (b := (l6.len : Int)) rfl Tryd.underlying67 (size := 4) (by kernel_rfl) rfl (Or.inr ⟨_, rfl⟩) (Or.inl ⟨rfl, rfl⟩) c51 c52 c53 w) ?_
        obtain ⟨c54, h⟩ := h
        refine SOps.clear (z := .agg #[.int .i64 0, .int .i64 0, .string ByteArray.empty, .bool false]) (size := 4) rfl rfl (wantN rfl) Tryd.underlying67 (by kernel_rfl) rfl rfl (by decide) c54 ?_
        refine SOps.nil ?_
        refine SW.seq ?_
        refine SW.region ?_
        refine SOps.val (v := sv l6) rfl (wantN rfl) (fun _ => by kernel_rfl) ?_
        refine SOps.val (v := .int .i64 x8) rfl (wantN rfl) (fun _ => by kernel_rfl) ?_
        obtain ⟨c55, c56, c57, h⟩ := h
        refine SOps.val (v := sv (Sl.sub 4 l6 (0 : Int).toNat x8.toNat l6.cap)) rfl (wantN rfl) (fun w => ev_sub (a := (0 : Int)) (b := x8) rfl Tryd.underlying67 (size := 4) (by kernel_rfl) rfl (Or.inl ⟨rfl, rfl⟩) (Or.inr ⟨_, rfl⟩) c55 c56 c57 w) ?_
        refine SOps.val (v := sv (Sl.sub 4 l6 (0 : Int).toNat x8.toNat l6.cap)) rfl (wantN rfl) (fun _ => by kernel_rfl) ?_
        refine SOps.nil ?_
        obtain ⟨Hr, hr, h⟩ := h
        exact SW.ret (retQ.mk (sv (Sl.sub 4 l6 (0 : Int).toNat x8.toNat l6.cap)) (res1 rfl rfl) hr ⟨Sl.sub 4 l6 (0 : Int).toNat x8.toNat l6.cap, rfl, h⟩)
/-! ### (*lading/net.Net).Clear: function 17 -/
def net_Net_Clear.j1 (F : Nat) (K : Int → SH → Prop) (p9 : Option (Nat × Nat)) (x10 : Int) (H : SH) : Prop :=
  net_Net_Len.wp F p9 H (fun x16 H17 =>
    ∃ Hr, SH.le Hr H17 ∧ K (w64 (x10 - x16)) Hr
  )
def net_Net_Clear.wp (F : Nat) (p1 : Option (Nat × Nat)) (x2 : Int) (H : SH) (K : Int → SH → Prop) : Prop :=
  ∀ b3, H b3 = none →
  net_Net_Len.wp F p1 (SH.upd H b3 ⟨[.int .i64 x2], 3, false, 1⟩) (fun x5 H6 =>
    (p1 = none →
      net_Net_Clear.j1 F K none x5 H6
    ) ∧ (∀ b7 o8, p1 = some (b7, o8) →
      ∃ (l11 : Sl),
      SH.has H6 (b7, o8) (sv l11) ∧
      slices_DeleteFunc_net_flying_net_flying__net_Net_Clear_1.wp F l11 (some (b3, 0)) H6 (fun l13 H14 =>
        SH.wrs H14 (b7, o8) 1 ∧
        net_Net_Clear.j1 F K (some (b7, o8)) x5 (SH.setl H14 (b7, o8) [sv l13])
      )
    )
  )
set_option maxHeartbeats 8000000 in
theorem net_Net_Clear.sound (F : Nat) (p1 : Option (Nat × Nat)) (x2 : Int) (H : SH) (K : Int → SH → Prop) (h : net_Net_Clear.wp F p1 x2 H K) : SCalls Tryd.prog 17 #[pv p1, .int .i64 x2] H (fun v H' => ∃ (x20 : Int), v = .int .i64 x20 ∧ K x20 H') := by
  unfold net_Net_Clear.wp at h
  refine SCalls.body Tryd.func17 rfl (Nat.le_of_ble_eq_true rfl) ?_
  refine SW.seq ?_
  refine SW.region ?_
  refine SOps.box rfl rfl (wantN rfl) (v := .int .i64 x2) rfl (fun b3 c4 => ?_)
  replace h := h b3 c4
  refine SOps.val (v := .int .i64 0) rfl (wantN rfl) (fun _ => by kernel_rfl) ?_
  refine SOps.nil ?_
  refine SW.seq ?_
  refine SW.region ?_
  refine SOps.val (v := pv p1) rfl (wantN rfl) (fun _ => by kernel_rfl) ?_
  refine SOps.enter rfl (wantN rfl) (fun _ => by kernel_rfl) (net_Net_Len.sound F p1 (SH.upd H b3 ⟨[.int .i64 x2], 3, false, 1⟩) _ h) ?_
  clear h
  rintro v H6 ⟨x5, rfl, h⟩
  refine SOps.val (v := .int .i64 x5) rfl (wantN rfl) (fun _ => by kernel_rfl) ?_
  refine SOps.nil ?_
  refine SW.seqJ (fun fr H => ∃ (g : Fr) (p9 : Option (Nat × Nat)) (x10 : Int), fr = g.upds [(0, pv p9), (5, (.int .i64 x10 : Value))] ∧ net_Net_Clear.j1 F K p9 x10 H) ?_ ?_
  · clear h
    rintro fr H ⟨g, p9, x10, rfl, h⟩
    unfold net_Net_Clear.j1 at h
    refine SW.seq ?_
    refine SW.region ?_
    refine SOps.val (v := .int .i64 x10) rfl (wantN rfl) (fun _ => by kernel_rfl) ?_
    refine SOps.val (v := pv p9) rfl (wantN rfl) (fun _ => by kernel_rfl) ?_
    refine SOps.enter rfl (wantN rfl) (fun _ => by kernel_rfl) (net_Net_Len.sound F p9 H _ h) ?_
    clear h
    rintro v H17 ⟨x16, rfl, h⟩
    refine SOps.val (v := .int .i64 (w64 (x10 - x16))) rfl (wantN rfl) (fun _ => by kernel_rfl) ?_
    refine SOps.val (v := .int .i64 (w64 (x10 - x16))) rfl (wantN rfl) (fun _ => by kernel_rfl) ?_
    refine SOps.nil ?_
    obtain ⟨Hr, hr, h⟩ := h
    exact SW.ret (retQ.mk (.int .i64 (w64 (x10 - x16))) (res1 rfl rfl) hr ⟨w64 (x10 - x16), rfl, h⟩)
  · skip
    refine SW.seq ?_
    refine SW.region ?_
    refine SOps.val (v := pv p1) rfl (wantN rfl) (fun _ => by kernel_rfl) ?_
    rcases p1 with _ | ⟨b7, o8⟩
    · replace h := h.1 rfl
      refine SOps.val (v := .bool false) rfl (wantN rfl) (fun _ => by kernel_rfl) ?_
      refine SOps.nil ?_
      refine SW.cond_f (t := false) rfl rfl ?_
      refine SW.skip ?_
      exact ⟨_, none, x5, Fr.upds_self _ _ ⟨rfl, rfl, trivial⟩, h⟩
    · replace h := h.2 b7 o8 rfl
      refine SOps.val (v := .bool true) rfl (wantN rfl) (fun _ => by kernel_rfl) ?_
      refine SOps.nil ?_
      refine SW.cond_t (t := true) rfl rfl ?_
      refine SW.region ?_
      refine SOps.val (v := pv (some (b7, o8))) rfl (wantN rfl) (fun _ => by kernel_rfl) ?_
      refine SOps.val (v := pv (some (b7, o8))) rfl (wantN rfl) (fun _ => by kernel_rfl) ?_
      refine SOps.val (v := pv (some (b7, o8))) rfl (wantN rfl) (fun _ => by kernel_rfl) ?_
      refine SOps.val (v := pv (some (b7, o8))) rfl (wantN rfl) (fun _ => by kernel_rfl) ?_
      obtain ⟨l11, c12, h⟩ := h
      refine SOps.rd (v := sv l11) rfl (wantN rfl) (fun w hw => ev_load1 rfl (fun _ => by kernel_rfl) (p := (b7, o8)) rfl c12 w hw) ?_
      refine SOps.val (v := .func (.func 37) #[] #[pv (some (b3, 0))]) rfl (wantN rfl) (fun _ => by kernel_rfl) ?_
      refine SOps.enter rfl (wantN rfl) (fun _ => by kernel_rfl) (slices_DeleteFunc_net_flying_net_flying__net_Net_Clear_1.sound F l11 (some (b3, 0)) H6 _ h) ?_
      clear h
      rintro v H14 ⟨l13, rfl, h⟩
      refine SOps.val (v := pv (some (b7, o8))) rfl (wantN rfl) (fun _ => by kernel_rfl) ?_
      refine SOps.val (v := pv (some (b7, o8))) rfl (wantN rfl) (fun _ => by kernel_rfl) ?_
      obtain ⟨c15, h⟩ := h
      refine SOps.storeL (p := (b7, o8)) (v := sv l13) (cs := [sv l13]) rfl rfl (wantN rfl) (size := 1) (by kernel_rfl) rfl rfl rfl rfl (by simp [Value.oneCell', errV_one, pv, sv]) c15 ?_
      refine SOps.nil ?_
      exact ⟨_, some (b7, o8), x5, Fr.upds_self _ _ ⟨rfl, rfl, trivial⟩, h⟩

end Go.Proofs.YtkfbmoekghbgbaaDoor.K
