import Derived.Test.YtpnbehgkbfhacaaDoorErr
set_option linter.unusedVariables false
set_option linter.unusedSimpArgs false
set_option maxRecDepth 100000
namespace Go.Proofs.YtpnbehgkbfhacaaDoor.K
open Go
attribute [local irreducible] SW SOps SQ SCalls retQ

/-! ### lading/ladingref01.power: function 45 -/
def ladingref01_power.r1 (F : Nat) (K : Int → SH → Prop) (R1 : Int → Int → Int → SH → Prop) (x2 : Int) (x3 : Int) (x4 : Int) (H : SH) : Prop :=
  (x4 < x2 →
    R1 x2 (w64 (x3 * 256)) (w64 (x4 + 1)) H
  ) ∧ (¬ (x4 < x2) →
    ∃ Hr, SH.le Hr H ∧ K x3 Hr
  )
def ladingref01_power.l1 (F : Nat) (K : Int → SH → Prop) : Nat → Int → Int → Int → SH → Prop
  | 0, _, _, _, _ => False
  | k + 1, x2, x3, x4, H => ladingref01_power.r1 F K (ladingref01_power.l1 F K k) x2 x3 x4 H
def ladingref01_power.wp (F : Nat) (x1 : Int) (H : SH) (K : Int → SH → Prop) : Prop :=
  ladingref01_power.l1 F K F x1 1 0 H
set_option maxHeartbeats 8000000 in
theorem ladingref01_power.sound (F : Nat) (x1 : Int) (H : SH) (K : Int → SH → Prop) (h : ladingref01_power.wp F x1 H K) : SCalls Tryd.prog 45 #[.int .i64 x1] H (fun v H' => ∃ (x9 : Int), v = .int .i64 x9 ∧ K x9 H') := by
  unfold ladingref01_power.wp at h
  refine SCalls.body Tryd.func45 rfl (Nat.le_of_ble_eq_true rfl) ?_
  refine SW.seq ?_
  refine SW.region ?_
  refine SOps.val (v := .int .i64 0) rfl (wantN rfl) (fun _ => by kernel_rfl) ?_
  refine SOps.nil ?_
  refine SW.seq ?_
  refine SW.region ?_
  refine SOps.val (v := .int .i64 1) rfl (wantN rfl) (fun _ => by kernel_rfl) ?_
  refine SOps.nil ?_
  refine SW.seq ?_
  refine SW.seq ?_
  refine SW.region ?_
  refine SOps.val (v := .int .i64 0) rfl (wantN rfl) (fun _ => by kernel_rfl) ?_
  refine SOps.nil ?_
  refine SW.block ?_
  refine SW.loop (fun k1 fr H => ∃ (g : Fr) (x2 : Int) (x3 : Int) (x4 : Int), fr = g.upds [(0, (.int .i64 x2 : Value)), (3, (.int .i64 x3 : Value)), (4, (.int .i64 x4 : Value))] ∧ ladingref01_power.l1 F K k1 x2 x3 x4 H) F ⟨_, x1, 1, 0, (Fr.upds_self _ _ ⟨rfl, rfl, rfl, trivial⟩), h⟩ ?_
  clear h
  rintro k1 fr H ⟨g, x2, x3, x4, rfl, h⟩
  cases k1 with
  | zero => exact h.elim
  | succ k1 =>
    replace h : ladingref01_power.r1 F K (ladingref01_power.l1 F K k1) x2 x3 x4 H := h
    unfold ladingref01_power.r1 at h
    refine SW.seq ?_
    refine SW.seq ?_
    refine SW.region ?_
    refine SOps.val (v := .int .i64 x4) rfl (wantN rfl) (fun _ => by kernel_rfl) ?_
    refine SOps.val (v := .int .i64 x2) rfl (wantN rfl) (fun _ => by kernel_rfl) ?_
    refine SOps.val (v := .bool (decide (x4 < x2))) rfl (wantN rfl) (fun _ => by kernel_rfl) ?_
    refine SOps.nil ?_
    by_cases c5 : x4 < x2
    · replace h := h.1 c5
      have dc5 : (decide (x4 < x2)) = true := (decide_eq_true c5)
      refine SW.cond_t (t := decide (x4 < x2)) rfl dc5 ?_
      refine SW.skip ?_
      refine SW.seq ?_
      refine SW.block ?_
      refine SW.region ?_
      refine SOps.val (v := .int .i64 x3) rfl (wantN rfl) (fun _ => by kernel_rfl) ?_
      refine SOps.val (v := .int .i64 (w64 (x3 * 256))) rfl (wantN rfl) (fun _ => by kernel_rfl) ?_
      refine SOps.val (v := .int .i64 (w64 (x3 * 256))) rfl (wantN rfl) (fun _ => by kernel_rfl) ?_
      refine SOps.nil ?_
      refine SW.region ?_
      refine SOps.val (v := .int .i64 x4) rfl (wantN rfl) (fun _ => by kernel_rfl) ?_
      refine SOps.val (v := .int .i64 (w64 (x4 + 1))) rfl (wantN rfl) (fun _ => by kernel_rfl) ?_
      refine SOps.val (v := .int .i64 (w64 (x4 + 1))) rfl (wantN rfl) (fun _ => by kernel_rfl) ?_
      refine SOps.nil ?_
      exact ⟨k1, Nat.lt_succ_self k1, _, x2, w64 (x3 * 256), w64 (x4 + 1), (Fr.upds_self _ _ ⟨rfl, rfl, rfl, trivial⟩), h⟩
    · replace h := h.2 c5
      have dc5 : (decide (x4 < x2)) = false := (decide_eq_false c5)
      refine SW.cond_f (t := decide (x4 < x2)) rfl dc5 ?_
      refine SW.exit ?_
      refine SW.seq ?_
      refine SW.region ?_
      refine SOps.val (v := .int .i64 x3) rfl (wantN rfl) (fun _ => by kernel_rfl) ?_
      refine SOps.val (v := .int .i64 x3) rfl (wantN rfl) (fun _ => by kernel_rfl) ?_
      refine SOps.nil ?_
      obtain ⟨Hr, hr, h⟩ := h
      exact SW.ret (retQ.mk (.int .i64 x3) (res1 rfl rfl) hr ⟨x3, rfl, h⟩)

/-! ### lading/ladingref01.Fits: function 13 -/
def ladingref01_Fits.wp (F : Nat) (x1 : Int) (x2 : Int) (H : SH) (K : Bool → SH → Prop) : Prop :=
  (x2 ≥ 0 →
    ladingref01_power.wp F x1 H (fun x4 H5 =>
      ∃ Hr, SH.le Hr H5 ∧ K (decide (x2 < x4)) Hr
    )
  ) ∧ (¬ (x2 ≥ 0) →
    ∃ Hr, SH.le Hr H ∧ K false Hr
  )
set_option maxHeartbeats 8000000 in
theorem ladingref01_Fits.sound (F : Nat) (x1 : Int) (x2 : Int) (H : SH) (K : Bool → SH → Prop) (h : ladingref01_Fits.wp F x1 x2 H K) : SCalls Tryd.prog 13 #[.int .i64 x1, .int .i64 x2] H (fun v H' => ∃ (q7 : Bool), v = .bool q7 ∧ K q7 H') := by
  unfold ladingref01_Fits.wp at h
  refine SCalls.body Tryd.func13 rfl (Nat.le_of_ble_eq_true rfl) ?_
  refine SW.seq ?_
  refine SW.region ?_
  refine SOps.val (v := .bool false) rfl (wantN rfl) (fun _ => by kernel_rfl) ?_
  refine SOps.nil ?_
  refine SW.seq ?_
  refine SW.region ?_
  refine SOps.val (v := .int .i64 x2) rfl (wantN rfl) (fun _ => by kernel_rfl) ?_
  refine SOps.val (v := .bool (decide (x2 ≥ 0))) rfl (wantN rfl) (fun _ => by kernel_rfl) ?_
  refine SOps.val (v := .bool (decide (x2 ≥ 0))) rfl (wantN rfl) (fun _ => by kernel_rfl) ?_
  by_cases c3 : x2 ≥ 0
  · replace h := h.1 c3
    have dc3 : (decide (x2 ≥ 0)) = true := (decide_eq_true c3)
    refine SOps.val (v := .int .i64 x2) rfl (wantY (c := decide (x2 ≥ 0)) rfl rfl rfl dc3) (fun _ => by kernel_rfl) ?_
    refine SOps.val (v := .int .i64 x1) rfl (wantY (c := decide (x2 ≥ 0)) rfl rfl rfl dc3) (fun _ => by kernel_rfl) ?_
    refine SOps.enter rfl (wantY (c := decide (x2 ≥ 0)) rfl rfl rfl dc3) (fun _ => by kernel_rfl) (ladingref01_power.sound F x1 H _ h) ?_
    clear h
    rintro v H5 ⟨x4, rfl, h⟩
    refine SOps.val (v := .bool (decide (x2 < x4))) rfl (wantY (c := decide (x2 ≥ 0)) rfl rfl rfl dc3) (fun _ => by kernel_rfl) ?_
    refine SOps.val (v := .bool (decide (x2 < x4))) rfl (wantN rfl) (fun w => ev_pickT (v := .bool (decide (x2 < x4))) rfl (t := decide (x2 ≥ 0)) rfl dc3 rfl w) ?_
    refine SOps.val (v := .bool (decide (x2 < x4))) rfl (wantN rfl) (fun _ => by kernel_rfl) ?_
    refine SOps.nil ?_
    obtain ⟨Hr, hr, h⟩ := h
    exact SW.ret (retQ.mk (.bool (decide (x2 < x4))) (res1 rfl rfl) hr ⟨decide (x2 < x4), rfl, h⟩)
  · replace h := h.2 c3
    have dc3 : (decide (x2 ≥ 0)) = false := (decide_eq_false c3)
    refine SOps.off rfl (wantX (c := decide (x2 ≥ 0)) rfl rfl rfl dc3) ?_
    refine SOps.off rfl (wantX (c := decide (x2 ≥ 0)) rfl rfl rfl dc3) ?_
    refine SOps.off rfl (wantX (c := decide (x2 ≥ 0)) rfl rfl rfl dc3) ?_
    refine SOps.off rfl (wantX (c := decide (x2 ≥ 0)) rfl rfl rfl dc3) ?_
    refine SOps.val (v := .bool false) rfl (wantN rfl) (fun w => ev_pickF (v := .bool false) rfl (t := decide (x2 ≥ 0)) rfl dc3 rfl w) ?_
    refine SOps.val (v := .bool false) rfl (wantN rfl) (fun _ => by kernel_rfl) ?_
    refine SOps.nil ?_
    obtain ⟨Hr, hr, h⟩ := h
    exact SW.ret (retQ.mk (.bool false) (res1 rfl rfl) hr ⟨false, rfl, h⟩)

/-! ### lading/ladingref01.Fixed: function 15 -/
def ladingref01_Fixed.r1 (F : Nat) (K : ByteArray → SH → Prop) (R1 : Int → Int → ByteArray → Int → SH → Prop) (x3 : Int) (x4 : Int) (s5 : ByteArray) (x6 : Int) (H : SH) : Prop :=
  (x6 < x3 →
    ∀ b8, H b8 = none →
    ∃ bs10 : List UInt8,
    (⟨some (b8, 0), 1, 1⟩ : Sl).len = bs10.length ∧
    SH.row (SH.upd H b8 ⟨[.int .u8 (IntKind.u8.wrap (x4.tmod 256))], 5, false, 1⟩) (⟨some (b8, 0), 1, 1⟩ : Sl).a (byteCells bs10) ∧
    s5.size + (⟨bs10.toArray⟩ : ByteArray).size ≤ 9223372036854775807 ∧
    R1 x3 (w64 (x4.tdiv 256)) (s5 ++ (⟨bs10.toArray⟩ : ByteArray)) (w64 (x6 + 1)) (SH.upd H b8 ⟨[.int .u8 (IntKind.u8.wrap (x4.tmod 256))], 5, false, 1⟩)
  ) ∧ (¬ (x6 < x3) →
    ∃ Hr, SH.le Hr H ∧ K s5 Hr
  )
def ladingref01_Fixed.l1 (F : Nat) (K : ByteArray → SH → Prop) : Nat → Int → Int → ByteArray → Int → SH → Prop
  | 0, _, _, _, _, _ => False
  | k + 1, x3, x4, s5, x6, H => ladingref01_Fixed.r1 F K (ladingref01_Fixed.l1 F K k) x3 x4 s5 x6 H
def ladingref01_Fixed.wp (F : Nat) (x1 : Int) (x2 : Int) (H : SH) (K : ByteArray → SH → Prop) : Prop :=
  ladingref01_Fixed.l1 F K F x1 x2 ByteArray.empty 0 H
set_option maxHeartbeats 8000000 in
theorem ladingref01_Fixed.sound (F : Nat) (x1 : Int) (x2 : Int) (H : SH) (K : ByteArray → SH → Prop) (h : ladingref01_Fixed.wp F x1 x2 H K) : SCalls Tryd.prog 15 #[.int .i64 x1, .int .i64 x2] H (fun v H' => ∃ (s17 : ByteArray), v = .string s17 ∧ K s17 H') := by
  unfold ladingref01_Fixed.wp at h
  refine SCalls.body Tryd.func15 rfl (Nat.le_of_ble_eq_true rfl) ?_
  refine SW.seq ?_
  refine SW.region ?_
  refine SOps.val (v := .string ByteArray.empty) rfl (wantN rfl) (fun _ => by kernel_rfl) ?_
  refine SOps.nil ?_
  refine SW.seq ?_
  refine SW.region ?_
  refine SOps.val (v := .string ByteArray.empty) rfl (wantN rfl) (fun _ => by kernel_rfl) ?_
  refine SOps.nil ?_
  refine SW.seq ?_
  refine SW.seq ?_
  refine SW.region ?_
  refine SOps.val (v := .int .i64 0) rfl (wantN rfl) (fun _ => by kernel_rfl) ?_
  refine SOps.nil ?_
  refine SW.block ?_
  refine SW.loop (fun k1 fr H => ∃ (g : Fr) (x3 : Int) (x4 : Int) (s5 : ByteArray) (x6 : Int), fr = g.upds [(0, (.int .i64 x3 : Value)), (1, (.int .i64 x4 : Value)), (5, (.string s5 : Value)), (6, (.int .i64 x6 : Value))] ∧ ladingref01_Fixed.l1 F K k1 x3 x4 s5 x6 H) F ⟨_, x1, x2, ByteArray.empty, 0, (Fr.upds_self _ _ ⟨rfl, rfl, rfl, rfl, trivial⟩), h⟩ ?_
  clear h
  rintro k1 fr H ⟨g, x3, x4, s5, x6, rfl, h⟩
  cases k1 with
  | zero => exact h.elim
  | succ k1 =>
    replace h : ladingref01_Fixed.r1 F K (ladingref01_Fixed.l1 F K k1) x3 x4 s5 x6 H := h
    unfold ladingref01_Fixed.r1 at h
    refine SW.seq ?_
    refine SW.seq ?_
    refine SW.region ?_
    refine SOps.val (v := .int .i64 x6) rfl (wantN rfl) (fun _ => by kernel_rfl) ?_
    refine SOps.val (v := .int .i64 x3) rfl (wantN rfl) (fun _ => by kernel_rfl) ?_
    refine SOps.val (v := .bool (decide (x6 < x3))) rfl (wantN rfl) (fun _ => by kernel_rfl) ?_
    refine SOps.nil ?_
    by_cases c7 : x6 < x3
    · replace h := h.1 c7
      have dc7 : (decide (x6 < x3)) = true := (decide_eq_true c7)
      refine SW.cond_t (t := decide (x6 < x3)) rfl dc7 ?_
      refine SW.skip ?_
      refine SW.seq ?_
      refine SW.block ?_
      refine SW.seq ?_
      refine SW.region ?_
      refine SOps.val (v := .string s5) rfl (wantN rfl) (fun _ => by kernel_rfl) ?_
      refine SOps.val (v := .int .i64 x4) rfl (wantN rfl) (fun _ => by kernel_rfl) ?_
      refine SOps.val (v := .int .i64 (x4.tmod 256)) rfl (wantN rfl) (fun w => ev_rem rfl rfl rfl (by decide) w) ?_
      refine SOps.val (v := .int .u8 (IntKind.u8.wrap (x4.tmod 256))) rfl (wantN rfl) (fun _ => by kernel_rfl) ?_
      refine SOps.lit (E := 5) (cs := #[.int .u8 (IntKind.u8.wrap (x4.tmod 256))]) rfl rfl (wantN rfl) (fun _ => by kernel_rfl) (fun b8 c9 => ?_)
      replace h := h b8 c9
      obtain ⟨bs10, c11, c12, h⟩ := h
      refine SOps.rd (v := .string (⟨bs10.toArray⟩ : ByteArray)) rfl (wantN rfl) (fun w hw => ev_str rfl Tryd.underlying46 Tryd.underlying5 Tryd.underlying9 rfl c11 c12 w hw) ?_
      obtain ⟨c13, h⟩ := h
      refine SOps.val (v := .string (s5 ++ (⟨bs10.toArray⟩ : ByteArray))) rfl (wantN rfl) (fun w => ev_cat rfl rfl rfl c13 w) ?_
      refine SOps.val (v := .string (s5 ++ (⟨bs10.toArray⟩ : ByteArray))) rfl (wantN rfl) (fun _ => by kernel_rfl) ?_
      refine SOps.nil ?_
      refine SW.region ?_
      refine SOps.val (v := .int .i64 x4) rfl (wantN rfl) (fun _ => by kernel_rfl) ?_
      refine SOps.val (v := .int .i64 (w64 (x4.tdiv 256))) rfl (wantN rfl) (fun w => ev_quo rfl rfl rfl (by decide) w) ?_
      refine SOps.val (v := .int .i64 (w64 (x4.tdiv 256))) rfl (wantN rfl) (fun _ => by kernel_rfl) ?_
      refine SOps.nil ?_
      refine SW.region ?_
      refine SOps.val (v := .int .i64 x6) rfl (wantN rfl) (fun _ => by kernel_rfl) ?_
      refine SOps.val (v := .int .i64 (w64 (x6 + 1))) rfl (wantN rfl) (fun _ => by kernel_rfl) ?_
      refine SOps.val (v := .int .i64 (w64 (x6 + 1))) rfl (wantN rfl) (fun _ => by kernel_rfl) ?_
      refine SOps.nil ?_
      exact ⟨k1, Nat.lt_succ_self k1, _, x3, w64 (x4.tdiv 256), s5 ++ (⟨bs10.toArray⟩ : ByteArray), w64 (x6 + 1), (Fr.upds_self _ _ ⟨rfl, rfl, rfl, rfl, trivial⟩), h⟩
    · replace h := h.2 c7
      have dc7 : (decide (x6 < x3)) = false := (decide_eq_false c7)
      refine SW.cond_f (t := decide (x6 < x3)) rfl dc7 ?_
      refine SW.exit ?_
      refine SW.seq ?_
      refine SW.region ?_
      refine SOps.val (v := .string s5) rfl (wantN rfl) (fun _ => by kernel_rfl) ?_
      refine SOps.val (v := .string s5) rfl (wantN rfl) (fun _ => by kernel_rfl) ?_
      refine SOps.nil ?_
      obtain ⟨Hr, hr, h⟩ := h
      exact SW.ret (retQ.mk (.string s5) (res1 rfl rfl) hr ⟨s5, rfl, h⟩)

/-! ### lading/ladingref01.Short: function 19 -/
def ladingref01_Short.wp : Nat → Int → SH → (ByteArray → SH → Prop) → Prop
  | 0, _, _, _ => False
  | F + 1, x1, H, K =>
    (x1 < 128 →
      ∀ b3, H b3 = none →
      ∃ bs5 : List UInt8,
      (⟨some (b3, 0), 1, 1⟩ : Sl).len = bs5.length ∧
      SH.row (SH.upd H b3 ⟨[.int .u8 (IntKind.u8.wrap x1)], 5, false, 1⟩) (⟨some (b3, 0), 1, 1⟩ : Sl).a (byteCells bs5) ∧
      ∃ Hr, SH.le Hr (SH.upd H b3 ⟨[.int .u8 (IntKind.u8.wrap x1)], 5, false, 1⟩) ∧ K (⟨bs5.toArray⟩ : ByteArray) Hr
    ) ∧ (¬ (x1 < 128) →
      ∃ bs10 : List UInt8,
      ([.int .u8 (IntKind.u8.wrap (w64 ((x1.tmod 128) + 128)))] : List Value) = byteCells bs10 ∧
      ∃ (s12 : ByteArray),
      ( ladingref01_Short.wp F (w64 (x1.tdiv 128)) H (fun s12' H' => s12' = s12 ∧ SH.le H H')) ∧
      (⟨bs10.toArray⟩ : ByteArray).size + s12.size ≤ 9223372036854775807 ∧
      ∃ Hr, SH.le Hr H ∧ K ((⟨bs10.toArray⟩ : ByteArray) ++ s12) Hr
    )
set_option maxHeartbeats 8000000 in
theorem ladingref01_Short.sound (F : Nat) : ∀ (x1 : Int) (H : SH) (K : ByteArray → SH → Prop), ladingref01_Short.wp F x1 H K → SCalls Tryd.prog 19 #[.int .i64 x1] H (fun v H' => ∃ (s16 : ByteArray), v = .string s16 ∧ K s16 H') := by
  induction F with
  | zero => intro x1 H K h; exact h.elim
  | succ F ih =>
    intro x1 H K h
    unfold ladingref01_Short.wp at h
    refine SCalls.body Tryd.func19 rfl (Nat.le_of_ble_eq_true rfl) ?_
    refine SW.seq ?_
    refine SW.region ?_
    refine SOps.val (v := .string ByteArray.empty) rfl (wantN rfl) (fun _ => by kernel_rfl) ?_
    refine SOps.nil ?_
    refine SW.seq ?_
    refine SW.seq ?_
    refine SW.region ?_
    refine SOps.val (v := .int .i64 x1) rfl (wantN rfl) (fun _ => by kernel_rfl) ?_
    refine SOps.val (v := .bool (decide (x1 < 128))) rfl (wantN rfl) (fun _ => by kernel_rfl) ?_
    refine SOps.nil ?_
    by_cases c2 : x1 < 128
    · replace h := h.1 c2
      have dc2 : (decide (x1 < 128)) = true := (decide_eq_true c2)
      refine SW.cond_t (t := decide (x1 < 128)) rfl dc2 ?_
      refine SW.seq ?_
      refine SW.region ?_
      refine SOps.val (v := .int .i64 x1) rfl (wantN rfl) (fun _ => by kernel_rfl) ?_
      refine SOps.val (v := .int .u8 (IntKind.u8.wrap x1)) rfl (wantN rfl) (fun _ => by kernel_rfl) ?_
      refine SOps.lit (E := 5) (cs := #[.int .u8 (IntKind.u8.wrap x1)]) rfl rfl (wantN rfl) (fun _ => by kernel_rfl) (fun b3 c4 => ?_)
      replace h := h b3 c4
      obtain ⟨bs5, c6, c7, h⟩ := h
      refine SOps.rd (v := .string (⟨bs5.toArray⟩ : ByteArray)) rfl (wantN rfl) (fun w hw => ev_str rfl Tryd.underlying46 Tryd.underlying5 Tryd.underlying9 rfl c6 c7 w hw) ?_
      refine SOps.val (v := .string (⟨bs5.toArray⟩ : ByteArray)) rfl (wantN rfl) (fun _ => by kernel_rfl) ?_
      refine SOps.nil ?_
      obtain ⟨Hr, hr, h⟩ := h
      exact SW.ret (retQ.mk (.string (⟨bs5.toArray⟩ : ByteArray)) (res1 rfl rfl) hr ⟨(⟨bs5.toArray⟩ : ByteArray), rfl, h⟩)
    · replace h := h.2 c2
      have dc2 : (decide (x1 < 128)) = false := (decide_eq_false c2)
      refine SW.cond_f (t := decide (x1 < 128)) rfl dc2 ?_
      refine SW.skip ?_
      refine SW.seq ?_
      obtain ⟨bs10, c11, h⟩ := h
      obtain ⟨s12, c13, h⟩ := h
      obtain ⟨c14, h⟩ := h
      refine SW.drawA [.val (.int .i64 x1), .val (.int .i64 (x1.tmod 128)), .val (.int .i64 (w64 ((x1.tmod 128) + 128))), .val (.int .u8 (IntKind.u8.wrap (w64 ((x1.tmod 128) + 128)))), .fresh 4 (fun b c => sv ⟨some (b, 0), 1, 1⟩) (fun c => (⟨[.int .u8 (IntKind.u8.wrap (w64 ((x1.tmod 128) + 128)))], 5, false, 1⟩ : AO)) (fun _ => True), .val (.string (⟨bs10.toArray⟩ : ByteArray)), .val (.int .i64 x1), .val (.int .i64 (w64 (x1.tdiv 128))), .val (.string s12), .val (.string ((⟨bs10.toArray⟩ : ByteArray) ++ s12)), .val (.string ((⟨bs10.toArray⟩ : ByteArray) ++ s12))] (by kernel_rfl) (by kernel_rfl) (And.intro ?_ (And.intro ?_ (And.intro ?_ (And.intro ?_ (And.intro ?_ (And.intro ?_ (And.intro ?_ (And.intro ?_ (And.intro ?_ (And.intro ?_ (And.intro ?_ (trivial)))))))))))) ?_
      · clear h
        intro fr' T' H' hle hs hA
        have a0 : fr' 0 = (.int .i64 x1 : Value) := hs 0 (by kernel_rfl)
        obtain ⟨g', hg'⟩ : ∃ g' : Fr, fr' = g'.upds [(0, (.int .i64 x1 : Value))] := ⟨_, Fr.upds_self _ _ ⟨a0, trivial⟩⟩
        subst hg'
        exact SA.val (v := .int .i64 x1) rfl (wantN rfl) (fun _ => by kernel_rfl)
      · clear h
        intro fr' T' H' hle hs hA
        have a9 : fr' 9 = (.int .i64 x1 : Value) := hA 0 (by kernel_rfl)
        obtain ⟨g', hg'⟩ : ∃ g' : Fr, fr' = g'.upds [(9, (.int .i64 x1 : Value))] := ⟨_, Fr.upds_self _ _ ⟨a9, trivial⟩⟩
        subst hg'
        exact SA.val (v := .int .i64 (x1.tmod 128)) rfl (wantN rfl) (fun w => ev_rem rfl rfl rfl (by decide) w)
      · clear h
        intro fr' T' H' hle hs hA
        have a10 : fr' 10 = (.int .i64 (x1.tmod 128) : Value) := hA 1 (by kernel_rfl)
        obtain ⟨g', hg'⟩ : ∃ g' : Fr, fr' = g'.upds [(10, (.int .i64 (x1.tmod 128) : Value))] := ⟨_, Fr.upds_self _ _ ⟨a10, trivial⟩⟩
        subst hg'
        exact SA.val (v := .int .i64 (w64 ((x1.tmod 128) + 128))) rfl (wantN rfl) (fun _ => by kernel_rfl)
      · clear h
        intro fr' T' H' hle hs hA
        have a11 : fr' 11 = (.int .i64 (w64 ((x1.tmod 128) + 128)) : Value) := hA 2 (by kernel_rfl)
        obtain ⟨g', hg'⟩ : ∃ g' : Fr, fr' = g'.upds [(11, (.int .i64 (w64 ((x1.tmod 128) + 128)) : Value))] := ⟨_, Fr.upds_self _ _ ⟨a11, trivial⟩⟩
        subst hg'
        exact SA.val (v := .int .u8 (IntKind.u8.wrap (w64 ((x1.tmod 128) + 128)))) rfl (wantN rfl) (fun _ => by kernel_rfl)
      · clear h
        intro fr' T' H' hle hs hA
        have a12 : fr' 12 = (.int .u8 (IntKind.u8.wrap (w64 ((x1.tmod 128) + 128))) : Value) := hA 3 (by kernel_rfl)
        obtain ⟨g', hg'⟩ : ∃ g' : Fr, fr' = g'.upds [(12, (.int .u8 (IntKind.u8.wrap (w64 ((x1.tmod 128) + 128))) : Value))] := ⟨_, Fr.upds_self _ _ ⟨a12, trivial⟩⟩
        subst hg'
        exact SA.fresh hle (fun h => SOps.lit (E := 5) (cs := #[.int .u8 (IntKind.u8.wrap (w64 ((x1.tmod 128) + 128)))]) rfl rfl (wantN rfl) (fun _ => by kernel_rfl) (fun b c => h b 0 c trivial))
      · clear h
        intro fr' T' H' hle hs hA
        obtain ⟨b8, n9, a13, nb8, kb8, tb8, ob8⟩ := hA 4 (by kernel_rfl)
        obtain ⟨g', hg'⟩ : ∃ g' : Fr, fr' = g'.upds [(13, sv (⟨some (b8, 0), 1, 1⟩ : Sl))] := ⟨_, Fr.upds_self _ _ ⟨a13, trivial⟩⟩
        subst hg'
        exact SA.rdH (Hc := SH.upd H b8 (⟨[.int .u8 (IntKind.u8.wrap (w64 ((x1.tmod 128) + 128)))], 5, false, 1⟩ : AO)) (v := .string (⟨bs10.toArray⟩ : ByteArray)) (SH.le.upd_in hle kb8) rfl (wantN rfl) (fun w hw => ev_str rfl Tryd.underlying46 Tryd.underlying5 Tryd.underlying9 rfl (cells_len c11) (row_updD c11) w hw)
      · clear h
        intro fr' T' H' hle hs hA
        have a0 : fr' 0 = (.int .i64 x1 : Value) := hs 0 (by kernel_rfl)
        obtain ⟨g', hg'⟩ : ∃ g' : Fr, fr' = g'.upds [(0, (.int .i64 x1 : Value))] := ⟨_, Fr.upds_self _ _ ⟨a0, trivial⟩⟩
        subst hg'
        exact SA.val (v := .int .i64 x1) rfl (wantN rfl) (fun _ => by kernel_rfl)
      · clear h
        intro fr' T' H' hle hs hA
        have a15 : fr' 15 = (.int .i64 x1 : Value) := hA 6 (by kernel_rfl)
        obtain ⟨g', hg'⟩ : ∃ g' : Fr, fr' = g'.upds [(15, (.int .i64 x1 : Value))] := ⟨_, Fr.upds_self _ _ ⟨a15, trivial⟩⟩
        subst hg'
        exact SA.val (v := .int .i64 (w64 (x1.tdiv 128))) rfl (wantN rfl) (fun w => ev_quo rfl rfl rfl (by decide) w)
      · clear h
        intro fr' T' H' hle hs hA
        have a16 : fr' 16 = (.int .i64 (w64 (x1.tdiv 128)) : Value) := hA 7 (by kernel_rfl)
        obtain ⟨g', hg'⟩ : ∃ g' : Fr, fr' = g'.upds [(16, (.int .i64 (w64 (x1.tdiv 128)) : Value))] := ⟨_, Fr.upds_self _ _ ⟨a16, trivial⟩⟩
        subst hg'
        exact SA.enter (Hc := H) (v := .string s12) hle rfl (wantN rfl) (fun _ => by kernel_rfl) ((ih (w64 (x1.tdiv 128)) H _ c13).mono (by rintro v H' ⟨_, rfl, rfl, h'⟩; exact ⟨rfl, h'⟩))
      · clear h
        intro fr' T' H' hle hs hA
        have a14 : fr' 14 = (.string (⟨bs10.toArray⟩ : ByteArray) : Value) := hA 5 (by kernel_rfl)
        have a17 : fr' 17 = (.string s12 : Value) := hA 8 (by kernel_rfl)
        obtain ⟨g', hg'⟩ : ∃ g' : Fr, fr' = g'.upds [(14, (.string (⟨bs10.toArray⟩ : ByteArray) : Value)), (17, (.string s12 : Value))] := ⟨_, Fr.upds_self _ _ ⟨a14, a17, trivial⟩⟩
        subst hg'
        exact SA.val (v := .string ((⟨bs10.toArray⟩ : ByteArray) ++ s12)) rfl (wantN rfl) (fun w => ev_cat rfl rfl rfl c14 w)
      · clear h
        intro fr' T' H' hle hs hA
        have a18 : fr' 18 = (.string ((⟨bs10.toArray⟩ : ByteArray) ++ s12) : Value) := hA 9 (by kernel_rfl)
        obtain ⟨g', hg'⟩ : ∃ g' : Fr, fr' = g'.upds [(18, (.string ((⟨bs10.toArray⟩ : ByteArray) ++ s12) : Value))] := ⟨_, Fr.upds_self _ _ ⟨a18, trivial⟩⟩
        subst hg'
        exact SA.val (v := .string ((⟨bs10.toArray⟩ : ByteArray) ++ s12)) rfl (wantN rfl) (fun _ => by kernel_rfl)
      · intro fr' T' H' hle hs hA
        have a2 : fr' 2 = (.string ((⟨bs10.toArray⟩ : ByteArray) ++ s12) : Value) := hA 10 (Nat.le_of_ble_eq_true rfl)
        obtain ⟨g', hg'⟩ : ∃ g' : Fr, fr' = g'.upds [(2, (.string ((⟨bs10.toArray⟩ : ByteArray) ++ s12) : Value))] := ⟨_, Fr.upds_self _ _ ⟨a2, trivial⟩⟩
        subst hg'
        refine SOps.forget (H) hle ?_
        clear hle hs hA
        refine SOps.nil ?_
        obtain ⟨Hr, hr, h⟩ := h
        exact SW.ret (retQ.mk (.string ((⟨bs10.toArray⟩ : ByteArray) ++ s12)) (res1 rfl rfl) hr ⟨(⟨bs10.toArray⟩ : ByteArray) ++ s12, rfl, h⟩)

/-! ### lading/ladingref01.Turn: function 22 -/
def ladingref01_Turn.wp (F : Nat) (x1 : Int) (H : SH) (K : Int → SH → Prop) : Prop :=
  (x1 < 0 →
    ∃ Hr, SH.le Hr H ∧ K (w64 ((w64 (0 - (w64 (2 * x1)))) - 1)) Hr
  ) ∧ (¬ (x1 < 0) →
    ∃ Hr, SH.le Hr H ∧ K (w64 (2 * x1)) Hr
  )
set_option maxHeartbeats 8000000 in
theorem ladingref01_Turn.sound (F : Nat) (x1 : Int) (H : SH) (K : Int → SH → Prop) (h : ladingref01_Turn.wp F x1 H K) : SCalls Tryd.prog 22 #[.int .i64 x1] H (fun v H' => ∃ (x4 : Int), v = .int .i64 x4 ∧ K x4 H') := by
  unfold ladingref01_Turn.wp at h
  refine SCalls.body Tryd.func22 rfl (Nat.le_of_ble_eq_true rfl) ?_
  refine SW.seq ?_
  refine SW.region ?_
  refine SOps.val (v := .int .i64 0) rfl (wantN rfl) (fun _ => by kernel_rfl) ?_
  refine SOps.nil ?_
  refine SW.seq ?_
  refine SW.seq ?_
  refine SW.region ?_
  refine SOps.val (v := .int .i64 x1) rfl (wantN rfl) (fun _ => by kernel_rfl) ?_
  refine SOps.val (v := .bool (decide (x1 < 0))) rfl (wantN rfl) (fun _ => by kernel_rfl) ?_
  refine SOps.nil ?_
  by_cases c2 : x1 < 0
  · replace h := h.1 c2
    have dc2 : (decide (x1 < 0)) = true := (decide_eq_true c2)
    refine SW.cond_t (t := decide (x1 < 0)) rfl dc2 ?_
    refine SW.seq ?_
    refine SW.region ?_
    refine SOps.val (v := .int .i64 x1) rfl (wantN rfl) (fun _ => by kernel_rfl) ?_
    refine SOps.val (v := .int .i64 (w64 (2 * x1))) rfl (wantN rfl) (fun _ => by kernel_rfl) ?_
    refine SOps.val (v := .int .i64 (w64 (0 - (w64 (2 * x1))))) rfl (wantN rfl) (fun _ => by kernel_rfl) ?_
    refine SOps.val (v := .int .i64 (w64 ((w64 (0 - (w64 (2 * x1)))) - 1))) rfl (wantN rfl) (fun _ => by kernel_rfl) ?_
    refine SOps.val (v := .int .i64 (w64 ((w64 (0 - (w64 (2 * x1)))) - 1))) rfl (wantN rfl) (fun _ => by kernel_rfl) ?_
    refine SOps.nil ?_
    obtain ⟨Hr, hr, h⟩ := h
    exact SW.ret (retQ.mk (.int .i64 (w64 ((w64 (0 - (w64 (2 * x1)))) - 1))) (res1 rfl rfl) hr ⟨w64 ((w64 (0 - (w64 (2 * x1)))) - 1), rfl, h⟩)
  · replace h := h.2 c2
    have dc2 : (decide (x1 < 0)) = false := (decide_eq_false c2)
    refine SW.cond_f (t := decide (x1 < 0)) rfl dc2 ?_
    refine SW.skip ?_
    refine SW.seq ?_
    refine SW.region ?_
    refine SOps.val (v := .int .i64 x1) rfl (wantN rfl) (fun _ => by kernel_rfl) ?_
    refine SOps.val (v := .int .i64 (w64 (2 * x1))) rfl (wantN rfl) (fun _ => by kernel_rfl) ?_
    refine SOps.val (v := .int .i64 (w64 (2 * x1))) rfl (wantN rfl) (fun _ => by kernel_rfl) ?_
    refine SOps.nil ?_
    obtain ⟨Hr, hr, h⟩ := h
    exact SW.ret (retQ.mk (.int .i64 (w64 (2 * x1))) (res1 rfl rfl) hr ⟨w64 (2 * x1), rfl, h⟩)

/-! ### lading/ladingref01.Back: function 60 -/
def ladingref01_Back.wp (F : Nat) (x1 : Int) (H : SH) (K : Int → SH → Prop) : Prop :=
  ((x1.tmod 2) = 1 →
    ∃ Hr, SH.le Hr H ∧ K (w64 (0 - (w64 ((w64 (x1 + 1)).tdiv 2)))) Hr
  ) ∧ (¬ ((x1.tmod 2) = 1) →
    ∃ Hr, SH.le Hr H ∧ K (w64 (x1.tdiv 2)) Hr
  )
set_option maxHeartbeats 8000000 in
theorem ladingref01_Back.sound (F : Nat) (x1 : Int) (H : SH) (K : Int → SH → Prop) (h : ladingref01_Back.wp F x1 H K) : SCalls Tryd.prog 60 #[.int .i64 x1] H (fun v H' => ∃ (x4 : Int), v = .int .i64 x4 ∧ K x4 H') := by
  unfold ladingref01_Back.wp at h
  refine SCalls.body Tryd.func60 rfl (Nat.le_of_ble_eq_true rfl) ?_
  refine SW.seq ?_
  refine SW.region ?_
  refine SOps.val (v := .int .i64 0) rfl (wantN rfl) (fun _ => by kernel_rfl) ?_
  refine SOps.nil ?_
  refine SW.seq ?_
  refine SW.seq ?_
  refine SW.region ?_
  refine SOps.val (v := .int .i64 x1) rfl (wantN rfl) (fun _ => by kernel_rfl) ?_
  refine SOps.val (v := .int .i64 (x1.tmod 2)) rfl (wantN rfl) (fun w => ev_rem rfl rfl rfl (by decide) w) ?_
  refine SOps.val (v := .bool ((x1.tmod 2) == 1)) rfl (wantN rfl) (fun _ => by kernel_rfl) ?_
  refine SOps.nil ?_
  by_cases c2 : (x1.tmod 2) = 1
  · replace h := h.1 c2
    have dc2 : ((x1.tmod 2) == 1) = true := (beq_iff_eq.mpr c2)
    refine SW.cond_t (t := ((x1.tmod 2) == 1)) rfl dc2 ?_
    refine SW.seq ?_
    refine SW.region ?_
    refine SOps.val (v := .int .i64 x1) rfl (wantN rfl) (fun _ => by kernel_rfl) ?_
    refine SOps.val (v := .int .i64 (w64 (x1 + 1))) rfl (wantN rfl) (fun _ => by kernel_rfl) ?_
    refine SOps.val (v := .int .i64 (w64 ((w64 (x1 + 1)).tdiv 2))) rfl (wantN rfl) (fun w => ev_quo rfl rfl rfl (by decide) w) ?_
    refine SOps.val (v := .int .i64 (w64 (0 - (w64 ((w64 (x1 + 1)).tdiv 2))))) rfl (wantN rfl) (fun _ => by kernel_rfl) ?_
    refine SOps.val (v := .int .i64 (w64 (0 - (w64 ((w64 (x1 + 1)).tdiv 2))))) rfl (wantN rfl) (fun _ => by kernel_rfl) ?_
    refine SOps.nil ?_
    obtain ⟨Hr, hr, h⟩ := h
    exact SW.ret (retQ.mk (.int .i64 (w64 (0 - (w64 ((w64 (x1 + 1)).tdiv 2))))) (res1 rfl rfl) hr ⟨w64 (0 - (w64 ((w64 (x1 + 1)).tdiv 2))), rfl, h⟩)
  · replace h := h.2 c2
    have dc2 : ((x1.tmod 2) == 1) = false := (beq_eq_false_iff_ne.mpr c2)
    refine SW.cond_f (t := ((x1.tmod 2) == 1)) rfl dc2 ?_
    refine SW.skip ?_
    refine SW.seq ?_
    refine SW.region ?_
    refine SOps.val (v := .int .i64 x1) rfl (wantN rfl) (fun _ => by kernel_rfl) ?_
    refine SOps.val (v := .int .i64 (w64 (x1.tdiv 2))) rfl (wantN rfl) (fun w => ev_quo rfl rfl rfl (by decide) w) ?_
    refine SOps.val (v := .int .i64 (w64 (x1.tdiv 2))) rfl (wantN rfl) (fun _ => by kernel_rfl) ?_
    refine SOps.nil ?_
    obtain ⟨Hr, hr, h⟩ := h
    exact SW.ret (retQ.mk (.int .i64 (w64 (x1.tdiv 2))) (res1 rfl rfl) hr ⟨w64 (x1.tdiv 2), rfl, h⟩)

/-! ### lading/ladingref01.ReadShort: function 59 -/
def ladingref01_ReadShort.r2 (F : Nat) (K : Int → Int → Int → Int → SH → Prop) (R2 : ByteArray → Int → Nat → Int → Int → Int → SH → Prop) (s76 : ByteArray) (x77 : Int) (b78 : Nat) (x79 : Int) (x80 : Int) (x81 : Int) (H : SH) : Prop :=
  (x81 ≥ x77 →
    0 ≤ x81 ∧
    x81 < (s76.size : Int) ∧
    R2 s76 x77 b78 x79 (w64 ((w64 (128 * x80)) + ((w64 (bt s76 x81)).tmod 128))) (w64 (x81 - 1)) H
  ) ∧ (¬ (x81 ≥ x77) →
    SH.wrs H (b78, 0) 4 ∧
    ∃ (x86 : Int) (x87 : Int) (x88 : Int) (x89 : Int),
    SH.row (SH.setl H (b78, 0) [.int .i64 x80, .int .i64 (w64 (x79 + 1)), .int .i64 0, .int .i64 0]) (some (b78, 0)) [.int .i64 x86, .int .i64 x87, .int .i64 x88, .int .i64 x89] ∧
    ∃ Hr, SH.le Hr (SH.setl H (b78, 0) [.int .i64 x80, .int .i64 (w64 (x79 + 1)), .int .i64 0, .int .i64 0]) ∧ K x86 x87 x88 x89 Hr
  )
def ladingref01_ReadShort.l2 (F : Nat) (K : Int → Int → Int → Int → SH → Prop) : Nat → ByteArray → Int → Nat → Int → Int → Int → SH → Prop
  | 0, _, _, _, _, _, _, _ => False
  | k + 1, s76, x77, b78, x79, x80, x81, H => ladingref01_ReadShort.r2 F K (ladingref01_ReadShort.l2 F K k) s76 x77 b78 x79 x80 x81 H
def ladingref01_ReadShort.j3 (F : Nat) (K : Int → Int → Int → Int → SH → Prop) (s72 : ByteArray) (x73 : Int) (b74 : Nat) (x75 : Int) (H : SH) : Prop :=
  ladingref01_ReadShort.l2 F K F s72 x73 b74 x75 0 x75 H
def ladingref01_ReadShort.j1 (F : Nat) (K : Int → Int → Int → Int → SH → Prop) (s40 : ByteArray) (x41 : Int) (b42 : Nat) (x43 : Int) (H : SH) : Prop :=
  (x43 = (w64 (x41 + 8)) →
    SH.wrs H (b42, 0) 4 ∧
    ∃ (x50 : Int) (x51 : Int) (x52 : Int) (x53 : Int),
    SH.row (SH.setl H (b42, 0) [.int .i64 0, .int .i64 x41, .int .i64 4, .int .i64 x41]) (some (b42, 0)) [.int .i64 x50, .int .i64 x51, .int .i64 x52, .int .i64 x53] ∧
    ∃ Hr, SH.le Hr (SH.setl H (b42, 0) [.int .i64 0, .int .i64 x41, .int .i64 4, .int .i64 x41]) ∧ K x50 x51 x52 x53 Hr
  ) ∧ (¬ (x43 = (w64 (x41 + 8))) →
    (x43 = (s40.size : Int) →
      SH.wrs H (b42, 0) 4 ∧
      ∃ (x57 : Int) (x58 : Int) (x59 : Int) (x60 : Int),
      SH.row (SH.setl H (b42, 0) [.int .i64 0, .int .i64 x41, .int .i64 3, .int .i64 (s40.size : Int)]) (some (b42, 0)) [.int .i64 x57, .int .i64 x58, .int .i64 x59, .int .i64 x60] ∧
      ∃ Hr, SH.le Hr (SH.setl H (b42, 0) [.int .i64 0, .int .i64 x41, .int .i64 3, .int .i64 (s40.size : Int)]) ∧ K x57 x58 x59 x60 Hr
    ) ∧ (¬ (x43 = (s40.size : Int)) →
      0 ≤ x43 ∧
      x43 < (s40.size : Int) ∧
      ((bt s40 x43) = 0 →
        (x43 > x41 →
          SH.wrs H (b42, 0) 4 ∧
          ∃ (x67 : Int) (x68 : Int) (x69 : Int) (x70 : Int),
          SH.row (SH.setl H (b42, 0) [.int .i64 0, .int .i64 x41, .int .i64 4, .int .i64 x41]) (some (b42, 0)) [.int .i64 x67, .int .i64 x68, .int .i64 x69, .int .i64 x70] ∧
          ∃ Hr, SH.le Hr (SH.setl H (b42, 0) [.int .i64 0, .int .i64 x41, .int .i64 4, .int .i64 x41]) ∧ K x67 x68 x69 x70 Hr
        ) ∧ (¬ (x43 > x41) →
          ladingref01_ReadShort.j3 F K s40 x41 b42 x43 H
        )
      ) ∧ (¬ ((bt s40 x43) = 0) →
        ladingref01_ReadShort.j3 F K s40 x41 b42 x43 H
      )
    )
  )
def ladingref01_ReadShort.j2 (F : Nat) (K : Int → Int → Int → Int → SH → Prop) (s28 : ByteArray) (x29 : Int) (b30 : Nat) (x31 : Int) (H : SH) : Prop :=
  ladingref01_ReadShort.j1 F K s28 x29 b30 x31 H
def ladingref01_ReadShort.r1 (F : Nat) (K : Int → Int → Int → Int → SH → Prop) (R1 : ByteArray → Int → Nat → Int → SH → Prop) (s19 : ByteArray) (x20 : Int) (b21 : Nat) (x22 : Int) (H : SH) : Prop :=
  (x22 < (s19.size : Int) →
    0 ≤ x22 ∧
    x22 < (s19.size : Int) ∧
    ((bt s19 x22) ≥ 128 →
      (x22 < (w64 (x20 + 8)) →
        R1 s19 x20 b21 (w64 (x22 + 1)) H
      ) ∧ (¬ (x22 < (w64 (x20 + 8))) →
        ladingref01_ReadShort.j2 F K s19 x20 b21 x22 H
      )
    ) ∧ (¬ ((bt s19 x22) ≥ 128) →
      ladingref01_ReadShort.j2 F K s19 x20 b21 x22 H
    )
  ) ∧ (¬ (x22 < (s19.size : Int)) →
    ladingref01_ReadShort.j2 F K s19 x20 b21 x22 H
  )
def ladingref01_ReadShort.l1 (F : Nat) (K : Int → Int → Int → Int → SH → Prop) : Nat → ByteArray → Int → Nat → Int → SH → Prop
  | 0, _, _, _, _, _ => False
  | k + 1, s19, x20, b21, x22, H => ladingref01_ReadShort.r1 F K (ladingref01_ReadShort.l1 F K k) s19 x20 b21 x22 H
def ladingref01_ReadShort.wp (F : Nat) (s1 : ByteArray) (x2 : Int) (H : SH) (K : Int → Int → Int → Int → SH → Prop) : Prop :=
  ∀ b3, H b3 = none →
  (x2 < 0 →
    SH.wrs (SH.upd H b3 ⟨[.int .i64 0, .int .i64 0, .int .i64 0, .int .i64 0], 62, false, 4⟩) (b3, 0) 4 ∧
    ∃ (x7 : Int) (x8 : Int) (x9 : Int) (x10 : Int),
    SH.row (SH.setl (SH.upd H b3 ⟨[.int .i64 0, .int .i64 0, .int .i64 0, .int .i64 0], 62, false, 4⟩) (b3, 0) [.int .i64 0, .int .i64 x2, .int .i64 1, .int .i64 x2]) (some (b3, 0)) [.int .i64 x7, .int .i64 x8, .int .i64 x9, .int .i64 x10] ∧
    ∃ Hr, SH.le Hr (SH.setl (SH.upd H b3 ⟨[.int .i64 0, .int .i64 0, .int .i64 0, .int .i64 0], 62, false, 4⟩) (b3, 0) [.int .i64 0, .int .i64 x2, .int .i64 1, .int .i64 x2]) ∧ K x7 x8 x9 x10 Hr
  ) ∧ (¬ (x2 < 0) →
    (x2 > (s1.size : Int) →
      SH.wrs (SH.upd H b3 ⟨[.int .i64 0, .int .i64 0, .int .i64 0, .int .i64 0], 62, false, 4⟩) (b3, 0) 4 ∧
      ∃ (x14 : Int) (x15 : Int) (x16 : Int) (x17 : Int),
      SH.row (SH.setl (SH.upd H b3 ⟨[.int .i64 0, .int .i64 0, .int .i64 0, .int .i64 0], 62, false, 4⟩) (b3, 0) [.int .i64 0, .int .i64 x2, .int .i64 1, .int .i64 x2]) (some (b3, 0)) [.int .i64 x14, .int .i64 x15, .int .i64 x16, .int .i64 x17] ∧
      ∃ Hr, SH.le Hr (SH.setl (SH.upd H b3 ⟨[.int .i64 0, .int .i64 0, .int .i64 0, .int .i64 0], 62, false, 4⟩) (b3, 0) [.int .i64 0, .int .i64 x2, .int .i64 1, .int .i64 x2]) ∧ K x14 x15 x16 x17 Hr
    ) ∧ (¬ (x2 > (s1.size : Int)) →
      ladingref01_ReadShort.l1 F K F s1 x2 b3 x2 (SH.upd H b3 ⟨[.int .i64 0, .int .i64 0, .int .i64 0, .int .i64 0], 62, false, 4⟩)
    )
  )
set_option maxHeartbeats 8000000 in
theorem ladingref01_ReadShort.sound (F : Nat) (s1 : ByteArray) (x2 : Int) (H : SH) (K : Int → Int → Int → Int → SH → Prop) (h : ladingref01_ReadShort.wp F s1 x2 H K) : SCalls Tryd.prog 59 #[.string s1, .int .i64 x2] H (fun v H' => ∃ (x111 : Int) (x112 : Int) (x113 : Int) (x114 : Int), v = .agg #[.int .i64 x111, .int .i64 x112, .int .i64 x113, .int .i64 x114] ∧ K x111 x112 x113 x114 H') := by
  unfold ladingref01_ReadShort.wp at h
  refine SCalls.body Tryd.func59 rfl (Nat.le_of_ble_eq_true rfl) ?_
  refine SW.seq ?_
  refine SW.region ?_
  refine SOps.alloc rfl rfl (wantN rfl) (z := .agg #[.int .i64 0, .int .i64 0, .int .i64 0, .int .i64 0]) (by kernel_rfl) (fun b3 c4 => ?_)
  replace h := h b3 c4
  refine SOps.nil ?_
  refine SW.seq ?_
  refine SW.seq ?_
  refine SW.region ?_
  refine SOps.val (v := .int .i64 x2) rfl (wantN rfl) (fun _ => by kernel_rfl) ?_
  refine SOps.val (v := .bool (decide (x2 < 0))) rfl (wantN rfl) (fun _ => by kernel_rfl) ?_
  refine SOps.val (v := .bool (decide (x2 < 0))) rfl (wantN rfl) (fun _ => by kernel_rfl) ?_
  by_cases c5 : x2 < 0
  · replace h := h.1 c5
    have dc5 : (decide (x2 < 0)) = true := (decide_eq_true c5)
    refine SOps.off rfl (wantX (c := decide (x2 < 0)) rfl rfl rfl dc5) ?_
    refine SOps.off rfl (wantX (c := decide (x2 < 0)) rfl rfl rfl dc5) ?_
    refine SOps.off rfl (wantX (c := decide (x2 < 0)) rfl rfl rfl dc5) ?_
    refine SOps.off rfl (wantX (c := decide (x2 < 0)) rfl rfl rfl dc5) ?_
    refine SOps.val (v := .bool true) rfl (wantN rfl) (fun w => ev_pickT (v := .bool true) rfl (t := decide (x2 < 0)) rfl dc5 rfl w) ?_
    refine SOps.nil ?_
    refine SW.cond_t (t := true) rfl rfl ?_
    refine SW.seq ?_
    refine SW.region ?_
    refine SOps.val (v := .int .i64 x2) rfl (wantN rfl) (fun _ => by kernel_rfl) ?_
    refine SOps.val (v := .int .i64 x2) rfl (wantN rfl) (fun _ => by kernel_rfl) ?_
    refine SOps.val (v := .agg #[.int .i64 0, .int .i64 x2, .int .i64 1, .int .i64 x2]) rfl (wantN rfl) (fun _ => by kernel_rfl) ?_
    obtain ⟨c6, h⟩ := h
    refine SOps.storeL (p := (b3, 0)) (v := .agg #[.int .i64 0, .int .i64 x2, .int .i64 1, .int .i64 x2]) (cs := [.int .i64 0, .int .i64 x2, .int .i64 1, .int .i64 x2]) rfl rfl (wantN rfl) (size := 4) (by kernel_rfl) rfl rfl rfl rfl (by simp [Value.oneCell', errV_one, pv, sv]) c6 ?_
    refine SOps.nil ?_
    obtain ⟨x7, x8, x9, x10, c11, Hr, hr, h⟩ := h
    exact SW.ret (retQ.mkM (.agg #[.int .i64 x7, .int .i64 x8, .int .i64 x9, .int .i64 x10]) (resCN (size := 4) (p := (b3, 0)) (T := 62) rfl rfl (fun _ => by kernel_rfl) (by kernel_rfl) rfl c11) hr ⟨x7, x8, x9, x10, rfl, h⟩)
  · replace h := h.2 c5
    have dc5 : (decide (x2 < 0)) = false := (decide_eq_false c5)
    refine SOps.val (v := .int .i64 x2) rfl (wantY (c := decide (x2 < 0)) rfl rfl rfl dc5) (fun _ => by kernel_rfl) ?_
    refine SOps.val (v := .string s1) rfl (wantY (c := decide (x2 < 0)) rfl rfl rfl dc5) (fun _ => by kernel_rfl) ?_
    refine SOps.val (v := .int .i64 (s1.size : Int)) rfl (wantY (c := decide (x2 < 0)) rfl rfl rfl dc5) (fun _ => by kernel_rfl) ?_
    refine SOps.val (v := .bool (decide (x2 > (s1.size : Int)))) rfl (wantY (c := decide (x2 < 0)) rfl rfl rfl dc5) (fun _ => by kernel_rfl) ?_
    refine SOps.val (v := .bool (decide (x2 > (s1.size : Int)))) rfl (wantN rfl) (fun w => ev_pickF (v := .bool (decide (x2 > (s1.size : Int)))) rfl (t := decide (x2 < 0)) rfl dc5 rfl w) ?_
    refine SOps.nil ?_
    by_cases c12 : x2 > (s1.size : Int)
    · replace h := h.1 c12
      have dc12 : (decide (x2 > (s1.size : Int))) = true := (decide_eq_true c12)
      refine SW.cond_t (t := decide (x2 > (s1.size : Int))) rfl dc12 ?_
      refine SW.seq ?_
      refine SW.region ?_
      refine SOps.val (v := .int .i64 x2) rfl (wantN rfl) (fun _ => by kernel_rfl) ?_
      refine SOps.val (v := .int .i64 x2) rfl (wantN rfl) (fun _ => by kernel_rfl) ?_
      refine SOps.val (v := .agg #[.int .i64 0, .int .i64 x2, .int .i64 1, .int .i64 x2]) rfl (wantN rfl) (fun _ => by kernel_rfl) ?_
      obtain ⟨c13, h⟩ := h
      refine SOps.storeL (p := (b3, 0)) (v := .agg #[.int .i64 0, .int .i64 x2, .int .i64 1, .int .i64 x2]) (cs := [.int .i64 0, .int .i64 x2, .int .i64 1, .int .i64 x2]) rfl rfl (wantN rfl) (size := 4) (by kernel_rfl) rfl rfl rfl rfl (by simp [Value.oneCell', errV_one, pv, sv]) c13 ?_
      refine SOps.nil ?_
      obtain ⟨x14, x15, x16, x17, c18, Hr, hr, h⟩ := h
      exact SW.ret (retQ.mkM (.agg #[.int .i64 x14, .int .i64 x15, .int .i64 x16, .int .i64 x17]) (resCN (size := 4) (p := (b3, 0)) (T := 62) rfl rfl (fun _ => by kernel_rfl) (by kernel_rfl) rfl c18) hr ⟨x14, x15, x16, x17, rfl, h⟩)
    · replace h := h.2 c12
      have dc12 : (decide (x2 > (s1.size : Int))) = false := (decide_eq_false c12)
      refine SW.cond_f (t := decide (x2 > (s1.size : Int))) rfl dc12 ?_
      refine SW.skip ?_
      refine SW.seq ?_
      refine SW.region ?_
      refine SOps.val (v := .int .i64 x2) rfl (wantN rfl) (fun _ => by kernel_rfl) ?_
      refine SOps.val (v := .int .i64 x2) rfl (wantN rfl) (fun _ => by kernel_rfl) ?_
      refine SOps.nil ?_
      refine SW.seqJ (fun fr H => ∃ (g : Fr) (s40 : ByteArray) (x41 : Int) (b42 : Nat) (x43 : Int), fr = g.upds [(0, (.string s40 : Value)), (1, (.int .i64 x41 : Value)), (4, pv (some (b42, 0))), (5, (.int .i64 x43 : Value))] ∧ ladingref01_ReadShort.j1 F K s40 x41 b42 x43 H) ?_ ?_
      · clear h
        rintro fr H ⟨g, s40, x41, b42, x43, rfl, h⟩
        unfold ladingref01_ReadShort.j1 at h
        refine SW.seq ?_
        refine SW.seq ?_
        refine SW.region ?_
        refine SOps.val (v := .int .i64 x43) rfl (wantN rfl) (fun _ => by kernel_rfl) ?_
        refine SOps.val (v := .int .i64 x41) rfl (wantN rfl) (fun _ => by kernel_rfl) ?_
        refine SOps.val (v := .int .i64 (w64 (x41 + 8))) rfl (wantN rfl) (fun _ => by kernel_rfl) ?_
        refine SOps.val (v := .bool (x43 == (w64 (x41 + 8)))) rfl (wantN rfl) (fun _ => by kernel_rfl) ?_
        refine SOps.nil ?_
        by_cases c48 : x43 = (w64 (x41 + 8))
        · replace h := h.1 c48
          have dc48 : (x43 == (w64 (x41 + 8))) = true := (beq_iff_eq.mpr c48)
          refine SW.cond_t (t := (x43 == (w64 (x41 + 8)))) rfl dc48 ?_
          refine SW.seq ?_
          refine SW.region ?_
          refine SOps.val (v := .int .i64 x41) rfl (wantN rfl) (fun _ => by kernel_rfl) ?_
          refine SOps.val (v := .int .i64 x41) rfl (wantN rfl) (fun _ => by kernel_rfl) ?_
          refine SOps.val (v := .agg #[.int .i64 0, .int .i64 x41, .int .i64 4, .int .i64 x41]) rfl (wantN rfl) (fun _ => by kernel_rfl) ?_
          obtain ⟨c49, h⟩ := h
          refine SOps.storeL (p := (b42, 0)) (v := .agg #[.int .i64 0, .int .i64 x41, .int .i64 4, .int .i64 x41]) (cs := [.int .i64 0, .int .i64 x41, .int .i64 4, .int .i64 x41]) rfl rfl (wantN rfl) (size := 4) (by kernel_rfl) rfl rfl rfl rfl (by simp [Value.oneCell', errV_one, pv, sv]) c49 ?_
          refine SOps.nil ?_
          obtain ⟨x50, x51, x52, x53, c54, Hr, hr, h⟩ := h
          exact SW.ret (retQ.mkM (.agg #[.int .i64 x50, .int .i64 x51, .int .i64 x52, .int .i64 x53]) (resCN (size := 4) (p := (b42, 0)) (T := 62) rfl rfl (fun _ => by kernel_rfl) (by kernel_rfl) rfl c54) hr ⟨x50, x51, x52, x53, rfl, h⟩)
        · replace h := h.2 c48
          have dc48 : (x43 == (w64 (x41 + 8))) = false := (beq_eq_false_iff_ne.mpr c48)
          refine SW.cond_f (t := (x43 == (w64 (x41 + 8)))) rfl dc48 ?_
          refine SW.skip ?_
          refine SW.seq ?_
          refine SW.seq ?_
          refine SW.region ?_
          refine SOps.val (v := .int .i64 x43) rfl (wantN rfl) (fun _ => by kernel_rfl) ?_
          refine SOps.val (v := .string s40) rfl (wantN rfl) (fun _ => by kernel_rfl) ?_
          refine SOps.val (v := .int .i64 (s40.size : Int)) rfl (wantN rfl) (fun _ => by kernel_rfl) ?_
          refine SOps.val (v := .bool (x43 == (s40.size : Int))) rfl (wantN rfl) (fun _ => by kernel_rfl) ?_
          refine SOps.nil ?_
          by_cases c55 : x43 = (s40.size : Int)
          · replace h := h.1 c55
            have dc55 : (x43 == (s40.size : Int)) = true := (beq_iff_eq.mpr c55)
            refine SW.cond_t (t := (x43 == (s40.size : Int))) rfl dc55 ?_
            refine SW.seq ?_
            refine SW.region ?_
            refine SOps.val (v := .int .i64 x41) rfl (wantN rfl) (fun _ => by kernel_rfl) ?_
            refine SOps.val (v := .string s40) rfl (wantN rfl) (fun _ => by kernel_rfl) ?_
            refine SOps.val (v := .int .i64 (s40.size : Int)) rfl (wantN rfl) (fun _ => by kernel_rfl) ?_
            refine SOps.val (v := .agg #[.int .i64 0, .int .i64 x41, .int .i64 3, .int .i64 (s40.size : Int)]) rfl (wantN rfl) (fun _ => by kernel_rfl) ?_
            obtain ⟨c56, h⟩ := h
            refine SOps.storeL (p := (b42, 0)) (v := .agg #[.int .i64 0, .int .i64 x41, .int .i64 3, .int .i64 (s40.size : Int)]) (cs := [.int .i64 0, .int .i64 x41, .int .i64 3, .int .i64 (s40.size : Int)]) rfl rfl (wantN rfl) (size := 4) (by kernel_rfl) rfl rfl rfl rfl (by simp [Value.oneCell', errV_one, pv, sv]) c56 ?_
            refine SOps.nil ?_
            obtain ⟨x57, x58, x59, x60, c61, Hr, hr, h⟩ := h
            exact SW.ret (retQ.mkM (.agg #[.int .i64 x57, .int .i64 x58, .int .i64 x59, .int .i64 x60]) (resCN (size := 4) (p := (b42, 0)) (T := 62) rfl rfl (fun _ => by kernel_rfl) (by kernel_rfl) rfl c61) hr ⟨x57, x58, x59, x60, rfl, h⟩)
          · replace h := h.2 c55
            have dc55 : (x43 == (s40.size : Int)) = false := (beq_eq_false_iff_ne.mpr c55)
            refine SW.cond_f (t := (x43 == (s40.size : Int))) rfl dc55 ?_
            refine SW.skip ?_
            refine SW.seqJ (fun fr H => ∃ (g : Fr) (s72 : ByteArray) (x73 : Int) (b74 : Nat) (x75 : Int), fr = g.upds [(0, (.string s72 : Value)), (1, (.int .i64 x73 : Value)), (4, pv (some (b74, 0))), (5, (.int .i64 x75 : Value))] ∧ ladingref01_ReadShort.j3 F K s72 x73 b74 x75 H) ?_ ?_
            · clear h
              rintro fr H ⟨g, s72, x73, b74, x75, rfl, h⟩
              unfold ladingref01_ReadShort.j3 at h
              refine SW.seq ?_
              refine SW.region ?_
              refine SOps.val (v := .int .i64 0) rfl (wantN rfl) (fun _ => by kernel_rfl) ?_
              refine SOps.nil ?_
              refine SW.seq ?_
              refine SW.seq ?_
              refine SW.region ?_
              refine SOps.val (v := .int .i64 x75) rfl (wantN rfl) (fun _ => by kernel_rfl) ?_
              refine SOps.val (v := .int .i64 x75) rfl (wantN rfl) (fun _ => by kernel_rfl) ?_
              refine SOps.nil ?_
              refine SW.block ?_
              refine SW.loop (fun k2 fr H => ∃ (g : Fr) (s76 : ByteArray) (x77 : Int) (b78 : Nat) (x79 : Int) (x80 : Int) (x81 : Int), fr = g.upds [(0, (.string s76 : Value)), (1, (.int .i64 x77 : Value)), (4, pv (some (b78, 0))), (5, (.int .i64 x79 : Value)), (6, (.int .i64 x80 : Value)), (7, (.int .i64 x81 : Value))] ∧ ladingref01_ReadShort.l2 F K k2 s76 x77 b78 x79 x80 x81 H) F ⟨_, s72, x73, b74, x75, 0, x75, (Fr.upds_self _ _ ⟨rfl, rfl, rfl, rfl, rfl, rfl, trivial⟩), h⟩ ?_
              clear h
              rintro k2 fr H ⟨g, s76, x77, b78, x79, x80, x81, rfl, h⟩
              cases k2 with
              | zero => exact h.elim
              | succ k2 =>
                replace h : ladingref01_ReadShort.r2 F K (ladingref01_ReadShort.l2 F K k2) s76 x77 b78 x79 x80 x81 H := h
                unfold ladingref01_ReadShort.r2 at h
                refine SW.seq ?_
                refine SW.seq ?_
                refine SW.region ?_
                refine SOps.val (v := .int .i64 x81) rfl (wantN rfl) (fun _ => by kernel_rfl) ?_
                refine SOps.val (v := .int .i64 x77) rfl (wantN rfl) (fun _ => by kernel_rfl) ?_
                refine SOps.val (v := .bool (decide (x81 ≥ x77))) rfl (wantN rfl) (fun _ => by kernel_rfl) ?_
                refine SOps.nil ?_
                by_cases c82 : x81 ≥ x77
                · replace h := h.1 c82
                  have dc82 : (decide (x81 ≥ x77)) = true := (decide_eq_true c82)
                  refine SW.cond_t (t := decide (x81 ≥ x77)) rfl dc82 ?_
                  refine SW.skip ?_
                  refine SW.seq ?_
                  refine SW.block ?_
                  refine SW.region ?_
                  refine SOps.val (v := .int .i64 x80) rfl (wantN rfl) (fun _ => by kernel_rfl) ?_
                  refine SOps.val (v := .int .i64 (w64 (128 * x80))) rfl (wantN rfl) (fun _ => by kernel_rfl) ?_
                  refine SOps.val (v := .string s76) rfl (wantN rfl) (fun _ => by kernel_rfl) ?_
                  refine SOps.val (v := .int .i64 x81) rfl (wantN rfl) (fun _ => by kernel_rfl) ?_
                  obtain ⟨c83, c84, h⟩ := h
                  refine SOps.val (v := .int .u8 (bt s76 x81)) rfl (wantN rfl) (fun w => ev_idxB rfl Tryd.underlying9 rfl rfl c83 c84 w) ?_
                  refine SOps.val (v := .int .i64 (w64 (bt s76 x81))) rfl (wantN rfl) (fun _ => by kernel_rfl) ?_
                  refine SOps.val (v := .int .i64 ((w64 (bt s76 x81)).tmod 128)) rfl (wantN rfl) (fun w => ev_rem rfl rfl rfl (by decide) w) ?_
                  refine SOps.val (v := .int .i64 (w64 ((w64 (128 * x80)) + ((w64 (bt s76 x81)).tmod 128)))) rfl (wantN rfl) (fun _ => by kernel_rfl) ?_
                  refine SOps.val (v := .int .i64 (w64 ((w64 (128 * x80)) + ((w64 (bt s76 x81)).tmod 128)))) rfl (wantN rfl) (fun _ => by kernel_rfl) ?_
                  refine SOps.nil ?_
                  refine SW.region ?_
                  refine SOps.val (v := .int .i64 x81) rfl (wantN rfl) (fun _ => by kernel_rfl) ?_
                  refine SOps.val (v := .int .i64 (w64 (x81 - 1))) rfl (wantN rfl) (fun _ => by kernel_rfl) ?_
                  refine SOps.val (v := .int .i64 (w64 (x81 - 1))) rfl (wantN rfl) (fun _ => by kernel_rfl) ?_
                  refine SOps.nil ?_
                  exact ⟨k2, Nat.lt_succ_self k2, _, s76, x77, b78, x79, w64 ((w64 (128 * x80)) + ((w64 (bt s76 x81)).tmod 128)), w64 (x81 - 1), (Fr.upds_self _ _ ⟨rfl, rfl, rfl, rfl, rfl, rfl, trivial⟩), h⟩
                · replace h := h.2 c82
                  have dc82 : (decide (x81 ≥ x77)) = false := (decide_eq_false c82)
                  refine SW.cond_f (t := decide (x81 ≥ x77)) rfl dc82 ?_
                  refine SW.exit ?_
                  refine SW.seq ?_
                  refine SW.region ?_
                  refine SOps.val (v := .int .i64 x80) rfl (wantN rfl) (fun _ => by kernel_rfl) ?_
                  refine SOps.val (v := .int .i64 x79) rfl (wantN rfl) (fun _ => by kernel_rfl) ?_
                  refine SOps.val (v := .int .i64 (w64 (x79 + 1))) rfl (wantN rfl) (fun _ => by kernel_rfl) ?_
                  refine SOps.val (v := .agg #[.int .i64 x80, .int .i64 (w64 (x79 + 1)), .int .i64 0, .int .i64 0]) rfl (wantN rfl) (fun _ => by kernel_rfl) ?_
                  obtain ⟨c85, h⟩ := h
                  refine SOps.storeL (p := (b78, 0)) (v := .agg #[.int .i64 x80, .int .i64 (w64 (x79 + 1)), .int .i64 0, .int .i64 0]) (cs := [.int .i64 x80, .int .i64 (w64 (x79 + 1)), .int .i64 0, .int .i64 0]) rfl rfl (wantN rfl) (size := 4) (by kernel_rfl) rfl rfl rfl rfl (by simp [Value.oneCell', errV_one, pv, sv]) c85 ?_
                  refine SOps.nil ?_
                  obtain ⟨x86, x87, x88, x89, c90, Hr, hr, h⟩ := h
                  exact SW.ret (retQ.mkM (.agg #[.int .i64 x86, .int .i64 x87, .int .i64 x88, .int .i64 x89]) (resCN (size := 4) (p := (b78, 0)) (T := 62) rfl rfl (fun _ => by kernel_rfl) (by kernel_rfl) rfl c90) hr ⟨x86, x87, x88, x89, rfl, h⟩)
            · skip
              refine SW.seq ?_
              refine SW.region ?_
              refine SOps.val (v := .string s40) rfl (wantN rfl) (fun _ => by kernel_rfl) ?_
              refine SOps.val (v := .int .i64 x43) rfl (wantN rfl) (fun _ => by kernel_rfl) ?_
              obtain ⟨c62, c63, h⟩ := h
              refine SOps.val (v := .int .u8 (bt s40 x43)) rfl (wantN rfl) (fun w => ev_idxB rfl Tryd.underlying9 rfl rfl c62 c63 w) ?_
              refine SOps.val (v := .bool ((bt s40 x43) == 0)) rfl (wantN rfl) (fun _ => by kernel_rfl) ?_
              refine SOps.val (v := .bool ((bt s40 x43) == 0)) rfl (wantN rfl) (fun _ => by kernel_rfl) ?_
              by_cases c64 : (bt s40 x43) = 0
              · replace h := h.1 c64
                have dc64 : ((bt s40 x43) == 0) = true := (beq_iff_eq.mpr c64)
                refine SOps.val (v := .int .i64 x43) rfl (wantY (c := ((bt s40 x43) == 0)) rfl rfl rfl dc64) (fun _ => by kernel_rfl) ?_
                refine SOps.val (v := .int .i64 x41) rfl (wantY (c := ((bt s40 x43) == 0)) rfl rfl rfl dc64) (fun _ => by kernel_rfl) ?_
                refine SOps.val (v := .bool (decide (x43 > x41))) rfl (wantY (c := ((bt s40 x43) == 0)) rfl rfl rfl dc64) (fun _ => by kernel_rfl) ?_
                refine SOps.val (v := .bool (decide (x43 > x41))) rfl (wantN rfl) (fun w => ev_pickT (v := .bool (decide (x43 > x41))) rfl (t := ((bt s40 x43) == 0)) rfl dc64 rfl w) ?_
                refine SOps.nil ?_
                by_cases c65 : x43 > x41
                · replace h := h.1 c65
                  have dc65 : (decide (x43 > x41)) = true := (decide_eq_true c65)
                  refine SW.cond_t (t := decide (x43 > x41)) rfl dc65 ?_
                  refine SW.seq ?_
                  refine SW.region ?_
                  refine SOps.val (v := .int .i64 x41) rfl (wantN rfl) (fun _ => by kernel_rfl) ?_
                  refine SOps.val (v := .int .i64 x41) rfl (wantN rfl) (fun _ => by kernel_rfl) ?_
                  refine SOps.val (v := .agg #[.int .i64 0, .int .i64 x41, .int .i64 4, .int .i64 x41]) rfl (wantN rfl) (fun _ => by kernel_rfl) ?_
                  obtain ⟨c66, h⟩ := h
                  refine SOps.storeL (p := (b42, 0)) (v := .agg #[.int .i64 0, .int .i64 x41, .int .i64 4, .int .i64 x41]) (cs := [.int .i64 0, .int .i64 x41, .int .i64 4, .int .i64 x41]) rfl rfl (wantN rfl) (size := 4) (by kernel_rfl) rfl rfl rfl rfl (by simp [Value.oneCell', errV_one, pv, sv]) c66 ?_
                  refine SOps.nil ?_
                  obtain ⟨x67, x68, x69, x70, c71, Hr, hr, h⟩ := h
                  exact SW.ret (retQ.mkM (.agg #[.int .i64 x67, .int .i64 x68, .int .i64 x69, .int .i64 x70]) (resCN (size := 4) (p := (b42, 0)) (T := 62) rfl rfl (fun _ => by kernel_rfl) (by kernel_rfl) rfl c71) hr ⟨x67, x68, x69, x70, rfl, h⟩)
                · replace h := h.2 c65
                  have dc65 : (decide (x43 > x41)) = false := (decide_eq_false c65)
                  refine SW.cond_f (t := decide (x43 > x41)) rfl dc65 ?_
                  refine SW.skip ?_
                  exact ⟨_, s40, x41, b42, x43, Fr.upds_self _ _ ⟨rfl, rfl, rfl, rfl, trivial⟩, h⟩
              · replace h := h.2 c64
                have dc64 : ((bt s40 x43) == 0) = false := (beq_eq_false_iff_ne.mpr c64)
                refine SOps.off rfl (wantX (c := ((bt s40 x43) == 0)) rfl rfl rfl dc64) ?_
                refine SOps.off rfl (wantX (c := ((bt s40 x43) == 0)) rfl rfl rfl dc64) ?_
                refine SOps.off rfl (wantX (c := ((bt s40 x43) == 0)) rfl rfl rfl dc64) ?_
                refine SOps.val (v := .bool false) rfl (wantN rfl) (fun w => ev_pickF (v := .bool false) rfl (t := ((bt s40 x43) == 0)) rfl dc64 rfl w) ?_
                refine SOps.nil ?_
                refine SW.cond_f (t := false) rfl rfl ?_
                refine SW.skip ?_
                exact ⟨_, s40, x41, b42, x43, Fr.upds_self _ _ ⟨rfl, rfl, rfl, rfl, trivial⟩, h⟩
      · skip
        refine SW.blockJ (fun fr H => ∃ (g : Fr) (s28 : ByteArray) (x29 : Int) (b30 : Nat) (x31 : Int), fr = g.upds [(0, (.string s28 : Value)), (1, (.int .i64 x29 : Value)), (4, pv (some (b30, 0))), (5, (.int .i64 x31 : Value))] ∧ ladingref01_ReadShort.j2 F K s28 x29 b30 x31 H) ?_ ?_
        · clear h
          rintro fr H ⟨g, s28, x29, b30, x31, rfl, h⟩
          unfold ladingref01_ReadShort.j2 at h
          exact ⟨_, s28, x29, b30, x31, Fr.upds_self _ _ ⟨rfl, rfl, rfl, rfl, trivial⟩, h⟩
        · skip
          refine SW.loop (fun k1 fr H => ∃ (g : Fr) (s19 : ByteArray) (x20 : Int) (b21 : Nat) (x22 : Int), fr = g.upds [(0, (.string s19 : Value)), (1, (.int .i64 x20 : Value)), (4, pv (some (b21, 0))), (5, (.int .i64 x22 : Value))] ∧ ladingref01_ReadShort.l1 F K k1 s19 x20 b21 x22 H) F ⟨_, s1, x2, b3, x2, (Fr.upds_self _ _ ⟨rfl, rfl, rfl, rfl, trivial⟩), h⟩ ?_
          clear h
          rintro k1 fr H ⟨g, s19, x20, b21, x22, rfl, h⟩
          cases k1 with
          | zero => exact h.elim
          | succ k1 =>
            replace h : ladingref01_ReadShort.r1 F K (ladingref01_ReadShort.l1 F K k1) s19 x20 b21 x22 H := h
            unfold ladingref01_ReadShort.r1 at h
            refine SW.seq ?_
            refine SW.seq ?_
            refine SW.region ?_
            refine SOps.val (v := .int .i64 x22) rfl (wantN rfl) (fun _ => by kernel_rfl) ?_
            refine SOps.val (v := .string s19) rfl (wantN rfl) (fun _ => by kernel_rfl) ?_
            refine SOps.val (v := .int .i64 (s19.size : Int)) rfl (wantN rfl) (fun _ => by kernel_rfl) ?_
            refine SOps.val (v := .bool (decide (x22 < (s19.size : Int)))) rfl (wantN rfl) (fun _ => by kernel_rfl) ?_
            refine SOps.val (v := .bool (decide (x22 < (s19.size : Int)))) rfl (wantN rfl) (fun _ => by kernel_rfl) ?_
            by_cases c23 : x22 < (s19.size : Int)
            · replace h := h.1 c23
              have dc23 : (decide (x22 < (s19.size : Int))) = true := (decide_eq_true c23)
              refine SOps.val (v := .string s19) rfl (wantY (c := decide (x22 < (s19.size : Int))) rfl rfl rfl dc23) (fun _ => by kernel_rfl) ?_
              refine SOps.val (v := .int .i64 x22) rfl (wantY (c := decide (x22 < (s19.size : Int))) rfl rfl rfl dc23) (fun _ => by kernel_rfl) ?_
              obtain ⟨c24, c25, h⟩ := h
              refine SOps.val (v := .int .u8 (bt s19 x22)) rfl (wantY (c := decide (x22 < (s19.size : Int))) rfl rfl rfl dc23) (fun w => ev_idxB rfl Tryd.underlying9 rfl rfl c24 c25 w) ?_
              refine SOps.val (v := .bool (decide ((bt s19 x22) ≥ 128))) rfl (wantY (c := decide (x22 < (s19.size : Int))) rfl rfl rfl dc23) (fun _ => by kernel_rfl) ?_
              refine SOps.val (v := .bool (decide ((bt s19 x22) ≥ 128))) rfl (wantN rfl) (fun w => ev_pickT (v := .bool (decide ((bt s19 x22) ≥ 128))) rfl (t := decide (x22 < (s19.size : Int))) rfl dc23 rfl w) ?_
              refine SOps.val (v := .bool (decide ((bt s19 x22) ≥ 128))) rfl (wantN rfl) (fun _ => by kernel_rfl) ?_
              by_cases c26 : (bt s19 x22) ≥ 128
              · replace h := h.1 c26
                have dc26 : (decide ((bt s19 x22) ≥ 128)) = true := (decide_eq_true c26)
                refine SOps.val (v := .int .i64 x22) rfl (wantY (c := decide ((bt s19 x22) ≥ 128)) rfl rfl rfl dc26) (fun _ => by kernel_rfl) ?_
                refine SOps.val (v := .int .i64 x20) rfl (wantY (c := decide ((bt s19 x22) ≥ 128)) rfl rfl rfl dc26) (fun _ => by kernel_rfl) ?_
                refine SOps.val (v := .int .i64 (w64 (x20 + 8))) rfl (wantY (c := decide ((bt s19 x22) ≥ 128)) rfl rfl rfl dc26) (fun _ => by kernel_rfl) ?_
                refine SOps.val (v := .bool (decide (x22 < (w64 (x20 + 8))))) rfl (wantY (c := decide ((bt s19 x22) ≥ 128)) rfl rfl rfl dc26) (fun _ => by kernel_rfl) ?_
                refine SOps.val (v := .bool (decide (x22 < (w64 (x20 + 8))))) rfl (wantN rfl) (fun w => ev_pickT (v := .bool (decide (x22 < (w64 (x20 + 8))))) rfl (t := decide ((bt s19 x22) ≥ 128)) rfl dc26 rfl w) ?_
                refine SOps.nil ?_
                by_cases c27 : x22 < (w64 (x20 + 8))
                · replace h := h.1 c27
                  have dc27 : (decide (x22 < (w64 (x20 + 8)))) = true := (decide_eq_true c27)
                  refine SW.cond_t (t := decide (x22 < (w64 (x20 + 8)))) rfl dc27 ?_
                  refine SW.skip ?_
                  refine SW.block ?_
                  refine SW.region ?_
                  refine SOps.val (v := .int .i64 x22) rfl (wantN rfl) (fun _ => by kernel_rfl) ?_
                  refine SOps.val (v := .int .i64 (w64 (x22 + 1))) rfl (wantN rfl) (fun _ => by kernel_rfl) ?_
                  refine SOps.val (v := .int .i64 (w64 (x22 + 1))) rfl (wantN rfl) (fun _ => by kernel_rfl) ?_
                  refine SOps.nil ?_
                  exact ⟨k1, Nat.lt_succ_self k1, _, s19, x20, b21, w64 (x22 + 1), (Fr.upds_self _ _ ⟨rfl, rfl, rfl, rfl, trivial⟩), h⟩
                · replace h := h.2 c27
                  have dc27 : (decide (x22 < (w64 (x20 + 8)))) = false := (decide_eq_false c27)
                  refine SW.cond_f (t := decide (x22 < (w64 (x20 + 8)))) rfl dc27 ?_
                  refine SW.exit ?_
                  exact ⟨_, s19, x20, b21, x22, Fr.upds_self _ _ ⟨rfl, rfl, rfl, rfl, trivial⟩, h⟩
              · replace h := h.2 c26
                have dc26 : (decide ((bt s19 x22) ≥ 128)) = false := (decide_eq_false c26)
                refine SOps.off rfl (wantX (c := decide ((bt s19 x22) ≥ 128)) rfl rfl rfl dc26) ?_
                refine SOps.off rfl (wantX (c := decide ((bt s19 x22) ≥ 128)) rfl rfl rfl dc26) ?_
                refine SOps.off rfl (wantX (c := decide ((bt s19 x22) ≥ 128)) rfl rfl rfl dc26) ?_
                refine SOps.off rfl (wantX (c := decide ((bt s19 x22) ≥ 128)) rfl rfl rfl dc26) ?_
                refine SOps.val (v := .bool false) rfl (wantN rfl) (fun w => ev_pickF (v := .bool false) rfl (t := decide ((bt s19 x22) ≥ 128)) rfl dc26 rfl w) ?_
                refine SOps.nil ?_
                refine SW.cond_f (t := false) rfl rfl ?_
                refine SW.exit ?_
                exact ⟨_, s19, x20, b21, x22, Fr.upds_self _ _ ⟨rfl, rfl, rfl, rfl, trivial⟩, h⟩
            · replace h := h.2 c23
              have dc23 : (decide (x22 < (s19.size : Int))) = false := (decide_eq_false c23)
              refine SOps.off rfl (wantX (c := decide (x22 < (s19.size : Int))) rfl rfl rfl dc23) ?_
              refine SOps.off rfl (wantX (c := decide (x22 < (s19.size : Int))) rfl rfl rfl dc23) ?_
              refine SOps.off rfl (wantX (c := decide (x22 < (s19.size : Int))) rfl rfl rfl dc23) ?_
              refine SOps.off rfl (wantX (c := decide (x22 < (s19.size : Int))) rfl rfl rfl dc23) ?_
              refine SOps.val (v := .bool false) rfl (wantN rfl) (fun w => ev_pickF (v := .bool false) rfl (t := decide (x22 < (s19.size : Int))) rfl dc23 rfl w) ?_
              refine SOps.val (v := .bool false) rfl (wantN rfl) (fun _ => by kernel_rfl) ?_
              refine SOps.off rfl (wantX (c := false) rfl rfl rfl rfl) ?_
              refine SOps.off rfl (wantX (c := false) rfl rfl rfl rfl) ?_
              refine SOps.off rfl (wantX (c := false) rfl rfl rfl rfl) ?_
              refine SOps.off rfl (wantX (c := false) rfl rfl rfl rfl) ?_
              refine SOps.val (v := .bool false) rfl (wantN rfl) (fun w => ev_pickF (v := .bool false) rfl (t := false) rfl rfl rfl w) ?_
              refine SOps.nil ?_
              refine SW.cond_f (t := false) rfl rfl ?_
              refine SW.exit ?_
              exact ⟨_, s19, x20, b21, x22, Fr.upds_self _ _ ⟨rfl, rfl, rfl, rfl, trivial⟩, h⟩

/-! ### lading/ladingref03.Sum: function 50 -/
def ladingref03_Sum.j1 (F : Nat) (K : Int → SH → Prop) (R1 : ByteArray → Int → Int → SH → Prop) (R2 : ByteArray → Int → Int → Int → SH → Prop) (s18 : ByteArray) (x19 : Int) (x20 : Int) (x21 : Int) (H : SH) : Prop :=
  R2 s18 x19 x20 (w64 (x21 + 1)) H
def ladingref03_Sum.j2 (F : Nat) (K : Int → SH → Prop) (R1 : ByteArray → Int → Int → SH → Prop) (R2 : ByteArray → Int → Int → Int → SH → Prop) (s14 : ByteArray) (x15 : Int) (x16 : Int) (x17 : Int) (H : SH) : Prop :=
  ladingref03_Sum.j1 F K R1 R2 s14 x15 x16 x17 H
def ladingref03_Sum.r2 (F : Nat) (K : Int → SH → Prop) (R1 : ByteArray → Int → Int → SH → Prop) (R2 : ByteArray → Int → Int → Int → SH → Prop) (s8 : ByteArray) (x9 : Int) (x10 : Int) (x11 : Int) (H : SH) : Prop :=
  (x11 < 8 →
    ((x9.tmod 2) = 1 →
      ladingref03_Sum.j2 F K R1 R2 s8 (ibits .xor .i64 (w64 (x9.tdiv 2)) 2197175160) x10 x11 H
    ) ∧ (¬ ((x9.tmod 2) = 1) →
      ladingref03_Sum.j2 F K R1 R2 s8 (w64 (x9.tdiv 2)) x10 x11 H
    )
  ) ∧ (¬ (x11 < 8) →
    R1 s8 x9 (w64 (x10 + 1)) H
  )
def ladingref03_Sum.l2 (F : Nat) (K : Int → SH → Prop) (R1 : ByteArray → Int → Int → SH → Prop) : Nat → ByteArray → Int → Int → Int → SH → Prop
  | 0, _, _, _, _, _ => False
  | k + 1, s8, x9, x10, x11, H => ladingref03_Sum.r2 F K R1 (ladingref03_Sum.l2 F K R1 k) s8 x9 x10 x11 H
def ladingref03_Sum.r1 (F : Nat) (K : Int → SH → Prop) (R1 : ByteArray → Int → Int → SH → Prop) (s2 : ByteArray) (x3 : Int) (x4 : Int) (H : SH) : Prop :=
  (x4 < (s2.size : Int) →
    0 ≤ x4 ∧
    x4 < (s2.size : Int) ∧
    ladingref03_Sum.l2 F K R1 F s2 (ibits .xor .i64 x3 (w64 (bt s2 x4))) x4 0 H
  ) ∧ (¬ (x4 < (s2.size : Int)) →
    ∃ Hr, SH.le Hr H ∧ K (w64 (4294967295 - x3)) Hr
  )
def ladingref03_Sum.l1 (F : Nat) (K : Int → SH → Prop) : Nat → ByteArray → Int → Int → SH → Prop
  | 0, _, _, _, _ => False
  | k + 1, s2, x3, x4, H => ladingref03_Sum.r1 F K (ladingref03_Sum.l1 F K k) s2 x3 x4 H
def ladingref03_Sum.wp (F : Nat) (s1 : ByteArray) (H : SH) (K : Int → SH → Prop) : Prop :=
  ladingref03_Sum.l1 F K F s1 4294967295 0 H
set_option maxHeartbeats 8000000 in
theorem ladingref03_Sum.sound (F : Nat) (s1 : ByteArray) (H : SH) (K : Int → SH → Prop) (h : ladingref03_Sum.wp F s1 H K) : SCalls Tryd.prog 50 #[.string s1] H (fun v H' => ∃ (x29 : Int), v = .int .i64 x29 ∧ K x29 H') := by
  unfold ladingref03_Sum.wp at h
  refine SCalls.body Tryd.func50 rfl (Nat.le_of_ble_eq_true rfl) ?_
  refine SW.seq ?_
  refine SW.region ?_
  refine SOps.val (v := .int .i64 0) rfl (wantN rfl) (fun _ => by kernel_rfl) ?_
  refine SOps.nil ?_
  refine SW.seq ?_
  refine SW.region ?_
  refine SOps.val (v := .int .i64 4294967295) rfl (wantN rfl) (fun _ => by kernel_rfl) ?_
  refine SOps.nil ?_
  refine SW.seq ?_
  refine SW.seq ?_
  refine SW.region ?_
  refine SOps.val (v := .int .i64 0) rfl (wantN rfl) (fun _ => by kernel_rfl) ?_
  refine SOps.nil ?_
  refine SW.block ?_
  refine SW.loop (fun k1 fr H => ∃ (g : Fr) (s2 : ByteArray) (x3 : Int) (x4 : Int), fr = g.upds [(0, (.string s2 : Value)), (3, (.int .i64 x3 : Value)), (4, (.int .i64 x4 : Value))] ∧ ladingref03_Sum.l1 F K k1 s2 x3 x4 H) F ⟨_, s1, 4294967295, 0, (Fr.upds_self _ _ ⟨rfl, rfl, rfl, trivial⟩), h⟩ ?_
  clear h
  rintro k1 fr H ⟨g, s2, x3, x4, rfl, h⟩
  cases k1 with
  | zero => exact h.elim
  | succ k1 =>
    replace h : ladingref03_Sum.r1 F K (ladingref03_Sum.l1 F K k1) s2 x3 x4 H := h
    unfold ladingref03_Sum.r1 at h
    refine SW.seq ?_
    refine SW.seq ?_
    refine SW.region ?_
    refine SOps.val (v := .int .i64 x4) rfl (wantN rfl) (fun _ => by kernel_rfl) ?_
    refine SOps.val (v := .string s2) rfl (wantN rfl) (fun _ => by kernel_rfl) ?_
    refine SOps.val (v := .int .i64 (s2.size : Int)) rfl (wantN rfl) (fun _ => by kernel_rfl) ?_
    refine SOps.val (v := .bool (decide (x4 < (s2.size : Int)))) rfl (wantN rfl) (fun _ => by kernel_rfl) ?_
    refine SOps.nil ?_
    by_cases c5 : x4 < (s2.size : Int)
    · replace h := h.1 c5
      have dc5 : (decide (x4 < (s2.size : Int))) = true := (decide_eq_true c5)
      refine SW.cond_t (t := decide (x4 < (s2.size : Int))) rfl dc5 ?_
      refine SW.skip ?_
      refine SW.seq ?_
      refine SW.block ?_
      refine SW.seq ?_
      refine SW.region ?_
      refine SOps.val (v := .int .i64 x3) rfl (wantN rfl) (fun _ => by kernel_rfl) ?_
      refine SOps.val (v := .string s2) rfl (wantN rfl) (fun _ => by kernel_rfl) ?_
      refine SOps.val (v := .int .i64 x4) rfl (wantN rfl) (fun _ => by kernel_rfl) ?_
      obtain ⟨c6, c7, h⟩ := h
      refine SOps.val (v := .int .u8 (bt s2 x4)) rfl (wantN rfl) (fun w => ev_idxB rfl Tryd.underlying9 rfl rfl c6 c7 w) ?_
      refine SOps.val (v := .int .i64 (w64 (bt s2 x4))) rfl (wantN rfl) (fun _ => by kernel_rfl) ?_
      refine SOps.val (v := .int .i64 (ibits .xor .i64 x3 (w64 (bt s2 x4)))) rfl (wantN rfl) (fun _ => by kernel_rfl) ?_
      refine SOps.val (v := .int .i64 (ibits .xor .i64 x3 (w64 (bt s2 x4)))) rfl (wantN rfl) (fun _ => by kernel_rfl) ?_
      refine SOps.nil ?_
      refine SW.seq ?_
      refine SW.region ?_
      refine SOps.val (v := .int .i64 0) rfl (wantN rfl) (fun _ => by kernel_rfl) ?_
      refine SOps.nil ?_
      refine SW.block ?_
      refine SW.loop (fun k2 fr H => ∃ (g : Fr) (s8 : ByteArray) (x9 : Int) (x10 : Int) (x11 : Int), fr = g.upds [(0, (.string s8 : Value)), (3, (.int .i64 x9 : Value)), (4, (.int .i64 x10 : Value)), (5, (.int .i64 x11 : Value))] ∧ ladingref03_Sum.l2 F K (ladingref03_Sum.l1 F K k1) k2 s8 x9 x10 x11 H) F ⟨_, s2, ibits .xor .i64 x3 (w64 (bt s2 x4)), x4, 0, (Fr.upds_self _ _ ⟨rfl, rfl, rfl, rfl, trivial⟩), h⟩ ?_
      clear h
      rintro k2 fr H ⟨g, s8, x9, x10, x11, rfl, h⟩
      cases k2 with
      | zero => exact h.elim
      | succ k2 =>
        replace h : ladingref03_Sum.r2 F K (ladingref03_Sum.l1 F K k1) (ladingref03_Sum.l2 F K (ladingref03_Sum.l1 F K k1) k2) s8 x9 x10 x11 H := h
        unfold ladingref03_Sum.r2 at h
        refine SW.seq ?_
        refine SW.seq ?_
        refine SW.region ?_
        refine SOps.val (v := .int .i64 x11) rfl (wantN rfl) (fun _ => by kernel_rfl) ?_
        refine SOps.val (v := .bool (decide (x11 < 8))) rfl (wantN rfl) (fun _ => by kernel_rfl) ?_
        refine SOps.nil ?_
        by_cases c12 : x11 < 8
        · replace h := h.1 c12
          have dc12 : (decide (x11 < 8)) = true := (decide_eq_true c12)
          refine SW.cond_t (t := decide (x11 < 8)) rfl dc12 ?_
          refine SW.skip ?_
          refine SW.seqJ (fun fr H => ∃ (g : Fr) (s18 : ByteArray) (x19 : Int) (x20 : Int) (x21 : Int), fr = g.upds [(0, (.string s18 : Value)), (3, (.int .i64 x19 : Value)), (4, (.int .i64 x20 : Value)), (5, (.int .i64 x21 : Value))] ∧ ladingref03_Sum.j1 F K (ladingref03_Sum.l1 F K k1) (ladingref03_Sum.l2 F K (ladingref03_Sum.l1 F K k1) k2) s18 x19 x20 x21 H) ?_ ?_
          · clear h
            rintro fr H ⟨g, s18, x19, x20, x21, rfl, h⟩
            unfold ladingref03_Sum.j1 at h
            refine SW.region ?_
            refine SOps.val (v := .int .i64 x21) rfl (wantN rfl) (fun _ => by kernel_rfl) ?_
            refine SOps.val (v := .int .i64 (w64 (x21 + 1))) rfl (wantN rfl) (fun _ => by kernel_rfl) ?_
            refine SOps.val (v := .int .i64 (w64 (x21 + 1))) rfl (wantN rfl) (fun _ => by kernel_rfl) ?_
            refine SOps.nil ?_
            exact ⟨k2, Nat.lt_succ_self k2, _, s18, x19, x20, w64 (x21 + 1), (Fr.upds_self _ _ ⟨rfl, rfl, rfl, rfl, trivial⟩), h⟩
          · skip
            refine SW.blockJ (fun fr H => ∃ (g : Fr) (s14 : ByteArray) (x15 : Int) (x16 : Int) (x17 : Int), fr = g.upds [(0, (.string s14 : Value)), (3, (.int .i64 x15 : Value)), (4, (.int .i64 x16 : Value)), (5, (.int .i64 x17 : Value))] ∧ ladingref03_Sum.j2 F K (ladingref03_Sum.l1 F K k1) (ladingref03_Sum.l2 F K (ladingref03_Sum.l1 F K k1) k2) s14 x15 x16 x17 H) ?_ ?_
            · clear h
              rintro fr H ⟨g, s14, x15, x16, x17, rfl, h⟩
              unfold ladingref03_Sum.j2 at h
              exact ⟨_, s14, x15, x16, x17, Fr.upds_self _ _ ⟨rfl, rfl, rfl, rfl, trivial⟩, h⟩
            · skip
              refine SW.seq ?_
              refine SW.region ?_
              refine SOps.val (v := .int .i64 x9) rfl (wantN rfl) (fun _ => by kernel_rfl) ?_
              refine SOps.val (v := .int .i64 (x9.tmod 2)) rfl (wantN rfl) (fun w => ev_rem rfl rfl rfl (by decide) w) ?_
              refine SOps.val (v := .bool ((x9.tmod 2) == 1)) rfl (wantN rfl) (fun _ => by kernel_rfl) ?_
              refine SOps.nil ?_
              by_cases c13 : (x9.tmod 2) = 1
              · replace h := h.1 c13
                have dc13 : ((x9.tmod 2) == 1) = true := (beq_iff_eq.mpr c13)
                refine SW.cond_t (t := ((x9.tmod 2) == 1)) rfl dc13 ?_
                refine SW.region ?_
                refine SOps.val (v := .int .i64 x9) rfl (wantN rfl) (fun _ => by kernel_rfl) ?_
                refine SOps.val (v := .int .i64 (w64 (x9.tdiv 2))) rfl (wantN rfl) (fun w => ev_quo rfl rfl rfl (by decide) w) ?_
                refine SOps.val (v := .int .i64 (ibits .xor .i64 (w64 (x9.tdiv 2)) 2197175160)) rfl (wantN rfl) (fun _ => by kernel_rfl) ?_
                refine SOps.val (v := .int .i64 (ibits .xor .i64 (w64 (x9.tdiv 2)) 2197175160)) rfl (wantN rfl) (fun _ => by kernel_rfl) ?_
                refine SOps.nil ?_
                exact ⟨_, s8, ibits .xor .i64 (w64 (x9.tdiv 2)) 2197175160, x10, x11, Fr.upds_self _ _ ⟨rfl, rfl, rfl, rfl, trivial⟩, h⟩
              · replace h := h.2 c13
                have dc13 : ((x9.tmod 2) == 1) = false := (beq_eq_false_iff_ne.mpr c13)
                refine SW.cond_f (t := ((x9.tmod 2) == 1)) rfl dc13 ?_
                refine SW.region ?_
                refine SOps.val (v := .int .i64 x9) rfl (wantN rfl) (fun _ => by kernel_rfl) ?_
                refine SOps.val (v := .int .i64 (w64 (x9.tdiv 2))) rfl (wantN rfl) (fun w => ev_quo rfl rfl rfl (by decide) w) ?_
                refine SOps.val (v := .int .i64 (w64 (x9.tdiv 2))) rfl (wantN rfl) (fun _ => by kernel_rfl) ?_
                refine SOps.nil ?_
                exact ⟨_, s8, w64 (x9.tdiv 2), x10, x11, Fr.upds_self _ _ ⟨rfl, rfl, rfl, rfl, trivial⟩, h⟩
        · replace h := h.2 c12
          have dc12 : (decide (x11 < 8)) = false := (decide_eq_false c12)
          refine SW.cond_f (t := decide (x11 < 8)) rfl dc12 ?_
          refine SW.exit ?_
          refine SW.region ?_
          refine SOps.val (v := .int .i64 x10) rfl (wantN rfl) (fun _ => by kernel_rfl) ?_
          refine SOps.val (v := .int .i64 (w64 (x10 + 1))) rfl (wantN rfl) (fun _ => by kernel_rfl) ?_
          refine SOps.val (v := .int .i64 (w64 (x10 + 1))) rfl (wantN rfl) (fun _ => by kernel_rfl) ?_
          refine SOps.nil ?_
          exact ⟨k1, Nat.lt_succ_self k1, _, s8, x9, w64 (x10 + 1), (Fr.upds_self _ _ ⟨rfl, rfl, rfl, trivial⟩), h⟩
    · replace h := h.2 c5
      have dc5 : (decide (x4 < (s2.size : Int))) = false := (decide_eq_false c5)
      refine SW.cond_f (t := decide (x4 < (s2.size : Int))) rfl dc5 ?_
      refine SW.exit ?_
      refine SW.seq ?_
      refine SW.region ?_
      refine SOps.val (v := .int .i64 x3) rfl (wantN rfl) (fun _ => by kernel_rfl) ?_
      refine SOps.val (v := .int .i64 (w64 (4294967295 - x3))) rfl (wantN rfl) (fun _ => by kernel_rfl) ?_
      refine SOps.val (v := .int .i64 (w64 (4294967295 - x3))) rfl (wantN rfl) (fun _ => by kernel_rfl) ?_
      refine SOps.nil ?_
      obtain ⟨Hr, hr, h⟩ := h
      exact SW.ret (retQ.mk (.int .i64 (w64 (4294967295 - x3))) (res1 rfl rfl) hr ⟨w64 (4294967295 - x3), rfl, h⟩)

/-! ### lading/ladingref03.Seal: function 26 -/
def ladingref03_Seal.wp (F : Nat) (s1 : ByteArray) (H : SH) (K : ByteArray → SH → Prop) : Prop :=
  ladingref01_Fixed.wp F 2 (s1.size : Int) H (fun s2 H3 =>
    s2.size + s1.size ≤ 9223372036854775807 ∧
    ladingref03_Sum.wp F (s2 ++ s1) H3 (fun x5 H6 =>
      ladingref01_Fixed.wp F 4 x5 H6 (fun s7 H8 =>
        s7.size + (s2 ++ s1).size ≤ 9223372036854775807 ∧
        ∃ Hr, SH.le Hr H8 ∧ K (s7 ++ (s2 ++ s1)) Hr
      )
    )
  )
set_option maxHeartbeats 8000000 in
theorem ladingref03_Seal.sound (F : Nat) (s1 : ByteArray) (H : SH) (K : ByteArray → SH → Prop) (h : ladingref03_Seal.wp F s1 H K) : SCalls Tryd.prog 26 #[.string s1] H (fun v H' => ∃ (s11 : ByteArray), v = .string s11 ∧ K s11 H') := by
  unfold ladingref03_Seal.wp at h
  refine SCalls.body Tryd.func26 rfl (Nat.le_of_ble_eq_true rfl) ?_
  refine SW.seq ?_
  refine SW.region ?_
  refine SOps.val (v := .string ByteArray.empty) rfl (wantN rfl) (fun _ => by kernel_rfl) ?_
  refine SOps.nil ?_
  refine SW.seq ?_
  refine SW.region ?_
  refine SOps.val (v := .string s1) rfl (wantN rfl) (fun _ => by kernel_rfl) ?_
  refine SOps.val (v := .int .i64 (s1.size : Int)) rfl (wantN rfl) (fun _ => by kernel_rfl) ?_
  refine SOps.enter rfl (wantN rfl) (fun _ => by kernel_rfl) (ladingref01_Fixed.sound F 2 (s1.size : Int) H _ h) ?_
  clear h
  rintro v H3 ⟨s2, rfl, h⟩
  refine SOps.val (v := .string s1) rfl (wantN rfl) (fun _ => by kernel_rfl) ?_
  obtain ⟨c4, h⟩ := h
  refine SOps.val (v := .string (s2 ++ s1)) rfl (wantN rfl) (fun w => ev_cat rfl rfl rfl c4 w) ?_
  refine SOps.val (v := .string (s2 ++ s1)) rfl (wantN rfl) (fun _ => by kernel_rfl) ?_
  refine SOps.nil ?_
  refine SW.seq ?_
  refine SW.region ?_
  refine SOps.val (v := .string (s2 ++ s1)) rfl (wantN rfl) (fun _ => by kernel_rfl) ?_
  refine SOps.enter rfl (wantN rfl) (fun _ => by kernel_rfl) (ladingref03_Sum.sound F (s2 ++ s1) H3 _ h) ?_
  clear h
  rintro v H6 ⟨x5, rfl, h⟩
  refine SOps.enter rfl (wantN rfl) (fun _ => by kernel_rfl) (ladingref01_Fixed.sound F 4 x5 H6 _ h) ?_
  clear h
  rintro v H8 ⟨s7, rfl, h⟩
  refine SOps.val (v := .string (s2 ++ s1)) rfl (wantN rfl) (fun _ => by kernel_rfl) ?_
  obtain ⟨c9, h⟩ := h
  refine SOps.val (v := .string (s7 ++ (s2 ++ s1))) rfl (wantN rfl) (fun w => ev_cat rfl rfl rfl c9 w) ?_
  refine SOps.val (v := .string (s7 ++ (s2 ++ s1))) rfl (wantN rfl) (fun _ => by kernel_rfl) ?_
  refine SOps.nil ?_
  obtain ⟨Hr, hr, h⟩ := h
  exact SW.ret (retQ.mk (.string (s7 ++ (s2 ++ s1))) (res1 rfl rfl) hr ⟨s7 ++ (s2 ++ s1), rfl, h⟩)

/-! ### lading/ladingref06.May: function 41 -/
def ladingref06_May.wp (F : Nat) (x1 : Int) (x2 : Int) (H : SH) (K : Int → SH → Prop) : Prop :=
  (x1 < 0 →
    ∃ Hr, SH.le Hr H ∧ K 1 Hr
  ) ∧ (¬ (x1 < 0) →
    (x1 > 4096 →
      ∃ Hr, SH.le Hr H ∧ K 1 Hr
    ) ∧ (¬ (x1 > 4096) →
      (x2 < 0 →
        ∃ Hr, SH.le Hr H ∧ K 2 Hr
      ) ∧ (¬ (x2 < 0) →
        (x2 ≥ x1 →
          ∃ Hr, SH.le Hr H ∧ K 2 Hr
        ) ∧ (¬ (x2 ≥ x1) →
          ∃ Hr, SH.le Hr H ∧ K 0 Hr
        )
      )
    )
  )
set_option maxHeartbeats 8000000 in
theorem ladingref06_May.sound (F : Nat) (x1 : Int) (x2 : Int) (H : SH) (K : Int → SH → Prop) (h : ladingref06_May.wp F x1 x2 H K) : SCalls Tryd.prog 41 #[.int .i64 x1, .int .i64 x2] H (fun v H' => ∃ (x8 : Int), v = .int .i64 x8 ∧ K x8 H') := by
  unfold ladingref06_May.wp at h
  refine SCalls.body Tryd.func41 rfl (Nat.le_of_ble_eq_true rfl) ?_
  refine SW.seq ?_
  refine SW.region ?_
  refine SOps.val (v := .int .i64 0) rfl (wantN rfl) (fun _ => by kernel_rfl) ?_
  refine SOps.nil ?_
  refine SW.seq ?_
  refine SW.seq ?_
  refine SW.region ?_
  refine SOps.val (v := .int .i64 x1) rfl (wantN rfl) (fun _ => by kernel_rfl) ?_
  refine SOps.val (v := .bool (decide (x1 < 0))) rfl (wantN rfl) (fun _ => by kernel_rfl) ?_
  refine SOps.val (v := .bool (decide (x1 < 0))) rfl (wantN rfl) (fun _ => by kernel_rfl) ?_
  by_cases c3 : x1 < 0
  · replace h := h.1 c3
    have dc3 : (decide (x1 < 0)) = true := (decide_eq_true c3)
    refine SOps.off rfl (wantX (c := decide (x1 < 0)) rfl rfl rfl dc3) ?_
    refine SOps.off rfl (wantX (c := decide (x1 < 0)) rfl rfl rfl dc3) ?_
    refine SOps.val (v := .bool true) rfl (wantN rfl) (fun w => ev_pickT (v := .bool true) rfl (t := decide (x1 < 0)) rfl dc3 rfl w) ?_
    refine SOps.nil ?_
    refine SW.cond_t (t := true) rfl rfl ?_
    refine SW.seq ?_
    refine SW.region ?_
    refine SOps.val (v := .int .i64 1) rfl (wantN rfl) (fun _ => by kernel_rfl) ?_
    refine SOps.nil ?_
    obtain ⟨Hr, hr, h⟩ := h
    exact SW.ret (retQ.mk (.int .i64 1) (res1 rfl rfl) hr ⟨1, rfl, h⟩)
  · replace h := h.2 c3
    have dc3 : (decide (x1 < 0)) = false := (decide_eq_false c3)
    refine SOps.val (v := .int .i64 x1) rfl (wantY (c := decide (x1 < 0)) rfl rfl rfl dc3) (fun _ => by kernel_rfl) ?_
    refine SOps.val (v := .bool (decide (x1 > 4096))) rfl (wantY (c := decide (x1 < 0)) rfl rfl rfl dc3) (fun _ => by kernel_rfl) ?_
    refine SOps.val (v := .bool (decide (x1 > 4096))) rfl (wantN rfl) (fun w => ev_pickF (v := .bool (decide (x1 > 4096))) rfl (t := decide (x1 < 0)) rfl dc3 rfl w) ?_
    refine SOps.nil ?_
    by_cases c4 : x1 > 4096
    · replace h := h.1 c4
      have dc4 : (decide (x1 > 4096)) = true := (decide_eq_true c4)
      refine SW.cond_t (t := decide (x1 > 4096)) rfl dc4 ?_
      refine SW.seq ?_
      refine SW.region ?_
      refine SOps.val (v := .int .i64 1) rfl (wantN rfl) (fun _ => by kernel_rfl) ?_
      refine SOps.nil ?_
      obtain ⟨Hr, hr, h⟩ := h
      exact SW.ret (retQ.mk (.int .i64 1) (res1 rfl rfl) hr ⟨1, rfl, h⟩)
    · replace h := h.2 c4
      have dc4 : (decide (x1 > 4096)) = false := (decide_eq_false c4)
      refine SW.cond_f (t := decide (x1 > 4096)) rfl dc4 ?_
      refine SW.skip ?_
      refine SW.seq ?_
      refine SW.seq ?_
      refine SW.region ?_
      refine SOps.val (v := .int .i64 x2) rfl (wantN rfl) (fun _ => by kernel_rfl) ?_
      refine SOps.val (v := .bool (decide (x2 < 0))) rfl (wantN rfl) (fun _ => by kernel_rfl) ?_
      refine SOps.val (v := .bool (decide (x2 < 0))) rfl (wantN rfl) (fun _ => by kernel_rfl) ?_
      by_cases c5 : x2 < 0
      · replace h := h.1 c5
        have dc5 : (decide (x2 < 0)) = true := (decide_eq_true c5)
        refine SOps.off rfl (wantX (c := decide (x2 < 0)) rfl rfl rfl dc5) ?_
        refine SOps.off rfl (wantX (c := decide (x2 < 0)) rfl rfl rfl dc5) ?_
        refine SOps.off rfl (wantX (c := decide (x2 < 0)) rfl rfl rfl dc5) ?_
        refine SOps.val (v := .bool true) rfl (wantN rfl) (fun w => ev_pickT (v := .bool true) rfl (t := decide (x2 < 0)) rfl dc5 rfl w) ?_
        refine SOps.nil ?_
        refine SW.cond_t (t := true) rfl rfl ?_
        refine SW.seq ?_
        refine SW.region ?_
        refine SOps.val (v := .int .i64 2) rfl (wantN rfl) (fun _ => by kernel_rfl) ?_
        refine SOps.nil ?_
        obtain ⟨Hr, hr, h⟩ := h
        exact SW.ret (retQ.mk (.int .i64 2) (res1 rfl rfl) hr ⟨2, rfl, h⟩)
      · replace h := h.2 c5
        have dc5 : (decide (x2 < 0)) = false := (decide_eq_false c5)
        refine SOps.val (v := .int .i64 x2) rfl (wantY (c := decide (x2 < 0)) rfl rfl rfl dc5) (fun _ => by kernel_rfl) ?_
        refine SOps.val (v := .int .i64 x1) rfl (wantY (c := decide (x2 < 0)) rfl rfl rfl dc5) (fun _ => by kernel_rfl) ?_
        refine SOps.val (v := .bool (decide (x2 ≥ x1))) rfl (wantY (c := decide (x2 < 0)) rfl rfl rfl dc5) (fun _ => by kernel_rfl) ?_
        refine SOps.val (v := .bool (decide (x2 ≥ x1))) rfl (wantN rfl) (fun w => ev_pickF (v := .bool (decide (x2 ≥ x1))) rfl (t := decide (x2 < 0)) rfl dc5 rfl w) ?_
        refine SOps.nil ?_
        by_cases c6 : x2 ≥ x1
        · replace h := h.1 c6
          have dc6 : (decide (x2 ≥ x1)) = true := (decide_eq_true c6)
          refine SW.cond_t (t := decide (x2 ≥ x1)) rfl dc6 ?_
          refine SW.seq ?_
          refine SW.region ?_
          refine SOps.val (v := .int .i64 2) rfl (wantN rfl) (fun _ => by kernel_rfl) ?_
          refine SOps.nil ?_
          obtain ⟨Hr, hr, h⟩ := h
          exact SW.ret (retQ.mk (.int .i64 2) (res1 rfl rfl) hr ⟨2, rfl, h⟩)
        · replace h := h.2 c6
          have dc6 : (decide (x2 ≥ x1)) = false := (decide_eq_false c6)
          refine SW.cond_f (t := decide (x2 ≥ x1)) rfl dc6 ?_
          refine SW.skip ?_
          refine SW.seq ?_
          refine SW.region ?_
          refine SOps.val (v := .int .i64 0) rfl (wantN rfl) (fun _ => by kernel_rfl) ?_
          refine SOps.nil ?_
          obtain ⟨Hr, hr, h⟩ := h
          exact SW.ret (retQ.mk (.int .i64 0) (res1 rfl rfl) hr ⟨0, rfl, h⟩)

/-! ### lading/ladingref06.Wrong: function 42 -/
def ladingref06_Wrong.j1 (F : Nat) (K : Int → SH → Prop) (R1 : Int → Sl → Int → SH → Prop) (x38 : Int) (l39 : Sl) (x40 : Int) (H : SH) : Prop :=
  R1 x38 l39 (w64 (x40 + 1)) H
def ladingref06_Wrong.j2 (F : Nat) (K : Int → SH → Prop) (R1 : Int → Sl → Int → SH → Prop) (x35 : Int) (l36 : Sl) (x37 : Int) (H : SH) : Prop :=
  ladingref06_Wrong.j1 F K R1 x35 l36 x37 H
def ladingref06_Wrong.r1 (F : Nat) (K : Int → SH → Prop) (R1 : Int → Sl → Int → SH → Prop) (x3 : Int) (l4 : Sl) (x5 : Int) (H : SH) : Prop :=
  (x5 < (l4.len : Int) →
    ∃ p7, l4.a = some p7 ∧ 0 ≤ x5 ∧ x5 < (l4.len : Int) ∧
    ∃ (x11 : Int),
    SH.has H (p7.1, (p7.2 + x5.toNat * 1)) (.int .i64 x11) ∧
    (x11 < 0 →
      ∃ Hr, SH.le Hr H ∧ K x5 Hr
    ) ∧ (¬ (x11 < 0) →
      ∃ p14, l4.a = some p14 ∧ 0 ≤ x5 ∧ x5 < (l4.len : Int) ∧
      ∃ (x18 : Int),
      SH.has H (p14.1, (p14.2 + x5.toNat * 1)) (.int .i64 x18) ∧
      (x18 ≥ x3 →
        ∃ Hr, SH.le Hr H ∧ K x5 Hr
      ) ∧ (¬ (x18 ≥ x3) →
        (x5 > 0 →
          ∃ p22, l4.a = some p22 ∧ 0 ≤ x5 ∧ x5 < (l4.len : Int) ∧
          ∃ (x26 : Int),
          SH.has H (p22.1, (p22.2 + x5.toNat * 1)) (.int .i64 x26) ∧
          ∃ p28, l4.a = some p28 ∧ 0 ≤ (w64 (x5 - 1)) ∧ (w64 (x5 - 1)) < (l4.len : Int) ∧
          ∃ (x32 : Int),
          SH.has H (p28.1, (p28.2 + (w64 (x5 - 1)).toNat * 1)) (.int .i64 x32) ∧
          (x26 ≤ x32 →
            ∃ Hr, SH.le Hr H ∧ K x5 Hr
          ) ∧ (¬ (x26 ≤ x32) →
            ladingref06_Wrong.j2 F K R1 x3 l4 x5 H
          )
        ) ∧ (¬ (x5 > 0) →
          ladingref06_Wrong.j2 F K R1 x3 l4 x5 H
        )
      )
    )
  ) ∧ (¬ (x5 < (l4.len : Int)) →
    ∃ Hr, SH.le Hr H ∧ K (-1) Hr
  )
def ladingref06_Wrong.l1 (F : Nat) (K : Int → SH → Prop) : Nat → Int → Sl → Int → SH → Prop
  | 0, _, _, _, _ => False
  | k + 1, x3, l4, x5, H => ladingref06_Wrong.r1 F K (ladingref06_Wrong.l1 F K k) x3 l4 x5 H
def ladingref06_Wrong.wp (F : Nat) (x1 : Int) (l2 : Sl) (H : SH) (K : Int → SH → Prop) : Prop :=
  ladingref06_Wrong.l1 F K F x1 l2 0 H
set_option maxHeartbeats 8000000 in
theorem ladingref06_Wrong.sound (F : Nat) (x1 : Int) (l2 : Sl) (H : SH) (K : Int → SH → Prop) (h : ladingref06_Wrong.wp F x1 l2 H K) : SCalls Tryd.prog 42 #[.int .i64 x1, sv l2] H (fun v H' => ∃ (x46 : Int), v = .int .i64 x46 ∧ K x46 H') := by
  unfold ladingref06_Wrong.wp at h
  refine SCalls.body Tryd.func42 rfl (Nat.le_of_ble_eq_true rfl) ?_
  refine SW.seq ?_
  refine SW.region ?_
  refine SOps.val (v := .int .i64 0) rfl (wantN rfl) (fun _ => by kernel_rfl) ?_
  refine SOps.nil ?_
  refine SW.seq ?_
  refine SW.seq ?_
  refine SW.region ?_
  refine SOps.val (v := .int .i64 0) rfl (wantN rfl) (fun _ => by kernel_rfl) ?_
  refine SOps.nil ?_
  refine SW.block ?_
  refine SW.loop (fun k1 fr H => ∃ (g : Fr) (x3 : Int) (l4 : Sl) (x5 : Int), fr = g.upds [(0, (.int .i64 x3 : Value)), (1, sv l4), (5, (.int .i64 x5 : Value))] ∧ ladingref06_Wrong.l1 F K k1 x3 l4 x5 H) F ⟨_, x1, l2, 0, (Fr.upds_self _ _ ⟨rfl, rfl, rfl, trivial⟩), h⟩ ?_
  clear h
  rintro k1 fr H ⟨g, x3, l4, x5, rfl, h⟩
  cases k1 with
  | zero => exact h.elim
  | succ k1 =>
    replace h : ladingref06_Wrong.r1 F K (ladingref06_Wrong.l1 F K k1) x3 l4 x5 H := h
    unfold ladingref06_Wrong.r1 at h
    refine SW.seq ?_
    refine SW.seq ?_
    refine SW.region ?_
    refine SOps.val (v := .int .i64 x5) rfl (wantN rfl) (fun _ => by kernel_rfl) ?_
    refine SOps.val (v := sv l4) rfl (wantN rfl) (fun _ => by kernel_rfl) ?_
    refine SOps.val (v := .int .i64 (l4.len : Int)) rfl (wantN rfl) (fun _ => by kernel_rfl) ?_
    refine SOps.val (v := .bool (decide (x5 < (l4.len : Int)))) rfl (wantN rfl) (fun _ => by kernel_rfl) ?_
    refine SOps.nil ?_
    by_cases c6 : x5 < (l4.len : Int)
    · replace h := h.1 c6
      have dc6 : (decide (x5 < (l4.len : Int))) = true := (decide_eq_true c6)
      refine SW.cond_t (t := decide (x5 < (l4.len : Int))) rfl dc6 ?_
      refine SW.skip ?_
      refine SW.seqJ (fun fr H => ∃ (g : Fr) (x38 : Int) (l39 : Sl) (x40 : Int), fr = g.upds [(0, (.int .i64 x38 : Value)), (1, sv l39), (5, (.int .i64 x40 : Value))] ∧ ladingref06_Wrong.j1 F K (ladingref06_Wrong.l1 F K k1) x38 l39 x40 H) ?_ ?_
      · clear h
        rintro fr H ⟨g, x38, l39, x40, rfl, h⟩
        unfold ladingref06_Wrong.j1 at h
        refine SW.region ?_
        refine SOps.val (v := .int .i64 x40) rfl (wantN rfl) (fun _ => by kernel_rfl) ?_
        refine SOps.val (v := .int .i64 (w64 (x40 + 1))) rfl (wantN rfl) (fun _ => by kernel_rfl) ?_
        refine SOps.val (v := .int .i64 (w64 (x40 + 1))) rfl (wantN rfl) (fun _ => by kernel_rfl) ?_
        refine SOps.nil ?_
        exact ⟨k1, Nat.lt_succ_self k1, _, x38, l39, w64 (x40 + 1), (Fr.upds_self _ _ ⟨rfl, rfl, rfl, trivial⟩), h⟩
      · skip
        refine SW.blockJ (fun fr H => ∃ (g : Fr) (x35 : Int) (l36 : Sl) (x37 : Int), fr = g.upds [(0, (.int .i64 x35 : Value)), (1, sv l36), (5, (.int .i64 x37 : Value))] ∧ ladingref06_Wrong.j2 F K (ladingref06_Wrong.l1 F K k1) x35 l36 x37 H) ?_ ?_
        · clear h
          rintro fr H ⟨g, x35, l36, x37, rfl, h⟩
          unfold ladingref06_Wrong.j2 at h
          exact ⟨_, x35, l36, x37, Fr.upds_self _ _ ⟨rfl, rfl, rfl, trivial⟩, h⟩
        · skip
          refine SW.seq ?_
          refine SW.draw (by kernel_rfl) (by kernel_rfl) ?_
          refine SQ.val (v := sv l4) rfl (wantN rfl) (fun _ => by kernel_rfl) ?_
          refine SQ.val (v := .int .i64 x5) rfl (wantN rfl) (fun _ => by kernel_rfl) ?_
          obtain ⟨p7, c8, c9, c10, h⟩ := h
          refine SQ.val (v := pv (some (p7.1, (p7.2 + x5.toNat * 1)))) rfl (wantN rfl) (fun w => ev_iaddr rfl Tryd.underlying56 (size := 1) (by kernel_rfl) rfl rfl c8 c9 c10 w) ?_
          obtain ⟨x11, c12, h⟩ := h
          refine SQ.rd (v := .int .i64 x11) rfl (wantN rfl) (fun w hw => ev_load1 rfl (fun _ => by kernel_rfl) (p := (p7.1, (p7.2 + x5.toNat * 1))) rfl c12 w hw) ?_
          refine SQ.val (v := .bool (decide (x11 < 0))) rfl (wantN rfl) (fun _ => by kernel_rfl) ?_
          refine SQ.val (v := .bool (decide (x11 < 0))) rfl (wantN rfl) (fun _ => by kernel_rfl) ?_
          by_cases c13 : x11 < 0
          · replace h := h.1 c13
            have dc13 : (decide (x11 < 0)) = true := (decide_eq_true c13)
            refine SQ.off rfl (wantX (c := decide (x11 < 0)) rfl rfl rfl dc13) ?_
            refine SQ.off rfl (wantX (c := decide (x11 < 0)) rfl rfl rfl dc13) ?_
            refine SQ.off rfl (wantX (c := decide (x11 < 0)) rfl rfl rfl dc13) ?_
            refine SQ.off rfl (wantX (c := decide (x11 < 0)) rfl rfl rfl dc13) ?_
            refine SQ.off rfl (wantX (c := decide (x11 < 0)) rfl rfl rfl dc13) ?_
            refine SQ.off rfl (wantX (c := decide (x11 < 0)) rfl rfl rfl dc13) ?_
            refine SQ.val (v := .bool true) rfl (wantN rfl) (fun w => ev_pickT (v := .bool true) rfl (t := decide (x11 < 0)) rfl dc13 rfl w) ?_
            refine SQ.val (v := .bool true) rfl (wantN rfl) (fun _ => by kernel_rfl) ?_
            refine SQ.off rfl (wantX (c := true) rfl rfl rfl rfl) ?_
            refine SQ.off rfl (wantX (c := true) rfl rfl rfl rfl) ?_
            refine SQ.off rfl (wantX (c := true) rfl rfl rfl rfl) ?_
            refine SQ.off rfl (wantU rfl rfl rfl) ?_
            refine SQ.off rfl (wantU rfl rfl rfl) ?_
            refine SQ.off rfl (wantU rfl rfl rfl) ?_
            refine SQ.off rfl (wantU rfl rfl rfl) ?_
            refine SQ.off rfl (wantU rfl rfl rfl) ?_
            refine SQ.off rfl (wantU rfl rfl rfl) ?_
            refine SQ.off rfl (wantU rfl rfl rfl) ?_
            refine SQ.off rfl (wantU rfl rfl rfl) ?_
            refine SQ.off rfl (wantU rfl rfl rfl) ?_
            refine SQ.off rfl (wantU rfl rfl rfl) ?_
            refine SQ.off rfl (wantX (c := true) rfl rfl rfl rfl) ?_
            refine SQ.val (v := .bool true) rfl (wantN rfl) (fun w => ev_pickT (v := .bool true) rfl (t := true) rfl rfl rfl w) ?_
            refine SQ.nil ?_
            refine SW.cond_t (t := true) rfl rfl ?_
            refine SW.seq ?_
            refine SW.region ?_
            refine SOps.val (v := .int .i64 x5) rfl (wantN rfl) (fun _ => by kernel_rfl) ?_
            refine SOps.val (v := .int .i64 x5) rfl (wantN rfl) (fun _ => by kernel_rfl) ?_
            refine SOps.nil ?_
            obtain ⟨Hr, hr, h⟩ := h
            exact SW.ret (retQ.mk (.int .i64 x5) (res1 rfl rfl) hr ⟨x5, rfl, h⟩)
          · replace h := h.2 c13
            have dc13 : (decide (x11 < 0)) = false := (decide_eq_false c13)
            refine SQ.val (v := sv l4) rfl (wantY (c := decide (x11 < 0)) rfl rfl rfl dc13) (fun _ => by kernel_rfl) ?_
            refine SQ.val (v := .int .i64 x5) rfl (wantY (c := decide (x11 < 0)) rfl rfl rfl dc13) (fun _ => by kernel_rfl) ?_
            obtain ⟨p14, c15, c16, c17, h⟩ := h
            refine SQ.val (v := pv (some (p14.1, (p14.2 + x5.toNat * 1)))) rfl (wantY (c := decide (x11 < 0)) rfl rfl rfl dc13) (fun w => ev_iaddr rfl Tryd.underlying56 (size := 1) (by kernel_rfl) rfl rfl c15 c16 c17 w) ?_
            obtain ⟨x18, c19, h⟩ := h
            refine SQ.rd (v := .int .i64 x18) rfl (wantY (c := decide (x11 < 0)) rfl rfl rfl dc13) (fun w hw => ev_load1 rfl (fun _ => by kernel_rfl) (p := (p14.1, (p14.2 + x5.toNat * 1))) rfl c19 w hw) ?_
            refine SQ.val (v := .int .i64 x3) rfl (wantY (c := decide (x11 < 0)) rfl rfl rfl dc13) (fun _ => by kernel_rfl) ?_
            refine SQ.val (v := .bool (decide (x18 ≥ x3))) rfl (wantY (c := decide (x11 < 0)) rfl rfl rfl dc13) (fun _ => by kernel_rfl) ?_
            refine SQ.val (v := .bool (decide (x18 ≥ x3))) rfl (wantN rfl) (fun w => ev_pickF (v := .bool (decide (x18 ≥ x3))) rfl (t := decide (x11 < 0)) rfl dc13 rfl w) ?_
            refine SQ.val (v := .bool (decide (x18 ≥ x3))) rfl (wantN rfl) (fun _ => by kernel_rfl) ?_
            by_cases c20 : x18 ≥ x3
            · replace h := h.1 c20
              have dc20 : (decide (x18 ≥ x3)) = true := (decide_eq_true c20)
              refine SQ.off rfl (wantX (c := decide (x18 ≥ x3)) rfl rfl rfl dc20) ?_
              refine SQ.off rfl (wantX (c := decide (x18 ≥ x3)) rfl rfl rfl dc20) ?_
              refine SQ.off rfl (wantX (c := decide (x18 ≥ x3)) rfl rfl rfl dc20) ?_
              refine SQ.off rfl (wantU rfl rfl rfl) ?_
              refine SQ.off rfl (wantU rfl rfl rfl) ?_
              refine SQ.off rfl (wantU rfl rfl rfl) ?_
              refine SQ.off rfl (wantU rfl rfl rfl) ?_
              refine SQ.off rfl (wantU rfl rfl rfl) ?_
              refine SQ.off rfl (wantU rfl rfl rfl) ?_
              refine SQ.off rfl (wantU rfl rfl rfl) ?_
              refine SQ.off rfl (wantU rfl rfl rfl) ?_
              refine SQ.off rfl (wantU rfl rfl rfl) ?_
              refine SQ.off rfl (wantU rfl rfl rfl) ?_
              refine SQ.off rfl (wantX (c := decide (x18 ≥ x3)) rfl rfl rfl dc20) ?_
              refine SQ.val (v := .bool true) rfl (wantN rfl) (fun w => ev_pickT (v := .bool true) rfl (t := decide (x18 ≥ x3)) rfl dc20 rfl w) ?_
              refine SQ.nil ?_
              refine SW.cond_t (t := true) rfl rfl ?_
              refine SW.seq ?_
              refine SW.region ?_
              refine SOps.val (v := .int .i64 x5) rfl (wantN rfl) (fun _ => by kernel_rfl) ?_
              refine SOps.val (v := .int .i64 x5) rfl (wantN rfl) (fun _ => by kernel_rfl) ?_
              refine SOps.nil ?_
              obtain ⟨Hr, hr, h⟩ := h
              exact SW.ret (retQ.mk (.int .i64 x5) (res1 rfl rfl) hr ⟨x5, rfl, h⟩)
            · replace h := h.2 c20
              have dc20 : (decide (x18 ≥ x3)) = false := (decide_eq_false c20)
              refine SQ.val (v := .int .i64 x5) rfl (wantY (c := decide (x18 ≥ x3)) rfl rfl rfl dc20) (fun _ => by kernel_rfl) ?_
              refine SQ.val (v := .bool (decide (x5 > 0))) rfl (wantY (c := decide (x18 ≥ x3)) rfl rfl rfl dc20) (fun _ => by kernel_rfl) ?_
              refine SQ.val (v := .bool (decide (x5 > 0))) rfl (wantY (c := decide (x18 ≥ x3)) rfl rfl rfl dc20) (fun _ => by kernel_rfl) ?_
              by_cases c21 : x5 > 0
              · replace h := h.1 c21
                have dc21 : (decide (x5 > 0)) = true := (decide_eq_true c21)
                refine SQ.val (v := sv l4) rfl (wantY (c := decide (x5 > 0)) rfl rfl rfl dc21) (fun _ => by kernel_rfl) ?_
                refine SQ.val (v := .int .i64 x5) rfl (wantY (c := decide (x5 > 0)) rfl rfl rfl dc21) (fun _ => by kernel_rfl) ?_
                obtain ⟨p22, c23, c24, c25, h⟩ := h
                refine SQ.val (v := pv (some (p22.1, (p22.2 + x5.toNat * 1)))) rfl (wantY (c := decide (x5 > 0)) rfl rfl rfl dc21) (fun w => ev_iaddr rfl Tryd.underlying56 (size := 1) (by kernel_rfl) rfl rfl c23 c24 c25 w) ?_
                obtain ⟨x26, c27, h⟩ := h
                refine SQ.rd (v := .int .i64 x26) rfl (wantY (c := decide (x5 > 0)) rfl rfl rfl dc21) (fun w hw => ev_load1 rfl (fun _ => by kernel_rfl) (p := (p22.1, (p22.2 + x5.toNat * 1))) rfl c27 w hw) ?_
                refine SQ.val (v := sv l4) rfl (wantY (c := decide (x5 > 0)) rfl rfl rfl dc21) (fun _ => by kernel_rfl) ?_
                refine SQ.val (v := .int .i64 x5) rfl (wantY (c := decide (x5 > 0)) rfl rfl rfl dc21) (fun _ => by kernel_rfl) ?_
                refine SQ.val (v := .int .i64 (w64 (x5 - 1))) rfl (wantY (c := decide (x5 > 0)) rfl rfl rfl dc21) (fun _ => by kernel_rfl) ?_
                obtain ⟨p28, c29, c30, c31, h⟩ := h
                refine SQ.val (v := pv (some (p28.1, (p28.2 + (w64 (x5 - 1)).toNat * 1)))) rfl (wantY (c := decide (x5 > 0)) rfl rfl rfl dc21) (fun w => ev_iaddr rfl Tryd.underlying56 (size := 1) (by kernel_rfl) rfl rfl c29 c30 c31 w) ?_
                obtain ⟨x32, c33, h⟩ := h
                refine SQ.rd (v := .int .i64 x32) rfl (wantY (c := decide (x5 > 0)) rfl rfl rfl dc21) (fun w hw => ev_load1 rfl (fun _ => by kernel_rfl) (p := (p28.1, (p28.2 + (w64 (x5 - 1)).toNat * 1))) rfl c33 w hw) ?_
                refine SQ.val (v := .bool (decide (x26 ≤ x32))) rfl (wantY (c := decide (x5 > 0)) rfl rfl rfl dc21) (fun _ => by kernel_rfl) ?_
                refine SQ.val (v := .bool (decide (x26 ≤ x32))) rfl (wantY (c := decide (x18 ≥ x3)) rfl rfl rfl dc20) (fun w => ev_pickT (v := .bool (decide (x26 ≤ x32))) rfl (t := decide (x5 > 0)) rfl dc21 rfl w) ?_
                refine SQ.val (v := .bool (decide (x26 ≤ x32))) rfl (wantN rfl) (fun w => ev_pickF (v := .bool (decide (x26 ≤ x32))) rfl (t := decide (x18 ≥ x3)) rfl dc20 rfl w) ?_
                refine SQ.nil ?_
                by_cases c34 : x26 ≤ x32
                · replace h := h.1 c34
                  have dc34 : (decide (x26 ≤ x32)) = true := (decide_eq_true c34)
                  refine SW.cond_t (t := decide (x26 ≤ x32)) rfl dc34 ?_
                  refine SW.seq ?_
                  refine SW.region ?_
                  refine SOps.val (v := .int .i64 x5) rfl (wantN rfl) (fun _ => by kernel_rfl) ?_
                  refine SOps.val (v := .int .i64 x5) rfl (wantN rfl) (fun _ => by kernel_rfl) ?_
                  refine SOps.nil ?_
                  obtain ⟨Hr, hr, h⟩ := h
                  exact SW.ret (retQ.mk (.int .i64 x5) (res1 rfl rfl) hr ⟨x5, rfl, h⟩)
                · replace h := h.2 c34
                  have dc34 : (decide (x26 ≤ x32)) = false := (decide_eq_false c34)
                  refine SW.cond_f (t := decide (x26 ≤ x32)) rfl dc34 ?_
                  refine SW.skip ?_
                  exact ⟨_, x3, l4, x5, Fr.upds_self _ _ ⟨rfl, rfl, rfl, trivial⟩, h⟩
              · replace h := h.2 c21
                have dc21 : (decide (x5 > 0)) = false := (decide_eq_false c21)
                refine SQ.off rfl (wantX (c := decide (x5 > 0)) rfl rfl rfl dc21) ?_
                refine SQ.off rfl (wantX (c := decide (x5 > 0)) rfl rfl rfl dc21) ?_
                refine SQ.off rfl (wantX (c := decide (x5 > 0)) rfl rfl rfl dc21) ?_
                refine SQ.off rfl (wantX (c := decide (x5 > 0)) rfl rfl rfl dc21) ?_
                refine SQ.off rfl (wantX (c := decide (x5 > 0)) rfl rfl rfl dc21) ?_
                refine SQ.off rfl (wantX (c := decide (x5 > 0)) rfl rfl rfl dc21) ?_
                refine SQ.off rfl (wantX (c := decide (x5 > 0)) rfl rfl rfl dc21) ?_
                refine SQ.off rfl (wantX (c := decide (x5 > 0)) rfl rfl rfl dc21) ?_
                refine SQ.off rfl (wantX (c := decide (x5 > 0)) rfl rfl rfl dc21) ?_
                refine SQ.off rfl (wantX (c := decide (x5 > 0)) rfl rfl rfl dc21) ?_
                refine SQ.val (v := .bool false) rfl (wantY (c := decide (x18 ≥ x3)) rfl rfl rfl dc20) (fun w => ev_pickF (v := .bool false) rfl (t := decide (x5 > 0)) rfl dc21 rfl w) ?_
                refine SQ.val (v := .bool false) rfl (wantN rfl) (fun w => ev_pickF (v := .bool false) rfl (t := decide (x18 ≥ x3)) rfl dc20 rfl w) ?_
                refine SQ.nil ?_
                refine SW.cond_f (t := false) rfl rfl ?_
                refine SW.skip ?_
                exact ⟨_, x3, l4, x5, Fr.upds_self _ _ ⟨rfl, rfl, rfl, trivial⟩, h⟩
    · replace h := h.2 c6
      have dc6 : (decide (x5 < (l4.len : Int))) = false := (decide_eq_false c6)
      refine SW.cond_f (t := decide (x5 < (l4.len : Int))) rfl dc6 ?_
      refine SW.exit ?_
      refine SW.seq ?_
      refine SW.region ?_
      refine SOps.val (v := .int .i64 (-1)) rfl (wantN rfl) (fun _ => by kernel_rfl) ?_
      refine SOps.nil ?_
      obtain ⟨Hr, hr, h⟩ := h
      exact SW.ret (retQ.mk (.int .i64 (-1)) (res1 rfl rfl) hr ⟨(-1), rfl, h⟩)

/-! ### lading/ladingref06.Put: function 43 -/
def ladingref06_Put.j1 (F : Nat) (K : ByteArray → SH → Prop) (R1 : Int → Sl → ByteArray → Int → SH → Prop) (x41 : Int) (l42 : Sl) (s43 : ByteArray) (x44 : Int) (H : SH) : Prop :=
  R1 x41 l42 s43 (w64 (x44 + 1)) H
def ladingref06_Put.j2 (F : Nat) (K : ByteArray → SH → Prop) (R1 : Int → Sl → ByteArray → Int → SH → Prop) (x22 : Int) (l23 : Sl) (s24 : ByteArray) (x25 : Int) (H : SH) : Prop :=
  ladingref06_Put.j1 F K R1 x22 l23 s24 x25 H
def ladingref06_Put.r1 (F : Nat) (K : ByteArray → SH → Prop) (R1 : Int → Sl → ByteArray → Int → SH → Prop) (x5 : Int) (l6 : Sl) (s7 : ByteArray) (x8 : Int) (H : SH) : Prop :=
  (x8 < (l6.len : Int) →
    (x8 = 0 →
      ∃ p11, l6.a = some p11 ∧ 0 ≤ (0 : Int) ∧ (0 : Int) < (l6.len : Int) ∧
      ∃ (x15 : Int),
      SH.has H (p11.1, (p11.2 + (0 : Int).toNat * 1)) (.int .i64 x15) ∧
      ladingref01_Turn.wp F (w64 (x15 - x5)) H (fun x17 H18 =>
        ladingref01_Short.wp F x17 H18 (fun s19 H20 =>
          s7.size + s19.size ≤ 9223372036854775807 ∧
          ladingref06_Put.j2 F K R1 x5 l6 (s7 ++ s19) x8 H20
        )
      )
    ) ∧ (¬ (x8 = 0) →
      ∃ p26, l6.a = some p26 ∧ 0 ≤ x8 ∧ x8 < (l6.len : Int) ∧
      ∃ (x30 : Int),
      SH.has H (p26.1, (p26.2 + x8.toNat * 1)) (.int .i64 x30) ∧
      ∃ p32, l6.a = some p32 ∧ 0 ≤ (w64 (x8 - 1)) ∧ (w64 (x8 - 1)) < (l6.len : Int) ∧
      ∃ (x36 : Int),
      SH.has H (p32.1, (p32.2 + (w64 (x8 - 1)).toNat * 1)) (.int .i64 x36) ∧
      ∃ (s38 : ByteArray),
      ladingref01_Short.wp F (w64 ((w64 (x30 - x36)) - 1)) H (fun s38' H' => s38' = s38 ∧ H' = H) ∧
      s7.size + s38.size ≤ 9223372036854775807 ∧
      ladingref06_Put.j2 F K R1 x5 l6 (s7 ++ s38) x8 H
    )
  ) ∧ (¬ (x8 < (l6.len : Int)) →
    ∃ Hr, SH.le Hr H ∧ K s7 Hr
  )
def ladingref06_Put.l1 (F : Nat) (K : ByteArray → SH → Prop) : Nat → Int → Sl → ByteArray → Int → SH → Prop
  | 0, _, _, _, _, _ => False
  | k + 1, x5, l6, s7, x8, H => ladingref06_Put.r1 F K (ladingref06_Put.l1 F K k) x5 l6 s7 x8 H
def ladingref06_Put.wp (F : Nat) (x1 : Int) (l2 : Sl) (H : SH) (K : ByteArray → SH → Prop) : Prop :=
  ladingref01_Short.wp F (l2.len : Int) H (fun s3 H4 =>
    ladingref06_Put.l1 F K F x1 l2 s3 0 H4
  )
set_option maxHeartbeats 8000000 in
theorem ladingref06_Put.sound (F : Nat) (x1 : Int) (l2 : Sl) (H : SH) (K : ByteArray → SH → Prop) (h : ladingref06_Put.wp F x1 l2 H K) : SCalls Tryd.prog 43 #[.int .i64 x1, sv l2] H (fun v H' => ∃ (s50 : ByteArray), v = .string s50 ∧ K s50 H') := by
  unfold ladingref06_Put.wp at h
  refine SCalls.body Tryd.func43 rfl (Nat.le_of_ble_eq_true rfl) ?_
  refine SW.seq ?_
  refine SW.region ?_
  refine SOps.val (v := .string ByteArray.empty) rfl (wantN rfl) (fun _ => by kernel_rfl) ?_
  refine SOps.nil ?_
  refine SW.seq ?_
  refine SW.region ?_
  refine SOps.val (v := sv l2) rfl (wantN rfl) (fun _ => by kernel_rfl) ?_
  refine SOps.val (v := .int .i64 (l2.len : Int)) rfl (wantN rfl) (fun _ => by kernel_rfl) ?_
  refine SOps.enter rfl (wantN rfl) (fun _ => by kernel_rfl) (ladingref01_Short.sound F (l2.len : Int) H _ h) ?_
  clear h
  rintro v H4 ⟨s3, rfl, h⟩
  refine SOps.val (v := .string s3) rfl (wantN rfl) (fun _ => by kernel_rfl) ?_
  refine SOps.nil ?_
  refine SW.seq ?_
  refine SW.seq ?_
  refine SW.region ?_
  refine SOps.val (v := .int .i64 0) rfl (wantN rfl) (fun _ => by kernel_rfl) ?_
  refine SOps.nil ?_
  refine SW.block ?_
  refine SW.loop (fun k1 fr H => ∃ (g : Fr) (x5 : Int) (l6 : Sl) (s7 : ByteArray) (x8 : Int), fr = g.upds [(0, (.int .i64 x5 : Value)), (1, sv l6), (5, (.string s7 : Value)), (6, (.int .i64 x8 : Value))] ∧ ladingref06_Put.l1 F K k1 x5 l6 s7 x8 H) F ⟨_, x1, l2, s3, 0, (Fr.upds_self _ _ ⟨rfl, rfl, rfl, rfl, trivial⟩), h⟩ ?_
  clear h
  rintro k1 fr H ⟨g, x5, l6, s7, x8, rfl, h⟩
  cases k1 with
  | zero => exact h.elim
  | succ k1 =>
    replace h : ladingref06_Put.r1 F K (ladingref06_Put.l1 F K k1) x5 l6 s7 x8 H := h
    unfold ladingref06_Put.r1 at h
    refine SW.seq ?_
    refine SW.seq ?_
    refine SW.region ?_
    refine SOps.val (v := .int .i64 x8) rfl (wantN rfl) (fun _ => by kernel_rfl) ?_
    refine SOps.val (v := sv l6) rfl (wantN rfl) (fun _ => by kernel_rfl) ?_
    refine SOps.val (v := .int .i64 (l6.len : Int)) rfl (wantN rfl) (fun _ => by kernel_rfl) ?_
    refine SOps.val (v := .bool (decide (x8 < (l6.len : Int)))) rfl (wantN rfl) (fun _ => by kernel_rfl) ?_
    refine SOps.nil ?_
    by_cases c9 : x8 < (l6.len : Int)
    · replace h := h.1 c9
      have dc9 : (decide (x8 < (l6.len : Int))) = true := (decide_eq_true c9)
      refine SW.cond_t (t := decide (x8 < (l6.len : Int))) rfl dc9 ?_
      refine SW.skip ?_
      refine SW.seqJ (fun fr H => ∃ (g : Fr) (x41 : Int) (l42 : Sl) (s43 : ByteArray) (x44 : Int), fr = g.upds [(0, (.int .i64 x41 : Value)), (1, sv l42), (5, (.string s43 : Value)), (6, (.int .i64 x44 : Value))] ∧ ladingref06_Put.j1 F K (ladingref06_Put.l1 F K k1) x41 l42 s43 x44 H) ?_ ?_
      · clear h
        rintro fr H ⟨g, x41, l42, s43, x44, rfl, h⟩
        unfold ladingref06_Put.j1 at h
        refine SW.region ?_
        refine SOps.val (v := .int .i64 x44) rfl (wantN rfl) (fun _ => by kernel_rfl) ?_
        refine SOps.val (v := .int .i64 (w64 (x44 + 1))) rfl (wantN rfl) (fun _ => by kernel_rfl) ?_
        refine SOps.val (v := .int .i64 (w64 (x44 + 1))) rfl (wantN rfl) (fun _ => by kernel_rfl) ?_
        refine SOps.nil ?_
        exact ⟨k1, Nat.lt_succ_self k1, _, x41, l42, s43, w64 (x44 + 1), (Fr.upds_self _ _ ⟨rfl, rfl, rfl, rfl, trivial⟩), h⟩
      · skip
        refine SW.blockJ (fun fr H => ∃ (g : Fr) (x22 : Int) (l23 : Sl) (s24 : ByteArray) (x25 : Int), fr = g.upds [(0, (.int .i64 x22 : Value)), (1, sv l23), (5, (.string s24 : Value)), (6, (.int .i64 x25 : Value))] ∧ ladingref06_Put.j2 F K (ladingref06_Put.l1 F K k1) x22 l23 s24 x25 H) ?_ ?_
        · clear h
          rintro fr H ⟨g, x22, l23, s24, x25, rfl, h⟩
          unfold ladingref06_Put.j2 at h
          exact ⟨_, x22, l23, s24, x25, Fr.upds_self _ _ ⟨rfl, rfl, rfl, rfl, trivial⟩, h⟩
        · skip
          refine SW.seq ?_
          refine SW.region ?_
          refine SOps.val (v := .int .i64 x8) rfl (wantN rfl) (fun _ => by kernel_rfl) ?_
          refine SOps.val (v := .bool (x8 == 0)) rfl (wantN rfl) (fun _ => by kernel_rfl) ?_
          refine SOps.nil ?_
          by_cases c10 : x8 = 0
          · replace h := h.1 c10
            have dc10 : (x8 == 0) = true := (beq_iff_eq.mpr c10)
            refine SW.cond_t (t := (x8 == 0)) rfl dc10 ?_
            refine SW.region ?_
            refine SOps.val (v := .string s7) rfl (wantN rfl) (fun _ => by kernel_rfl) ?_
            refine SOps.val (v := sv l6) rfl (wantN rfl) (fun _ => by kernel_rfl) ?_
            obtain ⟨p11, c12, c13, c14, h⟩ := h
            refine SOps.val (v := pv (some (p11.1, (p11.2 + (0 : Int).toNat * 1)))) rfl (wantN rfl) (fun w => ev_iaddr rfl Tryd.underlying56 (size := 1) (by kernel_rfl) rfl rfl c12 c13 c14 w) ?_
            obtain ⟨x15, c16, h⟩ := h
            refine SOps.rd (v := .int .i64 x15) rfl (wantN rfl) (fun w hw => ev_load1 rfl (fun _ => by kernel_rfl) (p := (p11.1, (p11.2 + (0 : Int).toNat * 1))) rfl c16 w hw) ?_
            refine SOps.val (v := .int .i64 x5) rfl (wantN rfl) (fun _ => by kernel_rfl) ?_
            refine SOps.val (v := .int .i64 (w64 (x15 - x5))) rfl (wantN rfl) (fun _ => by kernel_rfl) ?_
            refine SOps.enter rfl (wantN rfl) (fun _ => by kernel_rfl) (ladingref01_Turn.sound F (w64 (x15 - x5)) H _ h) ?_
            clear h
            rintro v H18 ⟨x17, rfl, h⟩
            refine SOps.enter rfl (wantN rfl) (fun _ => by kernel_rfl) (ladingref01_Short.sound F x17 H18 _ h) ?_
            clear h
            rintro v H20 ⟨s19, rfl, h⟩
            obtain ⟨c21, h⟩ := h
            refine SOps.val (v := .string (s7 ++ s19)) rfl (wantN rfl) (fun w => ev_cat rfl rfl rfl c21 w) ?_
            refine SOps.val (v := .string (s7 ++ s19)) rfl (wantN rfl) (fun _ => by kernel_rfl) ?_
            refine SOps.nil ?_
            exact ⟨_, x5, l6, s7 ++ s19, x8, Fr.upds_self _ _ ⟨rfl, rfl, rfl, rfl, trivial⟩, h⟩
          · replace h := h.2 c10
            have dc10 : (x8 == 0) = false := (beq_eq_false_iff_ne.mpr c10)
            refine SW.cond_f (t := (x8 == 0)) rfl dc10 ?_
            refine SW.draw (by kernel_rfl) (by kernel_rfl) ?_
            refine SQ.val (v := .string s7) rfl (wantN rfl) (fun _ => by kernel_rfl) ?_
            refine SQ.val (v := sv l6) rfl (wantN rfl) (fun _ => by kernel_rfl) ?_
            refine SQ.val (v := .int .i64 x8) rfl (wantN rfl) (fun _ => by kernel_rfl) ?_
            obtain ⟨p26, c27, c28, c29, h⟩ := h
            refine SQ.val (v := pv (some (p26.1, (p26.2 + x8.toNat * 1)))) rfl (wantN rfl) (fun w => ev_iaddr rfl Tryd.underlying56 (size := 1) (by kernel_rfl) rfl rfl c27 c28 c29 w) ?_
            obtain ⟨x30, c31, h⟩ := h
            refine SQ.rd (v := .int .i64 x30) rfl (wantN rfl) (fun w hw => ev_load1 rfl (fun _ => by kernel_rfl) (p := (p26.1, (p26.2 + x8.toNat * 1))) rfl c31 w hw) ?_
            refine SQ.val (v := sv l6) rfl (wantN rfl) (fun _ => by kernel_rfl) ?_
            refine SQ.val (v := .int .i64 x8) rfl (wantN rfl) (fun _ => by kernel_rfl) ?_
            refine SQ.val (v := .int .i64 (w64 (x8 - 1))) rfl (wantN rfl) (fun _ => by kernel_rfl) ?_
            obtain ⟨p32, c33, c34, c35, h⟩ := h
            refine SQ.val (v := pv (some (p32.1, (p32.2 + (w64 (x8 - 1)).toNat * 1)))) rfl (wantN rfl) (fun w => ev_iaddr rfl Tryd.underlying56 (size := 1) (by kernel_rfl) rfl rfl c33 c34 c35 w) ?_
            obtain ⟨x36, c37, h⟩ := h
            refine SQ.rd (v := .int .i64 x36) rfl (wantN rfl) (fun w hw => ev_load1 rfl (fun _ => by kernel_rfl) (p := (p32.1, (p32.2 + (w64 (x8 - 1)).toNat * 1))) rfl c37 w hw) ?_
            refine SQ.val (v := .int .i64 (w64 (x30 - x36))) rfl (wantN rfl) (fun _ => by kernel_rfl) ?_
            refine SQ.val (v := .int .i64 (w64 ((w64 (x30 - x36)) - 1))) rfl (wantN rfl) (fun _ => by kernel_rfl) ?_
            obtain ⟨s38, c39, h⟩ := h
            refine SQ.enter (v := .string s38) rfl (wantN rfl) (fun _ => by kernel_rfl) ((ladingref01_Short.sound F (w64 ((w64 (x30 - x36)) - 1)) H _ c39).mono (by rintro v H' ⟨_, rfl, rfl, rfl⟩; exact ⟨rfl, rfl⟩)) ?_
            obtain ⟨c40, h⟩ := h
            refine SQ.val (v := .string (s7 ++ s38)) rfl (wantN rfl) (fun w => ev_cat rfl rfl rfl c40 w) ?_
            refine SQ.val (v := .string (s7 ++ s38)) rfl (wantN rfl) (fun _ => by kernel_rfl) ?_
            refine SQ.nil ?_
            exact ⟨_, x5, l6, s7 ++ s38, x8, Fr.upds_self _ _ ⟨rfl, rfl, rfl, rfl, trivial⟩, h⟩
    · replace h := h.2 c9
      have dc9 : (decide (x8 < (l6.len : Int))) = false := (decide_eq_false c9)
      refine SW.cond_f (t := decide (x8 < (l6.len : Int))) rfl dc9 ?_
      refine SW.exit ?_
      refine SW.seq ?_
      refine SW.region ?_
      refine SOps.val (v := .string s7) rfl (wantN rfl) (fun _ => by kernel_rfl) ?_
      refine SOps.val (v := .string s7) rfl (wantN rfl) (fun _ => by kernel_rfl) ?_
      refine SOps.nil ?_
      obtain ⟨Hr, hr, h⟩ := h
      exact SW.ret (retQ.mk (.string s7) (res1 rfl rfl) hr ⟨s7, rfl, h⟩)

/-! ### lading/ladingref06.Count: function 35 -/
def ladingref06_Count.j1 (F : Nat) (K : Int → Int → Int → Int → SH → Prop) (b26 : Nat) (b27 : Nat) (H : SH) : Prop :=
  ∃ (x28 : Int) (x29 : Int) (x30 : Int) (x31 : Int),
  SH.row H (some (b27, 0)) [.int .i64 x28, .int .i64 x29, .int .i64 x30, .int .i64 x31] ∧
  SH.wrs H (b26, 0) 4 ∧
  ∃ (x34 : Int) (x35 : Int) (x36 : Int) (x37 : Int),
  SH.row (SH.setl H (b26, 0) [.int .i64 x28, .int .i64 x29, .int .i64 x30, .int .i64 x31]) (some (b26, 0)) [.int .i64 x34, .int .i64 x35, .int .i64 x36, .int .i64 x37] ∧
  ∃ Hr, SH.le Hr (SH.setl H (b26, 0) [.int .i64 x28, .int .i64 x29, .int .i64 x30, .int .i64 x31]) ∧ K x34 x35 x36 x37 Hr
def ladingref06_Count.wp (F : Nat) (s1 : ByteArray) (x2 : Int) (x3 : Int) (H : SH) (K : Int → Int → Int → Int → SH → Prop) : Prop :=
  ∀ b4, H b4 = none →
  ladingref01_ReadShort.wp F s1 x2 (SH.upd H b4 ⟨[.int .i64 0, .int .i64 0, .int .i64 0, .int .i64 0], 62, false, 4⟩) (fun x6 x7 x8 x9 H10 =>
    ∀ b11, H10 b11 = none →
    SH.wrs (SH.upd H10 b11 ⟨[.int .i64 0, .int .i64 0, .int .i64 0, .int .i64 0], 62, false, 4⟩) (b11, 0) 4 ∧
    ∃ (x14 : Int),
    SH.has (SH.setl (SH.upd H10 b11 ⟨[.int .i64 0, .int .i64 0, .int .i64 0, .int .i64 0], 62, false, 4⟩) (b11, 0) [.int .i64 x6, .int .i64 x7, .int .i64 x8, .int .i64 x9]) (b11, 2) (.int .i64 x14) ∧
    (x14 = 0 →
      ∃ (x17 : Int),
      SH.has (SH.setl (SH.upd H10 b11 ⟨[.int .i64 0, .int .i64 0, .int .i64 0, .int .i64 0], 62, false, 4⟩) (b11, 0) [.int .i64 x6, .int .i64 x7, .int .i64 x8, .int .i64 x9]) (b11, 0) (.int .i64 x17) ∧
      (x17 > x3 →
        SH.wrs (SH.setl (SH.upd H10 b11 ⟨[.int .i64 0, .int .i64 0, .int .i64 0, .int .i64 0], 62, false, 4⟩) (b11, 0) [.int .i64 x6, .int .i64 x7, .int .i64 x8, .int .i64 x9]) (b4, 0) 4 ∧
        ∃ (x21 : Int) (x22 : Int) (x23 : Int) (x24 : Int),
        SH.row (SH.setl (SH.setl (SH.upd H10 b11 ⟨[.int .i64 0, .int .i64 0, .int .i64 0, .int .i64 0], 62, false, 4⟩) (b11, 0) [.int .i64 x6, .int .i64 x7, .int .i64 x8, .int .i64 x9]) (b4, 0) [.int .i64 0, .int .i64 x2, .int .i64 4, .int .i64 x2]) (some (b4, 0)) [.int .i64 x21, .int .i64 x22, .int .i64 x23, .int .i64 x24] ∧
        ∃ Hr, SH.le Hr (SH.setl (SH.setl (SH.upd H10 b11 ⟨[.int .i64 0, .int .i64 0, .int .i64 0, .int .i64 0], 62, false, 4⟩) (b11, 0) [.int .i64 x6, .int .i64 x7, .int .i64 x8, .int .i64 x9]) (b4, 0) [.int .i64 0, .int .i64 x2, .int .i64 4, .int .i64 x2]) ∧ K x21 x22 x23 x24 Hr
      ) ∧ (¬ (x17 > x3) →
        ladingref06_Count.j1 F K b4 b11 (SH.setl (SH.upd H10 b11 ⟨[.int .i64 0, .int .i64 0, .int .i64 0, .int .i64 0], 62, false, 4⟩) (b11, 0) [.int .i64 x6, .int .i64 x7, .int .i64 x8, .int .i64 x9])
      )
    ) ∧ (¬ (x14 = 0) →
      ladingref06_Count.j1 F K b4 b11 (SH.setl (SH.upd H10 b11 ⟨[.int .i64 0, .int .i64 0, .int .i64 0, .int .i64 0], 62, false, 4⟩) (b11, 0) [.int .i64 x6, .int .i64 x7, .int .i64 x8, .int .i64 x9])
    )
  )
set_option maxHeartbeats 8000000 in
theorem ladingref06_Count.sound (F : Nat) (s1 : ByteArray) (x2 : Int) (x3 : Int) (H : SH) (K : Int → Int → Int → Int → SH → Prop) (h : ladingref06_Count.wp F s1 x2 x3 H K) : SCalls Tryd.prog 35 #[.string s1, .int .i64 x2, .int .i64 x3] H (fun v H' => ∃ (x47 : Int) (x48 : Int) (x49 : Int) (x50 : Int), v = .agg #[.int .i64 x47, .int .i64 x48, .int .i64 x49, .int .i64 x50] ∧ K x47 x48 x49 x50 H') := by
  unfold ladingref06_Count.wp at h
  refine SCalls.body Tryd.func35 rfl (Nat.le_of_ble_eq_true rfl) ?_
  refine SW.seq ?_
  refine SW.region ?_
  refine SOps.alloc rfl rfl (wantN rfl) (z := .agg #[.int .i64 0, .int .i64 0, .int .i64 0, .int .i64 0]) (by kernel_rfl) (fun b4 c5 => ?_)
  replace h := h b4 c5
  refine SOps.nil ?_
  refine SW.seq ?_
  refine SW.region ?_
  refine SOps.val (v := .string s1) rfl (wantN rfl) (fun _ => by kernel_rfl) ?_
  refine SOps.val (v := .int .i64 x2) rfl (wantN rfl) (fun _ => by kernel_rfl) ?_
  refine SOps.enter rfl (wantN rfl) (fun _ => by kernel_rfl) (ladingref01_ReadShort.sound F s1 x2 (SH.upd H b4 ⟨[.int .i64 0, .int .i64 0, .int .i64 0, .int .i64 0], 62, false, 4⟩) _ h) ?_
  clear h
  rintro v H10 ⟨x6, x7, x8, x9, rfl, h⟩
  refine SOps.alloc rfl rfl (wantN rfl) (z := .agg #[.int .i64 0, .int .i64 0, .int .i64 0, .int .i64 0]) (by kernel_rfl) (fun b11 c12 => ?_)
  replace h := h b11 c12
  obtain ⟨c13, h⟩ := h
  refine SOps.storeL (p := (b11, 0)) (v := .agg #[.int .i64 x6, .int .i64 x7, .int .i64 x8, .int .i64 x9]) (cs := [.int .i64 x6, .int .i64 x7, .int .i64 x8, .int .i64 x9]) rfl rfl (wantN rfl) (size := 4) (by kernel_rfl) rfl rfl rfl rfl (by simp [Value.oneCell', errV_one, pv, sv]) c13 ?_
  refine SOps.nil ?_
  refine SW.seqJ (fun fr H => ∃ (g : Fr) (b26 : Nat) (b27 : Nat), fr = g.upds [(6, pv (some (b26, 0))), (7, pv (some (b27, 0)))] ∧ ladingref06_Count.j1 F K b26 b27 H) ?_ ?_
  · clear h
    rintro fr H ⟨g, b26, b27, rfl, h⟩
    unfold ladingref06_Count.j1 at h
    refine SW.seq ?_
    refine SW.region ?_
    obtain ⟨x28, x29, x30, x31, c32, h⟩ := h
    refine SOps.rd (v := .agg #[.int .i64 x28, .int .i64 x29, .int .i64 x30, .int .i64 x31]) rfl (wantN rfl) (fun w hw => ev_loadN rfl (fun _ => by kernel_rfl) (size := 4) (by kernel_rfl) (p := (b27, 0)) rfl rfl c32 w hw) ?_
    obtain ⟨c33, h⟩ := h
    refine SOps.storeL (p := (b26, 0)) (v := .agg #[.int .i64 x28, .int .i64 x29, .int .i64 x30, .int .i64 x31]) (cs := [.int .i64 x28, .int .i64 x29, .int .i64 x30, .int .i64 x31]) rfl rfl (wantN rfl) (size := 4) (by kernel_rfl) rfl rfl rfl rfl (by simp [Value.oneCell', errV_one, pv, sv]) c33 ?_
    refine SOps.nil ?_
    obtain ⟨x34, x35, x36, x37, c38, Hr, hr, h⟩ := h
    exact SW.ret (retQ.mkM (.agg #[.int .i64 x34, .int .i64 x35, .int .i64 x36, .int .i64 x37]) (resCN (size := 4) (p := (b26, 0)) (T := 62) rfl rfl (fun _ => by kernel_rfl) (by kernel_rfl) rfl c38) hr ⟨x34, x35, x36, x37, rfl, h⟩)
  · skip
    refine SW.seq ?_
    refine SW.region ?_
    refine SOps.val (v := pv (some (b11, 2))) rfl (wantN rfl) (fun _ => by kernel_rfl) ?_
    obtain ⟨x14, c15, h⟩ := h
    refine SOps.rd (v := .int .i64 x14) rfl (wantN rfl) (fun w hw => ev_load1 rfl (fun _ => by kernel_rfl) (p := (b11, 2)) rfl c15 w hw) ?_
    refine SOps.val (v := .bool (x14 == 0)) rfl (wantN rfl) (fun _ => by kernel_rfl) ?_
    refine SOps.val (v := .bool (x14 == 0)) rfl (wantN rfl) (fun _ => by kernel_rfl) ?_
    by_cases c16 : x14 = 0
    · replace h := h.1 c16
      have dc16 : (x14 == 0) = true := (beq_iff_eq.mpr c16)
      refine SOps.val (v := pv (some (b11, 0))) rfl (wantY (c := (x14 == 0)) rfl rfl rfl dc16) (fun _ => by kernel_rfl) ?_
      obtain ⟨x17, c18, h⟩ := h
      refine SOps.rd (v := .int .i64 x17) rfl (wantY (c := (x14 == 0)) rfl rfl rfl dc16) (fun w hw => ev_load1 rfl (fun _ => by kernel_rfl) (p := (b11, 0)) rfl c18 w hw) ?_
      refine SOps.val (v := .int .i64 x3) rfl (wantY (c := (x14 == 0)) rfl rfl rfl dc16) (fun _ => by kernel_rfl) ?_
      refine SOps.val (v := .bool (decide (x17 > x3))) rfl (wantY (c := (x14 == 0)) rfl rfl rfl dc16) (fun _ => by kernel_rfl) ?_
      refine SOps.val (v := .bool (decide (x17 > x3))) rfl (wantN rfl) (fun w => ev_pickT (v := .bool (decide (x17 > x3))) rfl (t := (x14 == 0)) rfl dc16 rfl w) ?_
      refine SOps.nil ?_
      by_cases c19 : x17 > x3
      · replace h := h.1 c19
        have dc19 : (decide (x17 > x3)) = true := (decide_eq_true c19)
        refine SW.cond_t (t := decide (x17 > x3)) rfl dc19 ?_
        refine SW.seq ?_
        refine SW.region ?_
        refine SOps.val (v := .int .i64 x2) rfl (wantN rfl) (fun _ => by kernel_rfl) ?_
        refine SOps.val (v := .int .i64 x2) rfl (wantN rfl) (fun _ => by kernel_rfl) ?_
        refine SOps.val (v := .agg #[.int .i64 0, .int .i64 x2, .int .i64 4, .int .i64 x2]) rfl (wantN rfl) (fun _ => by kernel_rfl) ?_
        obtain ⟨c20, h⟩ := h
        refine SOps.storeL (p := (b4, 0)) (v := .agg #[.int .i64 0, .int .i64 x2, .int .i64 4, .int .i64 x2]) (cs := [.int .i64 0, .int .i64 x2, .int .i64 4, .int .i64 x2]) rfl rfl (wantN rfl) (size := 4) (by kernel_rfl) rfl rfl rfl rfl (by simp [Value.oneCell', errV_one, pv, sv]) c20 ?_
        refine SOps.nil ?_
        obtain ⟨x21, x22, x23, x24, c25, Hr, hr, h⟩ := h
        exact SW.ret (retQ.mkM (.agg #[.int .i64 x21, .int .i64 x22, .int .i64 x23, .int .i64 x24]) (resCN (size := 4) (p := (b4, 0)) (T := 62) rfl rfl (fun _ => by kernel_rfl) (by kernel_rfl) rfl c25) hr ⟨x21, x22, x23, x24, rfl, h⟩)
      · replace h := h.2 c19
        have dc19 : (decide (x17 > x3)) = false := (decide_eq_false c19)
        refine SW.cond_f (t := decide (x17 > x3)) rfl dc19 ?_
        refine SW.skip ?_
        exact ⟨_, b4, b11, Fr.upds_self _ _ ⟨rfl, rfl, trivial⟩, h⟩
    · replace h := h.2 c16
      have dc16 : (x14 == 0) = false := (beq_eq_false_iff_ne.mpr c16)
      refine SOps.off rfl (wantX (c := (x14 == 0)) rfl rfl rfl dc16) ?_
      refine SOps.off rfl (wantX (c := (x14 == 0)) rfl rfl rfl dc16) ?_
      refine SOps.off rfl (wantX (c := (x14 == 0)) rfl rfl rfl dc16) ?_
      refine SOps.off rfl (wantX (c := (x14 == 0)) rfl rfl rfl dc16) ?_
      refine SOps.val (v := .bool false) rfl (wantN rfl) (fun w => ev_pickF (v := .bool false) rfl (t := (x14 == 0)) rfl dc16 rfl w) ?_
      refine SOps.nil ?_
      refine SW.cond_f (t := false) rfl rfl ?_
      refine SW.skip ?_
      exact ⟨_, b4, b11, Fr.upds_self _ _ ⟨rfl, rfl, trivial⟩, h⟩

/-! ### lading/ladingref06.Get: function 37 -/
def ladingref06_Get.j1 (F : Nat) (K : Sl → Int → Int → Int → SH → Prop) (R1 : ByteArray → Int → Int → Nat → Nat → Sl → Int → Int → Int → SH → Prop) (s70 : ByteArray) (x71 : Int) (x72 : Int) (b73 : Nat) (b74 : Nat) (l75 : Sl) (x76 : Int) (x77 : Int) (x78 : Int) (b79 : Nat) (H : SH) : Prop :=
  (x76 < 0 →
    SH.wrs H (b73, 0) 4 ∧
    ∃ (l84 : Sl) (x85 : Int) (x86 : Int) (x87 : Int),
    SH.row (SH.setl H (b73, 0) [sv Sl.nil, .int .i64 x71, .int .i64 4, .int .i64 x77]) (some (b73, 0)) [sv l84, .int .i64 x85, .int .i64 x86, .int .i64 x87] ∧
    ∃ Hr, SH.le Hr (SH.setl H (b73, 0) [sv Sl.nil, .int .i64 x71, .int .i64 4, .int .i64 x77]) ∧ K l84 x85 x86 x87 Hr
  ) ∧ (¬ (x76 < 0) →
    (x76 ≥ x72 →
      SH.wrs H (b73, 0) 4 ∧
      ∃ (l91 : Sl) (x92 : Int) (x93 : Int) (x94 : Int),
      SH.row (SH.setl H (b73, 0) [sv Sl.nil, .int .i64 x71, .int .i64 4, .int .i64 x77]) (some (b73, 0)) [sv l91, .int .i64 x92, .int .i64 x93, .int .i64 x94] ∧
      ∃ Hr, SH.le Hr (SH.setl H (b73, 0) [sv Sl.nil, .int .i64 x71, .int .i64 4, .int .i64 x77]) ∧ K l91 x92 x93 x94 Hr
    ) ∧ (¬ (x76 ≥ x72) →
      AppendQ H 3 1 8 l75 1 [.int .i64 x76] (fun l96 H97 =>
        ∃ (x99 : Int),
        SH.has H97 (b79, 1) (.int .i64 x99) ∧
        R1 s70 x71 x72 b73 b74 l96 x76 x99 (w64 (x78 + 1)) H97
      )
    )
  )
def ladingref06_Get.r1 (F : Nat) (K : Sl → Int → Int → Int → SH → Prop) (R1 : ByteArray → Int → Int → Nat → Nat → Sl → Int → Int → Int → SH → Prop) (s32 : ByteArray) (x33 : Int) (x34 : Int) (b35 : Nat) (b36 : Nat) (l37 : Sl) (x38 : Int) (x39 : Int) (x40 : Int) (H : SH) : Prop :=
  ∃ (x41 : Int),
  SH.has H (b36, 0) (.int .i64 x41) ∧
  (x40 < x41 →
    ladingref01_ReadShort.wp F s32 x39 H (fun x44 x45 x46 x47 H48 =>
      ∀ b49, H48 b49 = none →
      SH.wrs (SH.upd H48 b49 ⟨[.int .i64 0, .int .i64 0, .int .i64 0, .int .i64 0], 62, false, 4⟩) (b49, 0) 4 ∧
      ∃ (x52 : Int),
      SH.has (SH.setl (SH.upd H48 b49 ⟨[.int .i64 0, .int .i64 0, .int .i64 0, .int .i64 0], 62, false, 4⟩) (b49, 0) [.int .i64 x44, .int .i64 x45, .int .i64 x46, .int .i64 x47]) (b49, 2) (.int .i64 x52) ∧
      (x52 ≠ 0 →
        ∃ (x55 : Int),
        SH.has (SH.setl (SH.upd H48 b49 ⟨[.int .i64 0, .int .i64 0, .int .i64 0, .int .i64 0], 62, false, 4⟩) (b49, 0) [.int .i64 x44, .int .i64 x45, .int .i64 x46, .int .i64 x47]) (b49, 2) (.int .i64 x55) ∧
        ∃ (x57 : Int),
        SH.has (SH.setl (SH.upd H48 b49 ⟨[.int .i64 0, .int .i64 0, .int .i64 0, .int .i64 0], 62, false, 4⟩) (b49, 0) [.int .i64 x44, .int .i64 x45, .int .i64 x46, .int .i64 x47]) (b49, 3) (.int .i64 x57) ∧
        SH.wrs (SH.setl (SH.upd H48 b49 ⟨[.int .i64 0, .int .i64 0, .int .i64 0, .int .i64 0], 62, false, 4⟩) (b49, 0) [.int .i64 x44, .int .i64 x45, .int .i64 x46, .int .i64 x47]) (b35, 0) 4 ∧
        ∃ (l60 : Sl) (x61 : Int) (x62 : Int) (x63 : Int),
        SH.row (SH.setl (SH.setl (SH.upd H48 b49 ⟨[.int .i64 0, .int .i64 0, .int .i64 0, .int .i64 0], 62, false, 4⟩) (b49, 0) [.int .i64 x44, .int .i64 x45, .int .i64 x46, .int .i64 x47]) (b35, 0) [sv Sl.nil, .int .i64 x33, .int .i64 x55, .int .i64 x57]) (some (b35, 0)) [sv l60, .int .i64 x61, .int .i64 x62, .int .i64 x63] ∧
        ∃ Hr, SH.le Hr (SH.setl (SH.setl (SH.upd H48 b49 ⟨[.int .i64 0, .int .i64 0, .int .i64 0, .int .i64 0], 62, false, 4⟩) (b49, 0) [.int .i64 x44, .int .i64 x45, .int .i64 x46, .int .i64 x47]) (b35, 0) [sv Sl.nil, .int .i64 x33, .int .i64 x55, .int .i64 x57]) ∧ K l60 x61 x62 x63 Hr
      ) ∧ (¬ (x52 ≠ 0) →
        (x40 = 0 →
          ∃ (x66 : Int),
          SH.has (SH.setl (SH.upd H48 b49 ⟨[.int .i64 0, .int .i64 0, .int .i64 0, .int .i64 0], 62, false, 4⟩) (b49, 0) [.int .i64 x44, .int .i64 x45, .int .i64 x46, .int .i64 x47]) (b49, 0) (.int .i64 x66) ∧
          ladingref01_Back.wp F x66 (SH.setl (SH.upd H48 b49 ⟨[.int .i64 0, .int .i64 0, .int .i64 0, .int .i64 0], 62, false, 4⟩) (b49, 0) [.int .i64 x44, .int .i64 x45, .int .i64 x46, .int .i64 x47]) (fun x68 H69 =>
            ladingref06_Get.j1 F K R1 s32 x33 x34 b35 b36 l37 (w64 (x38 + x68)) x39 x40 b49 H69
          )
        ) ∧ (¬ (x40 = 0) →
          ∃ (x80 : Int),
          SH.has (SH.setl (SH.upd H48 b49 ⟨[.int .i64 0, .int .i64 0, .int .i64 0, .int .i64 0], 62, false, 4⟩) (b49, 0) [.int .i64 x44, .int .i64 x45, .int .i64 x46, .int .i64 x47]) (b49, 0) (.int .i64 x80) ∧
          ladingref06_Get.j1 F K R1 s32 x33 x34 b35 b36 l37 (w64 ((w64 (x38 + x80)) + 1)) x39 x40 b49 (SH.setl (SH.upd H48 b49 ⟨[.int .i64 0, .int .i64 0, .int .i64 0, .int .i64 0], 62, false, 4⟩) (b49, 0) [.int .i64 x44, .int .i64 x45, .int .i64 x46, .int .i64 x47])
        )
      )
    )
  ) ∧ (¬ (x40 < x41) →
    SH.wrs H (b35, 0) 4 ∧
    ∃ (l106 : Sl) (x107 : Int) (x108 : Int) (x109 : Int),
    SH.row (SH.setl H (b35, 0) [sv l37, .int .i64 x39, .int .i64 0, .int .i64 0]) (some (b35, 0)) [sv l106, .int .i64 x107, .int .i64 x108, .int .i64 x109] ∧
    ∃ Hr, SH.le Hr (SH.setl H (b35, 0) [sv l37, .int .i64 x39, .int .i64 0, .int .i64 0]) ∧ K l106 x107 x108 x109 Hr
  )
def ladingref06_Get.l1 (F : Nat) (K : Sl → Int → Int → Int → SH → Prop) : Nat → ByteArray → Int → Int → Nat → Nat → Sl → Int → Int → Int → SH → Prop
  | 0, _, _, _, _, _, _, _, _, _, _ => False
  | k + 1, s32, x33, x34, b35, b36, l37, x38, x39, x40, H => ladingref06_Get.r1 F K (ladingref06_Get.l1 F K k) s32 x33 x34 b35 b36 l37 x38 x39 x40 H
def ladingref06_Get.wp (F : Nat) (s1 : ByteArray) (x2 : Int) (x3 : Int) (x4 : Int) (H : SH) (K : Sl → Int → Int → Int → SH → Prop) : Prop :=
  ∀ b5, H b5 = none →
  ladingref06_Count.wp F s1 x2 x3 (SH.upd H b5 ⟨[sv Sl.nil, .int .i64 0, .int .i64 0, .int .i64 0], 65, false, 4⟩) (fun x7 x8 x9 x10 H11 =>
    ∀ b12, H11 b12 = none →
    SH.wrs (SH.upd H11 b12 ⟨[.int .i64 0, .int .i64 0, .int .i64 0, .int .i64 0], 62, false, 4⟩) (b12, 0) 4 ∧
    ∃ (x15 : Int),
    SH.has (SH.setl (SH.upd H11 b12 ⟨[.int .i64 0, .int .i64 0, .int .i64 0, .int .i64 0], 62, false, 4⟩) (b12, 0) [.int .i64 x7, .int .i64 x8, .int .i64 x9, .int .i64 x10]) (b12, 2) (.int .i64 x15) ∧
    (x15 ≠ 0 →
      ∃ (x18 : Int),
      SH.has (SH.setl (SH.upd H11 b12 ⟨[.int .i64 0, .int .i64 0, .int .i64 0, .int .i64 0], 62, false, 4⟩) (b12, 0) [.int .i64 x7, .int .i64 x8, .int .i64 x9, .int .i64 x10]) (b12, 2) (.int .i64 x18) ∧
      ∃ (x20 : Int),
      SH.has (SH.setl (SH.upd H11 b12 ⟨[.int .i64 0, .int .i64 0, .int .i64 0, .int .i64 0], 62, false, 4⟩) (b12, 0) [.int .i64 x7, .int .i64 x8, .int .i64 x9, .int .i64 x10]) (b12, 3) (.int .i64 x20) ∧
      SH.wrs (SH.setl (SH.upd H11 b12 ⟨[.int .i64 0, .int .i64 0, .int .i64 0, .int .i64 0], 62, false, 4⟩) (b12, 0) [.int .i64 x7, .int .i64 x8, .int .i64 x9, .int .i64 x10]) (b5, 0) 4 ∧
      ∃ (l23 : Sl) (x24 : Int) (x25 : Int) (x26 : Int),
      SH.row (SH.setl (SH.setl (SH.upd H11 b12 ⟨[.int .i64 0, .int .i64 0, .int .i64 0, .int .i64 0], 62, false, 4⟩) (b12, 0) [.int .i64 x7, .int .i64 x8, .int .i64 x9, .int .i64 x10]) (b5, 0) [sv Sl.nil, .int .i64 x2, .int .i64 x18, .int .i64 x20]) (some (b5, 0)) [sv l23, .int .i64 x24, .int .i64 x25, .int .i64 x26] ∧
      ∃ Hr, SH.le Hr (SH.setl (SH.setl (SH.upd H11 b12 ⟨[.int .i64 0, .int .i64 0, .int .i64 0, .int .i64 0], 62, false, 4⟩) (b12, 0) [.int .i64 x7, .int .i64 x8, .int .i64 x9, .int .i64 x10]) (b5, 0) [sv Sl.nil, .int .i64 x2, .int .i64 x18, .int .i64 x20]) ∧ K l23 x24 x25 x26 Hr
    ) ∧ (¬ (x15 ≠ 0) →
      ∀ b28, (SH.setl (SH.upd H11 b12 ⟨[.int .i64 0, .int .i64 0, .int .i64 0, .int .i64 0], 62, false, 4⟩) (b12, 0) [.int .i64 x7, .int .i64 x8, .int .i64 x9, .int .i64 x10]) b28 = none →
      ∃ (x30 : Int),
      SH.has (SH.upd (SH.setl (SH.upd H11 b12 ⟨[.int .i64 0, .int .i64 0, .int .i64 0, .int .i64 0], 62, false, 4⟩) (b12, 0) [.int .i64 x7, .int .i64 x8, .int .i64 x9, .int .i64 x10]) b28 ⟨[], 3, false, 0⟩) (b12, 1) (.int .i64 x30) ∧
      ladingref06_Get.l1 F K F s1 x2 x3 b5 b12 (⟨some (b28, 0), 0, 0⟩ : Sl) x4 x30 0 (SH.upd (SH.setl (SH.upd H11 b12 ⟨[.int .i64 0, .int .i64 0, .int .i64 0, .int .i64 0], 62, false, 4⟩) (b12, 0) [.int .i64 x7, .int .i64 x8, .int .i64 x9, .int .i64 x10]) b28 ⟨[], 3, false, 0⟩)
    )
  )
set_option maxHeartbeats 8000000 in
theorem ladingref06_Get.sound (F : Nat) (s1 : ByteArray) (x2 : Int) (x3 : Int) (x4 : Int) (H : SH) (K : Sl → Int → Int → Int → SH → Prop) (h : ladingref06_Get.wp F s1 x2 x3 x4 H K) : SCalls Tryd.prog 37 #[.string s1, .int .i64 x2, .int .i64 x3, .int .i64 x4] H (fun v H' => ∃ (l123 : Sl) (x124 : Int) (x125 : Int) (x126 : Int), v = .agg #[sv l123, .int .i64 x124, .int .i64 x125, .int .i64 x126] ∧ K l123 x124 x125 x126 H') := by
  unfold ladingref06_Get.wp at h
  refine SCalls.body Tryd.func37 rfl (Nat.le_of_ble_eq_true rfl) ?_
  refine SW.seq ?_
  refine SW.region ?_
  refine SOps.alloc rfl rfl (wantN rfl) (z := .agg #[sv Sl.nil, .int .i64 0, .int .i64 0, .int .i64 0]) (by kernel_rfl) (fun b5 c6 => ?_)
  replace h := h b5 c6
  refine SOps.nil ?_
  refine SW.seq ?_
  refine SW.region ?_
  refine SOps.val (v := .string s1) rfl (wantN rfl) (fun _ => by kernel_rfl) ?_
  refine SOps.val (v := .int .i64 x2) rfl (wantN rfl) (fun _ => by kernel_rfl) ?_
  refine SOps.val (v := .int .i64 x3) rfl (wantN rfl) (fun _ => by kernel_rfl) ?_
  refine SOps.enter rfl (wantN rfl) (fun _ => by kernel_rfl) (ladingref06_Count.sound F s1 x2 x3 (SH.upd H b5 ⟨[sv Sl.nil, .int .i64 0, .int .i64 0, .int .i64 0], 65, false, 4⟩) _ h) ?_
  clear h
  rintro v H11 ⟨x7, x8, x9, x10, rfl, h⟩
  refine SOps.alloc rfl rfl (wantN rfl) (z := .agg #[.int .i64 0, .int .i64 0, .int .i64 0, .int .i64 0]) (by kernel_rfl) (fun b12 c13 => ?_)
  replace h := h b12 c13
  obtain ⟨c14, h⟩ := h
  refine SOps.storeL (p := (b12, 0)) (v := .agg #[.int .i64 x7, .int .i64 x8, .int .i64 x9, .int .i64 x10]) (cs := [.int .i64 x7, .int .i64 x8, .int .i64 x9, .int .i64 x10]) rfl rfl (wantN rfl) (size := 4) (by kernel_rfl) rfl rfl rfl rfl (by simp [Value.oneCell', errV_one, pv, sv]) c14 ?_
  refine SOps.nil ?_
  refine SW.seq ?_
  refine SW.seq ?_
  refine SW.region ?_
  refine SOps.val (v := pv (some (b12, 2))) rfl (wantN rfl) (fun _ => by kernel_rfl) ?_
  obtain ⟨x15, c16, h⟩ := h
  refine SOps.rd (v := .int .i64 x15) rfl (wantN rfl) (fun w hw => ev_load1 rfl (fun _ => by kernel_rfl) (p := (b12, 2)) rfl c16 w hw) ?_
  refine SOps.val (v := .bool (x15 != 0)) rfl (wantN rfl) (fun _ => by kernel_rfl) ?_
  refine SOps.nil ?_
  by_cases c17 : x15 ≠ 0
  · replace h := h.1 c17
    have dc17 : (x15 != 0) = true := (bne_iff_ne.mpr c17)
    refine SW.cond_t (t := (x15 != 0)) rfl dc17 ?_
    refine SW.seq ?_
    refine SW.region ?_
    refine SOps.val (v := .int .i64 x2) rfl (wantN rfl) (fun _ => by kernel_rfl) ?_
    refine SOps.val (v := pv (some (b12, 2))) rfl (wantN rfl) (fun _ => by kernel_rfl) ?_
    obtain ⟨x18, c19, h⟩ := h
    refine SOps.rd (v := .int .i64 x18) rfl (wantN rfl) (fun w hw => ev_load1 rfl (fun _ => by kernel_rfl) (p := (b12, 2)) rfl c19 w hw) ?_
    refine SOps.val (v := pv (some (b12, 3))) rfl (wantN rfl) (fun _ => by kernel_rfl) ?_
    obtain ⟨x20, c21, h⟩ := h
    refine SOps.rd (v := .int .i64 x20) rfl (wantN rfl) (fun w hw => ev_load1 rfl (fun _ => by kernel_rfl) (p := (b12, 3)) rfl c21 w hw) ?_
    refine SOps.val (v := .agg #[sv Sl.nil, .int .i64 x2, .int .i64 x18, .int .i64 x20]) rfl (wantN rfl) (fun _ => by kernel_rfl) ?_
    obtain ⟨c22, h⟩ := h
    refine SOps.storeL (p := (b5, 0)) (v := .agg #[sv Sl.nil, .int .i64 x2, .int .i64 x18, .int .i64 x20]) (cs := [sv Sl.nil, .int .i64 x2, .int .i64 x18, .int .i64 x20]) rfl rfl (wantN rfl) (size := 4) (by kernel_rfl) rfl rfl rfl rfl (by simp [Value.oneCell', errV_one, pv, sv]) c22 ?_
    refine SOps.nil ?_
    obtain ⟨l23, x24, x25, x26, c27, Hr, hr, h⟩ := h
    exact SW.ret (retQ.mkM (.agg #[sv l23, .int .i64 x24, .int .i64 x25, .int .i64 x26]) (resCN (size := 4) (p := (b5, 0)) (T := 65) rfl rfl (fun _ => by kernel_rfl) (by kernel_rfl) rfl c27) hr ⟨l23, x24, x25, x26, rfl, h⟩)
  · replace h := h.2 c17
    have dc17 : (x15 != 0) = false := (by simpa using c17)
    refine SW.cond_f (t := (x15 != 0)) rfl dc17 ?_
    refine SW.skip ?_
    refine SW.seq ?_
    refine SW.region ?_
    refine SOps.lit (E := 3) (cs := #[]) rfl rfl (wantN rfl) (fun _ => by kernel_rfl) (fun b28 c29 => ?_)
    replace h := h b28 c29
    refine SOps.val (v := sv (⟨some (b28, 0), 0, 0⟩ : Sl)) rfl (wantN rfl) (fun _ => by kernel_rfl) ?_
    refine SOps.nil ?_
    refine SW.seq ?_
    refine SW.draw (by kernel_rfl) (by kernel_rfl) ?_
    refine SQ.val (v := .int .i64 x4) rfl (wantN rfl) (fun _ => by kernel_rfl) ?_
    refine SQ.val (v := pv (some (b12, 1))) rfl (wantN rfl) (fun _ => by kernel_rfl) ?_
    obtain ⟨x30, c31, h⟩ := h
    refine SQ.rd (v := .int .i64 x30) rfl (wantN rfl) (fun w hw => ev_load1 rfl (fun _ => by kernel_rfl) (p := (b12, 1)) rfl c31 w hw) ?_
    refine SQ.val (v := .int .i64 x4) rfl (wantN rfl) (fun _ => by kernel_rfl) ?_
    refine SQ.val (v := .int .i64 x30) rfl (wantN rfl) (fun _ => by kernel_rfl) ?_
    refine SQ.nil ?_
    refine SW.seq ?_
    refine SW.seq ?_
    refine SW.region ?_
    refine SOps.val (v := .int .i64 0) rfl (wantN rfl) (fun _ => by kernel_rfl) ?_
    refine SOps.nil ?_
    refine SW.block ?_
    refine SW.loop (fun k1 fr H => ∃ (g : Fr) (s32 : ByteArray) (x33 : Int) (x34 : Int) (b35 : Nat) (b36 : Nat) (l37 : Sl) (x38 : Int) (x39 : Int) (x40 : Int), fr = g.upds [(0, (.string s32 : Value)), (1, (.int .i64 x33 : Value)), (2, (.int .i64 x34 : Value)), (8, pv (some (b35, 0))), (9, pv (some (b36, 0))), (10, sv l37), (11, (.int .i64 x38 : Value)), (12, (.int .i64 x39 : Value)), (13, (.int .i64 x40 : Value))] ∧ ladingref06_Get.l1 F K k1 s32 x33 x34 b35 b36 l37 x38 x39 x40 H) F ⟨_, s1, x2, x3, b5, b12, (⟨some (b28, 0), 0, 0⟩ : Sl), x4, x30, 0, (Fr.upds_self _ _ ⟨rfl, rfl, rfl, rfl, rfl, rfl, rfl, rfl, rfl, trivial⟩), h⟩ ?_
    clear h
    rintro k1 fr H ⟨g, s32, x33, x34, b35, b36, l37, x38, x39, x40, rfl, h⟩
    cases k1 with
    | zero => exact h.elim
    | succ k1 =>
      replace h : ladingref06_Get.r1 F K (ladingref06_Get.l1 F K k1) s32 x33 x34 b35 b36 l37 x38 x39 x40 H := h
      unfold ladingref06_Get.r1 at h
      refine SW.seq ?_
      refine SW.seq ?_
      refine SW.region ?_
      refine SOps.val (v := .int .i64 x40) rfl (wantN rfl) (fun _ => by kernel_rfl) ?_
      refine SOps.val (v := pv (some (b36, 0))) rfl (wantN rfl) (fun _ => by kernel_rfl) ?_
      obtain ⟨x41, c42, h⟩ := h
      refine SOps.rd (v := .int .i64 x41) rfl (wantN rfl) (fun w hw => ev_load1 rfl (fun _ => by kernel_rfl) (p := (b36, 0)) rfl c42 w hw) ?_
      refine SOps.val (v := .bool (decide (x40 < x41))) rfl (wantN rfl) (fun _ => by kernel_rfl) ?_
      refine SOps.nil ?_
      by_cases c43 : x40 < x41
      · replace h := h.1 c43
        have dc43 : (decide (x40 < x41)) = true := (decide_eq_true c43)
        refine SW.cond_t (t := decide (x40 < x41)) rfl dc43 ?_
        refine SW.skip ?_
        refine SW.seq ?_
        refine SW.block ?_
        refine SW.seq ?_
        refine SW.region ?_
        refine SOps.val (v := .string s32) rfl (wantN rfl) (fun _ => by kernel_rfl) ?_
        refine SOps.val (v := .int .i64 x39) rfl (wantN rfl) (fun _ => by kernel_rfl) ?_
        refine SOps.enter rfl (wantN rfl) (fun _ => by kernel_rfl) (ladingref01_ReadShort.sound F s32 x39 H _ h) ?_
        clear h
        rintro v H48 ⟨x44, x45, x46, x47, rfl, h⟩
        refine SOps.alloc rfl rfl (wantN rfl) (z := .agg #[.int .i64 0, .int .i64 0, .int .i64 0, .int .i64 0]) (by kernel_rfl) (fun b49 c50 => ?_)
        replace h := h b49 c50
        obtain ⟨c51, h⟩ := h
        refine SOps.storeL (p := (b49, 0)) (v := .agg #[.int .i64 x44, .int .i64 x45, .int .i64 x46, .int .i64 x47]) (cs := [.int .i64 x44, .int .i64 x45, .int .i64 x46, .int .i64 x47]) rfl rfl (wantN rfl) (size := 4) (by kernel_rfl) rfl rfl rfl rfl (by simp [Value.oneCell', errV_one, pv, sv]) c51 ?_
        refine SOps.nil ?_
        refine SW.seq ?_
        refine SW.seq ?_
        refine SW.region ?_
        refine SOps.val (v := pv (some (b49, 2))) rfl (wantN rfl) (fun _ => by kernel_rfl) ?_
        obtain ⟨x52, c53, h⟩ := h
        refine SOps.rd (v := .int .i64 x52) rfl (wantN rfl) (fun w hw => ev_load1 rfl (fun _ => by kernel_rfl) (p := (b49, 2)) rfl c53 w hw) ?_
        refine SOps.val (v := .bool (x52 != 0)) rfl (wantN rfl) (fun _ => by kernel_rfl) ?_
        refine SOps.nil ?_
        by_cases c54 : x52 ≠ 0
        · replace h := h.1 c54
          have dc54 : (x52 != 0) = true := (bne_iff_ne.mpr c54)
          refine SW.cond_t (t := (x52 != 0)) rfl dc54 ?_
          refine SW.seq ?_
          refine SW.region ?_
          refine SOps.val (v := .int .i64 x33) rfl (wantN rfl) (fun _ => by kernel_rfl) ?_
          refine SOps.val (v := pv (some (b49, 2))) rfl (wantN rfl) (fun _ => by kernel_rfl) ?_
          obtain ⟨x55, c56, h⟩ := h
          refine SOps.rd (v := .int .i64 x55) rfl (wantN rfl) (fun w hw => ev_load1 rfl (fun _ => by kernel_rfl) (p := (b49, 2)) rfl c56 w hw) ?_
          refine SOps.val (v := pv (some (b49, 3))) rfl (wantN rfl) (fun _ => by kernel_rfl) ?_
          obtain ⟨x57, c58, h⟩ := h
          refine SOps.rd (v := .int .i64 x57) rfl (wantN rfl) (fun w hw => ev_load1 rfl (fun _ => by kernel_rfl) (p := (b49, 3)) rfl c58 w hw) ?_
          refine SOps.val (v := .agg #[sv Sl.nil, .int .i64 x33, .int .i64 x55, .int .i64 x57]) rfl (wantN rfl) (fun _ => by kernel_rfl) ?_
          obtain ⟨c59, h⟩ := h
          refine SOps.storeL (p := (b35, 0)) (v := .agg #[sv Sl.nil, .int .i64 x33, .int .i64 x55, .int .i64 x57]) (cs := [sv Sl.nil, .int .i64 x33, .int .i64 x55, .int .i64 x57]) rfl rfl (wantN rfl) (size := 4) (by kernel_rfl) rfl rfl rfl rfl (by simp [Value.oneCell', errV_one, pv, sv]) c59 ?_
          refine SOps.nil ?_
          obtain ⟨l60, x61, x62, x63, c64, Hr, hr, h⟩ := h
          exact SW.ret (retQ.mkM (.agg #[sv l60, .int .i64 x61, .int .i64 x62, .int .i64 x63]) (resCN (size := 4) (p := (b35, 0)) (T := 65) rfl rfl (fun _ => by kernel_rfl) (by kernel_rfl) rfl c64) hr ⟨l60, x61, x62, x63, rfl, h⟩)
        · replace h := h.2 c54
          have dc54 : (x52 != 0) = false := (by simpa using c54)
          refine SW.cond_f (t := (x52 != 0)) rfl dc54 ?_
          refine SW.skip ?_
          refine SW.seqJ (fun fr H => ∃ (g : Fr) (s70 : ByteArray) (x71 : Int) (x72 : Int) (b73 : Nat) (b74 : Nat) (l75 : Sl) (x76 : Int) (x77 : Int) (x78 : Int) (b79 : Nat), fr = g.upds [(0, (.string s70 : Value)), (1, (.int .i64 x71 : Value)), (2, (.int .i64 x72 : Value)), (8, pv (some (b73, 0))), (9, pv (some (b74, 0))), (10, sv l75), (11, (.int .i64 x76 : Value)), (12, (.int .i64 x77 : Value)), (13, (.int .i64 x78 : Value)), (14, pv (some (b79, 0)))] ∧ ladingref06_Get.j1 F K (ladingref06_Get.l1 F K k1) s70 x71 x72 b73 b74 l75 x76 x77 x78 b79 H) ?_ ?_
          · clear h
            rintro fr H ⟨g, s70, x71, x72, b73, b74, l75, x76, x77, x78, b79, rfl, h⟩
            unfold ladingref06_Get.j1 at h
            refine SW.seq ?_
            refine SW.seq ?_
            refine SW.region ?_
            refine SOps.val (v := .int .i64 x76) rfl (wantN rfl) (fun _ => by kernel_rfl) ?_
            refine SOps.val (v := .bool (decide (x76 < 0))) rfl (wantN rfl) (fun _ => by kernel_rfl) ?_
            refine SOps.val (v := .bool (decide (x76 < 0))) rfl (wantN rfl) (fun _ => by kernel_rfl) ?_
            by_cases c82 : x76 < 0
            · replace h := h.1 c82
              have dc82 : (decide (x76 < 0)) = true := (decide_eq_true c82)
              refine SOps.off rfl (wantX (c := decide (x76 < 0)) rfl rfl rfl dc82) ?_
              refine SOps.off rfl (wantX (c := decide (x76 < 0)) rfl rfl rfl dc82) ?_
              refine SOps.off rfl (wantX (c := decide (x76 < 0)) rfl rfl rfl dc82) ?_
              refine SOps.val (v := .bool true) rfl (wantN rfl) (fun w => ev_pickT (v := .bool true) rfl (t := decide (x76 < 0)) rfl dc82 rfl w) ?_
              refine SOps.nil ?_
              refine SW.cond_t (t := true) rfl rfl ?_
              refine SW.seq ?_
              refine SW.region ?_
              refine SOps.val (v := .int .i64 x71) rfl (wantN rfl) (fun _ => by kernel_rfl) ?_
              refine SOps.val (v := .int .i64 x77) rfl (wantN rfl) (fun _ => by kernel_rfl) ?_
              refine SOps.val (v := .agg #[sv Sl.nil, .int .i64 x71, .int .i64 4, .int .i64 x77]) rfl (wantN rfl) (fun _ => by kernel_rfl) ?_
              obtain ⟨c83, h⟩ := h
              refine SOps.storeL (p := (b73, 0)) (v := .agg #[sv Sl.nil, .int .i64 x71, .int .i64 4, .int .i64 x77]) (cs := [sv Sl.nil, .int .i64 x71, .int .i64 4, .int .i64 x77]) rfl rfl (wantN rfl) (size := 4) (by kernel_rfl) rfl rfl rfl rfl (by simp [Value.oneCell', errV_one, pv, sv]) c83 ?_
              refine SOps.nil ?_
              obtain ⟨l84, x85, x86, x87, c88, Hr, hr, h⟩ := h
              exact SW.ret (retQ.mkM (.agg #[sv l84, .int .i64 x85, .int .i64 x86, .int .i64 x87]) (resCN (size := 4) (p := (b73, 0)) (T := 65) rfl rfl (fun _ => by kernel_rfl) (by kernel_rfl) rfl c88) hr ⟨l84, x85, x86, x87, rfl, h⟩)
            · replace h := h.2 c82
              have dc82 : (decide (x76 < 0)) = false := (decide_eq_false c82)
              refine SOps.val (v := .int .i64 x76) rfl (wantY (c := decide (x76 < 0)) rfl rfl rfl dc82) (fun _ => by kernel_rfl) ?_
              refine SOps.val (v := .int .i64 x72) rfl (wantY (c := decide (x76 < 0)) rfl rfl rfl dc82) (fun _ => by kernel_rfl) ?_
              refine SOps.val (v := .bool (decide (x76 ≥ x72))) rfl (wantY (c := decide (x76 < 0)) rfl rfl rfl dc82) (fun _ => by kernel_rfl) ?_
              refine SOps.val (v := .bool (decide (x76 ≥ x72))) rfl (wantN rfl) (fun w => ev_pickF (v := .bool (decide (x76 ≥ x72))) rfl (t := decide (x76 < 0)) rfl dc82 rfl w) ?_
              refine SOps.nil ?_
              by_cases c89 : x76 ≥ x72
              · replace h := h.1 c89
                have dc89 : (decide (x76 ≥ x72)) = true := (decide_eq_true c89)
                refine SW.cond_t (t := decide (x76 ≥ x72)) rfl dc89 ?_
                refine SW.seq ?_
                refine SW.region ?_
                refine SOps.val (v := .int .i64 x71) rfl (wantN rfl) (fun _ => by kernel_rfl) ?_
                refine SOps.val (v := .int .i64 x77) rfl (wantN rfl) (fun _ => by kernel_rfl) ?_
                refine SOps.val (v := .agg #[sv Sl.nil, .int .i64 x71, .int .i64 4, .int .i64 x77]) rfl (wantN rfl) (fun _ => by kernel_rfl) ?_
                obtain ⟨c90, h⟩ := h
                refine SOps.storeL (p := (b73, 0)) (v := .agg #[sv Sl.nil, .int .i64 x71, .int .i64 4, .int .i64 x77]) (cs := [sv Sl.nil, .int .i64 x71, .int .i64 4, .int .i64 x77]) rfl rfl (wantN rfl) (size := 4) (by kernel_rfl) rfl rfl rfl rfl (by simp [Value.oneCell', errV_one, pv, sv]) c90 ?_
                refine SOps.nil ?_
                obtain ⟨l91, x92, x93, x94, c95, Hr, hr, h⟩ := h
                exact SW.ret (retQ.mkM (.agg #[sv l91, .int .i64 x92, .int .i64 x93, .int .i64 x94]) (resCN (size := 4) (p := (b73, 0)) (T := 65) rfl rfl (fun _ => by kernel_rfl) (by kernel_rfl) rfl c95) hr ⟨l91, x92, x93, x94, rfl, h⟩)
              · replace h := h.2 c89
                have dc89 : (decide (x76 ≥ x72)) = false := (decide_eq_false c89)
                refine SW.cond_f (t := decide (x76 ≥ x72)) rfl dc89 ?_
                refine SW.skip ?_
                refine SW.seq ?_
                refine SW.region ?_
                refine SOps.val (v := sv l75) rfl (wantN rfl) (fun _ => by kernel_rfl) ?_
                refine SOps.val (v := .int .i64 x76) rfl (wantN rfl) (fun _ => by kernel_rfl) ?_
                refine SOps.litAppend (E := 3) (z := .int .i64 0) (size := 1) (bytes := 8) (cs := #[.int .i64 x76]) rfl rfl (wantN rfl) (fun _ => by kernel_rfl) rfl rfl (fun _ => wantN rfl) Tryd.underlying56 Tryd.underlying56 (by kernel_rfl) rfl rfl (fun _ => rfl) (AppendQ.mono h ?_)
                clear h
                intro l96 H97 h b98
                refine SOps.val (v := sv l96) rfl (wantN rfl) (fun _ => by kernel_rfl) ?_
                refine SOps.nil ?_
                refine SW.region ?_
                refine SOps.val (v := pv (some (b79, 1))) rfl (wantN rfl) (fun _ => by kernel_rfl) ?_
                obtain ⟨x99, c100, h⟩ := h
                refine SOps.rd (v := .int .i64 x99) rfl (wantN rfl) (fun w hw => ev_load1 rfl (fun _ => by kernel_rfl) (p := (b79, 1)) rfl c100 w hw) ?_
                refine SOps.val (v := .int .i64 x99) rfl (wantN rfl) (fun _ => by kernel_rfl) ?_
                refine SOps.nil ?_
                refine SW.region ?_
                refine SOps.val (v := .int .i64 x78) rfl (wantN rfl) (fun _ => by kernel_rfl) ?_
                refine SOps.val (v := .int .i64 (w64 (x78 + 1))) rfl (wantN rfl) (fun _ => by kernel_rfl) ?_
                refine SOps.val (v := .int .i64 (w64 (x78 + 1))) rfl (wantN rfl) (fun _ => by kernel_rfl) ?_
                refine SOps.nil ?_
                exact ⟨k1, Nat.lt_succ_self k1, _, s70, x71, x72, b73, b74, l96, x76, x99, w64 (x78 + 1), (Fr.upds_self _ _ ⟨rfl, rfl, rfl, rfl, rfl, rfl, rfl, rfl, rfl, trivial⟩), h⟩
          · skip
            refine SW.seq ?_
            refine SW.region ?_
            refine SOps.val (v := .int .i64 x40) rfl (wantN rfl) (fun _ => by kernel_rfl) ?_
            refine SOps.val (v := .bool (x40 == 0)) rfl (wantN rfl) (fun _ => by kernel_rfl) ?_
            refine SOps.nil ?_
            by_cases c65 : x40 = 0
            · replace h := h.1 c65
              have dc65 : (x40 == 0) = true := (beq_iff_eq.mpr c65)
              refine SW.cond_t (t := (x40 == 0)) rfl dc65 ?_
              refine SW.region ?_
              refine SOps.val (v := .int .i64 x38) rfl (wantN rfl) (fun _ => by kernel_rfl) ?_
              refine SOps.val (v := pv (some (b49, 0))) rfl (wantN rfl) (fun _ => by kernel_rfl) ?_
              obtain ⟨x66, c67, h⟩ := h
              refine SOps.rd (v := .int .i64 x66) rfl (wantN rfl) (fun w hw => ev_load1 rfl (fun _ => by kernel_rfl) (p := (b49, 0)) rfl c67 w hw) ?_
              refine SOps.enter rfl (wantN rfl) (fun _ => by kernel_rfl) (ladingref01_Back.sound F x66 (SH.setl (SH.upd H48 b49 ⟨[.int .i64 0, .int .i64 0, .int .i64 0, .int .i64 0], 62, false, 4⟩) (b49, 0) [.int .i64 x44, .int .i64 x45, .int .i64 x46, .int .i64 x47]) _ h) ?_
              clear h
              rintro v H69 ⟨x68, rfl, h⟩
              refine SOps.val (v := .int .i64 (w64 (x38 + x68))) rfl (wantN rfl) (fun _ => by kernel_rfl) ?_
              refine SOps.val (v := .int .i64 (w64 (x38 + x68))) rfl (wantN rfl) (fun _ => by kernel_rfl) ?_
              refine SOps.nil ?_
              exact ⟨_, s32, x33, x34, b35, b36, l37, w64 (x38 + x68), x39, x40, b49, Fr.upds_self _ _ ⟨rfl, rfl, rfl, rfl, rfl, rfl, rfl, rfl, rfl, rfl, trivial⟩, h⟩
            · replace h := h.2 c65
              have dc65 : (x40 == 0) = false := (beq_eq_false_iff_ne.mpr c65)
              refine SW.cond_f (t := (x40 == 0)) rfl dc65 ?_
              refine SW.region ?_
              refine SOps.val (v := .int .i64 x38) rfl (wantN rfl) (fun _ => by kernel_rfl) ?_
              refine SOps.val (v := pv (some (b49, 0))) rfl (wantN rfl) (fun _ => by kernel_rfl) ?_
              obtain ⟨x80, c81, h⟩ := h
              refine SOps.rd (v := .int .i64 x80) rfl (wantN rfl) (fun w hw => ev_load1 rfl (fun _ => by kernel_rfl) (p := (b49, 0)) rfl c81 w hw) ?_
              refine SOps.val (v := .int .i64 (w64 (x38 + x80))) rfl (wantN rfl) (fun _ => by kernel_rfl) ?_
              refine SOps.val (v := .int .i64 (w64 ((w64 (x38 + x80)) + 1))) rfl (wantN rfl) (fun _ => by kernel_rfl) ?_
              refine SOps.val (v := .int .i64 (w64 ((w64 (x38 + x80)) + 1))) rfl (wantN rfl) (fun _ => by kernel_rfl) ?_
              refine SOps.nil ?_
              exact ⟨_, s32, x33, x34, b35, b36, l37, w64 ((w64 (x38 + x80)) + 1), x39, x40, b49, Fr.upds_self _ _ ⟨rfl, rfl, rfl, rfl, rfl, rfl, rfl, rfl, rfl, rfl, trivial⟩, h⟩
      · replace h := h.2 c43
        have dc43 : (decide (x40 < x41)) = false := (decide_eq_false c43)
        refine SW.cond_f (t := decide (x40 < x41)) rfl dc43 ?_
        refine SW.exit ?_
        refine SW.seq ?_
        refine SW.region ?_
        refine SOps.val (v := sv l37) rfl (wantN rfl) (fun _ => by kernel_rfl) ?_
        refine SOps.val (v := .int .i64 x39) rfl (wantN rfl) (fun _ => by kernel_rfl) ?_
        refine SOps.val (v := .agg #[sv l37, .int .i64 x39, .int .i64 0, .int .i64 0]) rfl (wantN rfl) (fun _ => by kernel_rfl) ?_
        obtain ⟨c105, h⟩ := h
        refine SOps.storeL (p := (b35, 0)) (v := .agg #[sv l37, .int .i64 x39, .int .i64 0, .int .i64 0]) (cs := [sv l37, .int .i64 x39, .int .i64 0, .int .i64 0]) rfl rfl (wantN rfl) (size := 4) (by kernel_rfl) rfl rfl rfl rfl (by simp [Value.oneCell', errV_one, pv, sv]) c105 ?_
        refine SOps.nil ?_
        obtain ⟨l106, x107, x108, x109, c110, Hr, hr, h⟩ := h
        exact SW.ret (retQ.mkM (.agg #[sv l106, .int .i64 x107, .int .i64 x108, .int .i64 x109]) (resCN (size := 4) (p := (b35, 0)) (T := 65) rfl rfl (fun _ => by kernel_rfl) (by kernel_rfl) rfl c110) hr ⟨l106, x107, x108, x109, rfl, h⟩)

/-! ### lading/ladingref06.Skip: function 36 -/
def ladingref06_Skip.r1 (F : Nat) (K : Sl → Int → Int → Int → SH → Prop) (R1 : ByteArray → Int → Nat → Nat → Int → Int → SH → Prop) (s29 : ByteArray) (x30 : Int) (b31 : Nat) (b32 : Nat) (x33 : Int) (x34 : Int) (H : SH) : Prop :=
  ∃ (x35 : Int),
  SH.has H (b32, 0) (.int .i64 x35) ∧
  (x34 < x35 →
    ladingref01_ReadShort.wp F s29 x33 H (fun x38 x39 x40 x41 H42 =>
      ∀ b43, H42 b43 = none →
      SH.wrs (SH.upd H42 b43 ⟨[.int .i64 0, .int .i64 0, .int .i64 0, .int .i64 0], 62, false, 4⟩) (b43, 0) 4 ∧
      ∃ (x46 : Int),
      SH.has (SH.setl (SH.upd H42 b43 ⟨[.int .i64 0, .int .i64 0, .int .i64 0, .int .i64 0], 62, false, 4⟩) (b43, 0) [.int .i64 x38, .int .i64 x39, .int .i64 x40, .int .i64 x41]) (b43, 2) (.int .i64 x46) ∧
      (x46 ≠ 0 →
        ∃ (x49 : Int),
        SH.has (SH.setl (SH.upd H42 b43 ⟨[.int .i64 0, .int .i64 0, .int .i64 0, .int .i64 0], 62, false, 4⟩) (b43, 0) [.int .i64 x38, .int .i64 x39, .int .i64 x40, .int .i64 x41]) (b43, 2) (.int .i64 x49) ∧
        ∃ (x51 : Int),
        SH.has (SH.setl (SH.upd H42 b43 ⟨[.int .i64 0, .int .i64 0, .int .i64 0, .int .i64 0], 62, false, 4⟩) (b43, 0) [.int .i64 x38, .int .i64 x39, .int .i64 x40, .int .i64 x41]) (b43, 3) (.int .i64 x51) ∧
        SH.wrs (SH.setl (SH.upd H42 b43 ⟨[.int .i64 0, .int .i64 0, .int .i64 0, .int .i64 0], 62, false, 4⟩) (b43, 0) [.int .i64 x38, .int .i64 x39, .int .i64 x40, .int .i64 x41]) (b31, 0) 4 ∧
        ∃ (l54 : Sl) (x55 : Int) (x56 : Int) (x57 : Int),
        SH.row (SH.setl (SH.setl (SH.upd H42 b43 ⟨[.int .i64 0, .int .i64 0, .int .i64 0, .int .i64 0], 62, false, 4⟩) (b43, 0) [.int .i64 x38, .int .i64 x39, .int .i64 x40, .int .i64 x41]) (b31, 0) [sv Sl.nil, .int .i64 x30, .int .i64 x49, .int .i64 x51]) (some (b31, 0)) [sv l54, .int .i64 x55, .int .i64 x56, .int .i64 x57] ∧
        ∃ Hr, SH.le Hr (SH.setl (SH.setl (SH.upd H42 b43 ⟨[.int .i64 0, .int .i64 0, .int .i64 0, .int .i64 0], 62, false, 4⟩) (b43, 0) [.int .i64 x38, .int .i64 x39, .int .i64 x40, .int .i64 x41]) (b31, 0) [sv Sl.nil, .int .i64 x30, .int .i64 x49, .int .i64 x51]) ∧ K l54 x55 x56 x57 Hr
      ) ∧ (¬ (x46 ≠ 0) →
        ∃ (x59 : Int),
        SH.has (SH.setl (SH.upd H42 b43 ⟨[.int .i64 0, .int .i64 0, .int .i64 0, .int .i64 0], 62, false, 4⟩) (b43, 0) [.int .i64 x38, .int .i64 x39, .int .i64 x40, .int .i64 x41]) (b43, 1) (.int .i64 x59) ∧
        R1 s29 x30 b31 b32 x59 (w64 (x34 + 1)) (SH.setl (SH.upd H42 b43 ⟨[.int .i64 0, .int .i64 0, .int .i64 0, .int .i64 0], 62, false, 4⟩) (b43, 0) [.int .i64 x38, .int .i64 x39, .int .i64 x40, .int .i64 x41])
      )
    )
  ) ∧ (¬ (x34 < x35) →
    SH.wrs H (b31, 0) 4 ∧
    ∃ (l62 : Sl) (x63 : Int) (x64 : Int) (x65 : Int),
    SH.row (SH.setl H (b31, 0) [sv Sl.nil, .int .i64 x33, .int .i64 0, .int .i64 0]) (some (b31, 0)) [sv l62, .int .i64 x63, .int .i64 x64, .int .i64 x65] ∧
    ∃ Hr, SH.le Hr (SH.setl H (b31, 0) [sv Sl.nil, .int .i64 x33, .int .i64 0, .int .i64 0]) ∧ K l62 x63 x64 x65 Hr
  )
def ladingref06_Skip.l1 (F : Nat) (K : Sl → Int → Int → Int → SH → Prop) : Nat → ByteArray → Int → Nat → Nat → Int → Int → SH → Prop
  | 0, _, _, _, _, _, _, _ => False
  | k + 1, s29, x30, b31, b32, x33, x34, H => ladingref06_Skip.r1 F K (ladingref06_Skip.l1 F K k) s29 x30 b31 b32 x33 x34 H
def ladingref06_Skip.wp (F : Nat) (s1 : ByteArray) (x2 : Int) (x3 : Int) (H : SH) (K : Sl → Int → Int → Int → SH → Prop) : Prop :=
  ∀ b4, H b4 = none →
  ladingref06_Count.wp F s1 x2 x3 (SH.upd H b4 ⟨[sv Sl.nil, .int .i64 0, .int .i64 0, .int .i64 0], 65, false, 4⟩) (fun x6 x7 x8 x9 H10 =>
    ∀ b11, H10 b11 = none →
    SH.wrs (SH.upd H10 b11 ⟨[.int .i64 0, .int .i64 0, .int .i64 0, .int .i64 0], 62, false, 4⟩) (b11, 0) 4 ∧
    ∃ (x14 : Int),
    SH.has (SH.setl (SH.upd H10 b11 ⟨[.int .i64 0, .int .i64 0, .int .i64 0, .int .i64 0], 62, false, 4⟩) (b11, 0) [.int .i64 x6, .int .i64 x7, .int .i64 x8, .int .i64 x9]) (b11, 2) (.int .i64 x14) ∧
    (x14 ≠ 0 →
      ∃ (x17 : Int),
      SH.has (SH.setl (SH.upd H10 b11 ⟨[.int .i64 0, .int .i64 0, .int .i64 0, .int .i64 0], 62, false, 4⟩) (b11, 0) [.int .i64 x6, .int .i64 x7, .int .i64 x8, .int .i64 x9]) (b11, 2) (.int .i64 x17) ∧
      ∃ (x19 : Int),
      SH.has (SH.setl (SH.upd H10 b11 ⟨[.int .i64 0, .int .i64 0, .int .i64 0, .int .i64 0], 62, false, 4⟩) (b11, 0) [.int .i64 x6, .int .i64 x7, .int .i64 x8, .int .i64 x9]) (b11, 3) (.int .i64 x19) ∧
      SH.wrs (SH.setl (SH.upd H10 b11 ⟨[.int .i64 0, .int .i64 0, .int .i64 0, .int .i64 0], 62, false, 4⟩) (b11, 0) [.int .i64 x6, .int .i64 x7, .int .i64 x8, .int .i64 x9]) (b4, 0) 4 ∧
      ∃ (l22 : Sl) (x23 : Int) (x24 : Int) (x25 : Int),
      SH.row (SH.setl (SH.setl (SH.upd H10 b11 ⟨[.int .i64 0, .int .i64 0, .int .i64 0, .int .i64 0], 62, false, 4⟩) (b11, 0) [.int .i64 x6, .int .i64 x7, .int .i64 x8, .int .i64 x9]) (b4, 0) [sv Sl.nil, .int .i64 x2, .int .i64 x17, .int .i64 x19]) (some (b4, 0)) [sv l22, .int .i64 x23, .int .i64 x24, .int .i64 x25] ∧
      ∃ Hr, SH.le Hr (SH.setl (SH.setl (SH.upd H10 b11 ⟨[.int .i64 0, .int .i64 0, .int .i64 0, .int .i64 0], 62, false, 4⟩) (b11, 0) [.int .i64 x6, .int .i64 x7, .int .i64 x8, .int .i64 x9]) (b4, 0) [sv Sl.nil, .int .i64 x2, .int .i64 x17, .int .i64 x19]) ∧ K l22 x23 x24 x25 Hr
    ) ∧ (¬ (x14 ≠ 0) →
      ∃ (x27 : Int),
      SH.has (SH.setl (SH.upd H10 b11 ⟨[.int .i64 0, .int .i64 0, .int .i64 0, .int .i64 0], 62, false, 4⟩) (b11, 0) [.int .i64 x6, .int .i64 x7, .int .i64 x8, .int .i64 x9]) (b11, 1) (.int .i64 x27) ∧
      ladingref06_Skip.l1 F K F s1 x2 b4 b11 x27 0 (SH.setl (SH.upd H10 b11 ⟨[.int .i64 0, .int .i64 0, .int .i64 0, .int .i64 0], 62, false, 4⟩) (b11, 0) [.int .i64 x6, .int .i64 x7, .int .i64 x8, .int .i64 x9])
    )
  )
set_option maxHeartbeats 8000000 in
theorem ladingref06_Skip.sound (F : Nat) (s1 : ByteArray) (x2 : Int) (x3 : Int) (H : SH) (K : Sl → Int → Int → Int → SH → Prop) (h : ladingref06_Skip.wp F s1 x2 x3 H K) : SCalls Tryd.prog 36 #[.string s1, .int .i64 x2, .int .i64 x3] H (fun v H' => ∃ (l79 : Sl) (x80 : Int) (x81 : Int) (x82 : Int), v = .agg #[sv l79, .int .i64 x80, .int .i64 x81, .int .i64 x82] ∧ K l79 x80 x81 x82 H') := by
  unfold ladingref06_Skip.wp at h
  refine SCalls.body Tryd.func36 rfl (Nat.le_of_ble_eq_true rfl) ?_
  refine SW.seq ?_
  refine SW.region ?_
  refine SOps.alloc rfl rfl (wantN rfl) (z := .agg #[sv Sl.nil, .int .i64 0, .int .i64 0, .int .i64 0]) (by kernel_rfl) (fun b4 c5 => ?_)
  replace h := h b4 c5
  refine SOps.nil ?_
  refine SW.seq ?_
  refine SW.region ?_
  refine SOps.val (v := .string s1) rfl (wantN rfl) (fun _ => by kernel_rfl) ?_
  refine SOps.val (v := .int .i64 x2) rfl (wantN rfl) (fun _ => by kernel_rfl) ?_
  refine SOps.val (v := .int .i64 x3) rfl (wantN rfl) (fun _ => by kernel_rfl) ?_
  refine SOps.enter rfl (wantN rfl) (fun _ => by kernel_rfl) (ladingref06_Count.sound F s1 x2 x3 (SH.upd H b4 ⟨[sv Sl.nil, .int .i64 0, .int .i64 0, .int .i64 0], 65, false, 4⟩) _ h) ?_
  clear h
  rintro v H10 ⟨x6, x7, x8, x9, rfl, h⟩
  refine SOps.alloc rfl rfl (wantN rfl) (z := .agg #[.int .i64 0, .int .i64 0, .int .i64 0, .int .i64 0]) (by kernel_rfl) (fun b11 c12 => ?_)
  replace h := h b11 c12
  obtain ⟨c13, h⟩ := h
  refine SOps.storeL (p := (b11, 0)) (v := .agg #[.int .i64 x6, .int .i64 x7, .int .i64 x8, .int .i64 x9]) (cs := [.int .i64 x6, .int .i64 x7, .int .i64 x8, .int .i64 x9]) rfl rfl (wantN rfl) (size := 4) (by kernel_rfl) rfl rfl rfl rfl (by simp [Value.oneCell', errV_one, pv, sv]) c13 ?_
  refine SOps.nil ?_
  refine SW.seq ?_
  refine SW.seq ?_
  refine SW.region ?_
  refine SOps.val (v := pv (some (b11, 2))) rfl (wantN rfl) (fun _ => by kernel_rfl) ?_
  obtain ⟨x14, c15, h⟩ := h
  refine SOps.rd (v := .int .i64 x14) rfl (wantN rfl) (fun w hw => ev_load1 rfl (fun _ => by kernel_rfl) (p := (b11, 2)) rfl c15 w hw) ?_
  refine SOps.val (v := .bool (x14 != 0)) rfl (wantN rfl) (fun _ => by kernel_rfl) ?_
  refine SOps.nil ?_
  by_cases c16 : x14 ≠ 0
  · replace h := h.1 c16
    have dc16 : (x14 != 0) = true := (bne_iff_ne.mpr c16)
    refine SW.cond_t (t := (x14 != 0)) rfl dc16 ?_
    refine SW.seq ?_
    refine SW.region ?_
    refine SOps.val (v := .int .i64 x2) rfl (wantN rfl) (fun _ => by kernel_rfl) ?_
    refine SOps.val (v := pv (some (b11, 2))) rfl (wantN rfl) (fun _ => by kernel_rfl) ?_
    obtain ⟨x17, c18, h⟩ := h
    refine SOps.rd (v := .int .i64 x17) rfl (wantN rfl) (fun w hw => ev_load1 rfl (fun _ => by kernel_rfl) (p := (b11, 2)) rfl c18 w hw) ?_
    refine SOps.val (v := pv (some (b11, 3))) rfl (wantN rfl) (fun _ => by kernel_rfl) ?_
    obtain ⟨x19, c20, h⟩ := h
    refine SOps.rd (v := .int .i64 x19) rfl (wantN rfl) (fun w hw => ev_load1 rfl (fun _ => by kernel_rfl) (p := (b11, 3)) rfl c20 w hw) ?_
    refine SOps.val (v := .agg #[sv Sl.nil, .int .i64 x2, .int .i64 x17, .int .i64 x19]) rfl (wantN rfl) (fun _ => by kernel_rfl) ?_
    obtain ⟨c21, h⟩ := h
    refine SOps.storeL (p := (b4, 0)) (v := .agg #[sv Sl.nil, .int .i64 x2, .int .i64 x17, .int .i64 x19]) (cs := [sv Sl.nil, .int .i64 x2, .int .i64 x17, .int .i64 x19]) rfl rfl (wantN rfl) (size := 4) (by kernel_rfl) rfl rfl rfl rfl (by simp [Value.oneCell', errV_one, pv, sv]) c21 ?_
    refine SOps.nil ?_
    obtain ⟨l22, x23, x24, x25, c26, Hr, hr, h⟩ := h
    exact SW.ret (retQ.mkM (.agg #[sv l22, .int .i64 x23, .int .i64 x24, .int .i64 x25]) (resCN (size := 4) (p := (b4, 0)) (T := 65) rfl rfl (fun _ => by kernel_rfl) (by kernel_rfl) rfl c26) hr ⟨l22, x23, x24, x25, rfl, h⟩)
  · replace h := h.2 c16
    have dc16 : (x14 != 0) = false := (by simpa using c16)
    refine SW.cond_f (t := (x14 != 0)) rfl dc16 ?_
    refine SW.skip ?_
    refine SW.seq ?_
    refine SW.region ?_
    refine SOps.val (v := pv (some (b11, 1))) rfl (wantN rfl) (fun _ => by kernel_rfl) ?_
    obtain ⟨x27, c28, h⟩ := h
    refine SOps.rd (v := .int .i64 x27) rfl (wantN rfl) (fun w hw => ev_load1 rfl (fun _ => by kernel_rfl) (p := (b11, 1)) rfl c28 w hw) ?_
    refine SOps.val (v := .int .i64 x27) rfl (wantN rfl) (fun _ => by kernel_rfl) ?_
    refine SOps.nil ?_
    refine SW.seq ?_
    refine SW.seq ?_
    refine SW.region ?_
    refine SOps.val (v := .int .i64 0) rfl (wantN rfl) (fun _ => by kernel_rfl) ?_
    refine SOps.nil ?_
    refine SW.block ?_
    refine SW.loop (fun k1 fr H => ∃ (g : Fr) (s29 : ByteArray) (x30 : Int) (b31 : Nat) (b32 : Nat) (x33 : Int) (x34 : Int), fr = g.upds [(0, (.string s29 : Value)), (1, (.int .i64 x30 : Value)), (6, pv (some (b31, 0))), (7, pv (some (b32, 0))), (8, (.int .i64 x33 : Value)), (9, (.int .i64 x34 : Value))] ∧ ladingref06_Skip.l1 F K k1 s29 x30 b31 b32 x33 x34 H) F ⟨_, s1, x2, b4, b11, x27, 0, (Fr.upds_self _ _ ⟨rfl, rfl, rfl, rfl, rfl, rfl, trivial⟩), h⟩ ?_
    clear h
    rintro k1 fr H ⟨g, s29, x30, b31, b32, x33, x34, rfl, h⟩
    cases k1 with
    | zero => exact h.elim
    | succ k1 =>
      replace h : ladingref06_Skip.r1 F K (ladingref06_Skip.l1 F K k1) s29 x30 b31 b32 x33 x34 H := h
      unfold ladingref06_Skip.r1 at h
      refine SW.seq ?_
      refine SW.seq ?_
      refine SW.region ?_
      refine SOps.val (v := .int .i64 x34) rfl (wantN rfl) (fun _ => by kernel_rfl) ?_
      refine SOps.val (v := pv (some (b32, 0))) rfl (wantN rfl) (fun _ => by kernel_rfl) ?_
      obtain ⟨x35, c36, h⟩ := h
      refine SOps.rd (v := .int .i64 x35) rfl (wantN rfl) (fun w hw => ev_load1 rfl (fun _ => by kernel_rfl) (p := (b32, 0)) rfl c36 w hw) ?_
      refine SOps.val (v := .bool (decide (x34 < x35))) rfl (wantN rfl) (fun _ => by kernel_rfl) ?_
      refine SOps.nil ?_
      by_cases c37 : x34 < x35
      · replace h := h.1 c37
        have dc37 : (decide (x34 < x35)) = true := (decide_eq_true c37)
        refine SW.cond_t (t := decide (x34 < x35)) rfl dc37 ?_
        refine SW.skip ?_
        refine SW.seq ?_
        refine SW.block ?_
        refine SW.seq ?_
        refine SW.region ?_
        refine SOps.val (v := .string s29) rfl (wantN rfl) (fun _ => by kernel_rfl) ?_
        refine SOps.val (v := .int .i64 x33) rfl (wantN rfl) (fun _ => by kernel_rfl) ?_
        refine SOps.enter rfl (wantN rfl) (fun _ => by kernel_rfl) (ladingref01_ReadShort.sound F s29 x33 H _ h) ?_
        clear h
        rintro v H42 ⟨x38, x39, x40, x41, rfl, h⟩
        refine SOps.alloc rfl rfl (wantN rfl) (z := .agg #[.int .i64 0, .int .i64 0, .int .i64 0, .int .i64 0]) (by kernel_rfl) (fun b43 c44 => ?_)
        replace h := h b43 c44
        obtain ⟨c45, h⟩ := h
        refine SOps.storeL (p := (b43, 0)) (v := .agg #[.int .i64 x38, .int .i64 x39, .int .i64 x40, .int .i64 x41]) (cs := [.int .i64 x38, .int .i64 x39, .int .i64 x40, .int .i64 x41]) rfl rfl (wantN rfl) (size := 4) (by kernel_rfl) rfl rfl rfl rfl (by simp [Value.oneCell', errV_one, pv, sv]) c45 ?_
        refine SOps.nil ?_
        refine SW.seq ?_
        refine SW.seq ?_
        refine SW.region ?_
        refine SOps.val (v := pv (some (b43, 2))) rfl (wantN rfl) (fun _ => by kernel_rfl) ?_
        obtain ⟨x46, c47, h⟩ := h
        refine SOps.rd (v := .int .i64 x46) rfl (wantN rfl) (fun w hw => ev_load1 rfl (fun _ => by kernel_rfl) (p := (b43, 2)) rfl c47 w hw) ?_
        refine SOps.val (v := .bool (x46 != 0)) rfl (wantN rfl) (fun _ => by kernel_rfl) ?_
        refine SOps.nil ?_
        by_cases c48 : x46 ≠ 0
        · replace h := h.1 c48
          have dc48 : (x46 != 0) = true := (bne_iff_ne.mpr c48)
          refine SW.cond_t (t := (x46 != 0)) rfl dc48 ?_
          refine SW.seq ?_
          refine SW.region ?_
          refine SOps.val (v := .int .i64 x30) rfl (wantN rfl) (fun _ => by kernel_rfl) ?_
          refine SOps.val (v := pv (some (b43, 2))) rfl (wantN rfl) (fun _ => by kernel_rfl) ?_
          obtain ⟨x49, c50, h⟩ := h
          refine SOps.rd (v := .int .i64 x49) rfl (wantN rfl) (fun w hw => ev_load1 rfl (fun _ => by kernel_rfl) (p := (b43, 2)) rfl c50 w hw) ?_
          refine SOps.val (v := pv (some (b43, 3))) rfl (wantN rfl) (fun _ => by kernel_rfl) ?_
          obtain ⟨x51, c52, h⟩ := h
          refine SOps.rd (v := .int .i64 x51) rfl (wantN rfl) (fun w hw => ev_load1 rfl (fun _ => by kernel_rfl) (p := (b43, 3)) rfl c52 w hw) ?_
          refine SOps.val (v := .agg #[sv Sl.nil, .int .i64 x30, .int .i64 x49, .int .i64 x51]) rfl (wantN rfl) (fun _ => by kernel_rfl) ?_
          obtain ⟨c53, h⟩ := h
          refine SOps.storeL (p := (b31, 0)) (v := .agg #[sv Sl.nil, .int .i64 x30, .int .i64 x49, .int .i64 x51]) (cs := [sv Sl.nil, .int .i64 x30, .int .i64 x49, .int .i64 x51]) rfl rfl (wantN rfl) (size := 4) (by kernel_rfl) rfl rfl rfl rfl (by simp [Value.oneCell', errV_one, pv, sv]) c53 ?_
          refine SOps.nil ?_
          obtain ⟨l54, x55, x56, x57, c58, Hr, hr, h⟩ := h
          exact SW.ret (retQ.mkM (.agg #[sv l54, .int .i64 x55, .int .i64 x56, .int .i64 x57]) (resCN (size := 4) (p := (b31, 0)) (T := 65) rfl rfl (fun _ => by kernel_rfl) (by kernel_rfl) rfl c58) hr ⟨l54, x55, x56, x57, rfl, h⟩)
        · replace h := h.2 c48
          have dc48 : (x46 != 0) = false := (by simpa using c48)
          refine SW.cond_f (t := (x46 != 0)) rfl dc48 ?_
          refine SW.skip ?_
          refine SW.region ?_
          refine SOps.val (v := pv (some (b43, 1))) rfl (wantN rfl) (fun _ => by kernel_rfl) ?_
          obtain ⟨x59, c60, h⟩ := h
          refine SOps.rd (v := .int .i64 x59) rfl (wantN rfl) (fun w hw => ev_load1 rfl (fun _ => by kernel_rfl) (p := (b43, 1)) rfl c60 w hw) ?_
          refine SOps.val (v := .int .i64 x59) rfl (wantN rfl) (fun _ => by kernel_rfl) ?_
          refine SOps.nil ?_
          refine SW.region ?_
          refine SOps.val (v := .int .i64 x34) rfl (wantN rfl) (fun _ => by kernel_rfl) ?_
          refine SOps.val (v := .int .i64 (w64 (x34 + 1))) rfl (wantN rfl) (fun _ => by kernel_rfl) ?_
          refine SOps.val (v := .int .i64 (w64 (x34 + 1))) rfl (wantN rfl) (fun _ => by kernel_rfl) ?_
          refine SOps.nil ?_
          exact ⟨k1, Nat.lt_succ_self k1, _, s29, x30, b31, b32, x59, w64 (x34 + 1), (Fr.upds_self _ _ ⟨rfl, rfl, rfl, rfl, rfl, rfl, trivial⟩), h⟩
      · replace h := h.2 c37
        have dc37 : (decide (x34 < x35)) = false := (decide_eq_false c37)
        refine SW.cond_f (t := decide (x34 < x35)) rfl dc37 ?_
        refine SW.exit ?_
        refine SW.seq ?_
        refine SW.region ?_
        refine SOps.val (v := .int .i64 x33) rfl (wantN rfl) (fun _ => by kernel_rfl) ?_
        refine SOps.val (v := .agg #[sv Sl.nil, .int .i64 x33, .int .i64 0, .int .i64 0]) rfl (wantN rfl) (fun _ => by kernel_rfl) ?_
        obtain ⟨c61, h⟩ := h
        refine SOps.storeL (p := (b31, 0)) (v := .agg #[sv Sl.nil, .int .i64 x33, .int .i64 0, .int .i64 0]) (cs := [sv Sl.nil, .int .i64 x33, .int .i64 0, .int .i64 0]) rfl rfl (wantN rfl) (size := 4) (by kernel_rfl) rfl rfl rfl rfl (by simp [Value.oneCell', errV_one, pv, sv]) c61 ?_
        refine SOps.nil ?_
        obtain ⟨l62, x63, x64, x65, c66, Hr, hr, h⟩ := h
        exact SW.ret (retQ.mkM (.agg #[sv l62, .int .i64 x63, .int .i64 x64, .int .i64 x65]) (resCN (size := 4) (p := (b31, 0)) (T := 65) rfl rfl (fun _ => by kernel_rfl) (by kernel_rfl) rfl c66) hr ⟨l62, x63, x64, x65, rfl, h⟩)

end Go.Proofs.YtpnbehgkbfhacaaDoor.K
