import Derived.Test.YtpnbehgkbfhacaaDoorErr
import Derived.Test.YtpnbehgkbfhacaaDoorSatWrit
set_option linter.unusedVariables false
set_option linter.unusedSimpArgs false
set_option maxRecDepth 100000
namespace Go.Proofs.YtpnbehgkbfhacaaDoor.K
open Go
attribute [local irreducible] SW SOps SQ SCalls retQ

/-! ### lading/ladingref01.power: function 45 -/
def ladingref01_power.r1 (F : Nat) (K : Int → SH → Prop) (R1 : Int → Int → Int → SH → Prop) (x2 : Int) (x3 : Int) (x4 : Int) (H : SH) : Prop :=
  (x4 < x2 →
    R1 x2 (w64 (x3 * 256)) (w64 (x4 + 1)) H
  ) ∧ (¬ (x4 < x2) →
    ∃ Hr, SH.le Hr H ∧ K x3 Hr
  )
def ladingref01_power.l1 (F : Nat) (K : Int → SH → Prop) : Nat → Int → Int → Int → SH → Prop
  | 0, _, _, _, _ => False
  | k + 1, x2, x3, x4, H => ladingref01_power.r1 F K (ladingref01_power.l1 F K k) x2 x3 x4 H
def ladingref01_power.wp (F : Nat) (x1 : Int) (H : SH) (K : Int → SH → Prop) : Prop :=
  ladingref01_power.l1 F K F x1 1 0 H
set_option maxHeartbeats 8000000 in
theorem ladingref01_power.sound (F : Nat) (x1 : Int) (H : SH) (K : Int → SH → Prop) (h : ladingref01_power.wp F x1 H K) : SCalls Tryd.prog 45 #[.int .i64 x1] H (fun v H' => ∃ (x9 : Int), v = .int .i64 x9 ∧ K x9 H') := by
  unfold ladingref01_power.wp at h
  refine SCalls.body Tryd.func45 rfl (Nat.le_of_ble_eq_true rfl) ?_
  refine SW.seq ?_
  refine SW.region ?_
  refine SOps.val (v := .int .i64 0) rfl (wantN rfl) (fun _ => by kernel_rfl) ?_
  refine SOps.nil ?_
  refine SW.seq ?_
  refine SW.region ?_
  refine SOps.val (v := .int .i64 1) rfl (wantN rfl) (fun _ => by kernel_rfl) ?_
  refine SOps.nil ?_
  refine SW.seq ?_
  refine SW.seq ?_
  refine SW.region ?_
  refine SOps.val (v := .int .i64 0) rfl (wantN rfl) (fun _ => by kernel_rfl) ?_
  refine SOps.nil ?_
  refine SW.block ?_
  refine SW.loop (fun k1 fr H => ∃ (g : Fr) (x2 : Int) (x3 : Int) (x4 : Int), fr = g.upds [(0, (.int .i64 x2 : Value)), (3, (.int .i64 x3 : Value)), (4, (.int .i64 x4 : Value))] ∧ ladingref01_power.l1 F K k1 x2 x3 x4 H) F ⟨_, x1, 1, 0, (Fr.upds_self _ _ ⟨rfl, rfl, rfl, trivial⟩), h⟩ ?_
  clear h
  rintro k1 fr H ⟨g, x2, x3, x4, rfl, h⟩
  cases k1 with
  | zero => exact h.elim
  | succ k1 =>
    replace h : ladingref01_power.r1 F K (ladingref01_power.l1 F K k1) x2 x3 x4 H := h
    unfold ladingref01_power.r1 at h
    refine SW.seq ?_
    refine SW.seq ?_
    refine SW.region ?_
    refine SOps.val (v := .int .i64 x4) rfl (wantN rfl) (fun _ => by kernel_rfl) ?_
    refine SOps.val (v := .int .i64 x2) rfl (wantN rfl) (fun _ => by kernel_rfl) ?_
    refine SOps.val (v := .bool (decide (x4 < x2))) rfl (wantN rfl) (fun _ => by kernel_rfl) ?_
    refine SOps.nil ?_
    by_cases c5 : x4 < x2
    · replace h := h.1 c5
      have dc5 : (decide (x4 < x2)) = true := (decide_eq_true c5)
      refine SW.cond_t (t := decide (x4 < x2)) rfl dc5 ?_
      refine SW.skip ?_
      refine SW.seq ?_
      refine SW.block ?_
      refine SW.region ?_
      refine SOps.val (v := .int .i64 x3) rfl (wantN rfl) (fun _ => by kernel_rfl) ?_
      refine SOps.val (v := .int .i64 (w64 (x3 * 256))) rfl (wantN rfl) (fun _ => by kernel_rfl) ?_
      refine SOps.val (v := .int .i64 (w64 (x3 * 256))) rfl (wantN rfl) (fun _ => by kernel_rfl) ?_
      refine SOps.nil ?_
      refine SW.region ?_
      refine SOps.val (v := .int .i64 x4) rfl (wantN rfl) (fun _ => by kernel_rfl) ?_
      refine SOps.val (v := .int .i64 (w64 (x4 + 1))) rfl (wantN rfl) (fun _ => by kernel_rfl) ?_
      refine SOps.val (v := .int .i64 (w64 (x4 + 1))) rfl (wantN rfl) (fun _ => by kernel_rfl) ?_
      refine SOps.nil ?_
      exact ⟨k1, Nat.lt_succ_self k1, _, x2, w64 (x3 * 256), w64 (x4 + 1), (Fr.upds_self _ _ ⟨rfl, rfl, rfl, trivial⟩), h⟩
    · replace h := h.2 c5
      have dc5 : (decide (x4 < x2)) = false := (decide_eq_false c5)
      refine SW.cond_f (t := decide (x4 < x2)) rfl dc5 ?_
      refine SW.exit ?_
      refine SW.seq ?_
      refine SW.region ?_
      refine SOps.val (v := .int .i64 x3) rfl (wantN rfl) (fun _ => by kernel_rfl) ?_
      refine SOps.val (v := .int .i64 x3) rfl (wantN rfl) (fun _ => by kernel_rfl) ?_
      refine SOps.nil ?_
      obtain ⟨Hr, hr, h⟩ := h
      exact SW.ret (retQ.mk (.int .i64 x3) (res1 rfl rfl) hr ⟨x3, rfl, h⟩)

/-! ### lading/ladingref01.Fits: function 13 -/
def ladingref01_Fits.wp (F : Nat) (x1 : Int) (x2 : Int) (H : SH) (K : Bool → SH → Prop) : Prop :=
  (x2 ≥ 0 →
    ladingref01_power.wp F x1 H (fun x4 H5 =>
      ∃ Hr, SH.le Hr H5 ∧ K (decide (x2 < x4)) Hr
    )
  ) ∧ (¬ (x2 ≥ 0) →
    ∃ Hr, SH.le Hr H ∧ K false Hr
  )
set_option maxHeartbeats 8000000 in
theorem ladingref01_Fits.sound (F : Nat) (x1 : Int) (x2 : Int) (H : SH) (K : Bool → SH → Prop) (h : ladingref01_Fits.wp F x1 x2 H K) : SCalls Tryd.prog 13 #[.int .i64 x1, .int .i64 x2] H (fun v H' => ∃ (q7 : Bool), v = .bool q7 ∧ K q7 H') := by
  unfold ladingref01_Fits.wp at h
  refine SCalls.body Tryd.func13 rfl (Nat.le_of_ble_eq_true rfl) ?_
  refine SW.seq ?_
  refine SW.region ?_
  refine SOps.val (v := .bool false) rfl (wantN rfl) (fun _ => by kernel_rfl) ?_
  refine SOps.nil ?_
  refine SW.seq ?_
  refine SW.region ?_
  refine SOps.val (v := .int .i64 x2) rfl (wantN rfl) (fun _ => by kernel_rfl) ?_
  refine SOps.val (v := .bool (decide (x2 ≥ 0))) rfl (wantN rfl) (fun _ => by kernel_rfl) ?_
  refine SOps.val (v := .bool (decide (x2 ≥ 0))) rfl (wantN rfl) (fun _ => by kernel_rfl) ?_
  by_cases c3 : x2 ≥ 0
  · replace h := h.1 c3
    have dc3 : (decide (x2 ≥ 0)) = true := (decide_eq_true c3)
    refine SOps.val (v := .int .i64 x2) rfl (wantY (c := decide (x2 ≥ 0)) rfl rfl rfl dc3) (fun _ => by kernel_rfl) ?_
    refine SOps.val (v := .int .i64 x1) rfl (wantY (c := decide (x2 ≥ 0)) rfl rfl rfl dc3) (fun _ => by kernel_rfl) ?_
    refine SOps.enter rfl (wantY (c := decide (x2 ≥ 0)) rfl rfl rfl dc3) (fun _ => by kernel_rfl) (ladingref01_power.sound F x1 H _ h) ?_
    clear h
    rintro v H5 ⟨x4, rfl, h⟩
    refine SOps.val (v := .bool (decide (x2 < x4))) rfl (wantY (c := decide (x2 ≥ 0)) rfl rfl rfl dc3) (fun _ => by kernel_rfl) ?_
    refine SOps.val (v := .bool (decide (x2 < x4))) rfl (wantN rfl) (fun w => ev_pickT (v := .bool (decide (x2 < x4))) rfl (t := decide (x2 ≥ 0)) rfl dc3 rfl w) ?_
    refine SOps.val (v := .bool (decide (x2 < x4))) rfl (wantN rfl) (fun _ => by kernel_rfl) ?_
    refine SOps.nil ?_
    obtain ⟨Hr, hr, h⟩ := h
    exact SW.ret (retQ.mk (.bool (decide (x2 < x4))) (res1 rfl rfl) hr ⟨decide (x2 < x4), rfl, h⟩)
  · replace h := h.2 c3
    have dc3 : (decide (x2 ≥ 0)) = false := (decide_eq_false c3)
    refine SOps.off rfl (wantX (c := decide (x2 ≥ 0)) rfl rfl rfl dc3) ?_
    refine SOps.off rfl (wantX (c := decide (x2 ≥ 0)) rfl rfl rfl dc3) ?_
    refine SOps.off rfl (wantX (c := decide (x2 ≥ 0)) rfl rfl rfl dc3) ?_
    refine SOps.off rfl (wantX (c := decide (x2 ≥ 0)) rfl rfl rfl dc3) ?_
    refine SOps.val (v := .bool false) rfl (wantN rfl) (fun w => ev_pickF (v := .bool false) rfl (t := decide (x2 ≥ 0)) rfl dc3 rfl w) ?_
    refine SOps.val (v := .bool false) rfl (wantN rfl) (fun _ => by kernel_rfl) ?_
    refine SOps.nil ?_
    obtain ⟨Hr, hr, h⟩ := h
    exact SW.ret (retQ.mk (.bool false) (res1 rfl rfl) hr ⟨false, rfl, h⟩)

/-! ### lading/ladingref01.Fixed: function 15 -/
def ladingref01_Fixed.r1 (F : Nat) (K : ByteArray → SH → Prop) (R1 : Int → Int → ByteArray → Int → SH → Prop) (x3 : Int) (x4 : Int) (s5 : ByteArray) (x6 : Int) (H : SH) : Prop :=
  (x6 < x3 →
    ∀ b8, H b8 = none →
    ∃ bs10 : List UInt8,
    (⟨some (b8, 0), 1, 1⟩ : Sl).len = bs10.length ∧
    SH.row (SH.upd H b8 ⟨[.int .u8 (IntKind.u8.wrap (x4.tmod 256))], 5, false, 1⟩) (⟨some (b8, 0), 1, 1⟩ : Sl).a (byteCells bs10) ∧
    s5.size + (⟨bs10.toArray⟩ : ByteArray).size ≤ 9223372036854775807 ∧
    R1 x3 (w64 (x4.tdiv 256)) (s5 ++ (⟨bs10.toArray⟩ : ByteArray)) (w64 (x6 + 1)) (SH.upd H b8 ⟨[.int .u8 (IntKind.u8.wrap (x4.tmod 256))], 5, false, 1⟩)
  ) ∧ (¬ (x6 < x3) →
    ∃ Hr, SH.le Hr H ∧ K s5 Hr
  )
def ladingref01_Fixed.l1 (F : Nat) (K : ByteArray → SH → Prop) : Nat → Int → Int → ByteArray → Int → SH → Prop
  | 0, _, _, _, _, _ => False
  | k + 1, x3, x4, s5, x6, H => ladingref01_Fixed.r1 F K (ladingref01_Fixed.l1 F K k) x3 x4 s5 x6 H
def ladingref01_Fixed.wp (F : Nat) (x1 : Int) (x2 : Int) (H : SH) (K : ByteArray → SH → Prop) : Prop :=
  ladingref01_Fixed.l1 F K F x1 x2 ByteArray.empty 0 H
set_option maxHeartbeats 8000000 in
theorem ladingref01_Fixed.sound (F : Nat) (x1 : Int) (x2 : Int) (H : SH) (K : ByteArray → SH → Prop) (h : ladingref01_Fixed.wp F x1 x2 H K) : SCalls Tryd.prog 15 #[.int .i64 x1, .int .i64 x2] H (fun v H' => ∃ (s17 : ByteArray), v = .string s17 ∧ K s17 H') := by
  unfold ladingref01_Fixed.wp at h
  refine SCalls.body Tryd.func15 rfl (Nat.le_of_ble_eq_true rfl) ?_
  refine SW.seq ?_
  refine SW.region ?_
  refine SOps.val (v := .string ByteArray.empty) rfl (wantN rfl) (fun _ => by kernel_rfl) ?_
  refine SOps.nil ?_
  refine SW.seq ?_
  refine SW.region ?_
  refine SOps.val (v := .string ByteArray.empty) rfl (wantN rfl) (fun _ => by kernel_rfl) ?_
  refine SOps.nil ?_
  refine SW.seq ?_
  refine SW.seq ?_
  refine SW.region ?_
  refine SOps.val (v := .int .i64 0) rfl (wantN rfl) (fun _ => by kernel_rfl) ?_
  refine SOps.nil ?_
  refine SW.block ?_
  refine SW.loop (fun k1 fr H => ∃ (g : Fr) (x3 : Int) (x4 : Int) (s5 : ByteArray) (x6 : Int), fr = g.upds [(0, (.int .i64 x3 : Value)), (1, (.int .i64 x4 : Value)), (5, (.string s5 : Value)), (6, (.int .i64 x6 : Value))] ∧ ladingref01_Fixed.l1 F K k1 x3 x4 s5 x6 H) F ⟨_, x1, x2, ByteArray.empty, 0, (Fr.upds_self _ _ ⟨rfl, rfl, rfl, rfl, trivial⟩), h⟩ ?_
  clear h
  rintro k1 fr H ⟨g, x3, x4, s5, x6, rfl, h⟩
  cases k1 with
  | zero => exact h.elim
  | succ k1 =>
    replace h : ladingref01_Fixed.r1 F K (ladingref01_Fixed.l1 F K k1) x3 x4 s5 x6 H := h
    unfold ladingref01_Fixed.r1 at h
    refine SW.seq ?_
    refine SW.seq ?_
    refine SW.region ?_
    refine SOps.val (v := .int .i64 x6) rfl (wantN rfl) (fun _ => by kernel_rfl) ?_
    refine SOps.val (v := .int .i64 x3) rfl (wantN rfl) (fun _ => by kernel_rfl) ?_
    refine SOps.val (v := .bool (decide (x6 < x3))) rfl (wantN rfl) (fun _ => by kernel_rfl) ?_
    refine SOps.nil ?_
    by_cases c7 : x6 < x3
    · replace h := h.1 c7
      have dc7 : (decide (x6 < x3)) = true := (decide_eq_true c7)
      refine SW.cond_t (t := decide (x6 < x3)) rfl dc7 ?_
      refine SW.skip ?_
      refine SW.seq ?_
      refine SW.block ?_
      refine SW.seq ?_
      refine SW.region ?_
      refine SOps.val (v := .string s5) rfl (wantN rfl) (fun _ => by kernel_rfl) ?_
      refine SOps.val (v := .int .i64 x4) rfl (wantN rfl) (fun _ => by kernel_rfl) ?_
      refine SOps.val (v := .int .i64 (x4.tmod 256)) rfl (wantN rfl) (fun w => ev_rem rfl rfl rfl (by decide) w) ?_
      refine SOps.val (v := .int .u8 (IntKind.u8.wrap (x4.tmod 256))) rfl (wantN rfl) (fun _ => by kernel_rfl) ?_
      refine SOps.lit (E := 5) (cs := #[.int .u8 (IntKind.u8.wrap (x4.tmod 256))]) rfl rfl (wantN rfl) (fun _ => by kernel_rfl) (fun b8 c9 => ?_)
      replace h := h b8 c9
      obtain ⟨bs10, c11, c12, h⟩ := h
      refine SOps.rd (v := .string (⟨bs10.toArray⟩ : ByteArray)) rfl (wantN rfl) (fun w hw => ev_str rfl Tryd.underlying46 Tryd.underlying5 Tryd.underlying9 rfl c11 c12 w hw) ?_
      obtain ⟨c13, h⟩ := h
      refine SOps.val (v := .string (s5 ++ (⟨bs10.toArray⟩ : ByteArray))) rfl (wantN rfl) (fun w => ev_cat rfl rfl rfl c13 w) ?_
      refine SOps.val (v := .string (s5 ++ (⟨bs10.toArray⟩ : ByteArray))) rfl (wantN rfl) (fun _ => by kernel_rfl) ?_
      refine SOps.nil ?_
      refine SW.region ?_
      refine SOps.val (v := .int .i64 x4) rfl (wantN rfl) (fun _ => by kernel_rfl) ?_
      refine SOps.val (v := .int .i64 (w64 (x4.tdiv 256))) rfl (wantN rfl) (fun w => ev_quo rfl rfl rfl (by decide) w) ?_
      refine SOps.val (v := .int .i64 (w64 (x4.tdiv 256))) rfl (wantN rfl) (fun _ => by kernel_rfl) ?_
      refine SOps.nil ?_
      refine SW.region ?_
      refine SOps.val (v := .int .i64 x6) rfl (wantN rfl) (fun _ => by kernel_rfl) ?_
      refine SOps.val (v := .int .i64 (w64 (x6 + 1))) rfl (wantN rfl) (fun _ => by kernel_rfl) ?_
      refine SOps.val (v := .int .i64 (w64 (x6 + 1))) rfl (wantN rfl) (fun _ => by kernel_rfl) ?_
      refine SOps.nil ?_
      exact ⟨k1, Nat.lt_succ_self k1, _, x3, w64 (x4.tdiv 256), s5 ++ (⟨bs10.toArray⟩ : ByteArray), w64 (x6 + 1), (Fr.upds_self _ _ ⟨rfl, rfl, rfl, rfl, trivial⟩), h⟩
    · replace h := h.2 c7
      have dc7 : (decide (x6 < x3)) = false := (decide_eq_false c7)
      refine SW.cond_f (t := decide (x6 < x3)) rfl dc7 ?_
      refine SW.exit ?_
      refine SW.seq ?_
      refine SW.region ?_
      refine SOps.val (v := .string s5) rfl (wantN rfl) (fun _ => by kernel_rfl) ?_
      refine SOps.val (v := .string s5) rfl (wantN rfl) (fun _ => by kernel_rfl) ?_
      refine SOps.nil ?_
      obtain ⟨Hr, hr, h⟩ := h
      exact SW.ret (retQ.mk (.string s5) (res1 rfl rfl) hr ⟨s5, rfl, h⟩)

/-! ### lading/ladingref01.Short: function 19 -/
def ladingref01_Short.wp : Nat → Int → SH → (ByteArray → SH → Prop) → Prop
  | 0, _, _, _ => False
  | F + 1, x1, H, K =>
    (x1 < 128 →
      ∀ b3, H b3 = none →
      ∃ bs5 : List UInt8,
      (⟨some (b3, 0), 1, 1⟩ : Sl).len = bs5.length ∧
      SH.row (SH.upd H b3 ⟨[.int .u8 (IntKind.u8.wrap x1)], 5, false, 1⟩) (⟨some (b3, 0), 1, 1⟩ : Sl).a (byteCells bs5) ∧
      ∃ Hr, SH.le Hr (SH.upd H b3 ⟨[.int .u8 (IntKind.u8.wrap x1)], 5, false, 1⟩) ∧ K (⟨bs5.toArray⟩ : ByteArray) Hr
    ) ∧ (¬ (x1 < 128) →
      ∃ bs10 : List UInt8,
      ([.int .u8 (IntKind.u8.wrap (w64 ((x1.tmod 128) + 128)))] : List Value) = byteCells bs10 ∧
      ∃ (s12 : ByteArray),
      ( ladingref01_Short.wp F (w64 (x1.tdiv 128)) H (fun s12' H' => s12' = s12 ∧ SH.le H H')) ∧
      (⟨bs10.toArray⟩ : ByteArray).size + s12.size ≤ 9223372036854775807 ∧
      ∃ Hr, SH.le Hr H ∧ K ((⟨bs10.toArray⟩ : ByteArray) ++ s12) Hr
    )
set_option maxHeartbeats 8000000 in
theorem ladingref01_Short.sound (F : Nat) : ∀ (x1 : Int) (H : SH) (K : ByteArray → SH → Prop), ladingref01_Short.wp F x1 H K → SCalls Tryd.prog 19 #[.int .i64 x1] H (fun v H' => ∃ (s17 : ByteArray), v = .string s17 ∧ K s17 H') := by
  induction F with
  | zero => intro x1 H K h; exact h.elim
  | succ F ih =>
    intro x1 H K h
    unfold ladingref01_Short.wp at h
    refine SCalls.body Tryd.func19 rfl (Nat.le_of_ble_eq_true rfl) ?_
    refine SW.seq ?_
    refine SW.region ?_
    refine SOps.val (v := .string ByteArray.empty) rfl (wantN rfl) (fun _ => by kernel_rfl) ?_
    refine SOps.nil ?_
    refine SW.seq ?_
    refine SW.seq ?_
    refine SW.region ?_
    refine SOps.val (v := .int .i64 x1) rfl (wantN rfl) (fun _ => by kernel_rfl) ?_
    refine SOps.val (v := .bool (decide (x1 < 128))) rfl (wantN rfl) (fun _ => by kernel_rfl) ?_
    refine SOps.nil ?_
    by_cases c2 : x1 < 128
    · replace h := h.1 c2
      have dc2 : (decide (x1 < 128)) = true := (decide_eq_true c2)
      refine SW.cond_t (t := decide (x1 < 128)) rfl dc2 ?_
      refine SW.seq ?_
      refine SW.region ?_
      refine SOps.val (v := .int .i64 x1) rfl (wantN rfl) (fun _ => by kernel_rfl) ?_
      refine SOps.val (v := .int .u8 (IntKind.u8.wrap x1)) rfl (wantN rfl) (fun _ => by kernel_rfl) ?_
      refine SOps.lit (E := 5) (cs := #[.int .u8 (IntKind.u8.wrap x1)]) rfl rfl (wantN rfl) (fun _ => by kernel_rfl) (fun b3 c4 => ?_)
      replace h := h b3 c4
      obtain ⟨bs5, c6, c7, h⟩ := h
      refine SOps.rd (v := .string (⟨bs5.toArray⟩ : ByteArray)) rfl (wantN rfl) (fun w hw => ev_str rfl Tryd.underlying46 Tryd.underlying5 Tryd.underlying9 rfl c6 c7 w hw) ?_
      refine SOps.val (v := .string (⟨bs5.toArray⟩ : ByteArray)) rfl (wantN rfl) (fun _ => by kernel_rfl) ?_
      refine SOps.nil ?_
      obtain ⟨Hr, hr, h⟩ := h
      exact SW.ret (retQ.mk (.string (⟨bs5.toArray⟩ : ByteArray)) (res1 rfl rfl) hr ⟨(⟨bs5.toArray⟩ : ByteArray), rfl, h⟩)
    · replace h := h.2 c2
      have dc2 : (decide (x1 < 128)) = false := (decide_eq_false c2)
      refine SW.cond_f (t := decide (x1 < 128)) rfl dc2 ?_
      refine SW.skip ?_
      refine SW.seq ?_
      obtain ⟨bs10, c11, h⟩ := h
      obtain ⟨s12, c13, h⟩ := h
      obtain ⟨c14, h⟩ := h
      refine SW.drawA [.val (.int .i64 x1), .val (.int .i64 (x1.tmod 128)), .val (.int .i64 (w64 ((x1.tmod 128) + 128))), .val (.int .u8 (IntKind.u8.wrap (w64 ((x1.tmod 128) + 128)))), .fresh 4 (fun b c => sv ⟨some (b, 0), 1, 1⟩) (fun c => (⟨[.int .u8 (IntKind.u8.wrap (w64 ((x1.tmod 128) + 128)))], 5, false, 1⟩ : AO)) (fun _ => True), .val (.string (⟨bs10.toArray⟩ : ByteArray)), .val (.int .i64 x1), .val (.int .i64 (w64 (x1.tdiv 128))), .val (.string s12), .val (.string ((⟨bs10.toArray⟩ : ByteArray) ++ s12)), .val (.string ((⟨bs10.toArray⟩ : ByteArray) ++ s12))] (by kernel_rfl) (by kernel_rfl) (And.intro ?_ (And.intro ?_ (And.intro ?_ (And.intro ?_ (And.intro ?_ (And.intro ?_ (And.intro ?_ (And.intro ?_ (And.intro ?_ (And.intro ?_ (And.intro ?_ (trivial)))))))))))) ?_
      · clear h
        intro fr' T' H' hle hs hA
        have a0 : fr' 0 = (.int .i64 x1 : Value) := hs 0 (by kernel_rfl)
        obtain ⟨g', hg'⟩ : ∃ g' : Fr, fr' = g'.upds [(0, (.int .i64 x1 : Value))] := ⟨_, Fr.upds_self _ _ ⟨a0, trivial⟩⟩
        subst hg'
        exact SA.val (v := .int .i64 x1) rfl (wantN rfl) (fun _ => by kernel_rfl)
      · clear h
        intro fr' T' H' hle hs hA
        have a9 : fr' 9 = (.int .i64 x1 : Value) := hA 0 (by kernel_rfl)
        obtain ⟨g', hg'⟩ : ∃ g' : Fr, fr' = g'.upds [(9, (.int .i64 x1 : Value))] := ⟨_, Fr.upds_self _ _ ⟨a9, trivial⟩⟩
        subst hg'
        exact SA.val (v := .int .i64 (x1.tmod 128)) rfl (wantN rfl) (fun w => ev_rem rfl rfl rfl (by decide) w)
      · clear h
        intro fr' T' H' hle hs hA
        have a10 : fr' 10 = (.int .i64 (x1.tmod 128) : Value) := hA 1 (by kernel_rfl)
        obtain ⟨g', hg'⟩ : ∃ g' : Fr, fr' = g'.upds [(10, (.int .i64 (x1.tmod 128) : Value))] := ⟨_, Fr.upds_self _ _ ⟨a10, trivial⟩⟩
        subst hg'
        exact SA.val (v := .int .i64 (w64 ((x1.tmod 128) + 128))) rfl (wantN rfl) (fun _ => by kernel_rfl)
      · clear h
        intro fr' T' H' hle hs hA
        have a11 : fr' 11 = (.int .i64 (w64 ((x1.tmod 128) + 128)) : Value) := hA 2 (by kernel_rfl)
        obtain ⟨g', hg'⟩ : ∃ g' : Fr, fr' = g'.upds [(11, (.int .i64 (w64 ((x1.tmod 128) + 128)) : Value))] := ⟨_, Fr.upds_self _ _ ⟨a11, trivial⟩⟩
        subst hg'
        exact SA.val (v := .int .u8 (IntKind.u8.wrap (w64 ((x1.tmod 128) + 128)))) rfl (wantN rfl) (fun _ => by kernel_rfl)
      · clear h
        intro fr' T' H' hle hs hA
        have a12 : fr' 12 = (.int .u8 (IntKind.u8.wrap (w64 ((x1.tmod 128) + 128))) : Value) := hA 3 (by kernel_rfl)
        obtain ⟨g', hg'⟩ : ∃ g' : Fr, fr' = g'.upds [(12, (.int .u8 (IntKind.u8.wrap (w64 ((x1.tmod 128) + 128))) : Value))] := ⟨_, Fr.upds_self _ _ ⟨a12, trivial⟩⟩
        subst hg'
        exact SA.fresh hle (fun h => SOps.lit (E := 5) (cs := #[.int .u8 (IntKind.u8.wrap (w64 ((x1.tmod 128) + 128)))]) rfl rfl (wantN rfl) (fun _ => by kernel_rfl) (fun b c => h b 0 c trivial))
      · clear h
        intro fr' T' H' hle hs hA
        obtain ⟨b8, n9, a13, nb8, kb8, tb8, ob8⟩ := hA 4 (by kernel_rfl)
        obtain ⟨g', hg'⟩ : ∃ g' : Fr, fr' = g'.upds [(13, sv (⟨some (b8, 0), 1, 1⟩ : Sl))] := ⟨_, Fr.upds_self _ _ ⟨a13, trivial⟩⟩
        subst hg'
        exact SA.rdH (Hc := SH.upd H b8 (⟨[.int .u8 (IntKind.u8.wrap (w64 ((x1.tmod 128) + 128)))], 5, false, 1⟩ : AO)) (v := .string (⟨bs10.toArray⟩ : ByteArray)) (SH.le.upd_in hle kb8) rfl (wantN rfl) (fun w hw => ev_str rfl Tryd.underlying46 Tryd.underlying5 Tryd.underlying9 rfl (cells_len c11) (row_updD c11) w hw)
      · clear h
        intro fr' T' H' hle hs hA
        have a0 : fr' 0 = (.int .i64 x1 : Value) := hs 0 (by kernel_rfl)
        obtain ⟨g', hg'⟩ : ∃ g' : Fr, fr' = g'.upds [(0, (.int .i64 x1 : Value))] := ⟨_, Fr.upds_self _ _ ⟨a0, trivial⟩⟩
        subst hg'
        exact SA.val (v := .int .i64 x1) rfl (wantN rfl) (fun _ => by kernel_rfl)
      · clear h
        intro fr' T' H' hle hs hA
        have a15 : fr' 15 = (.int .i64 x1 : Value) := hA 6 (by kernel_rfl)
        obtain ⟨g', hg'⟩ : ∃ g' : Fr, fr' = g'.upds [(15, (.int .i64 x1 : Value))] := ⟨_, Fr.upds_self _ _ ⟨a15, trivial⟩⟩
        subst hg'
        exact SA.val (v := .int .i64 (w64 (x1.tdiv 128))) rfl (wantN rfl) (fun w => ev_quo rfl rfl rfl (by decide) w)
      · clear h
        intro fr' T' H' hle hs hA
        have a16 : fr' 16 = (.int .i64 (w64 (x1.tdiv 128)) : Value) := hA 7 (by kernel_rfl)
        obtain ⟨g', hg'⟩ : ∃ g' : Fr, fr' = g'.upds [(16, (.int .i64 (w64 (x1.tdiv 128)) : Value))] := ⟨_, Fr.upds_self _ _ ⟨a16, trivial⟩⟩
        subst hg'
        exact SA.enter (Hc := H) (v := .string s12) hle rfl (wantN rfl) (fun _ => by kernel_rfl) ((ih (w64 (x1.tdiv 128)) H _ c13).mono (by rintro v H' ⟨_, rfl, rfl, h'⟩; exact ⟨rfl, h'⟩))
      · clear h
        intro fr' T' H' hle hs hA
        have a14 : fr' 14 = (.string (⟨bs10.toArray⟩ : ByteArray) : Value) := hA 5 (by kernel_rfl)
        have a17 : fr' 17 = (.string s12 : Value) := hA 8 (by kernel_rfl)
        obtain ⟨g', hg'⟩ : ∃ g' : Fr, fr' = g'.upds [(14, (.string (⟨bs10.toArray⟩ : ByteArray) : Value)), (17, (.string s12 : Value))] := ⟨_, Fr.upds_self _ _ ⟨a14, a17, trivial⟩⟩
        subst hg'
        exact SA.val (v := .string ((⟨bs10.toArray⟩ : ByteArray) ++ s12)) rfl (wantN rfl) (fun w => ev_cat rfl rfl rfl c14 w)
      · clear h
        intro fr' T' H' hle hs hA
        have a18 : fr' 18 = (.string ((⟨bs10.toArray⟩ : ByteArray) ++ s12) : Value) := hA 9 (by kernel_rfl)
        obtain ⟨g', hg'⟩ : ∃ g' : Fr, fr' = g'.upds [(18, (.string ((⟨bs10.toArray⟩ : ByteArray) ++ s12) : Value))] := ⟨_, Fr.upds_self _ _ ⟨a18, trivial⟩⟩
        subst hg'
        exact SA.val (v := .string ((⟨bs10.toArray⟩ : ByteArray) ++ s12)) rfl (wantN rfl) (fun _ => by kernel_rfl)
      · intro fr' T' H' hle hs hA
        have a2 : fr' 2 = (.string ((⟨bs10.toArray⟩ : ByteArray) ++ s12) : Value) := hA 10 (Nat.le_of_ble_eq_true rfl)
        obtain ⟨g', hg'⟩ : ∃ g' : Fr, fr' = g'.upds [(2, (.string ((⟨bs10.toArray⟩ : ByteArray) ++ s12) : Value))] := ⟨_, Fr.upds_self _ _ ⟨a2, trivial⟩⟩
        subst hg'
        refine SOps.forget (H) hle ?_
        clear hle hs hA
        refine SOps.nil ?_
        obtain ⟨Hr, hr, h⟩ := h
        exact SW.ret (retQ.mk (.string ((⟨bs10.toArray⟩ : ByteArray) ++ s12)) (res1 rfl rfl) hr ⟨(⟨bs10.toArray⟩ : ByteArray) ++ s12, rfl, h⟩)

/-! ### lading/ladingref01.Turn: function 22 -/
def ladingref01_Turn.wp (F : Nat) (x1 : Int) (H : SH) (K : Int → SH → Prop) : Prop :=
  (x1 < 0 →
    ∃ Hr, SH.le Hr H ∧ K (w64 ((w64 (0 - (w64 (2 * x1)))) - 1)) Hr
  ) ∧ (¬ (x1 < 0) →
    ∃ Hr, SH.le Hr H ∧ K (w64 (2 * x1)) Hr
  )
set_option maxHeartbeats 8000000 in
theorem ladingref01_Turn.sound (F : Nat) (x1 : Int) (H : SH) (K : Int → SH → Prop) (h : ladingref01_Turn.wp F x1 H K) : SCalls Tryd.prog 22 #[.int .i64 x1] H (fun v H' => ∃ (x4 : Int), v = .int .i64 x4 ∧ K x4 H') := by
  unfold ladingref01_Turn.wp at h
  refine SCalls.body Tryd.func22 rfl (Nat.le_of_ble_eq_true rfl) ?_
  refine SW.seq ?_
  refine SW.region ?_
  refine SOps.val (v := .int .i64 0) rfl (wantN rfl) (fun _ => by kernel_rfl) ?_
  refine SOps.nil ?_
  refine SW.seq ?_
  refine SW.seq ?_
  refine SW.region ?_
  refine SOps.val (v := .int .i64 x1) rfl (wantN rfl) (fun _ => by kernel_rfl) ?_
  refine SOps.val (v := .bool (decide (x1 < 0))) rfl (wantN rfl) (fun _ => by kernel_rfl) ?_
  refine SOps.nil ?_
  by_cases c2 : x1 < 0
  · replace h := h.1 c2
    have dc2 : (decide (x1 < 0)) = true := (decide_eq_true c2)
    refine SW.cond_t (t := decide (x1 < 0)) rfl dc2 ?_
    refine SW.seq ?_
    refine SW.region ?_
    refine SOps.val (v := .int .i64 x1) rfl (wantN rfl) (fun _ => by kernel_rfl) ?_
    refine SOps.val (v := .int .i64 (w64 (2 * x1))) rfl (wantN rfl) (fun _ => by kernel_rfl) ?_
    refine SOps.val (v := .int .i64 (w64 (0 - (w64 (2 * x1))))) rfl (wantN rfl) (fun _ => by kernel_rfl) ?_
    refine SOps.val (v := .int .i64 (w64 ((w64 (0 - (w64 (2 * x1)))) - 1))) rfl (wantN rfl) (fun _ => by kernel_rfl) ?_
    refine SOps.val (v := .int .i64 (w64 ((w64 (0 - (w64 (2 * x1)))) - 1))) rfl (wantN rfl) (fun _ => by kernel_rfl) ?_
    refine SOps.nil ?_
    obtain ⟨Hr, hr, h⟩ := h
    exact SW.ret (retQ.mk (.int .i64 (w64 ((w64 (0 - (w64 (2 * x1)))) - 1))) (res1 rfl rfl) hr ⟨w64 ((w64 (0 - (w64 (2 * x1)))) - 1), rfl, h⟩)
  · replace h := h.2 c2
    have dc2 : (decide (x1 < 0)) = false := (decide_eq_false c2)
    refine SW.cond_f (t := decide (x1 < 0)) rfl dc2 ?_
    refine SW.skip ?_
    refine SW.seq ?_
    refine SW.region ?_
    refine SOps.val (v := .int .i64 x1) rfl (wantN rfl) (fun _ => by kernel_rfl) ?_
    refine SOps.val (v := .int .i64 (w64 (2 * x1))) rfl (wantN rfl) (fun _ => by kernel_rfl) ?_
    refine SOps.val (v := .int .i64 (w64 (2 * x1))) rfl (wantN rfl) (fun _ => by kernel_rfl) ?_
    refine SOps.nil ?_
    obtain ⟨Hr, hr, h⟩ := h
    exact SW.ret (retQ.mk (.int .i64 (w64 (2 * x1))) (res1 rfl rfl) hr ⟨w64 (2 * x1), rfl, h⟩)

/-! ### lading/ladingref01.ReadShort: function 59 -/
def ladingref01_ReadShort.r2 (F : Nat) (K : Int → Int → Int → Int → SH → Prop) (R2 : ByteArray → Int → Nat → Int → Int → Int → SH → Prop) (s76 : ByteArray) (x77 : Int) (b78 : Nat) (x79 : Int) (x80 : Int) (x81 : Int) (H : SH) : Prop :=
  (x81 ≥ x77 →
    0 ≤ x81 ∧
    x81 < (s76.size : Int) ∧
    R2 s76 x77 b78 x79 (w64 ((w64 (128 * x80)) + ((w64 (bt s76 x81)).tmod 128))) (w64 (x81 - 1)) H
  ) ∧ (¬ (x81 ≥ x77) →
    SH.wrs H (b78, 0) 4 ∧
    ∃ (x86 : Int) (x87 : Int) (x88 : Int) (x89 : Int),
    SH.row (SH.setl H (b78, 0) [.int .i64 x80, .int .i64 (w64 (x79 + 1)), .int .i64 0, .int .i64 0]) (some (b78, 0)) [.int .i64 x86, .int .i64 x87, .int .i64 x88, .int .i64 x89] ∧
    ∃ Hr, SH.le Hr (SH.setl H (b78, 0) [.int .i64 x80, .int .i64 (w64 (x79 + 1)), .int .i64 0, .int .i64 0]) ∧ K x86 x87 x88 x89 Hr
  )
def ladingref01_ReadShort.l2 (F : Nat) (K : Int → Int → Int → Int → SH → Prop) : Nat → ByteArray → Int → Nat → Int → Int → Int → SH → Prop
  | 0, _, _, _, _, _, _, _ => False
  | k + 1, s76, x77, b78, x79, x80, x81, H => ladingref01_ReadShort.r2 F K (ladingref01_ReadShort.l2 F K k) s76 x77 b78 x79 x80 x81 H
def ladingref01_ReadShort.j3 (F : Nat) (K : Int → Int → Int → Int → SH → Prop) (s72 : ByteArray) (x73 : Int) (b74 : Nat) (x75 : Int) (H : SH) : Prop :=
  ladingref01_ReadShort.l2 F K F s72 x73 b74 x75 0 x75 H
def ladingref01_ReadShort.j1 (F : Nat) (K : Int → Int → Int → Int → SH → Prop) (s40 : ByteArray) (x41 : Int) (b42 : Nat) (x43 : Int) (H : SH) : Prop :=
  (x43 = (w64 (x41 + 8)) →
    SH.wrs H (b42, 0) 4 ∧
    ∃ (x50 : Int) (x51 : Int) (x52 : Int) (x53 : Int),
    SH.row (SH.setl H (b42, 0) [.int .i64 0, .int .i64 x41, .int .i64 4, .int .i64 x41]) (some (b42, 0)) [.int .i64 x50, .int .i64 x51, .int .i64 x52, .int .i64 x53] ∧
    ∃ Hr, SH.le Hr (SH.setl H (b42, 0) [.int .i64 0, .int .i64 x41, .int .i64 4, .int .i64 x41]) ∧ K x50 x51 x52 x53 Hr
  ) ∧ (¬ (x43 = (w64 (x41 + 8))) →
    (x43 = (s40.size : Int) →
      SH.wrs H (b42, 0) 4 ∧
      ∃ (x57 : Int) (x58 : Int) (x59 : Int) (x60 : Int),
      SH.row (SH.setl H (b42, 0) [.int .i64 0, .int .i64 x41, .int .i64 3, .int .i64 (s40.size : Int)]) (some (b42, 0)) [.int .i64 x57, .int .i64 x58, .int .i64 x59, .int .i64 x60] ∧
      ∃ Hr, SH.le Hr (SH.setl H (b42, 0) [.int .i64 0, .int .i64 x41, .int .i64 3, .int .i64 (s40.size : Int)]) ∧ K x57 x58 x59 x60 Hr
    ) ∧ (¬ (x43 = (s40.size : Int)) →
      0 ≤ x43 ∧
      x43 < (s40.size : Int) ∧
      ((bt s40 x43) = 0 →
        (x43 > x41 →
          SH.wrs H (b42, 0) 4 ∧
          ∃ (x67 : Int) (x68 : Int) (x69 : Int) (x70 : Int),
          SH.row (SH.setl H (b42, 0) [.int .i64 0, .int .i64 x41, .int .i64 4, .int .i64 x41]) (some (b42, 0)) [.int .i64 x67, .int .i64 x68, .int .i64 x69, .int .i64 x70] ∧
          ∃ Hr, SH.le Hr (SH.setl H (b42, 0) [.int .i64 0, .int .i64 x41, .int .i64 4, .int .i64 x41]) ∧ K x67 x68 x69 x70 Hr
        ) ∧ (¬ (x43 > x41) →
          ladingref01_ReadShort.j3 F K s40 x41 b42 x43 H
        )
      ) ∧ (¬ ((bt s40 x43) = 0) →
        ladingref01_ReadShort.j3 F K s40 x41 b42 x43 H
      )
    )
  )
def ladingref01_ReadShort.j2 (F : Nat) (K : Int → Int → Int → Int → SH → Prop) (s28 : ByteArray) (x29 : Int) (b30 : Nat) (x31 : Int) (H : SH) : Prop :=
  ladingref01_ReadShort.j1 F K s28 x29 b30 x31 H
def ladingref01_ReadShort.r1 (F : Nat) (K : Int → Int → Int → Int → SH → Prop) (R1 : ByteArray → Int → Nat → Int → SH → Prop) (s19 : ByteArray) (x20 : Int) (b21 : Nat) (x22 : Int) (H : SH) : Prop :=
  (x22 < (s19.size : Int) →
    0 ≤ x22 ∧
    x22 < (s19.size : Int) ∧
    ((bt s19 x22) ≥ 128 →
      (x22 < (w64 (x20 + 8)) →
        R1 s19 x20 b21 (w64 (x22 + 1)) H
      ) ∧ (¬ (x22 < (w64 (x20 + 8))) →
        ladingref01_ReadShort.j2 F K s19 x20 b21 x22 H
      )
    ) ∧ (¬ ((bt s19 x22) ≥ 128) →
      ladingref01_ReadShort.j2 F K s19 x20 b21 x22 H
    )
  ) ∧ (¬ (x22 < (s19.size : Int)) →
    ladingref01_ReadShort.j2 F K s19 x20 b21 x22 H
  )
def ladingref01_ReadShort.l1 (F : Nat) (K : Int → Int → Int → Int → SH → Prop) : Nat → ByteArray → Int → Nat → Int → SH → Prop
  | 0, _, _, _, _, _ => False
  | k + 1, s19, x20, b21, x22, H => ladingref01_ReadShort.r1 F K (ladingref01_ReadShort.l1 F K k) s19 x20 b21 x22 H
def ladingref01_ReadShort.wp (F : Nat) (s1 : ByteArray) (x2 : Int) (H : SH) (K : Int → Int → Int → Int → SH → Prop) : Prop :=
  ∀ b3, H b3 = none →
  (x2 < 0 →
    SH.wrs (SH.upd H b3 ⟨[.int .i64 0, .int .i64 0, .int .i64 0, .int .i64 0], 62, false, 4⟩) (b3, 0) 4 ∧
    ∃ (x7 : Int) (x8 : Int) (x9 : Int) (x10 : Int),
    SH.row (SH.setl (SH.upd H b3 ⟨[.int .i64 0, .int .i64 0, .int .i64 0, .int .i64 0], 62, false, 4⟩) (b3, 0) [.int .i64 0, .int .i64 x2, .int .i64 1, .int .i64 x2]) (some (b3, 0)) [.int .i64 x7, .int .i64 x8, .int .i64 x9, .int .i64 x10] ∧
    ∃ Hr, SH.le Hr (SH.setl (SH.upd H b3 ⟨[.int .i64 0, .int .i64 0, .int .i64 0, .int .i64 0], 62, false, 4⟩) (b3, 0) [.int .i64 0, .int .i64 x2, .int .i64 1, .int .i64 x2]) ∧ K x7 x8 x9 x10 Hr
  ) ∧ (¬ (x2 < 0) →
    (x2 > (s1.size : Int) →
      SH.wrs (SH.upd H b3 ⟨[.int .i64 0, .int .i64 0, .int .i64 0, .int .i64 0], 62, false, 4⟩) (b3, 0) 4 ∧
      ∃ (x14 : Int) (x15 : Int) (x16 : Int) (x17 : Int),
      SH.row (SH.setl (SH.upd H b3 ⟨[.int .i64 0, .int .i64 0, .int .i64 0, .int .i64 0], 62, false, 4⟩) (b3, 0) [.int .i64 0, .int .i64 x2, .int .i64 1, .int .i64 x2]) (some (b3, 0)) [.int .i64 x14, .int .i64 x15, .int .i64 x16, .int .i64 x17] ∧
      ∃ Hr, SH.le Hr (SH.setl (SH.upd H b3 ⟨[.int .i64 0, .int .i64 0, .int .i64 0, .int .i64 0], 62, false, 4⟩) (b3, 0) [.int .i64 0, .int .i64 x2, .int .i64 1, .int .i64 x2]) ∧ K x14 x15 x16 x17 Hr
    ) ∧ (¬ (x2 > (s1.size : Int)) →
      ladingref01_ReadShort.l1 F K F s1 x2 b3 x2 (SH.upd H b3 ⟨[.int .i64 0, .int .i64 0, .int .i64 0, .int .i64 0], 62, false, 4⟩)
    )
  )
set_option maxHeartbeats 8000000 in
theorem ladingref01_ReadShort.sound (F : Nat) (s1 : ByteArray) (x2 : Int) (H : SH) (K : Int → Int → Int → Int → SH → Prop) (h : ladingref01_ReadShort.wp F s1 x2 H K) : SCalls Tryd.prog 59 #[.string s1, .int .i64 x2] H (fun v H' => ∃ (x111 : Int) (x112 : Int) (x113 : Int) (x114 : Int), v = .agg #[.int .i64 x111, .int .i64 x112, .int .i64 x113, .int .i64 x114] ∧ K x111 x112 x113 x114 H') := by
  unfold ladingref01_ReadShort.wp at h
  refine SCalls.body Tryd.func59 rfl (Nat.le_of_ble_eq_true rfl) ?_
  refine SW.seq ?_
  refine SW.region ?_
  refine SOps.alloc rfl rfl (wantN rfl) (z := .agg #[.int .i64 0, .int .i64 0, .int .i64 0, .int .i64 0]) (by kernel_rfl) (fun b3 c4 => ?_)
  replace h := h b3 c4
  refine SOps.nil ?_
  refine SW.seq ?_
  refine SW.seq ?_
  refine SW.region ?_
  refine SOps.val (v := .int .i64 x2) rfl (wantN rfl) (fun _ => by kernel_rfl) ?_
  refine SOps.val (v := .bool (decide (x2 < 0))) rfl (wantN rfl) (fun _ => by kernel_rfl) ?_
  refine SOps.val (v := .bool (decide (x2 < 0))) rfl (wantN rfl) (fun _ => by kernel_rfl) ?_
  by_cases c5 : x2 < 0
  · replace h := h.1 c5
    have dc5 : (decide (x2 < 0)) = true := (decide_eq_true c5)
    refine SOps.off rfl (wantX (c := decide (x2 < 0)) rfl rfl rfl dc5) ?_
    refine SOps.off rfl (wantX (c := decide (x2 < 0)) rfl rfl rfl dc5) ?_
    refine SOps.off rfl (wantX (c := decide (x2 < 0)) rfl rfl rfl dc5) ?_
    refine SOps.off rfl (wantX (c := decide (x2 < 0)) rfl rfl rfl dc5) ?_
    refine SOps.val (v := .bool true) rfl (wantN rfl) (fun w => ev_pickT (v := .bool true) rfl (t := decide (x2 < 0)) rfl dc5 rfl w) ?_
    refine SOps.nil ?_
    refine SW.cond_t (t := true) rfl rfl ?_
    refine SW.seq ?_
    refine SW.region ?_
    refine SOps.val (v := .int .i64 x2) rfl (wantN rfl) (fun _ => by kernel_rfl) ?_
    refine SOps.val (v := .int .i64 x2) rfl (wantN rfl) (fun _ => by kernel_rfl) ?_
    refine SOps.val (v := .agg #[.int .i64 0, .int .i64 x2, .int .i64 1, .int .i64 x2]) rfl (wantN rfl) (fun _ => by kernel_rfl) ?_
    obtain ⟨c6, h⟩ := h
    refine SOps.storeL (p := (b3, 0)) (v := .agg #[.int .i64 0, .int .i64 x2, .int .i64 1, .int .i64 x2]) (cs := [.int .i64 0, .int .i64 x2, .int .i64 1, .int .i64 x2]) rfl rfl (wantN rfl) (size := 4) (by kernel_rfl) rfl rfl rfl rfl (by simp [Value.oneCell', errV_one, pv, sv]) c6 ?_
    refine SOps.nil ?_
    obtain ⟨x7, x8, x9, x10, c11, Hr, hr, h⟩ := h
    exact SW.ret (retQ.mkM (.agg #[.int .i64 x7, .int .i64 x8, .int .i64 x9, .int .i64 x10]) (resCN (size := 4) (p := (b3, 0)) (T := 62) rfl rfl (fun _ => by kernel_rfl) (by kernel_rfl) rfl c11) hr ⟨x7, x8, x9, x10, rfl, h⟩)
  · replace h := h.2 c5
    have dc5 : (decide (x2 < 0)) = false := (decide_eq_false c5)
    refine SOps.val (v := .int .i64 x2) rfl (wantY (c := decide (x2 < 0)) rfl rfl rfl dc5) (fun _ => by kernel_rfl) ?_
    refine SOps.val (v := .string s1) rfl (wantY (c := decide (x2 < 0)) rfl rfl rfl dc5) (fun _ => by kernel_rfl) ?_
    refine SOps.val (v := .int .i64 (s1.size : Int)) rfl (wantY (c := decide (x2 < 0)) rfl rfl rfl dc5) (fun _ => by kernel_rfl) ?_
    refine SOps.val (v := .bool (decide (x2 > (s1.size : Int)))) rfl (wantY (c := decide (x2 < 0)) rfl rfl rfl dc5) (fun _ => by kernel_rfl) ?_
    refine SOps.val (v := .bool (decide (x2 > (s1.size : Int)))) rfl (wantN rfl) (fun w => ev_pickF (v := .bool (decide (x2 > (s1.size : Int)))) rfl (t := decide (x2 < 0)) rfl dc5 rfl w) ?_
    refine SOps.nil ?_
    by_cases c12 : x2 > (s1.size : Int)
    · replace h := h.1 c12
      have dc12 : (decide (x2 > (s1.size : Int))) = true := (decide_eq_true c12)
      refine SW.cond_t (t := decide (x2 > (s1.size : Int))) rfl dc12 ?_
      refine SW.seq ?_
      refine SW.region ?_
      refine SOps.val (v := .int .i64 x2) rfl (wantN rfl) (fun _ => by kernel_rfl) ?_
      refine SOps.val (v := .int .i64 x2) rfl (wantN rfl) (fun _ => by kernel_rfl) ?_
      refine SOps.val (v := .agg #[.int .i64 0, .int .i64 x2, .int .i64 1, .int .i64 x2]) rfl (wantN rfl) (fun _ => by kernel_rfl) ?_
      obtain ⟨c13, h⟩ := h
      refine SOps.storeL (p := (b3, 0)) (v := .agg #[.int .i64 0, .int .i64 x2, .int .i64 1, .int .i64 x2]) (cs := [.int .i64 0, .int .i64 x2, .int .i64 1, .int .i64 x2]) rfl rfl (wantN rfl) (size := 4) (by kernel_rfl) rfl rfl rfl rfl (by simp [Value.oneCell', errV_one, pv, sv]) c13 ?_
      refine SOps.nil ?_
      obtain ⟨x14, x15, x16, x17, c18, Hr, hr, h⟩ := h
      exact SW.ret (retQ.mkM (.agg #[.int .i64 x14, .int .i64 x15, .int .i64 x16, .int .i64 x17]) (resCN (size := 4) (p := (b3, 0)) (T := 62) rfl rfl (fun _ => by kernel_rfl) (by kernel_rfl) rfl c18) hr ⟨x14, x15, x16, x17, rfl, h⟩)
    · replace h := h.2 c12
      have dc12 : (decide (x2 > (s1.size : Int))) = false := (decide_eq_false c12)
      refine SW.cond_f (t := decide (x2 > (s1.size : Int))) rfl dc12 ?_
      refine SW.skip ?_
      refine SW.seq ?_
      refine SW.region ?_
      refine SOps.val (v := .int .i64 x2) rfl (wantN rfl) (fun _ => by kernel_rfl) ?_
      refine SOps.val (v := .int .i64 x2) rfl (wantN rfl) (fun _ => by kernel_rfl) ?_
      refine SOps.nil ?_
      refine SW.seqJ (fun fr H => ∃ (g : Fr) (s40 : ByteArray) (x41 : Int) (b42 : Nat) (x43 : Int), fr = g.upds [(0, (.string s40 : Value)), (1, (.int .i64 x41 : Value)), (4, pv (some (b42, 0))), (5, (.int .i64 x43 : Value))] ∧ ladingref01_ReadShort.j1 F K s40 x41 b42 x43 H) ?_ ?_
      · clear h
        rintro fr H ⟨g, s40, x41, b42, x43, rfl, h⟩
        unfold ladingref01_ReadShort.j1 at h
        refine SW.seq ?_
        refine SW.seq ?_
        refine SW.region ?_
        refine SOps.val (v := .int .i64 x43) rfl (wantN rfl) (fun _ => by kernel_rfl) ?_
        refine SOps.val (v := .int .i64 x41) rfl (wantN rfl) (fun _ => by kernel_rfl) ?_
        refine SOps.val (v := .int .i64 (w64 (x41 + 8))) rfl (wantN rfl) (fun _ => by kernel_rfl) ?_
        refine SOps.val (v := .bool (x43 == (w64 (x41 + 8)))) rfl (wantN rfl) (fun _ => by kernel_rfl) ?_
        refine SOps.nil ?_
        by_cases c48 : x43 = (w64 (x41 + 8))
        · replace h := h.1 c48
          have dc48 : (x43 == (w64 (x41 + 8))) = true := (beq_iff_eq.mpr c48)
          refine SW.cond_t (t := (x43 == (w64 (x41 + 8)))) rfl dc48 ?_
          refine SW.seq ?_
          refine SW.region ?_
          refine SOps.val (v := .int .i64 x41) rfl (wantN rfl) (fun _ => by kernel_rfl) ?_
          refine SOps.val (v := .int .i64 x41) rfl (wantN rfl) (fun _ => by kernel_rfl) ?_
          refine SOps.val (v := .agg #[.int .i64 0, .int .i64 x41, .int .i64 4, .int .i64 x41]) rfl (wantN rfl) (fun _ => by kernel_rfl) ?_
          obtain ⟨c49, h⟩ := h
          refine SOps.storeL (p := (b42, 0)) (v := .agg #[.int .i64 0, .int .i64 x41, .int .i64 4, .int .i64 x41]) (cs := [.int .i64 0, .int .i64 x41, .int .i64 4, .int .i64 x41]) rfl rfl (wantN rfl) (size := 4) (by kernel_rfl) rfl rfl rfl rfl (by simp [Value.oneCell', errV_one, pv, sv]) c49 ?_
          refine SOps.nil ?_
          obtain ⟨x50, x51, x52, x53, c54, Hr, hr, h⟩ := h
          exact SW.ret (retQ.mkM (.agg #[.int .i64 x50, .int .i64 x51, .int .i64 x52, .int .i64 x53]) (resCN (size := 4) (p := (b42, 0)) (T := 62) rfl rfl (fun _ => by kernel_rfl) (by kernel_rfl) rfl c54) hr ⟨x50, x51, x52, x53, rfl, h⟩)
        · replace h := h.2 c48
          have dc48 : (x43 == (w64 (x41 + 8))) = false := (beq_eq_false_iff_ne.mpr c48)
          refine SW.cond_f (t := (x43 == (w64 (x41 + 8)))) rfl dc48 ?_
          refine SW.skip ?_
          refine SW.seq ?_
          refine SW.seq ?_
          refine SW.region ?_
          refine SOps.val (v := .int .i64 x43) rfl (wantN rfl) (fun _ => by kernel_rfl) ?_
          refine SOps.val (v := .string s40) rfl (wantN rfl) (fun _ => by kernel_rfl) ?_
          refine SOps.val (v := .int .i64 (s40.size : Int)) rfl (wantN rfl) (fun _ => by kernel_rfl) ?_
          refine SOps.val (v := .bool (x43 == (s40.size : Int))) rfl (wantN rfl) (fun _ => by kernel_rfl) ?_
          refine SOps.nil ?_
          by_cases c55 : x43 = (s40.size : Int)
          · replace h := h.1 c55
            have dc55 : (x43 == (s40.size : Int)) = true := (beq_iff_eq.mpr c55)
            refine SW.cond_t (t := (x43 == (s40.size : Int))) rfl dc55 ?_
            refine SW.seq ?_
            refine SW.region ?_
            refine SOps.val (v := .int .i64 x41) rfl (wantN rfl) (fun _ => by kernel_rfl) ?_
            refine SOps.val (v := .string s40) rfl (wantN rfl) (fun _ => by kernel_rfl) ?_
            refine SOps.val (v := .int .i64 (s40.size : Int)) rfl (wantN rfl) (fun _ => by kernel_rfl) ?_
            refine SOps.val (v := .agg #[.int .i64 0, .int .i64 x41, .int .i64 3, .int .i64 (s40.size : Int)]) rfl (wantN rfl) (fun _ => by kernel_rfl) ?_
            obtain ⟨c56, h⟩ := h
            refine SOps.storeL (p := (b42, 0)) (v := .agg #[.int .i64 0, .int .i64 x41, .int .i64 3, .int .i64 (s40.size : Int)]) (cs := [.int .i64 0, .int .i64 x41, .int .i64 3, .int .i64 (s40.size : Int)]) rfl rfl (wantN rfl) (size := 4) (by kernel_rfl) rfl rfl rfl rfl (by simp [Value.oneCell', errV_one, pv, sv]) c56 ?_
            refine SOps.nil ?_
            obtain ⟨x57, x58, x59, x60, c61, Hr, hr, h⟩ := h
            exact SW.ret (retQ.mkM (.agg #[.int .i64 x57, .int .i64 x58, .int .i64 x59, .int .i64 x60]) (resCN (size := 4) (p := (b42, 0)) (T := 62) rfl rfl (fun _ => by kernel_rfl) (by kernel_rfl) rfl c61) hr ⟨x57, x58, x59, x60, rfl, h⟩)
          · replace h := h.2 c55
            have dc55 : (x43 == (s40.size : Int)) = false := (beq_eq_false_iff_ne.mpr c55)
            refine SW.cond_f (t := (x43 == (s40.size : Int))) rfl dc55 ?_
            refine SW.skip ?_
            refine SW.seqJ (fun fr H => ∃ (g : Fr) (s72 : ByteArray) (x73 : Int) (b74 : Nat) (x75 : Int), fr = g.upds [(0, (.string s72 : Value)), (1, (.int .i64 x73 : Value)), (4, pv (some (b74, 0))), (5, (.int .i64 x75 : Value))] ∧ ladingref01_ReadShort.j3 F K s72 x73 b74 x75 H) ?_ ?_
            · clear h
              rintro fr H ⟨g, s72, x73, b74, x75, rfl, h⟩
              unfold ladingref01_ReadShort.j3 at h
              refine SW.seq ?_
              refine SW.region ?_
              refine SOps.val (v := .int .i64 0) rfl (wantN rfl) (fun _ => by kernel_rfl) ?_
              refine SOps.nil ?_
              refine SW.seq ?_
              refine SW.seq ?_
              refine SW.region ?_
              refine SOps.val (v := .int .i64 x75) rfl (wantN rfl) (fun _ => by kernel_rfl) ?_
              refine SOps.val (v := .int .i64 x75) rfl (wantN rfl) (fun _ => by kernel_rfl) ?_
              refine SOps.nil ?_
              refine SW.block ?_
              refine SW.loop (fun k2 fr H => ∃ (g : Fr) (s76 : ByteArray) (x77 : Int) (b78 : Nat) (x79 : Int) (x80 : Int) (x81 : Int), fr = g.upds [(0, (.string s76 : Value)), (1, (.int .i64 x77 : Value)), (4, pv (some (b78, 0))), (5, (.int .i64 x79 : Value)), (6, (.int .i64 x80 : Value)), (7, (.int .i64 x81 : Value))] ∧ ladingref01_ReadShort.l2 F K k2 s76 x77 b78 x79 x80 x81 H) F ⟨_, s72, x73, b74, x75, 0, x75, (Fr.upds_self _ _ ⟨rfl, rfl, rfl, rfl, rfl, rfl, trivial⟩), h⟩ ?_
              clear h
              rintro k2 fr H ⟨g, s76, x77, b78, x79, x80, x81, rfl, h⟩
              cases k2 with
              | zero => exact h.elim
              | succ k2 =>
                replace h : ladingref01_ReadShort.r2 F K (ladingref01_ReadShort.l2 F K k2) s76 x77 b78 x79 x80 x81 H := h
                unfold ladingref01_ReadShort.r2 at h
                refine SW.seq ?_
                refine SW.seq ?_
                refine SW.region ?_
                refine SOps.val (v := .int .i64 x81) rfl (wantN rfl) (fun _ => by kernel_rfl) ?_
                refine SOps.val (v := .int .i64 x77) rfl (wantN rfl) (fun _ => by kernel_rfl) ?_
                refine SOps.val (v := .bool (decide (x81 ≥ x77))) rfl (wantN rfl) (fun _ => by kernel_rfl) ?_
                refine SOps.nil ?_
                by_cases c82 : x81 ≥ x77
                · replace h := h.1 c82
                  have dc82 : (decide (x81 ≥ x77)) = true := (decide_eq_true c82)
                  refine SW.cond_t (t := decide (x81 ≥ x77)) rfl dc82 ?_
                  refine SW.skip ?_
                  refine SW.seq ?_
                  refine SW.block ?_
                  refine SW.region ?_
                  refine SOps.val (v := .int .i64 x80) rfl (wantN rfl) (fun _ => by kernel_rfl) ?_
                  refine SOps.val (v := .int .i64 (w64 (128 * x80))) rfl (wantN rfl) (fun _ => by kernel_rfl) ?_
                  refine SOps.val (v := .string s76) rfl (wantN rfl) (fun _ => by kernel_rfl) ?_
                  refine SOps.val (v := .int .i64 x81) rfl (wantN rfl) (fun _ => by kernel_rfl) ?_
                  obtain ⟨c83, c84, h⟩ := h
                  refine SOps.val (v := .int .u8 (bt s76 x81)) rfl (wantN rfl) (fun w => ev_idxB rfl Tryd.underlying9 rfl rfl c83 c84 w) ?_
                  refine SOps.val (v := .int .i64 (w64 (bt s76 x81))) rfl (wantN rfl) (fun _ => by kernel_rfl) ?_
                  refine SOps.val (v := .int .i64 ((w64 (bt s76 x81)).tmod 128)) rfl (wantN rfl) (fun w => ev_rem rfl rfl rfl (by decide) w) ?_
                  refine SOps.val (v := .int .i64 (w64 ((w64 (128 * x80)) + ((w64 (bt s76 x81)).tmod 128)))) rfl (wantN rfl) (fun _ => by kernel_rfl) ?_
                  refine SOps.val (v := .int .i64 (w64 ((w64 (128 * x80)) + ((w64 (bt s76 x81)).tmod 128)))) rfl (wantN rfl) (fun _ => by kernel_rfl) ?_
                  refine SOps.nil ?_
                  refine SW.region ?_
                  refine SOps.val (v := .int .i64 x81) rfl (wantN rfl) (fun _ => by kernel_rfl) ?_
                  refine SOps.val (v := .int .i64 (w64 (x81 - 1))) rfl (wantN rfl) (fun _ => by kernel_rfl) ?_
                  refine SOps.val (v := .int .i64 (w64 (x81 - 1))) rfl (wantN rfl) (fun _ => by kernel_rfl) ?_
                  refine SOps.nil ?_
                  exact ⟨k2, Nat.lt_succ_self k2, _, s76, x77, b78, x79, w64 ((w64 (128 * x80)) + ((w64 (bt s76 x81)).tmod 128)), w64 (x81 - 1), (Fr.upds_self _ _ ⟨rfl, rfl, rfl, rfl, rfl, rfl, trivial⟩), h⟩
                · replace h := h.2 c82
                  have dc82 : (decide (x81 ≥ x77)) = false := (decide_eq_false c82)
                  refine SW.cond_f (t := decide (x81 ≥ x77)) rfl dc82 ?_
                  refine SW.exit ?_
                  refine SW.seq ?_
                  refine SW.region ?_
                  refine SOps.val (v := .int .i64 x80) rfl (wantN rfl) (fun _ => by kernel_rfl) ?_
                  refine SOps.val (v := .int .i64 x79) rfl (wantN rfl) (fun _ => by kernel_rfl) ?_
                  refine SOps.val (v := .int .i64 (w64 (x79 + 1))) rfl (wantN rfl) (fun _ => by kernel_rfl) ?_
                  refine SOps.val (v := .agg #[.int .i64 x80, .int .i64 (w64 (x79 + 1)), .int .i64 0, .int .i64 0]) rfl (wantN rfl) (fun _ => by kernel_rfl) ?_
                  obtain ⟨c85, h⟩ := h
                  refine SOps.storeL (p := (b78, 0)) (v := .agg #[.int .i64 x80, .int .i64 (w64 (x79 + 1)), .int .i64 0, .int .i64 0]) (cs := [.int .i64 x80, .int .i64 (w64 (x79 + 1)), .int .i64 0, .int .i64 0]) rfl rfl (wantN rfl) (size := 4) (by kernel_rfl) rfl rfl rfl rfl (by simp [Value.oneCell', errV_one, pv, sv]) c85 ?_
                  refine SOps.nil ?_
                  obtain ⟨x86, x87, x88, x89, c90, Hr, hr, h⟩ := h
                  exact SW.ret (retQ.mkM (.agg #[.int .i64 x86, .int .i64 x87, .int .i64 x88, .int .i64 x89]) (resCN (size := 4) (p := (b78, 0)) (T := 62) rfl rfl (fun _ => by kernel_rfl) (by kernel_rfl) rfl c90) hr ⟨x86, x87, x88, x89, rfl, h⟩)
            · skip
              refine SW.seq ?_
              refine SW.region ?_
              refine SOps.val (v := .string s40) rfl (wantN rfl) (fun _ => by kernel_rfl) ?_
              refine SOps.val (v := .int .i64 x43) rfl (wantN rfl) (fun _ => by kernel_rfl) ?_
              obtain ⟨c62, c63, h⟩ := h
              refine SOps.val (v := .int .u8 (bt s40 x43)) rfl (wantN rfl) (fun w => ev_idxB rfl Tryd.underlying9 rfl rfl c62 c63 w) ?_
              refine SOps.val (v := .bool ((bt s40 x43) == 0)) rfl (wantN rfl) (fun _ => by kernel_rfl) ?_
              refine SOps.val (v := .bool ((bt s40 x43) == 0)) rfl (wantN rfl) (fun _ => by kernel_rfl) ?_
              by_cases c64 : (bt s40 x43) = 0
              · replace h := h.1 c64
                have dc64 : ((bt s40 x43) == 0) = true := (beq_iff_eq.mpr c64)
                refine SOps.val (v := .int .i64 x43) rfl (wantY (c := ((bt s40 x43) == 0)) rfl rfl rfl dc64) (fun _ => by kernel_rfl) ?_
                refine SOps.val (v := .int .i64 x41) rfl (wantY (c := ((bt s40 x43) == 0)) rfl rfl rfl dc64) (fun _ => by kernel_rfl) ?_
                refine SOps.val (v := .bool (decide (x43 > x41))) rfl (wantY (c := ((bt s40 x43) == 0)) rfl rfl rfl dc64) (fun _ => by kernel_rfl) ?_
                refine SOps.val (v := .bool (decide (x43 > x41))) rfl (wantN rfl) (fun w => ev_pickT (v := .bool (decide (x43 > x41))) rfl (t := ((bt s40 x43) == 0)) rfl dc64 rfl w) ?_
                refine SOps.nil ?_
                by_cases c65 : x43 > x41
                · replace h := h.1 c65
                  have dc65 : (decide (x43 > x41)) = true := (decide_eq_true c65)
                  refine SW.cond_t (t := decide (x43 > x41)) rfl dc65 ?_
                  refine SW.seq ?_
                  refine SW.region ?_
                  refine SOps.val (v := .int .i64 x41) rfl (wantN rfl) (fun _ => by kernel_rfl) ?_
                  refine SOps.val (v := .int .i64 x41) rfl (wantN rfl) (fun _ => by kernel_rfl) ?_
                  refine SOps.val (v := .agg #[.int .i64 0, .int .i64 x41, .int .i64 4, .int .i64 x41]) rfl (wantN rfl) (fun _ => by kernel_rfl) ?_
                  obtain ⟨c66, h⟩ := h
                  refine SOps.storeL (p := (b42, 0)) (v := .agg #[.int .i64 0, .int .i64 x41, .int .i64 4, .int .i64 x41]) (cs := [.int .i64 0, .int .i64 x41, .int .i64 4, .int .i64 x41]) rfl rfl (wantN rfl) (size := 4) (by kernel_rfl) rfl rfl rfl rfl (by simp [Value.oneCell', errV_one, pv, sv]) c66 ?_
                  refine SOps.nil ?_
                  obtain ⟨x67, x68, x69, x70, c71, Hr, hr, h⟩ := h
                  exact SW.ret (retQ.mkM (.agg #[.int .i64 x67, .int .i64 x68, .int .i64 x69, .int .i64 x70]) (resCN (size := 4) (p := (b42, 0)) (T := 62) rfl rfl (fun _ => by kernel_rfl) (by kernel_rfl) rfl c71) hr ⟨x67, x68, x69, x70, rfl, h⟩)
                · replace h := h.2 c65
                  have dc65 : (decide (x43 > x41)) = false := (decide_eq_false c65)
                  refine SW.cond_f (t := decide (x43 > x41)) rfl dc65 ?_
                  refine SW.skip ?_
                  exact ⟨_, s40, x41, b42, x43, Fr.upds_self _ _ ⟨rfl, rfl, rfl, rfl, trivial⟩, h⟩
              · replace h := h.2 c64
                have dc64 : ((bt s40 x43) == 0) = false := (beq_eq_false_iff_ne.mpr c64)
                refine SOps.off rfl (wantX (c := ((bt s40 x43) == 0)) rfl rfl rfl dc64) ?_
                refine SOps.off rfl (wantX (c := ((bt s40 x43) == 0)) rfl rfl rfl dc64) ?_
                refine SOps.off rfl (wantX (c := ((bt s40 x43) == 0)) rfl rfl rfl dc64) ?_
                refine SOps.val (v := .bool false) rfl (wantN rfl) (fun w => ev_pickF (v := .bool false) rfl (t := ((bt s40 x43) == 0)) rfl dc64 rfl w) ?_
                refine SOps.nil ?_
                refine SW.cond_f (t := false) rfl rfl ?_
                refine SW.skip ?_
                exact ⟨_, s40, x41, b42, x43, Fr.upds_self _ _ ⟨rfl, rfl, rfl, rfl, trivial⟩, h⟩
      · skip
        refine SW.blockJ (fun fr H => ∃ (g : Fr) (s28 : ByteArray) (x29 : Int) (b30 : Nat) (x31 : Int), fr = g.upds [(0, (.string s28 : Value)), (1, (.int .i64 x29 : Value)), (4, pv (some (b30, 0))), (5, (.int .i64 x31 : Value))] ∧ ladingref01_ReadShort.j2 F K s28 x29 b30 x31 H) ?_ ?_
        · clear h
          rintro fr H ⟨g, s28, x29, b30, x31, rfl, h⟩
          unfold ladingref01_ReadShort.j2 at h
          exact ⟨_, s28, x29, b30, x31, Fr.upds_self _ _ ⟨rfl, rfl, rfl, rfl, trivial⟩, h⟩
        · skip
          refine SW.loop (fun k1 fr H => ∃ (g : Fr) (s19 : ByteArray) (x20 : Int) (b21 : Nat) (x22 : Int), fr = g.upds [(0, (.string s19 : Value)), (1, (.int .i64 x20 : Value)), (4, pv (some (b21, 0))), (5, (.int .i64 x22 : Value))] ∧ ladingref01_ReadShort.l1 F K k1 s19 x20 b21 x22 H) F ⟨_, s1, x2, b3, x2, (Fr.upds_self _ _ ⟨rfl, rfl, rfl, rfl, trivial⟩), h⟩ ?_
          clear h
          rintro k1 fr H ⟨g, s19, x20, b21, x22, rfl, h⟩
          cases k1 with
          | zero => exact h.elim
          | succ k1 =>
            replace h : ladingref01_ReadShort.r1 F K (ladingref01_ReadShort.l1 F K k1) s19 x20 b21 x22 H := h
            unfold ladingref01_ReadShort.r1 at h
            refine SW.seq ?_
            refine SW.seq ?_
            refine SW.region ?_
            refine SOps.val (v := .int .i64 x22) rfl (wantN rfl) (fun _ => by kernel_rfl) ?_
            refine SOps.val (v := .string s19) rfl (wantN rfl) (fun _ => by kernel_rfl) ?_
            refine SOps.val (v := .int .i64 (s19.size : Int)) rfl (wantN rfl) (fun _ => by kernel_rfl) ?_
            refine SOps.val (v := .bool (decide (x22 < (s19.size : Int)))) rfl (wantN rfl) (fun _ => by kernel_rfl) ?_
            refine SOps.val (v := .bool (decide (x22 < (s19.size : Int)))) rfl (wantN rfl) (fun _ => by kernel_rfl) ?_
            by_cases c23 : x22 < (s19.size : Int)
            · replace h := h.1 c23
              have dc23 : (decide (x22 < (s19.size : Int))) = true := (decide_eq_true c23)
              refine SOps.val (v := .string s19) rfl (wantY (c := decide (x22 < (s19.size : Int))) rfl rfl rfl dc23) (fun _ => by kernel_rfl) ?_
              refine SOps.val (v := .int .i64 x22) rfl (wantY (c := decide (x22 < (s19.size : Int))) rfl rfl rfl dc23) (fun _ => by kernel_rfl) ?_
              obtain ⟨c24, c25, h⟩ := h
              refine SOps.val (v := .int .u8 (bt s19 x22)) rfl (wantY (c := decide (x22 < (s19.size : Int))) rfl rfl rfl dc23) (fun w => ev_idxB rfl Tryd.underlying9 rfl rfl c24 c25 w) ?_
              refine SOps.val (v := .bool (decide ((bt s19 x22) ≥ 128))) rfl (wantY (c := decide (x22 < (s19.size : Int))) rfl rfl rfl dc23) (fun _ => by kernel_rfl) ?_
              refine SOps.val (v := .bool (decide ((bt s19 x22) ≥ 128))) rfl (wantN rfl) (fun w => ev_pickT (v := .bool (decide ((bt s19 x22) ≥ 128))) rfl (t := decide (x22 < (s19.size : Int))) rfl dc23 rfl w) ?_
              refine SOps.val (v := .bool (decide ((bt s19 x22) ≥ 128))) rfl (wantN rfl) (fun _ => by kernel_rfl) ?_
              by_cases c26 : (bt s19 x22) ≥ 128
              · replace h := h.1 c26
                have dc26 : (decide ((bt s19 x22) ≥ 128)) = true := (decide_eq_true c26)
                refine SOps.val (v := .int .i64 x22) rfl (wantY (c := decide ((bt s19 x22) ≥ 128)) rfl rfl rfl dc26) (fun _ => by kernel_rfl) ?_
                refine SOps.val (v := .int .i64 x20) rfl (wantY (c := decide ((bt s19 x22) ≥ 128)) rfl rfl rfl dc26) (fun _ => by kernel_rfl) ?_
                refine SOps.val (v := .int .i64 (w64 (x20 + 8))) rfl (wantY (c := decide ((bt s19 x22) ≥ 128)) rfl rfl rfl dc26) (fun _ => by kernel_rfl) ?_
                refine SOps.val (v := .bool (decide (x22 < (w64 (x20 + 8))))) rfl (wantY (c := decide ((bt s19 x22) ≥ 128)) rfl rfl rfl dc26) (fun _ => by kernel_rfl) ?_
                refine SOps.val (v := .bool (decide (x22 < (w64 (x20 + 8))))) rfl (wantN rfl) (fun w => ev_pickT (v := .bool (decide (x22 < (w64 (x20 + 8))))) rfl (t := decide ((bt s19 x22) ≥ 128)) rfl dc26 rfl w) ?_
                refine SOps.nil ?_
                by_cases c27 : x22 < (w64 (x20 + 8))
                · replace h := h.1 c27
                  have dc27 : (decide (x22 < (w64 (x20 + 8)))) = true := (decide_eq_true c27)
                  refine SW.cond_t (t := decide (x22 < (w64 (x20 + 8)))) rfl dc27 ?_
                  refine SW.skip ?_
                  refine SW.block ?_
                  refine SW.region ?_
                  refine SOps.val (v := .int .i64 x22) rfl (wantN rfl) (fun _ => by kernel_rfl) ?_
                  refine SOps.val (v := .int .i64 (w64 (x22 + 1))) rfl (wantN rfl) (fun _ => by kernel_rfl) ?_
                  refine SOps.val (v := .int .i64 (w64 (x22 + 1))) rfl (wantN rfl) (fun _ => by kernel_rfl) ?_
                  refine SOps.nil ?_
                  exact ⟨k1, Nat.lt_succ_self k1, _, s19, x20, b21, w64 (x22 + 1), (Fr.upds_self _ _ ⟨rfl, rfl, rfl, rfl, trivial⟩), h⟩
                · replace h := h.2 c27
                  have dc27 : (decide (x22 < (w64 (x20 + 8)))) = false := (decide_eq_false c27)
                  refine SW.cond_f (t := decide (x22 < (w64 (x20 + 8)))) rfl dc27 ?_
                  refine SW.exit ?_
                  exact ⟨_, s19, x20, b21, x22, Fr.upds_self _ _ ⟨rfl, rfl, rfl, rfl, trivial⟩, h⟩
              · replace h := h.2 c26
                have dc26 : (decide ((bt s19 x22) ≥ 128)) = false := (decide_eq_false c26)
                refine SOps.off rfl (wantX (c := decide ((bt s19 x22) ≥ 128)) rfl rfl rfl dc26) ?_
                refine SOps.off rfl (wantX (c := decide ((bt s19 x22) ≥ 128)) rfl rfl rfl dc26) ?_
                refine SOps.off rfl (wantX (c := decide ((bt s19 x22) ≥ 128)) rfl rfl rfl dc26) ?_
                refine SOps.off rfl (wantX (c := decide ((bt s19 x22) ≥ 128)) rfl rfl rfl dc26) ?_
                refine SOps.val (v := .bool false) rfl (wantN rfl) (fun w => ev_pickF (v := .bool false) rfl (t := decide ((bt s19 x22) ≥ 128)) rfl dc26 rfl w) ?_
                refine SOps.nil ?_
                refine SW.cond_f (t := false) rfl rfl ?_
                refine SW.exit ?_
                exact ⟨_, s19, x20, b21, x22, Fr.upds_self _ _ ⟨rfl, rfl, rfl, rfl, trivial⟩, h⟩
            · replace h := h.2 c23
              have dc23 : (decide (x22 < (s19.size : Int))) = false := (decide_eq_false c23)
              refine SOps.off rfl (wantX (c := decide (x22 < (s19.size : Int))) rfl rfl rfl dc23) ?_
              refine SOps.off rfl (wantX (c := decide (x22 < (s19.size : Int))) rfl rfl rfl dc23) ?_
              refine SOps.off rfl (wantX (c := decide (x22 < (s19.size : Int))) rfl rfl rfl dc23) ?_
              refine SOps.off rfl (wantX (c := decide (x22 < (s19.size : Int))) rfl rfl rfl dc23) ?_
              refine SOps.val (v := .bool false) rfl (wantN rfl) (fun w => ev_pickF (v := .bool false) rfl (t := decide (x22 < (s19.size : Int))) rfl dc23 rfl w) ?_
              refine SOps.val (v := .bool false) rfl (wantN rfl) (fun _ => by kernel_rfl) ?_
              refine SOps.off rfl (wantX (c := false) rfl rfl rfl rfl) ?_
              refine SOps.off rfl (wantX (c := false) rfl rfl rfl rfl) ?_
              refine SOps.off rfl (wantX (c := false) rfl rfl rfl rfl) ?_
              refine SOps.off rfl (wantX (c := false) rfl rfl rfl rfl) ?_
              refine SOps.val (v := .bool false) rfl (wantN rfl) (fun w => ev_pickF (v := .bool false) rfl (t := false) rfl rfl rfl w) ?_
              refine SOps.nil ?_
              refine SW.cond_f (t := false) rfl rfl ?_
              refine SW.exit ?_
              exact ⟨_, s19, x20, b21, x22, Fr.upds_self _ _ ⟨rfl, rfl, rfl, rfl, trivial⟩, h⟩

/-! ### lading/ladingref01.Back: function 60 -/
def ladingref01_Back.wp (F : Nat) (x1 : Int) (H : SH) (K : Int → SH → Prop) : Prop :=
  ((x1.tmod 2) = 1 →
    ∃ Hr, SH.le Hr H ∧ K (w64 (0 - (w64 ((w64 (x1 + 1)).tdiv 2)))) Hr
  ) ∧ (¬ ((x1.tmod 2) = 1) →
    ∃ Hr, SH.le Hr H ∧ K (w64 (x1.tdiv 2)) Hr
  )
set_option maxHeartbeats 8000000 in
theorem ladingref01_Back.sound (F : Nat) (x1 : Int) (H : SH) (K : Int → SH → Prop) (h : ladingref01_Back.wp F x1 H K) : SCalls Tryd.prog 60 #[.int .i64 x1] H (fun v H' => ∃ (x4 : Int), v = .int .i64 x4 ∧ K x4 H') := by
  unfold ladingref01_Back.wp at h
  refine SCalls.body Tryd.func60 rfl (Nat.le_of_ble_eq_true rfl) ?_
  refine SW.seq ?_
  refine SW.region ?_
  refine SOps.val (v := .int .i64 0) rfl (wantN rfl) (fun _ => by kernel_rfl) ?_
  refine SOps.nil ?_
  refine SW.seq ?_
  refine SW.seq ?_
  refine SW.region ?_
  refine SOps.val (v := .int .i64 x1) rfl (wantN rfl) (fun _ => by kernel_rfl) ?_
  refine SOps.val (v := .int .i64 (x1.tmod 2)) rfl (wantN rfl) (fun w => ev_rem rfl rfl rfl (by decide) w) ?_
  refine SOps.val (v := .bool ((x1.tmod 2) == 1)) rfl (wantN rfl) (fun _ => by kernel_rfl) ?_
  refine SOps.nil ?_
  by_cases c2 : (x1.tmod 2) = 1
  · replace h := h.1 c2
    have dc2 : ((x1.tmod 2) == 1) = true := (beq_iff_eq.mpr c2)
    refine SW.cond_t (t := ((x1.tmod 2) == 1)) rfl dc2 ?_
    refine SW.seq ?_
    refine SW.region ?_
    refine SOps.val (v := .int .i64 x1) rfl (wantN rfl) (fun _ => by kernel_rfl) ?_
    refine SOps.val (v := .int .i64 (w64 (x1 + 1))) rfl (wantN rfl) (fun _ => by kernel_rfl) ?_
    refine SOps.val (v := .int .i64 (w64 ((w64 (x1 + 1)).tdiv 2))) rfl (wantN rfl) (fun w => ev_quo rfl rfl rfl (by decide) w) ?_
    refine SOps.val (v := .int .i64 (w64 (0 - (w64 ((w64 (x1 + 1)).tdiv 2))))) rfl (wantN rfl) (fun _ => by kernel_rfl) ?_
    refine SOps.val (v := .int .i64 (w64 (0 - (w64 ((w64 (x1 + 1)).tdiv 2))))) rfl (wantN rfl) (fun _ => by kernel_rfl) ?_
    refine SOps.nil ?_
    obtain ⟨Hr, hr, h⟩ := h
    exact SW.ret (retQ.mk (.int .i64 (w64 (0 - (w64 ((w64 (x1 + 1)).tdiv 2))))) (res1 rfl rfl) hr ⟨w64 (0 - (w64 ((w64 (x1 + 1)).tdiv 2))), rfl, h⟩)
  · replace h := h.2 c2
    have dc2 : ((x1.tmod 2) == 1) = false := (beq_eq_false_iff_ne.mpr c2)
    refine SW.cond_f (t := ((x1.tmod 2) == 1)) rfl dc2 ?_
    refine SW.skip ?_
    refine SW.seq ?_
    refine SW.region ?_
    refine SOps.val (v := .int .i64 x1) rfl (wantN rfl) (fun _ => by kernel_rfl) ?_
    refine SOps.val (v := .int .i64 (w64 (x1.tdiv 2))) rfl (wantN rfl) (fun w => ev_quo rfl rfl rfl (by decide) w) ?_
    refine SOps.val (v := .int .i64 (w64 (x1.tdiv 2))) rfl (wantN rfl) (fun _ => by kernel_rfl) ?_
    refine SOps.nil ?_
    obtain ⟨Hr, hr, h⟩ := h
    exact SW.ret (retQ.mk (.int .i64 (w64 (x1.tdiv 2))) (res1 rfl rfl) hr ⟨w64 (x1.tdiv 2), rfl, h⟩)

end Go.Proofs.YtpnbehgkbfhacaaDoor.K
