import Derived.Test.YtknhlipealekoaaDoorErr
import Derived.Test.YtknhlipealekoaaDoorSatWrit
set_option linter.unusedVariables false
set_option linter.unusedSimpArgs false
set_option maxRecDepth 100000
namespace Go.Proofs.YtknhlipealekoaaDoor.K
open Go
attribute [local irreducible] SW SOps SQ SCalls retQ

/-! ### lading/ladingref01.Fixed: function 64 -/
def ladingref01_Fixed.r1 (F : Nat) (K : ByteArray → SH → Prop) (R1 : Int → Int → ByteArray → Int → SH → Prop) (x3 : Int) (x4 : Int) (s5 : ByteArray) (x6 : Int) (H : SH) : Prop :=
  (x6 < x3 →
    ∀ b8, H b8 = none →
    ∃ bs10 : List UInt8,
    (⟨some (b8, 0), 1, 1⟩ : Sl).len = bs10.length ∧
    SH.row (SH.upd H b8 ⟨[.int .u8 (IntKind.u8.wrap (x4.tmod 256))], 5, false, 1⟩) (⟨some (b8, 0), 1, 1⟩ : Sl).a (byteCells bs10) ∧
    s5.size + (⟨bs10.toArray⟩ : ByteArray).size ≤ 9223372036854775807 ∧
    R1 x3 (w64 (x4.tdiv 256)) (s5 ++ (⟨bs10.toArray⟩ : ByteArray)) (w64 (x6 + 1)) (SH.upd H b8 ⟨[.int .u8 (IntKind.u8.wrap (x4.tmod 256))], 5, false, 1⟩)
  ) ∧ (¬ (x6 < x3) →
    ∃ Hr, SH.le Hr H ∧ K s5 Hr
  )
def ladingref01_Fixed.l1 (F : Nat) (K : ByteArray → SH → Prop) : Nat → Int → Int → ByteArray → Int → SH → Prop
  | 0, _, _, _, _, _ => False
  | k + 1, x3, x4, s5, x6, H => ladingref01_Fixed.r1 F K (ladingref01_Fixed.l1 F K k) x3 x4 s5 x6 H
def ladingref01_Fixed.wp (F : Nat) (x1 : Int) (x2 : Int) (H : SH) (K : ByteArray → SH → Prop) : Prop :=
  ladingref01_Fixed.l1 F K F x1 x2 ByteArray.empty 0 H
set_option maxHeartbeats 8000000 in
theorem ladingref01_Fixed.sound (F : Nat) (x1 : Int) (x2 : Int) (H : SH) (K : ByteArray → SH → Prop) (h : ladingref01_Fixed.wp F x1 x2 H K) : SCalls Tryd.prog 64 #[.int .i64 x1, .int .i64 x2] H (fun v H' => ∃ (s17 : ByteArray), v = .string s17 ∧ K s17 H') := by
  unfold ladingref01_Fixed.wp at h
  refine SCalls.body Tryd.func64 rfl (Nat.le_of_ble_eq_true rfl) ?_
  refine SW.seq ?_
  refine SW.region ?_
  refine SOps.val (v := .string ByteArray.empty) rfl (wantN rfl) (fun _ => by kernel_rfl) ?_
  refine SOps.nil ?_
  refine SW.seq ?_
  refine SW.region ?_
  refine SOps.val (v := .string ByteArray.empty) rfl (wantN rfl) (fun _ => by kernel_rfl) ?_
  refine SOps.nil ?_
  refine SW.seq ?_
  refine SW.seq ?_
  refine SW.region ?_
  refine SOps.val (v := .int .i64 0) rfl (wantN rfl) (fun _ => by kernel_rfl) ?_
  refine SOps.nil ?_
  refine SW.block ?_
  refine SW.loop (fun k1 fr H => ∃ (g : Fr) (x3 : Int) (x4 : Int) (s5 : ByteArray) (x6 : Int), fr = g.upds [(0, (.int .i64 x3 : Value)), (1, (.int .i64 x4 : Value)), (5, (.string s5 : Value)), (6, (.int .i64 x6 : Value))] ∧ ladingref01_Fixed.l1 F K k1 x3 x4 s5 x6 H) F ⟨_, x1, x2, ByteArray.empty, 0, (Fr.upds_self _ _ ⟨rfl, rfl, rfl, rfl, trivial⟩), h⟩ ?_
  clear h
  rintro k1 fr H ⟨g, x3, x4, s5, x6, rfl, h⟩
  cases k1 with
  | zero => exact h.elim
  | succ k1 =>
    replace h : ladingref01_Fixed.r1 F K (ladingref01_Fixed.l1 F K k1) x3 x4 s5 x6 H := h
    unfold ladingref01_Fixed.r1 at h
    refine SW.seq ?_
    refine SW.seq ?_
    refine SW.region ?_
    refine SOps.val (v := .int .i64 x6) rfl (wantN rfl) (fun _ => by kernel_rfl) ?_
    refine SOps.val (v := .int .i64 x3) rfl (wantN rfl) (fun _ => by kernel_rfl) ?_
    refine SOps.val (v := .bool (decide (x6 < x3))) rfl (wantN rfl) (fun _ => by kernel_rfl) ?_
    refine SOps.nil ?_
    by_cases c7 : x6 < x3
    · replace h := h.1 c7
      have dc7 : (decide (x6 < x3)) = true := (decide_eq_true c7)
      refine SW.cond_t (t := decide (x6 < x3)) rfl dc7 ?_
      refine SW.skip ?_
      refine SW.seq ?_
      refine SW.block ?_
      refine SW.seq ?_
      refine SW.region ?_
      refine SOps.val (v := .string s5) rfl (wantN rfl) (fun _ => by kernel_rfl) ?_
      refine SOps.val (v := .int .i64 x4) rfl (wantN rfl) (fun _ => by kernel_rfl) ?_
      refine SOps.val (v := .int .i64 (x4.tmod 256)) rfl (wantN rfl) (fun w => ev_rem rfl rfl rfl (by decide) w) ?_
      refine SOps.val (v := .int .u8 (IntKind.u8.wrap (x4.tmod 256))) rfl (wantN rfl) (fun _ => by kernel_rfl) ?_
      refine SOps.lit (E := 5) (cs := #[.int .u8 (IntKind.u8.wrap (x4.tmod 256))]) rfl rfl (wantN rfl) (fun _ => by kernel_rfl) (fun b8 c9 => ?_)
      replace h := h b8 c9
      obtain ⟨bs10, c11, c12, h⟩ := h
      refine SOps.rd (v := .string (⟨bs10.toArray⟩ : ByteArray)) rfl (wantN rfl) (fun w hw => ev_str rfl Tryd.underlying67 Tryd.underlying5 Tryd.underlying9 rfl c11 c12 w hw) ?_
      obtain ⟨c13, h⟩ := h
      refine SOps.val (v := .string (s5 ++ (⟨bs10.toArray⟩ : ByteArray))) rfl (wantN rfl) (fun w => ev_cat rfl rfl rfl c13 w) ?_
      refine SOps.val (v := .string (s5 ++ (⟨bs10.toArray⟩ : ByteArray))) rfl (wantN rfl) (fun _ => by kernel_rfl) ?_
      refine SOps.nil ?_
      refine SW.region ?_
      refine SOps.val (v := .int .i64 x4) rfl (wantN rfl) (fun _ => by kernel_rfl) ?_
      refine SOps.val (v := .int .i64 (w64 (x4.tdiv 256))) rfl (wantN rfl) (fun w => ev_quo rfl rfl rfl (by decide) w) ?_
      refine SOps.val (v := .int .i64 (w64 (x4.tdiv 256))) rfl (wantN rfl) (fun _ => by kernel_rfl) ?_
      refine SOps.nil ?_
      refine SW.region ?_
      refine SOps.val (v := .int .i64 x6) rfl (wantN rfl) (fun _ => by kernel_rfl) ?_
      refine SOps.val (v := .int .i64 (w64 (x6 + 1))) rfl (wantN rfl) (fun _ => by kernel_rfl) ?_
      refine SOps.val (v := .int .i64 (w64 (x6 + 1))) rfl (wantN rfl) (fun _ => by kernel_rfl) ?_
      refine SOps.nil ?_
      exact ⟨k1, Nat.lt_succ_self k1, _, x3, w64 (x4.tdiv 256), s5 ++ (⟨bs10.toArray⟩ : ByteArray), w64 (x6 + 1), (Fr.upds_self _ _ ⟨rfl, rfl, rfl, rfl, trivial⟩), h⟩
    · replace h := h.2 c7
      have dc7 : (decide (x6 < x3)) = false := (decide_eq_false c7)
      refine SW.cond_f (t := decide (x6 < x3)) rfl dc7 ?_
      refine SW.exit ?_
      refine SW.seq ?_
      refine SW.region ?_
      refine SOps.val (v := .string s5) rfl (wantN rfl) (fun _ => by kernel_rfl) ?_
      refine SOps.val (v := .string s5) rfl (wantN rfl) (fun _ => by kernel_rfl) ?_
      refine SOps.nil ?_
      obtain ⟨Hr, hr, h⟩ := h
      exact SW.ret (retQ.mk (.string s5) (res1 rfl rfl) hr ⟨s5, rfl, h⟩)

end Go.Proofs.YtknhlipealekoaaDoor.K
