import Derived.Test.YtknhlipealekoaaDoorErr
import Derived.Test.YtknhlipealekoaaDoorSatWrit
set_option linter.unusedVariables false
set_option linter.unusedSimpArgs false
set_option maxRecDepth 100000
namespace Go.Proofs.YtknhlipealekoaaDoor.K
open Go
attribute [local irreducible] SW SOps SQ SCalls retQ

/-! ### slices.Clone[[]string,string]: function 54 -/
def slices_Clone_string_string.wp (F : Nat) (l1 : Sl) (H : SH) (K : Sl → SH → Prop) : Prop :=
  (l1.a.isNone = true →
    ∃ Hr, SH.le Hr H ∧ K Sl.nil Hr
  ) ∧ (¬ (l1.a.isNone = true) →
    ∀ b3, H b3 = none →
    ∃ w7, SH.row (SH.upd H b3 ⟨[], 9, false, 0⟩) l1.a w7 ∧
    AppendQ (SH.upd H b3 ⟨[], 9, false, 0⟩) 9 1 16 (⟨some (b3, 0), 0, 0⟩ : Sl) l1.len w7 (fun l5 H6 =>
      ∃ Hr, SH.le Hr H6 ∧ K l5 Hr
    )
  )
set_option maxHeartbeats 8000000 in
theorem slices_Clone_string_string.sound (F : Nat) (l1 : Sl) (H : SH) (K : Sl → SH → Prop) (h : slices_Clone_string_string.wp F l1 H K) : SCalls Tryd.prog 54 #[sv l1] H (fun v H' => ∃ (l10 : Sl), v = sv l10 ∧ K l10 H') := by
  unfold slices_Clone_string_string.wp at h
  refine SCalls.body Tryd.func54 rfl (Nat.le_of_ble_eq_true rfl) ?_
  refine SW.seq ?_
  refine SW.region ?_
  refine SOps.val (v := sv Sl.nil) rfl (wantN rfl) (fun _ => by kernel_rfl) ?_
  refine SOps.nil ?_
  refine SW.seq ?_
  refine SW.seq ?_
  refine SW.region ?_
  refine SOps.val (v := sv l1) rfl (wantN rfl) (fun _ => by kernel_rfl) ?_
  refine SOps.val (v := .bool l1.a.isNone) rfl (wantN rfl) (fun w => ev_slEq rfl Tryd.underlying55 rfl rfl w) ?_
  refine SOps.nil ?_
  by_cases c2 : l1.a.isNone = true
  · replace h := h.1 c2
    have dc2 : l1.a.isNone = true := c2
    refine SW.cond_t (t := l1.a.isNone) rfl dc2 ?_
    refine SW.seq ?_
    refine SW.region ?_
    refine SOps.val (v := sv Sl.nil) rfl (wantN rfl) (fun _ => by kernel_rfl) ?_
    refine SOps.nil ?_
    obtain ⟨Hr, hr, h⟩ := h
    exact SW.ret (retQ.mk (sv Sl.nil) (res1 rfl rfl) hr ⟨Sl.nil, rfl, h⟩)
  · replace h := h.2 c2
    have dc2 : l1.a.isNone = false := (Bool.eq_false_iff.mpr c2)
    refine SW.cond_f (t := l1.a.isNone) rfl dc2 ?_
    refine SW.skip ?_
    refine SW.seq ?_
    refine SW.region ?_
    refine SOps.lit (E := 9) (cs := #[]) rfl rfl (wantN rfl) (fun _ => by kernel_rfl) (fun b3 c4 => ?_)
    replace h := h b3 c4
    refine SOps.val (v := sv l1) rfl (wantN rfl) (fun _ => by kernel_rfl) ?_
    obtain ⟨w7, c8, h⟩ := h
    refine SOps.append (z := .string ByteArray.empty) (size := 1) (bytes := 16) rfl rfl (wantN rfl) Tryd.underlying55 (by kernel_rfl) rfl rfl rfl (.inl ⟨⟨_, Tryd.underlying55⟩, _, rfl, rfl, c8⟩) (AppendQ.mono h ?_)
    clear h
    intro l5 H6 h
    refine SOps.val (v := sv l5) rfl (wantN rfl) (fun _ => by kernel_rfl) ?_
    refine SOps.nil ?_
    obtain ⟨Hr, hr, h⟩ := h
    exact SW.ret (retQ.mk (sv l5) (res1 rfl rfl) hr ⟨l5, rfl, h⟩)

/-! ### slices.Index[[]bool,bool]: function 60 -/
def slices_Index_bool_bool.r1 (F : Nat) (K : Int → SH → Prop) (R1 : Sl → Bool → Int → Int → SH → Prop) (l3 : Sl) (q4 : Bool) (x5 : Int) (x6 : Int) (H : SH) : Prop :=
  (x6 < x5 →
    ∃ p8, l3.a = some p8 ∧ 0 ≤ x6 ∧ x6 < (l3.len : Int) ∧
    ∃ (q12 : Bool),
    SH.has H (p8.1, (p8.2 + x6.toNat * 1)) (.bool q12) ∧
    (q4 = q12 →
      ∃ Hr, SH.le Hr H ∧ K x6 Hr
    ) ∧ (¬ (q4 = q12) →
      R1 l3 q4 x5 (w64 (x6 + 1)) H
    )
  ) ∧ (¬ (x6 < x5) →
    ∃ Hr, SH.le Hr H ∧ K (-1) Hr
  )
def slices_Index_bool_bool.l1 (F : Nat) (K : Int → SH → Prop) : Nat → Sl → Bool → Int → Int → SH → Prop
  | 0, _, _, _, _, _ => False
  | k + 1, l3, q4, x5, x6, H => slices_Index_bool_bool.r1 F K (slices_Index_bool_bool.l1 F K k) l3 q4 x5 x6 H
def slices_Index_bool_bool.wp (F : Nat) (l1 : Sl) (q2 : Bool) (H : SH) (K : Int → SH → Prop) : Prop :=
  slices_Index_bool_bool.l1 F K F l1 q2 (l1.len : Int) 0 H
set_option maxHeartbeats 8000000 in
theorem slices_Index_bool_bool.sound (F : Nat) (l1 : Sl) (q2 : Bool) (H : SH) (K : Int → SH → Prop) (h : slices_Index_bool_bool.wp F l1 q2 H K) : SCalls Tryd.prog 60 #[sv l1, .bool q2] H (fun v H' => ∃ (x18 : Int), v = .int .i64 x18 ∧ K x18 H') := by
  unfold slices_Index_bool_bool.wp at h
  refine SCalls.body Tryd.func60 rfl (Nat.le_of_ble_eq_true rfl) ?_
  refine SW.seq ?_
  refine SW.region ?_
  refine SOps.val (v := .int .i64 0) rfl (wantN rfl) (fun _ => by kernel_rfl) ?_
  refine SOps.nil ?_
  refine SW.seq ?_
  refine SW.seq ?_
  refine SW.region ?_
  refine SOps.val (v := sv l1) rfl (wantN rfl) (fun _ => by kernel_rfl) ?_
  refine SOps.val (v := .int .i64 (l1.len : Int)) rfl (wantN rfl) (fun _ => by kernel_rfl) ?_
  refine SOps.val (v := .int .i64 0) rfl (wantN rfl) (fun _ => by kernel_rfl) ?_
  refine SOps.nil ?_
  refine SW.block ?_
  refine SW.loop (fun k1 fr H => ∃ (g : Fr) (l3 : Sl) (q4 : Bool) (x5 : Int) (x6 : Int), fr = g.upds [(0, sv l3), (1, (.bool q4 : Value)), (7, (.int .i64 x5 : Value)), (8, (.int .i64 x6 : Value))] ∧ slices_Index_bool_bool.l1 F K k1 l3 q4 x5 x6 H) F ⟨_, l1, q2, (l1.len : Int), 0, (Fr.upds_self _ _ ⟨rfl, rfl, rfl, rfl, trivial⟩), h⟩ ?_
  clear h
  rintro k1 fr H ⟨g, l3, q4, x5, x6, rfl, h⟩
  cases k1 with
  | zero => exact h.elim
  | succ k1 =>
    replace h : slices_Index_bool_bool.r1 F K (slices_Index_bool_bool.l1 F K k1) l3 q4 x5 x6 H := h
    unfold slices_Index_bool_bool.r1 at h
    refine SW.seq ?_
    refine SW.region ?_
    refine SOps.val (v := .bool (decide (x6 < x5))) rfl (wantN rfl) (fun _ => by kernel_rfl) ?_
    refine SOps.nil ?_
    refine SW.seq ?_
    by_cases c7 : x6 < x5
    · replace h := h.1 c7
      have dc7 : (decide (x6 < x5)) = true := (decide_eq_true c7)
      refine SW.cond_t (t := decide (x6 < x5)) rfl dc7 ?_
      refine SW.skip ?_
      refine SW.seq ?_
      refine SW.block ?_
      refine SW.seq ?_
      refine SW.region ?_
      refine SOps.val (v := .int .i64 x6) rfl (wantN rfl) (fun _ => by kernel_rfl) ?_
      refine SOps.val (v := .int .i64 x6) rfl (wantN rfl) (fun _ => by kernel_rfl) ?_
      refine SOps.nil ?_
      refine SW.seq ?_
      refine SW.region ?_
      refine SOps.val (v := .bool q4) rfl (wantN rfl) (fun _ => by kernel_rfl) ?_
      refine SOps.val (v := sv l3) rfl (wantN rfl) (fun _ => by kernel_rfl) ?_
      refine SOps.val (v := .int .i64 x6) rfl (wantN rfl) (fun _ => by kernel_rfl) ?_
      obtain ⟨p8, c9, c10, c11, h⟩ := h
      refine SOps.val (v := pv (some (p8.1, (p8.2 + x6.toNat * 1)))) rfl (wantN rfl) (fun w => ev_iaddr rfl Tryd.underlying22 (size := 1) (by kernel_rfl) rfl rfl c9 c10 c11 w) ?_
      obtain ⟨q12, c13, h⟩ := h
      refine SOps.rd (v := .bool q12) rfl (wantN rfl) (fun w hw => ev_load1 rfl (fun _ => by kernel_rfl) (p := (p8.1, (p8.2 + x6.toNat * 1))) rfl c13 w hw) ?_
      refine SOps.val (v := .bool (q4 == q12)) rfl (wantN rfl) (fun _ => by kernel_rfl) ?_
      refine SOps.nil ?_
      by_cases c14 : q4 = q12
      · replace h := h.1 c14
        have dc14 : (q4 == q12) = true := (beq_iff_eq.mpr c14)
        refine SW.cond_t (t := (q4 == q12)) rfl dc14 ?_
        refine SW.seq ?_
        refine SW.region ?_
        refine SOps.val (v := .int .i64 x6) rfl (wantN rfl) (fun _ => by kernel_rfl) ?_
        refine SOps.val (v := .int .i64 x6) rfl (wantN rfl) (fun _ => by kernel_rfl) ?_
        refine SOps.nil ?_
        obtain ⟨Hr, hr, h⟩ := h
        exact SW.ret (retQ.mk (.int .i64 x6) (res1 rfl rfl) hr ⟨x6, rfl, h⟩)
      · replace h := h.2 c14
        have dc14 : (q4 == q12) = false := (beq_eq_false_iff_ne.mpr c14)
        refine SW.cond_f (t := (q4 == q12)) rfl dc14 ?_
        refine SW.skip ?_
        refine SW.region ?_
        refine SOps.val (v := .int .i64 (w64 (x6 + 1))) rfl (wantN rfl) (fun _ => by kernel_rfl) ?_
        refine SOps.val (v := .int .i64 (w64 (x6 + 1))) rfl (wantN rfl) (fun _ => by kernel_rfl) ?_
        refine SOps.nil ?_
        exact ⟨k1, Nat.lt_succ_self k1, _, l3, q4, x5, w64 (x6 + 1), (Fr.upds_self _ _ ⟨rfl, rfl, rfl, rfl, trivial⟩), h⟩
    · replace h := h.2 c7
      have dc7 : (decide (x6 < x5)) = false := (decide_eq_false c7)
      refine SW.cond_f (t := decide (x6 < x5)) rfl dc7 ?_
      refine SW.exit ?_
      refine SW.seq ?_
      refine SW.region ?_
      refine SOps.val (v := .int .i64 (-1)) rfl (wantN rfl) (fun _ => by kernel_rfl) ?_
      refine SOps.nil ?_
      obtain ⟨Hr, hr, h⟩ := h
      exact SW.ret (retQ.mk (.int .i64 (-1)) (res1 rfl rfl) hr ⟨(-1), rfl, h⟩)

/-! ### slices.Contains[[]bool,bool]: function 45 -/
def slices_Contains_bool_bool.wp (F : Nat) (l1 : Sl) (q2 : Bool) (H : SH) (K : Bool → SH → Prop) : Prop :=
  slices_Index_bool_bool.wp F l1 q2 H (fun x3 H4 =>
    ∃ Hr, SH.le Hr H4 ∧ K (decide (x3 ≥ 0)) Hr
  )
set_option maxHeartbeats 8000000 in
theorem slices_Contains_bool_bool.sound (F : Nat) (l1 : Sl) (q2 : Bool) (H : SH) (K : Bool → SH → Prop) (h : slices_Contains_bool_bool.wp F l1 q2 H K) : SCalls Tryd.prog 45 #[sv l1, .bool q2] H (fun v H' => ∃ (q6 : Bool), v = .bool q6 ∧ K q6 H') := by
  unfold slices_Contains_bool_bool.wp at h
  refine SCalls.body Tryd.func45 rfl (Nat.le_of_ble_eq_true rfl) ?_
  refine SW.seq ?_
  refine SW.region ?_
  refine SOps.val (v := .bool false) rfl (wantN rfl) (fun _ => by kernel_rfl) ?_
  refine SOps.nil ?_
  refine SW.seq ?_
  refine SW.region ?_
  refine SOps.val (v := sv l1) rfl (wantN rfl) (fun _ => by kernel_rfl) ?_
  refine SOps.val (v := .bool q2) rfl (wantN rfl) (fun _ => by kernel_rfl) ?_
  refine SOps.enter rfl (wantN rfl) (fun _ => by kernel_rfl) (slices_Index_bool_bool.sound F l1 q2 H _ h) ?_
  clear h
  rintro v H4 ⟨x3, rfl, h⟩
  refine SOps.val (v := .bool (decide (x3 ≥ 0))) rfl (wantN rfl) (fun _ => by kernel_rfl) ?_
  refine SOps.val (v := .bool (decide (x3 ≥ 0))) rfl (wantN rfl) (fun _ => by kernel_rfl) ?_
  refine SOps.nil ?_
  obtain ⟨Hr, hr, h⟩ := h
  exact SW.ret (retQ.mk (.bool (decide (x3 ≥ 0))) (res1 rfl rfl) hr ⟨decide (x3 ≥ 0), rfl, h⟩)

/-! ### slices.Equal[[]string,string]: function 49 -/
def slices_Equal_string_string.r1 (F : Nat) (K : Bool → SH → Prop) (R1 : Sl → Sl → Int → Int → SH → Prop) (l4 : Sl) (l5 : Sl) (x6 : Int) (x7 : Int) (H : SH) : Prop :=
  (x7 < x6 →
    ∃ p9, l4.a = some p9 ∧ 0 ≤ x7 ∧ x7 < (l4.len : Int) ∧
    ∃ (s13 : ByteArray),
    SH.has H (p9.1, (p9.2 + x7.toNat * 1)) (.string s13) ∧
    ∃ p15, l5.a = some p15 ∧ 0 ≤ x7 ∧ x7 < (l5.len : Int) ∧
    ∃ (s19 : ByteArray),
    SH.has H (p15.1, (p15.2 + x7.toNat * 1)) (.string s19) ∧
    ((s13 = s19) →
      R1 l4 l5 x6 (w64 (x7 + 1)) H
    ) ∧ (¬ ((s13 = s19)) →
      ∃ Hr, SH.le Hr H ∧ K false Hr
    )
  ) ∧ (¬ (x7 < x6) →
    ∃ Hr, SH.le Hr H ∧ K true Hr
  )
def slices_Equal_string_string.l1 (F : Nat) (K : Bool → SH → Prop) : Nat → Sl → Sl → Int → Int → SH → Prop
  | 0, _, _, _, _, _ => False
  | k + 1, l4, l5, x6, x7, H => slices_Equal_string_string.r1 F K (slices_Equal_string_string.l1 F K k) l4 l5 x6 x7 H
def slices_Equal_string_string.wp (F : Nat) (l1 : Sl) (l2 : Sl) (H : SH) (K : Bool → SH → Prop) : Prop :=
  ((l1.len : Int) ≠ (l2.len : Int) →
    ∃ Hr, SH.le Hr H ∧ K false Hr
  ) ∧ (¬ ((l1.len : Int) ≠ (l2.len : Int)) →
    slices_Equal_string_string.l1 F K F l1 l2 (l1.len : Int) 0 H
  )
set_option maxHeartbeats 8000000 in
theorem slices_Equal_string_string.sound (F : Nat) (l1 : Sl) (l2 : Sl) (H : SH) (K : Bool → SH → Prop) (h : slices_Equal_string_string.wp F l1 l2 H K) : SCalls Tryd.prog 49 #[sv l1, sv l2] H (fun v H' => ∃ (q25 : Bool), v = .bool q25 ∧ K q25 H') := by
  unfold slices_Equal_string_string.wp at h
  refine SCalls.body Tryd.func49 rfl (Nat.le_of_ble_eq_true rfl) ?_
  refine SW.seq ?_
  refine SW.region ?_
  refine SOps.val (v := .bool false) rfl (wantN rfl) (fun _ => by kernel_rfl) ?_
  refine SOps.nil ?_
  refine SW.seq ?_
  refine SW.seq ?_
  refine SW.region ?_
  refine SOps.val (v := sv l1) rfl (wantN rfl) (fun _ => by kernel_rfl) ?_
  refine SOps.val (v := .int .i64 (l1.len : Int)) rfl (wantN rfl) (fun _ => by kernel_rfl) ?_
  refine SOps.val (v := sv l2) rfl (wantN rfl) (fun _ => by kernel_rfl) ?_
  refine SOps.val (v := .int .i64 (l2.len : Int)) rfl (wantN rfl) (fun _ => by kernel_rfl) ?_
  refine SOps.val (v := .bool ((l1.len : Int) != (l2.len : Int))) rfl (wantN rfl) (fun _ => by kernel_rfl) ?_
  refine SOps.nil ?_
  by_cases c3 : (l1.len : Int) ≠ (l2.len : Int)
  · replace h := h.1 c3
    have dc3 : ((l1.len : Int) != (l2.len : Int)) = true := (bne_iff_ne.mpr c3)
    refine SW.cond_t (t := ((l1.len : Int) != (l2.len : Int))) rfl dc3 ?_
    refine SW.seq ?_
    refine SW.region ?_
    refine SOps.val (v := .bool false) rfl (wantN rfl) (fun _ => by kernel_rfl) ?_
    refine SOps.nil ?_
    obtain ⟨Hr, hr, h⟩ := h
    exact SW.ret (retQ.mk (.bool false) (res1 rfl rfl) hr ⟨false, rfl, h⟩)
  · replace h := h.2 c3
    have dc3 : ((l1.len : Int) != (l2.len : Int)) = false := (by simpa using c3)
    refine SW.cond_f (t := ((l1.len : Int) != (l2.len : Int))) rfl dc3 ?_
    refine SW.skip ?_
    refine SW.seq ?_
    refine SW.seq ?_
    refine SW.region ?_
    refine SOps.val (v := sv l1) rfl (wantN rfl) (fun _ => by kernel_rfl) ?_
    refine SOps.val (v := .int .i64 (l1.len : Int)) rfl (wantN rfl) (fun _ => by kernel_rfl) ?_
    refine SOps.val (v := .int .i64 0) rfl (wantN rfl) (fun _ => by kernel_rfl) ?_
    refine SOps.nil ?_
    refine SW.block ?_
    refine SW.loop (fun k1 fr H => ∃ (g : Fr) (l4 : Sl) (l5 : Sl) (x6 : Int) (x7 : Int), fr = g.upds [(0, sv l4), (1, sv l5), (12, (.int .i64 x6 : Value)), (13, (.int .i64 x7 : Value))] ∧ slices_Equal_string_string.l1 F K k1 l4 l5 x6 x7 H) F ⟨_, l1, l2, (l1.len : Int), 0, (Fr.upds_self _ _ ⟨rfl, rfl, rfl, rfl, trivial⟩), h⟩ ?_
    clear h
    rintro k1 fr H ⟨g, l4, l5, x6, x7, rfl, h⟩
    cases k1 with
    | zero => exact h.elim
    | succ k1 =>
      replace h : slices_Equal_string_string.r1 F K (slices_Equal_string_string.l1 F K k1) l4 l5 x6 x7 H := h
      unfold slices_Equal_string_string.r1 at h
      refine SW.seq ?_
      refine SW.region ?_
      refine SOps.val (v := .bool (decide (x7 < x6))) rfl (wantN rfl) (fun _ => by kernel_rfl) ?_
      refine SOps.nil ?_
      refine SW.seq ?_
      by_cases c8 : x7 < x6
      · replace h := h.1 c8
        have dc8 : (decide (x7 < x6)) = true := (decide_eq_true c8)
        refine SW.cond_t (t := decide (x7 < x6)) rfl dc8 ?_
        refine SW.skip ?_
        refine SW.seq ?_
        refine SW.block ?_
        refine SW.seq ?_
        refine SW.region ?_
        refine SOps.val (v := .int .i64 x7) rfl (wantN rfl) (fun _ => by kernel_rfl) ?_
        refine SOps.val (v := .int .i64 x7) rfl (wantN rfl) (fun _ => by kernel_rfl) ?_
        refine SOps.nil ?_
        refine SW.seq ?_
        refine SW.draw (by kernel_rfl) (by kernel_rfl) ?_
        refine SQ.val (v := sv l4) rfl (wantN rfl) (fun _ => by kernel_rfl) ?_
        refine SQ.val (v := .int .i64 x7) rfl (wantN rfl) (fun _ => by kernel_rfl) ?_
        obtain ⟨p9, c10, c11, c12, h⟩ := h
        refine SQ.val (v := pv (some (p9.1, (p9.2 + x7.toNat * 1)))) rfl (wantN rfl) (fun w => ev_iaddr rfl Tryd.underlying55 (size := 1) (by kernel_rfl) rfl rfl c10 c11 c12 w) ?_
        obtain ⟨s13, c14, h⟩ := h
        refine SQ.rd (v := .string s13) rfl (wantN rfl) (fun w hw => ev_load1 rfl (fun _ => by kernel_rfl) (p := (p9.1, (p9.2 + x7.toNat * 1))) rfl c14 w hw) ?_
        refine SQ.val (v := sv l5) rfl (wantN rfl) (fun _ => by kernel_rfl) ?_
        refine SQ.val (v := .int .i64 x7) rfl (wantN rfl) (fun _ => by kernel_rfl) ?_
        obtain ⟨p15, c16, c17, c18, h⟩ := h
        refine SQ.val (v := pv (some (p15.1, (p15.2 + x7.toNat * 1)))) rfl (wantN rfl) (fun w => ev_iaddr rfl Tryd.underlying55 (size := 1) (by kernel_rfl) rfl rfl c16 c17 c18 w) ?_
        obtain ⟨s19, c20, h⟩ := h
        refine SQ.rd (v := .string s19) rfl (wantN rfl) (fun w hw => ev_load1 rfl (fun _ => by kernel_rfl) (p := (p15.1, (p15.2 + x7.toNat * 1))) rfl c20 w hw) ?_
        refine SQ.val (v := .bool (!decide (s13 = s19))) rfl (wantN rfl) (fun w => ev_neS rfl rfl rfl w) ?_
        refine SQ.nil ?_
        by_cases c21 : (s13 = s19)
        · replace h := h.1 c21
          have dc21 : (decide (s13 = s19)) = true := (decide_eq_true c21)
          refine SW.cond_f (t := !decide (s13 = s19)) rfl (not_t dc21) ?_
          refine SW.skip ?_
          refine SW.region ?_
          refine SOps.val (v := .int .i64 (w64 (x7 + 1))) rfl (wantN rfl) (fun _ => by kernel_rfl) ?_
          refine SOps.val (v := .int .i64 (w64 (x7 + 1))) rfl (wantN rfl) (fun _ => by kernel_rfl) ?_
          refine SOps.nil ?_
          exact ⟨k1, Nat.lt_succ_self k1, _, l4, l5, x6, w64 (x7 + 1), (Fr.upds_self _ _ ⟨rfl, rfl, rfl, rfl, trivial⟩), h⟩
        · replace h := h.2 c21
          have dc21 : (decide (s13 = s19)) = false := (decide_eq_false c21)
          refine SW.cond_t (t := !decide (s13 = s19)) rfl (not_f dc21) ?_
          refine SW.seq ?_
          refine SW.region ?_
          refine SOps.val (v := .bool false) rfl (wantN rfl) (fun _ => by kernel_rfl) ?_
          refine SOps.nil ?_
          obtain ⟨Hr, hr, h⟩ := h
          exact SW.ret (retQ.mk (.bool false) (res1 rfl rfl) hr ⟨false, rfl, h⟩)
      · replace h := h.2 c8
        have dc8 : (decide (x7 < x6)) = false := (decide_eq_false c8)
        refine SW.cond_f (t := decide (x7 < x6)) rfl dc8 ?_
        refine SW.exit ?_
        refine SW.seq ?_
        refine SW.region ?_
        refine SOps.val (v := .bool true) rfl (wantN rfl) (fun _ => by kernel_rfl) ?_
        refine SOps.nil ?_
        obtain ⟨Hr, hr, h⟩ := h
        exact SW.ret (retQ.mk (.bool true) (res1 rfl rfl) hr ⟨true, rfl, h⟩)

end Go.Proofs.YtknhlipealekoaaDoor.K
