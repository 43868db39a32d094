import Derived.Test.YtkfbmoekghbgbaaErr
import Derived.Test.YtkfbmoekghbgbaaSatWrit
set_option linter.unusedVariables false
set_option linter.unusedSimpArgs false
set_option maxRecDepth 100000
namespace Go.Proofs.Ytkfbmoekghbgbaa.K
open Go
attribute [local irreducible] SW SOps SQ SCalls retQ

/-! ### slices.Equal[[]string,string]: function 24 -/
def slices_Equal_string_string.r1 (F : Nat) (K : Bool → SH → Prop) (R1 : Sl → Sl → Int → Int → SH → Prop) (l4 : Sl) (l5 : Sl) (x6 : Int) (x7 : Int) (H : SH) : Prop :=
  (x7 < x6 →
    ∃ p9, l4.a = some p9 ∧ 0 ≤ x7 ∧ x7 < (l4.len : Int) ∧
    ∃ (s13 : ByteArray),
    SH.has H (p9.1, (p9.2 + x7.toNat * 1)) (.string s13) ∧
    ∃ p15, l5.a = some p15 ∧ 0 ≤ x7 ∧ x7 < (l5.len : Int) ∧
    ∃ (s19 : ByteArray),
    SH.has H (p15.1, (p15.2 + x7.toNat * 1)) (.string s19) ∧
    ((s13 = s19) →
      R1 l4 l5 x6 (w64 (x7 + 1)) H
    ) ∧ (¬ ((s13 = s19)) →
      ∃ Hr, SH.le Hr H ∧ K false Hr
    )
  ) ∧ (¬ (x7 < x6) →
    ∃ Hr, SH.le Hr H ∧ K true Hr
  )
def slices_Equal_string_string.l1 (F : Nat) (K : Bool → SH → Prop) : Nat → Sl → Sl → Int → Int → SH → Prop
  | 0, _, _, _, _, _ => False
  | k + 1, l4, l5, x6, x7, H => slices_Equal_string_string.r1 F K (slices_Equal_string_string.l1 F K k) l4 l5 x6 x7 H
def slices_Equal_string_string.wp (F : Nat) (l1 : Sl) (l2 : Sl) (H : SH) (K : Bool → SH → Prop) : Prop :=
  ((l1.len : Int) ≠ (l2.len : Int) →
    ∃ Hr, SH.le Hr H ∧ K false Hr
  ) ∧ (¬ ((l1.len : Int) ≠ (l2.len : Int)) →
    slices_Equal_string_string.l1 F K F l1 l2 (l1.len : Int) 0 H
  )
set_option maxHeartbeats 8000000 in
theorem slices_Equal_string_string.sound (F : Nat) (l1 : Sl) (l2 : Sl) (H : SH) (K : Bool → SH → Prop) (h : slices_Equal_string_string.wp F l1 l2 H K) : SCalls Try.prog 24 #[sv l1, sv l2] H (fun v H' => ∃ (q25 : Bool), v = .bool q25 ∧ K q25 H') := by
  unfold slices_Equal_string_string.wp at h
  refine SCalls.body Try.func24 rfl (Nat.le_of_ble_eq_true rfl) ?_
  refine SW.seq ?_
  refine SW.region ?_
  refine SOps.val (v := .bool false) rfl (wantN rfl) (fun _ => by kernel_rfl) ?_
  refine SOps.nil ?_
  refine SW.seq ?_
  refine SW.seq ?_
  refine SW.region ?_
  refine SOps.val (v := sv l1) rfl (wantN rfl) (fun _ => by kernel_rfl) ?_
  refine SOps.val (v := .int .i64 (l1.len : Int)) rfl (wantN rfl) (fun _ => by kernel_rfl) ?_
  refine SOps.val (v := sv l2) rfl (wantN rfl) (fun _ => by kernel_rfl) ?_
  refine SOps.val (v := .int .i64 (l2.len : Int)) rfl (wantN rfl) (fun _ => by kernel_rfl) ?_
  refine SOps.val (v := .bool ((l1.len : Int) != (l2.len : Int))) rfl (wantN rfl) (fun _ => by kernel_rfl) ?_
  refine SOps.nil ?_
  by_cases c3 : (l1.len : Int) ≠ (l2.len : Int)
  · replace h := h.1 c3
    have dc3 : ((l1.len : Int) != (l2.len : Int)) = true := (bne_iff_ne.mpr c3)
    refine SW.cond_t (t := ((l1.len : Int) != (l2.len : Int))) rfl dc3 ?_
    refine SW.seq ?_
    refine SW.region ?_
    refine SOps.val (v := .bool false) rfl (wantN rfl) (fun _ => by kernel_rfl) ?_
    refine SOps.nil ?_
    obtain ⟨Hr, hr, h⟩ := h
    exact SW.ret (retQ.mk (.bool false) (res1 rfl rfl) hr ⟨false, rfl, h⟩)
  · replace h := h.2 c3
    have dc3 : ((l1.len : Int) != (l2.len : Int)) = false := (by simpa using c3)
    refine SW.cond_f (t := ((l1.len : Int) != (l2.len : Int))) rfl dc3 ?_
    refine SW.skip ?_
    refine SW.seq ?_
    refine SW.seq ?_
    refine SW.region ?_
    refine SOps.val (v := sv l1) rfl (wantN rfl) (fun _ => by kernel_rfl) ?_
    refine SOps.val (v := .int .i64 (l1.len : Int)) rfl (wantN rfl) (fun _ => by kernel_rfl) ?_
    refine SOps.val (v := .int .i64 0) rfl (wantN rfl) (fun _ => by kernel_rfl) ?_
    refine SOps.nil ?_
    refine SW.block ?_
    refine SW.loop (fun k1 fr H => ∃ (g : Fr) (l4 : Sl) (l5 : Sl) (x6 : Int) (x7 : Int), fr = g.upds [(0, sv l4), (1, sv l5), (12, (.int .i64 x6 : Value)), (13, (.int .i64 x7 : Value))] ∧ slices_Equal_string_string.l1 F K k1 l4 l5 x6 x7 H) F ⟨_, l1, l2, (l1.len : Int), 0, (Fr.upds_self _ _ ⟨rfl, rfl, rfl, rfl, trivial⟩), h⟩ ?_
    clear h
    rintro k1 fr H ⟨g, l4, l5, x6, x7, rfl, h⟩
    cases k1 with
    | zero => exact h.elim
    | succ k1 =>
      replace h : slices_Equal_string_string.r1 F K (slices_Equal_string_string.l1 F K k1) l4 l5 x6 x7 H := h
      unfold slices_Equal_string_string.r1 at h
      refine SW.seq ?_
      refine SW.region ?_
      refine SOps.val (v := .bool (decide (x7 < x6))) rfl (wantN rfl) (fun _ => by kernel_rfl) ?_
      refine SOps.nil ?_
      refine SW.seq ?_
      by_cases c8 : x7 < x6
      · replace h := h.1 c8
        have dc8 : (decide (x7 < x6)) = true := (decide_eq_true c8)
        refine SW.cond_t (t := decide (x7 < x6)) rfl dc8 ?_
        refine SW.skip ?_
        refine SW.seq ?_
        refine SW.block ?_
        refine SW.seq ?_
        refine SW.region ?_
        refine SOps.val (v := .int .i64 x7) rfl (wantN rfl) (fun _ => by kernel_rfl) ?_
        refine SOps.val (v := .int .i64 x7) rfl (wantN rfl) (fun _ => by kernel_rfl) ?_
        refine SOps.nil ?_
        refine SW.seq ?_
        refine SW.draw (by kernel_rfl) (by kernel_rfl) ?_
        refine SQ.val (v := sv l4) rfl (wantN rfl) (fun _ => by kernel_rfl) ?_
        refine SQ.val (v := .int .i64 x7) rfl (wantN rfl) (fun _ => by kernel_rfl) ?_
        obtain ⟨p9, c10, c11, c12, h⟩ := h
        refine SQ.val (v := pv (some (p9.1, (p9.2 + x7.toNat * 1)))) rfl (wantN rfl) (fun w => ev_iaddr rfl Try.underlying22 (size := 1) (by kernel_rfl) rfl rfl c10 c11 c12 w) ?_
        obtain ⟨s13, c14, h⟩ := h
        refine SQ.rd (v := .string s13) rfl (wantN rfl) (fun w hw => ev_load1 rfl (fun _ => by kernel_rfl) (p := (p9.1, (p9.2 + x7.toNat * 1))) rfl c14 w hw) ?_
        refine SQ.val (v := sv l5) rfl (wantN rfl) (fun _ => by kernel_rfl) ?_
        refine SQ.val (v := .int .i64 x7) rfl (wantN rfl) (fun _ => by kernel_rfl) ?_
        obtain ⟨p15, c16, c17, c18, h⟩ := h
        refine SQ.val (v := pv (some (p15.1, (p15.2 + x7.toNat * 1)))) rfl (wantN rfl) (fun w => ev_iaddr rfl Try.underlying22 (size := 1) (by kernel_rfl) rfl rfl c16 c17 c18 w) ?_
        obtain ⟨s19, c20, h⟩ := h
        refine SQ.rd (v := .string s19) rfl (wantN rfl) (fun w hw => ev_load1 rfl (fun _ => by kernel_rfl) (p := (p15.1, (p15.2 + x7.toNat * 1))) rfl c20 w hw) ?_
        refine SQ.val (v := .bool (!decide (s13 = s19))) rfl (wantN rfl) (fun w => ev_neS rfl rfl rfl w) ?_
        refine SQ.nil ?_
        by_cases c21 : (s13 = s19)
        · replace h := h.1 c21
          have dc21 : (decide (s13 = s19)) = true := (decide_eq_true c21)
          refine SW.cond_f (t := !decide (s13 = s19)) rfl (not_t dc21) ?_
          refine SW.skip ?_
          refine SW.region ?_
          refine SOps.val (v := .int .i64 (w64 (x7 + 1))) rfl (wantN rfl) (fun _ => by kernel_rfl) ?_
          refine SOps.val (v := .int .i64 (w64 (x7 + 1))) rfl (wantN rfl) (fun _ => by kernel_rfl) ?_
          refine SOps.nil ?_
          exact ⟨k1, Nat.lt_succ_self k1, _, l4, l5, x6, w64 (x7 + 1), (Fr.upds_self _ _ ⟨rfl, rfl, rfl, rfl, trivial⟩), h⟩
        · replace h := h.2 c21
          have dc21 : (decide (s13 = s19)) = false := (decide_eq_false c21)
          refine SW.cond_t (t := !decide (s13 = s19)) rfl (not_f dc21) ?_
          refine SW.seq ?_
          refine SW.region ?_
          refine SOps.val (v := .bool false) rfl (wantN rfl) (fun _ => by kernel_rfl) ?_
          refine SOps.nil ?_
          obtain ⟨Hr, hr, h⟩ := h
          exact SW.ret (retQ.mk (.bool false) (res1 rfl rfl) hr ⟨false, rfl, h⟩)
      · replace h := h.2 c8
        have dc8 : (decide (x7 < x6)) = false := (decide_eq_false c8)
        refine SW.cond_f (t := decide (x7 < x6)) rfl dc8 ?_
        refine SW.exit ?_
        refine SW.seq ?_
        refine SW.region ?_
        refine SOps.val (v := .bool true) rfl (wantN rfl) (fun _ => by kernel_rfl) ?_
        refine SOps.nil ?_
        obtain ⟨Hr, hr, h⟩ := h
        exact SW.ret (retQ.mk (.bool true) (res1 rfl rfl) hr ⟨true, rfl, h⟩)

end Go.Proofs.Ytkfbmoekghbgbaa.K
