import Derived.Test.YtknhlipealekoaaDoorErr
import Derived.Test.YtknhlipealekoaaDoorSatWrit
set_option linter.unusedVariables false
set_option linter.unusedSimpArgs false
set_option maxRecDepth 100000
namespace Go.Proofs.YtknhlipealekoaaDoor.K
open Go
attribute [local irreducible] SW SOps SQ SCalls retQ

/-! ### lading/ladingref09.Same: function 34 -/
def ladingref09_Same.r1 (F : Nat) (K : Bool → SH → Prop) (R1 : Sl → Sl → Int → SH → Prop) (l4 : Sl) (l5 : Sl) (x6 : Int) (H : SH) : Prop :=
  (x6 < (l4.len : Int) →
    ∃ p8, l4.a = some p8 ∧ 0 ≤ x6 ∧ x6 < (l4.len : Int) ∧
    ∃ (s12 : ByteArray),
    SH.has H (p8.1, (p8.2 + x6.toNat * 1)) (.string s12) ∧
    ∃ p14, l5.a = some p14 ∧ 0 ≤ x6 ∧ x6 < (l5.len : Int) ∧
    ∃ (s18 : ByteArray),
    SH.has H (p14.1, (p14.2 + x6.toNat * 1)) (.string s18) ∧
    ((s12 = s18) →
      R1 l4 l5 (w64 (x6 + 1)) H
    ) ∧ (¬ ((s12 = s18)) →
      ∃ Hr, SH.le Hr H ∧ K false Hr
    )
  ) ∧ (¬ (x6 < (l4.len : Int)) →
    ∃ Hr, SH.le Hr H ∧ K true Hr
  )
def ladingref09_Same.l1 (F : Nat) (K : Bool → SH → Prop) : Nat → Sl → Sl → Int → SH → Prop
  | 0, _, _, _, _ => False
  | k + 1, l4, l5, x6, H => ladingref09_Same.r1 F K (ladingref09_Same.l1 F K k) l4 l5 x6 H
def ladingref09_Same.wp (F : Nat) (l1 : Sl) (l2 : Sl) (H : SH) (K : Bool → SH → Prop) : Prop :=
  ((l1.len : Int) ≠ (l2.len : Int) →
    ∃ Hr, SH.le Hr H ∧ K false Hr
  ) ∧ (¬ ((l1.len : Int) ≠ (l2.len : Int)) →
    ladingref09_Same.l1 F K F l1 l2 0 H
  )
set_option maxHeartbeats 8000000 in
theorem ladingref09_Same.sound (F : Nat) (l1 : Sl) (l2 : Sl) (H : SH) (K : Bool → SH → Prop) (h : ladingref09_Same.wp F l1 l2 H K) : SCalls Tryd.prog 34 #[sv l1, sv l2] H (fun v H' => ∃ (q24 : Bool), v = .bool q24 ∧ K q24 H') := by
  unfold ladingref09_Same.wp at h
  refine SCalls.body Tryd.func34 rfl (Nat.le_of_ble_eq_true rfl) ?_
  refine SW.seq ?_
  refine SW.region ?_
  refine SOps.val (v := .bool false) rfl (wantN rfl) (fun _ => by kernel_rfl) ?_
  refine SOps.nil ?_
  refine SW.seq ?_
  refine SW.seq ?_
  refine SW.region ?_
  refine SOps.val (v := sv l1) rfl (wantN rfl) (fun _ => by kernel_rfl) ?_
  refine SOps.val (v := .int .i64 (l1.len : Int)) rfl (wantN rfl) (fun _ => by kernel_rfl) ?_
  refine SOps.val (v := sv l2) rfl (wantN rfl) (fun _ => by kernel_rfl) ?_
  refine SOps.val (v := .int .i64 (l2.len : Int)) rfl (wantN rfl) (fun _ => by kernel_rfl) ?_
  refine SOps.val (v := .bool ((l1.len : Int) != (l2.len : Int))) rfl (wantN rfl) (fun _ => by kernel_rfl) ?_
  refine SOps.nil ?_
  by_cases c3 : (l1.len : Int) ≠ (l2.len : Int)
  · replace h := h.1 c3
    have dc3 : ((l1.len : Int) != (l2.len : Int)) = true := (bne_iff_ne.mpr c3)
    refine SW.cond_t (t := ((l1.len : Int) != (l2.len : Int))) rfl dc3 ?_
    refine SW.seq ?_
    refine SW.region ?_
    refine SOps.val (v := .bool false) rfl (wantN rfl) (fun _ => by kernel_rfl) ?_
    refine SOps.nil ?_
    obtain ⟨Hr, hr, h⟩ := h
    exact SW.ret (retQ.mk (.bool false) (res1 rfl rfl) hr ⟨false, rfl, h⟩)
  · replace h := h.2 c3
    have dc3 : ((l1.len : Int) != (l2.len : Int)) = false := (by simpa using c3)
    refine SW.cond_f (t := ((l1.len : Int) != (l2.len : Int))) rfl dc3 ?_
    refine SW.skip ?_
    refine SW.seq ?_
    refine SW.seq ?_
    refine SW.region ?_
    refine SOps.val (v := .int .i64 0) rfl (wantN rfl) (fun _ => by kernel_rfl) ?_
    refine SOps.nil ?_
    refine SW.block ?_
    refine SW.loop (fun k1 fr H => ∃ (g : Fr) (l4 : Sl) (l5 : Sl) (x6 : Int), fr = g.upds [(0, sv l4), (1, sv l5), (5, (.int .i64 x6 : Value))] ∧ ladingref09_Same.l1 F K k1 l4 l5 x6 H) F ⟨_, l1, l2, 0, (Fr.upds_self _ _ ⟨rfl, rfl, rfl, trivial⟩), h⟩ ?_
    clear h
    rintro k1 fr H ⟨g, l4, l5, x6, rfl, h⟩
    cases k1 with
    | zero => exact h.elim
    | succ k1 =>
      replace h : ladingref09_Same.r1 F K (ladingref09_Same.l1 F K k1) l4 l5 x6 H := h
      unfold ladingref09_Same.r1 at h
      refine SW.seq ?_
      refine SW.seq ?_
      refine SW.region ?_
      refine SOps.val (v := .int .i64 x6) rfl (wantN rfl) (fun _ => by kernel_rfl) ?_
      refine SOps.val (v := sv l4) rfl (wantN rfl) (fun _ => by kernel_rfl) ?_
      refine SOps.val (v := .int .i64 (l4.len : Int)) rfl (wantN rfl) (fun _ => by kernel_rfl) ?_
      refine SOps.val (v := .bool (decide (x6 < (l4.len : Int)))) rfl (wantN rfl) (fun _ => by kernel_rfl) ?_
      refine SOps.nil ?_
      by_cases c7 : x6 < (l4.len : Int)
      · replace h := h.1 c7
        have dc7 : (decide (x6 < (l4.len : Int))) = true := (decide_eq_true c7)
        refine SW.cond_t (t := decide (x6 < (l4.len : Int))) rfl dc7 ?_
        refine SW.skip ?_
        refine SW.seq ?_
        refine SW.block ?_
        refine SW.seq ?_
        refine SW.draw (by kernel_rfl) (by kernel_rfl) ?_
        refine SQ.val (v := sv l4) rfl (wantN rfl) (fun _ => by kernel_rfl) ?_
        refine SQ.val (v := .int .i64 x6) rfl (wantN rfl) (fun _ => by kernel_rfl) ?_
        obtain ⟨p8, c9, c10, c11, h⟩ := h
        refine SQ.val (v := pv (some (p8.1, (p8.2 + x6.toNat * 1)))) rfl (wantN rfl) (fun w => ev_iaddr rfl Tryd.underlying55 (size := 1) (by kernel_rfl) rfl rfl c9 c10 c11 w) ?_
        obtain ⟨s12, c13, h⟩ := h
        refine SQ.rd (v := .string s12) rfl (wantN rfl) (fun w hw => ev_load1 rfl (fun _ => by kernel_rfl) (p := (p8.1, (p8.2 + x6.toNat * 1))) rfl c13 w hw) ?_
        refine SQ.val (v := sv l5) rfl (wantN rfl) (fun _ => by kernel_rfl) ?_
        refine SQ.val (v := .int .i64 x6) rfl (wantN rfl) (fun _ => by kernel_rfl) ?_
        obtain ⟨p14, c15, c16, c17, h⟩ := h
        refine SQ.val (v := pv (some (p14.1, (p14.2 + x6.toNat * 1)))) rfl (wantN rfl) (fun w => ev_iaddr rfl Tryd.underlying55 (size := 1) (by kernel_rfl) rfl rfl c15 c16 c17 w) ?_
        obtain ⟨s18, c19, h⟩ := h
        refine SQ.rd (v := .string s18) rfl (wantN rfl) (fun w hw => ev_load1 rfl (fun _ => by kernel_rfl) (p := (p14.1, (p14.2 + x6.toNat * 1))) rfl c19 w hw) ?_
        refine SQ.val (v := .bool (!decide (s12 = s18))) rfl (wantN rfl) (fun w => ev_neS rfl rfl rfl w) ?_
        refine SQ.nil ?_
        by_cases c20 : (s12 = s18)
        · replace h := h.1 c20
          have dc20 : (decide (s12 = s18)) = true := (decide_eq_true c20)
          refine SW.cond_f (t := !decide (s12 = s18)) rfl (not_t dc20) ?_
          refine SW.skip ?_
          refine SW.region ?_
          refine SOps.val (v := .int .i64 x6) rfl (wantN rfl) (fun _ => by kernel_rfl) ?_
          refine SOps.val (v := .int .i64 (w64 (x6 + 1))) rfl (wantN rfl) (fun _ => by kernel_rfl) ?_
          refine SOps.val (v := .int .i64 (w64 (x6 + 1))) rfl (wantN rfl) (fun _ => by kernel_rfl) ?_
          refine SOps.nil ?_
          exact ⟨k1, Nat.lt_succ_self k1, _, l4, l5, w64 (x6 + 1), (Fr.upds_self _ _ ⟨rfl, rfl, rfl, trivial⟩), h⟩
        · replace h := h.2 c20
          have dc20 : (decide (s12 = s18)) = false := (decide_eq_false c20)
          refine SW.cond_t (t := !decide (s12 = s18)) rfl (not_f dc20) ?_
          refine SW.seq ?_
          refine SW.region ?_
          refine SOps.val (v := .bool false) rfl (wantN rfl) (fun _ => by kernel_rfl) ?_
          refine SOps.nil ?_
          obtain ⟨Hr, hr, h⟩ := h
          exact SW.ret (retQ.mk (.bool false) (res1 rfl rfl) hr ⟨false, rfl, h⟩)
      · replace h := h.2 c7
        have dc7 : (decide (x6 < (l4.len : Int))) = false := (decide_eq_false c7)
        refine SW.cond_f (t := decide (x6 < (l4.len : Int))) rfl dc7 ?_
        refine SW.exit ?_
        refine SW.seq ?_
        refine SW.region ?_
        refine SOps.val (v := .bool true) rfl (wantN rfl) (fun _ => by kernel_rfl) ?_
        refine SOps.nil ?_
        obtain ⟨Hr, hr, h⟩ := h
        exact SW.ret (retQ.mk (.bool true) (res1 rfl rfl) hr ⟨true, rfl, h⟩)

end Go.Proofs.YtknhlipealekoaaDoor.K
