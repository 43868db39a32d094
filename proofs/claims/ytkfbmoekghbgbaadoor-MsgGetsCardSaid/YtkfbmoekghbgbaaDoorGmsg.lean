import Derived.Test.YtkfbmoekghbgbaaDoorGframe
import Derived.Test.YtkfbmoekghbgbaaDoorGoctet
import Derived.Test.YtkfbmoekghbgbaaDoorGslices
import Derived.Test.YtkfbmoekghbgbaaDoorSatWrit
set_option linter.unusedVariables false
set_option linter.unusedSimpArgs false
set_option maxRecDepth 100000
namespace Go.Proofs.YtkfbmoekghbgbaaDoor.K
open Go
attribute [local irreducible] SW SOps SQ SCalls retQ

/-! ### lading/msg.digest: function 52 -/
def msg_digest.wp (F : Nat) (s1 : ByteArray) (H : SH) (K : Bool → SH → Prop) : Prop :=
  ∃ Hr, SH.le Hr H ∧ K ((s1.size : Int) != 32) Hr
set_option maxHeartbeats 8000000 in
theorem msg_digest.sound (F : Nat) (s1 : ByteArray) (H : SH) (K : Bool → SH → Prop) (h : msg_digest.wp F s1 H K) : SCalls Tryd.prog 52 #[.string s1] H (fun v H' => ∃ (q3 : Bool), v = .bool q3 ∧ K q3 H') := by
  unfold msg_digest.wp at h
  refine SCalls.body Tryd.func52 rfl (Nat.le_of_ble_eq_true rfl) ?_
  refine SW.seq ?_
  refine SW.region ?_
  refine SOps.val (v := .bool false) rfl (wantN rfl) (fun _ => by kernel_rfl) ?_
  refine SOps.nil ?_
  refine SW.seq ?_
  refine SW.region ?_
  refine SOps.val (v := .string s1) rfl (wantN rfl) (fun _ => by kernel_rfl) ?_
  refine SOps.val (v := .int .i64 (s1.size : Int)) rfl (wantN rfl) (fun _ => by kernel_rfl) ?_
  refine SOps.val (v := .bool ((s1.size : Int) != 32)) rfl (wantN rfl) (fun _ => by kernel_rfl) ?_
  refine SOps.val (v := .bool ((s1.size : Int) != 32)) rfl (wantN rfl) (fun _ => by kernel_rfl) ?_
  refine SOps.nil ?_
  obtain ⟨Hr, hr, h⟩ := h
  exact SW.ret (retQ.mk (.bool ((s1.size : Int) != 32)) (res1 rfl rfl) hr ⟨((s1.size : Int) != 32), rfl, h⟩)

/-! ### (lading/msg.Msg).parts: function 53 -/
def msg_Msg_parts.j1 (F : Nat) (K : Bool → SH → Prop) (q55 : Bool) (q56 : Bool) (q57 : Bool) (H : SH) : Prop :=
  (q55 = true →
    ∃ Hr, SH.le Hr H ∧ K false Hr
  ) ∧ (¬ (q55 = true) →
    (q56 = true →
      ∃ Hr, SH.le Hr H ∧ K false Hr
    ) ∧ (¬ (q56 = true) →
      ∃ Hr, SH.le Hr H ∧ K (!q57) Hr
    )
  )
def msg_Msg_parts.j2 (F : Nat) (K : Bool → SH → Prop) (q49 : Bool) (q50 : Bool) (q51 : Bool) (H : SH) : Prop :=
  msg_Msg_parts.j1 F K q49 q50 q51 H
def msg_Msg_parts.j4 (F : Nat) (K : Bool → SH → Prop) (q38 : Bool) (q39 : Bool) (q40 : Bool) (q41 : Bool) (x42 : Int) (q43 : Bool) (H : SH) : Prop :=
  (q43 = true →
    (q38 = true →
      msg_Msg_parts.j2 F K q39 q40 q41 H
    ) ∧ (¬ (q38 = true) →
      ∃ Hr, SH.le Hr H ∧ K false Hr
    )
  ) ∧ (¬ (q43 = true) →
    (x42 = 11 →
      msg_Msg_parts.j2 F K q39 q40 q41 H
    ) ∧ (¬ (x42 = 11) →
      ∃ Hr, SH.le Hr H ∧ K false Hr
    )
  )
def msg_Msg_parts.j3 (F : Nat) (K : Bool → SH → Prop) (q26 : Bool) (q27 : Bool) (q28 : Bool) (q29 : Bool) (x30 : Int) (q31 : Bool) (H : SH) : Prop :=
  (q31 = true →
    (q26 = true →
      (q28 = true →
        ∃ Hr, SH.le Hr H ∧ K false Hr
      ) ∧ (¬ (q28 = true) →
        ∃ Hr, SH.le Hr H ∧ K (!q29) Hr
      )
    ) ∧ (¬ (q26 = true) →
      ∃ Hr, SH.le Hr H ∧ K false Hr
    )
  ) ∧ (¬ (q31 = true) →
    (x30 = 10 →
      (q28 = true →
        ∃ Hr, SH.le Hr H ∧ K false Hr
      ) ∧ (¬ (q28 = true) →
        ∃ Hr, SH.le Hr H ∧ K (!q29) Hr
      )
    ) ∧ (¬ (x30 = 10) →
      (x30 = 5 →
        msg_Msg_parts.j4 F K q26 q27 q28 q29 x30 (x30 == 5) H
      ) ∧ (¬ (x30 = 5) →
        (x30 = 6 →
          msg_Msg_parts.j4 F K q26 q27 q28 q29 x30 (x30 == 6) H
        ) ∧ (¬ (x30 = 6) →
          (x30 = 7 →
            msg_Msg_parts.j4 F K q26 q27 q28 q29 x30 (x30 == 7) H
          ) ∧ (¬ (x30 = 7) →
            (x30 = 8 →
              msg_Msg_parts.j4 F K q26 q27 q28 q29 x30 (x30 == 8) H
            ) ∧ (¬ (x30 = 8) →
              msg_Msg_parts.j4 F K q26 q27 q28 q29 x30 (x30 == 9) H
            )
          )
        )
      )
    )
  )
def msg_Msg_parts.wp (F : Nat) (x1 : Int) (x2 : Int) (x3 : Int) (s4 : ByteArray) (l5 : Sl) (H : SH) (K : Bool → SH → Prop) : Prop :=
  ∀ b6, H b6 = none →
  ∃ (x8 : Int),
  SH.has (SH.upd H b6 ⟨[.int .i64 x1, .int .i64 x2, .int .i64 x3, .string s4, sv l5], 53, false, 5⟩) (b6, 1) (.int .i64 x8) ∧
  ∃ (x10 : Int),
  SH.has (SH.upd H b6 ⟨[.int .i64 x1, .int .i64 x2, .int .i64 x3, .string s4, sv l5], 53, false, 5⟩) (b6, 2) (.int .i64 x10) ∧
  ∃ (s12 : ByteArray),
  SH.has (SH.upd H b6 ⟨[.int .i64 x1, .int .i64 x2, .int .i64 x3, .string s4, sv l5], 53, false, 5⟩) (b6, 3) (.string s12) ∧
  ∃ (l14 : Sl),
  SH.has (SH.upd H b6 ⟨[.int .i64 x1, .int .i64 x2, .int .i64 x3, .string s4, sv l5], 53, false, 5⟩) (b6, 4) (sv l14) ∧
  ∃ (x16 : Int),
  SH.has (SH.upd H b6 ⟨[.int .i64 x1, .int .i64 x2, .int .i64 x3, .string s4, sv l5], 53, false, 5⟩) (b6, 0) (.int .i64 x16) ∧
  (x16 = 1 →
    ((x8 ≠ 0) →
      ∃ Hr, SH.le Hr (SH.upd H b6 ⟨[.int .i64 x1, .int .i64 x2, .int .i64 x3, .string s4, sv l5], 53, false, 5⟩) ∧ K false Hr
    ) ∧ (¬ ((x8 ≠ 0)) →
      ((x10 ≠ 0) →
        ∃ Hr, SH.le Hr (SH.upd H b6 ⟨[.int .i64 x1, .int .i64 x2, .int .i64 x3, .string s4, sv l5], 53, false, 5⟩) ∧ K false Hr
      ) ∧ (¬ ((x10 ≠ 0)) →
        ∃ Hr, SH.le Hr (SH.upd H b6 ⟨[.int .i64 x1, .int .i64 x2, .int .i64 x3, .string s4, sv l5], 53, false, 5⟩) ∧ K (!(decide ((l14.len : Int) > 0))) Hr
      )
    )
  ) ∧ (¬ (x16 = 1) →
    (x16 = 3 →
      (x8 ≠ 0 →
        ∃ (s23 : ByteArray),
        SH.has (SH.upd H b6 ⟨[.int .i64 x1, .int .i64 x2, .int .i64 x3, .string s4, sv l5], 53, false, 5⟩) (b6, 3) (.string s23) ∧
        ∃ Hr, SH.le Hr (SH.upd H b6 ⟨[.int .i64 x1, .int .i64 x2, .int .i64 x3, .string s4, sv l5], 53, false, 5⟩) ∧ K (decide ((s23.size : Int) ≤ 64)) Hr
      ) ∧ (¬ (x8 ≠ 0) →
        ∃ Hr, SH.le Hr (SH.upd H b6 ⟨[.int .i64 x1, .int .i64 x2, .int .i64 x3, .string s4, sv l5], 53, false, 5⟩) ∧ K false Hr
      )
    ) ∧ (¬ (x16 = 3) →
      (x16 = 2 →
        msg_Msg_parts.j3 F K (x8 != 0) (x10 != 0) (!decide (s12 = ByteArray.empty)) (decide ((l14.len : Int) > 0)) x16 (x16 == 2) (SH.upd H b6 ⟨[.int .i64 x1, .int .i64 x2, .int .i64 x3, .string s4, sv l5], 53, false, 5⟩)
      ) ∧ (¬ (x16 = 2) →
        msg_Msg_parts.j3 F K (x8 != 0) (x10 != 0) (!decide (s12 = ByteArray.empty)) (decide ((l14.len : Int) > 0)) x16 (x16 == 4) (SH.upd H b6 ⟨[.int .i64 x1, .int .i64 x2, .int .i64 x3, .string s4, sv l5], 53, false, 5⟩)
      )
    )
  )
set_option maxHeartbeats 8000000 in
theorem msg_Msg_parts.sound (F : Nat) (x1 : Int) (x2 : Int) (x3 : Int) (s4 : ByteArray) (l5 : Sl) (H : SH) (K : Bool → SH → Prop) (h : msg_Msg_parts.wp F x1 x2 x3 s4 l5 H K) : SCalls Tryd.prog 53 #[.agg #[.int .i64 x1, .int .i64 x2, .int .i64 x3, .string s4, sv l5]] H (fun v H' => ∃ (q63 : Bool), v = .bool q63 ∧ K q63 H') := by
  unfold msg_Msg_parts.wp at h
  refine SCalls.body Tryd.func53 rfl (Nat.le_of_ble_eq_true rfl) ?_
  refine SW.seq ?_
  refine SW.region ?_
  refine SOps.box rfl rfl (wantN rfl) (v := .agg #[.int .i64 x1, .int .i64 x2, .int .i64 x3, .string s4, sv l5]) rfl (fun b6 c7 => ?_)
  replace h := h b6 c7
  refine SOps.val (v := .bool false) rfl (wantN rfl) (fun _ => by kernel_rfl) ?_
  refine SOps.nil ?_
  refine SW.seq ?_
  refine SW.draw (by kernel_rfl) (by kernel_rfl) ?_
  refine SQ.val (v := pv (some (b6, 1))) rfl (wantN rfl) (fun _ => by kernel_rfl) ?_
  obtain ⟨x8, c9, h⟩ := h
  refine SQ.rd (v := .int .i64 x8) rfl (wantN rfl) (fun w hw => ev_load1 rfl (fun _ => by kernel_rfl) (p := (b6, 1)) rfl c9 w hw) ?_
  refine SQ.val (v := .bool (x8 != 0)) rfl (wantN rfl) (fun _ => by kernel_rfl) ?_
  refine SQ.val (v := pv (some (b6, 2))) rfl (wantN rfl) (fun _ => by kernel_rfl) ?_
  obtain ⟨x10, c11, h⟩ := h
  refine SQ.rd (v := .int .i64 x10) rfl (wantN rfl) (fun w hw => ev_load1 rfl (fun _ => by kernel_rfl) (p := (b6, 2)) rfl c11 w hw) ?_
  refine SQ.val (v := .bool (x10 != 0)) rfl (wantN rfl) (fun _ => by kernel_rfl) ?_
  refine SQ.val (v := pv (some (b6, 3))) rfl (wantN rfl) (fun _ => by kernel_rfl) ?_
  obtain ⟨s12, c13, h⟩ := h
  refine SQ.rd (v := .string s12) rfl (wantN rfl) (fun w hw => ev_load1 rfl (fun _ => by kernel_rfl) (p := (b6, 3)) rfl c13 w hw) ?_
  refine SQ.val (v := .bool (!decide (s12 = ByteArray.empty))) rfl (wantN rfl) (fun w => ev_neS rfl rfl rfl w) ?_
  refine SQ.val (v := pv (some (b6, 4))) rfl (wantN rfl) (fun _ => by kernel_rfl) ?_
  obtain ⟨l14, c15, h⟩ := h
  refine SQ.rd (v := sv l14) rfl (wantN rfl) (fun w hw => ev_load1 rfl (fun _ => by kernel_rfl) (p := (b6, 4)) rfl c15 w hw) ?_
  refine SQ.val (v := .int .i64 (l14.len : Int)) rfl (wantN rfl) (fun _ => by kernel_rfl) ?_
  refine SQ.val (v := .bool (decide ((l14.len : Int) > 0))) rfl (wantN rfl) (fun _ => by kernel_rfl) ?_
  refine SQ.val (v := .bool (x8 != 0)) rfl (wantN rfl) (fun _ => by kernel_rfl) ?_
  refine SQ.val (v := .bool (x10 != 0)) rfl (wantN rfl) (fun _ => by kernel_rfl) ?_
  refine SQ.val (v := .bool (!decide (s12 = ByteArray.empty))) rfl (wantN rfl) (fun _ => by kernel_rfl) ?_
  refine SQ.val (v := .bool (decide ((l14.len : Int) > 0))) rfl (wantN rfl) (fun _ => by kernel_rfl) ?_
  refine SQ.nil ?_
  refine SW.seq ?_
  refine SW.seq ?_
  refine SW.region ?_
  refine SOps.val (v := pv (some (b6, 0))) rfl (wantN rfl) (fun _ => by kernel_rfl) ?_
  obtain ⟨x16, c17, h⟩ := h
  refine SOps.rd (v := .int .i64 x16) rfl (wantN rfl) (fun w hw => ev_load1 rfl (fun _ => by kernel_rfl) (p := (b6, 0)) rfl c17 w hw) ?_
  refine SOps.nil ?_
  refine SW.block ?_
  refine SW.seqJ (fun fr H => ∃ (g : Fr) (q55 : Bool) (q56 : Bool) (q57 : Bool), fr = g.upds [(4, (.bool q55 : Value)), (5, (.bool q56 : Value)), (6, (.bool q57 : Value))] ∧ msg_Msg_parts.j1 F K q55 q56 q57 H) ?_ ?_
  · clear h
    rintro fr H ⟨g, q55, q56, q57, rfl, h⟩
    unfold msg_Msg_parts.j1 at h
    refine SW.seq ?_
    refine SW.seq ?_
    refine SW.region ?_
    refine SOps.val (v := .bool q55) rfl (wantN rfl) (fun _ => by kernel_rfl) ?_
    refine SOps.val (v := .bool (!q55)) rfl (wantN rfl) (fun _ => by kernel_rfl) ?_
    refine SOps.val (v := .bool (!q55)) rfl (wantN rfl) (fun _ => by kernel_rfl) ?_
    by_cases c59 : q55 = true
    · replace h := h.1 c59
      have dc59 : q55 = true := c59
      refine SOps.off rfl (wantX (c := !q55) rfl rfl rfl (not_t dc59)) ?_
      refine SOps.off rfl (wantX (c := !q55) rfl rfl rfl (not_t dc59)) ?_
      refine SOps.val (v := .bool false) rfl (wantN rfl) (fun w => ev_pickF (v := .bool false) rfl (t := !q55) rfl (not_t dc59) rfl w) ?_
      refine SOps.val (v := .bool false) rfl (wantN rfl) (fun _ => by kernel_rfl) ?_
      refine SOps.off rfl (wantX (c := false) rfl rfl rfl rfl) ?_
      refine SOps.off rfl (wantX (c := false) rfl rfl rfl rfl) ?_
      refine SOps.val (v := .bool false) rfl (wantN rfl) (fun w => ev_pickF (v := .bool false) rfl (t := false) rfl rfl rfl w) ?_
      refine SOps.val (v := .bool false) rfl (wantN rfl) (fun _ => by kernel_rfl) ?_
      refine SOps.nil ?_
      obtain ⟨Hr, hr, h⟩ := h
      exact SW.ret (retQ.mk (.bool false) (res1 rfl rfl) hr ⟨false, rfl, h⟩)
    · replace h := h.2 c59
      have dc59 : q55 = false := (Bool.eq_false_iff.mpr c59)
      refine SOps.val (v := .bool q56) rfl (wantY (c := !q55) rfl rfl rfl (not_f dc59)) (fun _ => by kernel_rfl) ?_
      refine SOps.val (v := .bool (!q56)) rfl (wantY (c := !q55) rfl rfl rfl (not_f dc59)) (fun _ => by kernel_rfl) ?_
      refine SOps.val (v := .bool (!q56)) rfl (wantN rfl) (fun w => ev_pickT (v := .bool (!q56)) rfl (t := !q55) rfl (not_f dc59) rfl w) ?_
      refine SOps.val (v := .bool (!q56)) rfl (wantN rfl) (fun _ => by kernel_rfl) ?_
      by_cases c60 : q56 = true
      · replace h := h.1 c60
        have dc60 : q56 = true := c60
        refine SOps.off rfl (wantX (c := !q56) rfl rfl rfl (not_t dc60)) ?_
        refine SOps.off rfl (wantX (c := !q56) rfl rfl rfl (not_t dc60)) ?_
        refine SOps.val (v := .bool false) rfl (wantN rfl) (fun w => ev_pickF (v := .bool false) rfl (t := !q56) rfl (not_t dc60) rfl w) ?_
        refine SOps.val (v := .bool false) rfl (wantN rfl) (fun _ => by kernel_rfl) ?_
        refine SOps.nil ?_
        obtain ⟨Hr, hr, h⟩ := h
        exact SW.ret (retQ.mk (.bool false) (res1 rfl rfl) hr ⟨false, rfl, h⟩)
      · replace h := h.2 c60
        have dc60 : q56 = false := (Bool.eq_false_iff.mpr c60)
        refine SOps.val (v := .bool q57) rfl (wantY (c := !q56) rfl rfl rfl (not_f dc60)) (fun _ => by kernel_rfl) ?_
        refine SOps.val (v := .bool (!q57)) rfl (wantY (c := !q56) rfl rfl rfl (not_f dc60)) (fun _ => by kernel_rfl) ?_
        refine SOps.val (v := .bool (!q57)) rfl (wantN rfl) (fun w => ev_pickT (v := .bool (!q57)) rfl (t := !q56) rfl (not_f dc60) rfl w) ?_
        refine SOps.val (v := .bool (!q57)) rfl (wantN rfl) (fun _ => by kernel_rfl) ?_
        refine SOps.nil ?_
        obtain ⟨Hr, hr, h⟩ := h
        exact SW.ret (retQ.mk (.bool (!q57)) (res1 rfl rfl) hr ⟨!q57, rfl, h⟩)
  · skip
    refine SW.blockJ (fun fr H => ∃ (g : Fr) (q49 : Bool) (q50 : Bool) (q51 : Bool), fr = g.upds [(4, (.bool q49 : Value)), (5, (.bool q50 : Value)), (6, (.bool q51 : Value))] ∧ msg_Msg_parts.j2 F K q49 q50 q51 H) ?_ ?_
    · clear h
      rintro fr H ⟨g, q49, q50, q51, rfl, h⟩
      unfold msg_Msg_parts.j2 at h
      exact ⟨_, q49, q50, q51, Fr.upds_self _ _ ⟨rfl, rfl, rfl, trivial⟩, h⟩
    · skip
      refine SW.seq ?_
      refine SW.block ?_
      refine SW.seq ?_
      refine SW.block ?_
      refine SW.seq ?_
      refine SW.block ?_
      refine SW.seq ?_
      refine SW.block ?_
      refine SW.seq ?_
      refine SW.block ?_
      refine SW.seq ?_
      refine SW.seq ?_
      refine SW.seq ?_
      refine SW.region ?_
      refine SOps.val (v := .bool (x16 == 1)) rfl (wantN rfl) (fun _ => by kernel_rfl) ?_
      refine SOps.val (v := .bool (x16 == 1)) rfl (wantN rfl) (fun _ => by kernel_rfl) ?_
      refine SOps.nil ?_
      by_cases c18 : x16 = 1
      · replace h := h.1 c18
        have dc18 : (x16 == 1) = true := (beq_iff_eq.mpr c18)
        refine SW.cond_t (t := (x16 == 1)) rfl dc18 ?_
        refine SW.exit ?_
        refine SW.seq ?_
        refine SW.seq ?_
        refine SW.region ?_
        refine SOps.val (v := .bool (x8 != 0)) rfl (wantN rfl) (fun _ => by kernel_rfl) ?_
        refine SOps.val (v := .bool (!(x8 != 0))) rfl (wantN rfl) (fun _ => by kernel_rfl) ?_
        refine SOps.val (v := .bool (!(x8 != 0))) rfl (wantN rfl) (fun _ => by kernel_rfl) ?_
        by_cases c19 : (x8 ≠ 0)
        · replace h := h.1 c19
          have dc19 : (x8 != 0) = true := (bne_iff_ne.mpr c19)
          refine SOps.off rfl (wantX (c := !(x8 != 0)) rfl rfl rfl (not_t dc19)) ?_
          refine SOps.off rfl (wantX (c := !(x8 != 0)) rfl rfl rfl (not_t dc19)) ?_
          refine SOps.val (v := .bool false) rfl (wantN rfl) (fun w => ev_pickF (v := .bool false) rfl (t := !(x8 != 0)) rfl (not_t dc19) rfl w) ?_
          refine SOps.val (v := .bool false) rfl (wantN rfl) (fun _ => by kernel_rfl) ?_
          refine SOps.off rfl (wantX (c := false) rfl rfl rfl rfl) ?_
          refine SOps.off rfl (wantX (c := false) rfl rfl rfl rfl) ?_
          refine SOps.val (v := .bool false) rfl (wantN rfl) (fun w => ev_pickF (v := .bool false) rfl (t := false) rfl rfl rfl w) ?_
          refine SOps.val (v := .bool false) rfl (wantN rfl) (fun _ => by kernel_rfl) ?_
          refine SOps.nil ?_
          obtain ⟨Hr, hr, h⟩ := h
          exact SW.ret (retQ.mk (.bool false) (res1 rfl rfl) hr ⟨false, rfl, h⟩)
        · replace h := h.2 c19
          have dc19 : (x8 != 0) = false := (by simpa using c19)
          refine SOps.val (v := .bool (x10 != 0)) rfl (wantY (c := !(x8 != 0)) rfl rfl rfl (not_f dc19)) (fun _ => by kernel_rfl) ?_
          refine SOps.val (v := .bool (!(x10 != 0))) rfl (wantY (c := !(x8 != 0)) rfl rfl rfl (not_f dc19)) (fun _ => by kernel_rfl) ?_
          refine SOps.val (v := .bool (!(x10 != 0))) rfl (wantN rfl) (fun w => ev_pickT (v := .bool (!(x10 != 0))) rfl (t := !(x8 != 0)) rfl (not_f dc19) rfl w) ?_
          refine SOps.val (v := .bool (!(x10 != 0))) rfl (wantN rfl) (fun _ => by kernel_rfl) ?_
          by_cases c20 : (x10 ≠ 0)
          · replace h := h.1 c20
            have dc20 : (x10 != 0) = true := (bne_iff_ne.mpr c20)
            refine SOps.off rfl (wantX (c := !(x10 != 0)) rfl rfl rfl (not_t dc20)) ?_
            refine SOps.off rfl (wantX (c := !(x10 != 0)) rfl rfl rfl (not_t dc20)) ?_
            refine SOps.val (v := .bool false) rfl (wantN rfl) (fun w => ev_pickF (v := .bool false) rfl (t := !(x10 != 0)) rfl (not_t dc20) rfl w) ?_
            refine SOps.val (v := .bool false) rfl (wantN rfl) (fun _ => by kernel_rfl) ?_
            refine SOps.nil ?_
            obtain ⟨Hr, hr, h⟩ := h
            exact SW.ret (retQ.mk (.bool false) (res1 rfl rfl) hr ⟨false, rfl, h⟩)
          · replace h := h.2 c20
            have dc20 : (x10 != 0) = false := (by simpa using c20)
            refine SOps.val (v := .bool (decide ((l14.len : Int) > 0))) rfl (wantY (c := !(x10 != 0)) rfl rfl rfl (not_f dc20)) (fun _ => by kernel_rfl) ?_
            refine SOps.val (v := .bool (!(decide ((l14.len : Int) > 0)))) rfl (wantY (c := !(x10 != 0)) rfl rfl rfl (not_f dc20)) (fun _ => by kernel_rfl) ?_
            refine SOps.val (v := .bool (!(decide ((l14.len : Int) > 0)))) rfl (wantN rfl) (fun w => ev_pickT (v := .bool (!(decide ((l14.len : Int) > 0)))) rfl (t := !(x10 != 0)) rfl (not_f dc20) rfl w) ?_
            refine SOps.val (v := .bool (!(decide ((l14.len : Int) > 0)))) rfl (wantN rfl) (fun _ => by kernel_rfl) ?_
            refine SOps.nil ?_
            obtain ⟨Hr, hr, h⟩ := h
            exact SW.ret (retQ.mk (.bool (!(decide ((l14.len : Int) > 0)))) (res1 rfl rfl) hr ⟨!(decide ((l14.len : Int) > 0)), rfl, h⟩)
      · replace h := h.2 c18
        have dc18 : (x16 == 1) = false := (beq_eq_false_iff_ne.mpr c18)
        refine SW.cond_f (t := (x16 == 1)) rfl dc18 ?_
        refine SW.skip ?_
        refine SW.seq ?_
        refine SW.seq ?_
        refine SW.region ?_
        refine SOps.val (v := .bool (x16 == 3)) rfl (wantN rfl) (fun _ => by kernel_rfl) ?_
        refine SOps.val (v := .bool (x16 == 3)) rfl (wantN rfl) (fun _ => by kernel_rfl) ?_
        refine SOps.nil ?_
        by_cases c21 : x16 = 3
        · replace h := h.1 c21
          have dc21 : (x16 == 3) = true := (beq_iff_eq.mpr c21)
          refine SW.cond_t (t := (x16 == 3)) rfl dc21 ?_
          refine SW.exit ?_
          refine SW.seq ?_
          refine SW.seq ?_
          refine SW.region ?_
          refine SOps.val (v := .bool (x8 != 0)) rfl (wantN rfl) (fun _ => by kernel_rfl) ?_
          refine SOps.val (v := .bool (x8 != 0)) rfl (wantN rfl) (fun _ => by kernel_rfl) ?_
          by_cases c22 : x8 ≠ 0
          · replace h := h.1 c22
            have dc22 : (x8 != 0) = true := (bne_iff_ne.mpr c22)
            refine SOps.val (v := pv (some (b6, 3))) rfl (wantY (c := (x8 != 0)) rfl rfl rfl dc22) (fun _ => by kernel_rfl) ?_
            obtain ⟨s23, c24, h⟩ := h
            refine SOps.rd (v := .string s23) rfl (wantY (c := (x8 != 0)) rfl rfl rfl dc22) (fun w hw => ev_load1 rfl (fun _ => by kernel_rfl) (p := (b6, 3)) rfl c24 w hw) ?_
            refine SOps.val (v := .int .i64 (s23.size : Int)) rfl (wantY (c := (x8 != 0)) rfl rfl rfl dc22) (fun _ => by kernel_rfl) ?_
            refine SOps.val (v := .bool (decide ((s23.size : Int) ≤ 64))) rfl (wantY (c := (x8 != 0)) rfl rfl rfl dc22) (fun _ => by kernel_rfl) ?_
            refine SOps.val (v := .bool (decide ((s23.size : Int) ≤ 64))) rfl (wantN rfl) (fun w => ev_pickT (v := .bool (decide ((s23.size : Int) ≤ 64))) rfl (t := (x8 != 0)) rfl dc22 rfl w) ?_
            refine SOps.val (v := .bool (decide ((s23.size : Int) ≤ 64))) rfl (wantN rfl) (fun _ => by kernel_rfl) ?_
            refine SOps.nil ?_
            obtain ⟨Hr, hr, h⟩ := h
            exact SW.ret (retQ.mk (.bool (decide ((s23.size : Int) ≤ 64))) (res1 rfl rfl) hr ⟨decide ((s23.size : Int) ≤ 64), rfl, h⟩)
          · replace h := h.2 c22
            have dc22 : (x8 != 0) = false := (by simpa using c22)
            refine SOps.off rfl (wantX (c := (x8 != 0)) rfl rfl rfl dc22) ?_
            refine SOps.off rfl (wantX (c := (x8 != 0)) rfl rfl rfl dc22) ?_
            refine SOps.off rfl (wantX (c := (x8 != 0)) rfl rfl rfl dc22) ?_
            refine SOps.off rfl (wantX (c := (x8 != 0)) rfl rfl rfl dc22) ?_
            refine SOps.val (v := .bool false) rfl (wantN rfl) (fun w => ev_pickF (v := .bool false) rfl (t := (x8 != 0)) rfl dc22 rfl w) ?_
            refine SOps.val (v := .bool false) rfl (wantN rfl) (fun _ => by kernel_rfl) ?_
            refine SOps.nil ?_
            obtain ⟨Hr, hr, h⟩ := h
            exact SW.ret (retQ.mk (.bool false) (res1 rfl rfl) hr ⟨false, rfl, h⟩)
        · replace h := h.2 c21
          have dc21 : (x16 == 3) = false := (beq_eq_false_iff_ne.mpr c21)
          refine SW.cond_f (t := (x16 == 3)) rfl dc21 ?_
          refine SW.skip ?_
          refine SW.seq ?_
          refine SW.seqJ (fun fr H => ∃ (g : Fr) (q26 : Bool) (q27 : Bool) (q28 : Bool) (q29 : Bool) (x30 : Int) (q31 : Bool), fr = g.upds [(3, (.bool q26 : Value)), (4, (.bool q27 : Value)), (5, (.bool q28 : Value)), (6, (.bool q29 : Value)), (21, (.int .i64 x30 : Value)), (26, (.bool q31 : Value))] ∧ msg_Msg_parts.j3 F K q26 q27 q28 q29 x30 q31 H) ?_ ?_
          · clear h
            rintro fr H ⟨g, q26, q27, q28, q29, x30, q31, rfl, h⟩
            unfold msg_Msg_parts.j3 at h
            by_cases c32 : q31 = true
            · replace h := h.1 c32
              have dc32 : q31 = true := c32
              refine SW.cond_t (t := q31) rfl dc32 ?_
              refine SW.exit ?_
              refine SW.seq ?_
              refine SW.seq ?_
              refine SW.region ?_
              refine SOps.val (v := .bool q26) rfl (wantN rfl) (fun _ => by kernel_rfl) ?_
              refine SOps.val (v := .bool q26) rfl (wantN rfl) (fun _ => by kernel_rfl) ?_
              by_cases c33 : q26 = true
              · replace h := h.1 c33
                have dc33 : q26 = true := c33
                refine SOps.val (v := .bool q28) rfl (wantY (c := q26) rfl rfl rfl dc33) (fun _ => by kernel_rfl) ?_
                refine SOps.val (v := .bool (!q28)) rfl (wantY (c := q26) rfl rfl rfl dc33) (fun _ => by kernel_rfl) ?_
                refine SOps.val (v := .bool (!q28)) rfl (wantN rfl) (fun w => ev_pickT (v := .bool (!q28)) rfl (t := q26) rfl dc33 rfl w) ?_
                refine SOps.val (v := .bool (!q28)) rfl (wantN rfl) (fun _ => by kernel_rfl) ?_
                by_cases c34 : q28 = true
                · replace h := h.1 c34
                  have dc34 : q28 = true := c34
                  refine SOps.off rfl (wantX (c := !q28) rfl rfl rfl (not_t dc34)) ?_
                  refine SOps.off rfl (wantX (c := !q28) rfl rfl rfl (not_t dc34)) ?_
                  refine SOps.val (v := .bool false) rfl (wantN rfl) (fun w => ev_pickF (v := .bool false) rfl (t := !q28) rfl (not_t dc34) rfl w) ?_
                  refine SOps.val (v := .bool false) rfl (wantN rfl) (fun _ => by kernel_rfl) ?_
                  refine SOps.nil ?_
                  obtain ⟨Hr, hr, h⟩ := h
                  exact SW.ret (retQ.mk (.bool false) (res1 rfl rfl) hr ⟨false, rfl, h⟩)
                · replace h := h.2 c34
                  have dc34 : q28 = false := (Bool.eq_false_iff.mpr c34)
                  refine SOps.val (v := .bool q29) rfl (wantY (c := !q28) rfl rfl rfl (not_f dc34)) (fun _ => by kernel_rfl) ?_
                  refine SOps.val (v := .bool (!q29)) rfl (wantY (c := !q28) rfl rfl rfl (not_f dc34)) (fun _ => by kernel_rfl) ?_
                  refine SOps.val (v := .bool (!q29)) rfl (wantN rfl) (fun w => ev_pickT (v := .bool (!q29)) rfl (t := !q28) rfl (not_f dc34) rfl w) ?_
                  refine SOps.val (v := .bool (!q29)) rfl (wantN rfl) (fun _ => by kernel_rfl) ?_
                  refine SOps.nil ?_
                  obtain ⟨Hr, hr, h⟩ := h
                  exact SW.ret (retQ.mk (.bool (!q29)) (res1 rfl rfl) hr ⟨!q29, rfl, h⟩)
              · replace h := h.2 c33
                have dc33 : q26 = false := (Bool.eq_false_iff.mpr c33)
                refine SOps.off rfl (wantX (c := q26) rfl rfl rfl dc33) ?_
                refine SOps.off rfl (wantX (c := q26) rfl rfl rfl dc33) ?_
                refine SOps.val (v := .bool false) rfl (wantN rfl) (fun w => ev_pickF (v := .bool false) rfl (t := q26) rfl dc33 rfl w) ?_
                refine SOps.val (v := .bool false) rfl (wantN rfl) (fun _ => by kernel_rfl) ?_
                refine SOps.off rfl (wantX (c := false) rfl rfl rfl rfl) ?_
                refine SOps.off rfl (wantX (c := false) rfl rfl rfl rfl) ?_
                refine SOps.val (v := .bool false) rfl (wantN rfl) (fun w => ev_pickF (v := .bool false) rfl (t := false) rfl rfl rfl w) ?_
                refine SOps.val (v := .bool false) rfl (wantN rfl) (fun _ => by kernel_rfl) ?_
                refine SOps.nil ?_
                obtain ⟨Hr, hr, h⟩ := h
                exact SW.ret (retQ.mk (.bool false) (res1 rfl rfl) hr ⟨false, rfl, h⟩)
            · replace h := h.2 c32
              have dc32 : q31 = false := (Bool.eq_false_iff.mpr c32)
              refine SW.cond_f (t := q31) rfl dc32 ?_
              refine SW.skip ?_
              refine SW.seq ?_
              refine SW.seq ?_
              refine SW.region ?_
              refine SOps.val (v := .bool (x30 == 10)) rfl (wantN rfl) (fun _ => by kernel_rfl) ?_
              refine SOps.val (v := .bool (x30 == 10)) rfl (wantN rfl) (fun _ => by kernel_rfl) ?_
              refine SOps.nil ?_
              by_cases c35 : x30 = 10
              · replace h := h.1 c35
                have dc35 : (x30 == 10) = true := (beq_iff_eq.mpr c35)
                refine SW.cond_t (t := (x30 == 10)) rfl dc35 ?_
                refine SW.exit ?_
                refine SW.seq ?_
                refine SW.seq ?_
                refine SW.region ?_
                refine SOps.val (v := .bool q28) rfl (wantN rfl) (fun _ => by kernel_rfl) ?_
                refine SOps.val (v := .bool (!q28)) rfl (wantN rfl) (fun _ => by kernel_rfl) ?_
                refine SOps.val (v := .bool (!q28)) rfl (wantN rfl) (fun _ => by kernel_rfl) ?_
                by_cases c36 : q28 = true
                · replace h := h.1 c36
                  have dc36 : q28 = true := c36
                  refine SOps.off rfl (wantX (c := !q28) rfl rfl rfl (not_t dc36)) ?_
                  refine SOps.off rfl (wantX (c := !q28) rfl rfl rfl (not_t dc36)) ?_
                  refine SOps.val (v := .bool false) rfl (wantN rfl) (fun w => ev_pickF (v := .bool false) rfl (t := !q28) rfl (not_t dc36) rfl w) ?_
                  refine SOps.val (v := .bool false) rfl (wantN rfl) (fun _ => by kernel_rfl) ?_
                  refine SOps.nil ?_
                  obtain ⟨Hr, hr, h⟩ := h
                  exact SW.ret (retQ.mk (.bool false) (res1 rfl rfl) hr ⟨false, rfl, h⟩)
                · replace h := h.2 c36
                  have dc36 : q28 = false := (Bool.eq_false_iff.mpr c36)
                  refine SOps.val (v := .bool q29) rfl (wantY (c := !q28) rfl rfl rfl (not_f dc36)) (fun _ => by kernel_rfl) ?_
                  refine SOps.val (v := .bool (!q29)) rfl (wantY (c := !q28) rfl rfl rfl (not_f dc36)) (fun _ => by kernel_rfl) ?_
                  refine SOps.val (v := .bool (!q29)) rfl (wantN rfl) (fun w => ev_pickT (v := .bool (!q29)) rfl (t := !q28) rfl (not_f dc36) rfl w) ?_
                  refine SOps.val (v := .bool (!q29)) rfl (wantN rfl) (fun _ => by kernel_rfl) ?_
                  refine SOps.nil ?_
                  obtain ⟨Hr, hr, h⟩ := h
                  exact SW.ret (retQ.mk (.bool (!q29)) (res1 rfl rfl) hr ⟨!q29, rfl, h⟩)
              · replace h := h.2 c35
                have dc35 : (x30 == 10) = false := (beq_eq_false_iff_ne.mpr c35)
                refine SW.cond_f (t := (x30 == 10)) rfl dc35 ?_
                refine SW.skip ?_
                refine SW.seq ?_
                refine SW.seqJ (fun fr H => ∃ (g : Fr) (q38 : Bool) (q39 : Bool) (q40 : Bool) (q41 : Bool) (x42 : Int) (q43 : Bool), fr = g.upds [(3, (.bool q38 : Value)), (4, (.bool q39 : Value)), (5, (.bool q40 : Value)), (6, (.bool q41 : Value)), (21, (.int .i64 x42 : Value)), (31, (.bool q43 : Value))] ∧ msg_Msg_parts.j4 F K q38 q39 q40 q41 x42 q43 H) ?_ ?_
                · clear h
                  rintro fr H ⟨g, q38, q39, q40, q41, x42, q43, rfl, h⟩
                  unfold msg_Msg_parts.j4 at h
                  by_cases c47 : q43 = true
                  · replace h := h.1 c47
                    have dc47 : q43 = true := c47
                    refine SW.cond_t (t := q43) rfl dc47 ?_
                    refine SW.exit ?_
                    refine SW.seq ?_
                    refine SW.region ?_
                    refine SOps.val (v := .bool q38) rfl (wantN rfl) (fun _ => by kernel_rfl) ?_
                    refine SOps.val (v := .bool (!q38)) rfl (wantN rfl) (fun _ => by kernel_rfl) ?_
                    refine SOps.nil ?_
                    by_cases c48 : q38 = true
                    · replace h := h.1 c48
                      have dc48 : q38 = true := c48
                      refine SW.cond_f (t := !q38) rfl (not_t dc48) ?_
                      refine SW.skip ?_
                      exact ⟨_, q39, q40, q41, Fr.upds_self _ _ ⟨rfl, rfl, rfl, trivial⟩, h⟩
                    · replace h := h.2 c48
                      have dc48 : q38 = false := (Bool.eq_false_iff.mpr c48)
                      refine SW.cond_t (t := !q38) rfl (not_f dc48) ?_
                      refine SW.seq ?_
                      refine SW.region ?_
                      refine SOps.val (v := .bool false) rfl (wantN rfl) (fun _ => by kernel_rfl) ?_
                      refine SOps.nil ?_
                      obtain ⟨Hr, hr, h⟩ := h
                      exact SW.ret (retQ.mk (.bool false) (res1 rfl rfl) hr ⟨false, rfl, h⟩)
                  · replace h := h.2 c47
                    have dc47 : q43 = false := (Bool.eq_false_iff.mpr c47)
                    refine SW.cond_f (t := q43) rfl dc47 ?_
                    refine SW.skip ?_
                    refine SW.seq ?_
                    refine SW.region ?_
                    refine SOps.val (v := .bool (x42 == 11)) rfl (wantN rfl) (fun _ => by kernel_rfl) ?_
                    refine SOps.val (v := .bool (x42 == 11)) rfl (wantN rfl) (fun _ => by kernel_rfl) ?_
                    refine SOps.nil ?_
                    by_cases c52 : x42 = 11
                    · replace h := h.1 c52
                      have dc52 : (x42 == 11) = true := (beq_iff_eq.mpr c52)
                      refine SW.cond_t (t := (x42 == 11)) rfl dc52 ?_
                      refine SW.exit ?_
                      exact ⟨_, q39, q40, q41, Fr.upds_self _ _ ⟨rfl, rfl, rfl, trivial⟩, h⟩
                    · replace h := h.2 c52
                      have dc52 : (x42 == 11) = false := (beq_eq_false_iff_ne.mpr c52)
                      refine SW.cond_f (t := (x42 == 11)) rfl dc52 ?_
                      refine SW.skip ?_
                      refine SW.exit ?_
                      refine SW.seq ?_
                      refine SW.region ?_
                      refine SOps.val (v := .bool false) rfl (wantN rfl) (fun _ => by kernel_rfl) ?_
                      refine SOps.nil ?_
                      obtain ⟨Hr, hr, h⟩ := h
                      exact SW.ret (retQ.mk (.bool false) (res1 rfl rfl) hr ⟨false, rfl, h⟩)
                · skip
                  refine SW.seq ?_
                  refine SW.region ?_
                  refine SOps.val (v := .bool (x30 == 5)) rfl (wantN rfl) (fun _ => by kernel_rfl) ?_
                  refine SOps.val (v := .bool (x30 == 5)) rfl (wantN rfl) (fun _ => by kernel_rfl) ?_
                  refine SOps.nil ?_
                  by_cases c37 : x30 = 5
                  · replace h := h.1 c37
                    have dc37 : (x30 == 5) = true := (beq_iff_eq.mpr c37)
                    refine SW.cond_t (t := (x30 == 5)) rfl dc37 ?_
                    refine SW.skip ?_
                    exact ⟨_, q26, q27, q28, q29, x30, (x30 == 5), Fr.upds_self _ _ ⟨rfl, rfl, rfl, rfl, rfl, rfl, trivial⟩, h⟩
                  · replace h := h.2 c37
                    have dc37 : (x30 == 5) = false := (beq_eq_false_iff_ne.mpr c37)
                    refine SW.cond_f (t := (x30 == 5)) rfl dc37 ?_
                    refine SW.seq ?_
                    refine SW.region ?_
                    refine SOps.val (v := .bool (x30 == 6)) rfl (wantN rfl) (fun _ => by kernel_rfl) ?_
                    refine SOps.val (v := .bool (x30 == 6)) rfl (wantN rfl) (fun _ => by kernel_rfl) ?_
                    refine SOps.nil ?_
                    by_cases c44 : x30 = 6
                    · replace h := h.1 c44
                      have dc44 : (x30 == 6) = true := (beq_iff_eq.mpr c44)
                      refine SW.cond_t (t := (x30 == 6)) rfl dc44 ?_
                      refine SW.skip ?_
                      exact ⟨_, q26, q27, q28, q29, x30, (x30 == 6), Fr.upds_self _ _ ⟨rfl, rfl, rfl, rfl, rfl, rfl, trivial⟩, h⟩
                    · replace h := h.2 c44
                      have dc44 : (x30 == 6) = false := (beq_eq_false_iff_ne.mpr c44)
                      refine SW.cond_f (t := (x30 == 6)) rfl dc44 ?_
                      refine SW.seq ?_
                      refine SW.region ?_
                      refine SOps.val (v := .bool (x30 == 7)) rfl (wantN rfl) (fun _ => by kernel_rfl) ?_
                      refine SOps.val (v := .bool (x30 == 7)) rfl (wantN rfl) (fun _ => by kernel_rfl) ?_
                      refine SOps.nil ?_
                      by_cases c45 : x30 = 7
                      · replace h := h.1 c45
                        have dc45 : (x30 == 7) = true := (beq_iff_eq.mpr c45)
                        refine SW.cond_t (t := (x30 == 7)) rfl dc45 ?_
                        refine SW.skip ?_
                        exact ⟨_, q26, q27, q28, q29, x30, (x30 == 7), Fr.upds_self _ _ ⟨rfl, rfl, rfl, rfl, rfl, rfl, trivial⟩, h⟩
                      · replace h := h.2 c45
                        have dc45 : (x30 == 7) = false := (beq_eq_false_iff_ne.mpr c45)
                        refine SW.cond_f (t := (x30 == 7)) rfl dc45 ?_
                        refine SW.seq ?_
                        refine SW.region ?_
                        refine SOps.val (v := .bool (x30 == 8)) rfl (wantN rfl) (fun _ => by kernel_rfl) ?_
                        refine SOps.val (v := .bool (x30 == 8)) rfl (wantN rfl) (fun _ => by kernel_rfl) ?_
                        refine SOps.nil ?_
                        by_cases c46 : x30 = 8
                        · replace h := h.1 c46
                          have dc46 : (x30 == 8) = true := (beq_iff_eq.mpr c46)
                          refine SW.cond_t (t := (x30 == 8)) rfl dc46 ?_
                          refine SW.skip ?_
                          exact ⟨_, q26, q27, q28, q29, x30, (x30 == 8), Fr.upds_self _ _ ⟨rfl, rfl, rfl, rfl, rfl, rfl, trivial⟩, h⟩
                        · replace h := h.2 c46
                          have dc46 : (x30 == 8) = false := (beq_eq_false_iff_ne.mpr c46)
                          refine SW.cond_f (t := (x30 == 8)) rfl dc46 ?_
                          refine SW.region ?_
                          refine SOps.val (v := .bool (x30 == 9)) rfl (wantN rfl) (fun _ => by kernel_rfl) ?_
                          refine SOps.val (v := .bool (x30 == 9)) rfl (wantN rfl) (fun _ => by kernel_rfl) ?_
                          refine SOps.nil ?_
                          exact ⟨_, q26, q27, q28, q29, x30, (x30 == 9), Fr.upds_self _ _ ⟨rfl, rfl, rfl, rfl, rfl, rfl, trivial⟩, h⟩
          · skip
            refine SW.seq ?_
            refine SW.region ?_
            refine SOps.val (v := .bool (x16 == 2)) rfl (wantN rfl) (fun _ => by kernel_rfl) ?_
            refine SOps.val (v := .bool (x16 == 2)) rfl (wantN rfl) (fun _ => by kernel_rfl) ?_
            refine SOps.nil ?_
            by_cases c25 : x16 = 2
            · replace h := h.1 c25
              have dc25 : (x16 == 2) = true := (beq_iff_eq.mpr c25)
              refine SW.cond_t (t := (x16 == 2)) rfl dc25 ?_
              refine SW.skip ?_
              exact ⟨_, (x8 != 0), (x10 != 0), !decide (s12 = ByteArray.empty), decide ((l14.len : Int) > 0), x16, (x16 == 2), Fr.upds_self _ _ ⟨rfl, rfl, rfl, rfl, rfl, rfl, trivial⟩, h⟩
            · replace h := h.2 c25
              have dc25 : (x16 == 2) = false := (beq_eq_false_iff_ne.mpr c25)
              refine SW.cond_f (t := (x16 == 2)) rfl dc25 ?_
              refine SW.region ?_
              refine SOps.val (v := .bool (x16 == 4)) rfl (wantN rfl) (fun _ => by kernel_rfl) ?_
              refine SOps.val (v := .bool (x16 == 4)) rfl (wantN rfl) (fun _ => by kernel_rfl) ?_
              refine SOps.nil ?_
              exact ⟨_, (x8 != 0), (x10 != 0), !decide (s12 = ByteArray.empty), decide ((l14.len : Int) > 0), x16, (x16 == 4), Fr.upds_self _ _ ⟨rfl, rfl, rfl, rfl, rfl, rfl, trivial⟩, h⟩

/-! ### slices.IndexFunc[[]string,string]: function 76 -/
def slices_IndexFunc_string_string__msg_digest.r1 (F : Nat) (K : Int → SH → Prop) (R1 : Sl → Int → Int → SH → Prop) (l2 : Sl) (x3 : Int) (x4 : Int) (H : SH) : Prop :=
  (x4 < x3 →
    ∃ p6, l2.a = some p6 ∧ 0 ≤ x4 ∧ x4 < (l2.len : Int) ∧
    ∃ (s10 : ByteArray),
    SH.has H (p6.1, (p6.2 + x4.toNat * 1)) (.string s10) ∧
    msg_digest.wp F s10 H (fun q12 H13 =>
      (q12 = true →
        ∃ Hr, SH.le Hr H13 ∧ K x4 Hr
      ) ∧ (¬ (q12 = true) →
        R1 l2 x3 (w64 (x4 + 1)) H13
      )
    )
  ) ∧ (¬ (x4 < x3) →
    ∃ Hr, SH.le Hr H ∧ K (-1) Hr
  )
def slices_IndexFunc_string_string__msg_digest.l1 (F : Nat) (K : Int → SH → Prop) : Nat → Sl → Int → Int → SH → Prop
  | 0, _, _, _, _ => False
  | k + 1, l2, x3, x4, H => slices_IndexFunc_string_string__msg_digest.r1 F K (slices_IndexFunc_string_string__msg_digest.l1 F K k) l2 x3 x4 H
def slices_IndexFunc_string_string__msg_digest.wp (F : Nat) (l1 : Sl) (H : SH) (K : Int → SH → Prop) : Prop :=
  slices_IndexFunc_string_string__msg_digest.l1 F K F l1 (l1.len : Int) 0 H
set_option maxHeartbeats 8000000 in
theorem slices_IndexFunc_string_string__msg_digest.sound (F : Nat) (l1 : Sl) (H : SH) (K : Int → SH → Prop) (h : slices_IndexFunc_string_string__msg_digest.wp F l1 H K) : SCalls Tryd.prog 76 #[sv l1, .func (.func 52) #[] #[]] H (fun v H' => ∃ (x18 : Int), v = .int .i64 x18 ∧ K x18 H') := by
  unfold slices_IndexFunc_string_string__msg_digest.wp at h
  refine SCalls.body Tryd.func76 rfl (Nat.le_of_ble_eq_true rfl) ?_
  refine SW.seq ?_
  refine SW.region ?_
  refine SOps.val (v := .int .i64 0) rfl (wantN rfl) (fun _ => by kernel_rfl) ?_
  refine SOps.nil ?_
  refine SW.seq ?_
  refine SW.seq ?_
  refine SW.region ?_
  refine SOps.val (v := sv l1) rfl (wantN rfl) (fun _ => by kernel_rfl) ?_
  refine SOps.val (v := .int .i64 (l1.len : Int)) rfl (wantN rfl) (fun _ => by kernel_rfl) ?_
  refine SOps.val (v := .int .i64 0) rfl (wantN rfl) (fun _ => by kernel_rfl) ?_
  refine SOps.nil ?_
  refine SW.block ?_
  refine SW.loop (fun k1 fr H => ∃ (g : Fr) (l2 : Sl) (x3 : Int) (x4 : Int), fr = g.upds [(0, sv l2), (1, (.func (.func 52) #[] #[] : Value)), (7, (.int .i64 x3 : Value)), (8, (.int .i64 x4 : Value))] ∧ slices_IndexFunc_string_string__msg_digest.l1 F K k1 l2 x3 x4 H) F ⟨_, l1, (l1.len : Int), 0, (Fr.upds_self _ _ ⟨rfl, rfl, rfl, rfl, trivial⟩), h⟩ ?_
  clear h
  rintro k1 fr H ⟨g, l2, x3, x4, rfl, h⟩
  cases k1 with
  | zero => exact h.elim
  | succ k1 =>
    replace h : slices_IndexFunc_string_string__msg_digest.r1 F K (slices_IndexFunc_string_string__msg_digest.l1 F K k1) l2 x3 x4 H := h
    unfold slices_IndexFunc_string_string__msg_digest.r1 at h
    refine SW.seq ?_
    refine SW.region ?_
    refine SOps.val (v := .bool (decide (x4 < x3))) rfl (wantN rfl) (fun _ => by kernel_rfl) ?_
    refine SOps.nil ?_
    refine SW.seq ?_
    by_cases c5 : x4 < x3
    · replace h := h.1 c5
      have dc5 : (decide (x4 < x3)) = true := (decide_eq_true c5)
      refine SW.cond_t (t := decide (x4 < x3)) rfl dc5 ?_
      refine SW.skip ?_
      refine SW.seq ?_
      refine SW.block ?_
      refine SW.seq ?_
      refine SW.region ?_
      refine SOps.val (v := .int .i64 x4) rfl (wantN rfl) (fun _ => by kernel_rfl) ?_
      refine SOps.val (v := .int .i64 x4) rfl (wantN rfl) (fun _ => by kernel_rfl) ?_
      refine SOps.nil ?_
      refine SW.seq ?_
      refine SW.region ?_
      refine SOps.val (v := .func (.func 52) #[] #[]) rfl (wantN rfl) (fun _ => by kernel_rfl) ?_
      refine SOps.val (v := sv l2) rfl (wantN rfl) (fun _ => by kernel_rfl) ?_
      refine SOps.val (v := .int .i64 x4) rfl (wantN rfl) (fun _ => by kernel_rfl) ?_
      obtain ⟨p6, c7, c8, c9, h⟩ := h
      refine SOps.val (v := pv (some (p6.1, (p6.2 + x4.toNat * 1)))) rfl (wantN rfl) (fun w => ev_iaddr rfl Tryd.underlying51 (size := 1) (by kernel_rfl) rfl rfl c7 c8 c9 w) ?_
      obtain ⟨s10, c11, h⟩ := h
      refine SOps.rd (v := .string s10) rfl (wantN rfl) (fun w hw => ev_load1 rfl (fun _ => by kernel_rfl) (p := (p6.1, (p6.2 + x4.toNat * 1))) rfl c11 w hw) ?_
      refine SOps.enter rfl (wantN rfl) (fun _ => by kernel_rfl) (msg_digest.sound F s10 H _ h) ?_
      clear h
      rintro v H13 ⟨q12, rfl, h⟩
      refine SOps.nil ?_
      by_cases c14 : q12 = true
      · replace h := h.1 c14
        have dc14 : q12 = true := c14
        refine SW.cond_t (t := q12) rfl dc14 ?_
        refine SW.seq ?_
        refine SW.region ?_
        refine SOps.val (v := .int .i64 x4) rfl (wantN rfl) (fun _ => by kernel_rfl) ?_
        refine SOps.val (v := .int .i64 x4) rfl (wantN rfl) (fun _ => by kernel_rfl) ?_
        refine SOps.nil ?_
        obtain ⟨Hr, hr, h⟩ := h
        exact SW.ret (retQ.mk (.int .i64 x4) (res1 rfl rfl) hr ⟨x4, rfl, h⟩)
      · replace h := h.2 c14
        have dc14 : q12 = false := (Bool.eq_false_iff.mpr c14)
        refine SW.cond_f (t := q12) rfl dc14 ?_
        refine SW.skip ?_
        refine SW.region ?_
        refine SOps.val (v := .int .i64 (w64 (x4 + 1))) rfl (wantN rfl) (fun _ => by kernel_rfl) ?_
        refine SOps.val (v := .int .i64 (w64 (x4 + 1))) rfl (wantN rfl) (fun _ => by kernel_rfl) ?_
        refine SOps.nil ?_
        exact ⟨k1, Nat.lt_succ_self k1, _, l2, x3, w64 (x4 + 1), (Fr.upds_self _ _ ⟨rfl, rfl, rfl, rfl, trivial⟩), h⟩
    · replace h := h.2 c5
      have dc5 : (decide (x4 < x3)) = false := (decide_eq_false c5)
      refine SW.cond_f (t := decide (x4 < x3)) rfl dc5 ?_
      refine SW.exit ?_
      refine SW.seq ?_
      refine SW.region ?_
      refine SOps.val (v := .int .i64 (-1)) rfl (wantN rfl) (fun _ => by kernel_rfl) ?_
      refine SOps.nil ?_
      obtain ⟨Hr, hr, h⟩ := h
      exact SW.ret (retQ.mk (.int .i64 (-1)) (res1 rfl rfl) hr ⟨(-1), rfl, h⟩)
/-! ### slices.ContainsFunc[[]string,string]: function 51 -/
def slices_ContainsFunc_string_string__msg_digest.wp (F : Nat) (l1 : Sl) (H : SH) (K : Bool → SH → Prop) : Prop :=
  slices_IndexFunc_string_string__msg_digest.wp F l1 H (fun x2 H3 =>
    ∃ Hr, SH.le Hr H3 ∧ K (decide (x2 ≥ 0)) Hr
  )
set_option maxHeartbeats 8000000 in
theorem slices_ContainsFunc_string_string__msg_digest.sound (F : Nat) (l1 : Sl) (H : SH) (K : Bool → SH → Prop) (h : slices_ContainsFunc_string_string__msg_digest.wp F l1 H K) : SCalls Tryd.prog 51 #[sv l1, .func (.func 52) #[] #[]] H (fun v H' => ∃ (q5 : Bool), v = .bool q5 ∧ K q5 H') := by
  unfold slices_ContainsFunc_string_string__msg_digest.wp at h
  refine SCalls.body Tryd.func51 rfl (Nat.le_of_ble_eq_true rfl) ?_
  refine SW.seq ?_
  refine SW.region ?_
  refine SOps.val (v := .bool false) rfl (wantN rfl) (fun _ => by kernel_rfl) ?_
  refine SOps.nil ?_
  refine SW.seq ?_
  refine SW.region ?_
  refine SOps.val (v := sv l1) rfl (wantN rfl) (fun _ => by kernel_rfl) ?_
  refine SOps.val (v := .func (.func 52) #[] #[]) rfl (wantN rfl) (fun _ => by kernel_rfl) ?_
  refine SOps.enter rfl (wantN rfl) (fun _ => by kernel_rfl) (slices_IndexFunc_string_string__msg_digest.sound F l1 H _ h) ?_
  clear h
  rintro v H3 ⟨x2, rfl, h⟩
  refine SOps.val (v := .bool (decide (x2 ≥ 0))) rfl (wantN rfl) (fun _ => by kernel_rfl) ?_
  refine SOps.val (v := .bool (decide (x2 ≥ 0))) rfl (wantN rfl) (fun _ => by kernel_rfl) ?_
  refine SOps.nil ?_
  obtain ⟨Hr, hr, h⟩ := h
  exact SW.ret (retQ.mk (.bool (decide (x2 ≥ 0))) (res1 rfl rfl) hr ⟨decide (x2 ≥ 0), rfl, h⟩)
/-! ### lading/msg.Check: function 29 -/
def msg_Check.wp (F : Nat) (x1 : Int) (x2 : Int) (x3 : Int) (s4 : ByteArray) (l5 : Sl) (H : SH) (K : Option EV → SH → Prop) : Prop :=
  ∀ b6, H b6 = none →
  ∃ (x8 : Int),
  SH.has (SH.upd H b6 ⟨[.int .i64 x1, .int .i64 x2, .int .i64 x3, .string s4, sv l5], 53, false, 5⟩) (b6, 1) (.int .i64 x8) ∧
  ∃ (x10 : Int),
  SH.has (SH.upd H b6 ⟨[.int .i64 x1, .int .i64 x2, .int .i64 x3, .string s4, sv l5], 53, false, 5⟩) (b6, 2) (.int .i64 x10) ∧
  ((imin x8 x10) < 0 →
    ∃ Hr, SH.le Hr (SH.upd H b6 ⟨[.int .i64 x1, .int .i64 x2, .int .i64 x3, .string s4, sv l5], 53, false, 5⟩) ∧ K (some (EV.no 4)) Hr
  ) ∧ (¬ ((imin x8 x10) < 0) →
    ∃ (x13 : Int),
    SH.has (SH.upd H b6 ⟨[.int .i64 x1, .int .i64 x2, .int .i64 x3, .string s4, sv l5], 53, false, 5⟩) (b6, 1) (.int .i64 x13) ∧
    ∃ (x15 : Int),
    SH.has (SH.upd H b6 ⟨[.int .i64 x1, .int .i64 x2, .int .i64 x3, .string s4, sv l5], 53, false, 5⟩) (b6, 2) (.int .i64 x15) ∧
    ((imax x13 x15) > 1099511627776 →
      ∃ Hr, SH.le Hr (SH.upd H b6 ⟨[.int .i64 x1, .int .i64 x2, .int .i64 x3, .string s4, sv l5], 53, false, 5⟩) ∧ K (some (EV.no 4)) Hr
    ) ∧ (¬ ((imax x13 x15) > 1099511627776) →
      ∃ (s18 : ByteArray),
      SH.has (SH.upd H b6 ⟨[.int .i64 x1, .int .i64 x2, .int .i64 x3, .string s4, sv l5], 53, false, 5⟩) (b6, 3) (.string s18) ∧
      ((s18.size : Int) > 5000 →
        ∃ Hr, SH.le Hr (SH.upd H b6 ⟨[.int .i64 x1, .int .i64 x2, .int .i64 x3, .string s4, sv l5], 53, false, 5⟩) ∧ K (some (EV.no 4)) Hr
      ) ∧ (¬ ((s18.size : Int) > 5000) →
        ∃ (l21 : Sl),
        SH.has (SH.upd H b6 ⟨[.int .i64 x1, .int .i64 x2, .int .i64 x3, .string s4, sv l5], 53, false, 5⟩) (b6, 4) (sv l21) ∧
        ((l21.len : Int) > 20 →
          ∃ Hr, SH.le Hr (SH.upd H b6 ⟨[.int .i64 x1, .int .i64 x2, .int .i64 x3, .string s4, sv l5], 53, false, 5⟩) ∧ K (some (EV.no 4)) Hr
        ) ∧ (¬ ((l21.len : Int) > 20) →
          ∃ (l24 : Sl),
          SH.has (SH.upd H b6 ⟨[.int .i64 x1, .int .i64 x2, .int .i64 x3, .string s4, sv l5], 53, false, 5⟩) (b6, 4) (sv l24) ∧
          slices_ContainsFunc_string_string__msg_digest.wp F l24 (SH.upd H b6 ⟨[.int .i64 x1, .int .i64 x2, .int .i64 x3, .string s4, sv l5], 53, false, 5⟩) (fun q26 H27 =>
            (q26 = true →
              ∃ Hr, SH.le Hr H27 ∧ K (some (EV.no 4)) Hr
            ) ∧ (¬ (q26 = true) →
              ∃ (x29 : Int) (x30 : Int) (x31 : Int) (s32 : ByteArray) (l33 : Sl),
              SH.row H27 (some (b6, 0)) [.int .i64 x29, .int .i64 x30, .int .i64 x31, .string s32, sv l33] ∧
              msg_Msg_parts.wp F x29 x30 x31 s32 l33 H27 (fun q35 H36 =>
                (q35 = true →
                  ∃ Hr, SH.le Hr H36 ∧ K none Hr
                ) ∧ (¬ (q35 = true) →
                  ∃ Hr, SH.le Hr H36 ∧ K (some (EV.no 4)) Hr
                )
              )
            )
          )
        )
      )
    )
  )
set_option maxHeartbeats 8000000 in
theorem msg_Check.sound (F : Nat) (x1 : Int) (x2 : Int) (x3 : Int) (s4 : ByteArray) (l5 : Sl) (H : SH) (K : Option EV → SH → Prop) (h : msg_Check.wp F x1 x2 x3 s4 l5 H K) : SCalls Tryd.prog 29 #[.agg #[.int .i64 x1, .int .i64 x2, .int .i64 x3, .string s4, sv l5]] H (fun v H' => ∃ (e39 : Option EV), v = errV e39 ∧ K e39 H') := by
  unfold msg_Check.wp at h
  refine SCalls.body Tryd.func29 rfl (Nat.le_of_ble_eq_true rfl) ?_
  refine SW.seq ?_
  refine SW.region ?_
  refine SOps.box rfl rfl (wantN rfl) (v := .agg #[.int .i64 x1, .int .i64 x2, .int .i64 x3, .string s4, sv l5]) rfl (fun b6 c7 => ?_)
  replace h := h b6 c7
  refine SOps.val (v := errV none) rfl (wantN rfl) (fun _ => by kernel_rfl) ?_
  refine SOps.nil ?_
  refine SW.seq ?_
  refine SW.seq ?_
  refine SW.region ?_
  refine SOps.val (v := pv (some (b6, 1))) rfl (wantN rfl) (fun _ => by kernel_rfl) ?_
  obtain ⟨x8, c9, h⟩ := h
  refine SOps.rd (v := .int .i64 x8) rfl (wantN rfl) (fun w hw => ev_load1 rfl (fun _ => by kernel_rfl) (p := (b6, 1)) rfl c9 w hw) ?_
  refine SOps.val (v := pv (some (b6, 2))) rfl (wantN rfl) (fun _ => by kernel_rfl) ?_
  obtain ⟨x10, c11, h⟩ := h
  refine SOps.rd (v := .int .i64 x10) rfl (wantN rfl) (fun w hw => ev_load1 rfl (fun _ => by kernel_rfl) (p := (b6, 2)) rfl c11 w hw) ?_
  refine SOps.val (v := .int .i64 (imin x8 x10)) rfl (wantN rfl) (fun _ => by kernel_rfl) ?_
  refine SOps.val (v := .bool (decide ((imin x8 x10) < 0))) rfl (wantN rfl) (fun _ => by kernel_rfl) ?_
  refine SOps.val (v := .bool (decide ((imin x8 x10) < 0))) rfl (wantN rfl) (fun _ => by kernel_rfl) ?_
  by_cases c12 : (imin x8 x10) < 0
  · replace h := h.1 c12
    have dc12 : (decide ((imin x8 x10) < 0)) = true := (decide_eq_true c12)
    refine SOps.off rfl (wantX (c := decide ((imin x8 x10) < 0)) rfl rfl rfl dc12) ?_
    refine SOps.off rfl (wantX (c := decide ((imin x8 x10) < 0)) rfl rfl rfl dc12) ?_
    refine SOps.off rfl (wantX (c := decide ((imin x8 x10) < 0)) rfl rfl rfl dc12) ?_
    refine SOps.off rfl (wantX (c := decide ((imin x8 x10) < 0)) rfl rfl rfl dc12) ?_
    refine SOps.off rfl (wantX (c := decide ((imin x8 x10) < 0)) rfl rfl rfl dc12) ?_
    refine SOps.off rfl (wantX (c := decide ((imin x8 x10) < 0)) rfl rfl rfl dc12) ?_
    refine SOps.val (v := .bool true) rfl (wantN rfl) (fun w => ev_pickT (v := .bool true) rfl (t := decide ((imin x8 x10) < 0)) rfl dc12 rfl w) ?_
    refine SOps.val (v := .bool true) rfl (wantN rfl) (fun _ => by kernel_rfl) ?_
    refine SOps.off rfl (wantX (c := true) rfl rfl rfl rfl) ?_
    refine SOps.off rfl (wantX (c := true) rfl rfl rfl rfl) ?_
    refine SOps.off rfl (wantX (c := true) rfl rfl rfl rfl) ?_
    refine SOps.off rfl (wantX (c := true) rfl rfl rfl rfl) ?_
    refine SOps.val (v := .bool true) rfl (wantN rfl) (fun w => ev_pickT (v := .bool true) rfl (t := true) rfl rfl rfl w) ?_
    refine SOps.val (v := .bool true) rfl (wantN rfl) (fun _ => by kernel_rfl) ?_
    refine SOps.off rfl (wantX (c := true) rfl rfl rfl rfl) ?_
    refine SOps.off rfl (wantX (c := true) rfl rfl rfl rfl) ?_
    refine SOps.off rfl (wantX (c := true) rfl rfl rfl rfl) ?_
    refine SOps.off rfl (wantX (c := true) rfl rfl rfl rfl) ?_
    refine SOps.val (v := .bool true) rfl (wantN rfl) (fun w => ev_pickT (v := .bool true) rfl (t := true) rfl rfl rfl w) ?_
    refine SOps.val (v := .bool true) rfl (wantN rfl) (fun _ => by kernel_rfl) ?_
    refine SOps.off rfl (wantX (c := true) rfl rfl rfl rfl) ?_
    refine SOps.off rfl (wantX (c := true) rfl rfl rfl rfl) ?_
    refine SOps.off rfl (wantX (c := true) rfl rfl rfl rfl) ?_
    refine SOps.val (v := .bool true) rfl (wantN rfl) (fun w => ev_pickT (v := .bool true) rfl (t := true) rfl rfl rfl w) ?_
    refine SOps.val (v := .bool true) rfl (wantN rfl) (fun _ => by kernel_rfl) ?_
    refine SOps.off rfl (wantX (c := true) rfl rfl rfl rfl) ?_
    refine SOps.off rfl (wantX (c := true) rfl rfl rfl rfl) ?_
    refine SOps.off rfl (wantX (c := true) rfl rfl rfl rfl) ?_
    refine SOps.val (v := .bool true) rfl (wantN rfl) (fun w => ev_pickT (v := .bool true) rfl (t := true) rfl rfl rfl w) ?_
    refine SOps.nil ?_
    refine SW.cond_t (t := true) rfl rfl ?_
    refine SW.seq ?_
    refine SW.region ?_
    refine SOps.val (v := errV (some (EV.no 4))) rfl (wantN rfl) (fun _ => by kernel_rfl) ?_
    refine SOps.val (v := errV (some (EV.no 4))) rfl (wantN rfl) (fun _ => by kernel_rfl) ?_
    refine SOps.nil ?_
    obtain ⟨Hr, hr, h⟩ := h
    exact SW.ret (retQ.mk (errV (some (EV.no 4))) (res1 rfl rfl) hr ⟨some (EV.no 4), rfl, h⟩)
  · replace h := h.2 c12
    have dc12 : (decide ((imin x8 x10) < 0)) = false := (decide_eq_false c12)
    refine SOps.val (v := pv (some (b6, 1))) rfl (wantY (c := decide ((imin x8 x10) < 0)) rfl rfl rfl dc12) (fun _ => by kernel_rfl) ?_
    obtain ⟨x13, c14, h⟩ := h
    refine SOps.rd (v := .int .i64 x13) rfl (wantY (c := decide ((imin x8 x10) < 0)) rfl rfl rfl dc12) (fun w hw => ev_load1 rfl (fun _ => by kernel_rfl) (p := (b6, 1)) rfl c14 w hw) ?_
    refine SOps.val (v := pv (some (b6, 2))) rfl (wantY (c := decide ((imin x8 x10) < 0)) rfl rfl rfl dc12) (fun _ => by kernel_rfl) ?_
    obtain ⟨x15, c16, h⟩ := h
    refine SOps.rd (v := .int .i64 x15) rfl (wantY (c := decide ((imin x8 x10) < 0)) rfl rfl rfl dc12) (fun w hw => ev_load1 rfl (fun _ => by kernel_rfl) (p := (b6, 2)) rfl c16 w hw) ?_
    refine SOps.val (v := .int .i64 (imax x13 x15)) rfl (wantY (c := decide ((imin x8 x10) < 0)) rfl rfl rfl dc12) (fun _ => by kernel_rfl) ?_
    refine SOps.val (v := .bool (decide ((imax x13 x15) > 1099511627776))) rfl (wantY (c := decide ((imin x8 x10) < 0)) rfl rfl rfl dc12) (fun _ => by kernel_rfl) ?_
    refine SOps.val (v := .bool (decide ((imax x13 x15) > 1099511627776))) rfl (wantN rfl) (fun w => ev_pickF (v := .bool (decide ((imax x13 x15) > 1099511627776))) rfl (t := decide ((imin x8 x10) < 0)) rfl dc12 rfl w) ?_
    refine SOps.val (v := .bool (decide ((imax x13 x15) > 1099511627776))) rfl (wantN rfl) (fun _ => by kernel_rfl) ?_
    by_cases c17 : (imax x13 x15) > 1099511627776
    · replace h := h.1 c17
      have dc17 : (decide ((imax x13 x15) > 1099511627776)) = true := (decide_eq_true c17)
      refine SOps.off rfl (wantX (c := decide ((imax x13 x15) > 1099511627776)) rfl rfl rfl dc17) ?_
      refine SOps.off rfl (wantX (c := decide ((imax x13 x15) > 1099511627776)) rfl rfl rfl dc17) ?_
      refine SOps.off rfl (wantX (c := decide ((imax x13 x15) > 1099511627776)) rfl rfl rfl dc17) ?_
      refine SOps.off rfl (wantX (c := decide ((imax x13 x15) > 1099511627776)) rfl rfl rfl dc17) ?_
      refine SOps.val (v := .bool true) rfl (wantN rfl) (fun w => ev_pickT (v := .bool true) rfl (t := decide ((imax x13 x15) > 1099511627776)) rfl dc17 rfl w) ?_
      refine SOps.val (v := .bool true) rfl (wantN rfl) (fun _ => by kernel_rfl) ?_
      refine SOps.off rfl (wantX (c := true) rfl rfl rfl rfl) ?_
      refine SOps.off rfl (wantX (c := true) rfl rfl rfl rfl) ?_
      refine SOps.off rfl (wantX (c := true) rfl rfl rfl rfl) ?_
      refine SOps.off rfl (wantX (c := true) rfl rfl rfl rfl) ?_
      refine SOps.val (v := .bool true) rfl (wantN rfl) (fun w => ev_pickT (v := .bool true) rfl (t := true) rfl rfl rfl w) ?_
      refine SOps.val (v := .bool true) rfl (wantN rfl) (fun _ => by kernel_rfl) ?_
      refine SOps.off rfl (wantX (c := true) rfl rfl rfl rfl) ?_
      refine SOps.off rfl (wantX (c := true) rfl rfl rfl rfl) ?_
      refine SOps.off rfl (wantX (c := true) rfl rfl rfl rfl) ?_
      refine SOps.val (v := .bool true) rfl (wantN rfl) (fun w => ev_pickT (v := .bool true) rfl (t := true) rfl rfl rfl w) ?_
      refine SOps.val (v := .bool true) rfl (wantN rfl) (fun _ => by kernel_rfl) ?_
      refine SOps.off rfl (wantX (c := true) rfl rfl rfl rfl) ?_
      refine SOps.off rfl (wantX (c := true) rfl rfl rfl rfl) ?_
      refine SOps.off rfl (wantX (c := true) rfl rfl rfl rfl) ?_
      refine SOps.val (v := .bool true) rfl (wantN rfl) (fun w => ev_pickT (v := .bool true) rfl (t := true) rfl rfl rfl w) ?_
      refine SOps.nil ?_
      refine SW.cond_t (t := true) rfl rfl ?_
      refine SW.seq ?_
      refine SW.region ?_
      refine SOps.val (v := errV (some (EV.no 4))) rfl (wantN rfl) (fun _ => by kernel_rfl) ?_
      refine SOps.val (v := errV (some (EV.no 4))) rfl (wantN rfl) (fun _ => by kernel_rfl) ?_
      refine SOps.nil ?_
      obtain ⟨Hr, hr, h⟩ := h
      exact SW.ret (retQ.mk (errV (some (EV.no 4))) (res1 rfl rfl) hr ⟨some (EV.no 4), rfl, h⟩)
    · replace h := h.2 c17
      have dc17 : (decide ((imax x13 x15) > 1099511627776)) = false := (decide_eq_false c17)
      refine SOps.val (v := pv (some (b6, 3))) rfl (wantY (c := decide ((imax x13 x15) > 1099511627776)) rfl rfl rfl dc17) (fun _ => by kernel_rfl) ?_
      obtain ⟨s18, c19, h⟩ := h
      refine SOps.rd (v := .string s18) rfl (wantY (c := decide ((imax x13 x15) > 1099511627776)) rfl rfl rfl dc17) (fun w hw => ev_load1 rfl (fun _ => by kernel_rfl) (p := (b6, 3)) rfl c19 w hw) ?_
      refine SOps.val (v := .int .i64 (s18.size : Int)) rfl (wantY (c := decide ((imax x13 x15) > 1099511627776)) rfl rfl rfl dc17) (fun _ => by kernel_rfl) ?_
      refine SOps.val (v := .bool (decide ((s18.size : Int) > 5000))) rfl (wantY (c := decide ((imax x13 x15) > 1099511627776)) rfl rfl rfl dc17) (fun _ => by kernel_rfl) ?_
      refine SOps.val (v := .bool (decide ((s18.size : Int) > 5000))) rfl (wantN rfl) (fun w => ev_pickF (v := .bool (decide ((s18.size : Int) > 5000))) rfl (t := decide ((imax x13 x15) > 1099511627776)) rfl dc17 rfl w) ?_
      refine SOps.val (v := .bool (decide ((s18.size : Int) > 5000))) rfl (wantN rfl) (fun _ => by kernel_rfl) ?_
      by_cases c20 : (s18.size : Int) > 5000
      · replace h := h.1 c20
        have dc20 : (decide ((s18.size : Int) > 5000)) = true := (decide_eq_true c20)
        refine SOps.off rfl (wantX (c := decide ((s18.size : Int) > 5000)) rfl rfl rfl dc20) ?_
        refine SOps.off rfl (wantX (c := decide ((s18.size : Int) > 5000)) rfl rfl rfl dc20) ?_
        refine SOps.off rfl (wantX (c := decide ((s18.size : Int) > 5000)) rfl rfl rfl dc20) ?_
        refine SOps.off rfl (wantX (c := decide ((s18.size : Int) > 5000)) rfl rfl rfl dc20) ?_
        refine SOps.val (v := .bool true) rfl (wantN rfl) (fun w => ev_pickT (v := .bool true) rfl (t := decide ((s18.size : Int) > 5000)) rfl dc20 rfl w) ?_
        refine SOps.val (v := .bool true) rfl (wantN rfl) (fun _ => by kernel_rfl) ?_
        refine SOps.off rfl (wantX (c := true) rfl rfl rfl rfl) ?_
        refine SOps.off rfl (wantX (c := true) rfl rfl rfl rfl) ?_
        refine SOps.off rfl (wantX (c := true) rfl rfl rfl rfl) ?_
        refine SOps.val (v := .bool true) rfl (wantN rfl) (fun w => ev_pickT (v := .bool true) rfl (t := true) rfl rfl rfl w) ?_
        refine SOps.val (v := .bool true) rfl (wantN rfl) (fun _ => by kernel_rfl) ?_
        refine SOps.off rfl (wantX (c := true) rfl rfl rfl rfl) ?_
        refine SOps.off rfl (wantX (c := true) rfl rfl rfl rfl) ?_
        refine SOps.off rfl (wantX (c := true) rfl rfl rfl rfl) ?_
        refine SOps.val (v := .bool true) rfl (wantN rfl) (fun w => ev_pickT (v := .bool true) rfl (t := true) rfl rfl rfl w) ?_
        refine SOps.nil ?_
        refine SW.cond_t (t := true) rfl rfl ?_
        refine SW.seq ?_
        refine SW.region ?_
        refine SOps.val (v := errV (some (EV.no 4))) rfl (wantN rfl) (fun _ => by kernel_rfl) ?_
        refine SOps.val (v := errV (some (EV.no 4))) rfl (wantN rfl) (fun _ => by kernel_rfl) ?_
        refine SOps.nil ?_
        obtain ⟨Hr, hr, h⟩ := h
        exact SW.ret (retQ.mk (errV (some (EV.no 4))) (res1 rfl rfl) hr ⟨some (EV.no 4), rfl, h⟩)
      · replace h := h.2 c20
        have dc20 : (decide ((s18.size : Int) > 5000)) = false := (decide_eq_false c20)
        refine SOps.val (v := pv (some (b6, 4))) rfl (wantY (c := decide ((s18.size : Int) > 5000)) rfl rfl rfl dc20) (fun _ => by kernel_rfl) ?_
        obtain ⟨l21, c22, h⟩ := h
        refine SOps.rd (v := sv l21) rfl (wantY (c := decide ((s18.size : Int) > 5000)) rfl rfl rfl dc20) (fun w hw => ev_load1 rfl (fun _ => by kernel_rfl) (p := (b6, 4)) rfl c22 w hw) ?_
        refine SOps.val (v := .int .i64 (l21.len : Int)) rfl (wantY (c := decide ((s18.size : Int) > 5000)) rfl rfl rfl dc20) (fun _ => by kernel_rfl) ?_
        refine SOps.val (v := .bool (decide ((l21.len : Int) > 20))) rfl (wantY (c := decide ((s18.size : Int) > 5000)) rfl rfl rfl dc20) (fun _ => by kernel_rfl) ?_
        refine SOps.val (v := .bool (decide ((l21.len : Int) > 20))) rfl (wantN rfl) (fun w => ev_pickF (v := .bool (decide ((l21.len : Int) > 20))) rfl (t := decide ((s18.size : Int) > 5000)) rfl dc20 rfl w) ?_
        refine SOps.val (v := .bool (decide ((l21.len : Int) > 20))) rfl (wantN rfl) (fun _ => by kernel_rfl) ?_
        by_cases c23 : (l21.len : Int) > 20
        · replace h := h.1 c23
          have dc23 : (decide ((l21.len : Int) > 20)) = true := (decide_eq_true c23)
          refine SOps.off rfl (wantX (c := decide ((l21.len : Int) > 20)) rfl rfl rfl dc23) ?_
          refine SOps.off rfl (wantX (c := decide ((l21.len : Int) > 20)) rfl rfl rfl dc23) ?_
          refine SOps.off rfl (wantX (c := decide ((l21.len : Int) > 20)) rfl rfl rfl dc23) ?_
          refine SOps.val (v := .bool true) rfl (wantN rfl) (fun w => ev_pickT (v := .bool true) rfl (t := decide ((l21.len : Int) > 20)) rfl dc23 rfl w) ?_
          refine SOps.val (v := .bool true) rfl (wantN rfl) (fun _ => by kernel_rfl) ?_
          refine SOps.off rfl (wantX (c := true) rfl rfl rfl rfl) ?_
          refine SOps.off rfl (wantX (c := true) rfl rfl rfl rfl) ?_
          refine SOps.off rfl (wantX (c := true) rfl rfl rfl rfl) ?_
          refine SOps.val (v := .bool true) rfl (wantN rfl) (fun w => ev_pickT (v := .bool true) rfl (t := true) rfl rfl rfl w) ?_
          refine SOps.nil ?_
          refine SW.cond_t (t := true) rfl rfl ?_
          refine SW.seq ?_
          refine SW.region ?_
          refine SOps.val (v := errV (some (EV.no 4))) rfl (wantN rfl) (fun _ => by kernel_rfl) ?_
          refine SOps.val (v := errV (some (EV.no 4))) rfl (wantN rfl) (fun _ => by kernel_rfl) ?_
          refine SOps.nil ?_
          obtain ⟨Hr, hr, h⟩ := h
          exact SW.ret (retQ.mk (errV (some (EV.no 4))) (res1 rfl rfl) hr ⟨some (EV.no 4), rfl, h⟩)
        · replace h := h.2 c23
          have dc23 : (decide ((l21.len : Int) > 20)) = false := (decide_eq_false c23)
          refine SOps.val (v := pv (some (b6, 4))) rfl (wantY (c := decide ((l21.len : Int) > 20)) rfl rfl rfl dc23) (fun _ => by kernel_rfl) ?_
          obtain ⟨l24, c25, h⟩ := h
          refine SOps.rd (v := sv l24) rfl (wantY (c := decide ((l21.len : Int) > 20)) rfl rfl rfl dc23) (fun w hw => ev_load1 rfl (fun _ => by kernel_rfl) (p := (b6, 4)) rfl c25 w hw) ?_
          refine SOps.enter rfl (wantY (c := decide ((l21.len : Int) > 20)) rfl rfl rfl dc23) (fun _ => by kernel_rfl) (slices_ContainsFunc_string_string__msg_digest.sound F l24 (SH.upd H b6 ⟨[.int .i64 x1, .int .i64 x2, .int .i64 x3, .string s4, sv l5], 53, false, 5⟩) _ h) ?_
          clear h
          rintro v H27 ⟨q26, rfl, h⟩
          refine SOps.val (v := .bool q26) rfl (wantN rfl) (fun w => ev_pickF (v := .bool q26) rfl (t := decide ((l21.len : Int) > 20)) rfl dc23 rfl w) ?_
          refine SOps.val (v := .bool q26) rfl (wantN rfl) (fun _ => by kernel_rfl) ?_
          by_cases c28 : q26 = true
          · replace h := h.1 c28
            have dc28 : q26 = true := c28
            refine SOps.off rfl (wantX (c := q26) rfl rfl rfl dc28) ?_
            refine SOps.off rfl (wantX (c := q26) rfl rfl rfl dc28) ?_
            refine SOps.off rfl (wantX (c := q26) rfl rfl rfl dc28) ?_
            refine SOps.val (v := .bool true) rfl (wantN rfl) (fun w => ev_pickT (v := .bool true) rfl (t := q26) rfl dc28 rfl w) ?_
            refine SOps.nil ?_
            refine SW.cond_t (t := true) rfl rfl ?_
            refine SW.seq ?_
            refine SW.region ?_
            refine SOps.val (v := errV (some (EV.no 4))) rfl (wantN rfl) (fun _ => by kernel_rfl) ?_
            refine SOps.val (v := errV (some (EV.no 4))) rfl (wantN rfl) (fun _ => by kernel_rfl) ?_
            refine SOps.nil ?_
            obtain ⟨Hr, hr, h⟩ := h
            exact SW.ret (retQ.mk (errV (some (EV.no 4))) (res1 rfl rfl) hr ⟨some (EV.no 4), rfl, h⟩)
          · replace h := h.2 c28
            have dc28 : q26 = false := (Bool.eq_false_iff.mpr c28)
            obtain ⟨x29, x30, x31, s32, l33, c34, h⟩ := h
            refine SOps.rd (v := .agg #[.int .i64 x29, .int .i64 x30, .int .i64 x31, .string s32, sv l33]) rfl (wantY (c := q26) rfl rfl rfl dc28) (fun w hw => ev_loadN rfl (fun _ => by kernel_rfl) (size := 5) (by kernel_rfl) (p := (b6, 0)) rfl rfl c34 w hw) ?_
            refine SOps.enter rfl (wantY (c := q26) rfl rfl rfl dc28) (fun _ => by kernel_rfl) (msg_Msg_parts.sound F x29 x30 x31 s32 l33 H27 _ h) ?_
            clear h
            rintro v H36 ⟨q35, rfl, h⟩
            refine SOps.val (v := .bool (!q35)) rfl (wantY (c := q26) rfl rfl rfl dc28) (fun _ => by kernel_rfl) ?_
            refine SOps.val (v := .bool (!q35)) rfl (wantN rfl) (fun w => ev_pickF (v := .bool (!q35)) rfl (t := q26) rfl dc28 rfl w) ?_
            refine SOps.nil ?_
            by_cases c37 : q35 = true
            · replace h := h.1 c37
              have dc37 : q35 = true := c37
              refine SW.cond_f (t := !q35) rfl (not_t dc37) ?_
              refine SW.skip ?_
              refine SW.seq ?_
              refine SW.region ?_
              refine SOps.val (v := errV none) rfl (wantN rfl) (fun _ => by kernel_rfl) ?_
              refine SOps.nil ?_
              obtain ⟨Hr, hr, h⟩ := h
              exact SW.ret (retQ.mk (errV none) (res1 rfl rfl) hr ⟨none, rfl, h⟩)
            · replace h := h.2 c37
              have dc37 : q35 = false := (Bool.eq_false_iff.mpr c37)
              refine SW.cond_t (t := !q35) rfl (not_f dc37) ?_
              refine SW.seq ?_
              refine SW.region ?_
              refine SOps.val (v := errV (some (EV.no 4))) rfl (wantN rfl) (fun _ => by kernel_rfl) ?_
              refine SOps.val (v := errV (some (EV.no 4))) rfl (wantN rfl) (fun _ => by kernel_rfl) ?_
              refine SOps.nil ?_
              obtain ⟨Hr, hr, h⟩ := h
              exact SW.ret (retQ.mk (errV (some (EV.no 4))) (res1 rfl rfl) hr ⟨some (EV.no 4), rfl, h⟩)

/-! ### lading/msg.Put: function 28 -/
def msg_Put.wp (F : Nat) (x1 : Int) (x2 : Int) (x3 : Int) (s4 : ByteArray) (l5 : Sl) (H : SH) (K : ByteArray → Option EV → SH → Prop) : Prop :=
  ∀ b6, H b6 = none →
  ∃ (x8 : Int) (x9 : Int) (x10 : Int) (s11 : ByteArray) (l12 : Sl),
  SH.row (SH.upd H b6 ⟨[.int .i64 x1, .int .i64 x2, .int .i64 x3, .string s4, sv l5], 53, false, 5⟩) (some (b6, 0)) [.int .i64 x8, .int .i64 x9, .int .i64 x10, .string s11, sv l12] ∧
  msg_Check.wp F x8 x9 x10 s11 l12 (SH.upd H b6 ⟨[.int .i64 x1, .int .i64 x2, .int .i64 x3, .string s4, sv l5], 53, false, 5⟩) (fun e14 H15 =>
    (e14 = none →
      ∃ (x17 : Int),
      SH.has H15 (b6, 1) (.int .i64 x17) ∧
      octet_PutShort.wp F x17 H15 (fun s19 e20 H21 =>
        ∃ (x22 : Int),
        SH.has H21 (b6, 2) (.int .i64 x22) ∧
        octet_PutShort.wp F x22 H21 (fun s24 e25 H26 =>
          ∃ (l27 : Sl),
          SH.has H26 (b6, 4) (sv l27) ∧
          octet_PutShort.wp F (l27.len : Int) H26 (fun s29 e30 H31 =>
            ∃ (x32 : Int),
            SH.has H31 (b6, 0) (.int .i64 x32) ∧
            ∃ bs36 : List UInt8,
            ([.int .u8 (IntKind.u8.wrap x32)] : List Value) = byteCells bs36 ∧
            (⟨bs36.toArray⟩ : ByteArray).size + s19.size ≤ 9223372036854775807 ∧
            ((⟨bs36.toArray⟩ : ByteArray) ++ s19).size + s24.size ≤ 9223372036854775807 ∧
            ∃ (s40 : ByteArray),
            SH.has H31 (b6, 3) (.string s40) ∧
            ∃ (s44 : ByteArray),
            (∀ b42, H31 b42 = none →  octet_PutText.wp F (⟨some (b42, 0), 1, 1⟩ : Sl) (SH.upd H31 b42 (⟨[.string s40], 9, false, 1⟩ : AO)) (fun s44' H' => s44' = s44 ∧ SH.le (SH.upd H31 b42 (⟨[.string s40], 9, false, 1⟩ : AO)) H')) ∧
            (((⟨bs36.toArray⟩ : ByteArray) ++ s19) ++ s24).size + s44.size ≤ 9223372036854775807 ∧
            ((((⟨bs36.toArray⟩ : ByteArray) ++ s19) ++ s24) ++ s44).size + s29.size ≤ 9223372036854775807 ∧
            ∃ (l48 : Sl),
            SH.has H31 (b6, 4) (sv l48) ∧
            ∃ (s50 : ByteArray),
            ( octet_PutText.wp F l48 H31 (fun s50' H' => s50' = s50 ∧ SH.le H31 H')) ∧
            (((((⟨bs36.toArray⟩ : ByteArray) ++ s19) ++ s24) ++ s44) ++ s29).size + s50.size ≤ 9223372036854775807 ∧
            ∃ (s53 : ByteArray) (e54 : Option EV),
            ( frame_Seal.wp F ((((((⟨bs36.toArray⟩ : ByteArray) ++ s19) ++ s24) ++ s44) ++ s29) ++ s50) H31 (fun s53' e54' H' => s53' = s53 ∧ e54' = e54 ∧ SH.le H31 H')) ∧
            ∃ Hr, SH.le Hr H31 ∧ K s53 e54 Hr
          )
        )
      )
    ) ∧ (∀ v16, e14 = some v16 →
      ∃ Hr, SH.le Hr H15 ∧ K ByteArray.empty (some v16) Hr
    )
  )
set_option maxHeartbeats 8000000 in
theorem msg_Put.sound (F : Nat) (x1 : Int) (x2 : Int) (x3 : Int) (s4 : ByteArray) (l5 : Sl) (H : SH) (K : ByteArray → Option EV → SH → Prop) (h : msg_Put.wp F x1 x2 x3 s4 l5 H K) : SCalls Tryd.prog 28 #[.agg #[.int .i64 x1, .int .i64 x2, .int .i64 x3, .string s4, sv l5]] H (fun v H' => ∃ (s59 : ByteArray) (e60 : Option EV), v = .tuple #[.string s59, errV e60] ∧ K s59 e60 H') := by
  unfold msg_Put.wp at h
  refine SCalls.body Tryd.func28 rfl (Nat.le_of_ble_eq_true rfl) ?_
  refine SW.seq ?_
  refine SW.region ?_
  refine SOps.box rfl rfl (wantN rfl) (v := .agg #[.int .i64 x1, .int .i64 x2, .int .i64 x3, .string s4, sv l5]) rfl (fun b6 c7 => ?_)
  replace h := h b6 c7
  refine SOps.val (v := .string ByteArray.empty) rfl (wantN rfl) (fun _ => by kernel_rfl) ?_
  refine SOps.val (v := errV none) rfl (wantN rfl) (fun _ => by kernel_rfl) ?_
  refine SOps.nil ?_
  refine SW.seq ?_
  refine SW.seq ?_
  refine SW.region ?_
  obtain ⟨x8, x9, x10, s11, l12, c13, h⟩ := h
  refine SOps.rd (v := .agg #[.int .i64 x8, .int .i64 x9, .int .i64 x10, .string s11, sv l12]) rfl (wantN rfl) (fun w hw => ev_loadN rfl (fun _ => by kernel_rfl) (size := 5) (by kernel_rfl) (p := (b6, 0)) rfl rfl c13 w hw) ?_
  refine SOps.enter rfl (wantN rfl) (fun _ => by kernel_rfl) (msg_Check.sound F x8 x9 x10 s11 l12 (SH.upd H b6 ⟨[.int .i64 x1, .int .i64 x2, .int .i64 x3, .string s4, sv l5], 53, false, 5⟩) _ h) ?_
  clear h
  rintro v H15 ⟨e14, rfl, h⟩
  refine SOps.val (v := errV e14) rfl (wantN rfl) (fun _ => by kernel_rfl) ?_
  refine SOps.nil ?_
  refine SW.seq ?_
  refine SW.region ?_
  refine SOps.val (v := errV e14) rfl (wantN rfl) (fun _ => by kernel_rfl) ?_
  rcases e14 with _ | v16
  · replace h := h.1 rfl
    refine SOps.val (v := .bool false) rfl (wantN rfl) (fun w => ev_errNe (e := none) rfl Tryd.underlying31 rfl rfl w) ?_
    refine SOps.nil ?_
    refine SW.cond_f (t := false) rfl rfl ?_
    refine SW.skip ?_
    refine SW.seq ?_
    refine SW.region ?_
    refine SOps.val (v := pv (some (b6, 1))) rfl (wantN rfl) (fun _ => by kernel_rfl) ?_
    obtain ⟨x17, c18, h⟩ := h
    refine SOps.rd (v := .int .i64 x17) rfl (wantN rfl) (fun w hw => ev_load1 rfl (fun _ => by kernel_rfl) (p := (b6, 1)) rfl c18 w hw) ?_
    refine SOps.enter rfl (wantN rfl) (fun _ => by kernel_rfl) (octet_PutShort.sound F x17 H15 _ h) ?_
    clear h
    rintro v H21 ⟨s19, e20, rfl, h⟩
    refine SOps.val (v := .tuple #[.string s19, errV e20]) rfl (wantN rfl) (fun _ => by kernel_rfl) ?_
    refine SOps.val (v := .string s19) rfl (wantN rfl) (fun _ => by kernel_rfl) ?_
    refine SOps.val (v := errV e20) rfl (wantN rfl) (fun _ => by kernel_rfl) ?_
    refine SOps.val (v := .string s19) rfl (wantN rfl) (fun _ => by kernel_rfl) ?_
    refine SOps.val (v := errV e20) rfl (wantN rfl) (fun _ => by kernel_rfl) ?_
    refine SOps.nil ?_
    refine SW.seq ?_
    refine SW.region ?_
    refine SOps.val (v := pv (some (b6, 2))) rfl (wantN rfl) (fun _ => by kernel_rfl) ?_
    obtain ⟨x22, c23, h⟩ := h
    refine SOps.rd (v := .int .i64 x22) rfl (wantN rfl) (fun w hw => ev_load1 rfl (fun _ => by kernel_rfl) (p := (b6, 2)) rfl c23 w hw) ?_
    refine SOps.enter rfl (wantN rfl) (fun _ => by kernel_rfl) (octet_PutShort.sound F x22 H21 _ h) ?_
    clear h
    rintro v H26 ⟨s24, e25, rfl, h⟩
    refine SOps.val (v := .tuple #[.string s24, errV e25]) rfl (wantN rfl) (fun _ => by kernel_rfl) ?_
    refine SOps.val (v := .string s24) rfl (wantN rfl) (fun _ => by kernel_rfl) ?_
    refine SOps.val (v := errV e25) rfl (wantN rfl) (fun _ => by kernel_rfl) ?_
    refine SOps.val (v := .string s24) rfl (wantN rfl) (fun _ => by kernel_rfl) ?_
    refine SOps.val (v := errV e25) rfl (wantN rfl) (fun _ => by kernel_rfl) ?_
    refine SOps.nil ?_
    refine SW.seq ?_
    refine SW.region ?_
    refine SOps.val (v := pv (some (b6, 4))) rfl (wantN rfl) (fun _ => by kernel_rfl) ?_
    obtain ⟨l27, c28, h⟩ := h
    refine SOps.rd (v := sv l27) rfl (wantN rfl) (fun w hw => ev_load1 rfl (fun _ => by kernel_rfl) (p := (b6, 4)) rfl c28 w hw) ?_
    refine SOps.val (v := .int .i64 (l27.len : Int)) rfl (wantN rfl) (fun _ => by kernel_rfl) ?_
    refine SOps.enter rfl (wantN rfl) (fun _ => by kernel_rfl) (octet_PutShort.sound F (l27.len : Int) H26 _ h) ?_
    clear h
    rintro v H31 ⟨s29, e30, rfl, h⟩
    refine SOps.val (v := .tuple #[.string s29, errV e30]) rfl (wantN rfl) (fun _ => by kernel_rfl) ?_
    refine SOps.val (v := .string s29) rfl (wantN rfl) (fun _ => by kernel_rfl) ?_
    refine SOps.val (v := errV e30) rfl (wantN rfl) (fun _ => by kernel_rfl) ?_
    refine SOps.val (v := .string s29) rfl (wantN rfl) (fun _ => by kernel_rfl) ?_
    refine SOps.val (v := errV e30) rfl (wantN rfl) (fun _ => by kernel_rfl) ?_
    refine SOps.nil ?_
    refine SW.seq ?_
    obtain ⟨x32, c33, h⟩ := h
    obtain ⟨bs36, c37, h⟩ := h
    obtain ⟨c38, h⟩ := h
    obtain ⟨c39, h⟩ := h
    obtain ⟨s40, c41, h⟩ := h
    obtain ⟨s44, c45, h⟩ := h
    obtain ⟨c46, h⟩ := h
    obtain ⟨c47, h⟩ := h
    obtain ⟨l48, c49, h⟩ := h
    obtain ⟨s50, c51, h⟩ := h
    obtain ⟨c52, h⟩ := h
    obtain ⟨s53, e54, c55, h⟩ := h
    refine SW.drawA [.val (pv (some (b6, 0))), .val (.int .i64 x32), .val (.int .u8 (IntKind.u8.wrap x32)), .fresh 3 (fun b c => sv ⟨some (b, 0), 1, 1⟩) (fun c => (⟨[.int .u8 (IntKind.u8.wrap x32)], 5, false, 1⟩ : AO)) (fun _ => True), .val (.string (⟨bs36.toArray⟩ : ByteArray)), .val (.string s19), .val (.string ((⟨bs36.toArray⟩ : ByteArray) ++ s19)), .val (.string s24), .val (.string (((⟨bs36.toArray⟩ : ByteArray) ++ s19) ++ s24)), .val (pv (some (b6, 3))), .val (.string s40), .fresh 11 (fun b c => sv ⟨some (b, 0), 1, 1⟩) (fun c => (⟨[.string s40], 9, false, 1⟩ : AO)) (fun _ => True), .val (.string s44), .val (.string ((((⟨bs36.toArray⟩ : ByteArray) ++ s19) ++ s24) ++ s44)), .val (.string s29), .val (.string (((((⟨bs36.toArray⟩ : ByteArray) ++ s19) ++ s24) ++ s44) ++ s29)), .val (pv (some (b6, 4))), .val (sv l48), .val (.string s50), .val (.string ((((((⟨bs36.toArray⟩ : ByteArray) ++ s19) ++ s24) ++ s44) ++ s29) ++ s50)), .val (.tuple #[.string s53, errV e54]), .val (.string s53), .val (errV e54), .val (.string s53), .val (errV e54)] (by kernel_rfl) (by kernel_rfl) (And.intro ?_ (And.intro ?_ (And.intro ?_ (And.intro ?_ (And.intro ?_ (And.intro ?_ (And.intro ?_ (And.intro ?_ (And.intro ?_ (And.intro ?_ (And.intro ?_ (And.intro ?_ (And.intro ?_ (And.intro ?_ (And.intro ?_ (And.intro ?_ (And.intro ?_ (And.intro ?_ (And.intro ?_ (And.intro ?_ (And.intro ?_ (And.intro ?_ (And.intro ?_ (And.intro ?_ (And.intro ?_ (trivial)))))))))))))))))))))))))) ?_
    · clear h
      intro fr' T' H' hle hs hA
      have a1 : fr' 1 = pv (some (b6, 0)) := hs 1 (by kernel_rfl)
      obtain ⟨g', hg'⟩ : ∃ g' : Fr, fr' = g'.upds [(1, pv (some (b6, 0)))] := ⟨_, Fr.upds_self _ _ ⟨a1, trivial⟩⟩
      subst hg'
      exact SA.val (v := pv (some (b6, 0))) rfl (wantN rfl) (fun _ => by kernel_rfl)
    · clear h
      intro fr' T' H' hle hs hA
      have a35 : fr' 35 = pv (some (b6, 0)) := hA 0 (by kernel_rfl)
      obtain ⟨g', hg'⟩ : ∃ g' : Fr, fr' = g'.upds [(35, pv (some (b6, 0)))] := ⟨_, Fr.upds_self _ _ ⟨a35, trivial⟩⟩
      subst hg'
      exact SA.rd hle (v := .int .i64 x32) rfl (wantN rfl) (fun w hw => ev_load1 rfl (fun _ => by kernel_rfl) (p := (b6, 0)) rfl c33 w hw)
    · clear h
      intro fr' T' H' hle hs hA
      have a36 : fr' 36 = (.int .i64 x32 : Value) := hA 1 (by kernel_rfl)
      obtain ⟨g', hg'⟩ : ∃ g' : Fr, fr' = g'.upds [(36, (.int .i64 x32 : Value))] := ⟨_, Fr.upds_self _ _ ⟨a36, trivial⟩⟩
      subst hg'
      exact SA.val (v := .int .u8 (IntKind.u8.wrap x32)) rfl (wantN rfl) (fun _ => by kernel_rfl)
    · clear h
      intro fr' T' H' hle hs hA
      have a37 : fr' 37 = (.int .u8 (IntKind.u8.wrap x32) : Value) := hA 2 (by kernel_rfl)
      obtain ⟨g', hg'⟩ : ∃ g' : Fr, fr' = g'.upds [(37, (.int .u8 (IntKind.u8.wrap x32) : Value))] := ⟨_, Fr.upds_self _ _ ⟨a37, trivial⟩⟩
      subst hg'
      exact SA.fresh hle (fun h => SOps.lit (E := 5) (cs := #[.int .u8 (IntKind.u8.wrap x32)]) rfl rfl (wantN rfl) (fun _ => by kernel_rfl) (fun b c => h b 0 c trivial))
    · clear h
      intro fr' T' H' hle hs hA
      obtain ⟨b34, n35, a38, nb34, kb34, tb34, ob34⟩ := hA 3 (by kernel_rfl)
      obtain ⟨g', hg'⟩ : ∃ g' : Fr, fr' = g'.upds [(38, sv (⟨some (b34, 0), 1, 1⟩ : Sl))] := ⟨_, Fr.upds_self _ _ ⟨a38, trivial⟩⟩
      subst hg'
      exact SA.rdH (Hc := SH.upd H31 b34 (⟨[.int .u8 (IntKind.u8.wrap x32)], 5, false, 1⟩ : AO)) (v := .string (⟨bs36.toArray⟩ : ByteArray)) (SH.le.upd_in hle kb34) rfl (wantN rfl) (fun w hw => ev_str rfl Tryd.underlying42 Tryd.underlying5 Tryd.underlying9 rfl (cells_len c37) (row_updD c37) w hw)
    · clear h
      intro fr' T' H' hle hs hA
      have a5 : fr' 5 = (.string s19 : Value) := hs 5 (by kernel_rfl)
      obtain ⟨g', hg'⟩ : ∃ g' : Fr, fr' = g'.upds [(5, (.string s19 : Value))] := ⟨_, Fr.upds_self _ _ ⟨a5, trivial⟩⟩
      subst hg'
      exact SA.val (v := .string s19) rfl (wantN rfl) (fun _ => by kernel_rfl)
    · clear h
      intro fr' T' H' hle hs hA
      have a39 : fr' 39 = (.string (⟨bs36.toArray⟩ : ByteArray) : Value) := hA 4 (by kernel_rfl)
      have a40 : fr' 40 = (.string s19 : Value) := hA 5 (by kernel_rfl)
      obtain ⟨g', hg'⟩ : ∃ g' : Fr, fr' = g'.upds [(39, (.string (⟨bs36.toArray⟩ : ByteArray) : Value)), (40, (.string s19 : Value))] := ⟨_, Fr.upds_self _ _ ⟨a39, a40, trivial⟩⟩
      subst hg'
      exact SA.val (v := .string ((⟨bs36.toArray⟩ : ByteArray) ++ s19)) rfl (wantN rfl) (fun w => ev_cat rfl rfl rfl c38 w)
    · clear h
      intro fr' T' H' hle hs hA
      have a7 : fr' 7 = (.string s24 : Value) := hs 7 (by kernel_rfl)
      obtain ⟨g', hg'⟩ : ∃ g' : Fr, fr' = g'.upds [(7, (.string s24 : Value))] := ⟨_, Fr.upds_self _ _ ⟨a7, trivial⟩⟩
      subst hg'
      exact SA.val (v := .string s24) rfl (wantN rfl) (fun _ => by kernel_rfl)
    · clear h
      intro fr' T' H' hle hs hA
      have a41 : fr' 41 = (.string ((⟨bs36.toArray⟩ : ByteArray) ++ s19) : Value) := hA 6 (by kernel_rfl)
      have a42 : fr' 42 = (.string s24 : Value) := hA 7 (by kernel_rfl)
      obtain ⟨g', hg'⟩ : ∃ g' : Fr, fr' = g'.upds [(41, (.string ((⟨bs36.toArray⟩ : ByteArray) ++ s19) : Value)), (42, (.string s24 : Value))] := ⟨_, Fr.upds_self _ _ ⟨a41, a42, trivial⟩⟩
      subst hg'
      exact SA.val (v := .string (((⟨bs36.toArray⟩ : ByteArray) ++ s19) ++ s24)) rfl (wantN rfl) (fun w => ev_cat rfl rfl rfl c39 w)
    · clear h
      intro fr' T' H' hle hs hA
      have a1 : fr' 1 = pv (some (b6, 0)) := hs 1 (by kernel_rfl)
      obtain ⟨g', hg'⟩ : ∃ g' : Fr, fr' = g'.upds [(1, pv (some (b6, 0)))] := ⟨_, Fr.upds_self _ _ ⟨a1, trivial⟩⟩
      subst hg'
      exact SA.val (v := pv (some (b6, 3))) rfl (wantN rfl) (fun _ => by kernel_rfl)
    · clear h
      intro fr' T' H' hle hs hA
      have a44 : fr' 44 = pv (some (b6, 3)) := hA 9 (by kernel_rfl)
      obtain ⟨g', hg'⟩ : ∃ g' : Fr, fr' = g'.upds [(44, pv (some (b6, 3)))] := ⟨_, Fr.upds_self _ _ ⟨a44, trivial⟩⟩
      subst hg'
      exact SA.rd hle (v := .string s40) rfl (wantN rfl) (fun w hw => ev_load1 rfl (fun _ => by kernel_rfl) (p := (b6, 3)) rfl c41 w hw)
    · clear h
      intro fr' T' H' hle hs hA
      have a45 : fr' 45 = (.string s40 : Value) := hA 10 (by kernel_rfl)
      obtain ⟨g', hg'⟩ : ∃ g' : Fr, fr' = g'.upds [(45, (.string s40 : Value))] := ⟨_, Fr.upds_self _ _ ⟨a45, trivial⟩⟩
      subst hg'
      exact SA.fresh hle (fun h => SOps.lit (E := 9) (cs := #[.string s40]) rfl rfl (wantN rfl) (fun _ => by kernel_rfl) (fun b c => h b 0 c trivial))
    · clear h
      intro fr' T' H' hle hs hA
      obtain ⟨b42, n43, a46, nb42, kb42, tb42, ob42⟩ := hA 11 (by kernel_rfl)
      obtain ⟨g', hg'⟩ : ∃ g' : Fr, fr' = g'.upds [(46, sv (⟨some (b42, 0), 1, 1⟩ : Sl))] := ⟨_, Fr.upds_self _ _ ⟨a46, trivial⟩⟩
      subst hg'
      exact SA.enter (Hc := SH.upd H31 b42 (⟨[.string s40], 9, false, 1⟩ : AO)) (v := .string s44) (SH.le.upd_in hle kb42) rfl (wantN rfl) (fun _ => by kernel_rfl) ((octet_PutText.sound F (⟨some (b42, 0), 1, 1⟩ : Sl) (SH.upd H31 b42 (⟨[.string s40], 9, false, 1⟩ : AO)) _ (c45 b42 nb42)).mono (by rintro v H' ⟨_, rfl, rfl, h'⟩; exact ⟨rfl, h'⟩))
    · clear h
      intro fr' T' H' hle hs hA
      have a43 : fr' 43 = (.string (((⟨bs36.toArray⟩ : ByteArray) ++ s19) ++ s24) : Value) := hA 8 (by kernel_rfl)
      have a47 : fr' 47 = (.string s44 : Value) := hA 12 (by kernel_rfl)
      obtain ⟨g', hg'⟩ : ∃ g' : Fr, fr' = g'.upds [(43, (.string (((⟨bs36.toArray⟩ : ByteArray) ++ s19) ++ s24) : Value)), (47, (.string s44 : Value))] := ⟨_, Fr.upds_self _ _ ⟨a43, a47, trivial⟩⟩
      subst hg'
      exact SA.val (v := .string ((((⟨bs36.toArray⟩ : ByteArray) ++ s19) ++ s24) ++ s44)) rfl (wantN rfl) (fun w => ev_cat rfl rfl rfl c46 w)
    · clear h
      intro fr' T' H' hle hs hA
      have a9 : fr' 9 = (.string s29 : Value) := hs 9 (by kernel_rfl)
      obtain ⟨g', hg'⟩ : ∃ g' : Fr, fr' = g'.upds [(9, (.string s29 : Value))] := ⟨_, Fr.upds_self _ _ ⟨a9, trivial⟩⟩
      subst hg'
      exact SA.val (v := .string s29) rfl (wantN rfl) (fun _ => by kernel_rfl)
    · clear h
      intro fr' T' H' hle hs hA
      have a48 : fr' 48 = (.string ((((⟨bs36.toArray⟩ : ByteArray) ++ s19) ++ s24) ++ s44) : Value) := hA 13 (by kernel_rfl)
      have a49 : fr' 49 = (.string s29 : Value) := hA 14 (by kernel_rfl)
      obtain ⟨g', hg'⟩ : ∃ g' : Fr, fr' = g'.upds [(48, (.string ((((⟨bs36.toArray⟩ : ByteArray) ++ s19) ++ s24) ++ s44) : Value)), (49, (.string s29 : Value))] := ⟨_, Fr.upds_self _ _ ⟨a48, a49, trivial⟩⟩
      subst hg'
      exact SA.val (v := .string (((((⟨bs36.toArray⟩ : ByteArray) ++ s19) ++ s24) ++ s44) ++ s29)) rfl (wantN rfl) (fun w => ev_cat rfl rfl rfl c47 w)
    · clear h
      intro fr' T' H' hle hs hA
      have a1 : fr' 1 = pv (some (b6, 0)) := hs 1 (by kernel_rfl)
      obtain ⟨g', hg'⟩ : ∃ g' : Fr, fr' = g'.upds [(1, pv (some (b6, 0)))] := ⟨_, Fr.upds_self _ _ ⟨a1, trivial⟩⟩
      subst hg'
      exact SA.val (v := pv (some (b6, 4))) rfl (wantN rfl) (fun _ => by kernel_rfl)
    · clear h
      intro fr' T' H' hle hs hA
      have a51 : fr' 51 = pv (some (b6, 4)) := hA 16 (by kernel_rfl)
      obtain ⟨g', hg'⟩ : ∃ g' : Fr, fr' = g'.upds [(51, pv (some (b6, 4)))] := ⟨_, Fr.upds_self _ _ ⟨a51, trivial⟩⟩
      subst hg'
      exact SA.rd hle (v := sv l48) rfl (wantN rfl) (fun w hw => ev_load1 rfl (fun _ => by kernel_rfl) (p := (b6, 4)) rfl c49 w hw)
    · clear h
      intro fr' T' H' hle hs hA
      have a52 : fr' 52 = sv l48 := hA 17 (by kernel_rfl)
      obtain ⟨g', hg'⟩ : ∃ g' : Fr, fr' = g'.upds [(52, sv l48)] := ⟨_, Fr.upds_self _ _ ⟨a52, trivial⟩⟩
      subst hg'
      exact SA.enter (Hc := H31) (v := .string s50) hle rfl (wantN rfl) (fun _ => by kernel_rfl) ((octet_PutText.sound F l48 H31 _ c51).mono (by rintro v H' ⟨_, rfl, rfl, h'⟩; exact ⟨rfl, h'⟩))
    · clear h
      intro fr' T' H' hle hs hA
      have a50 : fr' 50 = (.string (((((⟨bs36.toArray⟩ : ByteArray) ++ s19) ++ s24) ++ s44) ++ s29) : Value) := hA 15 (by kernel_rfl)
      have a53 : fr' 53 = (.string s50 : Value) := hA 18 (by kernel_rfl)
      obtain ⟨g', hg'⟩ : ∃ g' : Fr, fr' = g'.upds [(50, (.string (((((⟨bs36.toArray⟩ : ByteArray) ++ s19) ++ s24) ++ s44) ++ s29) : Value)), (53, (.string s50 : Value))] := ⟨_, Fr.upds_self _ _ ⟨a50, a53, trivial⟩⟩
      subst hg'
      exact SA.val (v := .string ((((((⟨bs36.toArray⟩ : ByteArray) ++ s19) ++ s24) ++ s44) ++ s29) ++ s50)) rfl (wantN rfl) (fun w => ev_cat rfl rfl rfl c52 w)
    · clear h
      intro fr' T' H' hle hs hA
      have a54 : fr' 54 = (.string ((((((⟨bs36.toArray⟩ : ByteArray) ++ s19) ++ s24) ++ s44) ++ s29) ++ s50) : Value) := hA 19 (by kernel_rfl)
      obtain ⟨g', hg'⟩ : ∃ g' : Fr, fr' = g'.upds [(54, (.string ((((((⟨bs36.toArray⟩ : ByteArray) ++ s19) ++ s24) ++ s44) ++ s29) ++ s50) : Value))] := ⟨_, Fr.upds_self _ _ ⟨a54, trivial⟩⟩
      subst hg'
      exact SA.enter (Hc := H31) (v := .tuple #[.string s53, errV e54]) hle rfl (wantN rfl) (fun _ => by kernel_rfl) ((frame_Seal.sound F ((((((⟨bs36.toArray⟩ : ByteArray) ++ s19) ++ s24) ++ s44) ++ s29) ++ s50) H31 _ c55).mono (by rintro v H' ⟨_, _, rfl, rfl, rfl, h'⟩; exact ⟨rfl, h'⟩))
    · clear h
      intro fr' T' H' hle hs hA
      have a55 : fr' 55 = (.tuple #[.string s53, errV e54] : Value) := hA 20 (by kernel_rfl)
      obtain ⟨g', hg'⟩ : ∃ g' : Fr, fr' = g'.upds [(55, (.tuple #[.string s53, errV e54] : Value))] := ⟨_, Fr.upds_self _ _ ⟨a55, trivial⟩⟩
      subst hg'
      exact SA.val (v := .string s53) rfl (wantN rfl) (fun _ => by kernel_rfl)
    · clear h
      intro fr' T' H' hle hs hA
      have a55 : fr' 55 = (.tuple #[.string s53, errV e54] : Value) := hA 20 (by kernel_rfl)
      obtain ⟨g', hg'⟩ : ∃ g' : Fr, fr' = g'.upds [(55, (.tuple #[.string s53, errV e54] : Value))] := ⟨_, Fr.upds_self _ _ ⟨a55, trivial⟩⟩
      subst hg'
      exact SA.val (v := errV e54) rfl (wantN rfl) (fun _ => by kernel_rfl)
    · clear h
      intro fr' T' H' hle hs hA
      have a56 : fr' 56 = (.string s53 : Value) := hA 21 (by kernel_rfl)
      obtain ⟨g', hg'⟩ : ∃ g' : Fr, fr' = g'.upds [(56, (.string s53 : Value))] := ⟨_, Fr.upds_self _ _ ⟨a56, trivial⟩⟩
      subst hg'
      exact SA.val (v := .string s53) rfl (wantN rfl) (fun _ => by kernel_rfl)
    · clear h
      intro fr' T' H' hle hs hA
      have a57 : fr' 57 = errV e54 := hA 22 (by kernel_rfl)
      obtain ⟨g', hg'⟩ : ∃ g' : Fr, fr' = g'.upds [(57, errV e54)] := ⟨_, Fr.upds_self _ _ ⟨a57, trivial⟩⟩
      subst hg'
      exact SA.val (v := errV e54) rfl (wantN rfl) (fun _ => by kernel_rfl)
    · intro fr' T' H' hle hs hA
      have a2 : fr' 2 = (.string s53 : Value) := hA 23 (Nat.le_of_ble_eq_true rfl)
      have a3 : fr' 3 = errV e54 := hA 24 (Nat.le_of_ble_eq_true rfl)
      obtain ⟨g', hg'⟩ : ∃ g' : Fr, fr' = g'.upds [(2, (.string s53 : Value)), (3, errV e54)] := ⟨_, Fr.upds_self _ _ ⟨a2, a3, trivial⟩⟩
      subst hg'
      refine SOps.forget (H31) hle ?_
      clear hle hs hA
      refine SOps.nil ?_
      obtain ⟨Hr, hr, h⟩ := h
      exact SW.ret (retQ.mk (.tuple #[.string s53, errV e54]) (res2 rfl rfl rfl) hr ⟨s53, e54, rfl, h⟩)
  · replace h := h.2 v16 rfl
    refine SOps.val (v := .bool true) rfl (wantN rfl) (fun w => ev_errNe (e := some v16) rfl Tryd.underlying31 rfl rfl w) ?_
    refine SOps.nil ?_
    refine SW.cond_t (t := true) rfl rfl ?_
    refine SW.seq ?_
    refine SW.region ?_
    refine SOps.val (v := errV (some v16)) rfl (wantN rfl) (fun _ => by kernel_rfl) ?_
    refine SOps.val (v := .string ByteArray.empty) rfl (wantN rfl) (fun _ => by kernel_rfl) ?_
    refine SOps.val (v := errV (some v16)) rfl (wantN rfl) (fun _ => by kernel_rfl) ?_
    refine SOps.nil ?_
    obtain ⟨Hr, hr, h⟩ := h
    exact SW.ret (retQ.mk (.tuple #[.string ByteArray.empty, errV (some v16)]) (res2 rfl rfl rfl) hr ⟨ByteArray.empty, some v16, rfl, h⟩)

/-! ### lading/msg.names: function 63 -/
def msg_names.wp (F : Nat) (H : SH) (K : ByteArray → ByteArray → ByteArray → ByteArray → ByteArray → ByteArray → ByteArray → ByteArray → ByteArray → ByteArray → ByteArray → ByteArray → SH → Prop) : Prop :=
  ∀ b1, H b1 = none →
  SH.wrs (SH.upd H b1 ⟨[.string ByteArray.empty, .string ByteArray.empty, .string ByteArray.empty, .string ByteArray.empty, .string ByteArray.empty, .string ByteArray.empty, .string ByteArray.empty, .string ByteArray.empty, .string ByteArray.empty, .string ByteArray.empty, .string ByteArray.empty, .string ByteArray.empty], 113, false, 12⟩) (b1, 0) 12 ∧
  ∃ (s4 : ByteArray) (s5 : ByteArray) (s6 : ByteArray) (s7 : ByteArray) (s8 : ByteArray) (s9 : ByteArray) (s10 : ByteArray) (s11 : ByteArray) (s12 : ByteArray) (s13 : ByteArray) (s14 : ByteArray) (s15 : ByteArray),
  SH.row (SH.setl (SH.upd H b1 ⟨[.string ByteArray.empty, .string ByteArray.empty, .string ByteArray.empty, .string ByteArray.empty, .string ByteArray.empty, .string ByteArray.empty, .string ByteArray.empty, .string ByteArray.empty, .string ByteArray.empty, .string ByteArray.empty, .string ByteArray.empty, .string ByteArray.empty], 113, false, 12⟩) (b1, 0) [.string ByteArray.empty, .string (⟨#[79, 102, 102, 101, 114]⟩ : ByteArray), .string (⟨#[65, 115, 107]⟩ : ByteArray), .string (⟨#[66, 108, 111, 99, 107]⟩ : ByteArray), .string (⟨#[78, 111, 110, 101]⟩ : ByteArray), .string (⟨#[82, 101, 97, 100, 121]⟩ : ByteArray), .string (⟨#[80, 114, 101, 112, 97, 114, 101]⟩ : ByteArray), .string (⟨#[80, 114, 101, 112, 97, 114, 101, 100]⟩ : ByteArray), .string (⟨#[67, 111, 109, 109, 105, 116]⟩ : ByteArray), .string (⟨#[68, 111, 110, 101]⟩ : ByteArray), .string (⟨#[66, 101, 97, 116]⟩ : ByteArray), .string (⟨#[72, 101, 108, 108, 111]⟩ : ByteArray)]) (some (b1, 0)) [.string s4, .string s5, .string s6, .string s7, .string s8, .string s9, .string s10, .string s11, .string s12, .string s13, .string s14, .string s15] ∧
  ∃ Hr, SH.le Hr (SH.setl (SH.upd H b1 ⟨[.string ByteArray.empty, .string ByteArray.empty, .string ByteArray.empty, .string ByteArray.empty, .string ByteArray.empty, .string ByteArray.empty, .string ByteArray.empty, .string ByteArray.empty, .string ByteArray.empty, .string ByteArray.empty, .string ByteArray.empty, .string ByteArray.empty], 113, false, 12⟩) (b1, 0) [.string ByteArray.empty, .string (⟨#[79, 102, 102, 101, 114]⟩ : ByteArray), .string (⟨#[65, 115, 107]⟩ : ByteArray), .string (⟨#[66, 108, 111, 99, 107]⟩ : ByteArray), .string (⟨#[78, 111, 110, 101]⟩ : ByteArray), .string (⟨#[82, 101, 97, 100, 121]⟩ : ByteArray), .string (⟨#[80, 114, 101, 112, 97, 114, 101]⟩ : ByteArray), .string (⟨#[80, 114, 101, 112, 97, 114, 101, 100]⟩ : ByteArray), .string (⟨#[67, 111, 109, 109, 105, 116]⟩ : ByteArray), .string (⟨#[68, 111, 110, 101]⟩ : ByteArray), .string (⟨#[66, 101, 97, 116]⟩ : ByteArray), .string (⟨#[72, 101, 108, 108, 111]⟩ : ByteArray)]) ∧ K s4 s5 s6 s7 s8 s9 s10 s11 s12 s13 s14 s15 Hr
set_option maxHeartbeats 8000000 in
theorem msg_names.sound (F : Nat) (H : SH) (K : ByteArray → ByteArray → ByteArray → ByteArray → ByteArray → ByteArray → ByteArray → ByteArray → ByteArray → ByteArray → ByteArray → ByteArray → SH → Prop) (h : msg_names.wp F H K) : SCalls Tryd.prog 63 #[] H (fun v H' => ∃ (s29 : ByteArray) (s30 : ByteArray) (s31 : ByteArray) (s32 : ByteArray) (s33 : ByteArray) (s34 : ByteArray) (s35 : ByteArray) (s36 : ByteArray) (s37 : ByteArray) (s38 : ByteArray) (s39 : ByteArray) (s40 : ByteArray), v = .agg #[.string s29, .string s30, .string s31, .string s32, .string s33, .string s34, .string s35, .string s36, .string s37, .string s38, .string s39, .string s40] ∧ K s29 s30 s31 s32 s33 s34 s35 s36 s37 s38 s39 s40 H') := by
  unfold msg_names.wp at h
  refine SCalls.body Tryd.func63 rfl (Nat.le_of_ble_eq_true rfl) ?_
  refine SW.seq ?_
  refine SW.region ?_
  refine SOps.alloc rfl rfl (wantN rfl) (z := .agg #[.string ByteArray.empty, .string ByteArray.empty, .string ByteArray.empty, .string ByteArray.empty, .string ByteArray.empty, .string ByteArray.empty, .string ByteArray.empty, .string ByteArray.empty, .string ByteArray.empty, .string ByteArray.empty, .string ByteArray.empty, .string ByteArray.empty]) (by kernel_rfl) (fun b1 c2 => ?_)
  replace h := h b1 c2
  refine SOps.nil ?_
  refine SW.seq ?_
  refine SW.region ?_
  refine SOps.val (v := .agg #[.string ByteArray.empty, .string (⟨#[79, 102, 102, 101, 114]⟩ : ByteArray), .string (⟨#[65, 115, 107]⟩ : ByteArray), .string (⟨#[66, 108, 111, 99, 107]⟩ : ByteArray), .string (⟨#[78, 111, 110, 101]⟩ : ByteArray), .string (⟨#[82, 101, 97, 100, 121]⟩ : ByteArray), .string (⟨#[80, 114, 101, 112, 97, 114, 101]⟩ : ByteArray), .string (⟨#[80, 114, 101, 112, 97, 114, 101, 100]⟩ : ByteArray), .string (⟨#[67, 111, 109, 109, 105, 116]⟩ : ByteArray), .string (⟨#[68, 111, 110, 101]⟩ : ByteArray), .string (⟨#[66, 101, 97, 116]⟩ : ByteArray), .string (⟨#[72, 101, 108, 108, 111]⟩ : ByteArray)]) rfl (wantN rfl) (fun _ => by kernel_rfl) ?_
  obtain ⟨c3, h⟩ := h
  refine SOps.storeL (p := (b1, 0)) (v := .agg #[.string ByteArray.empty, .string (⟨#[79, 102, 102, 101, 114]⟩ : ByteArray), .string (⟨#[65, 115, 107]⟩ : ByteArray), .string (⟨#[66, 108, 111, 99, 107]⟩ : ByteArray), .string (⟨#[78, 111, 110, 101]⟩ : ByteArray), .string (⟨#[82, 101, 97, 100, 121]⟩ : ByteArray), .string (⟨#[80, 114, 101, 112, 97, 114, 101]⟩ : ByteArray), .string (⟨#[80, 114, 101, 112, 97, 114, 101, 100]⟩ : ByteArray), .string (⟨#[67, 111, 109, 109, 105, 116]⟩ : ByteArray), .string (⟨#[68, 111, 110, 101]⟩ : ByteArray), .string (⟨#[66, 101, 97, 116]⟩ : ByteArray), .string (⟨#[72, 101, 108, 108, 111]⟩ : ByteArray)]) (cs := [.string ByteArray.empty, .string (⟨#[79, 102, 102, 101, 114]⟩ : ByteArray), .string (⟨#[65, 115, 107]⟩ : ByteArray), .string (⟨#[66, 108, 111, 99, 107]⟩ : ByteArray), .string (⟨#[78, 111, 110, 101]⟩ : ByteArray), .string (⟨#[82, 101, 97, 100, 121]⟩ : ByteArray), .string (⟨#[80, 114, 101, 112, 97, 114, 101]⟩ : ByteArray), .string (⟨#[80, 114, 101, 112, 97, 114, 101, 100]⟩ : ByteArray), .string (⟨#[67, 111, 109, 109, 105, 116]⟩ : ByteArray), .string (⟨#[68, 111, 110, 101]⟩ : ByteArray), .string (⟨#[66, 101, 97, 116]⟩ : ByteArray), .string (⟨#[72, 101, 108, 108, 111]⟩ : ByteArray)]) rfl rfl (wantN rfl) (size := 12) (by kernel_rfl) rfl rfl rfl rfl (by simp [Value.oneCell', errV_one, pv, sv]) c3 ?_
  refine SOps.nil ?_
  obtain ⟨s4, s5, s6, s7, s8, s9, s10, s11, s12, s13, s14, s15, c16, Hr, hr, h⟩ := h
  exact SW.ret (retQ.mkM (.agg #[.string s4, .string s5, .string s6, .string s7, .string s8, .string s9, .string s10, .string s11, .string s12, .string s13, .string s14, .string s15]) (resCN (size := 12) (p := (b1, 0)) (T := 113) rfl rfl (fun _ => by kernel_rfl) (by kernel_rfl) rfl c16) hr ⟨s4, s5, s6, s7, s8, s9, s10, s11, s12, s13, s14, s15, rfl, h⟩)

/-! ### lading/msg.Name: function 38 -/
def msg_Name.wp (F : Nat) (x1 : Int) (H : SH) (K : ByteArray → SH → Prop) : Prop :=
  (x1 < 0 →
    ∃ Hr, SH.le Hr H ∧ K ByteArray.empty Hr
  ) ∧ (¬ (x1 < 0) →
    (x1 > 11 →
      ∃ Hr, SH.le Hr H ∧ K ByteArray.empty Hr
    ) ∧ (¬ (x1 > 11) →
      msg_names.wp F  H (fun s4 s5 s6 s7 s8 s9 s10 s11 s12 s13 s14 s15 H16 =>
        0 ≤ x1 ∧ ∃ (s17 : ByteArray), ([.string s4, .string s5, .string s6, .string s7, .string s8, .string s9, .string s10, .string s11, .string s12, .string s13, .string s14, .string s15] : List Value)[x1.toNat]? = some (.string s17) ∧
        ∃ Hr, SH.le Hr H16 ∧ K s17 Hr
      )
    )
  )
set_option maxHeartbeats 8000000 in
theorem msg_Name.sound (F : Nat) (x1 : Int) (H : SH) (K : ByteArray → SH → Prop) (h : msg_Name.wp F x1 H K) : SCalls Tryd.prog 38 #[.int .i64 x1] H (fun v H' => ∃ (s21 : ByteArray), v = .string s21 ∧ K s21 H') := by
  unfold msg_Name.wp at h
  refine SCalls.body Tryd.func38 rfl (Nat.le_of_ble_eq_true rfl) ?_
  refine SW.seq ?_
  refine SW.region ?_
  refine SOps.val (v := .string ByteArray.empty) rfl (wantN rfl) (fun _ => by kernel_rfl) ?_
  refine SOps.nil ?_
  refine SW.seq ?_
  refine SW.seq ?_
  refine SW.region ?_
  refine SOps.val (v := .int .i64 x1) rfl (wantN rfl) (fun _ => by kernel_rfl) ?_
  refine SOps.val (v := .bool (decide (x1 < 0))) rfl (wantN rfl) (fun _ => by kernel_rfl) ?_
  refine SOps.val (v := .bool (decide (x1 < 0))) rfl (wantN rfl) (fun _ => by kernel_rfl) ?_
  by_cases c2 : x1 < 0
  · replace h := h.1 c2
    have dc2 : (decide (x1 < 0)) = true := (decide_eq_true c2)
    refine SOps.off rfl (wantX (c := decide (x1 < 0)) rfl rfl rfl dc2) ?_
    refine SOps.off rfl (wantX (c := decide (x1 < 0)) rfl rfl rfl dc2) ?_
    refine SOps.val (v := .bool true) rfl (wantN rfl) (fun w => ev_pickT (v := .bool true) rfl (t := decide (x1 < 0)) rfl dc2 rfl w) ?_
    refine SOps.nil ?_
    refine SW.cond_t (t := true) rfl rfl ?_
    refine SW.seq ?_
    refine SW.region ?_
    refine SOps.val (v := .string ByteArray.empty) rfl (wantN rfl) (fun _ => by kernel_rfl) ?_
    refine SOps.nil ?_
    obtain ⟨Hr, hr, h⟩ := h
    exact SW.ret (retQ.mk (.string ByteArray.empty) (res1 rfl rfl) hr ⟨ByteArray.empty, rfl, h⟩)
  · replace h := h.2 c2
    have dc2 : (decide (x1 < 0)) = false := (decide_eq_false c2)
    refine SOps.val (v := .int .i64 x1) rfl (wantY (c := decide (x1 < 0)) rfl rfl rfl dc2) (fun _ => by kernel_rfl) ?_
    refine SOps.val (v := .bool (decide (x1 > 11))) rfl (wantY (c := decide (x1 < 0)) rfl rfl rfl dc2) (fun _ => by kernel_rfl) ?_
    refine SOps.val (v := .bool (decide (x1 > 11))) rfl (wantN rfl) (fun w => ev_pickF (v := .bool (decide (x1 > 11))) rfl (t := decide (x1 < 0)) rfl dc2 rfl w) ?_
    refine SOps.nil ?_
    by_cases c3 : x1 > 11
    · replace h := h.1 c3
      have dc3 : (decide (x1 > 11)) = true := (decide_eq_true c3)
      refine SW.cond_t (t := decide (x1 > 11)) rfl dc3 ?_
      refine SW.seq ?_
      refine SW.region ?_
      refine SOps.val (v := .string ByteArray.empty) rfl (wantN rfl) (fun _ => by kernel_rfl) ?_
      refine SOps.nil ?_
      obtain ⟨Hr, hr, h⟩ := h
      exact SW.ret (retQ.mk (.string ByteArray.empty) (res1 rfl rfl) hr ⟨ByteArray.empty, rfl, h⟩)
    · replace h := h.2 c3
      have dc3 : (decide (x1 > 11)) = false := (decide_eq_false c3)
      refine SW.cond_f (t := decide (x1 > 11)) rfl dc3 ?_
      refine SW.skip ?_
      refine SW.seq ?_
      refine SW.region ?_
      refine SOps.enter rfl (wantN rfl) (fun _ => by kernel_rfl) (msg_names.sound F  H _ h) ?_
      clear h
      rintro v H16 ⟨s4, s5, s6, s7, s8, s9, s10, s11, s12, s13, s14, s15, rfl, h⟩
      refine SOps.val (v := .int .i64 x1) rfl (wantN rfl) (fun _ => by kernel_rfl) ?_
      obtain ⟨c18, s17, c19, h⟩ := h
      refine SOps.val (v := .string s17) rfl (wantN rfl) (fun w => ev_idxA (cs := [.string s4, .string s5, .string s6, .string s7, .string s8, .string s9, .string s10, .string s11, .string s12, .string s13, .string s14, .string s15]) rfl Tryd.underlying113 (by kernel_rfl) (fun _ => by kernel_rfl) rfl rfl rfl c18 c19 w) ?_
      refine SOps.val (v := .string s17) rfl (wantN rfl) (fun _ => by kernel_rfl) ?_
      refine SOps.nil ?_
      obtain ⟨Hr, hr, h⟩ := h
      exact SW.ret (retQ.mk (.string s17) (res1 rfl rfl) hr ⟨s17, rfl, h⟩)

/-! ### (*lading/msg.reader).short: function 41 -/
def msg_reader_short.wp (F : Nat) (p1 : Option (Nat × Nat)) (H : SH) (K : Int → SH → Prop) : Prop :=
  (p1 = none →
    False
  ) ∧ (∀ b2 o3, p1 = some (b2, o3) →
    ∃ (e4 : Option EV),
    SH.has H (b2, (o3 + 2)) (errV e4) ∧
    (e4 = none →
      ∃ (s7 : ByteArray),
      SH.has H (b2, o3) (.string s7) ∧
      ∃ (x9 : Int),
      SH.has H (b2, (o3 + 1)) (.int .i64 x9) ∧
      ∃ (x11 : Int) (x12 : Int) (e13 : Option EV),
      ( octet_Short.wp F s7 x9 H (fun x11' x12' e13' H' => x11' = x11 ∧ x12' = x12 ∧ e13' = e13 ∧ SH.le H H')) ∧
      SH.wrs H (b2, (o3 + 1)) 1 ∧
      SH.wrs (SH.setl H (b2, (o3 + 1)) [.int .i64 x12]) (b2, (o3 + 2)) 1 ∧
      ∃ Hr, SH.le Hr (SH.setl (SH.setl H (b2, (o3 + 1)) [.int .i64 x12]) (b2, (o3 + 2)) [errV e13]) ∧ K x11 Hr
    ) ∧ (∀ v6, e4 = some v6 →
      ∃ Hr, SH.le Hr H ∧ K 0 Hr
    )
  )
set_option maxHeartbeats 8000000 in
theorem msg_reader_short.sound (F : Nat) (p1 : Option (Nat × Nat)) (H : SH) (K : Int → SH → Prop) (h : msg_reader_short.wp F p1 H K) : SCalls Tryd.prog 41 #[pv p1] H (fun v H' => ∃ (x19 : Int), v = .int .i64 x19 ∧ K x19 H') := by
  unfold msg_reader_short.wp at h
  refine SCalls.body Tryd.func41 rfl (Nat.le_of_ble_eq_true rfl) ?_
  refine SW.seq ?_
  refine SW.region ?_
  refine SOps.val (v := .int .i64 0) rfl (wantN rfl) (fun _ => by kernel_rfl) ?_
  refine SOps.nil ?_
  refine SW.seq ?_
  refine SW.region ?_
  refine SOps.val (v := .int .i64 0) rfl (wantN rfl) (fun _ => by kernel_rfl) ?_
  refine SOps.nil ?_
  refine SW.seq ?_
  refine SW.seq ?_
  refine SW.region ?_
  refine SOps.val (v := pv p1) rfl (wantN rfl) (fun _ => by kernel_rfl) ?_
  rcases p1 with _ | ⟨b2, o3⟩
  · replace h := h.1 rfl
    exact h.elim
  · replace h := h.2 b2 o3 rfl
    refine SOps.val (v := pv (some (b2, o3))) rfl (wantN rfl) (fun _ => by kernel_rfl) ?_
    refine SOps.val (v := pv (some (b2, (o3 + 2)))) rfl (wantN rfl) (fun _ => by kernel_rfl) ?_
    obtain ⟨e4, c5, h⟩ := h
    refine SOps.rd (v := errV e4) rfl (wantN rfl) (fun w hw => ev_load1 rfl (fun _ => by kernel_rfl) (p := (b2, (o3 + 2))) rfl c5 w hw) ?_
    rcases e4 with _ | v6
    · replace h := h.1 rfl
      refine SOps.val (v := .bool true) rfl (wantN rfl) (fun w => ev_errEq (e := none) rfl Tryd.underlying31 rfl rfl w) ?_
      refine SOps.nil ?_
      refine SW.cond_t (t := true) rfl rfl ?_
      obtain ⟨s7, c8, h⟩ := h
      obtain ⟨x9, c10, h⟩ := h
      obtain ⟨x11, x12, e13, c14, h⟩ := h
      refine SW.drawE [1, 14] [.val (pv (some (b2, o3))), .val (pv (some (b2, o3))), .val (pv (some (b2, o3))), .val (pv (some (b2, o3))), .val (pv (some (b2, o3))), .val (.string s7), .val (pv (some (b2, o3))), .val (pv (some (b2, o3))), .val (pv (some (b2, (o3 + 1)))), .val (.int .i64 x9), .val (.tuple #[.int .i64 x11, .int .i64 x12, errV e13]), .val (.tuple #[.int .i64 x11, .int .i64 x12, errV e13]), .val (.int .i64 x11), .val (.int .i64 x12), .val (errV e13), .val (.int .i64 x11), .val (pv (some (b2, o3))), .val (pv (some (b2, (o3 + 1))))] (by kernel_rfl) (by kernel_rfl) (by kernel_rfl) ⟨⟨_, _, rfl, rfl, by kernel_rfl, ?_⟩, ⟨_, _, rfl, rfl, by kernel_rfl, ?_⟩, trivial⟩ (And.intro ?_ (And.intro ?_ (And.intro ?_ (And.intro ?_ (And.intro ?_ (And.intro ?_ (And.intro ?_ (And.intro ?_ (And.intro ?_ (And.intro ?_ (And.intro ?_ (And.intro ?_ (And.intro ?_ (And.intro ?_ (And.intro ?_ (And.intro ?_ (And.intro ?_ (And.intro ?_ (trivial))))))))))))))))))) ?_
      · clear h
        intro fr' T' H' hle hs hA
        have a0 : fr' 0 = pv (some (b2, o3)) := hs 0 (by kernel_rfl)
        obtain ⟨g', hg'⟩ : ∃ g' : Fr, fr' = g'.upds [(0, pv (some (b2, o3)))] := ⟨_, Fr.upds_self _ _ ⟨a0, trivial⟩⟩
        subst hg'
        exact ⟨wantN rfl, (fun _ => by kernel_rfl)⟩
      · clear h
        intro fr' T' H' hle hs hA
        have a9 : fr' 9 = (.tuple #[.int .i64 x11, .int .i64 x12, errV e13] : Value) := hA 11 (by kernel_rfl)
        obtain ⟨g', hg'⟩ : ∃ g' : Fr, fr' = g'.upds [(9, (.tuple #[.int .i64 x11, .int .i64 x12, errV e13] : Value))] := ⟨_, Fr.upds_self _ _ ⟨a9, trivial⟩⟩
        subst hg'
        exact ⟨wantN rfl, (fun _ => by kernel_rfl)⟩
      · clear h
        intro fr' T' H' hle hs hA
        have a0 : fr' 0 = pv (some (b2, o3)) := hs 0 (by kernel_rfl)
        obtain ⟨g', hg'⟩ : ∃ g' : Fr, fr' = g'.upds [(0, pv (some (b2, o3)))] := ⟨_, Fr.upds_self _ _ ⟨a0, trivial⟩⟩
        subst hg'
        exact SA.val (v := pv (some (b2, o3))) rfl (wantN rfl) (fun _ => by kernel_rfl)
      · clear h
        intro fr' T' H' hle hs hA
        have a0 : fr' 0 = pv (some (b2, o3)) := hs 0 (by kernel_rfl)
        obtain ⟨g', hg'⟩ : ∃ g' : Fr, fr' = g'.upds [(0, pv (some (b2, o3)))] := ⟨_, Fr.upds_self _ _ ⟨a0, trivial⟩⟩
        subst hg'
        exact SA.val (v := pv (some (b2, o3))) rfl (wantN rfl) (fun _ => by kernel_rfl)
      · clear h
        intro fr' T' H' hle hs hA
        have a0 : fr' 0 = pv (some (b2, o3)) := hs 0 (by kernel_rfl)
        obtain ⟨g', hg'⟩ : ∃ g' : Fr, fr' = g'.upds [(0, pv (some (b2, o3)))] := ⟨_, Fr.upds_self _ _ ⟨a0, trivial⟩⟩
        subst hg'
        exact SA.val (v := pv (some (b2, o3))) rfl (wantN rfl) (fun _ => by kernel_rfl)
      · clear h
        intro fr' T' H' hle hs hA
        have a12 : fr' 12 = pv (some (b2, o3)) := hA 2 (by kernel_rfl)
        obtain ⟨g', hg'⟩ : ∃ g' : Fr, fr' = g'.upds [(12, pv (some (b2, o3)))] := ⟨_, Fr.upds_self _ _ ⟨a12, trivial⟩⟩
        subst hg'
        exact SA.val (v := pv (some (b2, o3))) rfl (wantN rfl) (fun _ => by kernel_rfl)
      · clear h
        intro fr' T' H' hle hs hA
        have a13 : fr' 13 = pv (some (b2, o3)) := hA 3 (by kernel_rfl)
        obtain ⟨g', hg'⟩ : ∃ g' : Fr, fr' = g'.upds [(13, pv (some (b2, o3)))] := ⟨_, Fr.upds_self _ _ ⟨a13, trivial⟩⟩
        subst hg'
        exact SA.val (v := pv (some (b2, o3))) rfl (wantN rfl) (fun _ => by kernel_rfl)
      · clear h
        intro fr' T' H' hle hs hA
        have a14 : fr' 14 = pv (some (b2, o3)) := hA 4 (by kernel_rfl)
        obtain ⟨g', hg'⟩ : ∃ g' : Fr, fr' = g'.upds [(14, pv (some (b2, o3)))] := ⟨_, Fr.upds_self _ _ ⟨a14, trivial⟩⟩
        subst hg'
        exact SA.rd hle (v := .string s7) rfl (wantN rfl) (fun w hw => ev_load1 rfl (fun _ => by kernel_rfl) (p := (b2, o3)) rfl c8 w hw)
      · clear h
        intro fr' T' H' hle hs hA
        have a0 : fr' 0 = pv (some (b2, o3)) := hs 0 (by kernel_rfl)
        obtain ⟨g', hg'⟩ : ∃ g' : Fr, fr' = g'.upds [(0, pv (some (b2, o3)))] := ⟨_, Fr.upds_self _ _ ⟨a0, trivial⟩⟩
        subst hg'
        exact SA.val (v := pv (some (b2, o3))) rfl (wantN rfl) (fun _ => by kernel_rfl)
      · clear h
        intro fr' T' H' hle hs hA
        have a16 : fr' 16 = pv (some (b2, o3)) := hA 6 (by kernel_rfl)
        obtain ⟨g', hg'⟩ : ∃ g' : Fr, fr' = g'.upds [(16, pv (some (b2, o3)))] := ⟨_, Fr.upds_self _ _ ⟨a16, trivial⟩⟩
        subst hg'
        exact SA.val (v := pv (some (b2, o3))) rfl (wantN rfl) (fun _ => by kernel_rfl)
      · clear h
        intro fr' T' H' hle hs hA
        have a17 : fr' 17 = pv (some (b2, o3)) := hA 7 (by kernel_rfl)
        obtain ⟨g', hg'⟩ : ∃ g' : Fr, fr' = g'.upds [(17, pv (some (b2, o3)))] := ⟨_, Fr.upds_self _ _ ⟨a17, trivial⟩⟩
        subst hg'
        exact SA.val (v := pv (some (b2, (o3 + 1)))) rfl (wantN rfl) (fun _ => by kernel_rfl)
      · clear h
        intro fr' T' H' hle hs hA
        have a18 : fr' 18 = pv (some (b2, (o3 + 1))) := hA 8 (by kernel_rfl)
        obtain ⟨g', hg'⟩ : ∃ g' : Fr, fr' = g'.upds [(18, pv (some (b2, (o3 + 1))))] := ⟨_, Fr.upds_self _ _ ⟨a18, trivial⟩⟩
        subst hg'
        exact SA.rd hle (v := .int .i64 x9) rfl (wantN rfl) (fun w hw => ev_load1 rfl (fun _ => by kernel_rfl) (p := (b2, (o3 + 1))) rfl c10 w hw)
      · clear h
        intro fr' T' H' hle hs hA
        have a15 : fr' 15 = (.string s7 : Value) := hA 5 (by kernel_rfl)
        have a19 : fr' 19 = (.int .i64 x9 : Value) := hA 9 (by kernel_rfl)
        obtain ⟨g', hg'⟩ : ∃ g' : Fr, fr' = g'.upds [(15, (.string s7 : Value)), (19, (.int .i64 x9 : Value))] := ⟨_, Fr.upds_self _ _ ⟨a15, a19, trivial⟩⟩
        subst hg'
        exact SA.enter (Hc := H) (v := .tuple #[.int .i64 x11, .int .i64 x12, errV e13]) hle rfl (wantN rfl) (fun _ => by kernel_rfl) ((octet_Short.sound F s7 x9 H _ c14).mono (by rintro v H' ⟨_, _, _, rfl, rfl, rfl, rfl, h'⟩; exact ⟨rfl, h'⟩))
      · clear h
        intro fr' T' H' hle hs hA
        have a20 : fr' 20 = (.tuple #[.int .i64 x11, .int .i64 x12, errV e13] : Value) := hA 10 (by kernel_rfl)
        obtain ⟨g', hg'⟩ : ∃ g' : Fr, fr' = g'.upds [(20, (.tuple #[.int .i64 x11, .int .i64 x12, errV e13] : Value))] := ⟨_, Fr.upds_self _ _ ⟨a20, trivial⟩⟩
        subst hg'
        exact SA.val (v := .tuple #[.int .i64 x11, .int .i64 x12, errV e13]) rfl (wantN rfl) (fun _ => by kernel_rfl)
      · clear h
        intro fr' T' H' hle hs hA
        have a9 : fr' 9 = (.tuple #[.int .i64 x11, .int .i64 x12, errV e13] : Value) := hA 11 (by kernel_rfl)
        obtain ⟨g', hg'⟩ : ∃ g' : Fr, fr' = g'.upds [(9, (.tuple #[.int .i64 x11, .int .i64 x12, errV e13] : Value))] := ⟨_, Fr.upds_self _ _ ⟨a9, trivial⟩⟩
        subst hg'
        exact SA.val (v := .int .i64 x11) rfl (wantN rfl) (fun _ => by kernel_rfl)
      · clear h
        intro fr' T' H' hle hs hA
        have a9 : fr' 9 = (.tuple #[.int .i64 x11, .int .i64 x12, errV e13] : Value) := hA 11 (by kernel_rfl)
        obtain ⟨g', hg'⟩ : ∃ g' : Fr, fr' = g'.upds [(9, (.tuple #[.int .i64 x11, .int .i64 x12, errV e13] : Value))] := ⟨_, Fr.upds_self _ _ ⟨a9, trivial⟩⟩
        subst hg'
        exact SA.val (v := .int .i64 x12) rfl (wantN rfl) (fun _ => by kernel_rfl)
      · clear h
        intro fr' T' H' hle hs hA
        have a9 : fr' 9 = (.tuple #[.int .i64 x11, .int .i64 x12, errV e13] : Value) := hA 11 (by kernel_rfl)
        obtain ⟨g', hg'⟩ : ∃ g' : Fr, fr' = g'.upds [(9, (.tuple #[.int .i64 x11, .int .i64 x12, errV e13] : Value))] := ⟨_, Fr.upds_self _ _ ⟨a9, trivial⟩⟩
        subst hg'
        exact SA.val (v := errV e13) rfl (wantN rfl) (fun _ => by kernel_rfl)
      · clear h
        intro fr' T' H' hle hs hA
        have a21 : fr' 21 = (.int .i64 x11 : Value) := hA 12 (by kernel_rfl)
        obtain ⟨g', hg'⟩ : ∃ g' : Fr, fr' = g'.upds [(21, (.int .i64 x11 : Value))] := ⟨_, Fr.upds_self _ _ ⟨a21, trivial⟩⟩
        subst hg'
        exact SA.val (v := .int .i64 x11) rfl (wantN rfl) (fun _ => by kernel_rfl)
      · clear h
        intro fr' T' H' hle hs hA
        have a10 : fr' 10 = pv (some (b2, o3)) := hA 0 (by kernel_rfl)
        obtain ⟨g', hg'⟩ : ∃ g' : Fr, fr' = g'.upds [(10, pv (some (b2, o3)))] := ⟨_, Fr.upds_self _ _ ⟨a10, trivial⟩⟩
        subst hg'
        exact SA.val (v := pv (some (b2, o3))) rfl (wantN rfl) (fun _ => by kernel_rfl)
      · clear h
        intro fr' T' H' hle hs hA
        have a24 : fr' 24 = pv (some (b2, o3)) := hA 16 (by kernel_rfl)
        obtain ⟨g', hg'⟩ : ∃ g' : Fr, fr' = g'.upds [(24, pv (some (b2, o3)))] := ⟨_, Fr.upds_self _ _ ⟨a24, trivial⟩⟩
        subst hg'
        exact SA.val (v := pv (some (b2, (o3 + 1)))) rfl (wantN rfl) (fun _ => by kernel_rfl)
      · intro fr' T' H' hle hs hA
        have a3 : fr' 3 = (.int .i64 x11 : Value) := hA 15 (Nat.le_of_ble_eq_true rfl)
        have a11 : fr' 11 = pv (some (b2, o3)) := hA 1 (Nat.le_of_ble_eq_true rfl)
        have a22 : fr' 22 = (.int .i64 x12 : Value) := hA 13 (Nat.le_of_ble_eq_true rfl)
        have a23 : fr' 23 = errV e13 := hA 14 (Nat.le_of_ble_eq_true rfl)
        have a25 : fr' 25 = pv (some (b2, (o3 + 1))) := hA 17 (Nat.le_of_ble_eq_true rfl)
        obtain ⟨g', hg'⟩ : ∃ g' : Fr, fr' = g'.upds [(3, (.int .i64 x11 : Value)), (11, pv (some (b2, o3))), (22, (.int .i64 x12 : Value)), (23, errV e13), (25, pv (some (b2, (o3 + 1))))] := ⟨_, Fr.upds_self _ _ ⟨a3, a11, a22, a23, a25, trivial⟩⟩
        subst hg'
        refine SOps.forget (H) hle ?_
        clear hle hs hA
        obtain ⟨c16, h⟩ := h
        refine SOps.storeL (p := (b2, (o3 + 1))) (v := .int .i64 x12) (cs := [.int .i64 x12]) rfl rfl (wantN rfl) (size := 1) (by kernel_rfl) rfl rfl rfl rfl (by simp [Value.oneCell', errV_one, pv, sv]) c16 ?_
        refine SOps.val (v := pv (some (b2, o3))) rfl (wantN rfl) (fun _ => by kernel_rfl) ?_
        refine SOps.val (v := pv (some (b2, (o3 + 2)))) rfl (wantN rfl) (fun _ => by kernel_rfl) ?_
        obtain ⟨c17, h⟩ := h
        refine SOps.storeL (p := (b2, (o3 + 2))) (v := errV e13) (cs := [errV e13]) rfl rfl (wantN rfl) (size := 1) (by kernel_rfl) rfl rfl (by rw [errV_cells]) rfl (fun u hu => by rw [List.mem_singleton.1 hu]; exact errV_one _) c17 ?_
        refine SOps.nil ?_
        refine SW.seq ?_
        refine SW.region ?_
        refine SOps.val (v := .int .i64 x11) rfl (wantN rfl) (fun _ => by kernel_rfl) ?_
        refine SOps.val (v := .int .i64 x11) rfl (wantN rfl) (fun _ => by kernel_rfl) ?_
        refine SOps.nil ?_
        obtain ⟨Hr, hr, h⟩ := h
        exact SW.ret (retQ.mk (.int .i64 x11) (res1 rfl rfl) hr ⟨x11, rfl, h⟩)
    · replace h := h.2 v6 rfl
      refine SOps.val (v := .bool false) rfl (wantN rfl) (fun w => ev_errEq (e := some v6) rfl Tryd.underlying31 rfl rfl w) ?_
      refine SOps.nil ?_
      refine SW.cond_f (t := false) rfl rfl ?_
      refine SW.skip ?_
      refine SW.seq ?_
      refine SW.region ?_
      refine SOps.val (v := .int .i64 0) rfl (wantN rfl) (fun _ => by kernel_rfl) ?_
      refine SOps.val (v := .int .i64 0) rfl (wantN rfl) (fun _ => by kernel_rfl) ?_
      refine SOps.nil ?_
      obtain ⟨Hr, hr, h⟩ := h
      exact SW.ret (retQ.mk (.int .i64 0) (res1 rfl rfl) hr ⟨0, rfl, h⟩)

/-! ### (*lading/msg.reader).text: function 42 -/
def msg_reader_text.wp (F : Nat) (p1 : Option (Nat × Nat)) (H : SH) (K : ByteArray → SH → Prop) : Prop :=
  (p1 = none →
    False
  ) ∧ (∀ b2 o3, p1 = some (b2, o3) →
    ∃ (e4 : Option EV),
    SH.has H (b2, (o3 + 2)) (errV e4) ∧
    (e4 = none →
      ∃ (s7 : ByteArray),
      SH.has H (b2, o3) (.string s7) ∧
      ∃ (x9 : Int),
      SH.has H (b2, (o3 + 1)) (.int .i64 x9) ∧
      ∃ (s11 : ByteArray) (x12 : Int) (e13 : Option EV),
      ( octet_Text.wp F s7 x9 72057594037927935 H (fun s11' x12' e13' H' => s11' = s11 ∧ x12' = x12 ∧ e13' = e13 ∧ SH.le H H')) ∧
      SH.wrs H (b2, (o3 + 1)) 1 ∧
      SH.wrs (SH.setl H (b2, (o3 + 1)) [.int .i64 x12]) (b2, (o3 + 2)) 1 ∧
      ∃ Hr, SH.le Hr (SH.setl (SH.setl H (b2, (o3 + 1)) [.int .i64 x12]) (b2, (o3 + 2)) [errV e13]) ∧ K s11 Hr
    ) ∧ (∀ v6, e4 = some v6 →
      ∃ Hr, SH.le Hr H ∧ K ByteArray.empty Hr
    )
  )
set_option maxHeartbeats 8000000 in
theorem msg_reader_text.sound (F : Nat) (p1 : Option (Nat × Nat)) (H : SH) (K : ByteArray → SH → Prop) (h : msg_reader_text.wp F p1 H K) : SCalls Tryd.prog 42 #[pv p1] H (fun v H' => ∃ (s19 : ByteArray), v = .string s19 ∧ K s19 H') := by
  unfold msg_reader_text.wp at h
  refine SCalls.body Tryd.func42 rfl (Nat.le_of_ble_eq_true rfl) ?_
  refine SW.seq ?_
  refine SW.region ?_
  refine SOps.val (v := .string ByteArray.empty) rfl (wantN rfl) (fun _ => by kernel_rfl) ?_
  refine SOps.nil ?_
  refine SW.seq ?_
  refine SW.region ?_
  refine SOps.val (v := .string ByteArray.empty) rfl (wantN rfl) (fun _ => by kernel_rfl) ?_
  refine SOps.nil ?_
  refine SW.seq ?_
  refine SW.seq ?_
  refine SW.region ?_
  refine SOps.val (v := pv p1) rfl (wantN rfl) (fun _ => by kernel_rfl) ?_
  rcases p1 with _ | ⟨b2, o3⟩
  · replace h := h.1 rfl
    exact h.elim
  · replace h := h.2 b2 o3 rfl
    refine SOps.val (v := pv (some (b2, o3))) rfl (wantN rfl) (fun _ => by kernel_rfl) ?_
    refine SOps.val (v := pv (some (b2, (o3 + 2)))) rfl (wantN rfl) (fun _ => by kernel_rfl) ?_
    obtain ⟨e4, c5, h⟩ := h
    refine SOps.rd (v := errV e4) rfl (wantN rfl) (fun w hw => ev_load1 rfl (fun _ => by kernel_rfl) (p := (b2, (o3 + 2))) rfl c5 w hw) ?_
    rcases e4 with _ | v6
    · replace h := h.1 rfl
      refine SOps.val (v := .bool true) rfl (wantN rfl) (fun w => ev_errEq (e := none) rfl Tryd.underlying31 rfl rfl w) ?_
      refine SOps.nil ?_
      refine SW.cond_t (t := true) rfl rfl ?_
      obtain ⟨s7, c8, h⟩ := h
      obtain ⟨x9, c10, h⟩ := h
      obtain ⟨s11, x12, e13, c14, h⟩ := h
      refine SW.drawE [1, 14] [.val (pv (some (b2, o3))), .val (pv (some (b2, o3))), .val (pv (some (b2, o3))), .val (pv (some (b2, o3))), .val (pv (some (b2, o3))), .val (.string s7), .val (pv (some (b2, o3))), .val (pv (some (b2, o3))), .val (pv (some (b2, (o3 + 1)))), .val (.int .i64 x9), .val (.tuple #[.string s11, .int .i64 x12, errV e13]), .val (.tuple #[.string s11, .int .i64 x12, errV e13]), .val (.string s11), .val (.int .i64 x12), .val (errV e13), .val (.string s11), .val (pv (some (b2, o3))), .val (pv (some (b2, (o3 + 1))))] (by kernel_rfl) (by kernel_rfl) (by kernel_rfl) ⟨⟨_, _, rfl, rfl, by kernel_rfl, ?_⟩, ⟨_, _, rfl, rfl, by kernel_rfl, ?_⟩, trivial⟩ (And.intro ?_ (And.intro ?_ (And.intro ?_ (And.intro ?_ (And.intro ?_ (And.intro ?_ (And.intro ?_ (And.intro ?_ (And.intro ?_ (And.intro ?_ (And.intro ?_ (And.intro ?_ (And.intro ?_ (And.intro ?_ (And.intro ?_ (And.intro ?_ (And.intro ?_ (And.intro ?_ (trivial))))))))))))))))))) ?_
      · clear h
        intro fr' T' H' hle hs hA
        have a0 : fr' 0 = pv (some (b2, o3)) := hs 0 (by kernel_rfl)
        obtain ⟨g', hg'⟩ : ∃ g' : Fr, fr' = g'.upds [(0, pv (some (b2, o3)))] := ⟨_, Fr.upds_self _ _ ⟨a0, trivial⟩⟩
        subst hg'
        exact ⟨wantN rfl, (fun _ => by kernel_rfl)⟩
      · clear h
        intro fr' T' H' hle hs hA
        have a9 : fr' 9 = (.tuple #[.string s11, .int .i64 x12, errV e13] : Value) := hA 11 (by kernel_rfl)
        obtain ⟨g', hg'⟩ : ∃ g' : Fr, fr' = g'.upds [(9, (.tuple #[.string s11, .int .i64 x12, errV e13] : Value))] := ⟨_, Fr.upds_self _ _ ⟨a9, trivial⟩⟩
        subst hg'
        exact ⟨wantN rfl, (fun _ => by kernel_rfl)⟩
      · clear h
        intro fr' T' H' hle hs hA
        have a0 : fr' 0 = pv (some (b2, o3)) := hs 0 (by kernel_rfl)
        obtain ⟨g', hg'⟩ : ∃ g' : Fr, fr' = g'.upds [(0, pv (some (b2, o3)))] := ⟨_, Fr.upds_self _ _ ⟨a0, trivial⟩⟩
        subst hg'
        exact SA.val (v := pv (some (b2, o3))) rfl (wantN rfl) (fun _ => by kernel_rfl)
      · clear h
        intro fr' T' H' hle hs hA
        have a0 : fr' 0 = pv (some (b2, o3)) := hs 0 (by kernel_rfl)
        obtain ⟨g', hg'⟩ : ∃ g' : Fr, fr' = g'.upds [(0, pv (some (b2, o3)))] := ⟨_, Fr.upds_self _ _ ⟨a0, trivial⟩⟩
        subst hg'
        exact SA.val (v := pv (some (b2, o3))) rfl (wantN rfl) (fun _ => by kernel_rfl)
      · clear h
        intro fr' T' H' hle hs hA
        have a0 : fr' 0 = pv (some (b2, o3)) := hs 0 (by kernel_rfl)
        obtain ⟨g', hg'⟩ : ∃ g' : Fr, fr' = g'.upds [(0, pv (some (b2, o3)))] := ⟨_, Fr.upds_self _ _ ⟨a0, trivial⟩⟩
        subst hg'
        exact SA.val (v := pv (some (b2, o3))) rfl (wantN rfl) (fun _ => by kernel_rfl)
      · clear h
        intro fr' T' H' hle hs hA
        have a12 : fr' 12 = pv (some (b2, o3)) := hA 2 (by kernel_rfl)
        obtain ⟨g', hg'⟩ : ∃ g' : Fr, fr' = g'.upds [(12, pv (some (b2, o3)))] := ⟨_, Fr.upds_self _ _ ⟨a12, trivial⟩⟩
        subst hg'
        exact SA.val (v := pv (some (b2, o3))) rfl (wantN rfl) (fun _ => by kernel_rfl)
      · clear h
        intro fr' T' H' hle hs hA
        have a13 : fr' 13 = pv (some (b2, o3)) := hA 3 (by kernel_rfl)
        obtain ⟨g', hg'⟩ : ∃ g' : Fr, fr' = g'.upds [(13, pv (some (b2, o3)))] := ⟨_, Fr.upds_self _ _ ⟨a13, trivial⟩⟩
        subst hg'
        exact SA.val (v := pv (some (b2, o3))) rfl (wantN rfl) (fun _ => by kernel_rfl)
      · clear h
        intro fr' T' H' hle hs hA
        have a14 : fr' 14 = pv (some (b2, o3)) := hA 4 (by kernel_rfl)
        obtain ⟨g', hg'⟩ : ∃ g' : Fr, fr' = g'.upds [(14, pv (some (b2, o3)))] := ⟨_, Fr.upds_self _ _ ⟨a14, trivial⟩⟩
        subst hg'
        exact SA.rd hle (v := .string s7) rfl (wantN rfl) (fun w hw => ev_load1 rfl (fun _ => by kernel_rfl) (p := (b2, o3)) rfl c8 w hw)
      · clear h
        intro fr' T' H' hle hs hA
        have a0 : fr' 0 = pv (some (b2, o3)) := hs 0 (by kernel_rfl)
        obtain ⟨g', hg'⟩ : ∃ g' : Fr, fr' = g'.upds [(0, pv (some (b2, o3)))] := ⟨_, Fr.upds_self _ _ ⟨a0, trivial⟩⟩
        subst hg'
        exact SA.val (v := pv (some (b2, o3))) rfl (wantN rfl) (fun _ => by kernel_rfl)
      · clear h
        intro fr' T' H' hle hs hA
        have a16 : fr' 16 = pv (some (b2, o3)) := hA 6 (by kernel_rfl)
        obtain ⟨g', hg'⟩ : ∃ g' : Fr, fr' = g'.upds [(16, pv (some (b2, o3)))] := ⟨_, Fr.upds_self _ _ ⟨a16, trivial⟩⟩
        subst hg'
        exact SA.val (v := pv (some (b2, o3))) rfl (wantN rfl) (fun _ => by kernel_rfl)
      · clear h
        intro fr' T' H' hle hs hA
        have a17 : fr' 17 = pv (some (b2, o3)) := hA 7 (by kernel_rfl)
        obtain ⟨g', hg'⟩ : ∃ g' : Fr, fr' = g'.upds [(17, pv (some (b2, o3)))] := ⟨_, Fr.upds_self _ _ ⟨a17, trivial⟩⟩
        subst hg'
        exact SA.val (v := pv (some (b2, (o3 + 1)))) rfl (wantN rfl) (fun _ => by kernel_rfl)
      · clear h
        intro fr' T' H' hle hs hA
        have a18 : fr' 18 = pv (some (b2, (o3 + 1))) := hA 8 (by kernel_rfl)
        obtain ⟨g', hg'⟩ : ∃ g' : Fr, fr' = g'.upds [(18, pv (some (b2, (o3 + 1))))] := ⟨_, Fr.upds_self _ _ ⟨a18, trivial⟩⟩
        subst hg'
        exact SA.rd hle (v := .int .i64 x9) rfl (wantN rfl) (fun w hw => ev_load1 rfl (fun _ => by kernel_rfl) (p := (b2, (o3 + 1))) rfl c10 w hw)
      · clear h
        intro fr' T' H' hle hs hA
        have a15 : fr' 15 = (.string s7 : Value) := hA 5 (by kernel_rfl)
        have a19 : fr' 19 = (.int .i64 x9 : Value) := hA 9 (by kernel_rfl)
        obtain ⟨g', hg'⟩ : ∃ g' : Fr, fr' = g'.upds [(15, (.string s7 : Value)), (19, (.int .i64 x9 : Value))] := ⟨_, Fr.upds_self _ _ ⟨a15, a19, trivial⟩⟩
        subst hg'
        exact SA.enter (Hc := H) (v := .tuple #[.string s11, .int .i64 x12, errV e13]) hle rfl (wantN rfl) (fun _ => by kernel_rfl) ((octet_Text.sound F s7 x9 72057594037927935 H _ c14).mono (by rintro v H' ⟨_, _, _, rfl, rfl, rfl, rfl, h'⟩; exact ⟨rfl, h'⟩))
      · clear h
        intro fr' T' H' hle hs hA
        have a20 : fr' 20 = (.tuple #[.string s11, .int .i64 x12, errV e13] : Value) := hA 10 (by kernel_rfl)
        obtain ⟨g', hg'⟩ : ∃ g' : Fr, fr' = g'.upds [(20, (.tuple #[.string s11, .int .i64 x12, errV e13] : Value))] := ⟨_, Fr.upds_self _ _ ⟨a20, trivial⟩⟩
        subst hg'
        exact SA.val (v := .tuple #[.string s11, .int .i64 x12, errV e13]) rfl (wantN rfl) (fun _ => by kernel_rfl)
      · clear h
        intro fr' T' H' hle hs hA
        have a9 : fr' 9 = (.tuple #[.string s11, .int .i64 x12, errV e13] : Value) := hA 11 (by kernel_rfl)
        obtain ⟨g', hg'⟩ : ∃ g' : Fr, fr' = g'.upds [(9, (.tuple #[.string s11, .int .i64 x12, errV e13] : Value))] := ⟨_, Fr.upds_self _ _ ⟨a9, trivial⟩⟩
        subst hg'
        exact SA.val (v := .string s11) rfl (wantN rfl) (fun _ => by kernel_rfl)
      · clear h
        intro fr' T' H' hle hs hA
        have a9 : fr' 9 = (.tuple #[.string s11, .int .i64 x12, errV e13] : Value) := hA 11 (by kernel_rfl)
        obtain ⟨g', hg'⟩ : ∃ g' : Fr, fr' = g'.upds [(9, (.tuple #[.string s11, .int .i64 x12, errV e13] : Value))] := ⟨_, Fr.upds_self _ _ ⟨a9, trivial⟩⟩
        subst hg'
        exact SA.val (v := .int .i64 x12) rfl (wantN rfl) (fun _ => by kernel_rfl)
      · clear h
        intro fr' T' H' hle hs hA
        have a9 : fr' 9 = (.tuple #[.string s11, .int .i64 x12, errV e13] : Value) := hA 11 (by kernel_rfl)
        obtain ⟨g', hg'⟩ : ∃ g' : Fr, fr' = g'.upds [(9, (.tuple #[.string s11, .int .i64 x12, errV e13] : Value))] := ⟨_, Fr.upds_self _ _ ⟨a9, trivial⟩⟩
        subst hg'
        exact SA.val (v := errV e13) rfl (wantN rfl) (fun _ => by kernel_rfl)
      · clear h
        intro fr' T' H' hle hs hA
        have a21 : fr' 21 = (.string s11 : Value) := hA 12 (by kernel_rfl)
        obtain ⟨g', hg'⟩ : ∃ g' : Fr, fr' = g'.upds [(21, (.string s11 : Value))] := ⟨_, Fr.upds_self _ _ ⟨a21, trivial⟩⟩
        subst hg'
        exact SA.val (v := .string s11) rfl (wantN rfl) (fun _ => by kernel_rfl)
      · clear h
        intro fr' T' H' hle hs hA
        have a10 : fr' 10 = pv (some (b2, o3)) := hA 0 (by kernel_rfl)
        obtain ⟨g', hg'⟩ : ∃ g' : Fr, fr' = g'.upds [(10, pv (some (b2, o3)))] := ⟨_, Fr.upds_self _ _ ⟨a10, trivial⟩⟩
        subst hg'
        exact SA.val (v := pv (some (b2, o3))) rfl (wantN rfl) (fun _ => by kernel_rfl)
      · clear h
        intro fr' T' H' hle hs hA
        have a24 : fr' 24 = pv (some (b2, o3)) := hA 16 (by kernel_rfl)
        obtain ⟨g', hg'⟩ : ∃ g' : Fr, fr' = g'.upds [(24, pv (some (b2, o3)))] := ⟨_, Fr.upds_self _ _ ⟨a24, trivial⟩⟩
        subst hg'
        exact SA.val (v := pv (some (b2, (o3 + 1)))) rfl (wantN rfl) (fun _ => by kernel_rfl)
      · intro fr' T' H' hle hs hA
        have a3 : fr' 3 = (.string s11 : Value) := hA 15 (Nat.le_of_ble_eq_true rfl)
        have a11 : fr' 11 = pv (some (b2, o3)) := hA 1 (Nat.le_of_ble_eq_true rfl)
        have a22 : fr' 22 = (.int .i64 x12 : Value) := hA 13 (Nat.le_of_ble_eq_true rfl)
        have a23 : fr' 23 = errV e13 := hA 14 (Nat.le_of_ble_eq_true rfl)
        have a25 : fr' 25 = pv (some (b2, (o3 + 1))) := hA 17 (Nat.le_of_ble_eq_true rfl)
        obtain ⟨g', hg'⟩ : ∃ g' : Fr, fr' = g'.upds [(3, (.string s11 : Value)), (11, pv (some (b2, o3))), (22, (.int .i64 x12 : Value)), (23, errV e13), (25, pv (some (b2, (o3 + 1))))] := ⟨_, Fr.upds_self _ _ ⟨a3, a11, a22, a23, a25, trivial⟩⟩
        subst hg'
        refine SOps.forget (H) hle ?_
        clear hle hs hA
        obtain ⟨c16, h⟩ := h
        refine SOps.storeL (p := (b2, (o3 + 1))) (v := .int .i64 x12) (cs := [.int .i64 x12]) rfl rfl (wantN rfl) (size := 1) (by kernel_rfl) rfl rfl rfl rfl (by simp [Value.oneCell', errV_one, pv, sv]) c16 ?_
        refine SOps.val (v := pv (some (b2, o3))) rfl (wantN rfl) (fun _ => by kernel_rfl) ?_
        refine SOps.val (v := pv (some (b2, (o3 + 2)))) rfl (wantN rfl) (fun _ => by kernel_rfl) ?_
        obtain ⟨c17, h⟩ := h
        refine SOps.storeL (p := (b2, (o3 + 2))) (v := errV e13) (cs := [errV e13]) rfl rfl (wantN rfl) (size := 1) (by kernel_rfl) rfl rfl (by rw [errV_cells]) rfl (fun u hu => by rw [List.mem_singleton.1 hu]; exact errV_one _) c17 ?_
        refine SOps.nil ?_
        refine SW.seq ?_
        refine SW.region ?_
        refine SOps.val (v := .string s11) rfl (wantN rfl) (fun _ => by kernel_rfl) ?_
        refine SOps.val (v := .string s11) rfl (wantN rfl) (fun _ => by kernel_rfl) ?_
        refine SOps.nil ?_
        obtain ⟨Hr, hr, h⟩ := h
        exact SW.ret (retQ.mk (.string s11) (res1 rfl rfl) hr ⟨s11, rfl, h⟩)
    · replace h := h.2 v6 rfl
      refine SOps.val (v := .bool false) rfl (wantN rfl) (fun w => ev_errEq (e := some v6) rfl Tryd.underlying31 rfl rfl w) ?_
      refine SOps.nil ?_
      refine SW.cond_f (t := false) rfl rfl ?_
      refine SW.skip ?_
      refine SW.seq ?_
      refine SW.region ?_
      refine SOps.val (v := .string ByteArray.empty) rfl (wantN rfl) (fun _ => by kernel_rfl) ?_
      refine SOps.val (v := .string ByteArray.empty) rfl (wantN rfl) (fun _ => by kernel_rfl) ?_
      refine SOps.nil ?_
      obtain ⟨Hr, hr, h⟩ := h
      exact SW.ret (retQ.mk (.string ByteArray.empty) (res1 rfl rfl) hr ⟨ByteArray.empty, rfl, h⟩)

/-! ### lading/msg.wrong: function 43 -/
def msg_wrong.wp (F : Nat) (x1 : Int) (H : SH) (K : Option EV → SH → Prop) : Prop :=
  ∃ Hr, SH.le Hr H ∧ K (some (EV.mk x1 (some (EV.no 4)))) Hr
set_option maxHeartbeats 8000000 in
theorem msg_wrong.sound (F : Nat) (x1 : Int) (H : SH) (K : Option EV → SH → Prop) (h : msg_wrong.wp F x1 H K) : SCalls Tryd.prog 43 #[.int .i64 x1] H (fun v H' => ∃ (e3 : Option EV), v = errV e3 ∧ K e3 H') := by
  unfold msg_wrong.wp at h
  refine SCalls.body Tryd.func43 rfl (Nat.le_of_ble_eq_true rfl) ?_
  refine SW.seq ?_
  refine SW.region ?_
  refine SOps.val (v := errV none) rfl (wantN rfl) (fun _ => by kernel_rfl) ?_
  refine SOps.nil ?_
  refine SW.seq ?_
  refine SW.region ?_
  refine SOps.val (v := .int .i64 x1) rfl (wantN rfl) (fun _ => by kernel_rfl) ?_
  refine SOps.val (v := errV (some (EV.no 4))) rfl (wantN rfl) (fun _ => by kernel_rfl) ?_
  refine SOps.val (v := .agg #[.int .i64 x1, errV (some (EV.no 4))]) rfl (wantN rfl) (fun w => ev_buildF rfl rfl rfl w) ?_
  refine SOps.val (v := errV (some (EV.mk x1 (some (EV.no 4))))) rfl (wantN rfl) (fun w => ev_fault rfl rfl w) ?_
  refine SOps.val (v := errV (some (EV.mk x1 (some (EV.no 4))))) rfl (wantN rfl) (fun _ => by kernel_rfl) ?_
  refine SOps.nil ?_
  obtain ⟨Hr, hr, h⟩ := h
  exact SW.ret (retQ.mk (errV (some (EV.mk x1 (some (EV.no 4))))) (res1 rfl rfl) hr ⟨some (EV.mk x1 (some (EV.no 4))), rfl, h⟩)

/-! ### lading/msg.Get: function 21 -/
def msg_Get.r1 (F : Nat) (K : Int → Int → Int → ByteArray → Sl → Option EV → SH → Prop) (R1 : Nat → ByteArray → Nat → Nat → Int → Int → SH → Prop) (b35 : Nat) (s36 : ByteArray) (b37 : Nat) (b38 : Nat) (x39 : Int) (x40 : Int) (H : SH) : Prop :=
  (x40 < x39 →
    ∃ H42, SH.le H42 H ∧
    ∃ (l50 : Sl),
    SH.has H42 (b38, 4) (sv l50) ∧
    msg_reader_text.wp F (some (b37, 0)) H (fun s52 H53 => SH.le H42 H53 ∧
      ∀ b55, H53 b55 = none →
      ∃ w59, SH.row (SH.upd H53 b55 (⟨[.string s52], 9, false, 1⟩ : AO)) (⟨some (b55, 0), 1, 1⟩ : Sl).a w59 ∧
      AppendQ (SH.upd H53 b55 (⟨[.string s52], 9, false, 1⟩ : AO)) 9 1 16 l50 (⟨some (b55, 0), 1, 1⟩ : Sl).len w59 (fun l56 H57 =>
        SH.wrs H57 (b38, 4) 1 ∧
        R1 b35 s36 b37 b38 x39 (w64 (x40 + 1)) (SH.setl H57 (b38, 4) [sv l56])
      )
    )
  ) ∧ (¬ (x40 < x39) →
    ∃ (e61 : Option EV),
    SH.has H (b37, 2) (errV e61) ∧
    (e61 = none →
      ∃ (x64 : Int),
      SH.has H (b37, 1) (.int .i64 x64) ∧
      (x64 < (s36.size : Int) →
        ∃ (x67 : Int),
        SH.has H (b37, 1) (.int .i64 x67) ∧
        msg_wrong.wp F x67 H (fun e69 H70 =>
          SH.wrs H70 (b35, 0) 5 ∧
          ∃ (x72 : Int) (x73 : Int) (x74 : Int) (s75 : ByteArray) (l76 : Sl),
          SH.row (SH.setl H70 (b35, 0) [.int .i64 0, .int .i64 0, .int .i64 0, .string ByteArray.empty, sv Sl.nil]) (some (b35, 0)) [.int .i64 x72, .int .i64 x73, .int .i64 x74, .string s75, sv l76] ∧
          ∃ Hr, SH.le Hr (SH.setl H70 (b35, 0) [.int .i64 0, .int .i64 0, .int .i64 0, .string ByteArray.empty, sv Sl.nil]) ∧ K x72 x73 x74 s75 l76 e69 Hr
        )
      ) ∧ (¬ (x64 < (s36.size : Int)) →
        ∃ (x78 : Int) (x79 : Int) (x80 : Int) (s81 : ByteArray) (l82 : Sl),
        SH.row H (some (b38, 0)) [.int .i64 x78, .int .i64 x79, .int .i64 x80, .string s81, sv l82] ∧
        msg_Check.wp F x78 x79 x80 s81 l82 H (fun e84 H85 =>
          (e84 = none →
            ∃ (x87 : Int) (x88 : Int) (x89 : Int) (s90 : ByteArray) (l91 : Sl),
            SH.row H85 (some (b38, 0)) [.int .i64 x87, .int .i64 x88, .int .i64 x89, .string s90, sv l91] ∧
            SH.wrs H85 (b35, 0) 5 ∧
            ∃ (x94 : Int) (x95 : Int) (x96 : Int) (s97 : ByteArray) (l98 : Sl),
            SH.row (SH.setl H85 (b35, 0) [.int .i64 x87, .int .i64 x88, .int .i64 x89, .string s90, sv l91]) (some (b35, 0)) [.int .i64 x94, .int .i64 x95, .int .i64 x96, .string s97, sv l98] ∧
            ∃ Hr, SH.le Hr (SH.setl H85 (b35, 0) [.int .i64 x87, .int .i64 x88, .int .i64 x89, .string s90, sv l91]) ∧ K x94 x95 x96 s97 l98 none Hr
          ) ∧ (∀ v86, e84 = some v86 →
            msg_wrong.wp F 0 H85 (fun e100 H101 =>
              SH.wrs H101 (b35, 0) 5 ∧
              ∃ (x103 : Int) (x104 : Int) (x105 : Int) (s106 : ByteArray) (l107 : Sl),
              SH.row (SH.setl H101 (b35, 0) [.int .i64 0, .int .i64 0, .int .i64 0, .string ByteArray.empty, sv Sl.nil]) (some (b35, 0)) [.int .i64 x103, .int .i64 x104, .int .i64 x105, .string s106, sv l107] ∧
              ∃ Hr, SH.le Hr (SH.setl H101 (b35, 0) [.int .i64 0, .int .i64 0, .int .i64 0, .string ByteArray.empty, sv Sl.nil]) ∧ K x103 x104 x105 s106 l107 e100 Hr
            )
          )
        )
      )
    ) ∧ (∀ v63, e61 = some v63 →
      ∃ H109, SH.le H109 H ∧
      ∃ (e117 : Option EV),
      SH.has H109 (b37, 2) (errV e117) ∧
      SH.wrs H (b35, 0) 5 ∧ SH.le H109 (SH.setl H (b35, 0) [.int .i64 0, .int .i64 0, .int .i64 0, .string ByteArray.empty, sv Sl.nil]) ∧
      ∃ (x121 : Int) (x122 : Int) (x123 : Int) (s124 : ByteArray) (l125 : Sl),
      SH.row H109 (some (b35, 0)) [.int .i64 x121, .int .i64 x122, .int .i64 x123, .string s124, sv l125] ∧
      ∃ Hr, SH.le Hr H109 ∧ K x121 x122 x123 s124 l125 e117 Hr
    )
  )
def msg_Get.l1 (F : Nat) (K : Int → Int → Int → ByteArray → Sl → Option EV → SH → Prop) : Nat → Nat → ByteArray → Nat → Nat → Int → Int → SH → Prop
  | 0, _, _, _, _, _, _, _ => False
  | k + 1, b35, s36, b37, b38, x39, x40, H => msg_Get.r1 F K (msg_Get.l1 F K k) b35 s36 b37 b38 x39 x40 H
def msg_Get.wp (F : Nat) (s1 : ByteArray) (H : SH) (K : Int → Int → Int → ByteArray → Sl → Option EV → SH → Prop) : Prop :=
  ∀ b2, H b2 = none →
  frame_Open.wp F s1 (SH.upd H b2 ⟨[.int .i64 0, .int .i64 0, .int .i64 0, .string ByteArray.empty, sv Sl.nil], 53, false, 5⟩) (fun s4 e5 H6 =>
    (e5 = none →
      octet_Fixed.wp F s4 0 1 H6 (fun x8 x9 e10 H11 =>
        ∀ b12, H11 b12 = none →
        msg_reader_short.wp F (some (b12, 0)) (SH.upd H11 b12 ⟨[.string s4, .int .i64 x9, errV e10], 87, false, 3⟩) (fun x14 H15 =>
          msg_reader_short.wp F (some (b12, 0)) H15 (fun x16 H17 =>
            msg_reader_text.wp F (some (b12, 0)) H17 (fun s18 H19 =>
              ∀ b20, H19 b20 = none →
              SH.wrs (SH.upd H19 b20 ⟨[.int .i64 0, .int .i64 0, .int .i64 0, .string ByteArray.empty, sv Sl.nil], 53, false, 5⟩) (b20, 0) 5 ∧
              msg_reader_short.wp F (some (b12, 0)) (SH.setl (SH.upd H19 b20 ⟨[.int .i64 0, .int .i64 0, .int .i64 0, .string ByteArray.empty, sv Sl.nil], 53, false, 5⟩) (b20, 0) [.int .i64 x8, .int .i64 x14, .int .i64 x16, .string s18, sv Sl.nil]) (fun x23 H24 =>
                (x23 > 20 →
                  msg_wrong.wp F 0 H24 (fun e26 H27 =>
                    SH.wrs H27 (b2, 0) 5 ∧
                    ∃ (x29 : Int) (x30 : Int) (x31 : Int) (s32 : ByteArray) (l33 : Sl),
                    SH.row (SH.setl H27 (b2, 0) [.int .i64 0, .int .i64 0, .int .i64 0, .string ByteArray.empty, sv Sl.nil]) (some (b2, 0)) [.int .i64 x29, .int .i64 x30, .int .i64 x31, .string s32, sv l33] ∧
                    ∃ Hr, SH.le Hr (SH.setl H27 (b2, 0) [.int .i64 0, .int .i64 0, .int .i64 0, .string ByteArray.empty, sv Sl.nil]) ∧ K x29 x30 x31 s32 l33 e26 Hr
                  )
                ) ∧ (¬ (x23 > 20) →
                  msg_Get.l1 F K F b2 s4 b12 b20 x23 0 H24
                )
              )
            )
          )
        )
      )
    ) ∧ (∀ v7, e5 = some v7 →
      SH.wrs H6 (b2, 0) 5 ∧
      ∃ (x140 : Int) (x141 : Int) (x142 : Int) (s143 : ByteArray) (l144 : Sl),
      SH.row (SH.setl H6 (b2, 0) [.int .i64 0, .int .i64 0, .int .i64 0, .string ByteArray.empty, sv Sl.nil]) (some (b2, 0)) [.int .i64 x140, .int .i64 x141, .int .i64 x142, .string s143, sv l144] ∧
      ∃ Hr, SH.le Hr (SH.setl H6 (b2, 0) [.int .i64 0, .int .i64 0, .int .i64 0, .string ByteArray.empty, sv Sl.nil]) ∧ K x140 x141 x142 s143 l144 (some v7) Hr
    )
  )
set_option maxHeartbeats 8000000 in
theorem msg_Get.sound (F : Nat) (s1 : ByteArray) (H : SH) (K : Int → Int → Int → ByteArray → Sl → Option EV → SH → Prop) (h : msg_Get.wp F s1 H K) : SCalls Tryd.prog 21 #[.string s1] H (fun v H' => ∃ (x152 : Int) (x153 : Int) (x154 : Int) (s155 : ByteArray) (l156 : Sl) (e157 : Option EV), v = .tuple #[.agg #[.int .i64 x152, .int .i64 x153, .int .i64 x154, .string s155, sv l156], errV e157] ∧ K x152 x153 x154 s155 l156 e157 H') := by
  unfold msg_Get.wp at h
  refine SCalls.body Tryd.func21 rfl (Nat.le_of_ble_eq_true rfl) ?_
  refine SW.seq ?_
  refine SW.region ?_
  refine SOps.alloc rfl rfl (wantN rfl) (z := .agg #[.int .i64 0, .int .i64 0, .int .i64 0, .string ByteArray.empty, sv Sl.nil]) (by kernel_rfl) (fun b2 c3 => ?_)
  replace h := h b2 c3
  refine SOps.val (v := errV none) rfl (wantN rfl) (fun _ => by kernel_rfl) ?_
  refine SOps.nil ?_
  refine SW.seq ?_
  refine SW.region ?_
  refine SOps.val (v := .string s1) rfl (wantN rfl) (fun _ => by kernel_rfl) ?_
  refine SOps.enter rfl (wantN rfl) (fun _ => by kernel_rfl) (frame_Open.sound F s1 (SH.upd H b2 ⟨[.int .i64 0, .int .i64 0, .int .i64 0, .string ByteArray.empty, sv Sl.nil], 53, false, 5⟩) _ h) ?_
  clear h
  rintro v H6 ⟨s4, e5, rfl, h⟩
  refine SOps.val (v := .tuple #[.string s4, errV e5]) rfl (wantN rfl) (fun _ => by kernel_rfl) ?_
  refine SOps.val (v := .string s4) rfl (wantN rfl) (fun _ => by kernel_rfl) ?_
  refine SOps.val (v := errV e5) rfl (wantN rfl) (fun _ => by kernel_rfl) ?_
  refine SOps.val (v := .string s4) rfl (wantN rfl) (fun _ => by kernel_rfl) ?_
  refine SOps.val (v := errV e5) rfl (wantN rfl) (fun _ => by kernel_rfl) ?_
  refine SOps.nil ?_
  refine SW.seq ?_
  refine SW.seq ?_
  refine SW.region ?_
  refine SOps.val (v := errV e5) rfl (wantN rfl) (fun _ => by kernel_rfl) ?_
  rcases e5 with _ | v7
  · replace h := h.1 rfl
    refine SOps.val (v := .bool false) rfl (wantN rfl) (fun w => ev_errNe (e := none) rfl Tryd.underlying31 rfl rfl w) ?_
    refine SOps.nil ?_
    refine SW.cond_f (t := false) rfl rfl ?_
    refine SW.skip ?_
    refine SW.seq ?_
    refine SW.region ?_
    refine SOps.val (v := .string s4) rfl (wantN rfl) (fun _ => by kernel_rfl) ?_
    refine SOps.enter rfl (wantN rfl) (fun _ => by kernel_rfl) (octet_Fixed.sound F s4 0 1 H6 _ h) ?_
    clear h
    rintro v H11 ⟨x8, x9, e10, rfl, h⟩
    refine SOps.val (v := .tuple #[.int .i64 x8, .int .i64 x9, errV e10]) rfl (wantN rfl) (fun _ => by kernel_rfl) ?_
    refine SOps.val (v := .int .i64 x8) rfl (wantN rfl) (fun _ => by kernel_rfl) ?_
    refine SOps.val (v := .int .i64 x9) rfl (wantN rfl) (fun _ => by kernel_rfl) ?_
    refine SOps.val (v := errV e10) rfl (wantN rfl) (fun _ => by kernel_rfl) ?_
    refine SOps.val (v := .int .i64 x8) rfl (wantN rfl) (fun _ => by kernel_rfl) ?_
    refine SOps.val (v := .int .i64 x9) rfl (wantN rfl) (fun _ => by kernel_rfl) ?_
    refine SOps.val (v := errV e10) rfl (wantN rfl) (fun _ => by kernel_rfl) ?_
    refine SOps.nil ?_
    refine SW.seq ?_
    refine SW.region ?_
    refine SOps.val (v := .string s4) rfl (wantN rfl) (fun _ => by kernel_rfl) ?_
    refine SOps.val (v := .int .i64 x9) rfl (wantN rfl) (fun _ => by kernel_rfl) ?_
    refine SOps.val (v := errV e10) rfl (wantN rfl) (fun _ => by kernel_rfl) ?_
    refine SOps.val (v := .agg #[.string s4, .int .i64 x9, errV e10]) rfl (wantN rfl) (fun w => ev_buildE (vals := fun u => #[(0, .string s4), (1, .int .i64 x9), (2, u)]) (f := fun u => .agg #[.string s4, .int .i64 x9, u]) rfl e10 (by kernel_rfl) (by rintro u (rfl | ⟨t, v, rfl⟩) w <;> kernel_rfl) w) ?_
    refine SOps.box rfl rfl (wantN rfl) (v := .agg #[.string s4, .int .i64 x9, errV e10]) rfl (fun b12 c13 => ?_)
    replace h := h b12 c13
    refine SOps.val (v := pv (some (b12, 0))) rfl (wantN rfl) (fun _ => by kernel_rfl) ?_
    refine SOps.nil ?_
    refine SW.seq ?_
    refine SW.region ?_
    refine SOps.val (v := .int .i64 x8) rfl (wantN rfl) (fun _ => by kernel_rfl) ?_
    refine SOps.val (v := pv (some (b12, 0))) rfl (wantN rfl) (fun _ => by kernel_rfl) ?_
    refine SOps.enter rfl (wantN rfl) (fun _ => by kernel_rfl) (msg_reader_short.sound F (some (b12, 0)) (SH.upd H11 b12 ⟨[.string s4, .int .i64 x9, errV e10], 87, false, 3⟩) _ h) ?_
    clear h
    rintro v H15 ⟨x14, rfl, h⟩
    refine SOps.val (v := pv (some (b12, 0))) rfl (wantN rfl) (fun _ => by kernel_rfl) ?_
    refine SOps.enter rfl (wantN rfl) (fun _ => by kernel_rfl) (msg_reader_short.sound F (some (b12, 0)) H15 _ h) ?_
    clear h
    rintro v H17 ⟨x16, rfl, h⟩
    refine SOps.val (v := pv (some (b12, 0))) rfl (wantN rfl) (fun _ => by kernel_rfl) ?_
    refine SOps.enter rfl (wantN rfl) (fun _ => by kernel_rfl) (msg_reader_text.sound F (some (b12, 0)) H17 _ h) ?_
    clear h
    rintro v H19 ⟨s18, rfl, h⟩
    refine SOps.val (v := .agg #[.int .i64 x8, .int .i64 x14, .int .i64 x16, .string s18, sv Sl.nil]) rfl (wantN rfl) (fun _ => by kernel_rfl) ?_
    refine SOps.alloc rfl rfl (wantN rfl) (z := .agg #[.int .i64 0, .int .i64 0, .int .i64 0, .string ByteArray.empty, sv Sl.nil]) (by kernel_rfl) (fun b20 c21 => ?_)
    replace h := h b20 c21
    obtain ⟨c22, h⟩ := h
    refine SOps.storeL (p := (b20, 0)) (v := .agg #[.int .i64 x8, .int .i64 x14, .int .i64 x16, .string s18, sv Sl.nil]) (cs := [.int .i64 x8, .int .i64 x14, .int .i64 x16, .string s18, sv Sl.nil]) rfl rfl (wantN rfl) (size := 5) (by kernel_rfl) rfl rfl rfl rfl (by simp [Value.oneCell', errV_one, pv, sv]) c22 ?_
    refine SOps.nil ?_
    refine SW.seq ?_
    refine SW.region ?_
    refine SOps.val (v := pv (some (b12, 0))) rfl (wantN rfl) (fun _ => by kernel_rfl) ?_
    refine SOps.enter rfl (wantN rfl) (fun _ => by kernel_rfl) (msg_reader_short.sound F (some (b12, 0)) (SH.setl (SH.upd H19 b20 ⟨[.int .i64 0, .int .i64 0, .int .i64 0, .string ByteArray.empty, sv Sl.nil], 53, false, 5⟩) (b20, 0) [.int .i64 x8, .int .i64 x14, .int .i64 x16, .string s18, sv Sl.nil]) _ h) ?_
    clear h
    rintro v H24 ⟨x23, rfl, h⟩
    refine SOps.val (v := .int .i64 x23) rfl (wantN rfl) (fun _ => by kernel_rfl) ?_
    refine SOps.nil ?_
    refine SW.seq ?_
    refine SW.seq ?_
    refine SW.region ?_
    refine SOps.val (v := .int .i64 x23) rfl (wantN rfl) (fun _ => by kernel_rfl) ?_
    refine SOps.val (v := .bool (decide (x23 > 20))) rfl (wantN rfl) (fun _ => by kernel_rfl) ?_
    refine SOps.nil ?_
    by_cases c25 : x23 > 20
    · replace h := h.1 c25
      have dc25 : (decide (x23 > 20)) = true := (decide_eq_true c25)
      refine SW.cond_t (t := decide (x23 > 20)) rfl dc25 ?_
      refine SW.seq ?_
      refine SW.region ?_
      refine SOps.val (v := .agg #[.int .i64 0, .int .i64 0, .int .i64 0, .string ByteArray.empty, sv Sl.nil]) rfl (wantN rfl) (fun _ => by kernel_rfl) ?_
      refine SOps.enter rfl (wantN rfl) (fun _ => by kernel_rfl) (msg_wrong.sound F 0 H24 _ h) ?_
      clear h
      rintro v H27 ⟨e26, rfl, h⟩
      obtain ⟨c28, h⟩ := h
      refine SOps.storeL (p := (b2, 0)) (v := .agg #[.int .i64 0, .int .i64 0, .int .i64 0, .string ByteArray.empty, sv Sl.nil]) (cs := [.int .i64 0, .int .i64 0, .int .i64 0, .string ByteArray.empty, sv Sl.nil]) rfl rfl (wantN rfl) (size := 5) (by kernel_rfl) rfl rfl rfl rfl (by simp [Value.oneCell', errV_one, pv, sv]) c28 ?_
      refine SOps.val (v := errV e26) rfl (wantN rfl) (fun _ => by kernel_rfl) ?_
      refine SOps.nil ?_
      obtain ⟨x29, x30, x31, s32, l33, c34, Hr, hr, h⟩ := h
      exact SW.ret (retQ.mkM (.tuple #[.agg #[.int .i64 x29, .int .i64 x30, .int .i64 x31, .string s32, sv l33], errV e26]) (res2M rfl (RV.celN (size := 5) (p := (b2, 0)) (T := 53) rfl (fun _ => by kernel_rfl) (by kernel_rfl) rfl c34) (RV.tmp rfl)) hr ⟨x29, x30, x31, s32, l33, e26, rfl, h⟩)
    · replace h := h.2 c25
      have dc25 : (decide (x23 > 20)) = false := (decide_eq_false c25)
      refine SW.cond_f (t := decide (x23 > 20)) rfl dc25 ?_
      refine SW.skip ?_
      refine SW.seq ?_
      refine SW.seq ?_
      refine SW.region ?_
      refine SOps.val (v := .int .i64 x23) rfl (wantN rfl) (fun _ => by kernel_rfl) ?_
      refine SOps.val (v := .int .i64 0) rfl (wantN rfl) (fun _ => by kernel_rfl) ?_
      refine SOps.nil ?_
      refine SW.block ?_
      refine SW.loop (fun k1 fr H => ∃ (g : Fr) (b35 : Nat) (s36 : ByteArray) (b37 : Nat) (b38 : Nat) (x39 : Int) (x40 : Int), fr = g.upds [(2, pv (some (b35, 0))), (4, (.string s36 : Value)), (8, pv (some (b37, 0))), (9, pv (some (b38, 0))), (45, (.int .i64 x39 : Value)), (46, (.int .i64 x40 : Value))] ∧ msg_Get.l1 F K k1 b35 s36 b37 b38 x39 x40 H) F ⟨_, b2, s4, b12, b20, x23, 0, (Fr.upds_self _ _ ⟨rfl, rfl, rfl, rfl, rfl, rfl, trivial⟩), h⟩ ?_
      clear h
      rintro k1 fr H ⟨g, b35, s36, b37, b38, x39, x40, rfl, h⟩
      cases k1 with
      | zero => exact h.elim
      | succ k1 =>
        replace h : msg_Get.r1 F K (msg_Get.l1 F K k1) b35 s36 b37 b38 x39 x40 H := h
        unfold msg_Get.r1 at h
        refine SW.seq ?_
        refine SW.region ?_
        refine SOps.val (v := .bool (decide (x40 < x39))) rfl (wantN rfl) (fun _ => by kernel_rfl) ?_
        refine SOps.nil ?_
        refine SW.seq ?_
        by_cases c41 : x40 < x39
        · replace h := h.1 c41
          have dc41 : (decide (x40 < x39)) = true := (decide_eq_true c41)
          refine SW.cond_t (t := decide (x40 < x39)) rfl dc41 ?_
          refine SW.skip ?_
          refine SW.seq ?_
          refine SW.block ?_
          obtain ⟨H42, c43, h⟩ := h
          obtain ⟨l50, c51, h⟩ := h
          obtain ⟨B47, c54, k46⟩ := exB (α := ByteArray) (fun K => msg_reader_text.wp F (some (b37, 0)) H K) h
          obtain ⟨R44, hR44⟩ : ∃ R : ByteArray → SH → Prop, R = WR B47 := ⟨_, rfl⟩
          have m45 : ∀ a H1 H2, R44 a H1 → SH.le H1 H2 → R44 a H2 := by rw [hR44]; exact WR.mono
          obtain ⟨R48, hR48⟩ : ∃ R : _ → Nat → SH → Prop, R = WRb B47 (fun s52 => (⟨[.string s52], 9, false, 1⟩ : AO)) := ⟨_, rfl⟩
          have m49 : ∀ a b H1 H2, R48 a b H1 → SH.le H1 H2 → R48 a b H2 := by rw [hR48]; exact WRb.mono
          refine SW.drawW [] [.val (pv (some (b38, 4))), .val (sv l50), .val (pv (some (b37, 0))), .rel (fun H9 v9 T9 H8 => ∃ (s52 : ByteArray), v9 = .string s52 ∧ R44 s52 H8) (by rintro _ _ _ _ _ _ ⟨s52, e9, r9⟩ hle hT; exact ⟨s52, e9, m45 _ _ _ r9 hle⟩), .rel (fun H9 v9 T9 H8 => ∃ (s52 : ByteArray) (b55 : Nat), v9 = sv (⟨some (b55, 0), 1, 1⟩ : Sl) ∧ R48 s52 b55 H8) (by rintro _ _ _ _ _ _ ⟨s52, b55, e9, r9⟩ hle hT; exact ⟨s52, b55, e9, m49 _ _ _ _ r9 hle⟩)] [.b, .b, .d, .w, .b] 3 H42 (by kernel_rfl) (by kernel_rfl) (by kernel_rfl) c43 trivial (And.intro ?_ (And.intro ?_ (And.intro ?_ (And.intro ?_ (And.intro ?_ (trivial)))))) ?_
          · try clear h
            intro fr' T' H' hle hs hA
            have a9 : fr' 9 = pv (some (b38, 0)) := hs 9 (by kernel_rfl)
            obtain ⟨g', hg'⟩ : ∃ g' : Fr, fr' = g'.upds [(9, pv (some (b38, 0)))] := ⟨_, Fr.upds_self _ _ ⟨a9, trivial⟩⟩
            subst hg'
            exact SA.val (v := pv (some (b38, 4))) rfl (wantN rfl) (fun _ => by kernel_rfl)
          · try clear h
            intro fr' T' H' hle hs hA
            have a48 : fr' 48 = pv (some (b38, 4)) := hA 0 (by kernel_rfl)
            obtain ⟨g', hg'⟩ : ∃ g' : Fr, fr' = g'.upds [(48, pv (some (b38, 4)))] := ⟨_, Fr.upds_self _ _ ⟨a48, trivial⟩⟩
            subst hg'
            exact SA.rdH (Hc := H42) hle (v := sv l50) rfl (wantN rfl) (fun w hw => ev_load1 rfl (fun _ => by kernel_rfl) (p := (b38, 4)) rfl c51 w hw)
          · try clear h
            intro fr' T' H' hle hs hA
            have a8 : fr' 8 = pv (some (b37, 0)) := hs 8 (by kernel_rfl)
            obtain ⟨g', hg'⟩ : ∃ g' : Fr, fr' = g'.upds [(8, pv (some (b37, 0)))] := ⟨_, Fr.upds_self _ _ ⟨a8, trivial⟩⟩
            subst hg'
            exact SA.val (v := pv (some (b37, 0))) rfl (wantN rfl) (fun _ => by kernel_rfl)
          · try clear h
            intro fr' T' H' hle hs hA
            have a50 : fr' 50 = pv (some (b37, 0)) := hA 2 (by kernel_rfl)
            obtain ⟨g', hg'⟩ : ∃ g' : Fr, fr' = g'.upds [(50, pv (some (b37, 0)))] := ⟨_, Fr.upds_self _ _ ⟨a50, trivial⟩⟩
            subst hg'
            exact SA.wcall (α := ByteArray) (B := B47) (vv := fun s52 => .string s52) (p := fun H9 v9 T9 H8 => ∃ (s52 : ByteArray), v9 = .string s52 ∧ R44 s52 H8) (mono := (by rintro _ _ _ _ _ _ ⟨s52, e9, r9⟩ hle hT; exact ⟨s52, e9, m45 _ _ _ r9 hle⟩)) hle rfl (wantN rfl) (fun _ => by kernel_rfl) (by rintro a H1 r; exact ⟨a, rfl, by rw [hR44]; exact r⟩) ((msg_reader_text.sound F (some (b37, 0)) H _ c54).mono (by rintro v H' ⟨q, h1, h2⟩; exact ⟨q, h1, h2⟩))
          · try clear h
            intro fr' T' H' hle hs hA
            obtain ⟨s52, a51, rR44⟩ := hA 3 (by kernel_rfl)
            obtain ⟨g', hg'⟩ : ∃ g' : Fr, fr' = g'.upds [(51, (.string s52 : Value))] := ⟨_, Fr.upds_self _ _ ⟨a51, trivial⟩⟩
            subst hg'
            exact SA.freshW (mk := fun b => sv ⟨some (b, 0), 1, 1⟩) (ao := (⟨[.string s52], 9, false, 1⟩ : AO)) (p := fun H9 v9 T9 H8 => ∃ (s52 : ByteArray) (b55 : Nat), v9 = sv (⟨some (b55, 0), 1, 1⟩ : Sl) ∧ R48 s52 b55 H8) (mono := (by rintro _ _ _ _ _ _ ⟨s52, b55, e9, r9⟩ hle hT; exact ⟨s52, b55, e9, m49 _ _ _ _ r9 hle⟩)) (fun b hb => ⟨s52, b, rfl, by subst hR44; subst hR48; exact WR.block rR44 hb⟩) (fun h => SOps.lit (E := 9) (cs := #[.string s52]) rfl rfl (wantN rfl) (fun _ => by kernel_rfl) (fun b c => h b c))
          · intro fr' T' H' hle hs hA
            have a2 : fr' 2 = pv (some (b35, 0)) := hs 2 (by kernel_rfl)
            have a4 : fr' 4 = (.string s36 : Value) := hs 4 (by kernel_rfl)
            have a8 : fr' 8 = pv (some (b37, 0)) := hs 8 (by kernel_rfl)
            have a9 : fr' 9 = pv (some (b38, 0)) := hs 9 (by kernel_rfl)
            have a45 : fr' 45 = (.int .i64 x39 : Value) := hs 45 (by kernel_rfl)
            have a46 : fr' 46 = (.int .i64 x40 : Value) := hs 46 (by kernel_rfl)
            have a49 : fr' 49 = sv l50 := hA 1 (Nat.le_of_ble_eq_true rfl) (by kernel_rfl) (by kernel_rfl)
            obtain ⟨s52, b55, a52, rR48⟩ := hA 4 (Nat.le_of_ble_eq_true rfl) (by kernel_rfl) (by kernel_rfl)
            obtain ⟨g', hg'⟩ : ∃ g' : Fr, fr' = g'.upds [(2, pv (some (b35, 0))), (4, (.string s36 : Value)), (8, pv (some (b37, 0))), (9, pv (some (b38, 0))), (45, (.int .i64 x39 : Value)), (46, (.int .i64 x40 : Value)), (49, sv l50), (52, sv (⟨some (b55, 0), 1, 1⟩ : Sl))] := ⟨_, Fr.upds_self _ _ ⟨a2, a4, a8, a9, a45, a46, a49, a52, trivial⟩⟩
            subst hg'
            subst hR48
            obtain ⟨H53, nb55, g1, h⟩ := rR48
            replace h := k46 _ _ h b55 nb55
            refine SOps.forget _ g1 ?_
            clear g1
            clear hle hs hA
            obtain ⟨w59, c60, h⟩ := h
            refine SOps.append (z := .string ByteArray.empty) (size := 1) (bytes := 16) rfl rfl (wantN rfl) Tryd.underlying51 (by kernel_rfl) rfl rfl rfl (.inl ⟨⟨_, Tryd.underlying51⟩, _, rfl, rfl, c60⟩) (AppendQ.mono h ?_)
            clear h
            intro l56 H57 h
            refine SOps.val (v := pv (some (b38, 4))) rfl (wantN rfl) (fun _ => by kernel_rfl) ?_
            obtain ⟨c58, h⟩ := h
            refine SOps.storeL (p := (b38, 4)) (v := sv l56) (cs := [sv l56]) rfl rfl (wantN rfl) (size := 1) (by kernel_rfl) rfl rfl rfl rfl (by simp [Value.oneCell', errV_one, pv, sv]) c58 ?_
            refine SOps.nil ?_
            refine SW.region ?_
            refine SOps.val (v := .int .i64 (w64 (x40 + 1))) rfl (wantN rfl) (fun _ => by kernel_rfl) ?_
            refine SOps.val (v := .int .i64 (w64 (x40 + 1))) rfl (wantN rfl) (fun _ => by kernel_rfl) ?_
            refine SOps.nil ?_
            exact ⟨k1, Nat.lt_succ_self k1, _, b35, s36, b37, b38, x39, w64 (x40 + 1), (Fr.upds_self _ _ ⟨rfl, rfl, rfl, rfl, rfl, rfl, trivial⟩), h⟩
        · replace h := h.2 c41
          have dc41 : (decide (x40 < x39)) = false := (decide_eq_false c41)
          refine SW.cond_f (t := decide (x40 < x39)) rfl dc41 ?_
          refine SW.exit ?_
          refine SW.seq ?_
          refine SW.block ?_
          refine SW.seq ?_
          refine SW.region ?_
          refine SOps.val (v := pv (some (b37, 0))) rfl (wantN rfl) (fun _ => by kernel_rfl) ?_
          refine SOps.val (v := pv (some (b37, 0))) rfl (wantN rfl) (fun _ => by kernel_rfl) ?_
          refine SOps.val (v := pv (some (b37, 2))) rfl (wantN rfl) (fun _ => by kernel_rfl) ?_
          obtain ⟨e61, c62, h⟩ := h
          refine SOps.rd (v := errV e61) rfl (wantN rfl) (fun w hw => ev_load1 rfl (fun _ => by kernel_rfl) (p := (b37, 2)) rfl c62 w hw) ?_
          rcases e61 with _ | v63
          · replace h := h.1 rfl
            refine SOps.val (v := .bool false) rfl (wantN rfl) (fun w => ev_errNe (e := none) rfl Tryd.underlying31 rfl rfl w) ?_
            refine SOps.val (v := .bool false) rfl (wantN rfl) (fun _ => by kernel_rfl) ?_
            refine SOps.nil ?_
            refine SW.cond_f (t := false) rfl rfl ?_
            refine SW.seq ?_
            refine SW.region ?_
            refine SOps.val (v := pv (some (b37, 0))) rfl (wantN rfl) (fun _ => by kernel_rfl) ?_
            refine SOps.val (v := pv (some (b37, 0))) rfl (wantN rfl) (fun _ => by kernel_rfl) ?_
            refine SOps.val (v := pv (some (b37, 1))) rfl (wantN rfl) (fun _ => by kernel_rfl) ?_
            obtain ⟨x64, c65, h⟩ := h
            refine SOps.rd (v := .int .i64 x64) rfl (wantN rfl) (fun w hw => ev_load1 rfl (fun _ => by kernel_rfl) (p := (b37, 1)) rfl c65 w hw) ?_
            refine SOps.val (v := .string s36) rfl (wantN rfl) (fun _ => by kernel_rfl) ?_
            refine SOps.val (v := .int .i64 (s36.size : Int)) rfl (wantN rfl) (fun _ => by kernel_rfl) ?_
            refine SOps.val (v := .bool (decide (x64 < (s36.size : Int)))) rfl (wantN rfl) (fun _ => by kernel_rfl) ?_
            refine SOps.val (v := .bool (decide (x64 < (s36.size : Int)))) rfl (wantN rfl) (fun _ => by kernel_rfl) ?_
            refine SOps.nil ?_
            by_cases c66 : x64 < (s36.size : Int)
            · replace h := h.1 c66
              have dc66 : (decide (x64 < (s36.size : Int))) = true := (decide_eq_true c66)
              refine SW.cond_t (t := decide (x64 < (s36.size : Int))) rfl dc66 ?_
              refine SW.seq ?_
              refine SW.region ?_
              refine SOps.val (v := .agg #[.int .i64 0, .int .i64 0, .int .i64 0, .string ByteArray.empty, sv Sl.nil]) rfl (wantN rfl) (fun _ => by kernel_rfl) ?_
              refine SOps.val (v := pv (some (b37, 0))) rfl (wantN rfl) (fun _ => by kernel_rfl) ?_
              refine SOps.val (v := pv (some (b37, 0))) rfl (wantN rfl) (fun _ => by kernel_rfl) ?_
              refine SOps.val (v := pv (some (b37, 1))) rfl (wantN rfl) (fun _ => by kernel_rfl) ?_
              obtain ⟨x67, c68, h⟩ := h
              refine SOps.rd (v := .int .i64 x67) rfl (wantN rfl) (fun w hw => ev_load1 rfl (fun _ => by kernel_rfl) (p := (b37, 1)) rfl c68 w hw) ?_
              refine SOps.enter rfl (wantN rfl) (fun _ => by kernel_rfl) (msg_wrong.sound F x67 H _ h) ?_
              clear h
              rintro v H70 ⟨e69, rfl, h⟩
              obtain ⟨c71, h⟩ := h
              refine SOps.storeL (p := (b35, 0)) (v := .agg #[.int .i64 0, .int .i64 0, .int .i64 0, .string ByteArray.empty, sv Sl.nil]) (cs := [.int .i64 0, .int .i64 0, .int .i64 0, .string ByteArray.empty, sv Sl.nil]) rfl rfl (wantN rfl) (size := 5) (by kernel_rfl) rfl rfl rfl rfl (by simp [Value.oneCell', errV_one, pv, sv]) c71 ?_
              refine SOps.val (v := errV e69) rfl (wantN rfl) (fun _ => by kernel_rfl) ?_
              refine SOps.nil ?_
              obtain ⟨x72, x73, x74, s75, l76, c77, Hr, hr, h⟩ := h
              exact SW.ret (retQ.mkM (.tuple #[.agg #[.int .i64 x72, .int .i64 x73, .int .i64 x74, .string s75, sv l76], errV e69]) (res2M rfl (RV.celN (size := 5) (p := (b35, 0)) (T := 53) rfl (fun _ => by kernel_rfl) (by kernel_rfl) rfl c77) (RV.tmp rfl)) hr ⟨x72, x73, x74, s75, l76, e69, rfl, h⟩)
            · replace h := h.2 c66
              have dc66 : (decide (x64 < (s36.size : Int))) = false := (decide_eq_false c66)
              refine SW.cond_f (t := decide (x64 < (s36.size : Int))) rfl dc66 ?_
              refine SW.seq ?_
              refine SW.region ?_
              obtain ⟨x78, x79, x80, s81, l82, c83, h⟩ := h
              refine SOps.rd (v := .agg #[.int .i64 x78, .int .i64 x79, .int .i64 x80, .string s81, sv l82]) rfl (wantN rfl) (fun w hw => ev_loadN rfl (fun _ => by kernel_rfl) (size := 5) (by kernel_rfl) (p := (b38, 0)) rfl rfl c83 w hw) ?_
              refine SOps.enter rfl (wantN rfl) (fun _ => by kernel_rfl) (msg_Check.sound F x78 x79 x80 s81 l82 H _ h) ?_
              clear h
              rintro v H85 ⟨e84, rfl, h⟩
              rcases e84 with _ | v86
              · replace h := h.1 rfl
                refine SOps.val (v := .bool false) rfl (wantN rfl) (fun w => ev_errNe (e := none) rfl Tryd.underlying31 rfl rfl w) ?_
                refine SOps.val (v := .bool false) rfl (wantN rfl) (fun _ => by kernel_rfl) ?_
                refine SOps.nil ?_
                refine SW.cond_f (t := false) rfl rfl ?_
                refine SW.skip ?_
                refine SW.seq ?_
                refine SW.region ?_
                obtain ⟨x87, x88, x89, s90, l91, c92, h⟩ := h
                refine SOps.rd (v := .agg #[.int .i64 x87, .int .i64 x88, .int .i64 x89, .string s90, sv l91]) rfl (wantN rfl) (fun w hw => ev_loadN rfl (fun _ => by kernel_rfl) (size := 5) (by kernel_rfl) (p := (b38, 0)) rfl rfl c92 w hw) ?_
                obtain ⟨c93, h⟩ := h
                refine SOps.storeL (p := (b35, 0)) (v := .agg #[.int .i64 x87, .int .i64 x88, .int .i64 x89, .string s90, sv l91]) (cs := [.int .i64 x87, .int .i64 x88, .int .i64 x89, .string s90, sv l91]) rfl rfl (wantN rfl) (size := 5) (by kernel_rfl) rfl rfl rfl rfl (by simp [Value.oneCell', errV_one, pv, sv]) c93 ?_
                refine SOps.val (v := errV none) rfl (wantN rfl) (fun _ => by kernel_rfl) ?_
                refine SOps.nil ?_
                obtain ⟨x94, x95, x96, s97, l98, c99, Hr, hr, h⟩ := h
                exact SW.ret (retQ.mkM (.tuple #[.agg #[.int .i64 x94, .int .i64 x95, .int .i64 x96, .string s97, sv l98], errV none]) (res2M rfl (RV.celN (size := 5) (p := (b35, 0)) (T := 53) rfl (fun _ => by kernel_rfl) (by kernel_rfl) rfl c99) (RV.tmp rfl)) hr ⟨x94, x95, x96, s97, l98, none, rfl, h⟩)
              · replace h := h.2 v86 rfl
                refine SOps.val (v := .bool true) rfl (wantN rfl) (fun w => ev_errNe (e := some v86) rfl Tryd.underlying31 rfl rfl w) ?_
                refine SOps.val (v := .bool true) rfl (wantN rfl) (fun _ => by kernel_rfl) ?_
                refine SOps.nil ?_
                refine SW.cond_t (t := true) rfl rfl ?_
                refine SW.seq ?_
                refine SW.region ?_
                refine SOps.val (v := .agg #[.int .i64 0, .int .i64 0, .int .i64 0, .string ByteArray.empty, sv Sl.nil]) rfl (wantN rfl) (fun _ => by kernel_rfl) ?_
                refine SOps.enter rfl (wantN rfl) (fun _ => by kernel_rfl) (msg_wrong.sound F 0 H85 _ h) ?_
                clear h
                rintro v H101 ⟨e100, rfl, h⟩
                obtain ⟨c102, h⟩ := h
                refine SOps.storeL (p := (b35, 0)) (v := .agg #[.int .i64 0, .int .i64 0, .int .i64 0, .string ByteArray.empty, sv Sl.nil]) (cs := [.int .i64 0, .int .i64 0, .int .i64 0, .string ByteArray.empty, sv Sl.nil]) rfl rfl (wantN rfl) (size := 5) (by kernel_rfl) rfl rfl rfl rfl (by simp [Value.oneCell', errV_one, pv, sv]) c102 ?_
                refine SOps.val (v := errV e100) rfl (wantN rfl) (fun _ => by kernel_rfl) ?_
                refine SOps.nil ?_
                obtain ⟨x103, x104, x105, s106, l107, c108, Hr, hr, h⟩ := h
                exact SW.ret (retQ.mkM (.tuple #[.agg #[.int .i64 x103, .int .i64 x104, .int .i64 x105, .string s106, sv l107], errV e100]) (res2M rfl (RV.celN (size := 5) (p := (b35, 0)) (T := 53) rfl (fun _ => by kernel_rfl) (by kernel_rfl) rfl c108) (RV.tmp rfl)) hr ⟨x103, x104, x105, s106, l107, e100, rfl, h⟩)
          · replace h := h.2 v63 rfl
            refine SOps.val (v := .bool true) rfl (wantN rfl) (fun w => ev_errNe (e := some v63) rfl Tryd.underlying31 rfl rfl w) ?_
            refine SOps.val (v := .bool true) rfl (wantN rfl) (fun _ => by kernel_rfl) ?_
            refine SOps.nil ?_
            refine SW.cond_t (t := true) rfl rfl ?_
            refine SW.seq ?_
            obtain ⟨H109, c110, h⟩ := h
            obtain ⟨e117, c118, h⟩ := h
            obtain ⟨c119, c120, h⟩ := h
            refine SW.drawW [] [.val (.agg #[.int .i64 0, .int .i64 0, .int .i64 0, .string ByteArray.empty, sv Sl.nil]), .val (pv (some (b37, 0))), .val (pv (some (b37, 0))), .val (pv (some (b37, 2))), .val (errV e117), .rel (fun _ _ _ _ => True) (fun _ _ _ _ _ _ _ _ _ => trivial), .val (errV e117)] [.d, .b, .b, .b, .b, .w, .b] 5 H109 (by kernel_rfl) (by kernel_rfl) (by kernel_rfl) c110 trivial (And.intro ?_ (And.intro ?_ (And.intro ?_ (And.intro ?_ (And.intro ?_ (And.intro ?_ (And.intro ?_ (trivial)))))))) ?_
            · try clear h
              intro fr' T' H' hle hs hA
              exact SA.val (v := .agg #[.int .i64 0, .int .i64 0, .int .i64 0, .string ByteArray.empty, sv Sl.nil]) rfl (wantN rfl) (fun _ => by kernel_rfl)
            · try clear h
              intro fr' T' H' hle hs hA
              have a8 : fr' 8 = pv (some (b37, 0)) := hs 8 (by kernel_rfl)
              obtain ⟨g', hg'⟩ : ∃ g' : Fr, fr' = g'.upds [(8, pv (some (b37, 0)))] := ⟨_, Fr.upds_self _ _ ⟨a8, trivial⟩⟩
              subst hg'
              exact SA.val (v := pv (some (b37, 0))) rfl (wantN rfl) (fun _ => by kernel_rfl)
            · try clear h
              intro fr' T' H' hle hs hA
              have a63 : fr' 63 = pv (some (b37, 0)) := hA 1 (by kernel_rfl)
              obtain ⟨g', hg'⟩ : ∃ g' : Fr, fr' = g'.upds [(63, pv (some (b37, 0)))] := ⟨_, Fr.upds_self _ _ ⟨a63, trivial⟩⟩
              subst hg'
              exact SA.val (v := pv (some (b37, 0))) rfl (wantN rfl) (fun _ => by kernel_rfl)
            · try clear h
              intro fr' T' H' hle hs hA
              have a64 : fr' 64 = pv (some (b37, 0)) := hA 2 (by kernel_rfl)
              obtain ⟨g', hg'⟩ : ∃ g' : Fr, fr' = g'.upds [(64, pv (some (b37, 0)))] := ⟨_, Fr.upds_self _ _ ⟨a64, trivial⟩⟩
              subst hg'
              exact SA.val (v := pv (some (b37, 2))) rfl (wantN rfl) (fun _ => by kernel_rfl)
            · try clear h
              intro fr' T' H' hle hs hA
              have a65 : fr' 65 = pv (some (b37, 2)) := hA 3 (by kernel_rfl)
              obtain ⟨g', hg'⟩ : ∃ g' : Fr, fr' = g'.upds [(65, pv (some (b37, 2)))] := ⟨_, Fr.upds_self _ _ ⟨a65, trivial⟩⟩
              subst hg'
              exact SA.rdH (Hc := H109) hle (v := errV e117) rfl (wantN rfl) (fun w hw => ev_load1 rfl (fun _ => by kernel_rfl) (p := (b37, 2)) rfl c118 w hw)
            · try clear h
              intro fr' T' H' hle hs hA
              have a2 : fr' 2 = pv (some (b35, 0)) := hs 2 (by kernel_rfl)
              have a62 : fr' 62 = (.agg #[.int .i64 0, .int .i64 0, .int .i64 0, .string ByteArray.empty, sv Sl.nil] : Value) := hA 0 (by kernel_rfl)
              obtain ⟨g', hg'⟩ : ∃ g' : Fr, fr' = g'.upds [(2, pv (some (b35, 0))), (62, (.agg #[.int .i64 0, .int .i64 0, .int .i64 0, .string ByteArray.empty, sv Sl.nil] : Value))] := ⟨_, Fr.upds_self _ _ ⟨a2, a62, trivial⟩⟩
              subst hg'
              exact SA.wst (Hc := H) hle rfl (fun _ => trivial) (fun k => SOps.storeL (p := (b35, 0)) (v := .agg #[.int .i64 0, .int .i64 0, .int .i64 0, .string ByteArray.empty, sv Sl.nil]) (cs := [.int .i64 0, .int .i64 0, .int .i64 0, .string ByteArray.empty, sv Sl.nil]) rfl rfl (wantN rfl) (size := 5) (by kernel_rfl) rfl rfl rfl rfl (by simp [Value.oneCell', errV_one, pv, sv]) c119 (k _ c120))
            · try clear h
              intro fr' T' H' hle hs hA
              have a66 : fr' 66 = errV e117 := hA 4 (by kernel_rfl)
              obtain ⟨g', hg'⟩ : ∃ g' : Fr, fr' = g'.upds [(66, errV e117)] := ⟨_, Fr.upds_self _ _ ⟨a66, trivial⟩⟩
              subst hg'
              exact SA.val (v := errV e117) rfl (wantN rfl) (fun _ => by kernel_rfl)
            · intro fr' T' H' hle hs hA
              have a2 : fr' 2 = pv (some (b35, 0)) := hs 2 (by kernel_rfl)
              have a3 : fr' 3 = errV e117 := hA 6 (Nat.le_of_ble_eq_true rfl) (by kernel_rfl) (by kernel_rfl)
              obtain ⟨g', hg'⟩ : ∃ g' : Fr, fr' = g'.upds [(2, pv (some (b35, 0))), (3, errV e117)] := ⟨_, Fr.upds_self _ _ ⟨a2, a3, trivial⟩⟩
              subst hg'
              refine SOps.forget H109 hle ?_
              clear hle hs hA
              refine SOps.nil ?_
              obtain ⟨x121, x122, x123, s124, l125, c126, Hr, hr, h⟩ := h
              exact SW.ret (retQ.mkM (.tuple #[.agg #[.int .i64 x121, .int .i64 x122, .int .i64 x123, .string s124, sv l125], errV e117]) (res2M rfl (RV.celN (size := 5) (p := (b35, 0)) (T := 53) rfl (fun _ => by kernel_rfl) (by kernel_rfl) rfl c126) (RV.tmp rfl)) hr ⟨x121, x122, x123, s124, l125, e117, rfl, h⟩)
  · replace h := h.2 v7 rfl
    refine SOps.val (v := .bool true) rfl (wantN rfl) (fun w => ev_errNe (e := some v7) rfl Tryd.underlying31 rfl rfl w) ?_
    refine SOps.nil ?_
    refine SW.cond_t (t := true) rfl rfl ?_
    refine SW.seq ?_
    refine SW.region ?_
    refine SOps.val (v := .agg #[.int .i64 0, .int .i64 0, .int .i64 0, .string ByteArray.empty, sv Sl.nil]) rfl (wantN rfl) (fun _ => by kernel_rfl) ?_
    refine SOps.val (v := errV (some v7)) rfl (wantN rfl) (fun _ => by kernel_rfl) ?_
    obtain ⟨c139, h⟩ := h
    refine SOps.storeL (p := (b2, 0)) (v := .agg #[.int .i64 0, .int .i64 0, .int .i64 0, .string ByteArray.empty, sv Sl.nil]) (cs := [.int .i64 0, .int .i64 0, .int .i64 0, .string ByteArray.empty, sv Sl.nil]) rfl rfl (wantN rfl) (size := 5) (by kernel_rfl) rfl rfl rfl rfl (by simp [Value.oneCell', errV_one, pv, sv]) c139 ?_
    refine SOps.val (v := errV (some v7)) rfl (wantN rfl) (fun _ => by kernel_rfl) ?_
    refine SOps.nil ?_
    obtain ⟨x140, x141, x142, s143, l144, c145, Hr, hr, h⟩ := h
    exact SW.ret (retQ.mkM (.tuple #[.agg #[.int .i64 x140, .int .i64 x141, .int .i64 x142, .string s143, sv l144], errV (some v7)]) (res2M rfl (RV.celN (size := 5) (p := (b2, 0)) (T := 53) rfl (fun _ => by kernel_rfl) (by kernel_rfl) rfl c145) (RV.tmp rfl)) hr ⟨x140, x141, x142, s143, l144, some v7, rfl, h⟩)

/-! ### lading/msg.Same: function 30 -/
def msg_Same.wp (F : Nat) (x1 : Int) (x2 : Int) (x3 : Int) (s4 : ByteArray) (l5 : Sl) (x6 : Int) (x7 : Int) (x8 : Int) (s9 : ByteArray) (l10 : Sl) (H : SH) (K : Bool → SH → Prop) : Prop :=
  ∀ b11, H b11 = none →
  ∀ b13, (SH.upd H b11 ⟨[.int .i64 x1, .int .i64 x2, .int .i64 x3, .string s4, sv l5], 53, false, 5⟩) b13 = none →
  ∃ (x15 : Int),
  SH.has (SH.upd (SH.upd H b11 ⟨[.int .i64 x1, .int .i64 x2, .int .i64 x3, .string s4, sv l5], 53, false, 5⟩) b13 ⟨[.int .i64 x6, .int .i64 x7, .int .i64 x8, .string s9, sv l10], 53, false, 5⟩) (b11, 0) (.int .i64 x15) ∧
  ∃ (x17 : Int),
  SH.has (SH.upd (SH.upd H b11 ⟨[.int .i64 x1, .int .i64 x2, .int .i64 x3, .string s4, sv l5], 53, false, 5⟩) b13 ⟨[.int .i64 x6, .int .i64 x7, .int .i64 x8, .string s9, sv l10], 53, false, 5⟩) (b13, 0) (.int .i64 x17) ∧
  (x15 = x17 →
    ∃ (x20 : Int),
    SH.has (SH.upd (SH.upd H b11 ⟨[.int .i64 x1, .int .i64 x2, .int .i64 x3, .string s4, sv l5], 53, false, 5⟩) b13 ⟨[.int .i64 x6, .int .i64 x7, .int .i64 x8, .string s9, sv l10], 53, false, 5⟩) (b11, 1) (.int .i64 x20) ∧
    ∃ (x22 : Int),
    SH.has (SH.upd (SH.upd H b11 ⟨[.int .i64 x1, .int .i64 x2, .int .i64 x3, .string s4, sv l5], 53, false, 5⟩) b13 ⟨[.int .i64 x6, .int .i64 x7, .int .i64 x8, .string s9, sv l10], 53, false, 5⟩) (b13, 1) (.int .i64 x22) ∧
    (x20 = x22 →
      ∃ (x25 : Int),
      SH.has (SH.upd (SH.upd H b11 ⟨[.int .i64 x1, .int .i64 x2, .int .i64 x3, .string s4, sv l5], 53, false, 5⟩) b13 ⟨[.int .i64 x6, .int .i64 x7, .int .i64 x8, .string s9, sv l10], 53, false, 5⟩) (b11, 2) (.int .i64 x25) ∧
      ∃ (x27 : Int),
      SH.has (SH.upd (SH.upd H b11 ⟨[.int .i64 x1, .int .i64 x2, .int .i64 x3, .string s4, sv l5], 53, false, 5⟩) b13 ⟨[.int .i64 x6, .int .i64 x7, .int .i64 x8, .string s9, sv l10], 53, false, 5⟩) (b13, 2) (.int .i64 x27) ∧
      (x25 = x27 →
        ∃ (s30 : ByteArray),
        SH.has (SH.upd (SH.upd H b11 ⟨[.int .i64 x1, .int .i64 x2, .int .i64 x3, .string s4, sv l5], 53, false, 5⟩) b13 ⟨[.int .i64 x6, .int .i64 x7, .int .i64 x8, .string s9, sv l10], 53, false, 5⟩) (b11, 3) (.string s30) ∧
        ∃ (s32 : ByteArray),
        SH.has (SH.upd (SH.upd H b11 ⟨[.int .i64 x1, .int .i64 x2, .int .i64 x3, .string s4, sv l5], 53, false, 5⟩) b13 ⟨[.int .i64 x6, .int .i64 x7, .int .i64 x8, .string s9, sv l10], 53, false, 5⟩) (b13, 3) (.string s32) ∧
        (s30 = s32 →
          ∃ (l35 : Sl),
          SH.has (SH.upd (SH.upd H b11 ⟨[.int .i64 x1, .int .i64 x2, .int .i64 x3, .string s4, sv l5], 53, false, 5⟩) b13 ⟨[.int .i64 x6, .int .i64 x7, .int .i64 x8, .string s9, sv l10], 53, false, 5⟩) (b11, 4) (sv l35) ∧
          ∃ (l37 : Sl),
          SH.has (SH.upd (SH.upd H b11 ⟨[.int .i64 x1, .int .i64 x2, .int .i64 x3, .string s4, sv l5], 53, false, 5⟩) b13 ⟨[.int .i64 x6, .int .i64 x7, .int .i64 x8, .string s9, sv l10], 53, false, 5⟩) (b13, 4) (sv l37) ∧
          slices_Equal_string_string.wp F l35 l37 (SH.upd (SH.upd H b11 ⟨[.int .i64 x1, .int .i64 x2, .int .i64 x3, .string s4, sv l5], 53, false, 5⟩) b13 ⟨[.int .i64 x6, .int .i64 x7, .int .i64 x8, .string s9, sv l10], 53, false, 5⟩) (fun q39 H40 =>
            ∃ Hr, SH.le Hr H40 ∧ K q39 Hr
          )
        ) ∧ (¬ (s30 = s32) →
          ∃ Hr, SH.le Hr (SH.upd (SH.upd H b11 ⟨[.int .i64 x1, .int .i64 x2, .int .i64 x3, .string s4, sv l5], 53, false, 5⟩) b13 ⟨[.int .i64 x6, .int .i64 x7, .int .i64 x8, .string s9, sv l10], 53, false, 5⟩) ∧ K false Hr
        )
      ) ∧ (¬ (x25 = x27) →
        ∃ Hr, SH.le Hr (SH.upd (SH.upd H b11 ⟨[.int .i64 x1, .int .i64 x2, .int .i64 x3, .string s4, sv l5], 53, false, 5⟩) b13 ⟨[.int .i64 x6, .int .i64 x7, .int .i64 x8, .string s9, sv l10], 53, false, 5⟩) ∧ K false Hr
      )
    ) ∧ (¬ (x20 = x22) →
      ∃ Hr, SH.le Hr (SH.upd (SH.upd H b11 ⟨[.int .i64 x1, .int .i64 x2, .int .i64 x3, .string s4, sv l5], 53, false, 5⟩) b13 ⟨[.int .i64 x6, .int .i64 x7, .int .i64 x8, .string s9, sv l10], 53, false, 5⟩) ∧ K false Hr
    )
  ) ∧ (¬ (x15 = x17) →
    ∃ Hr, SH.le Hr (SH.upd (SH.upd H b11 ⟨[.int .i64 x1, .int .i64 x2, .int .i64 x3, .string s4, sv l5], 53, false, 5⟩) b13 ⟨[.int .i64 x6, .int .i64 x7, .int .i64 x8, .string s9, sv l10], 53, false, 5⟩) ∧ K false Hr
  )
set_option maxHeartbeats 8000000 in
theorem msg_Same.sound (F : Nat) (x1 : Int) (x2 : Int) (x3 : Int) (s4 : ByteArray) (l5 : Sl) (x6 : Int) (x7 : Int) (x8 : Int) (s9 : ByteArray) (l10 : Sl) (H : SH) (K : Bool → SH → Prop) (h : msg_Same.wp F x1 x2 x3 s4 l5 x6 x7 x8 s9 l10 H K) : SCalls Tryd.prog 30 #[.agg #[.int .i64 x1, .int .i64 x2, .int .i64 x3, .string s4, sv l5], .agg #[.int .i64 x6, .int .i64 x7, .int .i64 x8, .string s9, sv l10]] H (fun v H' => ∃ (q42 : Bool), v = .bool q42 ∧ K q42 H') := by
  unfold msg_Same.wp at h
  refine SCalls.body Tryd.func30 rfl (Nat.le_of_ble_eq_true rfl) ?_
  refine SW.seq ?_
  refine SW.region ?_
  refine SOps.box rfl rfl (wantN rfl) (v := .agg #[.int .i64 x1, .int .i64 x2, .int .i64 x3, .string s4, sv l5]) rfl (fun b11 c12 => ?_)
  replace h := h b11 c12
  refine SOps.box rfl rfl (wantN rfl) (v := .agg #[.int .i64 x6, .int .i64 x7, .int .i64 x8, .string s9, sv l10]) rfl (fun b13 c14 => ?_)
  replace h := h b13 c14
  refine SOps.val (v := .bool false) rfl (wantN rfl) (fun _ => by kernel_rfl) ?_
  refine SOps.nil ?_
  refine SW.seq ?_
  refine SW.region ?_
  refine SOps.val (v := pv (some (b11, 0))) rfl (wantN rfl) (fun _ => by kernel_rfl) ?_
  obtain ⟨x15, c16, h⟩ := h
  refine SOps.rd (v := .int .i64 x15) rfl (wantN rfl) (fun w hw => ev_load1 rfl (fun _ => by kernel_rfl) (p := (b11, 0)) rfl c16 w hw) ?_
  refine SOps.val (v := pv (some (b13, 0))) rfl (wantN rfl) (fun _ => by kernel_rfl) ?_
  obtain ⟨x17, c18, h⟩ := h
  refine SOps.rd (v := .int .i64 x17) rfl (wantN rfl) (fun w hw => ev_load1 rfl (fun _ => by kernel_rfl) (p := (b13, 0)) rfl c18 w hw) ?_
  refine SOps.val (v := .bool (x15 == x17)) rfl (wantN rfl) (fun _ => by kernel_rfl) ?_
  refine SOps.val (v := .bool (x15 == x17)) rfl (wantN rfl) (fun _ => by kernel_rfl) ?_
  by_cases c19 : x15 = x17
  · replace h := h.1 c19
    have dc19 : (x15 == x17) = true := (beq_iff_eq.mpr c19)
    refine SOps.val (v := pv (some (b11, 1))) rfl (wantY (c := (x15 == x17)) rfl rfl rfl dc19) (fun _ => by kernel_rfl) ?_
    obtain ⟨x20, c21, h⟩ := h
    refine SOps.rd (v := .int .i64 x20) rfl (wantY (c := (x15 == x17)) rfl rfl rfl dc19) (fun w hw => ev_load1 rfl (fun _ => by kernel_rfl) (p := (b11, 1)) rfl c21 w hw) ?_
    refine SOps.val (v := pv (some (b13, 1))) rfl (wantY (c := (x15 == x17)) rfl rfl rfl dc19) (fun _ => by kernel_rfl) ?_
    obtain ⟨x22, c23, h⟩ := h
    refine SOps.rd (v := .int .i64 x22) rfl (wantY (c := (x15 == x17)) rfl rfl rfl dc19) (fun w hw => ev_load1 rfl (fun _ => by kernel_rfl) (p := (b13, 1)) rfl c23 w hw) ?_
    refine SOps.val (v := .bool (x20 == x22)) rfl (wantY (c := (x15 == x17)) rfl rfl rfl dc19) (fun _ => by kernel_rfl) ?_
    refine SOps.val (v := .bool (x20 == x22)) rfl (wantN rfl) (fun w => ev_pickT (v := .bool (x20 == x22)) rfl (t := (x15 == x17)) rfl dc19 rfl w) ?_
    refine SOps.val (v := .bool (x20 == x22)) rfl (wantN rfl) (fun _ => by kernel_rfl) ?_
    by_cases c24 : x20 = x22
    · replace h := h.1 c24
      have dc24 : (x20 == x22) = true := (beq_iff_eq.mpr c24)
      refine SOps.val (v := pv (some (b11, 2))) rfl (wantY (c := (x20 == x22)) rfl rfl rfl dc24) (fun _ => by kernel_rfl) ?_
      obtain ⟨x25, c26, h⟩ := h
      refine SOps.rd (v := .int .i64 x25) rfl (wantY (c := (x20 == x22)) rfl rfl rfl dc24) (fun w hw => ev_load1 rfl (fun _ => by kernel_rfl) (p := (b11, 2)) rfl c26 w hw) ?_
      refine SOps.val (v := pv (some (b13, 2))) rfl (wantY (c := (x20 == x22)) rfl rfl rfl dc24) (fun _ => by kernel_rfl) ?_
      obtain ⟨x27, c28, h⟩ := h
      refine SOps.rd (v := .int .i64 x27) rfl (wantY (c := (x20 == x22)) rfl rfl rfl dc24) (fun w hw => ev_load1 rfl (fun _ => by kernel_rfl) (p := (b13, 2)) rfl c28 w hw) ?_
      refine SOps.val (v := .bool (x25 == x27)) rfl (wantY (c := (x20 == x22)) rfl rfl rfl dc24) (fun _ => by kernel_rfl) ?_
      refine SOps.val (v := .bool (x25 == x27)) rfl (wantN rfl) (fun w => ev_pickT (v := .bool (x25 == x27)) rfl (t := (x20 == x22)) rfl dc24 rfl w) ?_
      refine SOps.val (v := .bool (x25 == x27)) rfl (wantN rfl) (fun _ => by kernel_rfl) ?_
      by_cases c29 : x25 = x27
      · replace h := h.1 c29
        have dc29 : (x25 == x27) = true := (beq_iff_eq.mpr c29)
        refine SOps.val (v := pv (some (b11, 3))) rfl (wantY (c := (x25 == x27)) rfl rfl rfl dc29) (fun _ => by kernel_rfl) ?_
        obtain ⟨s30, c31, h⟩ := h
        refine SOps.rd (v := .string s30) rfl (wantY (c := (x25 == x27)) rfl rfl rfl dc29) (fun w hw => ev_load1 rfl (fun _ => by kernel_rfl) (p := (b11, 3)) rfl c31 w hw) ?_
        refine SOps.val (v := pv (some (b13, 3))) rfl (wantY (c := (x25 == x27)) rfl rfl rfl dc29) (fun _ => by kernel_rfl) ?_
        obtain ⟨s32, c33, h⟩ := h
        refine SOps.rd (v := .string s32) rfl (wantY (c := (x25 == x27)) rfl rfl rfl dc29) (fun w hw => ev_load1 rfl (fun _ => by kernel_rfl) (p := (b13, 3)) rfl c33 w hw) ?_
        refine SOps.val (v := .bool (decide (s30 = s32))) rfl (wantY (c := (x25 == x27)) rfl rfl rfl dc29) (fun w => ev_eqS rfl rfl rfl w) ?_
        refine SOps.val (v := .bool (decide (s30 = s32))) rfl (wantN rfl) (fun w => ev_pickT (v := .bool (decide (s30 = s32))) rfl (t := (x25 == x27)) rfl dc29 rfl w) ?_
        refine SOps.val (v := .bool (decide (s30 = s32))) rfl (wantN rfl) (fun _ => by kernel_rfl) ?_
        by_cases c34 : s30 = s32
        · replace h := h.1 c34
          have dc34 : (decide (s30 = s32)) = true := (decide_eq_true c34)
          refine SOps.val (v := pv (some (b11, 4))) rfl (wantY (c := decide (s30 = s32)) rfl rfl rfl dc34) (fun _ => by kernel_rfl) ?_
          obtain ⟨l35, c36, h⟩ := h
          refine SOps.rd (v := sv l35) rfl (wantY (c := decide (s30 = s32)) rfl rfl rfl dc34) (fun w hw => ev_load1 rfl (fun _ => by kernel_rfl) (p := (b11, 4)) rfl c36 w hw) ?_
          refine SOps.val (v := pv (some (b13, 4))) rfl (wantY (c := decide (s30 = s32)) rfl rfl rfl dc34) (fun _ => by kernel_rfl) ?_
          obtain ⟨l37, c38, h⟩ := h
          refine SOps.rd (v := sv l37) rfl (wantY (c := decide (s30 = s32)) rfl rfl rfl dc34) (fun w hw => ev_load1 rfl (fun _ => by kernel_rfl) (p := (b13, 4)) rfl c38 w hw) ?_
          refine SOps.enter rfl (wantY (c := decide (s30 = s32)) rfl rfl rfl dc34) (fun _ => by kernel_rfl) (slices_Equal_string_string.sound F l35 l37 (SH.upd (SH.upd H b11 ⟨[.int .i64 x1, .int .i64 x2, .int .i64 x3, .string s4, sv l5], 53, false, 5⟩) b13 ⟨[.int .i64 x6, .int .i64 x7, .int .i64 x8, .string s9, sv l10], 53, false, 5⟩) _ h) ?_
          clear h
          rintro v H40 ⟨q39, rfl, h⟩
          refine SOps.val (v := .bool q39) rfl (wantN rfl) (fun w => ev_pickT (v := .bool q39) rfl (t := decide (s30 = s32)) rfl dc34 rfl w) ?_
          refine SOps.val (v := .bool q39) rfl (wantN rfl) (fun _ => by kernel_rfl) ?_
          refine SOps.nil ?_
          obtain ⟨Hr, hr, h⟩ := h
          exact SW.ret (retQ.mk (.bool q39) (res1 rfl rfl) hr ⟨q39, rfl, h⟩)
        · replace h := h.2 c34
          have dc34 : (decide (s30 = s32)) = false := (decide_eq_false c34)
          refine SOps.off rfl (wantX (c := decide (s30 = s32)) rfl rfl rfl dc34) ?_
          refine SOps.off rfl (wantX (c := decide (s30 = s32)) rfl rfl rfl dc34) ?_
          refine SOps.off rfl (wantX (c := decide (s30 = s32)) rfl rfl rfl dc34) ?_
          refine SOps.off rfl (wantX (c := decide (s30 = s32)) rfl rfl rfl dc34) ?_
          refine SOps.off rfl (wantX (c := decide (s30 = s32)) rfl rfl rfl dc34) ?_
          refine SOps.val (v := .bool false) rfl (wantN rfl) (fun w => ev_pickF (v := .bool false) rfl (t := decide (s30 = s32)) rfl dc34 rfl w) ?_
          refine SOps.val (v := .bool false) rfl (wantN rfl) (fun _ => by kernel_rfl) ?_
          refine SOps.nil ?_
          obtain ⟨Hr, hr, h⟩ := h
          exact SW.ret (retQ.mk (.bool false) (res1 rfl rfl) hr ⟨false, rfl, h⟩)
      · replace h := h.2 c29
        have dc29 : (x25 == x27) = false := (beq_eq_false_iff_ne.mpr c29)
        refine SOps.off rfl (wantX (c := (x25 == x27)) rfl rfl rfl dc29) ?_
        refine SOps.off rfl (wantX (c := (x25 == x27)) rfl rfl rfl dc29) ?_
        refine SOps.off rfl (wantX (c := (x25 == x27)) rfl rfl rfl dc29) ?_
        refine SOps.off rfl (wantX (c := (x25 == x27)) rfl rfl rfl dc29) ?_
        refine SOps.off rfl (wantX (c := (x25 == x27)) rfl rfl rfl dc29) ?_
        refine SOps.val (v := .bool false) rfl (wantN rfl) (fun w => ev_pickF (v := .bool false) rfl (t := (x25 == x27)) rfl dc29 rfl w) ?_
        refine SOps.val (v := .bool false) rfl (wantN rfl) (fun _ => by kernel_rfl) ?_
        refine SOps.off rfl (wantX (c := false) rfl rfl rfl rfl) ?_
        refine SOps.off rfl (wantX (c := false) rfl rfl rfl rfl) ?_
        refine SOps.off rfl (wantX (c := false) rfl rfl rfl rfl) ?_
        refine SOps.off rfl (wantX (c := false) rfl rfl rfl rfl) ?_
        refine SOps.off rfl (wantX (c := false) rfl rfl rfl rfl) ?_
        refine SOps.val (v := .bool false) rfl (wantN rfl) (fun w => ev_pickF (v := .bool false) rfl (t := false) rfl rfl rfl w) ?_
        refine SOps.val (v := .bool false) rfl (wantN rfl) (fun _ => by kernel_rfl) ?_
        refine SOps.nil ?_
        obtain ⟨Hr, hr, h⟩ := h
        exact SW.ret (retQ.mk (.bool false) (res1 rfl rfl) hr ⟨false, rfl, h⟩)
    · replace h := h.2 c24
      have dc24 : (x20 == x22) = false := (beq_eq_false_iff_ne.mpr c24)
      refine SOps.off rfl (wantX (c := (x20 == x22)) rfl rfl rfl dc24) ?_
      refine SOps.off rfl (wantX (c := (x20 == x22)) rfl rfl rfl dc24) ?_
      refine SOps.off rfl (wantX (c := (x20 == x22)) rfl rfl rfl dc24) ?_
      refine SOps.off rfl (wantX (c := (x20 == x22)) rfl rfl rfl dc24) ?_
      refine SOps.off rfl (wantX (c := (x20 == x22)) rfl rfl rfl dc24) ?_
      refine SOps.val (v := .bool false) rfl (wantN rfl) (fun w => ev_pickF (v := .bool false) rfl (t := (x20 == x22)) rfl dc24 rfl w) ?_
      refine SOps.val (v := .bool false) rfl (wantN rfl) (fun _ => by kernel_rfl) ?_
      refine SOps.off rfl (wantX (c := false) rfl rfl rfl rfl) ?_
      refine SOps.off rfl (wantX (c := false) rfl rfl rfl rfl) ?_
      refine SOps.off rfl (wantX (c := false) rfl rfl rfl rfl) ?_
      refine SOps.off rfl (wantX (c := false) rfl rfl rfl rfl) ?_
      refine SOps.off rfl (wantX (c := false) rfl rfl rfl rfl) ?_
      refine SOps.val (v := .bool false) rfl (wantN rfl) (fun w => ev_pickF (v := .bool false) rfl (t := false) rfl rfl rfl w) ?_
      refine SOps.val (v := .bool false) rfl (wantN rfl) (fun _ => by kernel_rfl) ?_
      refine SOps.off rfl (wantX (c := false) rfl rfl rfl rfl) ?_
      refine SOps.off rfl (wantX (c := false) rfl rfl rfl rfl) ?_
      refine SOps.off rfl (wantX (c := false) rfl rfl rfl rfl) ?_
      refine SOps.off rfl (wantX (c := false) rfl rfl rfl rfl) ?_
      refine SOps.off rfl (wantX (c := false) rfl rfl rfl rfl) ?_
      refine SOps.val (v := .bool false) rfl (wantN rfl) (fun w => ev_pickF (v := .bool false) rfl (t := false) rfl rfl rfl w) ?_
      refine SOps.val (v := .bool false) rfl (wantN rfl) (fun _ => by kernel_rfl) ?_
      refine SOps.nil ?_
      obtain ⟨Hr, hr, h⟩ := h
      exact SW.ret (retQ.mk (.bool false) (res1 rfl rfl) hr ⟨false, rfl, h⟩)
  · replace h := h.2 c19
    have dc19 : (x15 == x17) = false := (beq_eq_false_iff_ne.mpr c19)
    refine SOps.off rfl (wantX (c := (x15 == x17)) rfl rfl rfl dc19) ?_
    refine SOps.off rfl (wantX (c := (x15 == x17)) rfl rfl rfl dc19) ?_
    refine SOps.off rfl (wantX (c := (x15 == x17)) rfl rfl rfl dc19) ?_
    refine SOps.off rfl (wantX (c := (x15 == x17)) rfl rfl rfl dc19) ?_
    refine SOps.off rfl (wantX (c := (x15 == x17)) rfl rfl rfl dc19) ?_
    refine SOps.val (v := .bool false) rfl (wantN rfl) (fun w => ev_pickF (v := .bool false) rfl (t := (x15 == x17)) rfl dc19 rfl w) ?_
    refine SOps.val (v := .bool false) rfl (wantN rfl) (fun _ => by kernel_rfl) ?_
    refine SOps.off rfl (wantX (c := false) rfl rfl rfl rfl) ?_
    refine SOps.off rfl (wantX (c := false) rfl rfl rfl rfl) ?_
    refine SOps.off rfl (wantX (c := false) rfl rfl rfl rfl) ?_
    refine SOps.off rfl (wantX (c := false) rfl rfl rfl rfl) ?_
    refine SOps.off rfl (wantX (c := false) rfl rfl rfl rfl) ?_
    refine SOps.val (v := .bool false) rfl (wantN rfl) (fun w => ev_pickF (v := .bool false) rfl (t := false) rfl rfl rfl w) ?_
    refine SOps.val (v := .bool false) rfl (wantN rfl) (fun _ => by kernel_rfl) ?_
    refine SOps.off rfl (wantX (c := false) rfl rfl rfl rfl) ?_
    refine SOps.off rfl (wantX (c := false) rfl rfl rfl rfl) ?_
    refine SOps.off rfl (wantX (c := false) rfl rfl rfl rfl) ?_
    refine SOps.off rfl (wantX (c := false) rfl rfl rfl rfl) ?_
    refine SOps.off rfl (wantX (c := false) rfl rfl rfl rfl) ?_
    refine SOps.val (v := .bool false) rfl (wantN rfl) (fun w => ev_pickF (v := .bool false) rfl (t := false) rfl rfl rfl w) ?_
    refine SOps.val (v := .bool false) rfl (wantN rfl) (fun _ => by kernel_rfl) ?_
    refine SOps.off rfl (wantX (c := false) rfl rfl rfl rfl) ?_
    refine SOps.off rfl (wantX (c := false) rfl rfl rfl rfl) ?_
    refine SOps.off rfl (wantX (c := false) rfl rfl rfl rfl) ?_
    refine SOps.off rfl (wantX (c := false) rfl rfl rfl rfl) ?_
    refine SOps.off rfl (wantX (c := false) rfl rfl rfl rfl) ?_
    refine SOps.val (v := .bool false) rfl (wantN rfl) (fun w => ev_pickF (v := .bool false) rfl (t := false) rfl rfl rfl w) ?_
    refine SOps.val (v := .bool false) rfl (wantN rfl) (fun _ => by kernel_rfl) ?_
    refine SOps.nil ?_
    obtain ⟨Hr, hr, h⟩ := h
    exact SW.ret (retQ.mk (.bool false) (res1 rfl rfl) hr ⟨false, rfl, h⟩)

end Go.Proofs.YtkfbmoekghbgbaaDoor.K
