import Derived.Test.YtkfbmoekghbgbaaDoorGladingref09
import Derived.Test.YtkfbmoekghbgbaaDoorGladingref18
import Derived.Test.YtkfbmoekghbgbaaDoorGmsg
import Derived.Test.YtkfbmoekghbgbaaDoorApi2
import Derived.Test.YtkfbmoekghbgbaaDoorSatWrit
set_option linter.unusedVariables false
set_option linter.unusedSimpArgs false
set_option maxRecDepth 100000
namespace Go.Proofs.YtkfbmoekghbgbaaDoor.K
open Go
attribute [local irreducible] SW SOps SQ SCalls retQ

/-! ### lading/ladinglaw18.awake: function 20 -/
def ladinglaw18_awake.wp (F : Nat) (H : SH) (K : Bool → SH → Prop) : Prop :=
  msg_Put.wp F 2 1 0 ByteArray.empty Sl.nil H (fun s1 e2 H3 =>
    ((s1.size : Int) = 11 →
      (e2 = none →
        msg_Name.wp F 3 H3 (fun s6 H7 =>
          ∃ Hr, SH.le Hr H7 ∧ K (decide (s6 = (⟨#[66, 108, 111, 99, 107]⟩ : ByteArray))) Hr
        )
      ) ∧ (∀ v5, e2 = some v5 →
        ∃ Hr, SH.le Hr H3 ∧ K false Hr
      )
    ) ∧ (¬ ((s1.size : Int) = 11) →
      ∃ Hr, SH.le Hr H3 ∧ K false Hr
    )
  )
set_option maxHeartbeats 8000000 in
theorem ladinglaw18_awake.sound (F : Nat) (H : SH) (K : Bool → SH → Prop) (h : ladinglaw18_awake.wp F H K) : SCalls Tryd.prog 20 #[] H (fun v H' => ∃ (q9 : Bool), v = .bool q9 ∧ K q9 H') := by
  unfold ladinglaw18_awake.wp at h
  refine SCalls.body Tryd.func20 rfl (Nat.le_of_ble_eq_true rfl) ?_
  refine SW.seq ?_
  refine SW.region ?_
  refine SOps.val (v := .bool false) rfl (wantN rfl) (fun _ => by kernel_rfl) ?_
  refine SOps.nil ?_
  refine SW.seq ?_
  refine SW.region ?_
  refine SOps.val (v := .agg #[.int .i64 2, .int .i64 1, .int .i64 0, .string ByteArray.empty, sv Sl.nil]) rfl (wantN rfl) (fun _ => by kernel_rfl) ?_
  refine SOps.enter rfl (wantN rfl) (fun _ => by kernel_rfl) (msg_Put.sound F 2 1 0 ByteArray.empty Sl.nil H _ h) ?_
  clear h
  rintro v H3 ⟨s1, e2, rfl, h⟩
  refine SOps.val (v := .tuple #[.string s1, errV e2]) rfl (wantN rfl) (fun _ => by kernel_rfl) ?_
  refine SOps.val (v := .string s1) rfl (wantN rfl) (fun _ => by kernel_rfl) ?_
  refine SOps.val (v := errV e2) rfl (wantN rfl) (fun _ => by kernel_rfl) ?_
  refine SOps.val (v := .string s1) rfl (wantN rfl) (fun _ => by kernel_rfl) ?_
  refine SOps.val (v := errV e2) rfl (wantN rfl) (fun _ => by kernel_rfl) ?_
  refine SOps.nil ?_
  refine SW.seq ?_
  refine SW.region ?_
  refine SOps.val (v := .string s1) rfl (wantN rfl) (fun _ => by kernel_rfl) ?_
  refine SOps.val (v := .int .i64 (s1.size : Int)) rfl (wantN rfl) (fun _ => by kernel_rfl) ?_
  refine SOps.val (v := .bool ((s1.size : Int) == 11)) rfl (wantN rfl) (fun _ => by kernel_rfl) ?_
  refine SOps.val (v := .bool ((s1.size : Int) == 11)) rfl (wantN rfl) (fun _ => by kernel_rfl) ?_
  by_cases c4 : (s1.size : Int) = 11
  · replace h := h.1 c4
    have dc4 : ((s1.size : Int) == 11) = true := (beq_iff_eq.mpr c4)
    refine SOps.val (v := errV e2) rfl (wantY (c := ((s1.size : Int) == 11)) rfl rfl rfl dc4) (fun _ => by kernel_rfl) ?_
    rcases e2 with _ | v5
    · replace h := h.1 rfl
      refine SOps.val (v := .bool true) rfl (wantY (c := ((s1.size : Int) == 11)) rfl rfl rfl dc4) (fun w => ev_errEq (e := none) rfl Tryd.underlying31 rfl rfl w) ?_
      refine SOps.val (v := .bool true) rfl (wantN rfl) (fun w => ev_pickT (v := .bool true) rfl (t := ((s1.size : Int) == 11)) rfl dc4 rfl w) ?_
      refine SOps.val (v := .bool true) rfl (wantN rfl) (fun _ => by kernel_rfl) ?_
      refine SOps.enter rfl (wantY (c := true) rfl rfl rfl rfl) (fun _ => by kernel_rfl) (msg_Name.sound F 3 H3 _ h) ?_
      clear h
      rintro v H7 ⟨s6, rfl, h⟩
      refine SOps.val (v := .bool (decide (s6 = (⟨#[66, 108, 111, 99, 107]⟩ : ByteArray)))) rfl (wantY (c := true) rfl rfl rfl rfl) (fun w => ev_eqS rfl rfl rfl w) ?_
      refine SOps.val (v := .bool (decide (s6 = (⟨#[66, 108, 111, 99, 107]⟩ : ByteArray)))) rfl (wantN rfl) (fun w => ev_pickT (v := .bool (decide (s6 = (⟨#[66, 108, 111, 99, 107]⟩ : ByteArray)))) rfl (t := true) rfl rfl rfl w) ?_
      refine SOps.val (v := .bool (decide (s6 = (⟨#[66, 108, 111, 99, 107]⟩ : ByteArray)))) rfl (wantN rfl) (fun _ => by kernel_rfl) ?_
      refine SOps.nil ?_
      obtain ⟨Hr, hr, h⟩ := h
      exact SW.ret (retQ.mk (.bool (decide (s6 = (⟨#[66, 108, 111, 99, 107]⟩ : ByteArray)))) (res1 rfl rfl) hr ⟨decide (s6 = (⟨#[66, 108, 111, 99, 107]⟩ : ByteArray)), rfl, h⟩)
    · replace h := h.2 v5 rfl
      refine SOps.val (v := .bool false) rfl (wantY (c := ((s1.size : Int) == 11)) rfl rfl rfl dc4) (fun w => ev_errEq (e := some v5) rfl Tryd.underlying31 rfl rfl w) ?_
      refine SOps.val (v := .bool false) rfl (wantN rfl) (fun w => ev_pickT (v := .bool false) rfl (t := ((s1.size : Int) == 11)) rfl dc4 rfl w) ?_
      refine SOps.val (v := .bool false) rfl (wantN rfl) (fun _ => by kernel_rfl) ?_
      refine SOps.off rfl (wantX (c := false) rfl rfl rfl rfl) ?_
      refine SOps.off rfl (wantX (c := false) rfl rfl rfl rfl) ?_
      refine SOps.val (v := .bool false) rfl (wantN rfl) (fun w => ev_pickF (v := .bool false) rfl (t := false) rfl rfl rfl w) ?_
      refine SOps.val (v := .bool false) rfl (wantN rfl) (fun _ => by kernel_rfl) ?_
      refine SOps.nil ?_
      obtain ⟨Hr, hr, h⟩ := h
      exact SW.ret (retQ.mk (.bool false) (res1 rfl rfl) hr ⟨false, rfl, h⟩)
  · replace h := h.2 c4
    have dc4 : ((s1.size : Int) == 11) = false := (beq_eq_false_iff_ne.mpr c4)
    refine SOps.off rfl (wantX (c := ((s1.size : Int) == 11)) rfl rfl rfl dc4) ?_
    refine SOps.off rfl (wantX (c := ((s1.size : Int) == 11)) rfl rfl rfl dc4) ?_
    refine SOps.val (v := .bool false) rfl (wantN rfl) (fun w => ev_pickF (v := .bool false) rfl (t := ((s1.size : Int) == 11)) rfl dc4 rfl w) ?_
    refine SOps.val (v := .bool false) rfl (wantN rfl) (fun _ => by kernel_rfl) ?_
    refine SOps.off rfl (wantX (c := false) rfl rfl rfl rfl) ?_
    refine SOps.off rfl (wantX (c := false) rfl rfl rfl rfl) ?_
    refine SOps.val (v := .bool false) rfl (wantN rfl) (fun w => ev_pickF (v := .bool false) rfl (t := false) rfl rfl rfl w) ?_
    refine SOps.val (v := .bool false) rfl (wantN rfl) (fun _ => by kernel_rfl) ?_
    refine SOps.nil ?_
    obtain ⟨Hr, hr, h⟩ := h
    exact SW.ret (retQ.mk (.bool false) (res1 rfl rfl) hr ⟨false, rfl, h⟩)

/-! ### lading/ladinglaw18.same: function 22 -/
def ladinglaw18_same.wp (F : Nat) (x1 : Int) (x2 : Int) (x3 : Int) (s4 : ByteArray) (l5 : Sl) (x6 : Int) (x7 : Int) (x8 : Int) (s9 : ByteArray) (l10 : Sl) (H : SH) (K : Bool → SH → Prop) : Prop :=
  ∀ b11, H b11 = none →
  ∀ b13, (SH.upd H b11 ⟨[.int .i64 x1, .int .i64 x2, .int .i64 x3, .string s4, sv l5], 53, false, 5⟩) b13 = none →
  ∃ (x15 : Int),
  SH.has (SH.upd (SH.upd H b11 ⟨[.int .i64 x1, .int .i64 x2, .int .i64 x3, .string s4, sv l5], 53, false, 5⟩) b13 ⟨[.int .i64 x6, .int .i64 x7, .int .i64 x8, .string s9, sv l10], 53, false, 5⟩) (b11, 0) (.int .i64 x15) ∧
  ∃ (x17 : Int),
  SH.has (SH.upd (SH.upd H b11 ⟨[.int .i64 x1, .int .i64 x2, .int .i64 x3, .string s4, sv l5], 53, false, 5⟩) b13 ⟨[.int .i64 x6, .int .i64 x7, .int .i64 x8, .string s9, sv l10], 53, false, 5⟩) (b13, 0) (.int .i64 x17) ∧
  (x15 = x17 →
    ∃ (x20 : Int),
    SH.has (SH.upd (SH.upd H b11 ⟨[.int .i64 x1, .int .i64 x2, .int .i64 x3, .string s4, sv l5], 53, false, 5⟩) b13 ⟨[.int .i64 x6, .int .i64 x7, .int .i64 x8, .string s9, sv l10], 53, false, 5⟩) (b11, 1) (.int .i64 x20) ∧
    ∃ (x22 : Int),
    SH.has (SH.upd (SH.upd H b11 ⟨[.int .i64 x1, .int .i64 x2, .int .i64 x3, .string s4, sv l5], 53, false, 5⟩) b13 ⟨[.int .i64 x6, .int .i64 x7, .int .i64 x8, .string s9, sv l10], 53, false, 5⟩) (b13, 1) (.int .i64 x22) ∧
    (x20 = x22 →
      ∃ (x25 : Int),
      SH.has (SH.upd (SH.upd H b11 ⟨[.int .i64 x1, .int .i64 x2, .int .i64 x3, .string s4, sv l5], 53, false, 5⟩) b13 ⟨[.int .i64 x6, .int .i64 x7, .int .i64 x8, .string s9, sv l10], 53, false, 5⟩) (b11, 2) (.int .i64 x25) ∧
      ∃ (x27 : Int),
      SH.has (SH.upd (SH.upd H b11 ⟨[.int .i64 x1, .int .i64 x2, .int .i64 x3, .string s4, sv l5], 53, false, 5⟩) b13 ⟨[.int .i64 x6, .int .i64 x7, .int .i64 x8, .string s9, sv l10], 53, false, 5⟩) (b13, 2) (.int .i64 x27) ∧
      (x25 = x27 →
        ∃ (s30 : ByteArray),
        SH.has (SH.upd (SH.upd H b11 ⟨[.int .i64 x1, .int .i64 x2, .int .i64 x3, .string s4, sv l5], 53, false, 5⟩) b13 ⟨[.int .i64 x6, .int .i64 x7, .int .i64 x8, .string s9, sv l10], 53, false, 5⟩) (b11, 3) (.string s30) ∧
        ∃ (s32 : ByteArray),
        SH.has (SH.upd (SH.upd H b11 ⟨[.int .i64 x1, .int .i64 x2, .int .i64 x3, .string s4, sv l5], 53, false, 5⟩) b13 ⟨[.int .i64 x6, .int .i64 x7, .int .i64 x8, .string s9, sv l10], 53, false, 5⟩) (b13, 3) (.string s32) ∧
        (s30 = s32 →
          ∃ (l35 : Sl),
          SH.has (SH.upd (SH.upd H b11 ⟨[.int .i64 x1, .int .i64 x2, .int .i64 x3, .string s4, sv l5], 53, false, 5⟩) b13 ⟨[.int .i64 x6, .int .i64 x7, .int .i64 x8, .string s9, sv l10], 53, false, 5⟩) (b11, 4) (sv l35) ∧
          ∃ (l37 : Sl),
          SH.has (SH.upd (SH.upd H b11 ⟨[.int .i64 x1, .int .i64 x2, .int .i64 x3, .string s4, sv l5], 53, false, 5⟩) b13 ⟨[.int .i64 x6, .int .i64 x7, .int .i64 x8, .string s9, sv l10], 53, false, 5⟩) (b13, 4) (sv l37) ∧
          ladingref09_Same.wp F l35 l37 (SH.upd (SH.upd H b11 ⟨[.int .i64 x1, .int .i64 x2, .int .i64 x3, .string s4, sv l5], 53, false, 5⟩) b13 ⟨[.int .i64 x6, .int .i64 x7, .int .i64 x8, .string s9, sv l10], 53, false, 5⟩) (fun q39 H40 =>
            ∃ Hr, SH.le Hr H40 ∧ K q39 Hr
          )
        ) ∧ (¬ (s30 = s32) →
          ∃ Hr, SH.le Hr (SH.upd (SH.upd H b11 ⟨[.int .i64 x1, .int .i64 x2, .int .i64 x3, .string s4, sv l5], 53, false, 5⟩) b13 ⟨[.int .i64 x6, .int .i64 x7, .int .i64 x8, .string s9, sv l10], 53, false, 5⟩) ∧ K false Hr
        )
      ) ∧ (¬ (x25 = x27) →
        ∃ Hr, SH.le Hr (SH.upd (SH.upd H b11 ⟨[.int .i64 x1, .int .i64 x2, .int .i64 x3, .string s4, sv l5], 53, false, 5⟩) b13 ⟨[.int .i64 x6, .int .i64 x7, .int .i64 x8, .string s9, sv l10], 53, false, 5⟩) ∧ K false Hr
      )
    ) ∧ (¬ (x20 = x22) →
      ∃ Hr, SH.le Hr (SH.upd (SH.upd H b11 ⟨[.int .i64 x1, .int .i64 x2, .int .i64 x3, .string s4, sv l5], 53, false, 5⟩) b13 ⟨[.int .i64 x6, .int .i64 x7, .int .i64 x8, .string s9, sv l10], 53, false, 5⟩) ∧ K false Hr
    )
  ) ∧ (¬ (x15 = x17) →
    ∃ Hr, SH.le Hr (SH.upd (SH.upd H b11 ⟨[.int .i64 x1, .int .i64 x2, .int .i64 x3, .string s4, sv l5], 53, false, 5⟩) b13 ⟨[.int .i64 x6, .int .i64 x7, .int .i64 x8, .string s9, sv l10], 53, false, 5⟩) ∧ K false Hr
  )
set_option maxHeartbeats 8000000 in
theorem ladinglaw18_same.sound (F : Nat) (x1 : Int) (x2 : Int) (x3 : Int) (s4 : ByteArray) (l5 : Sl) (x6 : Int) (x7 : Int) (x8 : Int) (s9 : ByteArray) (l10 : Sl) (H : SH) (K : Bool → SH → Prop) (h : ladinglaw18_same.wp F x1 x2 x3 s4 l5 x6 x7 x8 s9 l10 H K) : SCalls Tryd.prog 22 #[.agg #[.int .i64 x1, .int .i64 x2, .int .i64 x3, .string s4, sv l5], .agg #[.int .i64 x6, .int .i64 x7, .int .i64 x8, .string s9, sv l10]] H (fun v H' => ∃ (q42 : Bool), v = .bool q42 ∧ K q42 H') := by
  unfold ladinglaw18_same.wp at h
  refine SCalls.body Tryd.func22 rfl (Nat.le_of_ble_eq_true rfl) ?_
  refine SW.seq ?_
  refine SW.region ?_
  refine SOps.box rfl rfl (wantN rfl) (v := .agg #[.int .i64 x1, .int .i64 x2, .int .i64 x3, .string s4, sv l5]) rfl (fun b11 c12 => ?_)
  replace h := h b11 c12
  refine SOps.box rfl rfl (wantN rfl) (v := .agg #[.int .i64 x6, .int .i64 x7, .int .i64 x8, .string s9, sv l10]) rfl (fun b13 c14 => ?_)
  replace h := h b13 c14
  refine SOps.val (v := .bool false) rfl (wantN rfl) (fun _ => by kernel_rfl) ?_
  refine SOps.nil ?_
  refine SW.seq ?_
  refine SW.region ?_
  refine SOps.val (v := pv (some (b11, 0))) rfl (wantN rfl) (fun _ => by kernel_rfl) ?_
  obtain ⟨x15, c16, h⟩ := h
  refine SOps.rd (v := .int .i64 x15) rfl (wantN rfl) (fun w hw => ev_load1 rfl (fun _ => by kernel_rfl) (p := (b11, 0)) rfl c16 w hw) ?_
  refine SOps.val (v := pv (some (b13, 0))) rfl (wantN rfl) (fun _ => by kernel_rfl) ?_
  obtain ⟨x17, c18, h⟩ := h
  refine SOps.rd (v := .int .i64 x17) rfl (wantN rfl) (fun w hw => ev_load1 rfl (fun _ => by kernel_rfl) (p := (b13, 0)) rfl c18 w hw) ?_
  refine SOps.val (v := .bool (x15 == x17)) rfl (wantN rfl) (fun _ => by kernel_rfl) ?_
  refine SOps.val (v := .bool (x15 == x17)) rfl (wantN rfl) (fun _ => by kernel_rfl) ?_
  by_cases c19 : x15 = x17
  · replace h := h.1 c19
    have dc19 : (x15 == x17) = true := (beq_iff_eq.mpr c19)
    refine SOps.val (v := pv (some (b11, 1))) rfl (wantY (c := (x15 == x17)) rfl rfl rfl dc19) (fun _ => by kernel_rfl) ?_
    obtain ⟨x20, c21, h⟩ := h
    refine SOps.rd (v := .int .i64 x20) rfl (wantY (c := (x15 == x17)) rfl rfl rfl dc19) (fun w hw => ev_load1 rfl (fun _ => by kernel_rfl) (p := (b11, 1)) rfl c21 w hw) ?_
    refine SOps.val (v := pv (some (b13, 1))) rfl (wantY (c := (x15 == x17)) rfl rfl rfl dc19) (fun _ => by kernel_rfl) ?_
    obtain ⟨x22, c23, h⟩ := h
    refine SOps.rd (v := .int .i64 x22) rfl (wantY (c := (x15 == x17)) rfl rfl rfl dc19) (fun w hw => ev_load1 rfl (fun _ => by kernel_rfl) (p := (b13, 1)) rfl c23 w hw) ?_
    refine SOps.val (v := .bool (x20 == x22)) rfl (wantY (c := (x15 == x17)) rfl rfl rfl dc19) (fun _ => by kernel_rfl) ?_
    refine SOps.val (v := .bool (x20 == x22)) rfl (wantN rfl) (fun w => ev_pickT (v := .bool (x20 == x22)) rfl (t := (x15 == x17)) rfl dc19 rfl w) ?_
    refine SOps.val (v := .bool (x20 == x22)) rfl (wantN rfl) (fun _ => by kernel_rfl) ?_
    by_cases c24 : x20 = x22
    · replace h := h.1 c24
      have dc24 : (x20 == x22) = true := (beq_iff_eq.mpr c24)
      refine SOps.val (v := pv (some (b11, 2))) rfl (wantY (c := (x20 == x22)) rfl rfl rfl dc24) (fun _ => by kernel_rfl) ?_
      obtain ⟨x25, c26, h⟩ := h
      refine SOps.rd (v := .int .i64 x25) rfl (wantY (c := (x20 == x22)) rfl rfl rfl dc24) (fun w hw => ev_load1 rfl (fun _ => by kernel_rfl) (p := (b11, 2)) rfl c26 w hw) ?_
      refine SOps.val (v := pv (some (b13, 2))) rfl (wantY (c := (x20 == x22)) rfl rfl rfl dc24) (fun _ => by kernel_rfl) ?_
      obtain ⟨x27, c28, h⟩ := h
      refine SOps.rd (v := .int .i64 x27) rfl (wantY (c := (x20 == x22)) rfl rfl rfl dc24) (fun w hw => ev_load1 rfl (fun _ => by kernel_rfl) (p := (b13, 2)) rfl c28 w hw) ?_
      refine SOps.val (v := .bool (x25 == x27)) rfl (wantY (c := (x20 == x22)) rfl rfl rfl dc24) (fun _ => by kernel_rfl) ?_
      refine SOps.val (v := .bool (x25 == x27)) rfl (wantN rfl) (fun w => ev_pickT (v := .bool (x25 == x27)) rfl (t := (x20 == x22)) rfl dc24 rfl w) ?_
      refine SOps.val (v := .bool (x25 == x27)) rfl (wantN rfl) (fun _ => by kernel_rfl) ?_
      by_cases c29 : x25 = x27
      · replace h := h.1 c29
        have dc29 : (x25 == x27) = true := (beq_iff_eq.mpr c29)
        refine SOps.val (v := pv (some (b11, 3))) rfl (wantY (c := (x25 == x27)) rfl rfl rfl dc29) (fun _ => by kernel_rfl) ?_
        obtain ⟨s30, c31, h⟩ := h
        refine SOps.rd (v := .string s30) rfl (wantY (c := (x25 == x27)) rfl rfl rfl dc29) (fun w hw => ev_load1 rfl (fun _ => by kernel_rfl) (p := (b11, 3)) rfl c31 w hw) ?_
        refine SOps.val (v := pv (some (b13, 3))) rfl (wantY (c := (x25 == x27)) rfl rfl rfl dc29) (fun _ => by kernel_rfl) ?_
        obtain ⟨s32, c33, h⟩ := h
        refine SOps.rd (v := .string s32) rfl (wantY (c := (x25 == x27)) rfl rfl rfl dc29) (fun w hw => ev_load1 rfl (fun _ => by kernel_rfl) (p := (b13, 3)) rfl c33 w hw) ?_
        refine SOps.val (v := .bool (decide (s30 = s32))) rfl (wantY (c := (x25 == x27)) rfl rfl rfl dc29) (fun w => ev_eqS rfl rfl rfl w) ?_
        refine SOps.val (v := .bool (decide (s30 = s32))) rfl (wantN rfl) (fun w => ev_pickT (v := .bool (decide (s30 = s32))) rfl (t := (x25 == x27)) rfl dc29 rfl w) ?_
        refine SOps.val (v := .bool (decide (s30 = s32))) rfl (wantN rfl) (fun _ => by kernel_rfl) ?_
        by_cases c34 : s30 = s32
        · replace h := h.1 c34
          have dc34 : (decide (s30 = s32)) = true := (decide_eq_true c34)
          refine SOps.val (v := pv (some (b11, 4))) rfl (wantY (c := decide (s30 = s32)) rfl rfl rfl dc34) (fun _ => by kernel_rfl) ?_
          obtain ⟨l35, c36, h⟩ := h
          refine SOps.rd (v := sv l35) rfl (wantY (c := decide (s30 = s32)) rfl rfl rfl dc34) (fun w hw => ev_load1 rfl (fun _ => by kernel_rfl) (p := (b11, 4)) rfl c36 w hw) ?_
          refine SOps.val (v := pv (some (b13, 4))) rfl (wantY (c := decide (s30 = s32)) rfl rfl rfl dc34) (fun _ => by kernel_rfl) ?_
          obtain ⟨l37, c38, h⟩ := h
          refine SOps.rd (v := sv l37) rfl (wantY (c := decide (s30 = s32)) rfl rfl rfl dc34) (fun w hw => ev_load1 rfl (fun _ => by kernel_rfl) (p := (b13, 4)) rfl c38 w hw) ?_
          refine SOps.enter rfl (wantY (c := decide (s30 = s32)) rfl rfl rfl dc34) (fun _ => by kernel_rfl) (ladingref09_Same.sound F l35 l37 (SH.upd (SH.upd H b11 ⟨[.int .i64 x1, .int .i64 x2, .int .i64 x3, .string s4, sv l5], 53, false, 5⟩) b13 ⟨[.int .i64 x6, .int .i64 x7, .int .i64 x8, .string s9, sv l10], 53, false, 5⟩) _ h) ?_
          clear h
          rintro v H40 ⟨q39, rfl, h⟩
          refine SOps.val (v := .bool q39) rfl (wantN rfl) (fun w => ev_pickT (v := .bool q39) rfl (t := decide (s30 = s32)) rfl dc34 rfl w) ?_
          refine SOps.val (v := .bool q39) rfl (wantN rfl) (fun _ => by kernel_rfl) ?_
          refine SOps.nil ?_
          obtain ⟨Hr, hr, h⟩ := h
          exact SW.ret (retQ.mk (.bool q39) (res1 rfl rfl) hr ⟨q39, rfl, h⟩)
        · replace h := h.2 c34
          have dc34 : (decide (s30 = s32)) = false := (decide_eq_false c34)
          refine SOps.off rfl (wantX (c := decide (s30 = s32)) rfl rfl rfl dc34) ?_
          refine SOps.off rfl (wantX (c := decide (s30 = s32)) rfl rfl rfl dc34) ?_
          refine SOps.off rfl (wantX (c := decide (s30 = s32)) rfl rfl rfl dc34) ?_
          refine SOps.off rfl (wantX (c := decide (s30 = s32)) rfl rfl rfl dc34) ?_
          refine SOps.off rfl (wantX (c := decide (s30 = s32)) rfl rfl rfl dc34) ?_
          refine SOps.val (v := .bool false) rfl (wantN rfl) (fun w => ev_pickF (v := .bool false) rfl (t := decide (s30 = s32)) rfl dc34 rfl w) ?_
          refine SOps.val (v := .bool false) rfl (wantN rfl) (fun _ => by kernel_rfl) ?_
          refine SOps.nil ?_
          obtain ⟨Hr, hr, h⟩ := h
          exact SW.ret (retQ.mk (.bool false) (res1 rfl rfl) hr ⟨false, rfl, h⟩)
      · replace h := h.2 c29
        have dc29 : (x25 == x27) = false := (beq_eq_false_iff_ne.mpr c29)
        refine SOps.off rfl (wantX (c := (x25 == x27)) rfl rfl rfl dc29) ?_
        refine SOps.off rfl (wantX (c := (x25 == x27)) rfl rfl rfl dc29) ?_
        refine SOps.off rfl (wantX (c := (x25 == x27)) rfl rfl rfl dc29) ?_
        refine SOps.off rfl (wantX (c := (x25 == x27)) rfl rfl rfl dc29) ?_
        refine SOps.off rfl (wantX (c := (x25 == x27)) rfl rfl rfl dc29) ?_
        refine SOps.val (v := .bool false) rfl (wantN rfl) (fun w => ev_pickF (v := .bool false) rfl (t := (x25 == x27)) rfl dc29 rfl w) ?_
        refine SOps.val (v := .bool false) rfl (wantN rfl) (fun _ => by kernel_rfl) ?_
        refine SOps.off rfl (wantX (c := false) rfl rfl rfl rfl) ?_
        refine SOps.off rfl (wantX (c := false) rfl rfl rfl rfl) ?_
        refine SOps.off rfl (wantX (c := false) rfl rfl rfl rfl) ?_
        refine SOps.off rfl (wantX (c := false) rfl rfl rfl rfl) ?_
        refine SOps.off rfl (wantX (c := false) rfl rfl rfl rfl) ?_
        refine SOps.val (v := .bool false) rfl (wantN rfl) (fun w => ev_pickF (v := .bool false) rfl (t := false) rfl rfl rfl w) ?_
        refine SOps.val (v := .bool false) rfl (wantN rfl) (fun _ => by kernel_rfl) ?_
        refine SOps.nil ?_
        obtain ⟨Hr, hr, h⟩ := h
        exact SW.ret (retQ.mk (.bool false) (res1 rfl rfl) hr ⟨false, rfl, h⟩)
    · replace h := h.2 c24
      have dc24 : (x20 == x22) = false := (beq_eq_false_iff_ne.mpr c24)
      refine SOps.off rfl (wantX (c := (x20 == x22)) rfl rfl rfl dc24) ?_
      refine SOps.off rfl (wantX (c := (x20 == x22)) rfl rfl rfl dc24) ?_
      refine SOps.off rfl (wantX (c := (x20 == x22)) rfl rfl rfl dc24) ?_
      refine SOps.off rfl (wantX (c := (x20 == x22)) rfl rfl rfl dc24) ?_
      refine SOps.off rfl (wantX (c := (x20 == x22)) rfl rfl rfl dc24) ?_
      refine SOps.val (v := .bool false) rfl (wantN rfl) (fun w => ev_pickF (v := .bool false) rfl (t := (x20 == x22)) rfl dc24 rfl w) ?_
      refine SOps.val (v := .bool false) rfl (wantN rfl) (fun _ => by kernel_rfl) ?_
      refine SOps.off rfl (wantX (c := false) rfl rfl rfl rfl) ?_
      refine SOps.off rfl (wantX (c := false) rfl rfl rfl rfl) ?_
      refine SOps.off rfl (wantX (c := false) rfl rfl rfl rfl) ?_
      refine SOps.off rfl (wantX (c := false) rfl rfl rfl rfl) ?_
      refine SOps.off rfl (wantX (c := false) rfl rfl rfl rfl) ?_
      refine SOps.val (v := .bool false) rfl (wantN rfl) (fun w => ev_pickF (v := .bool false) rfl (t := false) rfl rfl rfl w) ?_
      refine SOps.val (v := .bool false) rfl (wantN rfl) (fun _ => by kernel_rfl) ?_
      refine SOps.off rfl (wantX (c := false) rfl rfl rfl rfl) ?_
      refine SOps.off rfl (wantX (c := false) rfl rfl rfl rfl) ?_
      refine SOps.off rfl (wantX (c := false) rfl rfl rfl rfl) ?_
      refine SOps.off rfl (wantX (c := false) rfl rfl rfl rfl) ?_
      refine SOps.off rfl (wantX (c := false) rfl rfl rfl rfl) ?_
      refine SOps.val (v := .bool false) rfl (wantN rfl) (fun w => ev_pickF (v := .bool false) rfl (t := false) rfl rfl rfl w) ?_
      refine SOps.val (v := .bool false) rfl (wantN rfl) (fun _ => by kernel_rfl) ?_
      refine SOps.nil ?_
      obtain ⟨Hr, hr, h⟩ := h
      exact SW.ret (retQ.mk (.bool false) (res1 rfl rfl) hr ⟨false, rfl, h⟩)
  · replace h := h.2 c19
    have dc19 : (x15 == x17) = false := (beq_eq_false_iff_ne.mpr c19)
    refine SOps.off rfl (wantX (c := (x15 == x17)) rfl rfl rfl dc19) ?_
    refine SOps.off rfl (wantX (c := (x15 == x17)) rfl rfl rfl dc19) ?_
    refine SOps.off rfl (wantX (c := (x15 == x17)) rfl rfl rfl dc19) ?_
    refine SOps.off rfl (wantX (c := (x15 == x17)) rfl rfl rfl dc19) ?_
    refine SOps.off rfl (wantX (c := (x15 == x17)) rfl rfl rfl dc19) ?_
    refine SOps.val (v := .bool false) rfl (wantN rfl) (fun w => ev_pickF (v := .bool false) rfl (t := (x15 == x17)) rfl dc19 rfl w) ?_
    refine SOps.val (v := .bool false) rfl (wantN rfl) (fun _ => by kernel_rfl) ?_
    refine SOps.off rfl (wantX (c := false) rfl rfl rfl rfl) ?_
    refine SOps.off rfl (wantX (c := false) rfl rfl rfl rfl) ?_
    refine SOps.off rfl (wantX (c := false) rfl rfl rfl rfl) ?_
    refine SOps.off rfl (wantX (c := false) rfl rfl rfl rfl) ?_
    refine SOps.off rfl (wantX (c := false) rfl rfl rfl rfl) ?_
    refine SOps.val (v := .bool false) rfl (wantN rfl) (fun w => ev_pickF (v := .bool false) rfl (t := false) rfl rfl rfl w) ?_
    refine SOps.val (v := .bool false) rfl (wantN rfl) (fun _ => by kernel_rfl) ?_
    refine SOps.off rfl (wantX (c := false) rfl rfl rfl rfl) ?_
    refine SOps.off rfl (wantX (c := false) rfl rfl rfl rfl) ?_
    refine SOps.off rfl (wantX (c := false) rfl rfl rfl rfl) ?_
    refine SOps.off rfl (wantX (c := false) rfl rfl rfl rfl) ?_
    refine SOps.off rfl (wantX (c := false) rfl rfl rfl rfl) ?_
    refine SOps.val (v := .bool false) rfl (wantN rfl) (fun w => ev_pickF (v := .bool false) rfl (t := false) rfl rfl rfl w) ?_
    refine SOps.val (v := .bool false) rfl (wantN rfl) (fun _ => by kernel_rfl) ?_
    refine SOps.off rfl (wantX (c := false) rfl rfl rfl rfl) ?_
    refine SOps.off rfl (wantX (c := false) rfl rfl rfl rfl) ?_
    refine SOps.off rfl (wantX (c := false) rfl rfl rfl rfl) ?_
    refine SOps.off rfl (wantX (c := false) rfl rfl rfl rfl) ?_
    refine SOps.off rfl (wantX (c := false) rfl rfl rfl rfl) ?_
    refine SOps.val (v := .bool false) rfl (wantN rfl) (fun w => ev_pickF (v := .bool false) rfl (t := false) rfl rfl rfl w) ?_
    refine SOps.val (v := .bool false) rfl (wantN rfl) (fun _ => by kernel_rfl) ?_
    refine SOps.nil ?_
    obtain ⟨Hr, hr, h⟩ := h
    exact SW.ret (retQ.mk (.bool false) (res1 rfl rfl) hr ⟨false, rfl, h⟩)

/-! ### lading/ladinglaw18.parts: function 25 -/
def ladinglaw18_parts.wp (F : Nat) (x1 : Int) (x2 : Int) (x3 : Int) (s4 : ByteArray) (l5 : Sl) (H : SH) (K : Int → Int → Int → ByteArray → Sl → SH → Prop) : Prop :=
  ∀ b6, H b6 = none →
  ∀ b8, (SH.upd H b6 ⟨[.int .i64 x1, .int .i64 x2, .int .i64 x3, .string s4, sv l5], 53, false, 5⟩) b8 = none →
  ∃ (x10 : Int),
  SH.has (SH.upd (SH.upd H b6 ⟨[.int .i64 x1, .int .i64 x2, .int .i64 x3, .string s4, sv l5], 53, false, 5⟩) b8 ⟨[.int .i64 0, .int .i64 0, .int .i64 0, .string ByteArray.empty, sv Sl.nil], 58, false, 5⟩) (b6, 0) (.int .i64 x10) ∧
  ∃ (x12 : Int),
  SH.has (SH.upd (SH.upd H b6 ⟨[.int .i64 x1, .int .i64 x2, .int .i64 x3, .string s4, sv l5], 53, false, 5⟩) b8 ⟨[.int .i64 0, .int .i64 0, .int .i64 0, .string ByteArray.empty, sv Sl.nil], 58, false, 5⟩) (b6, 1) (.int .i64 x12) ∧
  ∃ (x14 : Int),
  SH.has (SH.upd (SH.upd H b6 ⟨[.int .i64 x1, .int .i64 x2, .int .i64 x3, .string s4, sv l5], 53, false, 5⟩) b8 ⟨[.int .i64 0, .int .i64 0, .int .i64 0, .string ByteArray.empty, sv Sl.nil], 58, false, 5⟩) (b6, 2) (.int .i64 x14) ∧
  ∃ (s16 : ByteArray),
  SH.has (SH.upd (SH.upd H b6 ⟨[.int .i64 x1, .int .i64 x2, .int .i64 x3, .string s4, sv l5], 53, false, 5⟩) b8 ⟨[.int .i64 0, .int .i64 0, .int .i64 0, .string ByteArray.empty, sv Sl.nil], 58, false, 5⟩) (b6, 3) (.string s16) ∧
  ∃ (l18 : Sl),
  SH.has (SH.upd (SH.upd H b6 ⟨[.int .i64 x1, .int .i64 x2, .int .i64 x3, .string s4, sv l5], 53, false, 5⟩) b8 ⟨[.int .i64 0, .int .i64 0, .int .i64 0, .string ByteArray.empty, sv Sl.nil], 58, false, 5⟩) (b6, 4) (sv l18) ∧
  SH.wrs (SH.upd (SH.upd H b6 ⟨[.int .i64 x1, .int .i64 x2, .int .i64 x3, .string s4, sv l5], 53, false, 5⟩) b8 ⟨[.int .i64 0, .int .i64 0, .int .i64 0, .string ByteArray.empty, sv Sl.nil], 58, false, 5⟩) (b8, 0) 5 ∧
  ∃ (x21 : Int) (x22 : Int) (x23 : Int) (s24 : ByteArray) (l25 : Sl),
  SH.row (SH.setl (SH.upd (SH.upd H b6 ⟨[.int .i64 x1, .int .i64 x2, .int .i64 x3, .string s4, sv l5], 53, false, 5⟩) b8 ⟨[.int .i64 0, .int .i64 0, .int .i64 0, .string ByteArray.empty, sv Sl.nil], 58, false, 5⟩) (b8, 0) [.int .i64 x10, .int .i64 x12, .int .i64 x14, .string s16, sv l18]) (some (b8, 0)) [.int .i64 x21, .int .i64 x22, .int .i64 x23, .string s24, sv l25] ∧
  ∃ Hr, SH.le Hr (SH.setl (SH.upd (SH.upd H b6 ⟨[.int .i64 x1, .int .i64 x2, .int .i64 x3, .string s4, sv l5], 53, false, 5⟩) b8 ⟨[.int .i64 0, .int .i64 0, .int .i64 0, .string ByteArray.empty, sv Sl.nil], 58, false, 5⟩) (b8, 0) [.int .i64 x10, .int .i64 x12, .int .i64 x14, .string s16, sv l18]) ∧ K x21 x22 x23 s24 l25 Hr
set_option maxHeartbeats 8000000 in
theorem ladinglaw18_parts.sound (F : Nat) (x1 : Int) (x2 : Int) (x3 : Int) (s4 : ByteArray) (l5 : Sl) (H : SH) (K : Int → Int → Int → ByteArray → Sl → SH → Prop) (h : ladinglaw18_parts.wp F x1 x2 x3 s4 l5 H K) : SCalls Tryd.prog 25 #[.agg #[.int .i64 x1, .int .i64 x2, .int .i64 x3, .string s4, sv l5]] H (fun v H' => ∃ (x32 : Int) (x33 : Int) (x34 : Int) (s35 : ByteArray) (l36 : Sl), v = .agg #[.int .i64 x32, .int .i64 x33, .int .i64 x34, .string s35, sv l36] ∧ K x32 x33 x34 s35 l36 H') := by
  unfold ladinglaw18_parts.wp at h
  refine SCalls.body Tryd.func25 rfl (Nat.le_of_ble_eq_true rfl) ?_
  refine SW.seq ?_
  refine SW.region ?_
  refine SOps.box rfl rfl (wantN rfl) (v := .agg #[.int .i64 x1, .int .i64 x2, .int .i64 x3, .string s4, sv l5]) rfl (fun b6 c7 => ?_)
  replace h := h b6 c7
  refine SOps.alloc rfl rfl (wantN rfl) (z := .agg #[.int .i64 0, .int .i64 0, .int .i64 0, .string ByteArray.empty, sv Sl.nil]) (by kernel_rfl) (fun b8 c9 => ?_)
  replace h := h b8 c9
  refine SOps.nil ?_
  refine SW.seq ?_
  refine SW.region ?_
  refine SOps.val (v := pv (some (b6, 0))) rfl (wantN rfl) (fun _ => by kernel_rfl) ?_
  obtain ⟨x10, c11, h⟩ := h
  refine SOps.rd (v := .int .i64 x10) rfl (wantN rfl) (fun w hw => ev_load1 rfl (fun _ => by kernel_rfl) (p := (b6, 0)) rfl c11 w hw) ?_
  refine SOps.val (v := pv (some (b6, 1))) rfl (wantN rfl) (fun _ => by kernel_rfl) ?_
  obtain ⟨x12, c13, h⟩ := h
  refine SOps.rd (v := .int .i64 x12) rfl (wantN rfl) (fun w hw => ev_load1 rfl (fun _ => by kernel_rfl) (p := (b6, 1)) rfl c13 w hw) ?_
  refine SOps.val (v := pv (some (b6, 2))) rfl (wantN rfl) (fun _ => by kernel_rfl) ?_
  obtain ⟨x14, c15, h⟩ := h
  refine SOps.rd (v := .int .i64 x14) rfl (wantN rfl) (fun w hw => ev_load1 rfl (fun _ => by kernel_rfl) (p := (b6, 2)) rfl c15 w hw) ?_
  refine SOps.val (v := pv (some (b6, 3))) rfl (wantN rfl) (fun _ => by kernel_rfl) ?_
  obtain ⟨s16, c17, h⟩ := h
  refine SOps.rd (v := .string s16) rfl (wantN rfl) (fun w hw => ev_load1 rfl (fun _ => by kernel_rfl) (p := (b6, 3)) rfl c17 w hw) ?_
  refine SOps.val (v := pv (some (b6, 4))) rfl (wantN rfl) (fun _ => by kernel_rfl) ?_
  obtain ⟨l18, c19, h⟩ := h
  refine SOps.rd (v := sv l18) rfl (wantN rfl) (fun w hw => ev_load1 rfl (fun _ => by kernel_rfl) (p := (b6, 4)) rfl c19 w hw) ?_
  refine SOps.val (v := .agg #[.int .i64 x10, .int .i64 x12, .int .i64 x14, .string s16, sv l18]) rfl (wantN rfl) (fun _ => by kernel_rfl) ?_
  obtain ⟨c20, h⟩ := h
  refine SOps.storeL (p := (b8, 0)) (v := .agg #[.int .i64 x10, .int .i64 x12, .int .i64 x14, .string s16, sv l18]) (cs := [.int .i64 x10, .int .i64 x12, .int .i64 x14, .string s16, sv l18]) rfl rfl (wantN rfl) (size := 5) (by kernel_rfl) rfl rfl rfl rfl (by simp [Value.oneCell', errV_one, pv, sv]) c20 ?_
  refine SOps.nil ?_
  obtain ⟨x21, x22, x23, s24, l25, c26, Hr, hr, h⟩ := h
  exact SW.ret (retQ.mkM (.agg #[.int .i64 x21, .int .i64 x22, .int .i64 x23, .string s24, sv l25]) (resCN (size := 5) (p := (b8, 0)) (T := 58) rfl rfl (fun _ => by kernel_rfl) (by kernel_rfl) rfl c26) hr ⟨x21, x22, x23, s24, l25, rfl, h⟩)

/-! ### lading/ladinglaw18.Great: function 27 -/
def ladinglaw18_Great.r1 (F : Nat) (K : Bool → SH → Prop) (R1 : Sl → Int → Int → SH → Prop) (l16 : Sl) (x17 : Int) (x18 : Int) (H : SH) : Prop :=
  (x18 < x17 →
    ∃ p20, l16.a = some p20 ∧ 0 ≤ x18 ∧ x18 < (l16.len : Int) ∧
    ∃ (s24 : ByteArray),
    SH.has H (p20.1, (p20.2 + x18.toNat * 1)) (.string s24) ∧
    ((s24.size : Int) > 100 →
      ∃ Hr, SH.le Hr H ∧ K true Hr
    ) ∧ (¬ ((s24.size : Int) > 100) →
      R1 l16 x17 (w64 (x18 + 1)) H
    )
  ) ∧ (¬ (x18 < x17) →
    ∃ Hr, SH.le Hr H ∧ K false Hr
  )
def ladinglaw18_Great.l1 (F : Nat) (K : Bool → SH → Prop) : Nat → Sl → Int → Int → SH → Prop
  | 0, _, _, _, _ => False
  | k + 1, l16, x17, x18, H => ladinglaw18_Great.r1 F K (ladinglaw18_Great.l1 F K k) l16 x17 x18 H
def ladinglaw18_Great.wp (F : Nat) (x1 : Int) (x2 : Int) (x3 : Int) (s4 : ByteArray) (l5 : Sl) (H : SH) (K : Bool → SH → Prop) : Prop :=
  ∀ b6, H b6 = none →
  ∃ (s8 : ByteArray),
  SH.has (SH.upd H b6 ⟨[.int .i64 x1, .int .i64 x2, .int .i64 x3, .string s4, sv l5], 53, false, 5⟩) (b6, 3) (.string s8) ∧
  ((s8.size : Int) > 6000 →
    ∃ Hr, SH.le Hr (SH.upd H b6 ⟨[.int .i64 x1, .int .i64 x2, .int .i64 x3, .string s4, sv l5], 53, false, 5⟩) ∧ K true Hr
  ) ∧ (¬ ((s8.size : Int) > 6000) →
    ∃ (l11 : Sl),
    SH.has (SH.upd H b6 ⟨[.int .i64 x1, .int .i64 x2, .int .i64 x3, .string s4, sv l5], 53, false, 5⟩) (b6, 4) (sv l11) ∧
    ((l11.len : Int) > 30 →
      ∃ Hr, SH.le Hr (SH.upd H b6 ⟨[.int .i64 x1, .int .i64 x2, .int .i64 x3, .string s4, sv l5], 53, false, 5⟩) ∧ K true Hr
    ) ∧ (¬ ((l11.len : Int) > 30) →
      ∃ (l14 : Sl),
      SH.has (SH.upd H b6 ⟨[.int .i64 x1, .int .i64 x2, .int .i64 x3, .string s4, sv l5], 53, false, 5⟩) (b6, 4) (sv l14) ∧
      ladinglaw18_Great.l1 F K F l14 (l14.len : Int) 0 (SH.upd H b6 ⟨[.int .i64 x1, .int .i64 x2, .int .i64 x3, .string s4, sv l5], 53, false, 5⟩)
    )
  )
set_option maxHeartbeats 8000000 in
theorem ladinglaw18_Great.sound (F : Nat) (x1 : Int) (x2 : Int) (x3 : Int) (s4 : ByteArray) (l5 : Sl) (H : SH) (K : Bool → SH → Prop) (h : ladinglaw18_Great.wp F x1 x2 x3 s4 l5 H K) : SCalls Tryd.prog 27 #[.agg #[.int .i64 x1, .int .i64 x2, .int .i64 x3, .string s4, sv l5]] H (fun v H' => ∃ (q30 : Bool), v = .bool q30 ∧ K q30 H') := by
  unfold ladinglaw18_Great.wp at h
  refine SCalls.body Tryd.func27 rfl (Nat.le_of_ble_eq_true rfl) ?_
  refine SW.seq ?_
  refine SW.region ?_
  refine SOps.box rfl rfl (wantN rfl) (v := .agg #[.int .i64 x1, .int .i64 x2, .int .i64 x3, .string s4, sv l5]) rfl (fun b6 c7 => ?_)
  replace h := h b6 c7
  refine SOps.val (v := .bool false) rfl (wantN rfl) (fun _ => by kernel_rfl) ?_
  refine SOps.nil ?_
  refine SW.seq ?_
  refine SW.seq ?_
  refine SW.region ?_
  refine SOps.val (v := pv (some (b6, 3))) rfl (wantN rfl) (fun _ => by kernel_rfl) ?_
  obtain ⟨s8, c9, h⟩ := h
  refine SOps.rd (v := .string s8) rfl (wantN rfl) (fun w hw => ev_load1 rfl (fun _ => by kernel_rfl) (p := (b6, 3)) rfl c9 w hw) ?_
  refine SOps.val (v := .int .i64 (s8.size : Int)) rfl (wantN rfl) (fun _ => by kernel_rfl) ?_
  refine SOps.val (v := .bool (decide ((s8.size : Int) > 6000))) rfl (wantN rfl) (fun _ => by kernel_rfl) ?_
  refine SOps.val (v := .bool (decide ((s8.size : Int) > 6000))) rfl (wantN rfl) (fun _ => by kernel_rfl) ?_
  by_cases c10 : (s8.size : Int) > 6000
  · replace h := h.1 c10
    have dc10 : (decide ((s8.size : Int) > 6000)) = true := (decide_eq_true c10)
    refine SOps.off rfl (wantX (c := decide ((s8.size : Int) > 6000)) rfl rfl rfl dc10) ?_
    refine SOps.off rfl (wantX (c := decide ((s8.size : Int) > 6000)) rfl rfl rfl dc10) ?_
    refine SOps.off rfl (wantX (c := decide ((s8.size : Int) > 6000)) rfl rfl rfl dc10) ?_
    refine SOps.off rfl (wantX (c := decide ((s8.size : Int) > 6000)) rfl rfl rfl dc10) ?_
    refine SOps.val (v := .bool true) rfl (wantN rfl) (fun w => ev_pickT (v := .bool true) rfl (t := decide ((s8.size : Int) > 6000)) rfl dc10 rfl w) ?_
    refine SOps.nil ?_
    refine SW.cond_t (t := true) rfl rfl ?_
    refine SW.seq ?_
    refine SW.region ?_
    refine SOps.val (v := .bool true) rfl (wantN rfl) (fun _ => by kernel_rfl) ?_
    refine SOps.nil ?_
    obtain ⟨Hr, hr, h⟩ := h
    exact SW.ret (retQ.mk (.bool true) (res1 rfl rfl) hr ⟨true, rfl, h⟩)
  · replace h := h.2 c10
    have dc10 : (decide ((s8.size : Int) > 6000)) = false := (decide_eq_false c10)
    refine SOps.val (v := pv (some (b6, 4))) rfl (wantY (c := decide ((s8.size : Int) > 6000)) rfl rfl rfl dc10) (fun _ => by kernel_rfl) ?_
    obtain ⟨l11, c12, h⟩ := h
    refine SOps.rd (v := sv l11) rfl (wantY (c := decide ((s8.size : Int) > 6000)) rfl rfl rfl dc10) (fun w hw => ev_load1 rfl (fun _ => by kernel_rfl) (p := (b6, 4)) rfl c12 w hw) ?_
    refine SOps.val (v := .int .i64 (l11.len : Int)) rfl (wantY (c := decide ((s8.size : Int) > 6000)) rfl rfl rfl dc10) (fun _ => by kernel_rfl) ?_
    refine SOps.val (v := .bool (decide ((l11.len : Int) > 30))) rfl (wantY (c := decide ((s8.size : Int) > 6000)) rfl rfl rfl dc10) (fun _ => by kernel_rfl) ?_
    refine SOps.val (v := .bool (decide ((l11.len : Int) > 30))) rfl (wantN rfl) (fun w => ev_pickF (v := .bool (decide ((l11.len : Int) > 30))) rfl (t := decide ((s8.size : Int) > 6000)) rfl dc10 rfl w) ?_
    refine SOps.nil ?_
    by_cases c13 : (l11.len : Int) > 30
    · replace h := h.1 c13
      have dc13 : (decide ((l11.len : Int) > 30)) = true := (decide_eq_true c13)
      refine SW.cond_t (t := decide ((l11.len : Int) > 30)) rfl dc13 ?_
      refine SW.seq ?_
      refine SW.region ?_
      refine SOps.val (v := .bool true) rfl (wantN rfl) (fun _ => by kernel_rfl) ?_
      refine SOps.nil ?_
      obtain ⟨Hr, hr, h⟩ := h
      exact SW.ret (retQ.mk (.bool true) (res1 rfl rfl) hr ⟨true, rfl, h⟩)
    · replace h := h.2 c13
      have dc13 : (decide ((l11.len : Int) > 30)) = false := (decide_eq_false c13)
      refine SW.cond_f (t := decide ((l11.len : Int) > 30)) rfl dc13 ?_
      refine SW.skip ?_
      refine SW.seq ?_
      refine SW.seq ?_
      refine SW.region ?_
      refine SOps.val (v := pv (some (b6, 4))) rfl (wantN rfl) (fun _ => by kernel_rfl) ?_
      obtain ⟨l14, c15, h⟩ := h
      refine SOps.rd (v := sv l14) rfl (wantN rfl) (fun w hw => ev_load1 rfl (fun _ => by kernel_rfl) (p := (b6, 4)) rfl c15 w hw) ?_
      refine SOps.val (v := .int .i64 (l14.len : Int)) rfl (wantN rfl) (fun _ => by kernel_rfl) ?_
      refine SOps.val (v := .int .i64 0) rfl (wantN rfl) (fun _ => by kernel_rfl) ?_
      refine SOps.nil ?_
      refine SW.block ?_
      refine SW.loop (fun k1 fr H => ∃ (g : Fr) (l16 : Sl) (x17 : Int) (x18 : Int), fr = g.upds [(16, sv l16), (17, (.int .i64 x17 : Value)), (18, (.int .i64 x18 : Value))] ∧ ladinglaw18_Great.l1 F K k1 l16 x17 x18 H) F ⟨_, l14, (l14.len : Int), 0, (Fr.upds_self _ _ ⟨rfl, rfl, rfl, trivial⟩), h⟩ ?_
      clear h
      rintro k1 fr H ⟨g, l16, x17, x18, rfl, h⟩
      cases k1 with
      | zero => exact h.elim
      | succ k1 =>
        replace h : ladinglaw18_Great.r1 F K (ladinglaw18_Great.l1 F K k1) l16 x17 x18 H := h
        unfold ladinglaw18_Great.r1 at h
        refine SW.seq ?_
        refine SW.region ?_
        refine SOps.val (v := .bool (decide (x18 < x17))) rfl (wantN rfl) (fun _ => by kernel_rfl) ?_
        refine SOps.nil ?_
        refine SW.seq ?_
        by_cases c19 : x18 < x17
        · replace h := h.1 c19
          have dc19 : (decide (x18 < x17)) = true := (decide_eq_true c19)
          refine SW.cond_t (t := decide (x18 < x17)) rfl dc19 ?_
          refine SW.skip ?_
          refine SW.seq ?_
          refine SW.block ?_
          refine SW.seq ?_
          refine SW.region ?_
          obtain ⟨p20, c21, c22, c23, h⟩ := h
          refine SOps.val (v := pv (some (p20.1, (p20.2 + x18.toNat * 1)))) rfl (wantN rfl) (fun w => ev_iaddr rfl Tryd.underlying51 (size := 1) (by kernel_rfl) rfl rfl c21 c22 c23 w) ?_
          obtain ⟨s24, c25, h⟩ := h
          refine SOps.rd (v := .string s24) rfl (wantN rfl) (fun w hw => ev_load1 rfl (fun _ => by kernel_rfl) (p := (p20.1, (p20.2 + x18.toNat * 1))) rfl c25 w hw) ?_
          refine SOps.val (v := .string s24) rfl (wantN rfl) (fun _ => by kernel_rfl) ?_
          refine SOps.nil ?_
          refine SW.seq ?_
          refine SW.region ?_
          refine SOps.val (v := .string s24) rfl (wantN rfl) (fun _ => by kernel_rfl) ?_
          refine SOps.val (v := .int .i64 (s24.size : Int)) rfl (wantN rfl) (fun _ => by kernel_rfl) ?_
          refine SOps.val (v := .bool (decide ((s24.size : Int) > 100))) rfl (wantN rfl) (fun _ => by kernel_rfl) ?_
          refine SOps.nil ?_
          by_cases c26 : (s24.size : Int) > 100
          · replace h := h.1 c26
            have dc26 : (decide ((s24.size : Int) > 100)) = true := (decide_eq_true c26)
            refine SW.cond_t (t := decide ((s24.size : Int) > 100)) rfl dc26 ?_
            refine SW.seq ?_
            refine SW.region ?_
            refine SOps.val (v := .bool true) rfl (wantN rfl) (fun _ => by kernel_rfl) ?_
            refine SOps.nil ?_
            obtain ⟨Hr, hr, h⟩ := h
            exact SW.ret (retQ.mk (.bool true) (res1 rfl rfl) hr ⟨true, rfl, h⟩)
          · replace h := h.2 c26
            have dc26 : (decide ((s24.size : Int) > 100)) = false := (decide_eq_false c26)
            refine SW.cond_f (t := decide ((s24.size : Int) > 100)) rfl dc26 ?_
            refine SW.skip ?_
            refine SW.region ?_
            refine SOps.val (v := .int .i64 (w64 (x18 + 1))) rfl (wantN rfl) (fun _ => by kernel_rfl) ?_
            refine SOps.val (v := .int .i64 (w64 (x18 + 1))) rfl (wantN rfl) (fun _ => by kernel_rfl) ?_
            refine SOps.nil ?_
            exact ⟨k1, Nat.lt_succ_self k1, _, l16, x17, w64 (x18 + 1), (Fr.upds_self _ _ ⟨rfl, rfl, rfl, trivial⟩), h⟩
        · replace h := h.2 c19
          have dc19 : (decide (x18 < x17)) = false := (decide_eq_false c19)
          refine SW.cond_f (t := decide (x18 < x17)) rfl dc19 ?_
          refine SW.exit ?_
          refine SW.seq ?_
          refine SW.region ?_
          refine SOps.val (v := .bool false) rfl (wantN rfl) (fun _ => by kernel_rfl) ?_
          refine SOps.nil ?_
          obtain ⟨Hr, hr, h⟩ := h
          exact SW.ret (retQ.mk (.bool false) (res1 rfl rfl) hr ⟨false, rfl, h⟩)

end Go.Proofs.YtkfbmoekghbgbaaDoor.K
