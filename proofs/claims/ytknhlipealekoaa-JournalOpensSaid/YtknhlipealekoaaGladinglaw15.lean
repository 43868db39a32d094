import Derived.Test.YtknhlipealekoaaGdisk
import Derived.Test.YtknhlipealekoaaGjournal
import Derived.Test.YtknhlipealekoaaGladingref03
import Derived.Test.YtknhlipealekoaaGladingref09
import Derived.Test.YtknhlipealekoaaSatWrit
set_option linter.unusedVariables false
set_option linter.unusedSimpArgs false
set_option maxRecDepth 100000
namespace Go.Proofs.Ytknhlipealekoaa.K
open Go
attribute [local irreducible] SW SOps SQ SCalls retQ

/-! ### lading/ladinglaw15.awake: function 13 -/
def ladinglaw15_awake.wp (F : Nat) (H : SH) (K : Bool → SH → Prop) : Prop :=
  disk_New.wp F 0 H (fun p1 H2 =>
    journal_Open.wp F p1 H2 (fun p3 e4 H5 =>
      (e4 = none →
        ∀ b7, H5 b7 = none →
        journal_Journal_Write.wp F p3 (⟨some (b7, 0), 1, 1⟩ : Sl) (SH.upd H5 b7 ⟨[.string (⟨#[97]⟩ : ByteArray)], 9, false, 1⟩) (fun e9 H10 =>
          (e9 = none →
            ∀ b12, H10 b12 = none →
            journal_Journal_Put.wp F p3 (⟨some (b12, 0), 1, 1⟩ : Sl) (SH.upd H10 b12 ⟨[.string (⟨#[98]⟩ : ByteArray)], 9, false, 1⟩) (fun e14 H15 =>
              (e14 = none →
                disk_Disk_Crash.wp F p1 Sl.nil 0 H15 (fun H17 =>
                  journal_Open.wp F p1 H17 (fun p18 e19 H20 =>
                    (e19 = none →
                      journal_Journal_All.wp F p18 H20 (fun l22 H23 =>
                        ∀ b24, H23 b24 = none →
                        ladingref09_Same.wp F l22 (⟨some (b24, 0), 1, 1⟩ : Sl) (SH.upd H23 b24 ⟨[.string (⟨#[97]⟩ : ByteArray)], 9, false, 1⟩) (fun q26 H27 =>
                          ∃ Hr, SH.le Hr H27 ∧ K q26 Hr
                        )
                      )
                    ) ∧ (∀ v21, e19 = some v21 →
                      ∃ Hr, SH.le Hr H20 ∧ K false Hr
                    )
                  )
                )
              ) ∧ (∀ v16, e14 = some v16 →
                ∃ Hr, SH.le Hr H15 ∧ K false Hr
              )
            )
          ) ∧ (∀ v11, e9 = some v11 →
            ∃ Hr, SH.le Hr H10 ∧ K false Hr
          )
        )
      ) ∧ (∀ v6, e4 = some v6 →
        ∃ Hr, SH.le Hr H5 ∧ K false Hr
      )
    )
  )
set_option maxHeartbeats 8000000 in
theorem ladinglaw15_awake.sound (F : Nat) (H : SH) (K : Bool → SH → Prop) (h : ladinglaw15_awake.wp F H K) : SCalls Try.prog 13 #[] H (fun v H' => ∃ (q29 : Bool), v = .bool q29 ∧ K q29 H') := by
  unfold ladinglaw15_awake.wp at h
  refine SCalls.body Try.func13 rfl (Nat.le_of_ble_eq_true rfl) ?_
  refine SW.seq ?_
  refine SW.region ?_
  refine SOps.val (v := .bool false) rfl (wantN rfl) (fun _ => by kernel_rfl) ?_
  refine SOps.nil ?_
  refine SW.seq ?_
  refine SW.region ?_
  refine SOps.enter rfl (wantN rfl) (fun _ => by kernel_rfl) (disk_New.sound F 0 H _ h) ?_
  clear h
  rintro v H2 ⟨p1, rfl, h⟩
  refine SOps.val (v := pv p1) rfl (wantN rfl) (fun _ => by kernel_rfl) ?_
  refine SOps.nil ?_
  refine SW.seq ?_
  refine SW.region ?_
  refine SOps.val (v := pv p1) rfl (wantN rfl) (fun _ => by kernel_rfl) ?_
  refine SOps.enter rfl (wantN rfl) (fun _ => by kernel_rfl) (journal_Open.sound F p1 H2 _ h) ?_
  clear h
  rintro v H5 ⟨p3, e4, rfl, h⟩
  refine SOps.val (v := .tuple #[pv p3, errV e4]) rfl (wantN rfl) (fun _ => by kernel_rfl) ?_
  refine SOps.val (v := pv p3) rfl (wantN rfl) (fun _ => by kernel_rfl) ?_
  refine SOps.val (v := errV e4) rfl (wantN rfl) (fun _ => by kernel_rfl) ?_
  refine SOps.val (v := pv p3) rfl (wantN rfl) (fun _ => by kernel_rfl) ?_
  refine SOps.val (v := errV e4) rfl (wantN rfl) (fun _ => by kernel_rfl) ?_
  refine SOps.nil ?_
  refine SW.seq ?_
  refine SW.seq ?_
  refine SW.region ?_
  refine SOps.val (v := errV e4) rfl (wantN rfl) (fun _ => by kernel_rfl) ?_
  rcases e4 with _ | v6
  · replace h := h.1 rfl
    refine SOps.val (v := .bool false) rfl (wantN rfl) (fun w => ev_errNe (e := none) rfl Try.underlying27 rfl rfl w) ?_
    refine SOps.val (v := .bool false) rfl (wantN rfl) (fun _ => by kernel_rfl) ?_
    refine SOps.val (v := pv p3) rfl (wantY (c := false) rfl rfl rfl rfl) (fun _ => by kernel_rfl) ?_
    refine SOps.lit (E := 9) (cs := #[.string (⟨#[97]⟩ : ByteArray)]) rfl rfl (wantY (c := false) rfl rfl rfl rfl) (fun _ => by kernel_rfl) (fun b7 c8 => ?_)
    replace h := h b7 c8
    refine SOps.enter rfl (wantY (c := false) rfl rfl rfl rfl) (fun _ => by kernel_rfl) (journal_Journal_Write.sound F p3 (⟨some (b7, 0), 1, 1⟩ : Sl) (SH.upd H5 b7 ⟨[.string (⟨#[97]⟩ : ByteArray)], 9, false, 1⟩) _ h) ?_
    clear h
    rintro v H10 ⟨e9, rfl, h⟩
    rcases e9 with _ | v11
    · replace h := h.1 rfl
      refine SOps.val (v := .bool false) rfl (wantY (c := false) rfl rfl rfl rfl) (fun w => ev_errNe (e := none) rfl Try.underlying27 rfl rfl w) ?_
      refine SOps.val (v := .bool false) rfl (wantN rfl) (fun w => ev_pickF (v := .bool false) rfl (t := false) rfl rfl rfl w) ?_
      refine SOps.val (v := .bool false) rfl (wantN rfl) (fun _ => by kernel_rfl) ?_
      refine SOps.val (v := pv p3) rfl (wantY (c := false) rfl rfl rfl rfl) (fun _ => by kernel_rfl) ?_
      refine SOps.lit (E := 9) (cs := #[.string (⟨#[98]⟩ : ByteArray)]) rfl rfl (wantY (c := false) rfl rfl rfl rfl) (fun _ => by kernel_rfl) (fun b12 c13 => ?_)
      replace h := h b12 c13
      refine SOps.enter rfl (wantY (c := false) rfl rfl rfl rfl) (fun _ => by kernel_rfl) (journal_Journal_Put.sound F p3 (⟨some (b12, 0), 1, 1⟩ : Sl) (SH.upd H10 b12 ⟨[.string (⟨#[98]⟩ : ByteArray)], 9, false, 1⟩) _ h) ?_
      clear h
      rintro v H15 ⟨e14, rfl, h⟩
      rcases e14 with _ | v16
      · replace h := h.1 rfl
        refine SOps.val (v := .bool false) rfl (wantY (c := false) rfl rfl rfl rfl) (fun w => ev_errNe (e := none) rfl Try.underlying27 rfl rfl w) ?_
        refine SOps.val (v := .bool false) rfl (wantN rfl) (fun w => ev_pickF (v := .bool false) rfl (t := false) rfl rfl rfl w) ?_
        refine SOps.nil ?_
        refine SW.cond_f (t := false) rfl rfl ?_
        refine SW.skip ?_
        refine SW.seq ?_
        refine SW.region ?_
        refine SOps.val (v := pv p1) rfl (wantN rfl) (fun _ => by kernel_rfl) ?_
        refine SOps.val (v := .agg #[sv Sl.nil, .int .i64 0]) rfl (wantN rfl) (fun _ => by kernel_rfl) ?_
        refine SOps.enter rfl (wantN rfl) (fun _ => by kernel_rfl) (disk_Disk_Crash.sound F p1 Sl.nil 0 H15 _ h) ?_
        clear h
        rintro v H17 ⟨rfl, h⟩
        refine SOps.nil ?_
        refine SW.seq ?_
        refine SW.region ?_
        refine SOps.val (v := pv p1) rfl (wantN rfl) (fun _ => by kernel_rfl) ?_
        refine SOps.enter rfl (wantN rfl) (fun _ => by kernel_rfl) (journal_Open.sound F p1 H17 _ h) ?_
        clear h
        rintro v H20 ⟨p18, e19, rfl, h⟩
        refine SOps.val (v := .tuple #[pv p18, errV e19]) rfl (wantN rfl) (fun _ => by kernel_rfl) ?_
        refine SOps.val (v := pv p18) rfl (wantN rfl) (fun _ => by kernel_rfl) ?_
        refine SOps.val (v := errV e19) rfl (wantN rfl) (fun _ => by kernel_rfl) ?_
        refine SOps.val (v := pv p18) rfl (wantN rfl) (fun _ => by kernel_rfl) ?_
        refine SOps.val (v := errV e19) rfl (wantN rfl) (fun _ => by kernel_rfl) ?_
        refine SOps.nil ?_
        refine SW.seq ?_
        refine SW.region ?_
        refine SOps.val (v := errV e19) rfl (wantN rfl) (fun _ => by kernel_rfl) ?_
        rcases e19 with _ | v21
        · replace h := h.1 rfl
          refine SOps.val (v := .bool true) rfl (wantN rfl) (fun w => ev_errEq (e := none) rfl Try.underlying27 rfl rfl w) ?_
          refine SOps.val (v := .bool true) rfl (wantN rfl) (fun _ => by kernel_rfl) ?_
          refine SOps.val (v := pv p18) rfl (wantY (c := true) rfl rfl rfl rfl) (fun _ => by kernel_rfl) ?_
          refine SOps.enter rfl (wantY (c := true) rfl rfl rfl rfl) (fun _ => by kernel_rfl) (journal_Journal_All.sound F p18 H20 _ h) ?_
          clear h
          rintro v H23 ⟨l22, rfl, h⟩
          refine SOps.lit (E := 9) (cs := #[.string (⟨#[97]⟩ : ByteArray)]) rfl rfl (wantY (c := true) rfl rfl rfl rfl) (fun _ => by kernel_rfl) (fun b24 c25 => ?_)
          replace h := h b24 c25
          refine SOps.enter rfl (wantY (c := true) rfl rfl rfl rfl) (fun _ => by kernel_rfl) (ladingref09_Same.sound F l22 (⟨some (b24, 0), 1, 1⟩ : Sl) (SH.upd H23 b24 ⟨[.string (⟨#[97]⟩ : ByteArray)], 9, false, 1⟩) _ h) ?_
          clear h
          rintro v H27 ⟨q26, rfl, h⟩
          refine SOps.val (v := .bool q26) rfl (wantN rfl) (fun w => ev_pickT (v := .bool q26) rfl (t := true) rfl rfl rfl w) ?_
          refine SOps.val (v := .bool q26) rfl (wantN rfl) (fun _ => by kernel_rfl) ?_
          refine SOps.nil ?_
          obtain ⟨Hr, hr, h⟩ := h
          exact SW.ret (retQ.mk (.bool q26) (res1 rfl rfl) hr ⟨q26, rfl, h⟩)
        · replace h := h.2 v21 rfl
          refine SOps.val (v := .bool false) rfl (wantN rfl) (fun w => ev_errEq (e := some v21) rfl Try.underlying27 rfl rfl w) ?_
          refine SOps.val (v := .bool false) rfl (wantN rfl) (fun _ => by kernel_rfl) ?_
          refine SOps.off rfl (wantX (c := false) rfl rfl rfl rfl) ?_
          refine SOps.off rfl (wantX (c := false) rfl rfl rfl rfl) ?_
          refine SOps.off rfl (wantX (c := false) rfl rfl rfl rfl) ?_
          refine SOps.off rfl (wantX (c := false) rfl rfl rfl rfl) ?_
          refine SOps.val (v := .bool false) rfl (wantN rfl) (fun w => ev_pickF (v := .bool false) rfl (t := false) rfl rfl rfl w) ?_
          refine SOps.val (v := .bool false) rfl (wantN rfl) (fun _ => by kernel_rfl) ?_
          refine SOps.nil ?_
          obtain ⟨Hr, hr, h⟩ := h
          exact SW.ret (retQ.mk (.bool false) (res1 rfl rfl) hr ⟨false, rfl, h⟩)
      · replace h := h.2 v16 rfl
        refine SOps.val (v := .bool true) rfl (wantY (c := false) rfl rfl rfl rfl) (fun w => ev_errNe (e := some v16) rfl Try.underlying27 rfl rfl w) ?_
        refine SOps.val (v := .bool true) rfl (wantN rfl) (fun w => ev_pickF (v := .bool true) rfl (t := false) rfl rfl rfl w) ?_
        refine SOps.nil ?_
        refine SW.cond_t (t := true) rfl rfl ?_
        refine SW.seq ?_
        refine SW.region ?_
        refine SOps.val (v := .bool false) rfl (wantN rfl) (fun _ => by kernel_rfl) ?_
        refine SOps.nil ?_
        obtain ⟨Hr, hr, h⟩ := h
        exact SW.ret (retQ.mk (.bool false) (res1 rfl rfl) hr ⟨false, rfl, h⟩)
    · replace h := h.2 v11 rfl
      refine SOps.val (v := .bool true) rfl (wantY (c := false) rfl rfl rfl rfl) (fun w => ev_errNe (e := some v11) rfl Try.underlying27 rfl rfl w) ?_
      refine SOps.val (v := .bool true) rfl (wantN rfl) (fun w => ev_pickF (v := .bool true) rfl (t := false) rfl rfl rfl w) ?_
      refine SOps.val (v := .bool true) rfl (wantN rfl) (fun _ => by kernel_rfl) ?_
      refine SOps.off rfl (wantX (c := true) rfl rfl rfl rfl) ?_
      refine SOps.off rfl (wantX (c := true) rfl rfl rfl rfl) ?_
      refine SOps.off rfl (wantX (c := true) rfl rfl rfl rfl) ?_
      refine SOps.off rfl (wantX (c := true) rfl rfl rfl rfl) ?_
      refine SOps.val (v := .bool true) rfl (wantN rfl) (fun w => ev_pickT (v := .bool true) rfl (t := true) rfl rfl rfl w) ?_
      refine SOps.nil ?_
      refine SW.cond_t (t := true) rfl rfl ?_
      refine SW.seq ?_
      refine SW.region ?_
      refine SOps.val (v := .bool false) rfl (wantN rfl) (fun _ => by kernel_rfl) ?_
      refine SOps.nil ?_
      obtain ⟨Hr, hr, h⟩ := h
      exact SW.ret (retQ.mk (.bool false) (res1 rfl rfl) hr ⟨false, rfl, h⟩)
  · replace h := h.2 v6 rfl
    refine SOps.val (v := .bool true) rfl (wantN rfl) (fun w => ev_errNe (e := some v6) rfl Try.underlying27 rfl rfl w) ?_
    refine SOps.val (v := .bool true) rfl (wantN rfl) (fun _ => by kernel_rfl) ?_
    refine SOps.off rfl (wantX (c := true) rfl rfl rfl rfl) ?_
    refine SOps.off rfl (wantX (c := true) rfl rfl rfl rfl) ?_
    refine SOps.off rfl (wantX (c := true) rfl rfl rfl rfl) ?_
    refine SOps.off rfl (wantX (c := true) rfl rfl rfl rfl) ?_
    refine SOps.val (v := .bool true) rfl (wantN rfl) (fun w => ev_pickT (v := .bool true) rfl (t := true) rfl rfl rfl w) ?_
    refine SOps.val (v := .bool true) rfl (wantN rfl) (fun _ => by kernel_rfl) ?_
    refine SOps.off rfl (wantX (c := true) rfl rfl rfl rfl) ?_
    refine SOps.off rfl (wantX (c := true) rfl rfl rfl rfl) ?_
    refine SOps.off rfl (wantX (c := true) rfl rfl rfl rfl) ?_
    refine SOps.off rfl (wantX (c := true) rfl rfl rfl rfl) ?_
    refine SOps.val (v := .bool true) rfl (wantN rfl) (fun w => ev_pickT (v := .bool true) rfl (t := true) rfl rfl rfl w) ?_
    refine SOps.nil ?_
    refine SW.cond_t (t := true) rfl rfl ?_
    refine SW.seq ?_
    refine SW.region ?_
    refine SOps.val (v := .bool false) rfl (wantN rfl) (fun _ => by kernel_rfl) ?_
    refine SOps.nil ?_
    obtain ⟨Hr, hr, h⟩ := h
    exact SW.ret (retQ.mk (.bool false) (res1 rfl rfl) hr ⟨false, rfl, h⟩)

/-! ### lading/ladinglaw15.great: function 22 -/
def ladinglaw15_great.r1 (F : Nat) (K : Bool → SH → Prop) (R1 : Sl → Int → Int → SH → Prop) (l3 : Sl) (x4 : Int) (x5 : Int) (H : SH) : Prop :=
  (x5 < x4 →
    ∃ p7, l3.a = some p7 ∧ 0 ≤ x5 ∧ x5 < (l3.len : Int) ∧
    ∃ (s11 : ByteArray),
    SH.has H (p7.1, (p7.2 + x5.toNat * 1)) (.string s11) ∧
    ((s11.size : Int) > 100 →
      ∃ Hr, SH.le Hr H ∧ K true Hr
    ) ∧ (¬ ((s11.size : Int) > 100) →
      R1 l3 x4 (w64 (x5 + 1)) H
    )
  ) ∧ (¬ (x5 < x4) →
    ∃ Hr, SH.le Hr H ∧ K false Hr
  )
def ladinglaw15_great.l1 (F : Nat) (K : Bool → SH → Prop) : Nat → Sl → Int → Int → SH → Prop
  | 0, _, _, _, _ => False
  | k + 1, l3, x4, x5, H => ladinglaw15_great.r1 F K (ladinglaw15_great.l1 F K k) l3 x4 x5 H
def ladinglaw15_great.wp (F : Nat) (l1 : Sl) (H : SH) (K : Bool → SH → Prop) : Prop :=
  ((l1.len : Int) > 60 →
    ∃ Hr, SH.le Hr H ∧ K true Hr
  ) ∧ (¬ ((l1.len : Int) > 60) →
    ladinglaw15_great.l1 F K F l1 (l1.len : Int) 0 H
  )
set_option maxHeartbeats 8000000 in
theorem ladinglaw15_great.sound (F : Nat) (l1 : Sl) (H : SH) (K : Bool → SH → Prop) (h : ladinglaw15_great.wp F l1 H K) : SCalls Try.prog 22 #[sv l1] H (fun v H' => ∃ (q17 : Bool), v = .bool q17 ∧ K q17 H') := by
  unfold ladinglaw15_great.wp at h
  refine SCalls.body Try.func22 rfl (Nat.le_of_ble_eq_true rfl) ?_
  refine SW.seq ?_
  refine SW.region ?_
  refine SOps.val (v := .bool false) rfl (wantN rfl) (fun _ => by kernel_rfl) ?_
  refine SOps.nil ?_
  refine SW.seq ?_
  refine SW.seq ?_
  refine SW.region ?_
  refine SOps.val (v := sv l1) rfl (wantN rfl) (fun _ => by kernel_rfl) ?_
  refine SOps.val (v := .int .i64 (l1.len : Int)) rfl (wantN rfl) (fun _ => by kernel_rfl) ?_
  refine SOps.val (v := .bool (decide ((l1.len : Int) > 60))) rfl (wantN rfl) (fun _ => by kernel_rfl) ?_
  refine SOps.nil ?_
  by_cases c2 : (l1.len : Int) > 60
  · replace h := h.1 c2
    have dc2 : (decide ((l1.len : Int) > 60)) = true := (decide_eq_true c2)
    refine SW.cond_t (t := decide ((l1.len : Int) > 60)) rfl dc2 ?_
    refine SW.seq ?_
    refine SW.region ?_
    refine SOps.val (v := .bool true) rfl (wantN rfl) (fun _ => by kernel_rfl) ?_
    refine SOps.nil ?_
    obtain ⟨Hr, hr, h⟩ := h
    exact SW.ret (retQ.mk (.bool true) (res1 rfl rfl) hr ⟨true, rfl, h⟩)
  · replace h := h.2 c2
    have dc2 : (decide ((l1.len : Int) > 60)) = false := (decide_eq_false c2)
    refine SW.cond_f (t := decide ((l1.len : Int) > 60)) rfl dc2 ?_
    refine SW.skip ?_
    refine SW.seq ?_
    refine SW.seq ?_
    refine SW.region ?_
    refine SOps.val (v := sv l1) rfl (wantN rfl) (fun _ => by kernel_rfl) ?_
    refine SOps.val (v := .int .i64 (l1.len : Int)) rfl (wantN rfl) (fun _ => by kernel_rfl) ?_
    refine SOps.val (v := .int .i64 0) rfl (wantN rfl) (fun _ => by kernel_rfl) ?_
    refine SOps.nil ?_
    refine SW.block ?_
    refine SW.loop (fun k1 fr H => ∃ (g : Fr) (l3 : Sl) (x4 : Int) (x5 : Int), fr = g.upds [(8, sv l3), (9, (.int .i64 x4 : Value)), (10, (.int .i64 x5 : Value))] ∧ ladinglaw15_great.l1 F K k1 l3 x4 x5 H) F ⟨_, l1, (l1.len : Int), 0, (Fr.upds_self _ _ ⟨rfl, rfl, rfl, trivial⟩), h⟩ ?_
    clear h
    rintro k1 fr H ⟨g, l3, x4, x5, rfl, h⟩
    cases k1 with
    | zero => exact h.elim
    | succ k1 =>
      replace h : ladinglaw15_great.r1 F K (ladinglaw15_great.l1 F K k1) l3 x4 x5 H := h
      unfold ladinglaw15_great.r1 at h
      refine SW.seq ?_
      refine SW.region ?_
      refine SOps.val (v := .bool (decide (x5 < x4))) rfl (wantN rfl) (fun _ => by kernel_rfl) ?_
      refine SOps.nil ?_
      refine SW.seq ?_
      by_cases c6 : x5 < x4
      · replace h := h.1 c6
        have dc6 : (decide (x5 < x4)) = true := (decide_eq_true c6)
        refine SW.cond_t (t := decide (x5 < x4)) rfl dc6 ?_
        refine SW.skip ?_
        refine SW.seq ?_
        refine SW.block ?_
        refine SW.seq ?_
        refine SW.region ?_
        obtain ⟨p7, c8, c9, c10, h⟩ := h
        refine SOps.val (v := pv (some (p7.1, (p7.2 + x5.toNat * 1)))) rfl (wantN rfl) (fun w => ev_iaddr rfl Try.underlying41 (size := 1) (by kernel_rfl) rfl rfl c8 c9 c10 w) ?_
        obtain ⟨s11, c12, h⟩ := h
        refine SOps.rd (v := .string s11) rfl (wantN rfl) (fun w hw => ev_load1 rfl (fun _ => by kernel_rfl) (p := (p7.1, (p7.2 + x5.toNat * 1))) rfl c12 w hw) ?_
        refine SOps.val (v := .string s11) rfl (wantN rfl) (fun _ => by kernel_rfl) ?_
        refine SOps.nil ?_
        refine SW.seq ?_
        refine SW.region ?_
        refine SOps.val (v := .string s11) rfl (wantN rfl) (fun _ => by kernel_rfl) ?_
        refine SOps.val (v := .int .i64 (s11.size : Int)) rfl (wantN rfl) (fun _ => by kernel_rfl) ?_
        refine SOps.val (v := .bool (decide ((s11.size : Int) > 100))) rfl (wantN rfl) (fun _ => by kernel_rfl) ?_
        refine SOps.nil ?_
        by_cases c13 : (s11.size : Int) > 100
        · replace h := h.1 c13
          have dc13 : (decide ((s11.size : Int) > 100)) = true := (decide_eq_true c13)
          refine SW.cond_t (t := decide ((s11.size : Int) > 100)) rfl dc13 ?_
          refine SW.seq ?_
          refine SW.region ?_
          refine SOps.val (v := .bool true) rfl (wantN rfl) (fun _ => by kernel_rfl) ?_
          refine SOps.nil ?_
          obtain ⟨Hr, hr, h⟩ := h
          exact SW.ret (retQ.mk (.bool true) (res1 rfl rfl) hr ⟨true, rfl, h⟩)
        · replace h := h.2 c13
          have dc13 : (decide ((s11.size : Int) > 100)) = false := (decide_eq_false c13)
          refine SW.cond_f (t := decide ((s11.size : Int) > 100)) rfl dc13 ?_
          refine SW.skip ?_
          refine SW.region ?_
          refine SOps.val (v := .int .i64 (w64 (x5 + 1))) rfl (wantN rfl) (fun _ => by kernel_rfl) ?_
          refine SOps.val (v := .int .i64 (w64 (x5 + 1))) rfl (wantN rfl) (fun _ => by kernel_rfl) ?_
          refine SOps.nil ?_
          exact ⟨k1, Nat.lt_succ_self k1, _, l3, x4, w64 (x5 + 1), (Fr.upds_self _ _ ⟨rfl, rfl, rfl, trivial⟩), h⟩
      · replace h := h.2 c6
        have dc6 : (decide (x5 < x4)) = false := (decide_eq_false c6)
        refine SW.cond_f (t := decide (x5 < x4)) rfl dc6 ?_
        refine SW.exit ?_
        refine SW.seq ?_
        refine SW.region ?_
        refine SOps.val (v := .bool false) rfl (wantN rfl) (fun _ => by kernel_rfl) ?_
        refine SOps.nil ?_
        obtain ⟨Hr, hr, h⟩ := h
        exact SW.ret (retQ.mk (.bool false) (res1 rfl rfl) hr ⟨false, rfl, h⟩)

end Go.Proofs.Ytknhlipealekoaa.K
