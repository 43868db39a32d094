import Derived.Test.YtknhlipealekoaaDoorGdisk
import Derived.Test.YtknhlipealekoaaDoorGjournal
import Derived.Test.YtknhlipealekoaaDoorGladingref03
import Derived.Test.YtknhlipealekoaaDoorGladingref09
import Derived.Test.YtknhlipealekoaaDoorGdiskW
import Derived.Test.YtknhlipealekoaaDoorGjournalW
import Derived.Test.YtknhlipealekoaaDoorApi2
import Derived.Test.YtknhlipealekoaaDoorSatWrit
set_option linter.unusedVariables false
set_option linter.unusedSimpArgs false
set_option maxRecDepth 100000
namespace Go.Proofs.YtknhlipealekoaaDoor.K
open Go
attribute [local irreducible] SW SOps SQ SCalls retQ

/-! ### lading/ladinglaw15.awake: function 27 -/
def ladinglaw15_awake.wp (F : Nat) (H : SH) (K : Bool → SH → Prop) : Prop :=
  disk_New.wp F 0 H (fun p1 H2 =>
    journal_Open.wp F p1 H2 (fun p3 e4 H5 =>
      (e4 = none →
        ∀ b7, H5 b7 = none →
        journal_Journal_Write.wp F p3 (⟨some (b7, 0), 1, 1⟩ : Sl) (SH.upd H5 b7 ⟨[.string (⟨#[97]⟩ : ByteArray)], 9, false, 1⟩) (fun e9 H10 =>
          (e9 = none →
            ∀ b12, H10 b12 = none →
            journal_Journal_Put.wp F p3 (⟨some (b12, 0), 1, 1⟩ : Sl) (SH.upd H10 b12 ⟨[.string (⟨#[98]⟩ : ByteArray)], 9, false, 1⟩) (fun e14 H15 =>
              (e14 = none →
                disk_Disk_Crash.wp F p1 Sl.nil 0 H15 (fun H17 =>
                  journal_Open.wp F p1 H17 (fun p18 e19 H20 =>
                    (e19 = none →
                      journal_Journal_All.wp F p18 H20 (fun l22 H23 =>
                        ∀ b24, H23 b24 = none →
                        ladingref09_Same.wp F l22 (⟨some (b24, 0), 1, 1⟩ : Sl) (SH.upd H23 b24 ⟨[.string (⟨#[97]⟩ : ByteArray)], 9, false, 1⟩) (fun q26 H27 =>
                          ∃ Hr, SH.le Hr H27 ∧ K q26 Hr
                        )
                      )
                    ) ∧ (∀ v21, e19 = some v21 →
                      ∃ Hr, SH.le Hr H20 ∧ K false Hr
                    )
                  )
                )
              ) ∧ (∀ v16, e14 = some v16 →
                ∃ Hr, SH.le Hr H15 ∧ K false Hr
              )
            )
          ) ∧ (∀ v11, e9 = some v11 →
            ∃ Hr, SH.le Hr H10 ∧ K false Hr
          )
        )
      ) ∧ (∀ v6, e4 = some v6 →
        ∃ Hr, SH.le Hr H5 ∧ K false Hr
      )
    )
  )
set_option maxHeartbeats 8000000 in
theorem ladinglaw15_awake.sound (F : Nat) (H : SH) (K : Bool → SH → Prop) (h : ladinglaw15_awake.wp F H K) : SCalls Tryd.prog 27 #[] H (fun v H' => ∃ (q29 : Bool), v = .bool q29 ∧ K q29 H') := by
  unfold ladinglaw15_awake.wp at h
  refine SCalls.body Tryd.func27 rfl (Nat.le_of_ble_eq_true rfl) ?_
  refine SW.seq ?_
  refine SW.region ?_
  refine SOps.val (v := .bool false) rfl (wantN rfl) (fun _ => by kernel_rfl) ?_
  refine SOps.nil ?_
  refine SW.seq ?_
  refine SW.region ?_
  refine SOps.enter rfl (wantN rfl) (fun _ => by kernel_rfl) (disk_New.sound F 0 H _ h) ?_
  clear h
  rintro v H2 ⟨p1, rfl, h⟩
  refine SOps.val (v := pv p1) rfl (wantN rfl) (fun _ => by kernel_rfl) ?_
  refine SOps.nil ?_
  refine SW.seq ?_
  refine SW.region ?_
  refine SOps.val (v := pv p1) rfl (wantN rfl) (fun _ => by kernel_rfl) ?_
  refine SOps.enter rfl (wantN rfl) (fun _ => by kernel_rfl) (journal_Open.sound F p1 H2 _ h) ?_
  clear h
  rintro v H5 ⟨p3, e4, rfl, h⟩
  refine SOps.val (v := .tuple #[pv p3, errV e4]) rfl (wantN rfl) (fun _ => by kernel_rfl) ?_
  refine SOps.val (v := pv p3) rfl (wantN rfl) (fun _ => by kernel_rfl) ?_
  refine SOps.val (v := errV e4) rfl (wantN rfl) (fun _ => by kernel_rfl) ?_
  refine SOps.val (v := pv p3) rfl (wantN rfl) (fun _ => by kernel_rfl) ?_
  refine SOps.val (v := errV e4) rfl (wantN rfl) (fun _ => by kernel_rfl) ?_
  refine SOps.nil ?_
  refine SW.seq ?_
  refine SW.seq ?_
  refine SW.region ?_
  refine SOps.val (v := errV e4) rfl (wantN rfl) (fun _ => by kernel_rfl) ?_
  rcases e4 with _ | v6
  · replace h := h.1 rfl
    refine SOps.val (v := .bool false) rfl (wantN rfl) (fun w => ev_errNe (e := none) rfl Tryd.underlying28 rfl rfl w) ?_
    refine SOps.val (v := .bool false) rfl (wantN rfl) (fun _ => by kernel_rfl) ?_
    refine SOps.val (v := pv p3) rfl (wantY (c := false) rfl rfl rfl rfl) (fun _ => by kernel_rfl) ?_
    refine SOps.lit (E := 9) (cs := #[.string (⟨#[97]⟩ : ByteArray)]) rfl rfl (wantY (c := false) rfl rfl rfl rfl) (fun _ => by kernel_rfl) (fun b7 c8 => ?_)
    replace h := h b7 c8
    refine SOps.enter rfl (wantY (c := false) rfl rfl rfl rfl) (fun _ => by kernel_rfl) (journal_Journal_Write.sound F p3 (⟨some (b7, 0), 1, 1⟩ : Sl) (SH.upd H5 b7 ⟨[.string (⟨#[97]⟩ : ByteArray)], 9, false, 1⟩) _ h) ?_
    clear h
    rintro v H10 ⟨e9, rfl, h⟩
    rcases e9 with _ | v11
    · replace h := h.1 rfl
      refine SOps.val (v := .bool false) rfl (wantY (c := false) rfl rfl rfl rfl) (fun w => ev_errNe (e := none) rfl Tryd.underlying28 rfl rfl w) ?_
      refine SOps.val (v := .bool false) rfl (wantN rfl) (fun w => ev_pickF (v := .bool false) rfl (t := false) rfl rfl rfl w) ?_
      refine SOps.val (v := .bool false) rfl (wantN rfl) (fun _ => by kernel_rfl) ?_
      refine SOps.val (v := pv p3) rfl (wantY (c := false) rfl rfl rfl rfl) (fun _ => by kernel_rfl) ?_
      refine SOps.lit (E := 9) (cs := #[.string (⟨#[98]⟩ : ByteArray)]) rfl rfl (wantY (c := false) rfl rfl rfl rfl) (fun _ => by kernel_rfl) (fun b12 c13 => ?_)
      replace h := h b12 c13
      refine SOps.enter rfl (wantY (c := false) rfl rfl rfl rfl) (fun _ => by kernel_rfl) (journal_Journal_Put.sound F p3 (⟨some (b12, 0), 1, 1⟩ : Sl) (SH.upd H10 b12 ⟨[.string (⟨#[98]⟩ : ByteArray)], 9, false, 1⟩) _ h) ?_
      clear h
      rintro v H15 ⟨e14, rfl, h⟩
      rcases e14 with _ | v16
      · replace h := h.1 rfl
        refine SOps.val (v := .bool false) rfl (wantY (c := false) rfl rfl rfl rfl) (fun w => ev_errNe (e := none) rfl Tryd.underlying28 rfl rfl w) ?_
        refine SOps.val (v := .bool false) rfl (wantN rfl) (fun w => ev_pickF (v := .bool false) rfl (t := false) rfl rfl rfl w) ?_
        refine SOps.nil ?_
        refine SW.cond_f (t := false) rfl rfl ?_
        refine SW.skip ?_
        refine SW.seq ?_
        refine SW.region ?_
        refine SOps.val (v := pv p1) rfl (wantN rfl) (fun _ => by kernel_rfl) ?_
        refine SOps.val (v := .agg #[sv Sl.nil, .int .i64 0]) rfl (wantN rfl) (fun _ => by kernel_rfl) ?_
        refine SOps.enter rfl (wantN rfl) (fun _ => by kernel_rfl) (disk_Disk_Crash.sound F p1 Sl.nil 0 H15 _ h) ?_
        clear h
        rintro v H17 ⟨rfl, h⟩
        refine SOps.nil ?_
        refine SW.seq ?_
        refine SW.region ?_
        refine SOps.val (v := pv p1) rfl (wantN rfl) (fun _ => by kernel_rfl) ?_
        refine SOps.enter rfl (wantN rfl) (fun _ => by kernel_rfl) (journal_Open.sound F p1 H17 _ h) ?_
        clear h
        rintro v H20 ⟨p18, e19, rfl, h⟩
        refine SOps.val (v := .tuple #[pv p18, errV e19]) rfl (wantN rfl) (fun _ => by kernel_rfl) ?_
        refine SOps.val (v := pv p18) rfl (wantN rfl) (fun _ => by kernel_rfl) ?_
        refine SOps.val (v := errV e19) rfl (wantN rfl) (fun _ => by kernel_rfl) ?_
        refine SOps.val (v := pv p18) rfl (wantN rfl) (fun _ => by kernel_rfl) ?_
        refine SOps.val (v := errV e19) rfl (wantN rfl) (fun _ => by kernel_rfl) ?_
        refine SOps.nil ?_
        refine SW.seq ?_
        refine SW.region ?_
        refine SOps.val (v := errV e19) rfl (wantN rfl) (fun _ => by kernel_rfl) ?_
        rcases e19 with _ | v21
        · replace h := h.1 rfl
          refine SOps.val (v := .bool true) rfl (wantN rfl) (fun w => ev_errEq (e := none) rfl Tryd.underlying28 rfl rfl w) ?_
          refine SOps.val (v := .bool true) rfl (wantN rfl) (fun _ => by kernel_rfl) ?_
          refine SOps.val (v := pv p18) rfl (wantY (c := true) rfl rfl rfl rfl) (fun _ => by kernel_rfl) ?_
          refine SOps.enter rfl (wantY (c := true) rfl rfl rfl rfl) (fun _ => by kernel_rfl) (journal_Journal_All.sound F p18 H20 _ h) ?_
          clear h
          rintro v H23 ⟨l22, rfl, h⟩
          refine SOps.lit (E := 9) (cs := #[.string (⟨#[97]⟩ : ByteArray)]) rfl rfl (wantY (c := true) rfl rfl rfl rfl) (fun _ => by kernel_rfl) (fun b24 c25 => ?_)
          replace h := h b24 c25
          refine SOps.enter rfl (wantY (c := true) rfl rfl rfl rfl) (fun _ => by kernel_rfl) (ladingref09_Same.sound F l22 (⟨some (b24, 0), 1, 1⟩ : Sl) (SH.upd H23 b24 ⟨[.string (⟨#[97]⟩ : ByteArray)], 9, false, 1⟩) _ h) ?_
          clear h
          rintro v H27 ⟨q26, rfl, h⟩
          refine SOps.val (v := .bool q26) rfl (wantN rfl) (fun w => ev_pickT (v := .bool q26) rfl (t := true) rfl rfl rfl w) ?_
          refine SOps.val (v := .bool q26) rfl (wantN rfl) (fun _ => by kernel_rfl) ?_
          refine SOps.nil ?_
          obtain ⟨Hr, hr, h⟩ := h
          exact SW.ret (retQ.mk (.bool q26) (res1 rfl rfl) hr ⟨q26, rfl, h⟩)
        · replace h := h.2 v21 rfl
          refine SOps.val (v := .bool false) rfl (wantN rfl) (fun w => ev_errEq (e := some v21) rfl Tryd.underlying28 rfl rfl w) ?_
          refine SOps.val (v := .bool false) rfl (wantN rfl) (fun _ => by kernel_rfl) ?_
          refine SOps.off rfl (wantX (c := false) rfl rfl rfl rfl) ?_
          refine SOps.off rfl (wantX (c := false) rfl rfl rfl rfl) ?_
          refine SOps.off rfl (wantX (c := false) rfl rfl rfl rfl) ?_
          refine SOps.off rfl (wantX (c := false) rfl rfl rfl rfl) ?_
          refine SOps.val (v := .bool false) rfl (wantN rfl) (fun w => ev_pickF (v := .bool false) rfl (t := false) rfl rfl rfl w) ?_
          refine SOps.val (v := .bool false) rfl (wantN rfl) (fun _ => by kernel_rfl) ?_
          refine SOps.nil ?_
          obtain ⟨Hr, hr, h⟩ := h
          exact SW.ret (retQ.mk (.bool false) (res1 rfl rfl) hr ⟨false, rfl, h⟩)
      · replace h := h.2 v16 rfl
        refine SOps.val (v := .bool true) rfl (wantY (c := false) rfl rfl rfl rfl) (fun w => ev_errNe (e := some v16) rfl Tryd.underlying28 rfl rfl w) ?_
        refine SOps.val (v := .bool true) rfl (wantN rfl) (fun w => ev_pickF (v := .bool true) rfl (t := false) rfl rfl rfl w) ?_
        refine SOps.nil ?_
        refine SW.cond_t (t := true) rfl rfl ?_
        refine SW.seq ?_
        refine SW.region ?_
        refine SOps.val (v := .bool false) rfl (wantN rfl) (fun _ => by kernel_rfl) ?_
        refine SOps.nil ?_
        obtain ⟨Hr, hr, h⟩ := h
        exact SW.ret (retQ.mk (.bool false) (res1 rfl rfl) hr ⟨false, rfl, h⟩)
    · replace h := h.2 v11 rfl
      refine SOps.val (v := .bool true) rfl (wantY (c := false) rfl rfl rfl rfl) (fun w => ev_errNe (e := some v11) rfl Tryd.underlying28 rfl rfl w) ?_
      refine SOps.val (v := .bool true) rfl (wantN rfl) (fun w => ev_pickF (v := .bool true) rfl (t := false) rfl rfl rfl w) ?_
      refine SOps.val (v := .bool true) rfl (wantN rfl) (fun _ => by kernel_rfl) ?_
      refine SOps.off rfl (wantX (c := true) rfl rfl rfl rfl) ?_
      refine SOps.off rfl (wantX (c := true) rfl rfl rfl rfl) ?_
      refine SOps.off rfl (wantX (c := true) rfl rfl rfl rfl) ?_
      refine SOps.off rfl (wantX (c := true) rfl rfl rfl rfl) ?_
      refine SOps.val (v := .bool true) rfl (wantN rfl) (fun w => ev_pickT (v := .bool true) rfl (t := true) rfl rfl rfl w) ?_
      refine SOps.nil ?_
      refine SW.cond_t (t := true) rfl rfl ?_
      refine SW.seq ?_
      refine SW.region ?_
      refine SOps.val (v := .bool false) rfl (wantN rfl) (fun _ => by kernel_rfl) ?_
      refine SOps.nil ?_
      obtain ⟨Hr, hr, h⟩ := h
      exact SW.ret (retQ.mk (.bool false) (res1 rfl rfl) hr ⟨false, rfl, h⟩)
  · replace h := h.2 v6 rfl
    refine SOps.val (v := .bool true) rfl (wantN rfl) (fun w => ev_errNe (e := some v6) rfl Tryd.underlying28 rfl rfl w) ?_
    refine SOps.val (v := .bool true) rfl (wantN rfl) (fun _ => by kernel_rfl) ?_
    refine SOps.off rfl (wantX (c := true) rfl rfl rfl rfl) ?_
    refine SOps.off rfl (wantX (c := true) rfl rfl rfl rfl) ?_
    refine SOps.off rfl (wantX (c := true) rfl rfl rfl rfl) ?_
    refine SOps.off rfl (wantX (c := true) rfl rfl rfl rfl) ?_
    refine SOps.val (v := .bool true) rfl (wantN rfl) (fun w => ev_pickT (v := .bool true) rfl (t := true) rfl rfl rfl w) ?_
    refine SOps.val (v := .bool true) rfl (wantN rfl) (fun _ => by kernel_rfl) ?_
    refine SOps.off rfl (wantX (c := true) rfl rfl rfl rfl) ?_
    refine SOps.off rfl (wantX (c := true) rfl rfl rfl rfl) ?_
    refine SOps.off rfl (wantX (c := true) rfl rfl rfl rfl) ?_
    refine SOps.off rfl (wantX (c := true) rfl rfl rfl rfl) ?_
    refine SOps.val (v := .bool true) rfl (wantN rfl) (fun w => ev_pickT (v := .bool true) rfl (t := true) rfl rfl rfl w) ?_
    refine SOps.nil ?_
    refine SW.cond_t (t := true) rfl rfl ?_
    refine SW.seq ?_
    refine SW.region ?_
    refine SOps.val (v := .bool false) rfl (wantN rfl) (fun _ => by kernel_rfl) ?_
    refine SOps.nil ?_
    obtain ⟨Hr, hr, h⟩ := h
    exact SW.ret (retQ.mk (.bool false) (res1 rfl rfl) hr ⟨false, rfl, h⟩)

/-! ### lading/ladinglaw15.great: function 29 -/
def ladinglaw15_great.r1 (F : Nat) (K : Bool → SH → Prop) (R1 : Sl → Int → Int → SH → Prop) (l3 : Sl) (x4 : Int) (x5 : Int) (H : SH) : Prop :=
  (x5 < x4 →
    ∃ p7, l3.a = some p7 ∧ 0 ≤ x5 ∧ x5 < (l3.len : Int) ∧
    ∃ (s11 : ByteArray),
    SH.has H (p7.1, (p7.2 + x5.toNat * 1)) (.string s11) ∧
    ((s11.size : Int) > 100 →
      ∃ Hr, SH.le Hr H ∧ K true Hr
    ) ∧ (¬ ((s11.size : Int) > 100) →
      R1 l3 x4 (w64 (x5 + 1)) H
    )
  ) ∧ (¬ (x5 < x4) →
    ∃ Hr, SH.le Hr H ∧ K false Hr
  )
def ladinglaw15_great.l1 (F : Nat) (K : Bool → SH → Prop) : Nat → Sl → Int → Int → SH → Prop
  | 0, _, _, _, _ => False
  | k + 1, l3, x4, x5, H => ladinglaw15_great.r1 F K (ladinglaw15_great.l1 F K k) l3 x4 x5 H
def ladinglaw15_great.wp (F : Nat) (l1 : Sl) (H : SH) (K : Bool → SH → Prop) : Prop :=
  ((l1.len : Int) > 60 →
    ∃ Hr, SH.le Hr H ∧ K true Hr
  ) ∧ (¬ ((l1.len : Int) > 60) →
    ladinglaw15_great.l1 F K F l1 (l1.len : Int) 0 H
  )
set_option maxHeartbeats 8000000 in
theorem ladinglaw15_great.sound (F : Nat) (l1 : Sl) (H : SH) (K : Bool → SH → Prop) (h : ladinglaw15_great.wp F l1 H K) : SCalls Tryd.prog 29 #[sv l1] H (fun v H' => ∃ (q17 : Bool), v = .bool q17 ∧ K q17 H') := by
  unfold ladinglaw15_great.wp at h
  refine SCalls.body Tryd.func29 rfl (Nat.le_of_ble_eq_true rfl) ?_
  refine SW.seq ?_
  refine SW.region ?_
  refine SOps.val (v := .bool false) rfl (wantN rfl) (fun _ => by kernel_rfl) ?_
  refine SOps.nil ?_
  refine SW.seq ?_
  refine SW.seq ?_
  refine SW.region ?_
  refine SOps.val (v := sv l1) rfl (wantN rfl) (fun _ => by kernel_rfl) ?_
  refine SOps.val (v := .int .i64 (l1.len : Int)) rfl (wantN rfl) (fun _ => by kernel_rfl) ?_
  refine SOps.val (v := .bool (decide ((l1.len : Int) > 60))) rfl (wantN rfl) (fun _ => by kernel_rfl) ?_
  refine SOps.nil ?_
  by_cases c2 : (l1.len : Int) > 60
  · replace h := h.1 c2
    have dc2 : (decide ((l1.len : Int) > 60)) = true := (decide_eq_true c2)
    refine SW.cond_t (t := decide ((l1.len : Int) > 60)) rfl dc2 ?_
    refine SW.seq ?_
    refine SW.region ?_
    refine SOps.val (v := .bool true) rfl (wantN rfl) (fun _ => by kernel_rfl) ?_
    refine SOps.nil ?_
    obtain ⟨Hr, hr, h⟩ := h
    exact SW.ret (retQ.mk (.bool true) (res1 rfl rfl) hr ⟨true, rfl, h⟩)
  · replace h := h.2 c2
    have dc2 : (decide ((l1.len : Int) > 60)) = false := (decide_eq_false c2)
    refine SW.cond_f (t := decide ((l1.len : Int) > 60)) rfl dc2 ?_
    refine SW.skip ?_
    refine SW.seq ?_
    refine SW.seq ?_
    refine SW.region ?_
    refine SOps.val (v := sv l1) rfl (wantN rfl) (fun _ => by kernel_rfl) ?_
    refine SOps.val (v := .int .i64 (l1.len : Int)) rfl (wantN rfl) (fun _ => by kernel_rfl) ?_
    refine SOps.val (v := .int .i64 0) rfl (wantN rfl) (fun _ => by kernel_rfl) ?_
    refine SOps.nil ?_
    refine SW.block ?_
    refine SW.loop (fun k1 fr H => ∃ (g : Fr) (l3 : Sl) (x4 : Int) (x5 : Int), fr = g.upds [(8, sv l3), (9, (.int .i64 x4 : Value)), (10, (.int .i64 x5 : Value))] ∧ ladinglaw15_great.l1 F K k1 l3 x4 x5 H) F ⟨_, l1, (l1.len : Int), 0, (Fr.upds_self _ _ ⟨rfl, rfl, rfl, trivial⟩), h⟩ ?_
    clear h
    rintro k1 fr H ⟨g, l3, x4, x5, rfl, h⟩
    cases k1 with
    | zero => exact h.elim
    | succ k1 =>
      replace h : ladinglaw15_great.r1 F K (ladinglaw15_great.l1 F K k1) l3 x4 x5 H := h
      unfold ladinglaw15_great.r1 at h
      refine SW.seq ?_
      refine SW.region ?_
      refine SOps.val (v := .bool (decide (x5 < x4))) rfl (wantN rfl) (fun _ => by kernel_rfl) ?_
      refine SOps.nil ?_
      refine SW.seq ?_
      by_cases c6 : x5 < x4
      · replace h := h.1 c6
        have dc6 : (decide (x5 < x4)) = true := (decide_eq_true c6)
        refine SW.cond_t (t := decide (x5 < x4)) rfl dc6 ?_
        refine SW.skip ?_
        refine SW.seq ?_
        refine SW.block ?_
        refine SW.seq ?_
        refine SW.region ?_
        obtain ⟨p7, c8, c9, c10, h⟩ := h
        refine SOps.val (v := pv (some (p7.1, (p7.2 + x5.toNat * 1)))) rfl (wantN rfl) (fun w => ev_iaddr rfl Tryd.underlying55 (size := 1) (by kernel_rfl) rfl rfl c8 c9 c10 w) ?_
        obtain ⟨s11, c12, h⟩ := h
        refine SOps.rd (v := .string s11) rfl (wantN rfl) (fun w hw => ev_load1 rfl (fun _ => by kernel_rfl) (p := (p7.1, (p7.2 + x5.toNat * 1))) rfl c12 w hw) ?_
        refine SOps.val (v := .string s11) rfl (wantN rfl) (fun _ => by kernel_rfl) ?_
        refine SOps.nil ?_
        refine SW.seq ?_
        refine SW.region ?_
        refine SOps.val (v := .string s11) rfl (wantN rfl) (fun _ => by kernel_rfl) ?_
        refine SOps.val (v := .int .i64 (s11.size : Int)) rfl (wantN rfl) (fun _ => by kernel_rfl) ?_
        refine SOps.val (v := .bool (decide ((s11.size : Int) > 100))) rfl (wantN rfl) (fun _ => by kernel_rfl) ?_
        refine SOps.nil ?_
        by_cases c13 : (s11.size : Int) > 100
        · replace h := h.1 c13
          have dc13 : (decide ((s11.size : Int) > 100)) = true := (decide_eq_true c13)
          refine SW.cond_t (t := decide ((s11.size : Int) > 100)) rfl dc13 ?_
          refine SW.seq ?_
          refine SW.region ?_
          refine SOps.val (v := .bool true) rfl (wantN rfl) (fun _ => by kernel_rfl) ?_
          refine SOps.nil ?_
          obtain ⟨Hr, hr, h⟩ := h
          exact SW.ret (retQ.mk (.bool true) (res1 rfl rfl) hr ⟨true, rfl, h⟩)
        · replace h := h.2 c13
          have dc13 : (decide ((s11.size : Int) > 100)) = false := (decide_eq_false c13)
          refine SW.cond_f (t := decide ((s11.size : Int) > 100)) rfl dc13 ?_
          refine SW.skip ?_
          refine SW.region ?_
          refine SOps.val (v := .int .i64 (w64 (x5 + 1))) rfl (wantN rfl) (fun _ => by kernel_rfl) ?_
          refine SOps.val (v := .int .i64 (w64 (x5 + 1))) rfl (wantN rfl) (fun _ => by kernel_rfl) ?_
          refine SOps.nil ?_
          exact ⟨k1, Nat.lt_succ_self k1, _, l3, x4, w64 (x5 + 1), (Fr.upds_self _ _ ⟨rfl, rfl, rfl, trivial⟩), h⟩
      · replace h := h.2 c6
        have dc6 : (decide (x5 < x4)) = false := (decide_eq_false c6)
        refine SW.cond_f (t := decide (x5 < x4)) rfl dc6 ?_
        refine SW.exit ?_
        refine SW.seq ?_
        refine SW.region ?_
        refine SOps.val (v := .bool false) rfl (wantN rfl) (fun _ => by kernel_rfl) ?_
        refine SOps.nil ?_
        obtain ⟨Hr, hr, h⟩ := h
        exact SW.ret (retQ.mk (.bool false) (res1 rfl rfl) hr ⟨false, rfl, h⟩)

/-! ### lading/ladinglaw15.has: function 35 -/
def ladinglaw15_has.r1 (F : Nat) (K : Bool → SH → Prop) (R1 : Option (Nat × Nat) → Option (Nat × Nat) → Sl → ByteArray → Sl → Int → Int → SH → Prop) (p4 : Option (Nat × Nat)) (p5 : Option (Nat × Nat)) (l6 : Sl) (s7 : ByteArray) (l8 : Sl) (x9 : Int) (x10 : Int) (H : SH) : Prop :=
  (x10 < x9 →
    ∃ p12, l8.a = some p12 ∧ 0 ≤ x10 ∧ x10 < (l8.len : Int) ∧
    ∃ (s16 : ByteArray),
    SH.has H (p12.1, (p12.2 + x10.toNat * 1)) (.string s16) ∧
    ladingref03_Seal.wp F s16 H (fun s18 H19 =>
      s7.size + s18.size ≤ 9223372036854775807 ∧
      R1 p4 p5 l6 (s7 ++ s18) l8 x9 (w64 (x10 + 1)) H19
    )
  ) ∧ (¬ (x10 < x9) →
    disk_Disk_Log.wp F p4 H (fun s21 e22 H23 =>
      (e22 = none →
        (s21 = s7 →
          journal_Journal_Bytes.wp F p5 H23 (fun x26 H27 =>
            (x26 = (s7.size : Int) →
              journal_Journal_Len.wp F p5 H27 (fun x29 H30 =>
                (x29 = (l6.len : Int) →
                  journal_Journal_All.wp F p5 H30 (fun l32 H33 =>
                    ladingref09_Same.wp F l32 l6 H33 (fun q34 H35 =>
                      ∃ Hr, SH.le Hr H35 ∧ K q34 Hr
                    )
                  )
                ) ∧ (¬ (x29 = (l6.len : Int)) →
                  ∃ Hr, SH.le Hr H30 ∧ K false Hr
                )
              )
            ) ∧ (¬ (x26 = (s7.size : Int)) →
              ∃ Hr, SH.le Hr H27 ∧ K false Hr
            )
          )
        ) ∧ (¬ (s21 = s7) →
          ∃ Hr, SH.le Hr H23 ∧ K false Hr
        )
      ) ∧ (∀ v24, e22 = some v24 →
        ∃ Hr, SH.le Hr H23 ∧ K false Hr
      )
    )
  )
def ladinglaw15_has.l1 (F : Nat) (K : Bool → SH → Prop) : Nat → Option (Nat × Nat) → Option (Nat × Nat) → Sl → ByteArray → Sl → Int → Int → SH → Prop
  | 0, _, _, _, _, _, _, _, _ => False
  | k + 1, p4, p5, l6, s7, l8, x9, x10, H => ladinglaw15_has.r1 F K (ladinglaw15_has.l1 F K k) p4 p5 l6 s7 l8 x9 x10 H
def ladinglaw15_has.wp (F : Nat) (p1 : Option (Nat × Nat)) (p2 : Option (Nat × Nat)) (l3 : Sl) (H : SH) (K : Bool → SH → Prop) : Prop :=
  ladinglaw15_has.l1 F K F p1 p2 l3 ByteArray.empty l3 (l3.len : Int) 0 H
set_option maxHeartbeats 8000000 in
theorem ladinglaw15_has.sound (F : Nat) (p1 : Option (Nat × Nat)) (p2 : Option (Nat × Nat)) (l3 : Sl) (H : SH) (K : Bool → SH → Prop) (h : ladinglaw15_has.wp F p1 p2 l3 H K) : SCalls Tryd.prog 35 #[pv p1, pv p2, sv l3] H (fun v H' => ∃ (q39 : Bool), v = .bool q39 ∧ K q39 H') := by
  unfold ladinglaw15_has.wp at h
  refine SCalls.body Tryd.func35 rfl (Nat.le_of_ble_eq_true rfl) ?_
  refine SW.seq ?_
  refine SW.region ?_
  refine SOps.val (v := .bool false) rfl (wantN rfl) (fun _ => by kernel_rfl) ?_
  refine SOps.nil ?_
  refine SW.seq ?_
  refine SW.region ?_
  refine SOps.val (v := .string ByteArray.empty) rfl (wantN rfl) (fun _ => by kernel_rfl) ?_
  refine SOps.nil ?_
  refine SW.seq ?_
  refine SW.seq ?_
  refine SW.region ?_
  refine SOps.val (v := sv l3) rfl (wantN rfl) (fun _ => by kernel_rfl) ?_
  refine SOps.val (v := .int .i64 (l3.len : Int)) rfl (wantN rfl) (fun _ => by kernel_rfl) ?_
  refine SOps.val (v := .int .i64 0) rfl (wantN rfl) (fun _ => by kernel_rfl) ?_
  refine SOps.nil ?_
  refine SW.block ?_
  refine SW.loop (fun k1 fr H => ∃ (g : Fr) (p4 : Option (Nat × Nat)) (p5 : Option (Nat × Nat)) (l6 : Sl) (s7 : ByteArray) (l8 : Sl) (x9 : Int) (x10 : Int), fr = g.upds [(0, pv p4), (1, pv p5), (2, sv l6), (7, (.string s7 : Value)), (12, sv l8), (13, (.int .i64 x9 : Value)), (14, (.int .i64 x10 : Value))] ∧ ladinglaw15_has.l1 F K k1 p4 p5 l6 s7 l8 x9 x10 H) F ⟨_, p1, p2, l3, ByteArray.empty, l3, (l3.len : Int), 0, (Fr.upds_self _ _ ⟨rfl, rfl, rfl, rfl, rfl, rfl, rfl, trivial⟩), h⟩ ?_
  clear h
  rintro k1 fr H ⟨g, p4, p5, l6, s7, l8, x9, x10, rfl, h⟩
  cases k1 with
  | zero => exact h.elim
  | succ k1 =>
    replace h : ladinglaw15_has.r1 F K (ladinglaw15_has.l1 F K k1) p4 p5 l6 s7 l8 x9 x10 H := h
    unfold ladinglaw15_has.r1 at h
    refine SW.seq ?_
    refine SW.region ?_
    refine SOps.val (v := .bool (decide (x10 < x9))) rfl (wantN rfl) (fun _ => by kernel_rfl) ?_
    refine SOps.nil ?_
    refine SW.seq ?_
    by_cases c11 : x10 < x9
    · replace h := h.1 c11
      have dc11 : (decide (x10 < x9)) = true := (decide_eq_true c11)
      refine SW.cond_t (t := decide (x10 < x9)) rfl dc11 ?_
      refine SW.skip ?_
      refine SW.seq ?_
      refine SW.block ?_
      refine SW.seq ?_
      refine SW.region ?_
      obtain ⟨p12, c13, c14, c15, h⟩ := h
      refine SOps.val (v := pv (some (p12.1, (p12.2 + x10.toNat * 1)))) rfl (wantN rfl) (fun w => ev_iaddr rfl Tryd.underlying55 (size := 1) (by kernel_rfl) rfl rfl c13 c14 c15 w) ?_
      obtain ⟨s16, c17, h⟩ := h
      refine SOps.rd (v := .string s16) rfl (wantN rfl) (fun w hw => ev_load1 rfl (fun _ => by kernel_rfl) (p := (p12.1, (p12.2 + x10.toNat * 1))) rfl c17 w hw) ?_
      refine SOps.val (v := .string s16) rfl (wantN rfl) (fun _ => by kernel_rfl) ?_
      refine SOps.nil ?_
      refine SW.region ?_
      refine SOps.val (v := .string s7) rfl (wantN rfl) (fun _ => by kernel_rfl) ?_
      refine SOps.val (v := .string s16) rfl (wantN rfl) (fun _ => by kernel_rfl) ?_
      refine SOps.enter rfl (wantN rfl) (fun _ => by kernel_rfl) (ladingref03_Seal.sound F s16 H _ h) ?_
      clear h
      rintro v H19 ⟨s18, rfl, h⟩
      obtain ⟨c20, h⟩ := h
      refine SOps.val (v := .string (s7 ++ s18)) rfl (wantN rfl) (fun w => ev_cat rfl rfl rfl c20 w) ?_
      refine SOps.val (v := .string (s7 ++ s18)) rfl (wantN rfl) (fun _ => by kernel_rfl) ?_
      refine SOps.nil ?_
      refine SW.region ?_
      refine SOps.val (v := .int .i64 (w64 (x10 + 1))) rfl (wantN rfl) (fun _ => by kernel_rfl) ?_
      refine SOps.val (v := .int .i64 (w64 (x10 + 1))) rfl (wantN rfl) (fun _ => by kernel_rfl) ?_
      refine SOps.nil ?_
      exact ⟨k1, Nat.lt_succ_self k1, _, p4, p5, l6, s7 ++ s18, l8, x9, w64 (x10 + 1), (Fr.upds_self _ _ ⟨rfl, rfl, rfl, rfl, rfl, rfl, rfl, trivial⟩), h⟩
    · replace h := h.2 c11
      have dc11 : (decide (x10 < x9)) = false := (decide_eq_false c11)
      refine SW.cond_f (t := decide (x10 < x9)) rfl dc11 ?_
      refine SW.exit ?_
      refine SW.seq ?_
      refine SW.region ?_
      refine SOps.val (v := pv p4) rfl (wantN rfl) (fun _ => by kernel_rfl) ?_
      refine SOps.enter rfl (wantN rfl) (fun _ => by kernel_rfl) (disk_Disk_Log.sound F p4 H _ h) ?_
      clear h
      rintro v H23 ⟨s21, e22, rfl, h⟩
      refine SOps.val (v := .tuple #[.string s21, errV e22]) rfl (wantN rfl) (fun _ => by kernel_rfl) ?_
      refine SOps.val (v := .string s21) rfl (wantN rfl) (fun _ => by kernel_rfl) ?_
      refine SOps.val (v := errV e22) rfl (wantN rfl) (fun _ => by kernel_rfl) ?_
      refine SOps.val (v := .string s21) rfl (wantN rfl) (fun _ => by kernel_rfl) ?_
      refine SOps.val (v := errV e22) rfl (wantN rfl) (fun _ => by kernel_rfl) ?_
      refine SOps.nil ?_
      refine SW.seq ?_
      refine SW.region ?_
      refine SOps.val (v := errV e22) rfl (wantN rfl) (fun _ => by kernel_rfl) ?_
      rcases e22 with _ | v24
      · replace h := h.1 rfl
        refine SOps.val (v := .bool true) rfl (wantN rfl) (fun w => ev_errEq (e := none) rfl Tryd.underlying28 rfl rfl w) ?_
        refine SOps.val (v := .bool true) rfl (wantN rfl) (fun _ => by kernel_rfl) ?_
        refine SOps.val (v := .string s21) rfl (wantY (c := true) rfl rfl rfl rfl) (fun _ => by kernel_rfl) ?_
        refine SOps.val (v := .string s7) rfl (wantY (c := true) rfl rfl rfl rfl) (fun _ => by kernel_rfl) ?_
        refine SOps.val (v := .bool (decide (s21 = s7))) rfl (wantY (c := true) rfl rfl rfl rfl) (fun w => ev_eqS rfl rfl rfl w) ?_
        refine SOps.val (v := .bool (decide (s21 = s7))) rfl (wantN rfl) (fun w => ev_pickT (v := .bool (decide (s21 = s7))) rfl (t := true) rfl rfl rfl w) ?_
        refine SOps.val (v := .bool (decide (s21 = s7))) rfl (wantN rfl) (fun _ => by kernel_rfl) ?_
        by_cases c25 : s21 = s7
        · replace h := h.1 c25
          have dc25 : (decide (s21 = s7)) = true := (decide_eq_true c25)
          refine SOps.val (v := pv p5) rfl (wantY (c := decide (s21 = s7)) rfl rfl rfl dc25) (fun _ => by kernel_rfl) ?_
          refine SOps.enter rfl (wantY (c := decide (s21 = s7)) rfl rfl rfl dc25) (fun _ => by kernel_rfl) (journal_Journal_Bytes.sound F p5 H23 _ h) ?_
          clear h
          rintro v H27 ⟨x26, rfl, h⟩
          refine SOps.val (v := .string s7) rfl (wantY (c := decide (s21 = s7)) rfl rfl rfl dc25) (fun _ => by kernel_rfl) ?_
          refine SOps.val (v := .int .i64 (s7.size : Int)) rfl (wantY (c := decide (s21 = s7)) rfl rfl rfl dc25) (fun _ => by kernel_rfl) ?_
          refine SOps.val (v := .bool (x26 == (s7.size : Int))) rfl (wantY (c := decide (s21 = s7)) rfl rfl rfl dc25) (fun _ => by kernel_rfl) ?_
          refine SOps.val (v := .bool (x26 == (s7.size : Int))) rfl (wantN rfl) (fun w => ev_pickT (v := .bool (x26 == (s7.size : Int))) rfl (t := decide (s21 = s7)) rfl dc25 rfl w) ?_
          refine SOps.val (v := .bool (x26 == (s7.size : Int))) rfl (wantN rfl) (fun _ => by kernel_rfl) ?_
          by_cases c28 : x26 = (s7.size : Int)
          · replace h := h.1 c28
            have dc28 : (x26 == (s7.size : Int)) = true := (beq_iff_eq.mpr c28)
            refine SOps.val (v := pv p5) rfl (wantY (c := (x26 == (s7.size : Int))) rfl rfl rfl dc28) (fun _ => by kernel_rfl) ?_
            refine SOps.enter rfl (wantY (c := (x26 == (s7.size : Int))) rfl rfl rfl dc28) (fun _ => by kernel_rfl) (journal_Journal_Len.sound F p5 H27 _ h) ?_
            clear h
            rintro v H30 ⟨x29, rfl, h⟩
            refine SOps.val (v := sv l6) rfl (wantY (c := (x26 == (s7.size : Int))) rfl rfl rfl dc28) (fun _ => by kernel_rfl) ?_
            refine SOps.val (v := .int .i64 (l6.len : Int)) rfl (wantY (c := (x26 == (s7.size : Int))) rfl rfl rfl dc28) (fun _ => by kernel_rfl) ?_
            refine SOps.val (v := .bool (x29 == (l6.len : Int))) rfl (wantY (c := (x26 == (s7.size : Int))) rfl rfl rfl dc28) (fun _ => by kernel_rfl) ?_
            refine SOps.val (v := .bool (x29 == (l6.len : Int))) rfl (wantN rfl) (fun w => ev_pickT (v := .bool (x29 == (l6.len : Int))) rfl (t := (x26 == (s7.size : Int))) rfl dc28 rfl w) ?_
            refine SOps.val (v := .bool (x29 == (l6.len : Int))) rfl (wantN rfl) (fun _ => by kernel_rfl) ?_
            by_cases c31 : x29 = (l6.len : Int)
            · replace h := h.1 c31
              have dc31 : (x29 == (l6.len : Int)) = true := (beq_iff_eq.mpr c31)
              refine SOps.val (v := pv p5) rfl (wantY (c := (x29 == (l6.len : Int))) rfl rfl rfl dc31) (fun _ => by kernel_rfl) ?_
              refine SOps.enter rfl (wantY (c := (x29 == (l6.len : Int))) rfl rfl rfl dc31) (fun _ => by kernel_rfl) (journal_Journal_All.sound F p5 H30 _ h) ?_
              clear h
              rintro v H33 ⟨l32, rfl, h⟩
              refine SOps.val (v := sv l6) rfl (wantY (c := (x29 == (l6.len : Int))) rfl rfl rfl dc31) (fun _ => by kernel_rfl) ?_
              refine SOps.enter rfl (wantY (c := (x29 == (l6.len : Int))) rfl rfl rfl dc31) (fun _ => by kernel_rfl) (ladingref09_Same.sound F l32 l6 H33 _ h) ?_
              clear h
              rintro v H35 ⟨q34, rfl, h⟩
              refine SOps.val (v := .bool q34) rfl (wantN rfl) (fun w => ev_pickT (v := .bool q34) rfl (t := (x29 == (l6.len : Int))) rfl dc31 rfl w) ?_
              refine SOps.val (v := .bool q34) rfl (wantN rfl) (fun _ => by kernel_rfl) ?_
              refine SOps.nil ?_
              obtain ⟨Hr, hr, h⟩ := h
              exact SW.ret (retQ.mk (.bool q34) (res1 rfl rfl) hr ⟨q34, rfl, h⟩)
            · replace h := h.2 c31
              have dc31 : (x29 == (l6.len : Int)) = false := (beq_eq_false_iff_ne.mpr c31)
              refine SOps.off rfl (wantX (c := (x29 == (l6.len : Int))) rfl rfl rfl dc31) ?_
              refine SOps.off rfl (wantX (c := (x29 == (l6.len : Int))) rfl rfl rfl dc31) ?_
              refine SOps.off rfl (wantX (c := (x29 == (l6.len : Int))) rfl rfl rfl dc31) ?_
              refine SOps.off rfl (wantX (c := (x29 == (l6.len : Int))) rfl rfl rfl dc31) ?_
              refine SOps.val (v := .bool false) rfl (wantN rfl) (fun w => ev_pickF (v := .bool false) rfl (t := (x29 == (l6.len : Int))) rfl dc31 rfl w) ?_
              refine SOps.val (v := .bool false) rfl (wantN rfl) (fun _ => by kernel_rfl) ?_
              refine SOps.nil ?_
              obtain ⟨Hr, hr, h⟩ := h
              exact SW.ret (retQ.mk (.bool false) (res1 rfl rfl) hr ⟨false, rfl, h⟩)
          · replace h := h.2 c28
            have dc28 : (x26 == (s7.size : Int)) = false := (beq_eq_false_iff_ne.mpr c28)
            refine SOps.off rfl (wantX (c := (x26 == (s7.size : Int))) rfl rfl rfl dc28) ?_
            refine SOps.off rfl (wantX (c := (x26 == (s7.size : Int))) rfl rfl rfl dc28) ?_
            refine SOps.off rfl (wantX (c := (x26 == (s7.size : Int))) rfl rfl rfl dc28) ?_
            refine SOps.off rfl (wantX (c := (x26 == (s7.size : Int))) rfl rfl rfl dc28) ?_
            refine SOps.off rfl (wantX (c := (x26 == (s7.size : Int))) rfl rfl rfl dc28) ?_
            refine SOps.val (v := .bool false) rfl (wantN rfl) (fun w => ev_pickF (v := .bool false) rfl (t := (x26 == (s7.size : Int))) rfl dc28 rfl w) ?_
            refine SOps.val (v := .bool false) rfl (wantN rfl) (fun _ => by kernel_rfl) ?_
            refine SOps.off rfl (wantX (c := false) rfl rfl rfl rfl) ?_
            refine SOps.off rfl (wantX (c := false) rfl rfl rfl rfl) ?_
            refine SOps.off rfl (wantX (c := false) rfl rfl rfl rfl) ?_
            refine SOps.off rfl (wantX (c := false) rfl rfl rfl rfl) ?_
            refine SOps.val (v := .bool false) rfl (wantN rfl) (fun w => ev_pickF (v := .bool false) rfl (t := false) rfl rfl rfl w) ?_
            refine SOps.val (v := .bool false) rfl (wantN rfl) (fun _ => by kernel_rfl) ?_
            refine SOps.nil ?_
            obtain ⟨Hr, hr, h⟩ := h
            exact SW.ret (retQ.mk (.bool false) (res1 rfl rfl) hr ⟨false, rfl, h⟩)
        · replace h := h.2 c25
          have dc25 : (decide (s21 = s7)) = false := (decide_eq_false c25)
          refine SOps.off rfl (wantX (c := decide (s21 = s7)) rfl rfl rfl dc25) ?_
          refine SOps.off rfl (wantX (c := decide (s21 = s7)) rfl rfl rfl dc25) ?_
          refine SOps.off rfl (wantX (c := decide (s21 = s7)) rfl rfl rfl dc25) ?_
          refine SOps.off rfl (wantX (c := decide (s21 = s7)) rfl rfl rfl dc25) ?_
          refine SOps.off rfl (wantX (c := decide (s21 = s7)) rfl rfl rfl dc25) ?_
          refine SOps.val (v := .bool false) rfl (wantN rfl) (fun w => ev_pickF (v := .bool false) rfl (t := decide (s21 = s7)) rfl dc25 rfl w) ?_
          refine SOps.val (v := .bool false) rfl (wantN rfl) (fun _ => by kernel_rfl) ?_
          refine SOps.off rfl (wantX (c := false) rfl rfl rfl rfl) ?_
          refine SOps.off rfl (wantX (c := false) rfl rfl rfl rfl) ?_
          refine SOps.off rfl (wantX (c := false) rfl rfl rfl rfl) ?_
          refine SOps.off rfl (wantX (c := false) rfl rfl rfl rfl) ?_
          refine SOps.off rfl (wantX (c := false) rfl rfl rfl rfl) ?_
          refine SOps.val (v := .bool false) rfl (wantN rfl) (fun w => ev_pickF (v := .bool false) rfl (t := false) rfl rfl rfl w) ?_
          refine SOps.val (v := .bool false) rfl (wantN rfl) (fun _ => by kernel_rfl) ?_
          refine SOps.off rfl (wantX (c := false) rfl rfl rfl rfl) ?_
          refine SOps.off rfl (wantX (c := false) rfl rfl rfl rfl) ?_
          refine SOps.off rfl (wantX (c := false) rfl rfl rfl rfl) ?_
          refine SOps.off rfl (wantX (c := false) rfl rfl rfl rfl) ?_
          refine SOps.val (v := .bool false) rfl (wantN rfl) (fun w => ev_pickF (v := .bool false) rfl (t := false) rfl rfl rfl w) ?_
          refine SOps.val (v := .bool false) rfl (wantN rfl) (fun _ => by kernel_rfl) ?_
          refine SOps.nil ?_
          obtain ⟨Hr, hr, h⟩ := h
          exact SW.ret (retQ.mk (.bool false) (res1 rfl rfl) hr ⟨false, rfl, h⟩)
      · replace h := h.2 v24 rfl
        refine SOps.val (v := .bool false) rfl (wantN rfl) (fun w => ev_errEq (e := some v24) rfl Tryd.underlying28 rfl rfl w) ?_
        refine SOps.val (v := .bool false) rfl (wantN rfl) (fun _ => by kernel_rfl) ?_
        refine SOps.off rfl (wantX (c := false) rfl rfl rfl rfl) ?_
        refine SOps.off rfl (wantX (c := false) rfl rfl rfl rfl) ?_
        refine SOps.off rfl (wantX (c := false) rfl rfl rfl rfl) ?_
        refine SOps.val (v := .bool false) rfl (wantN rfl) (fun w => ev_pickF (v := .bool false) rfl (t := false) rfl rfl rfl w) ?_
        refine SOps.val (v := .bool false) rfl (wantN rfl) (fun _ => by kernel_rfl) ?_
        refine SOps.off rfl (wantX (c := false) rfl rfl rfl rfl) ?_
        refine SOps.off rfl (wantX (c := false) rfl rfl rfl rfl) ?_
        refine SOps.off rfl (wantX (c := false) rfl rfl rfl rfl) ?_
        refine SOps.off rfl (wantX (c := false) rfl rfl rfl rfl) ?_
        refine SOps.off rfl (wantX (c := false) rfl rfl rfl rfl) ?_
        refine SOps.val (v := .bool false) rfl (wantN rfl) (fun w => ev_pickF (v := .bool false) rfl (t := false) rfl rfl rfl w) ?_
        refine SOps.val (v := .bool false) rfl (wantN rfl) (fun _ => by kernel_rfl) ?_
        refine SOps.off rfl (wantX (c := false) rfl rfl rfl rfl) ?_
        refine SOps.off rfl (wantX (c := false) rfl rfl rfl rfl) ?_
        refine SOps.off rfl (wantX (c := false) rfl rfl rfl rfl) ?_
        refine SOps.off rfl (wantX (c := false) rfl rfl rfl rfl) ?_
        refine SOps.off rfl (wantX (c := false) rfl rfl rfl rfl) ?_
        refine SOps.val (v := .bool false) rfl (wantN rfl) (fun w => ev_pickF (v := .bool false) rfl (t := false) rfl rfl rfl w) ?_
        refine SOps.val (v := .bool false) rfl (wantN rfl) (fun _ => by kernel_rfl) ?_
        refine SOps.off rfl (wantX (c := false) rfl rfl rfl rfl) ?_
        refine SOps.off rfl (wantX (c := false) rfl rfl rfl rfl) ?_
        refine SOps.off rfl (wantX (c := false) rfl rfl rfl rfl) ?_
        refine SOps.off rfl (wantX (c := false) rfl rfl rfl rfl) ?_
        refine SOps.val (v := .bool false) rfl (wantN rfl) (fun w => ev_pickF (v := .bool false) rfl (t := false) rfl rfl rfl w) ?_
        refine SOps.val (v := .bool false) rfl (wantN rfl) (fun _ => by kernel_rfl) ?_
        refine SOps.nil ?_
        obtain ⟨Hr, hr, h⟩ := h
        exact SW.ret (retQ.mk (.bool false) (res1 rfl rfl) hr ⟨false, rfl, h⟩)

/-! ### lading/ladinglaw15.JournalLast$1: function 36 -/
def ladinglaw15_JournalLast_1.wp (F : Nat) (s1 : ByteArray) (p2 : Option (Nat × Nat)) (H : SH) (K : Bool → SH → Prop) : Prop :=
  (p2 = none →
    False
  ) ∧ (∀ b3 o4, p2 = some (b3, o4) →
    ∃ (x5 : Int),
    SH.has H (b3, o4) (.int .u8 x5) ∧
    ∃ Hr, SH.le Hr H ∧ K (((s1.size : Int).tmod 4) == ((w64 x5).tmod 4)) Hr
  )
set_option maxHeartbeats 8000000 in
theorem ladinglaw15_JournalLast_1.sound (F : Nat) (s1 : ByteArray) (p2 : Option (Nat × Nat)) (H : SH) (K : Bool → SH → Prop) (h : ladinglaw15_JournalLast_1.wp F s1 p2 H K) : SCalls Tryd.prog 36 #[.string s1, pv p2] H (fun v H' => ∃ (q8 : Bool), v = .bool q8 ∧ K q8 H') := by
  unfold ladinglaw15_JournalLast_1.wp at h
  refine SCalls.body Tryd.func36 rfl (Nat.le_of_ble_eq_true rfl) ?_
  refine SW.seq ?_
  refine SW.region ?_
  refine SOps.val (v := .bool false) rfl (wantN rfl) (fun _ => by kernel_rfl) ?_
  refine SOps.nil ?_
  refine SW.seq ?_
  refine SW.region ?_
  refine SOps.val (v := .string s1) rfl (wantN rfl) (fun _ => by kernel_rfl) ?_
  refine SOps.val (v := .int .i64 (s1.size : Int)) rfl (wantN rfl) (fun _ => by kernel_rfl) ?_
  refine SOps.val (v := .int .i64 ((s1.size : Int).tmod 4)) rfl (wantN rfl) (fun w => ev_rem rfl rfl rfl (by decide) w) ?_
  rcases p2 with _ | ⟨b3, o4⟩
  · replace h := h.1 rfl
    exact h.elim
  · replace h := h.2 b3 o4 rfl
    obtain ⟨x5, c6, h⟩ := h
    refine SOps.rd (v := .int .u8 x5) rfl (wantN rfl) (fun w hw => ev_load1 rfl (fun _ => by kernel_rfl) (p := (b3, o4)) rfl c6 w hw) ?_
    refine SOps.val (v := .int .i64 (w64 x5)) rfl (wantN rfl) (fun _ => by kernel_rfl) ?_
    refine SOps.val (v := .int .i64 ((w64 x5).tmod 4)) rfl (wantN rfl) (fun w => ev_rem rfl rfl rfl (by decide) w) ?_
    refine SOps.val (v := .bool (((s1.size : Int).tmod 4) == ((w64 x5).tmod 4))) rfl (wantN rfl) (fun _ => by kernel_rfl) ?_
    refine SOps.val (v := .bool (((s1.size : Int).tmod 4) == ((w64 x5).tmod 4))) rfl (wantN rfl) (fun _ => by kernel_rfl) ?_
    refine SOps.nil ?_
    obtain ⟨Hr, hr, h⟩ := h
    exact SW.ret (retQ.mk (.bool (((s1.size : Int).tmod 4) == ((w64 x5).tmod 4))) (res1 rfl rfl) hr ⟨(((s1.size : Int).tmod 4) == ((w64 x5).tmod 4)), rfl, h⟩)

/-! ### lading/ladinglaw15.great: function 29 -/
def ladinglaw15_great__w0.r1 (F : Nat) (K : Bool → SH → Prop) (R1 : SlW → Int → Int → SH → Prop) (l3 : SlW) (x4 : Int) (x5 : Int) (H : SH) : Prop :=
  (x5 < x4 →
    ∃ p7, l3.a = some (ad p7) ∧ 0 ≤ x5 ∧ x5 < (l3.len : Int) ∧
    ∃ (s11 : ByteArray),
    SH.has H (p7.1, (p7.2 + x5.toNat * 1)) (.string s11) ∧
    ((s11.size : Int) > 100 →
      ∃ Hr, SH.le Hr H ∧ K true Hr
    ) ∧ (¬ ((s11.size : Int) > 100) →
      R1 l3 x4 (w64 (x5 + 1)) H
    )
  ) ∧ (¬ (x5 < x4) →
    ∃ Hr, SH.le Hr H ∧ K false Hr
  )
def ladinglaw15_great__w0.l1 (F : Nat) (K : Bool → SH → Prop) : Nat → SlW → Int → Int → SH → Prop
  | 0, _, _, _, _ => False
  | k + 1, l3, x4, x5, H => ladinglaw15_great__w0.r1 F K (ladinglaw15_great__w0.l1 F K k) l3 x4 x5 H
def ladinglaw15_great__w0.wp (F : Nat) (l1 : SlW) (H : SH) (K : Bool → SH → Prop) : Prop :=
  ((l1.len : Int) > 60 →
    ∃ Hr, SH.le Hr H ∧ K true Hr
  ) ∧ (¬ ((l1.len : Int) > 60) →
    ladinglaw15_great__w0.l1 F K F l1 (l1.len : Int) 0 H
  )
set_option maxHeartbeats 8000000 in
theorem ladinglaw15_great__w0.sound (F : Nat) (l1 : SlW) (H : SH) (K : Bool → SH → Prop) (h : ladinglaw15_great__w0.wp F l1 H K) : SCalls Tryd.prog 29 #[swv l1] H (fun v H' => ∃ (q17 : Bool), v = .bool q17 ∧ K q17 H') := by
  unfold ladinglaw15_great__w0.wp at h
  refine SCalls.body Tryd.func29 rfl (Nat.le_of_ble_eq_true rfl) ?_
  refine SW.seq ?_
  refine SW.region ?_
  refine SOps.val (v := .bool false) rfl (wantN rfl) (fun _ => by kernel_rfl) ?_
  refine SOps.nil ?_
  refine SW.seq ?_
  refine SW.seq ?_
  refine SW.region ?_
  refine SOps.val (v := swv l1) rfl (wantN rfl) (fun _ => by kernel_rfl) ?_
  refine SOps.val (v := .int .i64 (l1.len : Int)) rfl (wantN rfl) (fun _ => by kernel_rfl) ?_
  refine SOps.val (v := .bool (decide ((l1.len : Int) > 60))) rfl (wantN rfl) (fun _ => by kernel_rfl) ?_
  refine SOps.nil ?_
  by_cases c2 : (l1.len : Int) > 60
  · replace h := h.1 c2
    have dc2 : (decide ((l1.len : Int) > 60)) = true := (decide_eq_true c2)
    refine SW.cond_t (t := decide ((l1.len : Int) > 60)) rfl dc2 ?_
    refine SW.seq ?_
    refine SW.region ?_
    refine SOps.val (v := .bool true) rfl (wantN rfl) (fun _ => by kernel_rfl) ?_
    refine SOps.nil ?_
    obtain ⟨Hr, hr, h⟩ := h
    exact SW.ret (retQ.mk (.bool true) (res1 rfl rfl) hr ⟨true, rfl, h⟩)
  · replace h := h.2 c2
    have dc2 : (decide ((l1.len : Int) > 60)) = false := (decide_eq_false c2)
    refine SW.cond_f (t := decide ((l1.len : Int) > 60)) rfl dc2 ?_
    refine SW.skip ?_
    refine SW.seq ?_
    refine SW.seq ?_
    refine SW.region ?_
    refine SOps.val (v := swv l1) rfl (wantN rfl) (fun _ => by kernel_rfl) ?_
    refine SOps.val (v := .int .i64 (l1.len : Int)) rfl (wantN rfl) (fun _ => by kernel_rfl) ?_
    refine SOps.val (v := .int .i64 0) rfl (wantN rfl) (fun _ => by kernel_rfl) ?_
    refine SOps.nil ?_
    refine SW.block ?_
    refine SW.loop (fun k1 fr H => ∃ (g : Fr) (l3 : SlW) (x4 : Int) (x5 : Int), fr = g.upds [(8, swv l3), (9, (.int .i64 x4 : Value)), (10, (.int .i64 x5 : Value))] ∧ ladinglaw15_great__w0.l1 F K k1 l3 x4 x5 H) F ⟨_, l1, (l1.len : Int), 0, (Fr.upds_self _ _ ⟨rfl, rfl, rfl, trivial⟩), h⟩ ?_
    clear h
    rintro k1 fr H ⟨g, l3, x4, x5, rfl, h⟩
    cases k1 with
    | zero => exact h.elim
    | succ k1 =>
      replace h : ladinglaw15_great__w0.r1 F K (ladinglaw15_great__w0.l1 F K k1) l3 x4 x5 H := h
      unfold ladinglaw15_great__w0.r1 at h
      refine SW.seq ?_
      refine SW.region ?_
      refine SOps.val (v := .bool (decide (x5 < x4))) rfl (wantN rfl) (fun _ => by kernel_rfl) ?_
      refine SOps.nil ?_
      refine SW.seq ?_
      by_cases c6 : x5 < x4
      · replace h := h.1 c6
        have dc6 : (decide (x5 < x4)) = true := (decide_eq_true c6)
        refine SW.cond_t (t := decide (x5 < x4)) rfl dc6 ?_
        refine SW.skip ?_
        refine SW.seq ?_
        refine SW.block ?_
        refine SW.seq ?_
        refine SW.region ?_
        obtain ⟨p7, c8, c9, c10, h⟩ := h
        refine SOps.val (v := pv (some (p7.1, (p7.2 + x5.toNat * 1)))) rfl (wantN rfl) (fun w => ev_iaddrW rfl Tryd.underlying55 (size := 1) (by kernel_rfl) rfl rfl c8 c9 c10 w) ?_
        obtain ⟨s11, c12, h⟩ := h
        refine SOps.rd (v := .string s11) rfl (wantN rfl) (fun w hw => ev_load1 rfl (fun _ => by kernel_rfl) (p := (p7.1, (p7.2 + x5.toNat * 1))) rfl c12 w hw) ?_
        refine SOps.val (v := .string s11) rfl (wantN rfl) (fun _ => by kernel_rfl) ?_
        refine SOps.nil ?_
        refine SW.seq ?_
        refine SW.region ?_
        refine SOps.val (v := .string s11) rfl (wantN rfl) (fun _ => by kernel_rfl) ?_
        refine SOps.val (v := .int .i64 (s11.size : Int)) rfl (wantN rfl) (fun _ => by kernel_rfl) ?_
        refine SOps.val (v := .bool (decide ((s11.size : Int) > 100))) rfl (wantN rfl) (fun _ => by kernel_rfl) ?_
        refine SOps.nil ?_
        by_cases c13 : (s11.size : Int) > 100
        · replace h := h.1 c13
          have dc13 : (decide ((s11.size : Int) > 100)) = true := (decide_eq_true c13)
          refine SW.cond_t (t := decide ((s11.size : Int) > 100)) rfl dc13 ?_
          refine SW.seq ?_
          refine SW.region ?_
          refine SOps.val (v := .bool true) rfl (wantN rfl) (fun _ => by kernel_rfl) ?_
          refine SOps.nil ?_
          obtain ⟨Hr, hr, h⟩ := h
          exact SW.ret (retQ.mk (.bool true) (res1 rfl rfl) hr ⟨true, rfl, h⟩)
        · replace h := h.2 c13
          have dc13 : (decide ((s11.size : Int) > 100)) = false := (decide_eq_false c13)
          refine SW.cond_f (t := decide ((s11.size : Int) > 100)) rfl dc13 ?_
          refine SW.skip ?_
          refine SW.region ?_
          refine SOps.val (v := .int .i64 (w64 (x5 + 1))) rfl (wantN rfl) (fun _ => by kernel_rfl) ?_
          refine SOps.val (v := .int .i64 (w64 (x5 + 1))) rfl (wantN rfl) (fun _ => by kernel_rfl) ?_
          refine SOps.nil ?_
          exact ⟨k1, Nat.lt_succ_self k1, _, l3, x4, w64 (x5 + 1), (Fr.upds_self _ _ ⟨rfl, rfl, rfl, trivial⟩), h⟩
      · replace h := h.2 c6
        have dc6 : (decide (x5 < x4)) = false := (decide_eq_false c6)
        refine SW.cond_f (t := decide (x5 < x4)) rfl dc6 ?_
        refine SW.exit ?_
        refine SW.seq ?_
        refine SW.region ?_
        refine SOps.val (v := .bool false) rfl (wantN rfl) (fun _ => by kernel_rfl) ?_
        refine SOps.nil ?_
        obtain ⟨Hr, hr, h⟩ := h
        exact SW.ret (retQ.mk (.bool false) (res1 rfl rfl) hr ⟨false, rfl, h⟩)

end Go.Proofs.YtknhlipealekoaaDoor.K
