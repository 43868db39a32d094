import Derived.Test.YtknhlipealekoaaGdisk
import Derived.Test.YtknhlipealekoaaSatWrit
set_option linter.unusedVariables false
set_option linter.unusedSimpArgs false
set_option maxRecDepth 100000
namespace Go.Proofs.Ytknhlipealekoaa.K
open Go
attribute [local irreducible] SW SOps SQ SCalls retQ

/-! ### lading/ladinglaw14.awake: function 6 -/
def ladinglaw14_awake.wp (F : Nat) (H : SH) (K : Bool → SH → Prop) : Prop :=
  disk_New.wp F 2 H (fun p1 H2 =>
    (p1 = none →
      ∃ Hr, SH.le Hr H2 ∧ K false Hr
    ) ∧ (∀ b3 o4, p1 = some (b3, o4) →
      disk_Disk_Append.wp F (some (b3, o4)) (⟨#[97, 98]⟩ : ByteArray) H2 (fun e5 H6 =>
        (e5 = none →
          disk_Disk_Sync.wp F (some (b3, o4)) H6 (fun e8 H9 =>
            (e8 = none →
              disk_Disk_Append.wp F (some (b3, o4)) (⟨#[99, 100]⟩ : ByteArray) H9 (fun e11 H12 =>
                (e11 = none →
                  disk_Disk_Crash.wp F (some (b3, o4)) Sl.nil 0 H12 (fun H14 =>
                    disk_Disk_Log.wp F (some (b3, o4)) H14 (fun s15 e16 H17 =>
                      (s15 = (⟨#[97, 98]⟩ : ByteArray) →
                        (e16 = none →
                          disk_Disk_Slots.wp F (some (b3, o4)) H17 (fun x20 H21 =>
                            ∃ Hr, SH.le Hr H21 ∧ K (x20 == 2) Hr
                          )
                        ) ∧ (∀ v19, e16 = some v19 →
                          ∃ Hr, SH.le Hr H17 ∧ K false Hr
                        )
                      ) ∧ (¬ (s15 = (⟨#[97, 98]⟩ : ByteArray)) →
                        ∃ Hr, SH.le Hr H17 ∧ K false Hr
                      )
                    )
                  )
                ) ∧ (∀ v13, e11 = some v13 →
                  ∃ Hr, SH.le Hr H12 ∧ K false Hr
                )
              )
            ) ∧ (∀ v10, e8 = some v10 →
              ∃ Hr, SH.le Hr H9 ∧ K false Hr
            )
          )
        ) ∧ (∀ v7, e5 = some v7 →
          ∃ Hr, SH.le Hr H6 ∧ K false Hr
        )
      )
    )
  )
set_option maxHeartbeats 8000000 in
theorem ladinglaw14_awake.sound (F : Nat) (H : SH) (K : Bool → SH → Prop) (h : ladinglaw14_awake.wp F H K) : SCalls Try.prog 6 #[] H (fun v H' => ∃ (q23 : Bool), v = .bool q23 ∧ K q23 H') := by
  unfold ladinglaw14_awake.wp at h
  refine SCalls.body Try.func6 rfl (Nat.le_of_ble_eq_true rfl) ?_
  refine SW.seq ?_
  refine SW.region ?_
  refine SOps.val (v := .bool false) rfl (wantN rfl) (fun _ => by kernel_rfl) ?_
  refine SOps.nil ?_
  refine SW.seq ?_
  refine SW.region ?_
  refine SOps.enter rfl (wantN rfl) (fun _ => by kernel_rfl) (disk_New.sound F 2 H _ h) ?_
  clear h
  rintro v H2 ⟨p1, rfl, h⟩
  refine SOps.val (v := pv p1) rfl (wantN rfl) (fun _ => by kernel_rfl) ?_
  refine SOps.nil ?_
  refine SW.seq ?_
  refine SW.seq ?_
  refine SW.region ?_
  refine SOps.val (v := pv p1) rfl (wantN rfl) (fun _ => by kernel_rfl) ?_
  rcases p1 with _ | ⟨b3, o4⟩
  · replace h := h.1 rfl
    refine SOps.val (v := .bool true) rfl (wantN rfl) (fun _ => by kernel_rfl) ?_
    refine SOps.val (v := .bool true) rfl (wantN rfl) (fun _ => by kernel_rfl) ?_
    refine SOps.off rfl (wantX (c := true) rfl rfl rfl rfl) ?_
    refine SOps.off rfl (wantX (c := true) rfl rfl rfl rfl) ?_
    refine SOps.off rfl (wantX (c := true) rfl rfl rfl rfl) ?_
    refine SOps.val (v := .bool true) rfl (wantN rfl) (fun w => ev_pickT (v := .bool true) rfl (t := true) rfl rfl rfl w) ?_
    refine SOps.val (v := .bool true) rfl (wantN rfl) (fun _ => by kernel_rfl) ?_
    refine SOps.off rfl (wantX (c := true) rfl rfl rfl rfl) ?_
    refine SOps.off rfl (wantX (c := true) rfl rfl rfl rfl) ?_
    refine SOps.off rfl (wantX (c := true) rfl rfl rfl rfl) ?_
    refine SOps.val (v := .bool true) rfl (wantN rfl) (fun w => ev_pickT (v := .bool true) rfl (t := true) rfl rfl rfl w) ?_
    refine SOps.val (v := .bool true) rfl (wantN rfl) (fun _ => by kernel_rfl) ?_
    refine SOps.off rfl (wantX (c := true) rfl rfl rfl rfl) ?_
    refine SOps.off rfl (wantX (c := true) rfl rfl rfl rfl) ?_
    refine SOps.off rfl (wantX (c := true) rfl rfl rfl rfl) ?_
    refine SOps.val (v := .bool true) rfl (wantN rfl) (fun w => ev_pickT (v := .bool true) rfl (t := true) rfl rfl rfl w) ?_
    refine SOps.nil ?_
    refine SW.cond_t (t := true) rfl rfl ?_
    refine SW.seq ?_
    refine SW.region ?_
    refine SOps.val (v := .bool false) rfl (wantN rfl) (fun _ => by kernel_rfl) ?_
    refine SOps.nil ?_
    obtain ⟨Hr, hr, h⟩ := h
    exact SW.ret (retQ.mk (.bool false) (res1 rfl rfl) hr ⟨false, rfl, h⟩)
  · replace h := h.2 b3 o4 rfl
    refine SOps.val (v := .bool false) rfl (wantN rfl) (fun _ => by kernel_rfl) ?_
    refine SOps.val (v := .bool false) rfl (wantN rfl) (fun _ => by kernel_rfl) ?_
    refine SOps.val (v := pv (some (b3, o4))) rfl (wantY (c := false) rfl rfl rfl rfl) (fun _ => by kernel_rfl) ?_
    refine SOps.enter rfl (wantY (c := false) rfl rfl rfl rfl) (fun _ => by kernel_rfl) (disk_Disk_Append.sound F (some (b3, o4)) (⟨#[97, 98]⟩ : ByteArray) H2 _ h) ?_
    clear h
    rintro v H6 ⟨e5, rfl, h⟩
    rcases e5 with _ | v7
    · replace h := h.1 rfl
      refine SOps.val (v := .bool false) rfl (wantY (c := false) rfl rfl rfl rfl) (fun w => ev_errNe (e := none) rfl Try.underlying27 rfl rfl w) ?_
      refine SOps.val (v := .bool false) rfl (wantN rfl) (fun w => ev_pickF (v := .bool false) rfl (t := false) rfl rfl rfl w) ?_
      refine SOps.val (v := .bool false) rfl (wantN rfl) (fun _ => by kernel_rfl) ?_
      refine SOps.val (v := pv (some (b3, o4))) rfl (wantY (c := false) rfl rfl rfl rfl) (fun _ => by kernel_rfl) ?_
      refine SOps.enter rfl (wantY (c := false) rfl rfl rfl rfl) (fun _ => by kernel_rfl) (disk_Disk_Sync.sound F (some (b3, o4)) H6 _ h) ?_
      clear h
      rintro v H9 ⟨e8, rfl, h⟩
      rcases e8 with _ | v10
      · replace h := h.1 rfl
        refine SOps.val (v := .bool false) rfl (wantY (c := false) rfl rfl rfl rfl) (fun w => ev_errNe (e := none) rfl Try.underlying27 rfl rfl w) ?_
        refine SOps.val (v := .bool false) rfl (wantN rfl) (fun w => ev_pickF (v := .bool false) rfl (t := false) rfl rfl rfl w) ?_
        refine SOps.val (v := .bool false) rfl (wantN rfl) (fun _ => by kernel_rfl) ?_
        refine SOps.val (v := pv (some (b3, o4))) rfl (wantY (c := false) rfl rfl rfl rfl) (fun _ => by kernel_rfl) ?_
        refine SOps.enter rfl (wantY (c := false) rfl rfl rfl rfl) (fun _ => by kernel_rfl) (disk_Disk_Append.sound F (some (b3, o4)) (⟨#[99, 100]⟩ : ByteArray) H9 _ h) ?_
        clear h
        rintro v H12 ⟨e11, rfl, h⟩
        rcases e11 with _ | v13
        · replace h := h.1 rfl
          refine SOps.val (v := .bool false) rfl (wantY (c := false) rfl rfl rfl rfl) (fun w => ev_errNe (e := none) rfl Try.underlying27 rfl rfl w) ?_
          refine SOps.val (v := .bool false) rfl (wantN rfl) (fun w => ev_pickF (v := .bool false) rfl (t := false) rfl rfl rfl w) ?_
          refine SOps.nil ?_
          refine SW.cond_f (t := false) rfl rfl ?_
          refine SW.skip ?_
          refine SW.seq ?_
          refine SW.region ?_
          refine SOps.val (v := pv (some (b3, o4))) rfl (wantN rfl) (fun _ => by kernel_rfl) ?_
          refine SOps.val (v := .agg #[sv Sl.nil, .int .i64 0]) rfl (wantN rfl) (fun _ => by kernel_rfl) ?_
          refine SOps.enter rfl (wantN rfl) (fun _ => by kernel_rfl) (disk_Disk_Crash.sound F (some (b3, o4)) Sl.nil 0 H12 _ h) ?_
          clear h
          rintro v H14 ⟨rfl, h⟩
          refine SOps.nil ?_
          refine SW.seq ?_
          refine SW.region ?_
          refine SOps.val (v := pv (some (b3, o4))) rfl (wantN rfl) (fun _ => by kernel_rfl) ?_
          refine SOps.enter rfl (wantN rfl) (fun _ => by kernel_rfl) (disk_Disk_Log.sound F (some (b3, o4)) H14 _ h) ?_
          clear h
          rintro v H17 ⟨s15, e16, rfl, h⟩
          refine SOps.val (v := .tuple #[.string s15, errV e16]) rfl (wantN rfl) (fun _ => by kernel_rfl) ?_
          refine SOps.val (v := .string s15) rfl (wantN rfl) (fun _ => by kernel_rfl) ?_
          refine SOps.val (v := errV e16) rfl (wantN rfl) (fun _ => by kernel_rfl) ?_
          refine SOps.val (v := .string s15) rfl (wantN rfl) (fun _ => by kernel_rfl) ?_
          refine SOps.val (v := errV e16) rfl (wantN rfl) (fun _ => by kernel_rfl) ?_
          refine SOps.nil ?_
          refine SW.seq ?_
          refine SW.region ?_
          refine SOps.val (v := .string s15) rfl (wantN rfl) (fun _ => by kernel_rfl) ?_
          refine SOps.val (v := .bool (decide (s15 = (⟨#[97, 98]⟩ : ByteArray)))) rfl (wantN rfl) (fun w => ev_eqS rfl rfl rfl w) ?_
          refine SOps.val (v := .bool (decide (s15 = (⟨#[97, 98]⟩ : ByteArray)))) rfl (wantN rfl) (fun _ => by kernel_rfl) ?_
          by_cases c18 : s15 = (⟨#[97, 98]⟩ : ByteArray)
          · replace h := h.1 c18
            have dc18 : (decide (s15 = (⟨#[97, 98]⟩ : ByteArray))) = true := (decide_eq_true c18)
            refine SOps.val (v := errV e16) rfl (wantY (c := decide (s15 = (⟨#[97, 98]⟩ : ByteArray))) rfl rfl rfl dc18) (fun _ => by kernel_rfl) ?_
            rcases e16 with _ | v19
            · replace h := h.1 rfl
              refine SOps.val (v := .bool true) rfl (wantY (c := decide (s15 = (⟨#[97, 98]⟩ : ByteArray))) rfl rfl rfl dc18) (fun w => ev_errEq (e := none) rfl Try.underlying27 rfl rfl w) ?_
              refine SOps.val (v := .bool true) rfl (wantN rfl) (fun w => ev_pickT (v := .bool true) rfl (t := decide (s15 = (⟨#[97, 98]⟩ : ByteArray))) rfl dc18 rfl w) ?_
              refine SOps.val (v := .bool true) rfl (wantN rfl) (fun _ => by kernel_rfl) ?_
              refine SOps.val (v := pv (some (b3, o4))) rfl (wantY (c := true) rfl rfl rfl rfl) (fun _ => by kernel_rfl) ?_
              refine SOps.enter rfl (wantY (c := true) rfl rfl rfl rfl) (fun _ => by kernel_rfl) (disk_Disk_Slots.sound F (some (b3, o4)) H17 _ h) ?_
              clear h
              rintro v H21 ⟨x20, rfl, h⟩
              refine SOps.val (v := .bool (x20 == 2)) rfl (wantY (c := true) rfl rfl rfl rfl) (fun _ => by kernel_rfl) ?_
              refine SOps.val (v := .bool (x20 == 2)) rfl (wantN rfl) (fun w => ev_pickT (v := .bool (x20 == 2)) rfl (t := true) rfl rfl rfl w) ?_
              refine SOps.val (v := .bool (x20 == 2)) rfl (wantN rfl) (fun _ => by kernel_rfl) ?_
              refine SOps.nil ?_
              obtain ⟨Hr, hr, h⟩ := h
              exact SW.ret (retQ.mk (.bool (x20 == 2)) (res1 rfl rfl) hr ⟨(x20 == 2), rfl, h⟩)
            · replace h := h.2 v19 rfl
              refine SOps.val (v := .bool false) rfl (wantY (c := decide (s15 = (⟨#[97, 98]⟩ : ByteArray))) rfl rfl rfl dc18) (fun w => ev_errEq (e := some v19) rfl Try.underlying27 rfl rfl w) ?_
              refine SOps.val (v := .bool false) rfl (wantN rfl) (fun w => ev_pickT (v := .bool false) rfl (t := decide (s15 = (⟨#[97, 98]⟩ : ByteArray))) rfl dc18 rfl w) ?_
              refine SOps.val (v := .bool false) rfl (wantN rfl) (fun _ => by kernel_rfl) ?_
              refine SOps.off rfl (wantX (c := false) rfl rfl rfl rfl) ?_
              refine SOps.off rfl (wantX (c := false) rfl rfl rfl rfl) ?_
              refine SOps.off rfl (wantX (c := false) rfl rfl rfl rfl) ?_
              refine SOps.val (v := .bool false) rfl (wantN rfl) (fun w => ev_pickF (v := .bool false) rfl (t := false) rfl rfl rfl w) ?_
              refine SOps.val (v := .bool false) rfl (wantN rfl) (fun _ => by kernel_rfl) ?_
              refine SOps.nil ?_
              obtain ⟨Hr, hr, h⟩ := h
              exact SW.ret (retQ.mk (.bool false) (res1 rfl rfl) hr ⟨false, rfl, h⟩)
          · replace h := h.2 c18
            have dc18 : (decide (s15 = (⟨#[97, 98]⟩ : ByteArray))) = false := (decide_eq_false c18)
            refine SOps.off rfl (wantX (c := decide (s15 = (⟨#[97, 98]⟩ : ByteArray))) rfl rfl rfl dc18) ?_
            refine SOps.off rfl (wantX (c := decide (s15 = (⟨#[97, 98]⟩ : ByteArray))) rfl rfl rfl dc18) ?_
            refine SOps.val (v := .bool false) rfl (wantN rfl) (fun w => ev_pickF (v := .bool false) rfl (t := decide (s15 = (⟨#[97, 98]⟩ : ByteArray))) rfl dc18 rfl w) ?_
            refine SOps.val (v := .bool false) rfl (wantN rfl) (fun _ => by kernel_rfl) ?_
            refine SOps.off rfl (wantX (c := false) rfl rfl rfl rfl) ?_
            refine SOps.off rfl (wantX (c := false) rfl rfl rfl rfl) ?_
            refine SOps.off rfl (wantX (c := false) rfl rfl rfl rfl) ?_
            refine SOps.val (v := .bool false) rfl (wantN rfl) (fun w => ev_pickF (v := .bool false) rfl (t := false) rfl rfl rfl w) ?_
            refine SOps.val (v := .bool false) rfl (wantN rfl) (fun _ => by kernel_rfl) ?_
            refine SOps.nil ?_
            obtain ⟨Hr, hr, h⟩ := h
            exact SW.ret (retQ.mk (.bool false) (res1 rfl rfl) hr ⟨false, rfl, h⟩)
        · replace h := h.2 v13 rfl
          refine SOps.val (v := .bool true) rfl (wantY (c := false) rfl rfl rfl rfl) (fun w => ev_errNe (e := some v13) rfl Try.underlying27 rfl rfl w) ?_
          refine SOps.val (v := .bool true) rfl (wantN rfl) (fun w => ev_pickF (v := .bool true) rfl (t := false) rfl rfl rfl w) ?_
          refine SOps.nil ?_
          refine SW.cond_t (t := true) rfl rfl ?_
          refine SW.seq ?_
          refine SW.region ?_
          refine SOps.val (v := .bool false) rfl (wantN rfl) (fun _ => by kernel_rfl) ?_
          refine SOps.nil ?_
          obtain ⟨Hr, hr, h⟩ := h
          exact SW.ret (retQ.mk (.bool false) (res1 rfl rfl) hr ⟨false, rfl, h⟩)
      · replace h := h.2 v10 rfl
        refine SOps.val (v := .bool true) rfl (wantY (c := false) rfl rfl rfl rfl) (fun w => ev_errNe (e := some v10) rfl Try.underlying27 rfl rfl w) ?_
        refine SOps.val (v := .bool true) rfl (wantN rfl) (fun w => ev_pickF (v := .bool true) rfl (t := false) rfl rfl rfl w) ?_
        refine SOps.val (v := .bool true) rfl (wantN rfl) (fun _ => by kernel_rfl) ?_
        refine SOps.off rfl (wantX (c := true) rfl rfl rfl rfl) ?_
        refine SOps.off rfl (wantX (c := true) rfl rfl rfl rfl) ?_
        refine SOps.off rfl (wantX (c := true) rfl rfl rfl rfl) ?_
        refine SOps.val (v := .bool true) rfl (wantN rfl) (fun w => ev_pickT (v := .bool true) rfl (t := true) rfl rfl rfl w) ?_
        refine SOps.nil ?_
        refine SW.cond_t (t := true) rfl rfl ?_
        refine SW.seq ?_
        refine SW.region ?_
        refine SOps.val (v := .bool false) rfl (wantN rfl) (fun _ => by kernel_rfl) ?_
        refine SOps.nil ?_
        obtain ⟨Hr, hr, h⟩ := h
        exact SW.ret (retQ.mk (.bool false) (res1 rfl rfl) hr ⟨false, rfl, h⟩)
    · replace h := h.2 v7 rfl
      refine SOps.val (v := .bool true) rfl (wantY (c := false) rfl rfl rfl rfl) (fun w => ev_errNe (e := some v7) rfl Try.underlying27 rfl rfl w) ?_
      refine SOps.val (v := .bool true) rfl (wantN rfl) (fun w => ev_pickF (v := .bool true) rfl (t := false) rfl rfl rfl w) ?_
      refine SOps.val (v := .bool true) rfl (wantN rfl) (fun _ => by kernel_rfl) ?_
      refine SOps.off rfl (wantX (c := true) rfl rfl rfl rfl) ?_
      refine SOps.off rfl (wantX (c := true) rfl rfl rfl rfl) ?_
      refine SOps.off rfl (wantX (c := true) rfl rfl rfl rfl) ?_
      refine SOps.val (v := .bool true) rfl (wantN rfl) (fun w => ev_pickT (v := .bool true) rfl (t := true) rfl rfl rfl w) ?_
      refine SOps.val (v := .bool true) rfl (wantN rfl) (fun _ => by kernel_rfl) ?_
      refine SOps.off rfl (wantX (c := true) rfl rfl rfl rfl) ?_
      refine SOps.off rfl (wantX (c := true) rfl rfl rfl rfl) ?_
      refine SOps.off rfl (wantX (c := true) rfl rfl rfl rfl) ?_
      refine SOps.val (v := .bool true) rfl (wantN rfl) (fun w => ev_pickT (v := .bool true) rfl (t := true) rfl rfl rfl w) ?_
      refine SOps.nil ?_
      refine SW.cond_t (t := true) rfl rfl ?_
      refine SW.seq ?_
      refine SW.region ?_
      refine SOps.val (v := .bool false) rfl (wantN rfl) (fun _ => by kernel_rfl) ?_
      refine SOps.nil ?_
      obtain ⟨Hr, hr, h⟩ := h
      exact SW.ret (retQ.mk (.bool false) (res1 rfl rfl) hr ⟨false, rfl, h⟩)

end Go.Proofs.Ytknhlipealekoaa.K
