import Derived.Test.YtknhlipealekoaaDoorGdisk
import Derived.Test.YtknhlipealekoaaDoorGdiskW
import Derived.Test.YtknhlipealekoaaDoorApi2
import Derived.Test.YtknhlipealekoaaDoorSatWrit
set_option linter.unusedVariables false
set_option linter.unusedSimpArgs false
set_option maxRecDepth 100000
namespace Go.Proofs.YtknhlipealekoaaDoor.K
open Go
attribute [local irreducible] SW SOps SQ SCalls retQ

/-! ### lading/ladinglaw14.awake: function 9 -/
def ladinglaw14_awake.wp (F : Nat) (H : SH) (K : Bool → SH → Prop) : Prop :=
  disk_New.wp F 2 H (fun p1 H2 =>
    (p1 = none →
      ∃ Hr, SH.le Hr H2 ∧ K false Hr
    ) ∧ (∀ b3 o4, p1 = some (b3, o4) →
      disk_Disk_Append.wp F (some (b3, o4)) (⟨#[97, 98]⟩ : ByteArray) H2 (fun e5 H6 =>
        (e5 = none →
          disk_Disk_Sync.wp F (some (b3, o4)) H6 (fun e8 H9 =>
            (e8 = none →
              disk_Disk_Append.wp F (some (b3, o4)) (⟨#[99, 100]⟩ : ByteArray) H9 (fun e11 H12 =>
                (e11 = none →
                  disk_Disk_Crash.wp F (some (b3, o4)) Sl.nil 0 H12 (fun H14 =>
                    disk_Disk_Log.wp F (some (b3, o4)) H14 (fun s15 e16 H17 =>
                      (s15 = (⟨#[97, 98]⟩ : ByteArray) →
                        (e16 = none →
                          disk_Disk_Slots.wp F (some (b3, o4)) H17 (fun x20 H21 =>
                            ∃ Hr, SH.le Hr H21 ∧ K (x20 == 2) Hr
                          )
                        ) ∧ (∀ v19, e16 = some v19 →
                          ∃ Hr, SH.le Hr H17 ∧ K false Hr
                        )
                      ) ∧ (¬ (s15 = (⟨#[97, 98]⟩ : ByteArray)) →
                        ∃ Hr, SH.le Hr H17 ∧ K false Hr
                      )
                    )
                  )
                ) ∧ (∀ v13, e11 = some v13 →
                  ∃ Hr, SH.le Hr H12 ∧ K false Hr
                )
              )
            ) ∧ (∀ v10, e8 = some v10 →
              ∃ Hr, SH.le Hr H9 ∧ K false Hr
            )
          )
        ) ∧ (∀ v7, e5 = some v7 →
          ∃ Hr, SH.le Hr H6 ∧ K false Hr
        )
      )
    )
  )
set_option maxHeartbeats 8000000 in
theorem ladinglaw14_awake.sound (F : Nat) (H : SH) (K : Bool → SH → Prop) (h : ladinglaw14_awake.wp F H K) : SCalls Tryd.prog 9 #[] H (fun v H' => ∃ (q23 : Bool), v = .bool q23 ∧ K q23 H') := by
  unfold ladinglaw14_awake.wp at h
  refine SCalls.body Tryd.func9 rfl (Nat.le_of_ble_eq_true rfl) ?_
  refine SW.seq ?_
  refine SW.region ?_
  refine SOps.val (v := .bool false) rfl (wantN rfl) (fun _ => by kernel_rfl) ?_
  refine SOps.nil ?_
  refine SW.seq ?_
  refine SW.region ?_
  refine SOps.enter rfl (wantN rfl) (fun _ => by kernel_rfl) (disk_New.sound F 2 H _ h) ?_
  clear h
  rintro v H2 ⟨p1, rfl, h⟩
  refine SOps.val (v := pv p1) rfl (wantN rfl) (fun _ => by kernel_rfl) ?_
  refine SOps.nil ?_
  refine SW.seq ?_
  refine SW.seq ?_
  refine SW.region ?_
  refine SOps.val (v := pv p1) rfl (wantN rfl) (fun _ => by kernel_rfl) ?_
  rcases p1 with _ | ⟨b3, o4⟩
  · replace h := h.1 rfl
    refine SOps.val (v := .bool true) rfl (wantN rfl) (fun _ => by kernel_rfl) ?_
    refine SOps.val (v := .bool true) rfl (wantN rfl) (fun _ => by kernel_rfl) ?_
    refine SOps.off rfl (wantX (c := true) rfl rfl rfl rfl) ?_
    refine SOps.off rfl (wantX (c := true) rfl rfl rfl rfl) ?_
    refine SOps.off rfl (wantX (c := true) rfl rfl rfl rfl) ?_
    refine SOps.val (v := .bool true) rfl (wantN rfl) (fun w => ev_pickT (v := .bool true) rfl (t := true) rfl rfl rfl w) ?_
    refine SOps.val (v := .bool true) rfl (wantN rfl) (fun _ => by kernel_rfl) ?_
    refine SOps.off rfl (wantX (c := true) rfl rfl rfl rfl) ?_
    refine SOps.off rfl (wantX (c := true) rfl rfl rfl rfl) ?_
    refine SOps.off rfl (wantX (c := true) rfl rfl rfl rfl) ?_
    refine SOps.val (v := .bool true) rfl (wantN rfl) (fun w => ev_pickT (v := .bool true) rfl (t := true) rfl rfl rfl w) ?_
    refine SOps.val (v := .bool true) rfl (wantN rfl) (fun _ => by kernel_rfl) ?_
    refine SOps.off rfl (wantX (c := true) rfl rfl rfl rfl) ?_
    refine SOps.off rfl (wantX (c := true) rfl rfl rfl rfl) ?_
    refine SOps.off rfl (wantX (c := true) rfl rfl rfl rfl) ?_
    refine SOps.val (v := .bool true) rfl (wantN rfl) (fun w => ev_pickT (v := .bool true) rfl (t := true) rfl rfl rfl w) ?_
    refine SOps.nil ?_
    refine SW.cond_t (t := true) rfl rfl ?_
    refine SW.seq ?_
    refine SW.region ?_
    refine SOps.val (v := .bool false) rfl (wantN rfl) (fun _ => by kernel_rfl) ?_
    refine SOps.nil ?_
    obtain ⟨Hr, hr, h⟩ := h
    exact SW.ret (retQ.mk (.bool false) (res1 rfl rfl) hr ⟨false, rfl, h⟩)
  · replace h := h.2 b3 o4 rfl
    refine SOps.val (v := .bool false) rfl (wantN rfl) (fun _ => by kernel_rfl) ?_
    refine SOps.val (v := .bool false) rfl (wantN rfl) (fun _ => by kernel_rfl) ?_
    refine SOps.val (v := pv (some (b3, o4))) rfl (wantY (c := false) rfl rfl rfl rfl) (fun _ => by kernel_rfl) ?_
    refine SOps.enter rfl (wantY (c := false) rfl rfl rfl rfl) (fun _ => by kernel_rfl) (disk_Disk_Append.sound F (some (b3, o4)) (⟨#[97, 98]⟩ : ByteArray) H2 _ h) ?_
    clear h
    rintro v H6 ⟨e5, rfl, h⟩
    rcases e5 with _ | v7
    · replace h := h.1 rfl
      refine SOps.val (v := .bool false) rfl (wantY (c := false) rfl rfl rfl rfl) (fun w => ev_errNe (e := none) rfl Tryd.underlying28 rfl rfl w) ?_
      refine SOps.val (v := .bool false) rfl (wantN rfl) (fun w => ev_pickF (v := .bool false) rfl (t := false) rfl rfl rfl w) ?_
      refine SOps.val (v := .bool false) rfl (wantN rfl) (fun _ => by kernel_rfl) ?_
      refine SOps.val (v := pv (some (b3, o4))) rfl (wantY (c := false) rfl rfl rfl rfl) (fun _ => by kernel_rfl) ?_
      refine SOps.enter rfl (wantY (c := false) rfl rfl rfl rfl) (fun _ => by kernel_rfl) (disk_Disk_Sync.sound F (some (b3, o4)) H6 _ h) ?_
      clear h
      rintro v H9 ⟨e8, rfl, h⟩
      rcases e8 with _ | v10
      · replace h := h.1 rfl
        refine SOps.val (v := .bool false) rfl (wantY (c := false) rfl rfl rfl rfl) (fun w => ev_errNe (e := none) rfl Tryd.underlying28 rfl rfl w) ?_
        refine SOps.val (v := .bool false) rfl (wantN rfl) (fun w => ev_pickF (v := .bool false) rfl (t := false) rfl rfl rfl w) ?_
        refine SOps.val (v := .bool false) rfl (wantN rfl) (fun _ => by kernel_rfl) ?_
        refine SOps.val (v := pv (some (b3, o4))) rfl (wantY (c := false) rfl rfl rfl rfl) (fun _ => by kernel_rfl) ?_
        refine SOps.enter rfl (wantY (c := false) rfl rfl rfl rfl) (fun _ => by kernel_rfl) (disk_Disk_Append.sound F (some (b3, o4)) (⟨#[99, 100]⟩ : ByteArray) H9 _ h) ?_
        clear h
        rintro v H12 ⟨e11, rfl, h⟩
        rcases e11 with _ | v13
        · replace h := h.1 rfl
          refine SOps.val (v := .bool false) rfl (wantY (c := false) rfl rfl rfl rfl) (fun w => ev_errNe (e := none) rfl Tryd.underlying28 rfl rfl w) ?_
          refine SOps.val (v := .bool false) rfl (wantN rfl) (fun w => ev_pickF (v := .bool false) rfl (t := false) rfl rfl rfl w) ?_
          refine SOps.nil ?_
          refine SW.cond_f (t := false) rfl rfl ?_
          refine SW.skip ?_
          refine SW.seq ?_
          refine SW.region ?_
          refine SOps.val (v := pv (some (b3, o4))) rfl (wantN rfl) (fun _ => by kernel_rfl) ?_
          refine SOps.val (v := .agg #[sv Sl.nil, .int .i64 0]) rfl (wantN rfl) (fun _ => by kernel_rfl) ?_
          refine SOps.enter rfl (wantN rfl) (fun _ => by kernel_rfl) (disk_Disk_Crash.sound F (some (b3, o4)) Sl.nil 0 H12 _ h) ?_
          clear h
          rintro v H14 ⟨rfl, h⟩
          refine SOps.nil ?_
          refine SW.seq ?_
          refine SW.region ?_
          refine SOps.val (v := pv (some (b3, o4))) rfl (wantN rfl) (fun _ => by kernel_rfl) ?_
          refine SOps.enter rfl (wantN rfl) (fun _ => by kernel_rfl) (disk_Disk_Log.sound F (some (b3, o4)) H14 _ h) ?_
          clear h
          rintro v H17 ⟨s15, e16, rfl, h⟩
          refine SOps.val (v := .tuple #[.string s15, errV e16]) rfl (wantN rfl) (fun _ => by kernel_rfl) ?_
          refine SOps.val (v := .string s15) rfl (wantN rfl) (fun _ => by kernel_rfl) ?_
          refine SOps.val (v := errV e16) rfl (wantN rfl) (fun _ => by kernel_rfl) ?_
          refine SOps.val (v := .string s15) rfl (wantN rfl) (fun _ => by kernel_rfl) ?_
          refine SOps.val (v := errV e16) rfl (wantN rfl) (fun _ => by kernel_rfl) ?_
          refine SOps.nil ?_
          refine SW.seq ?_
          refine SW.region ?_
          refine SOps.val (v := .string s15) rfl (wantN rfl) (fun _ => by kernel_rfl) ?_
          refine SOps.val (v := .bool (decide (s15 = (⟨#[97, 98]⟩ : ByteArray)))) rfl (wantN rfl) (fun w => ev_eqS rfl rfl rfl w) ?_
          refine SOps.val (v := .bool (decide (s15 = (⟨#[97, 98]⟩ : ByteArray)))) rfl (wantN rfl) (fun _ => by kernel_rfl) ?_
          by_cases c18 : s15 = (⟨#[97, 98]⟩ : ByteArray)
          · replace h := h.1 c18
            have dc18 : (decide (s15 = (⟨#[97, 98]⟩ : ByteArray))) = true := (decide_eq_true c18)
            refine SOps.val (v := errV e16) rfl (wantY (c := decide (s15 = (⟨#[97, 98]⟩ : ByteArray))) rfl rfl rfl dc18) (fun _ => by kernel_rfl) ?_
            rcases e16 with _ | v19
            · replace h := h.1 rfl
              refine SOps.val (v := .bool true) rfl (wantY (c := decide (s15 = (⟨#[97, 98]⟩ : ByteArray))) rfl rfl rfl dc18) (fun w => ev_errEq (e := none) rfl Tryd.underlying28 rfl rfl w) ?_
              refine SOps.val (v := .bool true) rfl (wantN rfl) (fun w => ev_pickT (v := .bool true) rfl (t := decide (s15 = (⟨#[97, 98]⟩ : ByteArray))) rfl dc18 rfl w) ?_
              refine SOps.val (v := .bool true) rfl (wantN rfl) (fun _ => by kernel_rfl) ?_
              refine SOps.val (v := pv (some (b3, o4))) rfl (wantY (c := true) rfl rfl rfl rfl) (fun _ => by kernel_rfl) ?_
              refine SOps.enter rfl (wantY (c := true) rfl rfl rfl rfl) (fun _ => by kernel_rfl) (disk_Disk_Slots.sound F (some (b3, o4)) H17 _ h) ?_
              clear h
              rintro v H21 ⟨x20, rfl, h⟩
              refine SOps.val (v := .bool (x20 == 2)) rfl (wantY (c := true) rfl rfl rfl rfl) (fun _ => by kernel_rfl) ?_
              refine SOps.val (v := .bool (x20 == 2)) rfl (wantN rfl) (fun w => ev_pickT (v := .bool (x20 == 2)) rfl (t := true) rfl rfl rfl w) ?_
              refine SOps.val (v := .bool (x20 == 2)) rfl (wantN rfl) (fun _ => by kernel_rfl) ?_
              refine SOps.nil ?_
              obtain ⟨Hr, hr, h⟩ := h
              exact SW.ret (retQ.mk (.bool (x20 == 2)) (res1 rfl rfl) hr ⟨(x20 == 2), rfl, h⟩)
            · replace h := h.2 v19 rfl
              refine SOps.val (v := .bool false) rfl (wantY (c := decide (s15 = (⟨#[97, 98]⟩ : ByteArray))) rfl rfl rfl dc18) (fun w => ev_errEq (e := some v19) rfl Tryd.underlying28 rfl rfl w) ?_
              refine SOps.val (v := .bool false) rfl (wantN rfl) (fun w => ev_pickT (v := .bool false) rfl (t := decide (s15 = (⟨#[97, 98]⟩ : ByteArray))) rfl dc18 rfl w) ?_
              refine SOps.val (v := .bool false) rfl (wantN rfl) (fun _ => by kernel_rfl) ?_
              refine SOps.off rfl (wantX (c := false) rfl rfl rfl rfl) ?_
              refine SOps.off rfl (wantX (c := false) rfl rfl rfl rfl) ?_
              refine SOps.off rfl (wantX (c := false) rfl rfl rfl rfl) ?_
              refine SOps.val (v := .bool false) rfl (wantN rfl) (fun w => ev_pickF (v := .bool false) rfl (t := false) rfl rfl rfl w) ?_
              refine SOps.val (v := .bool false) rfl (wantN rfl) (fun _ => by kernel_rfl) ?_
              refine SOps.nil ?_
              obtain ⟨Hr, hr, h⟩ := h
              exact SW.ret (retQ.mk (.bool false) (res1 rfl rfl) hr ⟨false, rfl, h⟩)
          · replace h := h.2 c18
            have dc18 : (decide (s15 = (⟨#[97, 98]⟩ : ByteArray))) = false := (decide_eq_false c18)
            refine SOps.off rfl (wantX (c := decide (s15 = (⟨#[97, 98]⟩ : ByteArray))) rfl rfl rfl dc18) ?_
            refine SOps.off rfl (wantX (c := decide (s15 = (⟨#[97, 98]⟩ : ByteArray))) rfl rfl rfl dc18) ?_
            refine SOps.val (v := .bool false) rfl (wantN rfl) (fun w => ev_pickF (v := .bool false) rfl (t := decide (s15 = (⟨#[97, 98]⟩ : ByteArray))) rfl dc18 rfl w) ?_
            refine SOps.val (v := .bool false) rfl (wantN rfl) (fun _ => by kernel_rfl) ?_
            refine SOps.off rfl (wantX (c := false) rfl rfl rfl rfl) ?_
            refine SOps.off rfl (wantX (c := false) rfl rfl rfl rfl) ?_
            refine SOps.off rfl (wantX (c := false) rfl rfl rfl rfl) ?_
            refine SOps.val (v := .bool false) rfl (wantN rfl) (fun w => ev_pickF (v := .bool false) rfl (t := false) rfl rfl rfl w) ?_
            refine SOps.val (v := .bool false) rfl (wantN rfl) (fun _ => by kernel_rfl) ?_
            refine SOps.nil ?_
            obtain ⟨Hr, hr, h⟩ := h
            exact SW.ret (retQ.mk (.bool false) (res1 rfl rfl) hr ⟨false, rfl, h⟩)
        · replace h := h.2 v13 rfl
          refine SOps.val (v := .bool true) rfl (wantY (c := false) rfl rfl rfl rfl) (fun w => ev_errNe (e := some v13) rfl Tryd.underlying28 rfl rfl w) ?_
          refine SOps.val (v := .bool true) rfl (wantN rfl) (fun w => ev_pickF (v := .bool true) rfl (t := false) rfl rfl rfl w) ?_
          refine SOps.nil ?_
          refine SW.cond_t (t := true) rfl rfl ?_
          refine SW.seq ?_
          refine SW.region ?_
          refine SOps.val (v := .bool false) rfl (wantN rfl) (fun _ => by kernel_rfl) ?_
          refine SOps.nil ?_
          obtain ⟨Hr, hr, h⟩ := h
          exact SW.ret (retQ.mk (.bool false) (res1 rfl rfl) hr ⟨false, rfl, h⟩)
      · replace h := h.2 v10 rfl
        refine SOps.val (v := .bool true) rfl (wantY (c := false) rfl rfl rfl rfl) (fun w => ev_errNe (e := some v10) rfl Tryd.underlying28 rfl rfl w) ?_
        refine SOps.val (v := .bool true) rfl (wantN rfl) (fun w => ev_pickF (v := .bool true) rfl (t := false) rfl rfl rfl w) ?_
        refine SOps.val (v := .bool true) rfl (wantN rfl) (fun _ => by kernel_rfl) ?_
        refine SOps.off rfl (wantX (c := true) rfl rfl rfl rfl) ?_
        refine SOps.off rfl (wantX (c := true) rfl rfl rfl rfl) ?_
        refine SOps.off rfl (wantX (c := true) rfl rfl rfl rfl) ?_
        refine SOps.val (v := .bool true) rfl (wantN rfl) (fun w => ev_pickT (v := .bool true) rfl (t := true) rfl rfl rfl w) ?_
        refine SOps.nil ?_
        refine SW.cond_t (t := true) rfl rfl ?_
        refine SW.seq ?_
        refine SW.region ?_
        refine SOps.val (v := .bool false) rfl (wantN rfl) (fun _ => by kernel_rfl) ?_
        refine SOps.nil ?_
        obtain ⟨Hr, hr, h⟩ := h
        exact SW.ret (retQ.mk (.bool false) (res1 rfl rfl) hr ⟨false, rfl, h⟩)
    · replace h := h.2 v7 rfl
      refine SOps.val (v := .bool true) rfl (wantY (c := false) rfl rfl rfl rfl) (fun w => ev_errNe (e := some v7) rfl Tryd.underlying28 rfl rfl w) ?_
      refine SOps.val (v := .bool true) rfl (wantN rfl) (fun w => ev_pickF (v := .bool true) rfl (t := false) rfl rfl rfl w) ?_
      refine SOps.val (v := .bool true) rfl (wantN rfl) (fun _ => by kernel_rfl) ?_
      refine SOps.off rfl (wantX (c := true) rfl rfl rfl rfl) ?_
      refine SOps.off rfl (wantX (c := true) rfl rfl rfl rfl) ?_
      refine SOps.off rfl (wantX (c := true) rfl rfl rfl rfl) ?_
      refine SOps.val (v := .bool true) rfl (wantN rfl) (fun w => ev_pickT (v := .bool true) rfl (t := true) rfl rfl rfl w) ?_
      refine SOps.val (v := .bool true) rfl (wantN rfl) (fun _ => by kernel_rfl) ?_
      refine SOps.off rfl (wantX (c := true) rfl rfl rfl rfl) ?_
      refine SOps.off rfl (wantX (c := true) rfl rfl rfl rfl) ?_
      refine SOps.off rfl (wantX (c := true) rfl rfl rfl rfl) ?_
      refine SOps.val (v := .bool true) rfl (wantN rfl) (fun w => ev_pickT (v := .bool true) rfl (t := true) rfl rfl rfl w) ?_
      refine SOps.nil ?_
      refine SW.cond_t (t := true) rfl rfl ?_
      refine SW.seq ?_
      refine SW.region ?_
      refine SOps.val (v := .bool false) rfl (wantN rfl) (fun _ => by kernel_rfl) ?_
      refine SOps.nil ?_
      obtain ⟨Hr, hr, h⟩ := h
      exact SW.ret (retQ.mk (.bool false) (res1 rfl rfl) hr ⟨false, rfl, h⟩)

/-! ### lading/ladinglaw14.Great: function 18 -/
def ladinglaw14_Great.r1 (F : Nat) (K : Bool → SH → Prop) (R1 : Sl → Int → Int → SH → Prop) (l3 : Sl) (x4 : Int) (x5 : Int) (H : SH) : Prop :=
  (x5 < x4 →
    ∃ p7, l3.a = some p7 ∧ 0 ≤ x5 ∧ x5 < (l3.len : Int) ∧
    ∃ (x11 : Int) (x12 : Int) (x13 : Int) (x14 : Int) (s15 : ByteArray) (l16 : SlW) (x17 : Int),
    SH.row H (some (p7.1, (p7.2 + x5.toNat * 7))) [.int .i64 x11, .int .i64 x12, .int .i64 x13, .int .u8 x14, .string s15, swv l16, .int .i64 x17] ∧
    ∀ b19, H b19 = none →
    SH.wrs (SH.upd H b19 ⟨[.int .i64 0, .int .i64 0, .int .i64 0, .int .u8 0, .string ByteArray.empty, sv Sl.nil, .int .i64 0], 41, false, 7⟩) (b19, 0) 7 ∧
    ∃ (s22 : ByteArray),
    SH.has (SH.setl (SH.upd H b19 ⟨[.int .i64 0, .int .i64 0, .int .i64 0, .int .u8 0, .string ByteArray.empty, sv Sl.nil, .int .i64 0], 41, false, 7⟩) (b19, 0) [.int .i64 x11, .int .i64 x12, .int .i64 x13, .int .u8 x14, .string s15, swv l16, .int .i64 x17]) (b19, 4) (.string s22) ∧
    ((s22.size : Int) > 300 →
      ∃ Hr, SH.le Hr (SH.setl (SH.upd H b19 ⟨[.int .i64 0, .int .i64 0, .int .i64 0, .int .u8 0, .string ByteArray.empty, sv Sl.nil, .int .i64 0], 41, false, 7⟩) (b19, 0) [.int .i64 x11, .int .i64 x12, .int .i64 x13, .int .u8 x14, .string s15, swv l16, .int .i64 x17]) ∧ K true Hr
    ) ∧ (¬ ((s22.size : Int) > 300) →
      ∃ (l25 : SlW),
      SH.has (SH.setl (SH.upd H b19 ⟨[.int .i64 0, .int .i64 0, .int .i64 0, .int .u8 0, .string ByteArray.empty, sv Sl.nil, .int .i64 0], 41, false, 7⟩) (b19, 0) [.int .i64 x11, .int .i64 x12, .int .i64 x13, .int .u8 x14, .string s15, swv l16, .int .i64 x17]) (b19, 5) (swv l25) ∧
      ((l25.len : Int) > 200 →
        ∃ Hr, SH.le Hr (SH.setl (SH.upd H b19 ⟨[.int .i64 0, .int .i64 0, .int .i64 0, .int .u8 0, .string ByteArray.empty, sv Sl.nil, .int .i64 0], 41, false, 7⟩) (b19, 0) [.int .i64 x11, .int .i64 x12, .int .i64 x13, .int .u8 x14, .string s15, swv l16, .int .i64 x17]) ∧ K true Hr
      ) ∧ (¬ ((l25.len : Int) > 200) →
        R1 l3 x4 (w64 (x5 + 1)) (SH.setl (SH.upd H b19 ⟨[.int .i64 0, .int .i64 0, .int .i64 0, .int .u8 0, .string ByteArray.empty, sv Sl.nil, .int .i64 0], 41, false, 7⟩) (b19, 0) [.int .i64 x11, .int .i64 x12, .int .i64 x13, .int .u8 x14, .string s15, swv l16, .int .i64 x17])
      )
    )
  ) ∧ (¬ (x5 < x4) →
    ∃ Hr, SH.le Hr H ∧ K false Hr
  )
def ladinglaw14_Great.l1 (F : Nat) (K : Bool → SH → Prop) : Nat → Sl → Int → Int → SH → Prop
  | 0, _, _, _, _ => False
  | k + 1, l3, x4, x5, H => ladinglaw14_Great.r1 F K (ladinglaw14_Great.l1 F K k) l3 x4 x5 H
def ladinglaw14_Great.wp (F : Nat) (l1 : Sl) (H : SH) (K : Bool → SH → Prop) : Prop :=
  ((l1.len : Int) > 100 →
    ∃ Hr, SH.le Hr H ∧ K true Hr
  ) ∧ (¬ ((l1.len : Int) > 100) →
    ladinglaw14_Great.l1 F K F l1 (l1.len : Int) 0 H
  )
set_option maxHeartbeats 8000000 in
theorem ladinglaw14_Great.sound (F : Nat) (l1 : Sl) (H : SH) (K : Bool → SH → Prop) (h : ladinglaw14_Great.wp F l1 H K) : SCalls Tryd.prog 18 #[sv l1] H (fun v H' => ∃ (q31 : Bool), v = .bool q31 ∧ K q31 H') := by
  unfold ladinglaw14_Great.wp at h
  refine SCalls.body Tryd.func18 rfl (Nat.le_of_ble_eq_true rfl) ?_
  refine SW.seq ?_
  refine SW.region ?_
  refine SOps.val (v := .bool false) rfl (wantN rfl) (fun _ => by kernel_rfl) ?_
  refine SOps.nil ?_
  refine SW.seq ?_
  refine SW.seq ?_
  refine SW.region ?_
  refine SOps.val (v := sv l1) rfl (wantN rfl) (fun _ => by kernel_rfl) ?_
  refine SOps.val (v := .int .i64 (l1.len : Int)) rfl (wantN rfl) (fun _ => by kernel_rfl) ?_
  refine SOps.val (v := .bool (decide ((l1.len : Int) > 100))) rfl (wantN rfl) (fun _ => by kernel_rfl) ?_
  refine SOps.nil ?_
  by_cases c2 : (l1.len : Int) > 100
  · replace h := h.1 c2
    have dc2 : (decide ((l1.len : Int) > 100)) = true := (decide_eq_true c2)
    refine SW.cond_t (t := decide ((l1.len : Int) > 100)) rfl dc2 ?_
    refine SW.seq ?_
    refine SW.region ?_
    refine SOps.val (v := .bool true) rfl (wantN rfl) (fun _ => by kernel_rfl) ?_
    refine SOps.nil ?_
    obtain ⟨Hr, hr, h⟩ := h
    exact SW.ret (retQ.mk (.bool true) (res1 rfl rfl) hr ⟨true, rfl, h⟩)
  · replace h := h.2 c2
    have dc2 : (decide ((l1.len : Int) > 100)) = false := (decide_eq_false c2)
    refine SW.cond_f (t := decide ((l1.len : Int) > 100)) rfl dc2 ?_
    refine SW.skip ?_
    refine SW.seq ?_
    refine SW.seq ?_
    refine SW.region ?_
    refine SOps.val (v := sv l1) rfl (wantN rfl) (fun _ => by kernel_rfl) ?_
    refine SOps.val (v := .int .i64 (l1.len : Int)) rfl (wantN rfl) (fun _ => by kernel_rfl) ?_
    refine SOps.val (v := .int .i64 0) rfl (wantN rfl) (fun _ => by kernel_rfl) ?_
    refine SOps.nil ?_
    refine SW.block ?_
    refine SW.loop (fun k1 fr H => ∃ (g : Fr) (l3 : Sl) (x4 : Int) (x5 : Int), fr = g.upds [(8, sv l3), (9, (.int .i64 x4 : Value)), (10, (.int .i64 x5 : Value))] ∧ ladinglaw14_Great.l1 F K k1 l3 x4 x5 H) F ⟨_, l1, (l1.len : Int), 0, (Fr.upds_self _ _ ⟨rfl, rfl, rfl, trivial⟩), h⟩ ?_
    clear h
    rintro k1 fr H ⟨g, l3, x4, x5, rfl, h⟩
    cases k1 with
    | zero => exact h.elim
    | succ k1 =>
      replace h : ladinglaw14_Great.r1 F K (ladinglaw14_Great.l1 F K k1) l3 x4 x5 H := h
      unfold ladinglaw14_Great.r1 at h
      refine SW.seq ?_
      refine SW.region ?_
      refine SOps.val (v := .bool (decide (x5 < x4))) rfl (wantN rfl) (fun _ => by kernel_rfl) ?_
      refine SOps.nil ?_
      refine SW.seq ?_
      by_cases c6 : x5 < x4
      · replace h := h.1 c6
        have dc6 : (decide (x5 < x4)) = true := (decide_eq_true c6)
        refine SW.cond_t (t := decide (x5 < x4)) rfl dc6 ?_
        refine SW.skip ?_
        refine SW.seq ?_
        refine SW.block ?_
        refine SW.seq ?_
        refine SW.region ?_
        obtain ⟨p7, c8, c9, c10, h⟩ := h
        refine SOps.val (v := pv (some (p7.1, (p7.2 + x5.toNat * 7)))) rfl (wantN rfl) (fun w => ev_iaddr rfl Tryd.underlying38 (size := 7) (by kernel_rfl) rfl rfl c8 c9 c10 w) ?_
        obtain ⟨x11, x12, x13, x14, s15, l16, x17, c18, h⟩ := h
        refine SOps.rd (v := .agg #[.int .i64 x11, .int .i64 x12, .int .i64 x13, .int .u8 x14, .string s15, swv l16, .int .i64 x17]) rfl (wantN rfl) (fun w hw => ev_loadN rfl (fun _ => by kernel_rfl) (size := 7) (by kernel_rfl) (p := (p7.1, (p7.2 + x5.toNat * 7))) rfl rfl c18 w hw) ?_
        refine SOps.alloc rfl rfl (wantN rfl) (z := .agg #[.int .i64 0, .int .i64 0, .int .i64 0, .int .u8 0, .string ByteArray.empty, sv Sl.nil, .int .i64 0]) (by kernel_rfl) (fun b19 c20 => ?_)
        replace h := h b19 c20
        obtain ⟨c21, h⟩ := h
        refine SOps.storeL (p := (b19, 0)) (v := .agg #[.int .i64 x11, .int .i64 x12, .int .i64 x13, .int .u8 x14, .string s15, swv l16, .int .i64 x17]) (cs := [.int .i64 x11, .int .i64 x12, .int .i64 x13, .int .u8 x14, .string s15, swv l16, .int .i64 x17]) rfl rfl (wantN rfl) (size := 7) (by kernel_rfl) rfl rfl rfl rfl (by simp [Value.oneCell', errV_one, pv, sv, swv]) c21 ?_
        refine SOps.nil ?_
        refine SW.seq ?_
        refine SW.region ?_
        refine SOps.val (v := pv (some (b19, 4))) rfl (wantN rfl) (fun _ => by kernel_rfl) ?_
        obtain ⟨s22, c23, h⟩ := h
        refine SOps.rd (v := .string s22) rfl (wantN rfl) (fun w hw => ev_load1 rfl (fun _ => by kernel_rfl) (p := (b19, 4)) rfl c23 w hw) ?_
        refine SOps.val (v := .int .i64 (s22.size : Int)) rfl (wantN rfl) (fun _ => by kernel_rfl) ?_
        refine SOps.val (v := .bool (decide ((s22.size : Int) > 300))) rfl (wantN rfl) (fun _ => by kernel_rfl) ?_
        refine SOps.val (v := .bool (decide ((s22.size : Int) > 300))) rfl (wantN rfl) (fun _ => by kernel_rfl) ?_
        by_cases c24 : (s22.size : Int) > 300
        · replace h := h.1 c24
          have dc24 : (decide ((s22.size : Int) > 300)) = true := (decide_eq_true c24)
          refine SOps.off rfl (wantX (c := decide ((s22.size : Int) > 300)) rfl rfl rfl dc24) ?_
          refine SOps.off rfl (wantX (c := decide ((s22.size : Int) > 300)) rfl rfl rfl dc24) ?_
          refine SOps.off rfl (wantX (c := decide ((s22.size : Int) > 300)) rfl rfl rfl dc24) ?_
          refine SOps.off rfl (wantX (c := decide ((s22.size : Int) > 300)) rfl rfl rfl dc24) ?_
          refine SOps.off rfl (wantX (c := decide ((s22.size : Int) > 300)) rfl rfl rfl dc24) ?_
          refine SOps.val (v := .bool true) rfl (wantN rfl) (fun w => ev_pickT (v := .bool true) rfl (t := decide ((s22.size : Int) > 300)) rfl dc24 rfl w) ?_
          refine SOps.nil ?_
          refine SW.cond_t (t := true) rfl rfl ?_
          refine SW.seq ?_
          refine SW.region ?_
          refine SOps.val (v := .bool true) rfl (wantN rfl) (fun _ => by kernel_rfl) ?_
          refine SOps.nil ?_
          obtain ⟨Hr, hr, h⟩ := h
          exact SW.ret (retQ.mk (.bool true) (res1 rfl rfl) hr ⟨true, rfl, h⟩)
        · replace h := h.2 c24
          have dc24 : (decide ((s22.size : Int) > 300)) = false := (decide_eq_false c24)
          refine SOps.val (v := pv (some (b19, 5))) rfl (wantY (c := decide ((s22.size : Int) > 300)) rfl rfl rfl dc24) (fun _ => by kernel_rfl) ?_
          refine SOps.val (v := pv (some (b19, 5))) rfl (wantY (c := decide ((s22.size : Int) > 300)) rfl rfl rfl dc24) (fun _ => by kernel_rfl) ?_
          obtain ⟨l25, c26, h⟩ := h
          refine SOps.rd (v := swv l25) rfl (wantY (c := decide ((s22.size : Int) > 300)) rfl rfl rfl dc24) (fun w hw => ev_load1 rfl (fun _ => by kernel_rfl) (p := (b19, 5)) rfl c26 w hw) ?_
          refine SOps.val (v := .int .i64 (l25.len : Int)) rfl (wantY (c := decide ((s22.size : Int) > 300)) rfl rfl rfl dc24) (fun _ => by kernel_rfl) ?_
          refine SOps.val (v := .bool (decide ((l25.len : Int) > 200))) rfl (wantY (c := decide ((s22.size : Int) > 300)) rfl rfl rfl dc24) (fun _ => by kernel_rfl) ?_
          refine SOps.val (v := .bool (decide ((l25.len : Int) > 200))) rfl (wantN rfl) (fun w => ev_pickF (v := .bool (decide ((l25.len : Int) > 200))) rfl (t := decide ((s22.size : Int) > 300)) rfl dc24 rfl w) ?_
          refine SOps.nil ?_
          by_cases c27 : (l25.len : Int) > 200
          · replace h := h.1 c27
            have dc27 : (decide ((l25.len : Int) > 200)) = true := (decide_eq_true c27)
            refine SW.cond_t (t := decide ((l25.len : Int) > 200)) rfl dc27 ?_
            refine SW.seq ?_
            refine SW.region ?_
            refine SOps.val (v := .bool true) rfl (wantN rfl) (fun _ => by kernel_rfl) ?_
            refine SOps.nil ?_
            obtain ⟨Hr, hr, h⟩ := h
            exact SW.ret (retQ.mk (.bool true) (res1 rfl rfl) hr ⟨true, rfl, h⟩)
          · replace h := h.2 c27
            have dc27 : (decide ((l25.len : Int) > 200)) = false := (decide_eq_false c27)
            refine SW.cond_f (t := decide ((l25.len : Int) > 200)) rfl dc27 ?_
            refine SW.skip ?_
            refine SW.region ?_
            refine SOps.val (v := .int .i64 (w64 (x5 + 1))) rfl (wantN rfl) (fun _ => by kernel_rfl) ?_
            refine SOps.val (v := .int .i64 (w64 (x5 + 1))) rfl (wantN rfl) (fun _ => by kernel_rfl) ?_
            refine SOps.nil ?_
            exact ⟨k1, Nat.lt_succ_self k1, _, l3, x4, w64 (x5 + 1), (Fr.upds_self _ _ ⟨rfl, rfl, rfl, trivial⟩), h⟩
      · replace h := h.2 c6
        have dc6 : (decide (x5 < x4)) = false := (decide_eq_false c6)
        refine SW.cond_f (t := decide (x5 < x4)) rfl dc6 ?_
        refine SW.exit ?_
        refine SW.seq ?_
        refine SW.region ?_
        refine SOps.val (v := .bool false) rfl (wantN rfl) (fun _ => by kernel_rfl) ?_
        refine SOps.nil ?_
        obtain ⟨Hr, hr, h⟩ := h
        exact SW.ret (retQ.mk (.bool false) (res1 rfl rfl) hr ⟨false, rfl, h⟩)

/-! ### lading/ladinglaw14.Do: function 19 -/
def ladinglaw14_Do.j1 (F : Nat) (K : Int → SH → Prop) (H : SH) : Prop :=
  ∃ Hr, SH.le Hr H ∧ K 0 Hr
def ladinglaw14_Do.wp (F : Nat) (p1 : Option (Nat × Nat)) (x2 : Int) (x3 : Int) (x4 : Int) (x5 : Int) (s6 : ByteArray) (l7 : SlW) (x8 : Int) (H : SH) (K : Int → SH → Prop) : Prop :=
  ∀ b9, H b9 = none →
  ∃ (x11 : Int),
  SH.has (SH.upd H b9 ⟨[.int .i64 x2, .int .i64 x3, .int .i64 x4, .int .u8 x5, .string s6, swv l7, .int .i64 x8], 41, false, 7⟩) (b9, 0) (.int .i64 x11) ∧
  (x11 = 0 →
    ∃ (s14 : ByteArray),
    SH.has (SH.upd H b9 ⟨[.int .i64 x2, .int .i64 x3, .int .i64 x4, .int .u8 x5, .string s6, swv l7, .int .i64 x8], 41, false, 7⟩) (b9, 4) (.string s14) ∧
    disk_Disk_Append.wp F p1 s14 (SH.upd H b9 ⟨[.int .i64 x2, .int .i64 x3, .int .i64 x4, .int .u8 x5, .string s6, swv l7, .int .i64 x8], 41, false, 7⟩) (fun e16 H17 =>
      api_Code.wp F e16 H17 (fun x18 H19 =>
        ∃ Hr, SH.le Hr H19 ∧ K x18 Hr
      )
    )
  ) ∧ (¬ (x11 = 0) →
    (x11 = 1 →
      ∃ (x21 : Int),
      SH.has (SH.upd H b9 ⟨[.int .i64 x2, .int .i64 x3, .int .i64 x4, .int .u8 x5, .string s6, swv l7, .int .i64 x8], 41, false, 7⟩) (b9, 1) (.int .i64 x21) ∧
      ∃ (s23 : ByteArray),
      SH.has (SH.upd H b9 ⟨[.int .i64 x2, .int .i64 x3, .int .i64 x4, .int .u8 x5, .string s6, swv l7, .int .i64 x8], 41, false, 7⟩) (b9, 4) (.string s23) ∧
      disk_Disk_Put.wp F p1 x21 s23 (SH.upd H b9 ⟨[.int .i64 x2, .int .i64 x3, .int .i64 x4, .int .u8 x5, .string s6, swv l7, .int .i64 x8], 41, false, 7⟩) (fun e25 H26 =>
        api_Code.wp F e25 H26 (fun x27 H28 =>
          ∃ Hr, SH.le Hr H28 ∧ K x27 Hr
        )
      )
    ) ∧ (¬ (x11 = 1) →
      (x11 = 2 →
        disk_Disk_Sync.wp F p1 (SH.upd H b9 ⟨[.int .i64 x2, .int .i64 x3, .int .i64 x4, .int .u8 x5, .string s6, swv l7, .int .i64 x8], 41, false, 7⟩) (fun e30 H31 =>
          api_Code.wp F e30 H31 (fun x32 H33 =>
            ∃ Hr, SH.le Hr H33 ∧ K x32 Hr
          )
        )
      ) ∧ (¬ (x11 = 2) →
        (x11 = 3 →
          ∃ (x35 : Int),
          SH.has (SH.upd H b9 ⟨[.int .i64 x2, .int .i64 x3, .int .i64 x4, .int .u8 x5, .string s6, swv l7, .int .i64 x8], 41, false, 7⟩) (b9, 1) (.int .i64 x35) ∧
          disk_Disk_Cut.wp F p1 x35 (SH.upd H b9 ⟨[.int .i64 x2, .int .i64 x3, .int .i64 x4, .int .u8 x5, .string s6, swv l7, .int .i64 x8], 41, false, 7⟩) (fun e37 H38 =>
            api_Code.wp F e37 H38 (fun x39 H40 =>
              ∃ Hr, SH.le Hr H40 ∧ K x39 Hr
            )
          )
        ) ∧ (¬ (x11 = 3) →
          (x11 = 4 →
            ∃ (x42 : Int),
            SH.has (SH.upd H b9 ⟨[.int .i64 x2, .int .i64 x3, .int .i64 x4, .int .u8 x5, .string s6, swv l7, .int .i64 x8], 41, false, 7⟩) (b9, 1) (.int .i64 x42) ∧
            disk_Disk_Fuse.wp F p1 x42 (SH.upd H b9 ⟨[.int .i64 x2, .int .i64 x3, .int .i64 x4, .int .u8 x5, .string s6, swv l7, .int .i64 x8], 41, false, 7⟩) (fun H44 =>
              ladinglaw14_Do.j1 F K  H44
            )
          ) ∧ (¬ (x11 = 4) →
            (x11 = 5 →
              ∃ (l46 : SlW) (x47 : Int),
              SH.row (SH.upd H b9 ⟨[.int .i64 x2, .int .i64 x3, .int .i64 x4, .int .u8 x5, .string s6, swv l7, .int .i64 x8], 41, false, 7⟩) (some (b9, 5)) [swv l46, .int .i64 x47] ∧
              disk_Disk_Crash__w1.wp F p1 l46 x47 (SH.upd H b9 ⟨[.int .i64 x2, .int .i64 x3, .int .i64 x4, .int .u8 x5, .string s6, swv l7, .int .i64 x8], 41, false, 7⟩) (fun H49 =>
                ladinglaw14_Do.j1 F K  H49
              )
            ) ∧ (¬ (x11 = 5) →
              (x11 = 6 →
                ∃ (x51 : Int),
                SH.has (SH.upd H b9 ⟨[.int .i64 x2, .int .i64 x3, .int .i64 x4, .int .u8 x5, .string s6, swv l7, .int .i64 x8], 41, false, 7⟩) (b9, 1) (.int .i64 x51) ∧
                ∃ (x53 : Int),
                SH.has (SH.upd H b9 ⟨[.int .i64 x2, .int .i64 x3, .int .i64 x4, .int .u8 x5, .string s6, swv l7, .int .i64 x8], 41, false, 7⟩) (b9, 2) (.int .i64 x53) ∧
                ∃ (x55 : Int),
                SH.has (SH.upd H b9 ⟨[.int .i64 x2, .int .i64 x3, .int .i64 x4, .int .u8 x5, .string s6, swv l7, .int .i64 x8], 41, false, 7⟩) (b9, 3) (.int .u8 x55) ∧
                disk_Disk_Rot.wp F p1 x51 x53 x55 (SH.upd H b9 ⟨[.int .i64 x2, .int .i64 x3, .int .i64 x4, .int .u8 x5, .string s6, swv l7, .int .i64 x8], 41, false, 7⟩) (fun q57 H58 =>
                  (q57 = true →
                    ∃ Hr, SH.le Hr H58 ∧ K 1 Hr
                  ) ∧ (¬ (q57 = true) →
                    ladinglaw14_Do.j1 F K  H58
                  )
                )
              ) ∧ (¬ (x11 = 6) →
                ladinglaw14_Do.j1 F K  (SH.upd H b9 ⟨[.int .i64 x2, .int .i64 x3, .int .i64 x4, .int .u8 x5, .string s6, swv l7, .int .i64 x8], 41, false, 7⟩)
              )
            )
          )
        )
      )
    )
  )
set_option maxHeartbeats 8000000 in
theorem ladinglaw14_Do.sound (F : Nat) (p1 : Option (Nat × Nat)) (x2 : Int) (x3 : Int) (x4 : Int) (x5 : Int) (s6 : ByteArray) (l7 : SlW) (x8 : Int) (H : SH) (K : Int → SH → Prop) (h : ladinglaw14_Do.wp F p1 x2 x3 x4 x5 s6 l7 x8 H K) : SCalls Tryd.prog 19 #[pv p1, .agg #[.int .i64 x2, .int .i64 x3, .int .i64 x4, .int .u8 x5, .string s6, swv l7, .int .i64 x8]] H (fun v H' => ∃ (x62 : Int), v = .int .i64 x62 ∧ K x62 H') := by
  unfold ladinglaw14_Do.wp at h
  refine SCalls.body Tryd.func19 rfl (Nat.le_of_ble_eq_true rfl) ?_
  refine SW.seq ?_
  refine SW.region ?_
  refine SOps.box rfl rfl (wantN rfl) (v := .agg #[.int .i64 x2, .int .i64 x3, .int .i64 x4, .int .u8 x5, .string s6, swv l7, .int .i64 x8]) rfl (fun b9 c10 => ?_)
  replace h := h b9 c10
  refine SOps.val (v := .int .i64 0) rfl (wantN rfl) (fun _ => by kernel_rfl) ?_
  refine SOps.nil ?_
  refine SW.seq ?_
  refine SW.seq ?_
  refine SW.region ?_
  refine SOps.val (v := pv (some (b9, 0))) rfl (wantN rfl) (fun _ => by kernel_rfl) ?_
  obtain ⟨x11, c12, h⟩ := h
  refine SOps.rd (v := .int .i64 x11) rfl (wantN rfl) (fun w hw => ev_load1 rfl (fun _ => by kernel_rfl) (p := (b9, 0)) rfl c12 w hw) ?_
  refine SOps.nil ?_
  refine SW.blockJ (fun fr H => ∃ (g : Fr), fr = g.upds [] ∧ ladinglaw14_Do.j1 F K H) ?_ ?_
  · clear h
    rintro fr H ⟨g, rfl, h⟩
    unfold ladinglaw14_Do.j1 at h
    refine SW.seq ?_
    refine SW.region ?_
    refine SOps.val (v := .int .i64 0) rfl (wantN rfl) (fun _ => by kernel_rfl) ?_
    refine SOps.nil ?_
    obtain ⟨Hr, hr, h⟩ := h
    exact SW.ret (retQ.mk (.int .i64 0) (res1 rfl rfl) hr ⟨0, rfl, h⟩)
  · skip
    refine SW.seq ?_
    refine SW.region ?_
    refine SOps.val (v := .bool (x11 == 0)) rfl (wantN rfl) (fun _ => by kernel_rfl) ?_
    refine SOps.val (v := .bool (x11 == 0)) rfl (wantN rfl) (fun _ => by kernel_rfl) ?_
    refine SOps.nil ?_
    by_cases c13 : x11 = 0
    · replace h := h.1 c13
      have dc13 : (x11 == 0) = true := (beq_iff_eq.mpr c13)
      refine SW.cond_t (t := (x11 == 0)) rfl dc13 ?_
      refine SW.seq ?_
      refine SW.region ?_
      refine SOps.val (v := pv p1) rfl (wantN rfl) (fun _ => by kernel_rfl) ?_
      refine SOps.val (v := pv (some (b9, 4))) rfl (wantN rfl) (fun _ => by kernel_rfl) ?_
      obtain ⟨s14, c15, h⟩ := h
      refine SOps.rd (v := .string s14) rfl (wantN rfl) (fun w hw => ev_load1 rfl (fun _ => by kernel_rfl) (p := (b9, 4)) rfl c15 w hw) ?_
      refine SOps.enter rfl (wantN rfl) (fun _ => by kernel_rfl) (disk_Disk_Append.sound F p1 s14 (SH.upd H b9 ⟨[.int .i64 x2, .int .i64 x3, .int .i64 x4, .int .u8 x5, .string s6, swv l7, .int .i64 x8], 41, false, 7⟩) _ h) ?_
      clear h
      rintro v H17 ⟨e16, rfl, h⟩
      refine SOps.enter rfl (wantN rfl) (fun _ => by kernel_rfl) (api_Code.sound F e16 H17 _ h) ?_
      clear h
      rintro v H19 ⟨x18, rfl, h⟩
      refine SOps.val (v := .int .i64 x18) rfl (wantN rfl) (fun _ => by kernel_rfl) ?_
      refine SOps.nil ?_
      obtain ⟨Hr, hr, h⟩ := h
      exact SW.ret (retQ.mk (.int .i64 x18) (res1 rfl rfl) hr ⟨x18, rfl, h⟩)
    · replace h := h.2 c13
      have dc13 : (x11 == 0) = false := (beq_eq_false_iff_ne.mpr c13)
      refine SW.cond_f (t := (x11 == 0)) rfl dc13 ?_
      refine SW.seq ?_
      refine SW.region ?_
      refine SOps.val (v := .bool (x11 == 1)) rfl (wantN rfl) (fun _ => by kernel_rfl) ?_
      refine SOps.val (v := .bool (x11 == 1)) rfl (wantN rfl) (fun _ => by kernel_rfl) ?_
      refine SOps.nil ?_
      by_cases c20 : x11 = 1
      · replace h := h.1 c20
        have dc20 : (x11 == 1) = true := (beq_iff_eq.mpr c20)
        refine SW.cond_t (t := (x11 == 1)) rfl dc20 ?_
        refine SW.seq ?_
        refine SW.region ?_
        refine SOps.val (v := pv p1) rfl (wantN rfl) (fun _ => by kernel_rfl) ?_
        refine SOps.val (v := pv (some (b9, 1))) rfl (wantN rfl) (fun _ => by kernel_rfl) ?_
        obtain ⟨x21, c22, h⟩ := h
        refine SOps.rd (v := .int .i64 x21) rfl (wantN rfl) (fun w hw => ev_load1 rfl (fun _ => by kernel_rfl) (p := (b9, 1)) rfl c22 w hw) ?_
        refine SOps.val (v := pv (some (b9, 4))) rfl (wantN rfl) (fun _ => by kernel_rfl) ?_
        obtain ⟨s23, c24, h⟩ := h
        refine SOps.rd (v := .string s23) rfl (wantN rfl) (fun w hw => ev_load1 rfl (fun _ => by kernel_rfl) (p := (b9, 4)) rfl c24 w hw) ?_
        refine SOps.enter rfl (wantN rfl) (fun _ => by kernel_rfl) (disk_Disk_Put.sound F p1 x21 s23 (SH.upd H b9 ⟨[.int .i64 x2, .int .i64 x3, .int .i64 x4, .int .u8 x5, .string s6, swv l7, .int .i64 x8], 41, false, 7⟩) _ h) ?_
        clear h
        rintro v H26 ⟨e25, rfl, h⟩
        refine SOps.enter rfl (wantN rfl) (fun _ => by kernel_rfl) (api_Code.sound F e25 H26 _ h) ?_
        clear h
        rintro v H28 ⟨x27, rfl, h⟩
        refine SOps.val (v := .int .i64 x27) rfl (wantN rfl) (fun _ => by kernel_rfl) ?_
        refine SOps.nil ?_
        obtain ⟨Hr, hr, h⟩ := h
        exact SW.ret (retQ.mk (.int .i64 x27) (res1 rfl rfl) hr ⟨x27, rfl, h⟩)
      · replace h := h.2 c20
        have dc20 : (x11 == 1) = false := (beq_eq_false_iff_ne.mpr c20)
        refine SW.cond_f (t := (x11 == 1)) rfl dc20 ?_
        refine SW.seq ?_
        refine SW.region ?_
        refine SOps.val (v := .bool (x11 == 2)) rfl (wantN rfl) (fun _ => by kernel_rfl) ?_
        refine SOps.val (v := .bool (x11 == 2)) rfl (wantN rfl) (fun _ => by kernel_rfl) ?_
        refine SOps.nil ?_
        by_cases c29 : x11 = 2
        · replace h := h.1 c29
          have dc29 : (x11 == 2) = true := (beq_iff_eq.mpr c29)
          refine SW.cond_t (t := (x11 == 2)) rfl dc29 ?_
          refine SW.seq ?_
          refine SW.region ?_
          refine SOps.val (v := pv p1) rfl (wantN rfl) (fun _ => by kernel_rfl) ?_
          refine SOps.enter rfl (wantN rfl) (fun _ => by kernel_rfl) (disk_Disk_Sync.sound F p1 (SH.upd H b9 ⟨[.int .i64 x2, .int .i64 x3, .int .i64 x4, .int .u8 x5, .string s6, swv l7, .int .i64 x8], 41, false, 7⟩) _ h) ?_
          clear h
          rintro v H31 ⟨e30, rfl, h⟩
          refine SOps.enter rfl (wantN rfl) (fun _ => by kernel_rfl) (api_Code.sound F e30 H31 _ h) ?_
          clear h
          rintro v H33 ⟨x32, rfl, h⟩
          refine SOps.val (v := .int .i64 x32) rfl (wantN rfl) (fun _ => by kernel_rfl) ?_
          refine SOps.nil ?_
          obtain ⟨Hr, hr, h⟩ := h
          exact SW.ret (retQ.mk (.int .i64 x32) (res1 rfl rfl) hr ⟨x32, rfl, h⟩)
        · replace h := h.2 c29
          have dc29 : (x11 == 2) = false := (beq_eq_false_iff_ne.mpr c29)
          refine SW.cond_f (t := (x11 == 2)) rfl dc29 ?_
          refine SW.seq ?_
          refine SW.region ?_
          refine SOps.val (v := .bool (x11 == 3)) rfl (wantN rfl) (fun _ => by kernel_rfl) ?_
          refine SOps.val (v := .bool (x11 == 3)) rfl (wantN rfl) (fun _ => by kernel_rfl) ?_
          refine SOps.nil ?_
          by_cases c34 : x11 = 3
          · replace h := h.1 c34
            have dc34 : (x11 == 3) = true := (beq_iff_eq.mpr c34)
            refine SW.cond_t (t := (x11 == 3)) rfl dc34 ?_
            refine SW.seq ?_
            refine SW.region ?_
            refine SOps.val (v := pv p1) rfl (wantN rfl) (fun _ => by kernel_rfl) ?_
            refine SOps.val (v := pv (some (b9, 1))) rfl (wantN rfl) (fun _ => by kernel_rfl) ?_
            obtain ⟨x35, c36, h⟩ := h
            refine SOps.rd (v := .int .i64 x35) rfl (wantN rfl) (fun w hw => ev_load1 rfl (fun _ => by kernel_rfl) (p := (b9, 1)) rfl c36 w hw) ?_
            refine SOps.enter rfl (wantN rfl) (fun _ => by kernel_rfl) (disk_Disk_Cut.sound F p1 x35 (SH.upd H b9 ⟨[.int .i64 x2, .int .i64 x3, .int .i64 x4, .int .u8 x5, .string s6, swv l7, .int .i64 x8], 41, false, 7⟩) _ h) ?_
            clear h
            rintro v H38 ⟨e37, rfl, h⟩
            refine SOps.enter rfl (wantN rfl) (fun _ => by kernel_rfl) (api_Code.sound F e37 H38 _ h) ?_
            clear h
            rintro v H40 ⟨x39, rfl, h⟩
            refine SOps.val (v := .int .i64 x39) rfl (wantN rfl) (fun _ => by kernel_rfl) ?_
            refine SOps.nil ?_
            obtain ⟨Hr, hr, h⟩ := h
            exact SW.ret (retQ.mk (.int .i64 x39) (res1 rfl rfl) hr ⟨x39, rfl, h⟩)
          · replace h := h.2 c34
            have dc34 : (x11 == 3) = false := (beq_eq_false_iff_ne.mpr c34)
            refine SW.cond_f (t := (x11 == 3)) rfl dc34 ?_
            refine SW.seq ?_
            refine SW.region ?_
            refine SOps.val (v := .bool (x11 == 4)) rfl (wantN rfl) (fun _ => by kernel_rfl) ?_
            refine SOps.val (v := .bool (x11 == 4)) rfl (wantN rfl) (fun _ => by kernel_rfl) ?_
            refine SOps.nil ?_
            by_cases c41 : x11 = 4
            · replace h := h.1 c41
              have dc41 : (x11 == 4) = true := (beq_iff_eq.mpr c41)
              refine SW.cond_t (t := (x11 == 4)) rfl dc41 ?_
              refine SW.region ?_
              refine SOps.val (v := pv p1) rfl (wantN rfl) (fun _ => by kernel_rfl) ?_
              refine SOps.val (v := pv (some (b9, 1))) rfl (wantN rfl) (fun _ => by kernel_rfl) ?_
              obtain ⟨x42, c43, h⟩ := h
              refine SOps.rd (v := .int .i64 x42) rfl (wantN rfl) (fun w hw => ev_load1 rfl (fun _ => by kernel_rfl) (p := (b9, 1)) rfl c43 w hw) ?_
              refine SOps.enter rfl (wantN rfl) (fun _ => by kernel_rfl) (disk_Disk_Fuse.sound F p1 x42 (SH.upd H b9 ⟨[.int .i64 x2, .int .i64 x3, .int .i64 x4, .int .u8 x5, .string s6, swv l7, .int .i64 x8], 41, false, 7⟩) _ h) ?_
              clear h
              rintro v H44 ⟨rfl, h⟩
              refine SOps.nil ?_
              exact ⟨_, (Fr.upds_self _ [] trivial), h⟩
            · replace h := h.2 c41
              have dc41 : (x11 == 4) = false := (beq_eq_false_iff_ne.mpr c41)
              refine SW.cond_f (t := (x11 == 4)) rfl dc41 ?_
              refine SW.seq ?_
              refine SW.region ?_
              refine SOps.val (v := .bool (x11 == 5)) rfl (wantN rfl) (fun _ => by kernel_rfl) ?_
              refine SOps.val (v := .bool (x11 == 5)) rfl (wantN rfl) (fun _ => by kernel_rfl) ?_
              refine SOps.nil ?_
              by_cases c45 : x11 = 5
              · replace h := h.1 c45
                have dc45 : (x11 == 5) = true := (beq_iff_eq.mpr c45)
                refine SW.cond_t (t := (x11 == 5)) rfl dc45 ?_
                refine SW.region ?_
                refine SOps.val (v := pv p1) rfl (wantN rfl) (fun _ => by kernel_rfl) ?_
                refine SOps.val (v := pv (some (b9, 5))) rfl (wantN rfl) (fun _ => by kernel_rfl) ?_
                obtain ⟨l46, x47, c48, h⟩ := h
                refine SOps.rd (v := .agg #[swv l46, .int .i64 x47]) rfl (wantN rfl) (fun w hw => ev_loadN rfl (fun _ => by kernel_rfl) (size := 2) (by kernel_rfl) (p := (b9, 5)) rfl rfl c48 w hw) ?_
                refine SOps.enter rfl (wantN rfl) (fun _ => by kernel_rfl) (disk_Disk_Crash__w1.sound F p1 l46 x47 (SH.upd H b9 ⟨[.int .i64 x2, .int .i64 x3, .int .i64 x4, .int .u8 x5, .string s6, swv l7, .int .i64 x8], 41, false, 7⟩) _ h) ?_
                clear h
                rintro v H49 ⟨rfl, h⟩
                refine SOps.nil ?_
                exact ⟨_, (Fr.upds_self _ [] trivial), h⟩
              · replace h := h.2 c45
                have dc45 : (x11 == 5) = false := (beq_eq_false_iff_ne.mpr c45)
                refine SW.cond_f (t := (x11 == 5)) rfl dc45 ?_
                refine SW.seq ?_
                refine SW.region ?_
                refine SOps.val (v := .bool (x11 == 6)) rfl (wantN rfl) (fun _ => by kernel_rfl) ?_
                refine SOps.val (v := .bool (x11 == 6)) rfl (wantN rfl) (fun _ => by kernel_rfl) ?_
                refine SOps.nil ?_
                by_cases c50 : x11 = 6
                · replace h := h.1 c50
                  have dc50 : (x11 == 6) = true := (beq_iff_eq.mpr c50)
                  refine SW.cond_t (t := (x11 == 6)) rfl dc50 ?_
                  refine SW.seq ?_
                  refine SW.region ?_
                  refine SOps.val (v := pv p1) rfl (wantN rfl) (fun _ => by kernel_rfl) ?_
                  refine SOps.val (v := pv (some (b9, 1))) rfl (wantN rfl) (fun _ => by kernel_rfl) ?_
                  obtain ⟨x51, c52, h⟩ := h
                  refine SOps.rd (v := .int .i64 x51) rfl (wantN rfl) (fun w hw => ev_load1 rfl (fun _ => by kernel_rfl) (p := (b9, 1)) rfl c52 w hw) ?_
                  refine SOps.val (v := pv (some (b9, 2))) rfl (wantN rfl) (fun _ => by kernel_rfl) ?_
                  obtain ⟨x53, c54, h⟩ := h
                  refine SOps.rd (v := .int .i64 x53) rfl (wantN rfl) (fun w hw => ev_load1 rfl (fun _ => by kernel_rfl) (p := (b9, 2)) rfl c54 w hw) ?_
                  refine SOps.val (v := pv (some (b9, 3))) rfl (wantN rfl) (fun _ => by kernel_rfl) ?_
                  obtain ⟨x55, c56, h⟩ := h
                  refine SOps.rd (v := .int .u8 x55) rfl (wantN rfl) (fun w hw => ev_load1 rfl (fun _ => by kernel_rfl) (p := (b9, 3)) rfl c56 w hw) ?_
                  refine SOps.enter rfl (wantN rfl) (fun _ => by kernel_rfl) (disk_Disk_Rot.sound F p1 x51 x53 x55 (SH.upd H b9 ⟨[.int .i64 x2, .int .i64 x3, .int .i64 x4, .int .u8 x5, .string s6, swv l7, .int .i64 x8], 41, false, 7⟩) _ h) ?_
                  clear h
                  rintro v H58 ⟨q57, rfl, h⟩
                  refine SOps.nil ?_
                  by_cases c59 : q57 = true
                  · replace h := h.1 c59
                    have dc59 : q57 = true := c59
                    refine SW.cond_t (t := q57) rfl dc59 ?_
                    refine SW.seq ?_
                    refine SW.region ?_
                    refine SOps.val (v := .int .i64 1) rfl (wantN rfl) (fun _ => by kernel_rfl) ?_
                    refine SOps.nil ?_
                    obtain ⟨Hr, hr, h⟩ := h
                    exact SW.ret (retQ.mk (.int .i64 1) (res1 rfl rfl) hr ⟨1, rfl, h⟩)
                  · replace h := h.2 c59
                    have dc59 : q57 = false := (Bool.eq_false_iff.mpr c59)
                    refine SW.cond_f (t := q57) rfl dc59 ?_
                    refine SW.skip ?_
                    exact ⟨_, (Fr.upds_self _ [] trivial), h⟩
                · replace h := h.2 c50
                  have dc50 : (x11 == 6) = false := (beq_eq_false_iff_ne.mpr c50)
                  refine SW.cond_f (t := (x11 == 6)) rfl dc50 ?_
                  refine SW.skip ?_
                  exact ⟨_, (Fr.upds_self _ [] trivial), h⟩

end Go.Proofs.YtknhlipealekoaaDoor.K
