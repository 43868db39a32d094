import Derived.Test.YtknhlipealekoaaGdisk
set_option linter.unusedVariables false
set_option linter.unusedSimpArgs false
set_option maxRecDepth 100000
namespace Go.Proofs.Ytknhlipealekoaa.K
open Go
attribute [local irreducible] SW SOps SQ SCalls retQ

/-! ### lading/ladinglaw14.awake: function 6 -/
def ladinglaw14_awake.wp (F : Nat) (H : SH) (K : Bool → SH → Prop) : Prop :=
  disk_New.wp F 2 H (fun p1 H2 =>
    (p1 = none →
      ∃ Hr, SH.le Hr H2 ∧ K false Hr
    ) ∧ (∀ b3 o4, p1 = some (b3, o4) →
      disk_Disk_Append.wp F (some (b3, o4)) (⟨#[97, 98]⟩ : ByteArray) H2 (fun e5 H6 =>
        (e5 = none →
          disk_Disk_Sync.wp F (some (b3, o4)) H6 (fun e8 H9 =>
            (e8 = none →
              disk_Disk_Append.wp F (some (b3, o4)) (⟨#[99, 100]⟩ : ByteArray) H9 (fun e11 H12 =>
                (e11 = none →
                  disk_Disk_Crash.wp F (some (b3, o4)) Sl.nil 0 H12 (fun H14 =>
                    disk_Disk_Log.wp F (some (b3, o4)) H14 (fun s15 e16 H17 =>
                      (s15 = (⟨#[97, 98]⟩ : ByteArray) →
                        (e16 = none →
                          disk_Disk_Slots.wp F (some (b3, o4)) H17 (fun x20 H21 =>
                            ∃ Hr, SH.le Hr H21 ∧ K (x20 == 2) Hr
                          )
                        ) ∧ (∀ v19, e16 = some v19 →
                          ∃ Hr, SH.le Hr H17 ∧ K false Hr
                        )
                      ) ∧ (¬ (s15 = (⟨#[97, 98]⟩ : ByteArray)) →
                        ∃ Hr, SH.le Hr H17 ∧ K false Hr
                      )
                    )
                  )
                ) ∧ (∀ v13, e11 = some v13 →
                  ∃ Hr, SH.le Hr H12 ∧ K false Hr
                )
              )
            ) ∧ (∀ v10, e8 = some v10 →
              ∃ Hr, SH.le Hr H9 ∧ K false Hr
            )
          )
        ) ∧ (∀ v7, e5 = some v7 →
          ∃ Hr, SH.le Hr H6 ∧ K false Hr
        )
      )
    )
  )
set_option maxHeartbeats 8000000 in
theorem ladinglaw14_awake.sound (F : Nat) (H : SH) (K : Bool → SH → Prop) (h : ladinglaw14_awake.wp F H K) : SCalls Try.prog 6 #[] H (fun v H' => ∃ (q23 : Bool), v = .bool q23 ∧ K q23 H') := by
  unfold ladinglaw14_awake.wp at h
  refine SCalls.body Try.func6 rfl (Nat.le_of_ble_eq_true rfl) ?_
  refine SW.seq ?_
  refine SW.region ?_
  refine SOps.val (v := .bool false) rfl (wantN rfl) (fun _ => by kernel_rfl) ?_
  refine SOps.nil ?_
  refine SW.seq ?_
  refine SW.region ?_
  refine SOps.enter rfl (wantN rfl) (fun _ => by kernel_rfl) (disk_New.sound F 2 H _ h) ?_
  clear h
  rintro v H2 ⟨p1, rfl, h⟩
  refine SOps.val (v := pv p1) rfl (wantN rfl) (fun _ => by kernel_rfl) ?_
  refine SOps.nil ?_
  refine SW.seq ?_
  refine SW.seq ?_
  refine SW.region ?_
  refine SOps.val (v := pv p1) rfl (wantN rfl) (fun _ => by kernel_rfl) ?_
  rcases p1 with _ | ⟨b3, o4⟩
  · replace h := h.1 rfl
    refine SOps.val (v := .bool true) rfl (wantN rfl) (fun _ => by kernel_rfl) ?_
    refine SOps.val (v := .bool true) rfl (wantN rfl) (fun _ => by kernel_rfl) ?_
    refine SOps.off rfl (wantX (c := true) rfl rfl rfl rfl) ?_
    refine SOps.off rfl (wantX (c := true) rfl rfl rfl rfl) ?_
    refine SOps.off rfl (wantX (c := true) rfl rfl rfl rfl) ?_
    refine SOps.val (v := .bool true) rfl (wantN rfl) (fun w => ev_pickT (v := .bool true) rfl (t := true) rfl rfl rfl w) ?_
    refine SOps.val (v := .bool true) rfl (wantN rfl) (fun _ => by kernel_rfl) ?_
    refine SOps.off rfl (wantX (c := true) rfl rfl rfl rfl) ?_
    refine SOps.off rfl (wantX (c := true) rfl rfl rfl rfl) ?_
    refine SOps.off rfl (wantX (c := true) rfl rfl rfl rfl) ?_
    refine SOps.val (v := .bool true) rfl (wantN rfl) (fun w => ev_pickT (v := .bool true) rfl (t := true) rfl rfl rfl w) ?_
    refine SOps.val (v := .bool true) rfl (wantN rfl) (fun _ => by kernel_rfl) ?_
    refine SOps.off rfl (wantX (c := true) rfl rfl rfl rfl) ?_
    refine SOps.off rfl (wantX (c := true) rfl rfl rfl rfl) ?_
    refine SOps.off rfl (wantX (c := true) rfl rfl rfl rfl) ?_
    refine SOps.val (v := .bool true) rfl (wantN rfl) (fun w => ev_pickT (v := .bool true) rfl (t := true) rfl rfl rfl w) ?_
    refine SOps.nil ?_
    refine SW.cond_t (t := true) rfl rfl ?_
    refine SW.seq ?_
    refine SW.region ?_
    refine SOps.val (v := .bool false) rfl (wantN rfl) (fun _ => by kernel_rfl) ?_
    refine SOps.nil ?_
    obtain ⟨Hr, hr, h⟩ := h
    exact SW.ret (retQ.mk (.bool false) (res1 rfl rfl) hr ⟨false, rfl, h⟩)
  · replace h := h.2 b3 o4 rfl
    refine SOps.val (v := .bool false) rfl (wantN rfl) (fun _ => by kernel_rfl) ?_
    refine SOps.val (v := .bool false) rfl (wantN rfl) (fun _ => by kernel_rfl) ?_
    refine SOps.val (v := pv (some (b3, o4))) rfl (wantY (c := false) rfl rfl rfl rfl) (fun _ => by kernel_rfl) ?_
    refine SOps.enter rfl (wantY (c := false) rfl rfl rfl rfl) (fun _ => by kernel_rfl) (disk_Disk_Append.sound F (some (b3, o4)) (⟨#[97, 98]⟩ : ByteArray) H2 _ h) ?_
    clear h
    rintro v H6 ⟨e5, rfl, h⟩
    rcases e5 with _ | v7
    · replace h := h.1 rfl
      refine SOps.val (v := .bool false) rfl (wantY (c := false) rfl rfl rfl rfl) (fun w => ev_errNe (e := none) rfl Try.underlying27 rfl rfl w) ?_
      refine SOps.val (v := .bool false) rfl (wantN rfl) (fun w => ev_pickF (v := .bool false) rfl (t := false) rfl rfl rfl w) ?_
      refine SOps.val (v := .bool false) rfl (wantN rfl) (fun _ => by kernel_rfl) ?_
      refine SOps.val (v := pv (some (b3, o4))) rfl (wantY (c := false) rfl rfl rfl rfl) (fun _ => by kernel_rfl) ?_
      refine SOps.enter rfl (wantY (c := false) rfl rfl rfl rfl) (fun _ => by kernel_rfl) (disk_Disk_Sync.sound F (some (b3, o4)) H6 _ h) ?_
      clear h
      rintro v H9 ⟨e8, rfl, h⟩
      rcases e8 with _ | v10
      · replace h := h.1 rfl
        refine SOps.val (v := .bool false) rfl (wantY (c := false) rfl rfl rfl rfl) (fun w => ev_errNe (e := none) rfl Try.underlying27 rfl rfl w) ?_
        refine SOps.val (v := .bool false) rfl (wantN rfl) (fun w => ev_pickF (v := .bool false) rfl (t := false) rfl rfl rfl w) ?_
        refine SOps.val (v := .bool false) rfl (wantN rfl) (fun _ => by kernel_rfl) ?_
        refine SOps.val (v := pv (some (b3, o4))) rfl (wantY (c := false) rfl rfl rfl rfl) (fun _ => by kernel_rfl) ?_
        refine SOps.enter rfl (wantY (c := false) rfl rfl rfl rfl) (fun _ => by kernel_rfl) (disk_Disk_Append.sound F (some (b3, o4)) (⟨#[99, 100]⟩ : ByteArray) H9 _ h) ?_
        clear h
        rintro v H12 ⟨e11, rfl, h⟩
        rcases e11 with _ | v13
        · replace h := h.1 rfl
          refine SOps.val (v := .bool false) rfl (wantY (c := false) rfl rfl rfl rfl) (fun w => ev_errNe (e := none) rfl Try.underlying27 rfl rfl w) ?_
          refine SOps.val (v := .bool false) rfl (wantN rfl) (fun w => ev_pickF (v := .bool false) rfl (t := false) rfl rfl rfl w) ?_
          refine SOps.nil ?_
          refine SW.cond_f (t := false) rfl rfl ?_
          refine SW.skip ?_
          refine SW.seq ?_
          refine SW.region ?_
          refine SOps.val (v := pv (some (b3, o4))) rfl (wantN rfl) (fun _ => by kernel_rfl) ?_
          refine SOps.val (v := .agg #[sv Sl.nil, .int .i64 0]) rfl (wantN rfl) (fun _ => by kernel_rfl) ?_
          refine SOps.enter rfl (wantN rfl) (fun _ => by kernel_rfl) (disk_Disk_Crash.sound F (some (b3, o4)) Sl.nil 0 H12 _ h) ?_
          clear h
          rintro v H14 ⟨rfl, h⟩
          refine SOps.nil ?_
          refine SW.seq ?_
          refine SW.region ?_
          refine SOps.val (v := pv (some (b3, o4))) rfl (wantN rfl) (fun _ => by kernel_rfl) ?_
          refine SOps.enter rfl (wantN rfl) (fun _ => by kernel_rfl) (disk_Disk_Log.sound F (some (b3, o4)) H14 _ h) ?_
          clear h
          rintro v H17 ⟨s15, e16, rfl, h⟩
          refine SOps.val (v := .tuple #[.string s15, errV e16]) rfl (wantN rfl) (fun _ => by kernel_rfl) ?_
          refine SOps.val (v := .string s15) rfl (wantN rfl) (fun _ => by kernel_rfl) ?_
          refine SOps.val (v := errV e16) rfl (wantN rfl) (fun _ => by kernel_rfl) ?_
          refine SOps.val (v := .string s15) rfl (wantN rfl) (fun _ => by kernel_rfl) ?_
          refine SOps.val (v := errV e16) rfl (wantN rfl) (fun _ => by kernel_rfl) ?_
          refine SOps.nil ?_
          refine SW.seq ?_
          refine SW.region ?_
          refine SOps.val (v := .string s15) rfl (wantN rfl) (fun _ => by kernel_rfl) ?_
          refine SOps.val (v := .bool (decide (s15 = (⟨#[97, 98]⟩ : ByteArray)))) rfl (wantN rfl) (fun w => ev_eqS rfl rfl rfl w) ?_
          refine SOps.val (v := .bool (decide (s15 = (⟨#[97, 98]⟩ : ByteArray)))) rfl (wantN rfl) (fun _ => by kernel_rfl) ?_
          by_cases c18 : s15 = (⟨#[97, 98]⟩ : ByteArray)
          · replace h := h.1 c18
            have dc18 : (decide (s15 = (⟨#[97, 98]⟩ : ByteArray))) = true := (decide_eq_true c18)
            refine SOps.val (v := errV e16) rfl (wantY (c := decide (s15 = (⟨#[97, 98]⟩ : ByteArray))) rfl rfl rfl dc18) (fun _ => by kernel_rfl) ?_
            rcases e16 with _ | v19
            · replace h := h.1 rfl
              refine SOps.val (v := .bool true) rfl (wantY (c := decide (s15 = (⟨#[97, 98]⟩ : ByteArray))) rfl rfl rfl dc18) (fun w => ev_errEq (e := none) rfl Try.underlying27 rfl rfl w) ?_
              refine SOps.val (v := .bool true) rfl (wantN rfl) (fun w => ev_pickT (v := .bool true) rfl (t := decide (s15 = (⟨#[97, 98]⟩ : ByteArray))) rfl dc18 rfl w) ?_
              refine SOps.val (v := .bool true) rfl (wantN rfl) (fun _ => by kernel_rfl) ?_
              refine SOps.val (v := pv (some (b3, o4))) rfl (wantY (c := true) rfl rfl rfl rfl) (fun _ => by kernel_rfl) ?_
              refine SOps.enter rfl (wantY (c := true) rfl rfl rfl rfl) (fun _ => by kernel_rfl) (disk_Disk_Slots.sound F (some (b3, o4)) H17 _ h) ?_
              clear h
              rintro v H21 ⟨x20, rfl, h⟩
              refine SOps.val (v := .bool (x20 == 2)) rfl (wantY (c := true) rfl rfl rfl rfl) (fun _ => by kernel_rfl) ?_
              refine SOps.val (v := .bool (x20 == 2)) rfl (wantN rfl) (fun w => ev_pickT (v := .bool (x20 == 2)) rfl (t := true) rfl rfl rfl w) ?_
              refine SOps.val (v := .bool (x20 == 2)) rfl (wantN rfl) (fun _ => by kernel_rfl) ?_
              refine SOps.nil ?_
              obtain ⟨Hr, hr, h⟩ := h
              exact SW.ret (retQ.mk (.bool (x20 == 2)) (res1 rfl rfl) hr ⟨(x20 == 2), rfl, h⟩)
            · replace h := h.2 v19 rfl
              refine SOps.val (v := .bool false) rfl (wantY (c := decide (s15 = (⟨#[97, 98]⟩ : ByteArray))) rfl rfl rfl dc18) (fun w => ev_errEq (e := some v19) rfl Try.underlying27 rfl rfl w) ?_
              refine SOps.val (v := .bool false) rfl (wantN rfl) (fun w => ev_pickT (v := .bool false) rfl (t := decide (s15 = (⟨#[97, 98]⟩ : ByteArray))) rfl dc18 rfl w) ?_
              refine SOps.val (v := .bool false) rfl (wantN rfl) (fun _ => by kernel_rfl) ?_
              refine SOps.off rfl (wantX (c := false) rfl rfl rfl rfl) ?_
              refine SOps.off rfl (wantX (c := false) rfl rfl rfl rfl) ?_
              refine SOps.off rfl (wantX (c := false) rfl rfl rfl rfl) ?_
              refine SOps.val (v := .bool false) rfl (wantN rfl) (fun w => ev_pickF (v := .bool false) rfl (t := false) rfl rfl rfl w) ?_
              refine SOps.val (v := .bool false) rfl (wantN rfl) (fun _ => by kernel_rfl) ?_
              refine SOps.nil ?_
              obtain ⟨Hr, hr, h⟩ := h
              exact SW.ret (retQ.mk (.bool false) (res1 rfl rfl) hr ⟨false, rfl, h⟩)
          · replace h := h.2 c18
            have dc18 : (decide (s15 = (⟨#[97, 98]⟩ : ByteArray))) = false := (decide_eq_false c18)
            refine SOps.off rfl (wantX (c := decide (s15 = (⟨#[97, 98]⟩ : ByteArray))) rfl rfl rfl dc18) ?_
            refine SOps.off rfl (wantX (c := decide (s15 = (⟨#[97, 98]⟩ : ByteArray))) rfl rfl rfl dc18) ?_
            refine SOps.val (v := .bool false) rfl (wantN rfl) (fun w => ev_pickF (v := .bool false) rfl (t := decide (s15 = (⟨#[97, 98]⟩ : ByteArray))) rfl dc18 rfl w) ?_
            refine SOps.val (v := .bool false) rfl (wantN rfl) (fun _ => by kernel_rfl) ?_
            refine SOps.off rfl (wantX (c := false) rfl rfl rfl rfl) ?_
            refine SOps.off rfl (wantX (c := false) rfl rfl rfl rfl) ?_
            refine SOps.off rfl (wantX (c := false) rfl rfl rfl rfl) ?_
            refine SOps.val (v := .bool false) rfl (wantN rfl) (fun w => ev_pickF (v := .bool false) rfl (t := false) rfl rfl rfl w) ?_
            refine SOps.val (v := .bool false) rfl (wantN rfl) (fun _ => by kernel_rfl) ?_
            refine SOps.nil ?_
            obtain ⟨Hr, hr, h⟩ := h
            exact SW.ret (retQ.mk (.bool false) (res1 rfl rfl) hr ⟨false, rfl, h⟩)
        · replace h := h.2 v13 rfl
          refine SOps.val (v := .bool true) rfl (wantY (c := false) rfl rfl rfl rfl) (fun w => ev_errNe (e := some v13) rfl Try.underlying27 rfl rfl w) ?_
          refine SOps.val (v := .bool true) rfl (wantN rfl) (fun w => ev_pickF (v := .bool true) rfl (t := false) rfl rfl rfl w) ?_
          refine SOps.nil ?_
          refine SW.cond_t (t := true) rfl rfl ?_
          refine SW.seq ?_
          refine SW.region ?_
          refine SOps.val (v := .bool false) rfl (wantN rfl) (fun _ => by kernel_rfl) ?_
          refine SOps.nil ?_
          obtain ⟨Hr, hr, h⟩ := h
          exact SW.ret (retQ.mk (.bool false) (res1 rfl rfl) hr ⟨false, rfl, h⟩)
      · replace h := h.2 v10 rfl
        refine SOps.val (v := .bool true) rfl (wantY (c := false) rfl rfl rfl rfl) (fun w => ev_errNe (e := some v10) rfl Try.underlying27 rfl rfl w) ?_
        refine SOps.val (v := .bool true) rfl (wantN rfl) (fun w => ev_pickF (v := .bool true) rfl (t := false) rfl rfl rfl w) ?_
        refine SOps.val (v := .bool true) rfl (wantN rfl) (fun _ => by kernel_rfl) ?_
        refine SOps.off rfl (wantX (c := true) rfl rfl rfl rfl) ?_
        refine SOps.off rfl (wantX (c := true) rfl rfl rfl rfl) ?_
        refine SOps.off rfl (wantX (c := true) rfl rfl rfl rfl) ?_
        refine SOps.val (v := .bool true) rfl (wantN rfl) (fun w => ev_pickT (v := .bool true) rfl (t := true) rfl rfl rfl w) ?_
        refine SOps.nil ?_
        refine SW.cond_t (t := true) rfl rfl ?_
        refine SW.seq ?_
        refine SW.region ?_
        refine SOps.val (v := .bool false) rfl (wantN rfl) (fun _ => by kernel_rfl) ?_
        refine SOps.nil ?_
        obtain ⟨Hr, hr, h⟩ := h
        exact SW.ret (retQ.mk (.bool false) (res1 rfl rfl) hr ⟨false, rfl, h⟩)
    · replace h := h.2 v7 rfl
      refine SOps.val (v := .bool true) rfl (wantY (c := false) rfl rfl rfl rfl) (fun w => ev_errNe (e := some v7) rfl Try.underlying27 rfl rfl w) ?_
      refine SOps.val (v := .bool true) rfl (wantN rfl) (fun w => ev_pickF (v := .bool true) rfl (t := false) rfl rfl rfl w) ?_
      refine SOps.val (v := .bool true) rfl (wantN rfl) (fun _ => by kernel_rfl) ?_
      refine SOps.off rfl (wantX (c := true) rfl rfl rfl rfl) ?_
      refine SOps.off rfl (wantX (c := true) rfl rfl rfl rfl) ?_
      refine SOps.off rfl (wantX (c := true) rfl rfl rfl rfl) ?_
      refine SOps.val (v := .bool true) rfl (wantN rfl) (fun w => ev_pickT (v := .bool true) rfl (t := true) rfl rfl rfl w) ?_
      refine SOps.val (v := .bool true) rfl (wantN rfl) (fun _ => by kernel_rfl) ?_
      refine SOps.off rfl (wantX (c := true) rfl rfl rfl rfl) ?_
      refine SOps.off rfl (wantX (c := true) rfl rfl rfl rfl) ?_
      refine SOps.off rfl (wantX (c := true) rfl rfl rfl rfl) ?_
      refine SOps.val (v := .bool true) rfl (wantN rfl) (fun w => ev_pickT (v := .bool true) rfl (t := true) rfl rfl rfl w) ?_
      refine SOps.nil ?_
      refine SW.cond_t (t := true) rfl rfl ?_
      refine SW.seq ?_
      refine SW.region ?_
      refine SOps.val (v := .bool false) rfl (wantN rfl) (fun _ => by kernel_rfl) ?_
      refine SOps.nil ?_
      obtain ⟨Hr, hr, h⟩ := h
      exact SW.ret (retQ.mk (.bool false) (res1 rfl rfl) hr ⟨false, rfl, h⟩)

/-! ### lading/ladinglaw14.DiskRots: function 3 -/
def ladinglaw14_DiskRots.j1 (F : Nat) (K : Bool → SH → Prop) (R1 : ByteArray → Sl → Bool → Option (Nat × Nat) → Sl → Sl → Int → Int → SH → Prop) (s74 : ByteArray) (l75 : Sl) (q76 : Bool) (p77 : Option (Nat × Nat)) (l78 : Sl) (l79 : Sl) (x80 : Int) (x81 : Int) (H : SH) : Prop :=
  R1 s74 l75 q76 p77 l78 l79 x80 (w64 (x81 + 1)) H
def ladinglaw14_DiskRots.j2 (F : Nat) (K : Bool → SH → Prop) (R1 : ByteArray → Sl → Bool → Option (Nat × Nat) → Sl → Sl → Int → Int → SH → Prop) (s66 : ByteArray) (l67 : Sl) (q68 : Bool) (p69 : Option (Nat × Nat)) (l70 : Sl) (l71 : Sl) (x72 : Int) (x73 : Int) (H : SH) : Prop :=
  ladinglaw14_DiskRots.j1 F K R1 s66 l67 q68 p69 l70 l71 x72 x73 H
def ladinglaw14_DiskRots.r2 (F : Nat) (K : Bool → SH → Prop) (R2 : ByteArray → Option (Nat × Nat) → Sl → Int → Int → SH → Prop) (s101 : ByteArray) (p102 : Option (Nat × Nat)) (l103 : Sl) (x104 : Int) (x105 : Int) (H : SH) : Prop :=
  (x105 < x104 →
    ∃ p107, l103.a = some p107 ∧ 0 ≤ x105 ∧ x105 < (l103.len : Int) ∧
    ∃ (x111 : Int) (x112 : Int),
    SH.row H (some (p107.1, (p107.2 + x105.toNat * 2))) [.int .u8 x111, .int .u8 x112] ∧
    ∀ b114, H b114 = none →
    SH.wrs (SH.upd H b114 ⟨[.int .u8 0, .int .u8 0], 31, false, 2⟩) (b114, 0) 2 ∧
    ∃ (x117 : Int),
    SH.has (SH.setl (SH.upd H b114 ⟨[.int .u8 0, .int .u8 0], 31, false, 2⟩) (b114, 0) [.int .u8 x111, .int .u8 x112]) (b114, 0) (.int .u8 x117) ∧
    ∃ (x119 : Int),
    SH.has (SH.setl (SH.upd H b114 ⟨[.int .u8 0, .int .u8 0], 31, false, 2⟩) (b114, 0) [.int .u8 x111, .int .u8 x112]) (b114, 1) (.int .u8 x119) ∧
    disk_Disk_Rot.wp F p102 1 (w64 x117) x119 (SH.setl (SH.upd H b114 ⟨[.int .u8 0, .int .u8 0], 31, false, 2⟩) (b114, 0) [.int .u8 x111, .int .u8 x112]) (fun q121 H122 =>
      R2 s101 p102 l103 x104 (w64 (x105 + 1)) H122
    )
  ) ∧ (¬ (x105 < x104) →
    disk_Disk_Get.wp F p102 1 H (fun s123 e124 H125 =>
      (s123 = s101 →
        (e124 = none →
          ∃ Hr, SH.le Hr H125 ∧ K true Hr
        ) ∧ (∀ v127, e124 = some v127 →
          ∃ Hr, SH.le Hr H125 ∧ K false Hr
        )
      ) ∧ (¬ (s123 = s101) →
        ∃ Hr, SH.le Hr H125 ∧ K false Hr
      )
    )
  )
def ladinglaw14_DiskRots.l2 (F : Nat) (K : Bool → SH → Prop) : Nat → ByteArray → Option (Nat × Nat) → Sl → Int → Int → SH → Prop
  | 0, _, _, _, _, _, _ => False
  | k + 1, s101, p102, l103, x104, x105, H => ladinglaw14_DiskRots.r2 F K (ladinglaw14_DiskRots.l2 F K k) s101 p102 l103 x104 x105 H
def ladinglaw14_DiskRots.j3 (F : Nat) (K : Bool → SH → Prop) (s88 : ByteArray) (l89 : Sl) (p90 : Option (Nat × Nat)) (l91 : Sl) (H : SH) : Prop :=
  disk_Disk_Crash.wp F p90 Sl.nil 0 H (fun H92 =>
    disk_Disk_Get.wp F p90 1 H92 (fun s93 e94 H95 =>
      ∃ bs96 : List UInt8,
      l91.len = bs96.length ∧
      SH.row H95 l91.a (byteCells bs96) ∧
      ((s93 = (⟨bs96.toArray⟩ : ByteArray)) →
        (e94 = none →
          ladinglaw14_DiskRots.l2 F K F s88 p90 l89 (l89.len : Int) 0 H95
        ) ∧ (∀ v100, e94 = some v100 →
          ∃ Hr, SH.le Hr H95 ∧ K false Hr
        )
      ) ∧ (¬ ((s93 = (⟨bs96.toArray⟩ : ByteArray))) →
        ∃ Hr, SH.le Hr H95 ∧ K false Hr
      )
    )
  )
def ladinglaw14_DiskRots.r1 (F : Nat) (K : Bool → SH → Prop) (R1 : ByteArray → Sl → Bool → Option (Nat × Nat) → Sl → Sl → Int → Int → SH → Prop) (s21 : ByteArray) (l22 : Sl) (q23 : Bool) (p24 : Option (Nat × Nat)) (l25 : Sl) (l26 : Sl) (x27 : Int) (x28 : Int) (H : SH) : Prop :=
  (x28 < x27 →
    ∃ p30, l26.a = some p30 ∧ 0 ≤ x28 ∧ x28 < (l26.len : Int) ∧
    ∃ (x34 : Int) (x35 : Int),
    SH.row H (some (p30.1, (p30.2 + x28.toNat * 2))) [.int .u8 x34, .int .u8 x35] ∧
    ∀ b37, H b37 = none →
    SH.wrs (SH.upd H b37 ⟨[.int .u8 0, .int .u8 0], 31, false, 2⟩) (b37, 0) 2 ∧
    ∃ (x40 : Int),
    SH.has (SH.setl (SH.upd H b37 ⟨[.int .u8 0, .int .u8 0], 31, false, 2⟩) (b37, 0) [.int .u8 x34, .int .u8 x35]) (b37, 0) (.int .u8 x40) ∧
    ∃ (x42 : Int),
    SH.has (SH.setl (SH.upd H b37 ⟨[.int .u8 0, .int .u8 0], 31, false, 2⟩) (b37, 0) [.int .u8 x34, .int .u8 x35]) (b37, 0) (.int .u8 x42) ∧
    ∃ (x44 : Int),
    SH.has (SH.setl (SH.upd H b37 ⟨[.int .u8 0, .int .u8 0], 31, false, 2⟩) (b37, 0) [.int .u8 x34, .int .u8 x35]) (b37, 1) (.int .u8 x44) ∧
    disk_Disk_Rot.wp F p24 1 (w64 x42) x44 (SH.setl (SH.upd H b37 ⟨[.int .u8 0, .int .u8 0], 31, false, 2⟩) (b37, 0) [.int .u8 x34, .int .u8 x35]) (fun q46 H47 =>
      (q46 ≠ (decide ((w64 x40) < (l25.len : Int))) →
        ∃ Hr, SH.le Hr H47 ∧ K false Hr
      ) ∧ (¬ (q46 ≠ (decide ((w64 x40) < (l25.len : Int)))) →
        ((w64 x40) < (l25.len : Int) →
          ∃ (x50 : Int),
          SH.has H47 (b37, 0) (.int .u8 x50) ∧
          ∃ p52, l25.a = some p52 ∧ 0 ≤ x50 ∧ x50 < (l25.len : Int) ∧
          ∃ (x56 : Int),
          SH.has H47 (p52.1, (p52.2 + x50.toNat * 1)) (.int .u8 x56) ∧
          ∃ (x58 : Int),
          SH.has H47 (b37, 1) (.int .u8 x58) ∧
          ∃ p60, l25.a = some p60 ∧ 0 ≤ x50 ∧ x50 < (l25.len : Int) ∧
          SH.wrs H47 (p60.1, (p60.2 + x50.toNat * 1)) 1 ∧
          ladinglaw14_DiskRots.j2 F K R1 s21 l22 q23 p24 l25 l26 x27 x28 (SH.setl H47 (p60.1, (p60.2 + x50.toNat * 1)) [.int .u8 (ibits .xor .u8 x56 x58)])
        ) ∧ (¬ ((w64 x40) < (l25.len : Int)) →
          ladinglaw14_DiskRots.j2 F K R1 s21 l22 q23 p24 l25 l26 x27 x28 H47
        )
      )
    )
  ) ∧ (¬ (x28 < x27) →
    (q23 = true →
      disk_Disk_Sync.wp F p24 H (fun e85 H86 =>
        (e85 = none →
          ladinglaw14_DiskRots.j3 F K s21 l22 p24 l25 H86
        ) ∧ (∀ v87, e85 = some v87 →
          ∃ Hr, SH.le Hr H86 ∧ K false Hr
        )
      )
    ) ∧ (¬ (q23 = true) →
      ladinglaw14_DiskRots.j3 F K s21 l22 p24 l25 H
    )
  )
def ladinglaw14_DiskRots.l1 (F : Nat) (K : Bool → SH → Prop) : Nat → ByteArray → Sl → Bool → Option (Nat × Nat) → Sl → Sl → Int → Int → SH → Prop
  | 0, _, _, _, _, _, _, _, _, _ => False
  | k + 1, s21, l22, q23, p24, l25, l26, x27, x28, H => ladinglaw14_DiskRots.r1 F K (ladinglaw14_DiskRots.l1 F K k) s21 l22 q23 p24 l25 l26 x27 x28 H
def ladinglaw14_DiskRots.wp (F : Nat) (s1 : ByteArray) (l2 : Sl) (q3 : Bool) (H : SH) (K : Bool → SH → Prop) : Prop :=
  ladinglaw14_awake.wp F  H (fun q4 H5 =>
    (q4 = true →
      ((s1.size : Int) > 64 →
        ∃ Hr, SH.le Hr H5 ∧ K true Hr
      ) ∧ (¬ ((s1.size : Int) > 64) →
        ((l2.len : Int) > 20 →
          ∃ Hr, SH.le Hr H5 ∧ K true Hr
        ) ∧ (¬ ((l2.len : Int) > 20) →
          disk_New.wp F 2 H5 (fun p9 H10 =>
            disk_Disk_Put.wp F p9 1 s1 H10 (fun e11 H12 =>
              (e11 = none →
                disk_Disk_Sync.wp F p9 H12 (fun e14 H15 =>
                  (e14 = none →
                    ∀ b17 n18, H15 b17 = none → s1.size ≤ n18 →
                    ladinglaw14_DiskRots.l1 F K F s1 l2 q3 p9 (⟨some (b17, 0), s1.size, n18⟩ : Sl) l2 (l2.len : Int) 0 (SH.upd H15 b17 ⟨byteCells s1.data.toList, 5, false, n18⟩)
                  ) ∧ (∀ v16, e14 = some v16 →
                    ∃ Hr, SH.le Hr H15 ∧ K false Hr
                  )
                )
              ) ∧ (∀ v13, e11 = some v13 →
                ∃ Hr, SH.le Hr H12 ∧ K false Hr
              )
            )
          )
        )
      )
    ) ∧ (¬ (q4 = true) →
      ∃ Hr, SH.le Hr H5 ∧ K false Hr
    )
  )
set_option maxHeartbeats 8000000 in
theorem ladinglaw14_DiskRots.sound (F : Nat) (s1 : ByteArray) (l2 : Sl) (q3 : Bool) (H : SH) (K : Bool → SH → Prop) (h : ladinglaw14_DiskRots.wp F s1 l2 q3 H K) : SCalls Try.prog 3 #[.string s1, sv l2, .bool q3] H (fun v H' => ∃ (q134 : Bool), v = .bool q134 ∧ K q134 H') := by
  unfold ladinglaw14_DiskRots.wp at h
  refine SCalls.body Try.func3 rfl (Nat.le_of_ble_eq_true rfl) ?_
  refine SW.seq ?_
  refine SW.region ?_
  refine SOps.val (v := .bool false) rfl (wantN rfl) (fun _ => by kernel_rfl) ?_
  refine SOps.nil ?_
  refine SW.seq ?_
  refine SW.seq ?_
  refine SW.region ?_
  refine SOps.enter rfl (wantN rfl) (fun _ => by kernel_rfl) (ladinglaw14_awake.sound F  H _ h) ?_
  clear h
  rintro v H5 ⟨q4, rfl, h⟩
  refine SOps.val (v := .bool !q4) rfl (wantN rfl) (fun _ => by kernel_rfl) ?_
  refine SOps.nil ?_
  by_cases c6 : q4 = true
  · replace h := h.1 c6
    have dc6 : q4 = true := c6
    refine SW.cond_f (t := !q4) rfl (not_t dc6) ?_
    refine SW.skip ?_
    refine SW.seq ?_
    refine SW.seq ?_
    refine SW.region ?_
    refine SOps.val (v := .string s1) rfl (wantN rfl) (fun _ => by kernel_rfl) ?_
    refine SOps.val (v := .int .i64 (s1.size : Int)) rfl (wantN rfl) (fun _ => by kernel_rfl) ?_
    refine SOps.val (v := .bool (decide ((s1.size : Int) > 64))) rfl (wantN rfl) (fun _ => by kernel_rfl) ?_
    refine SOps.val (v := .bool (decide ((s1.size : Int) > 64))) rfl (wantN rfl) (fun _ => by kernel_rfl) ?_
    by_cases c7 : (s1.size : Int) > 64
    · replace h := h.1 c7
      have dc7 : (decide ((s1.size : Int) > 64)) = true := (decide_eq_true c7)
      refine SOps.off rfl (wantX (c := decide ((s1.size : Int) > 64)) rfl rfl rfl dc7) ?_
      refine SOps.off rfl (wantX (c := decide ((s1.size : Int) > 64)) rfl rfl rfl dc7) ?_
      refine SOps.off rfl (wantX (c := decide ((s1.size : Int) > 64)) rfl rfl rfl dc7) ?_
      refine SOps.val (v := .bool true) rfl (wantN rfl) (fun w => ev_pickT (v := .bool true) rfl (t := decide ((s1.size : Int) > 64)) rfl dc7 rfl w) ?_
      refine SOps.nil ?_
      refine SW.cond_t (t := true) rfl rfl ?_
      refine SW.seq ?_
      refine SW.region ?_
      refine SOps.val (v := .bool true) rfl (wantN rfl) (fun _ => by kernel_rfl) ?_
      refine SOps.nil ?_
      obtain ⟨Hr, hr, h⟩ := h
      exact SW.ret (retQ.mk (.bool true) (res1 rfl rfl) hr ⟨true, rfl, h⟩)
    · replace h := h.2 c7
      have dc7 : (decide ((s1.size : Int) > 64)) = false := (decide_eq_false c7)
      refine SOps.val (v := sv l2) rfl (wantY (c := decide ((s1.size : Int) > 64)) rfl rfl rfl dc7) (fun _ => by kernel_rfl) ?_
      refine SOps.val (v := .int .i64 (l2.len : Int)) rfl (wantY (c := decide ((s1.size : Int) > 64)) rfl rfl rfl dc7) (fun _ => by kernel_rfl) ?_
      refine SOps.val (v := .bool (decide ((l2.len : Int) > 20))) rfl (wantY (c := decide ((s1.size : Int) > 64)) rfl rfl rfl dc7) (fun _ => by kernel_rfl) ?_
      refine SOps.val (v := .bool (decide ((l2.len : Int) > 20))) rfl (wantN rfl) (fun w => ev_pickF (v := .bool (decide ((l2.len : Int) > 20))) rfl (t := decide ((s1.size : Int) > 64)) rfl dc7 rfl w) ?_
      refine SOps.nil ?_
      by_cases c8 : (l2.len : Int) > 20
      · replace h := h.1 c8
        have dc8 : (decide ((l2.len : Int) > 20)) = true := (decide_eq_true c8)
        refine SW.cond_t (t := decide ((l2.len : Int) > 20)) rfl dc8 ?_
        refine SW.seq ?_
        refine SW.region ?_
        refine SOps.val (v := .bool true) rfl (wantN rfl) (fun _ => by kernel_rfl) ?_
        refine SOps.nil ?_
        obtain ⟨Hr, hr, h⟩ := h
        exact SW.ret (retQ.mk (.bool true) (res1 rfl rfl) hr ⟨true, rfl, h⟩)
      · replace h := h.2 c8
        have dc8 : (decide ((l2.len : Int) > 20)) = false := (decide_eq_false c8)
        refine SW.cond_f (t := decide ((l2.len : Int) > 20)) rfl dc8 ?_
        refine SW.skip ?_
        refine SW.seq ?_
        refine SW.region ?_
        refine SOps.enter rfl (wantN rfl) (fun _ => by kernel_rfl) (disk_New.sound F 2 H5 _ h) ?_
        clear h
        rintro v H10 ⟨p9, rfl, h⟩
        refine SOps.val (v := pv p9) rfl (wantN rfl) (fun _ => by kernel_rfl) ?_
        refine SOps.nil ?_
        refine SW.seq ?_
        refine SW.seq ?_
        refine SW.region ?_
        refine SOps.val (v := pv p9) rfl (wantN rfl) (fun _ => by kernel_rfl) ?_
        refine SOps.val (v := .string s1) rfl (wantN rfl) (fun _ => by kernel_rfl) ?_
        refine SOps.enter rfl (wantN rfl) (fun _ => by kernel_rfl) (disk_Disk_Put.sound F p9 1 s1 H10 _ h) ?_
        clear h
        rintro v H12 ⟨e11, rfl, h⟩
        rcases e11 with _ | v13
        · replace h := h.1 rfl
          refine SOps.val (v := .bool false) rfl (wantN rfl) (fun w => ev_errNe (e := none) rfl Try.underlying27 rfl rfl w) ?_
          refine SOps.val (v := .bool false) rfl (wantN rfl) (fun _ => by kernel_rfl) ?_
          refine SOps.val (v := pv p9) rfl (wantY (c := false) rfl rfl rfl rfl) (fun _ => by kernel_rfl) ?_
          refine SOps.enter rfl (wantY (c := false) rfl rfl rfl rfl) (fun _ => by kernel_rfl) (disk_Disk_Sync.sound F p9 H12 _ h) ?_
          clear h
          rintro v H15 ⟨e14, rfl, h⟩
          rcases e14 with _ | v16
          · replace h := h.1 rfl
            refine SOps.val (v := .bool false) rfl (wantY (c := false) rfl rfl rfl rfl) (fun w => ev_errNe (e := none) rfl Try.underlying27 rfl rfl w) ?_
            refine SOps.val (v := .bool false) rfl (wantN rfl) (fun w => ev_pickF (v := .bool false) rfl (t := false) rfl rfl rfl w) ?_
            refine SOps.nil ?_
            refine SW.cond_f (t := false) rfl rfl ?_
            refine SW.skip ?_
            refine SW.seq ?_
            refine SW.region ?_
            refine SOps.val (v := .string s1) rfl (wantN rfl) (fun _ => by kernel_rfl) ?_
            refine SOps.bytes rfl rfl (wantN rfl) Try.underlying9 Try.underlying30 Try.underlying5 rfl (fun b17 n18 c19 c20 => ?_)
            replace h := h b17 n18 c19 c20
            refine SOps.val (v := sv (⟨some (b17, 0), s1.size, n18⟩ : Sl)) rfl (wantN rfl) (fun _ => by kernel_rfl) ?_
            refine SOps.nil ?_
            refine SW.seq ?_
            refine SW.seq ?_
            refine SW.region ?_
            refine SOps.val (v := sv l2) rfl (wantN rfl) (fun _ => by kernel_rfl) ?_
            refine SOps.val (v := .int .i64 (l2.len : Int)) rfl (wantN rfl) (fun _ => by kernel_rfl) ?_
            refine SOps.val (v := .int .i64 0) rfl (wantN rfl) (fun _ => by kernel_rfl) ?_
            refine SOps.nil ?_
            refine SW.block ?_
            refine SW.loop (fun k1 fr H => ∃ (g : Fr) (s21 : ByteArray) (l22 : Sl) (q23 : Bool) (p24 : Option (Nat × Nat)) (l25 : Sl) (l26 : Sl) (x27 : Int) (x28 : Int), fr = g.upds [(0, (.string s21 : Value)), (1, sv l22), (2, (.bool q23 : Value)), (7, pv p24), (8, sv l25), (40, sv l26), (41, (.int .i64 x27 : Value)), (42, (.int .i64 x28 : Value))] ∧ ladinglaw14_DiskRots.l1 F K k1 s21 l22 q23 p24 l25 l26 x27 x28 H) F ⟨_, s1, l2, q3, p9, (⟨some (b17, 0), s1.size, n18⟩ : Sl), l2, (l2.len : Int), 0, (Fr.upds_self _ _ ⟨rfl, rfl, rfl, rfl, rfl, rfl, rfl, rfl, trivial⟩), h⟩ ?_
            clear h
            rintro k1 fr H ⟨g, s21, l22, q23, p24, l25, l26, x27, x28, rfl, h⟩
            cases k1 with
            | zero => exact h.elim
            | succ k1 =>
              replace h : ladinglaw14_DiskRots.r1 F K (ladinglaw14_DiskRots.l1 F K k1) s21 l22 q23 p24 l25 l26 x27 x28 H := h
              unfold ladinglaw14_DiskRots.r1 at h
              refine SW.seq ?_
              refine SW.region ?_
              refine SOps.val (v := .bool (decide (x28 < x27))) rfl (wantN rfl) (fun _ => by kernel_rfl) ?_
              refine SOps.nil ?_
              refine SW.seq ?_
              by_cases c29 : x28 < x27
              · replace h := h.1 c29
                have dc29 : (decide (x28 < x27)) = true := (decide_eq_true c29)
                refine SW.cond_t (t := decide (x28 < x27)) rfl dc29 ?_
                refine SW.skip ?_
                refine SW.seqJ (fun fr H => ∃ (g : Fr) (s74 : ByteArray) (l75 : Sl) (q76 : Bool) (p77 : Option (Nat × Nat)) (l78 : Sl) (l79 : Sl) (x80 : Int) (x81 : Int), fr = g.upds [(0, (.string s74 : Value)), (1, sv l75), (2, (.bool q76 : Value)), (7, pv p77), (8, sv l78), (40, sv l79), (41, (.int .i64 x80 : Value)), (42, (.int .i64 x81 : Value))] ∧ ladinglaw14_DiskRots.j1 F K (ladinglaw14_DiskRots.l1 F K k1) s74 l75 q76 p77 l78 l79 x80 x81 H) ?_ ?_
                · clear h
                  rintro fr H ⟨g, s74, l75, q76, p77, l78, l79, x80, x81, rfl, h⟩
                  unfold ladinglaw14_DiskRots.j1 at h
                  refine SW.region ?_
                  refine SOps.val (v := .int .i64 (w64 (x81 + 1))) rfl (wantN rfl) (fun _ => by kernel_rfl) ?_
                  refine SOps.val (v := .int .i64 (w64 (x81 + 1))) rfl (wantN rfl) (fun _ => by kernel_rfl) ?_
                  refine SOps.nil ?_
                  exact ⟨k1, Nat.lt_succ_self k1, _, s74, l75, q76, p77, l78, l79, x80, w64 (x81 + 1), (Fr.upds_self _ _ ⟨rfl, rfl, rfl, rfl, rfl, rfl, rfl, rfl, trivial⟩), h⟩
                · skip
                  refine SW.blockJ (fun fr H => ∃ (g : Fr) (s66 : ByteArray) (l67 : Sl) (q68 : Bool) (p69 : Option (Nat × Nat)) (l70 : Sl) (l71 : Sl) (x72 : Int) (x73 : Int), fr = g.upds [(0, (.string s66 : Value)), (1, sv l67), (2, (.bool q68 : Value)), (7, pv p69), (8, sv l70), (40, sv l71), (41, (.int .i64 x72 : Value)), (42, (.int .i64 x73 : Value))] ∧ ladinglaw14_DiskRots.j2 F K (ladinglaw14_DiskRots.l1 F K k1) s66 l67 q68 p69 l70 l71 x72 x73 H) ?_ ?_
                  · clear h
                    rintro fr H ⟨g, s66, l67, q68, p69, l70, l71, x72, x73, rfl, h⟩
                    unfold ladinglaw14_DiskRots.j2 at h
                    exact ⟨_, s66, l67, q68, p69, l70, l71, x72, x73, Fr.upds_self _ _ ⟨rfl, rfl, rfl, rfl, rfl, rfl, rfl, rfl, trivial⟩, h⟩
                  · skip
                    refine SW.seq ?_
                    refine SW.region ?_
                    obtain ⟨p30, c31, c32, c33, h⟩ := h
                    refine SOps.val (v := pv (some (p30.1, (p30.2 + x28.toNat * 2)))) rfl (wantN rfl) (fun w => ev_iaddr rfl Try.underlying22 (size := 2) (by kernel_rfl) rfl rfl c31 c32 c33 w) ?_
                    obtain ⟨x34, x35, c36, h⟩ := h
                    refine SOps.rd (v := .agg #[.int .u8 x34, .int .u8 x35]) rfl (wantN rfl) (fun w hw => ev_loadN rfl (fun _ => by kernel_rfl) (size := 2) (by kernel_rfl) (p := (p30.1, (p30.2 + x28.toNat * 2))) rfl rfl c36 w hw) ?_
                    refine SOps.alloc rfl rfl (wantN rfl) (z := .agg #[.int .u8 0, .int .u8 0]) (by kernel_rfl) (fun b37 c38 => ?_)
                    replace h := h b37 c38
                    obtain ⟨c39, h⟩ := h
                    refine SOps.storeL (p := (b37, 0)) (v := .agg #[.int .u8 x34, .int .u8 x35]) (cs := [.int .u8 x34, .int .u8 x35]) rfl rfl (wantN rfl) (size := 2) (by kernel_rfl) rfl rfl rfl rfl (by simp [Value.oneCell', errV_one, pv, sv]) c39 ?_
                    refine SOps.nil ?_
                    refine SW.seq ?_
                    refine SW.region ?_
                    refine SOps.val (v := pv (some (b37, 0))) rfl (wantN rfl) (fun _ => by kernel_rfl) ?_
                    obtain ⟨x40, c41, h⟩ := h
                    refine SOps.rd (v := .int .u8 x40) rfl (wantN rfl) (fun w hw => ev_load1 rfl (fun _ => by kernel_rfl) (p := (b37, 0)) rfl c41 w hw) ?_
                    refine SOps.val (v := .int .i64 (w64 x40)) rfl (wantN rfl) (fun _ => by kernel_rfl) ?_
                    refine SOps.val (v := sv l25) rfl (wantN rfl) (fun _ => by kernel_rfl) ?_
                    refine SOps.val (v := .int .i64 (l25.len : Int)) rfl (wantN rfl) (fun _ => by kernel_rfl) ?_
                    refine SOps.val (v := .bool (decide ((w64 x40) < (l25.len : Int)))) rfl (wantN rfl) (fun _ => by kernel_rfl) ?_
                    refine SOps.val (v := .bool (decide ((w64 x40) < (l25.len : Int)))) rfl (wantN rfl) (fun _ => by kernel_rfl) ?_
                    refine SOps.nil ?_
                    refine SW.seq ?_
                    refine SW.seq ?_
                    refine SW.region ?_
                    refine SOps.val (v := pv p24) rfl (wantN rfl) (fun _ => by kernel_rfl) ?_
                    refine SOps.val (v := pv (some (b37, 0))) rfl (wantN rfl) (fun _ => by kernel_rfl) ?_
                    obtain ⟨x42, c43, h⟩ := h
                    refine SOps.rd (v := .int .u8 x42) rfl (wantN rfl) (fun w hw => ev_load1 rfl (fun _ => by kernel_rfl) (p := (b37, 0)) rfl c43 w hw) ?_
                    refine SOps.val (v := .int .i64 (w64 x42)) rfl (wantN rfl) (fun _ => by kernel_rfl) ?_
                    refine SOps.val (v := pv (some (b37, 1))) rfl (wantN rfl) (fun _ => by kernel_rfl) ?_
                    obtain ⟨x44, c45, h⟩ := h
                    refine SOps.rd (v := .int .u8 x44) rfl (wantN rfl) (fun w hw => ev_load1 rfl (fun _ => by kernel_rfl) (p := (b37, 1)) rfl c45 w hw) ?_
                    refine SOps.enter rfl (wantN rfl) (fun _ => by kernel_rfl) (disk_Disk_Rot.sound F p24 1 (w64 x42) x44 (SH.setl (SH.upd H b37 ⟨[.int .u8 0, .int .u8 0], 31, false, 2⟩) (b37, 0) [.int .u8 x34, .int .u8 x35]) _ h) ?_
                    clear h
                    rintro v H47 ⟨q46, rfl, h⟩
                    refine SOps.val (v := .bool (decide ((w64 x40) < (l25.len : Int)))) rfl (wantN rfl) (fun _ => by kernel_rfl) ?_
                    refine SOps.val (v := .bool (q46 != (decide ((w64 x40) < (l25.len : Int))))) rfl (wantN rfl) (fun _ => by kernel_rfl) ?_
                    refine SOps.nil ?_
                    by_cases c48 : q46 ≠ (decide ((w64 x40) < (l25.len : Int)))
                    · replace h := h.1 c48
                      have dc48 : (q46 != (decide ((w64 x40) < (l25.len : Int)))) = true := (bne_iff_ne.mpr c48)
                      refine SW.cond_t (t := (q46 != (decide ((w64 x40) < (l25.len : Int))))) rfl dc48 ?_
                      refine SW.seq ?_
                      refine SW.region ?_
                      refine SOps.val (v := .bool false) rfl (wantN rfl) (fun _ => by kernel_rfl) ?_
                      refine SOps.nil ?_
                      obtain ⟨Hr, hr, h⟩ := h
                      exact SW.ret (retQ.mk (.bool false) (res1 rfl rfl) hr ⟨false, rfl, h⟩)
                    · replace h := h.2 c48
                      have dc48 : (q46 != (decide ((w64 x40) < (l25.len : Int)))) = false := (by simpa using c48)
                      refine SW.cond_f (t := (q46 != (decide ((w64 x40) < (l25.len : Int))))) rfl dc48 ?_
                      refine SW.skip ?_
                      refine SW.seq ?_
                      refine SW.region ?_
                      refine SOps.val (v := .bool (decide ((w64 x40) < (l25.len : Int)))) rfl (wantN rfl) (fun _ => by kernel_rfl) ?_
                      refine SOps.nil ?_
                      by_cases c49 : (w64 x40) < (l25.len : Int)
                      · replace h := h.1 c49
                        have dc49 : (decide ((w64 x40) < (l25.len : Int))) = true := (decide_eq_true c49)
                        refine SW.cond_t (t := decide ((w64 x40) < (l25.len : Int))) rfl dc49 ?_
                        obtain ⟨x50, c51, h⟩ := h
                        obtain ⟨p52, c53, c54, c55, h⟩ := h
                        obtain ⟨x56, c57, h⟩ := h
                        obtain ⟨x58, c59, h⟩ := h
                        obtain ⟨p60, c61, c62, c63, h⟩ := h
                        refine SW.drawA [.val (sv l25), .val (pv (some (b37, 0))), .val (.int .u8 x50), .val (pv (some (p52.1, (p52.2 + x50.toNat * 1)))), .val (.int .u8 x56), .val (pv (some (b37, 1))), .val (.int .u8 x58), .val (.int .u8 (ibits .xor .u8 x56 x58)), .val (pv (some (p60.1, (p60.2 + x50.toNat * 1))))] (by kernel_rfl) (by kernel_rfl) (And.intro ?_ (And.intro ?_ (And.intro ?_ (And.intro ?_ (And.intro ?_ (And.intro ?_ (And.intro ?_ (And.intro ?_ (And.intro ?_ (trivial)))))))))) ?_
                        · clear h
                          intro fr' T' H' hle hs hA
                          have a8 : fr' 8 = sv l25 := hs 8 (by kernel_rfl)
                          obtain ⟨g', hg'⟩ : ∃ g' : Fr, fr' = g'.upds [(8, sv l25)] := ⟨_, Fr.upds_self _ _ ⟨a8, trivial⟩⟩
                          subst hg'
                          exact SA.val (v := sv l25) rfl (wantN rfl) (fun _ => by kernel_rfl)
                        · clear h
                          intro fr' T' H' hle hs hA
                          have a10 : fr' 10 = pv (some (b37, 0)) := hs 10 (by kernel_rfl)
                          obtain ⟨g', hg'⟩ : ∃ g' : Fr, fr' = g'.upds [(10, pv (some (b37, 0)))] := ⟨_, Fr.upds_self _ _ ⟨a10, trivial⟩⟩
                          subst hg'
                          exact SA.val (v := pv (some (b37, 0))) rfl (wantN rfl) (fun _ => by kernel_rfl)
                        · clear h
                          intro fr' T' H' hle hs hA
                          have a63 : fr' 63 = pv (some (b37, 0)) := hA 1 (by kernel_rfl)
                          obtain ⟨g', hg'⟩ : ∃ g' : Fr, fr' = g'.upds [(63, pv (some (b37, 0)))] := ⟨_, Fr.upds_self _ _ ⟨a63, trivial⟩⟩
                          subst hg'
                          exact SA.rd hle (v := .int .u8 x50) rfl (wantN rfl) (fun w hw => ev_load1 rfl (fun _ => by kernel_rfl) (p := (b37, 0)) rfl c51 w hw)
                        · clear h
                          intro fr' T' H' hle hs hA
                          have a62 : fr' 62 = sv l25 := hA 0 (by kernel_rfl)
                          have a64 : fr' 64 = (.int .u8 x50 : Value) := hA 2 (by kernel_rfl)
                          obtain ⟨g', hg'⟩ : ∃ g' : Fr, fr' = g'.upds [(62, sv l25), (64, (.int .u8 x50 : Value))] := ⟨_, Fr.upds_self _ _ ⟨a62, a64, trivial⟩⟩
                          subst hg'
                          exact SA.val (v := pv (some (p52.1, (p52.2 + x50.toNat * 1)))) rfl (wantN rfl) (fun w => ev_iaddr rfl Try.underlying30 (size := 1) (by kernel_rfl) rfl rfl c53 c54 c55 w)
                        · clear h
                          intro fr' T' H' hle hs hA
                          have a65 : fr' 65 = pv (some (p52.1, (p52.2 + x50.toNat * 1))) := hA 3 (by kernel_rfl)
                          obtain ⟨g', hg'⟩ : ∃ g' : Fr, fr' = g'.upds [(65, pv (some (p52.1, (p52.2 + x50.toNat * 1))))] := ⟨_, Fr.upds_self _ _ ⟨a65, trivial⟩⟩
                          subst hg'
                          exact SA.rd hle (v := .int .u8 x56) rfl (wantN rfl) (fun w hw => ev_load1 rfl (fun _ => by kernel_rfl) (p := (p52.1, (p52.2 + x50.toNat * 1))) rfl c57 w hw)
                        · clear h
                          intro fr' T' H' hle hs hA
                          have a10 : fr' 10 = pv (some (b37, 0)) := hs 10 (by kernel_rfl)
                          obtain ⟨g', hg'⟩ : ∃ g' : Fr, fr' = g'.upds [(10, pv (some (b37, 0)))] := ⟨_, Fr.upds_self _ _ ⟨a10, trivial⟩⟩
                          subst hg'
                          exact SA.val (v := pv (some (b37, 1))) rfl (wantN rfl) (fun _ => by kernel_rfl)
                        · clear h
                          intro fr' T' H' hle hs hA
                          have a67 : fr' 67 = pv (some (b37, 1)) := hA 5 (by kernel_rfl)
                          obtain ⟨g', hg'⟩ : ∃ g' : Fr, fr' = g'.upds [(67, pv (some (b37, 1)))] := ⟨_, Fr.upds_self _ _ ⟨a67, trivial⟩⟩
                          subst hg'
                          exact SA.rd hle (v := .int .u8 x58) rfl (wantN rfl) (fun w hw => ev_load1 rfl (fun _ => by kernel_rfl) (p := (b37, 1)) rfl c59 w hw)
                        · clear h
                          intro fr' T' H' hle hs hA
                          have a66 : fr' 66 = (.int .u8 x56 : Value) := hA 4 (by kernel_rfl)
                          have a68 : fr' 68 = (.int .u8 x58 : Value) := hA 6 (by kernel_rfl)
                          obtain ⟨g', hg'⟩ : ∃ g' : Fr, fr' = g'.upds [(66, (.int .u8 x56 : Value)), (68, (.int .u8 x58 : Value))] := ⟨_, Fr.upds_self _ _ ⟨a66, a68, trivial⟩⟩
                          subst hg'
                          exact SA.val (v := .int .u8 (ibits .xor .u8 x56 x58)) rfl (wantN rfl) (fun _ => by kernel_rfl)
                        · clear h
                          intro fr' T' H' hle hs hA
                          have a62 : fr' 62 = sv l25 := hA 0 (by kernel_rfl)
                          have a64 : fr' 64 = (.int .u8 x50 : Value) := hA 2 (by kernel_rfl)
                          obtain ⟨g', hg'⟩ : ∃ g' : Fr, fr' = g'.upds [(62, sv l25), (64, (.int .u8 x50 : Value))] := ⟨_, Fr.upds_self _ _ ⟨a62, a64, trivial⟩⟩
                          subst hg'
                          exact SA.val (v := pv (some (p60.1, (p60.2 + x50.toNat * 1)))) rfl (wantN rfl) (fun w => ev_iaddr rfl Try.underlying30 (size := 1) (by kernel_rfl) rfl rfl c61 c62 c63 w)
                        · intro fr' T' H' hle hs hA
                          have a0 : fr' 0 = (.string s21 : Value) := hs 0 (by kernel_rfl)
                          have a1 : fr' 1 = sv l22 := hs 1 (by kernel_rfl)
                          have a2 : fr' 2 = (.bool q23 : Value) := hs 2 (by kernel_rfl)
                          have a7 : fr' 7 = pv p24 := hs 7 (by kernel_rfl)
                          have a8 : fr' 8 = sv l25 := hs 8 (by kernel_rfl)
                          have a40 : fr' 40 = sv l26 := hs 40 (by kernel_rfl)
                          have a41 : fr' 41 = (.int .i64 x27 : Value) := hs 41 (by kernel_rfl)
                          have a42 : fr' 42 = (.int .i64 x28 : Value) := hs 42 (by kernel_rfl)
                          have a69 : fr' 69 = (.int .u8 (ibits .xor .u8 x56 x58) : Value) := hA 7 (Nat.le_of_ble_eq_true rfl)
                          have a70 : fr' 70 = pv (some (p60.1, (p60.2 + x50.toNat * 1))) := hA 8 (Nat.le_of_ble_eq_true rfl)
                          obtain ⟨g', hg'⟩ : ∃ g' : Fr, fr' = g'.upds [(0, (.string s21 : Value)), (1, sv l22), (2, (.bool q23 : Value)), (7, pv p24), (8, sv l25), (40, sv l26), (41, (.int .i64 x27 : Value)), (42, (.int .i64 x28 : Value)), (69, (.int .u8 (ibits .xor .u8 x56 x58) : Value)), (70, pv (some (p60.1, (p60.2 + x50.toNat * 1))))] := ⟨_, Fr.upds_self _ _ ⟨a0, a1, a2, a7, a8, a40, a41, a42, a69, a70, trivial⟩⟩
                          subst hg'
                          refine SOps.forget (H47) hle ?_
                          clear hle hs hA
                          obtain ⟨c65, h⟩ := h
                          refine SOps.storeL (p := (p60.1, (p60.2 + x50.toNat * 1))) (v := .int .u8 (ibits .xor .u8 x56 x58)) (cs := [.int .u8 (ibits .xor .u8 x56 x58)]) rfl rfl (wantN rfl) (size := 1) (by kernel_rfl) rfl rfl rfl rfl (by simp [Value.oneCell', errV_one, pv, sv]) c65 ?_
                          refine SOps.nil ?_
                          exact ⟨_, s21, l22, q23, p24, l25, l26, x27, x28, Fr.upds_self _ _ ⟨rfl, rfl, rfl, rfl, rfl, rfl, rfl, rfl, trivial⟩, h⟩
                      · replace h := h.2 c49
                        have dc49 : (decide ((w64 x40) < (l25.len : Int))) = false := (decide_eq_false c49)
                        refine SW.cond_f (t := decide ((w64 x40) < (l25.len : Int))) rfl dc49 ?_
                        refine SW.skip ?_
                        exact ⟨_, s21, l22, q23, p24, l25, l26, x27, x28, Fr.upds_self _ _ ⟨rfl, rfl, rfl, rfl, rfl, rfl, rfl, rfl, trivial⟩, h⟩
              · replace h := h.2 c29
                have dc29 : (decide (x28 < x27)) = false := (decide_eq_false c29)
                refine SW.cond_f (t := decide (x28 < x27)) rfl dc29 ?_
                refine SW.exit ?_
                refine SW.seqJ (fun fr H => ∃ (g : Fr) (s88 : ByteArray) (l89 : Sl) (p90 : Option (Nat × Nat)) (l91 : Sl), fr = g.upds [(0, (.string s88 : Value)), (1, sv l89), (7, pv p90), (8, sv l91)] ∧ ladinglaw14_DiskRots.j3 F K s88 l89 p90 l91 H) ?_ ?_
                · clear h
                  rintro fr H ⟨g, s88, l89, p90, l91, rfl, h⟩
                  unfold ladinglaw14_DiskRots.j3 at h
                  refine SW.seq ?_
                  refine SW.region ?_
                  refine SOps.val (v := pv p90) rfl (wantN rfl) (fun _ => by kernel_rfl) ?_
                  refine SOps.val (v := .agg #[sv Sl.nil, .int .i64 0]) rfl (wantN rfl) (fun _ => by kernel_rfl) ?_
                  refine SOps.enter rfl (wantN rfl) (fun _ => by kernel_rfl) (disk_Disk_Crash.sound F p90 Sl.nil 0 H _ h) ?_
                  clear h
                  rintro v H92 ⟨rfl, h⟩
                  refine SOps.nil ?_
                  refine SW.seq ?_
                  refine SW.seq ?_
                  refine SW.region ?_
                  refine SOps.val (v := pv p90) rfl (wantN rfl) (fun _ => by kernel_rfl) ?_
                  refine SOps.enter rfl (wantN rfl) (fun _ => by kernel_rfl) (disk_Disk_Get.sound F p90 1 H92 _ h) ?_
                  clear h
                  rintro v H95 ⟨s93, e94, rfl, h⟩
                  refine SOps.val (v := .tuple #[.string s93, errV e94]) rfl (wantN rfl) (fun _ => by kernel_rfl) ?_
                  refine SOps.val (v := .string s93) rfl (wantN rfl) (fun _ => by kernel_rfl) ?_
                  refine SOps.val (v := errV e94) rfl (wantN rfl) (fun _ => by kernel_rfl) ?_
                  refine SOps.val (v := .string s93) rfl (wantN rfl) (fun _ => by kernel_rfl) ?_
                  refine SOps.val (v := errV e94) rfl (wantN rfl) (fun _ => by kernel_rfl) ?_
                  refine SOps.nil ?_
                  refine SW.seq ?_
                  refine SW.region ?_
                  refine SOps.val (v := .string s93) rfl (wantN rfl) (fun _ => by kernel_rfl) ?_
                  refine SOps.val (v := sv l91) rfl (wantN rfl) (fun _ => by kernel_rfl) ?_
                  obtain ⟨bs96, c97, c98, h⟩ := h
                  refine SOps.rd (v := .string (⟨bs96.toArray⟩ : ByteArray)) rfl (wantN rfl) (fun w hw => ev_str rfl Try.underlying30 Try.underlying5 Try.underlying9 rfl c97 c98 w hw) ?_
                  refine SOps.val (v := .bool (!decide (s93 = (⟨bs96.toArray⟩ : ByteArray)))) rfl (wantN rfl) (fun w => ev_neS rfl rfl rfl w) ?_
                  refine SOps.val (v := .bool (!decide (s93 = (⟨bs96.toArray⟩ : ByteArray)))) rfl (wantN rfl) (fun _ => by kernel_rfl) ?_
                  by_cases c99 : (s93 = (⟨bs96.toArray⟩ : ByteArray))
                  · replace h := h.1 c99
                    have dc99 : (decide (s93 = (⟨bs96.toArray⟩ : ByteArray))) = true := (decide_eq_true c99)
                    refine SOps.val (v := errV e94) rfl (wantY (c := !decide (s93 = (⟨bs96.toArray⟩ : ByteArray))) rfl rfl rfl (not_t dc99)) (fun _ => by kernel_rfl) ?_
                    rcases e94 with _ | v100
                    · replace h := h.1 rfl
                      refine SOps.val (v := .bool false) rfl (wantY (c := !decide (s93 = (⟨bs96.toArray⟩ : ByteArray))) rfl rfl rfl (not_t dc99)) (fun w => ev_errNe (e := none) rfl Try.underlying27 rfl rfl w) ?_
                      refine SOps.val (v := .bool false) rfl (wantN rfl) (fun w => ev_pickF (v := .bool false) rfl (t := !decide (s93 = (⟨bs96.toArray⟩ : ByteArray))) rfl (not_t dc99) rfl w) ?_
                      refine SOps.nil ?_
                      refine SW.cond_f (t := false) rfl rfl ?_
                      refine SW.skip ?_
                      refine SW.seq ?_
                      refine SW.seq ?_
                      refine SW.region ?_
                      refine SOps.val (v := sv l89) rfl (wantN rfl) (fun _ => by kernel_rfl) ?_
                      refine SOps.val (v := .int .i64 (l89.len : Int)) rfl (wantN rfl) (fun _ => by kernel_rfl) ?_
                      refine SOps.val (v := .int .i64 0) rfl (wantN rfl) (fun _ => by kernel_rfl) ?_
                      refine SOps.nil ?_
                      refine SW.block ?_
                      refine SW.loop (fun k2 fr H => ∃ (g : Fr) (s101 : ByteArray) (p102 : Option (Nat × Nat)) (l103 : Sl) (x104 : Int) (x105 : Int), fr = g.upds [(0, (.string s101 : Value)), (7, pv p102), (94, sv l103), (95, (.int .i64 x104 : Value)), (96, (.int .i64 x105 : Value))] ∧ ladinglaw14_DiskRots.l2 F K k2 s101 p102 l103 x104 x105 H) F ⟨_, s88, p90, l89, (l89.len : Int), 0, (Fr.upds_self _ _ ⟨rfl, rfl, rfl, rfl, rfl, trivial⟩), h⟩ ?_
                      clear h
                      rintro k2 fr H ⟨g, s101, p102, l103, x104, x105, rfl, h⟩
                      cases k2 with
                      | zero => exact h.elim
                      | succ k2 =>
                        replace h : ladinglaw14_DiskRots.r2 F K (ladinglaw14_DiskRots.l2 F K k2) s101 p102 l103 x104 x105 H := h
                        unfold ladinglaw14_DiskRots.r2 at h
                        refine SW.seq ?_
                        refine SW.region ?_
                        refine SOps.val (v := .bool (decide (x105 < x104))) rfl (wantN rfl) (fun _ => by kernel_rfl) ?_
                        refine SOps.nil ?_
                        refine SW.seq ?_
                        by_cases c106 : x105 < x104
                        · replace h := h.1 c106
                          have dc106 : (decide (x105 < x104)) = true := (decide_eq_true c106)
                          refine SW.cond_t (t := decide (x105 < x104)) rfl dc106 ?_
                          refine SW.skip ?_
                          refine SW.seq ?_
                          refine SW.block ?_
                          refine SW.seq ?_
                          refine SW.region ?_
                          obtain ⟨p107, c108, c109, c110, h⟩ := h
                          refine SOps.val (v := pv (some (p107.1, (p107.2 + x105.toNat * 2)))) rfl (wantN rfl) (fun w => ev_iaddr rfl Try.underlying22 (size := 2) (by kernel_rfl) rfl rfl c108 c109 c110 w) ?_
                          obtain ⟨x111, x112, c113, h⟩ := h
                          refine SOps.rd (v := .agg #[.int .u8 x111, .int .u8 x112]) rfl (wantN rfl) (fun w hw => ev_loadN rfl (fun _ => by kernel_rfl) (size := 2) (by kernel_rfl) (p := (p107.1, (p107.2 + x105.toNat * 2))) rfl rfl c113 w hw) ?_
                          refine SOps.alloc rfl rfl (wantN rfl) (z := .agg #[.int .u8 0, .int .u8 0]) (by kernel_rfl) (fun b114 c115 => ?_)
                          replace h := h b114 c115
                          obtain ⟨c116, h⟩ := h
                          refine SOps.storeL (p := (b114, 0)) (v := .agg #[.int .u8 x111, .int .u8 x112]) (cs := [.int .u8 x111, .int .u8 x112]) rfl rfl (wantN rfl) (size := 2) (by kernel_rfl) rfl rfl rfl rfl (by simp [Value.oneCell', errV_one, pv, sv]) c116 ?_
                          refine SOps.nil ?_
                          refine SW.region ?_
                          refine SOps.val (v := pv p102) rfl (wantN rfl) (fun _ => by kernel_rfl) ?_
                          refine SOps.val (v := pv (some (b114, 0))) rfl (wantN rfl) (fun _ => by kernel_rfl) ?_
                          obtain ⟨x117, c118, h⟩ := h
                          refine SOps.rd (v := .int .u8 x117) rfl (wantN rfl) (fun w hw => ev_load1 rfl (fun _ => by kernel_rfl) (p := (b114, 0)) rfl c118 w hw) ?_
                          refine SOps.val (v := .int .i64 (w64 x117)) rfl (wantN rfl) (fun _ => by kernel_rfl) ?_
                          refine SOps.val (v := pv (some (b114, 1))) rfl (wantN rfl) (fun _ => by kernel_rfl) ?_
                          obtain ⟨x119, c120, h⟩ := h
                          refine SOps.rd (v := .int .u8 x119) rfl (wantN rfl) (fun w hw => ev_load1 rfl (fun _ => by kernel_rfl) (p := (b114, 1)) rfl c120 w hw) ?_
                          refine SOps.enter rfl (wantN rfl) (fun _ => by kernel_rfl) (disk_Disk_Rot.sound F p102 1 (w64 x117) x119 (SH.setl (SH.upd H b114 ⟨[.int .u8 0, .int .u8 0], 31, false, 2⟩) (b114, 0) [.int .u8 x111, .int .u8 x112]) _ h) ?_
                          clear h
                          rintro v H122 ⟨q121, rfl, h⟩
                          refine SOps.nil ?_
                          refine SW.region ?_
                          refine SOps.val (v := .int .i64 (w64 (x105 + 1))) rfl (wantN rfl) (fun _ => by kernel_rfl) ?_
                          refine SOps.val (v := .int .i64 (w64 (x105 + 1))) rfl (wantN rfl) (fun _ => by kernel_rfl) ?_
                          refine SOps.nil ?_
                          exact ⟨k2, Nat.lt_succ_self k2, _, s101, p102, l103, x104, w64 (x105 + 1), (Fr.upds_self _ _ ⟨rfl, rfl, rfl, rfl, rfl, trivial⟩), h⟩
                        · replace h := h.2 c106
                          have dc106 : (decide (x105 < x104)) = false := (decide_eq_false c106)
                          refine SW.cond_f (t := decide (x105 < x104)) rfl dc106 ?_
                          refine SW.exit ?_
                          refine SW.seq ?_
                          refine SW.region ?_
                          refine SOps.val (v := pv p102) rfl (wantN rfl) (fun _ => by kernel_rfl) ?_
                          refine SOps.enter rfl (wantN rfl) (fun _ => by kernel_rfl) (disk_Disk_Get.sound F p102 1 H _ h) ?_
                          clear h
                          rintro v H125 ⟨s123, e124, rfl, h⟩
                          refine SOps.val (v := .tuple #[.string s123, errV e124]) rfl (wantN rfl) (fun _ => by kernel_rfl) ?_
                          refine SOps.val (v := .string s123) rfl (wantN rfl) (fun _ => by kernel_rfl) ?_
                          refine SOps.val (v := errV e124) rfl (wantN rfl) (fun _ => by kernel_rfl) ?_
                          refine SOps.val (v := .string s123) rfl (wantN rfl) (fun _ => by kernel_rfl) ?_
                          refine SOps.val (v := errV e124) rfl (wantN rfl) (fun _ => by kernel_rfl) ?_
                          refine SOps.nil ?_
                          refine SW.seq ?_
                          refine SW.region ?_
                          refine SOps.val (v := .string s123) rfl (wantN rfl) (fun _ => by kernel_rfl) ?_
                          refine SOps.val (v := .string s101) rfl (wantN rfl) (fun _ => by kernel_rfl) ?_
                          refine SOps.val (v := .bool (decide (s123 = s101))) rfl (wantN rfl) (fun w => ev_eqS rfl rfl rfl w) ?_
                          refine SOps.val (v := .bool (decide (s123 = s101))) rfl (wantN rfl) (fun _ => by kernel_rfl) ?_
                          by_cases c126 : s123 = s101
                          · replace h := h.1 c126
                            have dc126 : (decide (s123 = s101)) = true := (decide_eq_true c126)
                            refine SOps.val (v := errV e124) rfl (wantY (c := decide (s123 = s101)) rfl rfl rfl dc126) (fun _ => by kernel_rfl) ?_
                            rcases e124 with _ | v127
                            · replace h := h.1 rfl
                              refine SOps.val (v := .bool true) rfl (wantY (c := decide (s123 = s101)) rfl rfl rfl dc126) (fun w => ev_errEq (e := none) rfl Try.underlying27 rfl rfl w) ?_
                              refine SOps.val (v := .bool true) rfl (wantN rfl) (fun w => ev_pickT (v := .bool true) rfl (t := decide (s123 = s101)) rfl dc126 rfl w) ?_
                              refine SOps.val (v := .bool true) rfl (wantN rfl) (fun _ => by kernel_rfl) ?_
                              refine SOps.nil ?_
                              obtain ⟨Hr, hr, h⟩ := h
                              exact SW.ret (retQ.mk (.bool true) (res1 rfl rfl) hr ⟨true, rfl, h⟩)
                            · replace h := h.2 v127 rfl
                              refine SOps.val (v := .bool false) rfl (wantY (c := decide (s123 = s101)) rfl rfl rfl dc126) (fun w => ev_errEq (e := some v127) rfl Try.underlying27 rfl rfl w) ?_
                              refine SOps.val (v := .bool false) rfl (wantN rfl) (fun w => ev_pickT (v := .bool false) rfl (t := decide (s123 = s101)) rfl dc126 rfl w) ?_
                              refine SOps.val (v := .bool false) rfl (wantN rfl) (fun _ => by kernel_rfl) ?_
                              refine SOps.nil ?_
                              obtain ⟨Hr, hr, h⟩ := h
                              exact SW.ret (retQ.mk (.bool false) (res1 rfl rfl) hr ⟨false, rfl, h⟩)
                          · replace h := h.2 c126
                            have dc126 : (decide (s123 = s101)) = false := (decide_eq_false c126)
                            refine SOps.off rfl (wantX (c := decide (s123 = s101)) rfl rfl rfl dc126) ?_
                            refine SOps.off rfl (wantX (c := decide (s123 = s101)) rfl rfl rfl dc126) ?_
                            refine SOps.val (v := .bool false) rfl (wantN rfl) (fun w => ev_pickF (v := .bool false) rfl (t := decide (s123 = s101)) rfl dc126 rfl w) ?_
                            refine SOps.val (v := .bool false) rfl (wantN rfl) (fun _ => by kernel_rfl) ?_
                            refine SOps.nil ?_
                            obtain ⟨Hr, hr, h⟩ := h
                            exact SW.ret (retQ.mk (.bool false) (res1 rfl rfl) hr ⟨false, rfl, h⟩)
                    · replace h := h.2 v100 rfl
                      refine SOps.val (v := .bool true) rfl (wantY (c := !decide (s93 = (⟨bs96.toArray⟩ : ByteArray))) rfl rfl rfl (not_t dc99)) (fun w => ev_errNe (e := some v100) rfl Try.underlying27 rfl rfl w) ?_
                      refine SOps.val (v := .bool true) rfl (wantN rfl) (fun w => ev_pickF (v := .bool true) rfl (t := !decide (s93 = (⟨bs96.toArray⟩ : ByteArray))) rfl (not_t dc99) rfl w) ?_
                      refine SOps.nil ?_
                      refine SW.cond_t (t := true) rfl rfl ?_
                      refine SW.seq ?_
                      refine SW.region ?_
                      refine SOps.val (v := .bool false) rfl (wantN rfl) (fun _ => by kernel_rfl) ?_
                      refine SOps.nil ?_
                      obtain ⟨Hr, hr, h⟩ := h
                      exact SW.ret (retQ.mk (.bool false) (res1 rfl rfl) hr ⟨false, rfl, h⟩)
                  · replace h := h.2 c99
                    have dc99 : (decide (s93 = (⟨bs96.toArray⟩ : ByteArray))) = false := (decide_eq_false c99)
                    refine SOps.off rfl (wantX (c := !decide (s93 = (⟨bs96.toArray⟩ : ByteArray))) rfl rfl rfl (not_f dc99)) ?_
                    refine SOps.off rfl (wantX (c := !decide (s93 = (⟨bs96.toArray⟩ : ByteArray))) rfl rfl rfl (not_f dc99)) ?_
                    refine SOps.val (v := .bool true) rfl (wantN rfl) (fun w => ev_pickT (v := .bool true) rfl (t := !decide (s93 = (⟨bs96.toArray⟩ : ByteArray))) rfl (not_f dc99) rfl w) ?_
                    refine SOps.nil ?_
                    refine SW.cond_t (t := true) rfl rfl ?_
                    refine SW.seq ?_
                    refine SW.region ?_
                    refine SOps.val (v := .bool false) rfl (wantN rfl) (fun _ => by kernel_rfl) ?_
                    refine SOps.nil ?_
                    obtain ⟨Hr, hr, h⟩ := h
                    exact SW.ret (retQ.mk (.bool false) (res1 rfl rfl) hr ⟨false, rfl, h⟩)
                · skip
                  refine SW.seq ?_
                  refine SW.region ?_
                  refine SOps.val (v := .bool q23) rfl (wantN rfl) (fun _ => by kernel_rfl) ?_
                  refine SOps.val (v := .bool q23) rfl (wantN rfl) (fun _ => by kernel_rfl) ?_
                  by_cases c84 : q23 = true
                  · replace h := h.1 c84
                    have dc84 : q23 = true := c84
                    refine SOps.val (v := pv p24) rfl (wantY (c := q23) rfl rfl rfl dc84) (fun _ => by kernel_rfl) ?_
                    refine SOps.enter rfl (wantY (c := q23) rfl rfl rfl dc84) (fun _ => by kernel_rfl) (disk_Disk_Sync.sound F p24 H _ h) ?_
                    clear h
                    rintro v H86 ⟨e85, rfl, h⟩
                    rcases e85 with _ | v87
                    · replace h := h.1 rfl
                      refine SOps.val (v := .bool false) rfl (wantY (c := q23) rfl rfl rfl dc84) (fun w => ev_errNe (e := none) rfl Try.underlying27 rfl rfl w) ?_
                      refine SOps.val (v := .bool false) rfl (wantN rfl) (fun w => ev_pickT (v := .bool false) rfl (t := q23) rfl dc84 rfl w) ?_
                      refine SOps.nil ?_
                      refine SW.cond_f (t := false) rfl rfl ?_
                      refine SW.skip ?_
                      exact ⟨_, s21, l22, p24, l25, Fr.upds_self _ _ ⟨rfl, rfl, rfl, rfl, trivial⟩, h⟩
                    · replace h := h.2 v87 rfl
                      refine SOps.val (v := .bool true) rfl (wantY (c := q23) rfl rfl rfl dc84) (fun w => ev_errNe (e := some v87) rfl Try.underlying27 rfl rfl w) ?_
                      refine SOps.val (v := .bool true) rfl (wantN rfl) (fun w => ev_pickT (v := .bool true) rfl (t := q23) rfl dc84 rfl w) ?_
                      refine SOps.nil ?_
                      refine SW.cond_t (t := true) rfl rfl ?_
                      refine SW.seq ?_
                      refine SW.region ?_
                      refine SOps.val (v := .bool false) rfl (wantN rfl) (fun _ => by kernel_rfl) ?_
                      refine SOps.nil ?_
                      obtain ⟨Hr, hr, h⟩ := h
                      exact SW.ret (retQ.mk (.bool false) (res1 rfl rfl) hr ⟨false, rfl, h⟩)
                  · replace h := h.2 c84
                    have dc84 : q23 = false := (Bool.eq_false_iff.mpr c84)
                    refine SOps.off rfl (wantX (c := q23) rfl rfl rfl dc84) ?_
                    refine SOps.off rfl (wantX (c := q23) rfl rfl rfl dc84) ?_
                    refine SOps.off rfl (wantX (c := q23) rfl rfl rfl dc84) ?_
                    refine SOps.val (v := .bool false) rfl (wantN rfl) (fun w => ev_pickF (v := .bool false) rfl (t := q23) rfl dc84 rfl w) ?_
                    refine SOps.nil ?_
                    refine SW.cond_f (t := false) rfl rfl ?_
                    refine SW.skip ?_
                    exact ⟨_, s21, l22, p24, l25, Fr.upds_self _ _ ⟨rfl, rfl, rfl, rfl, trivial⟩, h⟩
          · replace h := h.2 v16 rfl
            refine SOps.val (v := .bool true) rfl (wantY (c := false) rfl rfl rfl rfl) (fun w => ev_errNe (e := some v16) rfl Try.underlying27 rfl rfl w) ?_
            refine SOps.val (v := .bool true) rfl (wantN rfl) (fun w => ev_pickF (v := .bool true) rfl (t := false) rfl rfl rfl w) ?_
            refine SOps.nil ?_
            refine SW.cond_t (t := true) rfl rfl ?_
            refine SW.seq ?_
            refine SW.region ?_
            refine SOps.val (v := .bool false) rfl (wantN rfl) (fun _ => by kernel_rfl) ?_
            refine SOps.nil ?_
            obtain ⟨Hr, hr, h⟩ := h
            exact SW.ret (retQ.mk (.bool false) (res1 rfl rfl) hr ⟨false, rfl, h⟩)
        · replace h := h.2 v13 rfl
          refine SOps.val (v := .bool true) rfl (wantN rfl) (fun w => ev_errNe (e := some v13) rfl Try.underlying27 rfl rfl w) ?_
          refine SOps.val (v := .bool true) rfl (wantN rfl) (fun _ => by kernel_rfl) ?_
          refine SOps.off rfl (wantX (c := true) rfl rfl rfl rfl) ?_
          refine SOps.off rfl (wantX (c := true) rfl rfl rfl rfl) ?_
          refine SOps.off rfl (wantX (c := true) rfl rfl rfl rfl) ?_
          refine SOps.val (v := .bool true) rfl (wantN rfl) (fun w => ev_pickT (v := .bool true) rfl (t := true) rfl rfl rfl w) ?_
          refine SOps.nil ?_
          refine SW.cond_t (t := true) rfl rfl ?_
          refine SW.seq ?_
          refine SW.region ?_
          refine SOps.val (v := .bool false) rfl (wantN rfl) (fun _ => by kernel_rfl) ?_
          refine SOps.nil ?_
          obtain ⟨Hr, hr, h⟩ := h
          exact SW.ret (retQ.mk (.bool false) (res1 rfl rfl) hr ⟨false, rfl, h⟩)
  · replace h := h.2 c6
    have dc6 : q4 = false := (Bool.eq_false_iff.mpr c6)
    refine SW.cond_t (t := !q4) rfl (not_f dc6) ?_
    refine SW.seq ?_
    refine SW.region ?_
    refine SOps.val (v := .bool false) rfl (wantN rfl) (fun _ => by kernel_rfl) ?_
    refine SOps.nil ?_
    obtain ⟨Hr, hr, h⟩ := h
    exact SW.ret (retQ.mk (.bool false) (res1 rfl rfl) hr ⟨false, rfl, h⟩)

end Go.Proofs.Ytknhlipealekoaa.K
