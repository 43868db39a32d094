import Derived.Test.YtknhlipealekoaaDoorGladinglaw14
set_option linter.unusedVariables false
set_option linter.unusedSimpArgs false
set_option maxRecDepth 100000
namespace Go.Proofs.YtknhlipealekoaaDoor.K
open Go
attribute [local irreducible] SW SOps SQ SCalls retQ

/-! ### lading/ladinglaw14.DiskBounds: function 6 -/
def ladinglaw14_DiskBounds.j1 (F : Nat) (K : Bool → SH → Prop) (x39 : Int) (s40 : ByteArray) (p41 : Option (Nat × Nat)) (H : SH) : Prop :=
  disk_Disk_Crash.wp F none Sl.nil 0 H (fun H43 =>
    disk_Disk_Fuse.wp F none x39 H43 (fun H44 =>
      disk_Disk_Log.wp F none H44 (fun s45 e46 H47 =>
        disk_Disk_Get.wp F none 0 H47 (fun s48 e49 H50 =>
          api_Code.wp F e46 H50 (fun x51 H52 =>
            (x51 = 1 →
              api_Code.wp F e49 H52 (fun x54 H55 =>
                (x54 = 1 →
                  disk_Disk_Append.wp F none s40 H55 (fun e57 H58 =>
                    api_Code.wp F e57 H58 (fun x59 H60 =>
                      (x59 = 1 →
                        disk_Disk_Put.wp F none 0 s40 H60 (fun e62 H63 =>
                          api_Code.wp F e62 H63 (fun x64 H65 =>
                            (x64 = 1 →
                              disk_Disk_Sync.wp F none H65 (fun e67 H68 =>
                                api_Code.wp F e67 H68 (fun x69 H70 =>
                                  (x69 = 1 →
                                    disk_Disk_Cut.wp F none 0 H70 (fun e72 H73 =>
                                      api_Code.wp F e72 H73 (fun x74 H75 =>
                                        (x74 = 1 →
                                          disk_Disk_Rot.wp F none 0 0 1 H75 (fun q77 H78 =>
                                            (q77 = true →
                                              ∃ Hr, SH.le Hr H78 ∧ K false Hr
                                            ) ∧ (¬ (q77 = true) →
                                              disk_Disk_Down.wp F none H78 (fun q80 H81 =>
                                                (q80 = true →
                                                  disk_Disk_Slots.wp F none H81 (fun x83 H84 =>
                                                    disk_Disk_Waits.wp F none H84 (fun x85 H86 =>
                                                      ((w64 (x83 + x85)) = 0 →
                                                        disk_Disk_Same.wp F none none H86 (fun q88 H89 =>
                                                          (q88 = true →
                                                            disk_Disk_Same.wp F none p41 H89 (fun q91 H92 =>
                                                              (q91 = true →
                                                                ∃ Hr, SH.le Hr H92 ∧ K false Hr
                                                              ) ∧ (¬ (q91 = true) →
                                                                disk_Disk_Same.wp F p41 p41 H92 (fun q94 H95 =>
                                                                  ∃ Hr, SH.le Hr H95 ∧ K q94 Hr
                                                                )
                                                              )
                                                            )
                                                          ) ∧ (¬ (q88 = true) →
                                                            ∃ Hr, SH.le Hr H89 ∧ K false Hr
                                                          )
                                                        )
                                                      ) ∧ (¬ ((w64 (x83 + x85)) = 0) →
                                                        ∃ Hr, SH.le Hr H86 ∧ K false Hr
                                                      )
                                                    )
                                                  )
                                                ) ∧ (¬ (q80 = true) →
                                                  ∃ Hr, SH.le Hr H81 ∧ K false Hr
                                                )
                                              )
                                            )
                                          )
                                        ) ∧ (¬ (x74 = 1) →
                                          ∃ Hr, SH.le Hr H75 ∧ K false Hr
                                        )
                                      )
                                    )
                                  ) ∧ (¬ (x69 = 1) →
                                    ∃ Hr, SH.le Hr H70 ∧ K false Hr
                                  )
                                )
                              )
                            ) ∧ (¬ (x64 = 1) →
                              ∃ Hr, SH.le Hr H65 ∧ K false Hr
                            )
                          )
                        )
                      ) ∧ (¬ (x59 = 1) →
                        ∃ Hr, SH.le Hr H60 ∧ K false Hr
                      )
                    )
                  )
                ) ∧ (¬ (x54 = 1) →
                  ∃ Hr, SH.le Hr H55 ∧ K false Hr
                )
              )
            ) ∧ (¬ (x51 = 1) →
              ∃ Hr, SH.le Hr H52 ∧ K false Hr
            )
          )
        )
      )
    )
  )
def ladinglaw14_DiskBounds.j2 (F : Nat) (K : Bool → SH → Prop) (x26 : Int) (s27 : ByteArray) (p28 : Option (Nat × Nat)) (H : SH) : Prop :=
  ladinglaw14_DiskBounds.j1 F K x26 s27 p28 H
def ladinglaw14_DiskBounds.j3 (F : Nat) (K : Bool → SH → Prop) (x112 : Int) (s113 : ByteArray) (p114 : Option (Nat × Nat)) (H : SH) : Prop :=
  disk_Disk_Crash.wp F none Sl.nil 0 H (fun H116 =>
    disk_Disk_Fuse.wp F none x112 H116 (fun H117 =>
      disk_Disk_Log.wp F none H117 (fun s118 e119 H120 =>
        disk_Disk_Get.wp F none 0 H120 (fun s121 e122 H123 =>
          api_Code.wp F e119 H123 (fun x124 H125 =>
            (x124 = 1 →
              api_Code.wp F e122 H125 (fun x127 H128 =>
                (x127 = 1 →
                  disk_Disk_Append.wp F none s113 H128 (fun e130 H131 =>
                    api_Code.wp F e130 H131 (fun x132 H133 =>
                      (x132 = 1 →
                        disk_Disk_Put.wp F none 0 s113 H133 (fun e135 H136 =>
                          api_Code.wp F e135 H136 (fun x137 H138 =>
                            (x137 = 1 →
                              disk_Disk_Sync.wp F none H138 (fun e140 H141 =>
                                api_Code.wp F e140 H141 (fun x142 H143 =>
                                  (x142 = 1 →
                                    disk_Disk_Cut.wp F none 0 H143 (fun e145 H146 =>
                                      api_Code.wp F e145 H146 (fun x147 H148 =>
                                        (x147 = 1 →
                                          disk_Disk_Rot.wp F none 0 0 1 H148 (fun q150 H151 =>
                                            (q150 = true →
                                              ∃ Hr, SH.le Hr H151 ∧ K false Hr
                                            ) ∧ (¬ (q150 = true) →
                                              disk_Disk_Down.wp F none H151 (fun q153 H154 =>
                                                (q153 = true →
                                                  disk_Disk_Slots.wp F none H154 (fun x156 H157 =>
                                                    disk_Disk_Waits.wp F none H157 (fun x158 H159 =>
                                                      ((w64 (x156 + x158)) = 0 →
                                                        disk_Disk_Same.wp F none none H159 (fun q161 H162 =>
                                                          (q161 = true →
                                                            disk_Disk_Same.wp F none p114 H162 (fun q164 H165 =>
                                                              (q164 = true →
                                                                ∃ Hr, SH.le Hr H165 ∧ K false Hr
                                                              ) ∧ (¬ (q164 = true) →
                                                                disk_Disk_Same.wp F p114 p114 H165 (fun q167 H168 =>
                                                                  ∃ Hr, SH.le Hr H168 ∧ K q167 Hr
                                                                )
                                                              )
                                                            )
                                                          ) ∧ (¬ (q161 = true) →
                                                            ∃ Hr, SH.le Hr H162 ∧ K false Hr
                                                          )
                                                        )
                                                      ) ∧ (¬ ((w64 (x156 + x158)) = 0) →
                                                        ∃ Hr, SH.le Hr H159 ∧ K false Hr
                                                      )
                                                    )
                                                  )
                                                ) ∧ (¬ (q153 = true) →
                                                  ∃ Hr, SH.le Hr H154 ∧ K false Hr
                                                )
                                              )
                                            )
                                          )
                                        ) ∧ (¬ (x147 = 1) →
                                          ∃ Hr, SH.le Hr H148 ∧ K false Hr
                                        )
                                      )
                                    )
                                  ) ∧ (¬ (x142 = 1) →
                                    ∃ Hr, SH.le Hr H143 ∧ K false Hr
                                  )
                                )
                              )
                            ) ∧ (¬ (x137 = 1) →
                              ∃ Hr, SH.le Hr H138 ∧ K false Hr
                            )
                          )
                        )
                      ) ∧ (¬ (x132 = 1) →
                        ∃ Hr, SH.le Hr H133 ∧ K false Hr
                      )
                    )
                  )
                ) ∧ (¬ (x127 = 1) →
                  ∃ Hr, SH.le Hr H128 ∧ K false Hr
                )
              )
            ) ∧ (¬ (x124 = 1) →
              ∃ Hr, SH.le Hr H125 ∧ K false Hr
            )
          )
        )
      )
    )
  )
def ladinglaw14_DiskBounds.j4 (F : Nat) (K : Bool → SH → Prop) (x109 : Int) (s110 : ByteArray) (p111 : Option (Nat × Nat)) (H : SH) : Prop :=
  ladinglaw14_DiskBounds.j3 F K x109 s110 p111 H
def ladinglaw14_DiskBounds.wp (F : Nat) (x1 : Int) (x2 : Int) (s3 : ByteArray) (H : SH) (K : Bool → SH → Prop) : Prop :=
  ladinglaw14_awake.wp F  H (fun q4 H5 =>
    (q4 = true →
      ((s3.size : Int) > 300 →
        ∃ Hr, SH.le Hr H5 ∧ K true Hr
      ) ∧ (¬ ((s3.size : Int) > 300) →
        disk_New.wp F x1 H5 (fun p8 H9 =>
          disk_Disk_Slots.wp F p8 H9 (fun x10 H11 =>
            (x10 ≠ (imin (imax x1 0) 4096) →
              ∃ Hr, SH.le Hr H11 ∧ K false Hr
            ) ∧ (¬ (x10 ≠ (imin (imax x1 0) 4096)) →
              (x2 ≥ 0 →
                disk_Disk_Put.wp F p8 x2 s3 H11 (fun e14 H15 =>
                  disk_Disk_Get.wp F p8 x2 H15 (fun s16 e17 H18 =>
                    ((x2 < (imin (imax x1 0) 4096)) →
                      ((s3.size : Int) > 64 →
                        api_Code.wp F e14 H18 (fun x21 H22 =>
                          (x21 ≠ 6 →
                            ∃ Hr, SH.le Hr H22 ∧ K false Hr
                          ) ∧ (¬ (x21 ≠ 6) →
                            (e17 = none →
                              ((s16 = ByteArray.empty) →
                                ladinglaw14_DiskBounds.j2 F K x2 s3 p8 H22
                              ) ∧ (¬ ((s16 = ByteArray.empty)) →
                                ∃ Hr, SH.le Hr H22 ∧ K false Hr
                              )
                            ) ∧ (∀ v24, e17 = some v24 →
                              ∃ Hr, SH.le Hr H22 ∧ K false Hr
                            )
                          )
                        )
                      ) ∧ (¬ ((s3.size : Int) > 64) →
                        (e14 = none →
                          (e17 = none →
                            ((s16 = s3) →
                              ladinglaw14_DiskBounds.j2 F K x2 s3 p8 H18
                            ) ∧ (¬ ((s16 = s3)) →
                              ∃ Hr, SH.le Hr H18 ∧ K false Hr
                            )
                          ) ∧ (∀ v30, e17 = some v30 →
                            ∃ Hr, SH.le Hr H18 ∧ K false Hr
                          )
                        ) ∧ (∀ v29, e14 = some v29 →
                          ∃ Hr, SH.le Hr H18 ∧ K false Hr
                        )
                      )
                    ) ∧ (¬ ((x2 < (imin (imax x1 0) 4096))) →
                      api_Code.wp F e14 H18 (fun x32 H33 =>
                        (x32 ≠ 2 →
                          ∃ Hr, SH.le Hr H33 ∧ K false Hr
                        ) ∧ (¬ (x32 ≠ 2) →
                          api_Code.wp F e17 H33 (fun x35 H36 =>
                            (x35 ≠ 2 →
                              ∃ Hr, SH.le Hr H36 ∧ K false Hr
                            ) ∧ (¬ (x35 ≠ 2) →
                              ((s16 = ByteArray.empty) →
                                ladinglaw14_DiskBounds.j2 F K x2 s3 p8 H36
                              ) ∧ (¬ ((s16 = ByteArray.empty)) →
                                ∃ Hr, SH.le Hr H36 ∧ K false Hr
                              )
                            )
                          )
                        )
                      )
                    )
                  )
                )
              ) ∧ (¬ (x2 ≥ 0) →
                disk_Disk_Put.wp F p8 x2 s3 H11 (fun e97 H98 =>
                  disk_Disk_Get.wp F p8 x2 H98 (fun s99 e100 H101 =>
                    api_Code.wp F e97 H101 (fun x102 H103 =>
                      (x102 ≠ 2 →
                        ∃ Hr, SH.le Hr H103 ∧ K false Hr
                      ) ∧ (¬ (x102 ≠ 2) →
                        api_Code.wp F e100 H103 (fun x105 H106 =>
                          (x105 ≠ 2 →
                            ∃ Hr, SH.le Hr H106 ∧ K false Hr
                          ) ∧ (¬ (x105 ≠ 2) →
                            ((s99 = ByteArray.empty) →
                              ladinglaw14_DiskBounds.j4 F K x2 s3 p8 H106
                            ) ∧ (¬ ((s99 = ByteArray.empty)) →
                              ∃ Hr, SH.le Hr H106 ∧ K false Hr
                            )
                          )
                        )
                      )
                    )
                  )
                )
              )
            )
          )
        )
      )
    ) ∧ (¬ (q4 = true) →
      ∃ Hr, SH.le Hr H5 ∧ K false Hr
    )
  )
set_option maxHeartbeats 8000000 in
theorem ladinglaw14_DiskBounds.sound (F : Nat) (x1 : Int) (x2 : Int) (s3 : ByteArray) (H : SH) (K : Bool → SH → Prop) (h : ladinglaw14_DiskBounds.wp F x1 x2 s3 H K) : SCalls Tryd.prog 6 #[.int .i64 x1, .int .i64 x2, .string s3] H (fun v H' => ∃ (q171 : Bool), v = .bool q171 ∧ K q171 H') := by
  unfold ladinglaw14_DiskBounds.wp at h
  refine SCalls.body Tryd.func6 rfl (Nat.le_of_ble_eq_true rfl) ?_
  refine SW.seq ?_
  refine SW.region ?_
  refine SOps.val (v := .bool false) rfl (wantN rfl) (fun _ => by kernel_rfl) ?_
  refine SOps.nil ?_
  refine SW.seq ?_
  refine SW.seq ?_
  refine SW.region ?_
  refine SOps.enter rfl (wantN rfl) (fun _ => by kernel_rfl) (ladinglaw14_awake.sound F  H _ h) ?_
  clear h
  rintro v H5 ⟨q4, rfl, h⟩
  refine SOps.val (v := .bool (!q4)) rfl (wantN rfl) (fun _ => by kernel_rfl) ?_
  refine SOps.nil ?_
  by_cases c6 : q4 = true
  · replace h := h.1 c6
    have dc6 : q4 = true := c6
    refine SW.cond_f (t := !q4) rfl (not_t dc6) ?_
    refine SW.skip ?_
    refine SW.seq ?_
    refine SW.seq ?_
    refine SW.region ?_
    refine SOps.val (v := .string s3) rfl (wantN rfl) (fun _ => by kernel_rfl) ?_
    refine SOps.val (v := .int .i64 (s3.size : Int)) rfl (wantN rfl) (fun _ => by kernel_rfl) ?_
    refine SOps.val (v := .bool (decide ((s3.size : Int) > 300))) rfl (wantN rfl) (fun _ => by kernel_rfl) ?_
    refine SOps.nil ?_
    by_cases c7 : (s3.size : Int) > 300
    · replace h := h.1 c7
      have dc7 : (decide ((s3.size : Int) > 300)) = true := (decide_eq_true c7)
      refine SW.cond_t (t := decide ((s3.size : Int) > 300)) rfl dc7 ?_
      refine SW.seq ?_
      refine SW.region ?_
      refine SOps.val (v := .bool true) rfl (wantN rfl) (fun _ => by kernel_rfl) ?_
      refine SOps.nil ?_
      obtain ⟨Hr, hr, h⟩ := h
      exact SW.ret (retQ.mk (.bool true) (res1 rfl rfl) hr ⟨true, rfl, h⟩)
    · replace h := h.2 c7
      have dc7 : (decide ((s3.size : Int) > 300)) = false := (decide_eq_false c7)
      refine SW.cond_f (t := decide ((s3.size : Int) > 300)) rfl dc7 ?_
      refine SW.skip ?_
      refine SW.seq ?_
      refine SW.region ?_
      refine SOps.val (v := .int .i64 x1) rfl (wantN rfl) (fun _ => by kernel_rfl) ?_
      refine SOps.enter rfl (wantN rfl) (fun _ => by kernel_rfl) (disk_New.sound F x1 H5 _ h) ?_
      clear h
      rintro v H9 ⟨p8, rfl, h⟩
      refine SOps.val (v := pv p8) rfl (wantN rfl) (fun _ => by kernel_rfl) ?_
      refine SOps.nil ?_
      refine SW.seq ?_
      refine SW.region ?_
      refine SOps.val (v := .int .i64 x1) rfl (wantN rfl) (fun _ => by kernel_rfl) ?_
      refine SOps.val (v := .int .i64 (imax x1 0)) rfl (wantN rfl) (fun _ => by kernel_rfl) ?_
      refine SOps.val (v := .int .i64 (imin (imax x1 0) 4096)) rfl (wantN rfl) (fun _ => by kernel_rfl) ?_
      refine SOps.val (v := .int .i64 (imin (imax x1 0) 4096)) rfl (wantN rfl) (fun _ => by kernel_rfl) ?_
      refine SOps.nil ?_
      refine SW.seq ?_
      refine SW.seq ?_
      refine SW.region ?_
      refine SOps.val (v := pv p8) rfl (wantN rfl) (fun _ => by kernel_rfl) ?_
      refine SOps.enter rfl (wantN rfl) (fun _ => by kernel_rfl) (disk_Disk_Slots.sound F p8 H9 _ h) ?_
      clear h
      rintro v H11 ⟨x10, rfl, h⟩
      refine SOps.val (v := .int .i64 (imin (imax x1 0) 4096)) rfl (wantN rfl) (fun _ => by kernel_rfl) ?_
      refine SOps.val (v := .bool (x10 != (imin (imax x1 0) 4096))) rfl (wantN rfl) (fun _ => by kernel_rfl) ?_
      refine SOps.nil ?_
      by_cases c12 : x10 ≠ (imin (imax x1 0) 4096)
      · replace h := h.1 c12
        have dc12 : (x10 != (imin (imax x1 0) 4096)) = true := (bne_iff_ne.mpr c12)
        refine SW.cond_t (t := (x10 != (imin (imax x1 0) 4096))) rfl dc12 ?_
        refine SW.seq ?_
        refine SW.region ?_
        refine SOps.val (v := .bool false) rfl (wantN rfl) (fun _ => by kernel_rfl) ?_
        refine SOps.nil ?_
        obtain ⟨Hr, hr, h⟩ := h
        exact SW.ret (retQ.mk (.bool false) (res1 rfl rfl) hr ⟨false, rfl, h⟩)
      · replace h := h.2 c12
        have dc12 : (x10 != (imin (imax x1 0) 4096)) = false := (by simpa using c12)
        refine SW.cond_f (t := (x10 != (imin (imax x1 0) 4096))) rfl dc12 ?_
        refine SW.skip ?_
        refine SW.seq ?_
        refine SW.region ?_
        refine SOps.val (v := .int .i64 x2) rfl (wantN rfl) (fun _ => by kernel_rfl) ?_
        refine SOps.val (v := .bool (decide (x2 ≥ 0))) rfl (wantN rfl) (fun _ => by kernel_rfl) ?_
        refine SOps.val (v := .bool (decide (x2 ≥ 0))) rfl (wantN rfl) (fun _ => by kernel_rfl) ?_
        by_cases c13 : x2 ≥ 0
        · replace h := h.1 c13
          have dc13 : (decide (x2 ≥ 0)) = true := (decide_eq_true c13)
          refine SOps.val (v := .int .i64 x2) rfl (wantY (c := decide (x2 ≥ 0)) rfl rfl rfl dc13) (fun _ => by kernel_rfl) ?_
          refine SOps.val (v := .int .i64 (imin (imax x1 0) 4096)) rfl (wantY (c := decide (x2 ≥ 0)) rfl rfl rfl dc13) (fun _ => by kernel_rfl) ?_
          refine SOps.val (v := .bool (decide (x2 < (imin (imax x1 0) 4096)))) rfl (wantY (c := decide (x2 ≥ 0)) rfl rfl rfl dc13) (fun _ => by kernel_rfl) ?_
          refine SOps.val (v := .bool (decide (x2 < (imin (imax x1 0) 4096)))) rfl (wantN rfl) (fun w => ev_pickT (v := .bool (decide (x2 < (imin (imax x1 0) 4096)))) rfl (t := decide (x2 ≥ 0)) rfl dc13 rfl w) ?_
          refine SOps.val (v := .bool (decide (x2 < (imin (imax x1 0) 4096)))) rfl (wantN rfl) (fun _ => by kernel_rfl) ?_
          refine SOps.nil ?_
          refine SW.seq ?_
          refine SW.region ?_
          refine SOps.val (v := pv p8) rfl (wantN rfl) (fun _ => by kernel_rfl) ?_
          refine SOps.val (v := .int .i64 x2) rfl (wantN rfl) (fun _ => by kernel_rfl) ?_
          refine SOps.val (v := .string s3) rfl (wantN rfl) (fun _ => by kernel_rfl) ?_
          refine SOps.enter rfl (wantN rfl) (fun _ => by kernel_rfl) (disk_Disk_Put.sound F p8 x2 s3 H11 _ h) ?_
          clear h
          rintro v H15 ⟨e14, rfl, h⟩
          refine SOps.val (v := errV e14) rfl (wantN rfl) (fun _ => by kernel_rfl) ?_
          refine SOps.nil ?_
          refine SW.seq ?_
          refine SW.region ?_
          refine SOps.val (v := pv p8) rfl (wantN rfl) (fun _ => by kernel_rfl) ?_
          refine SOps.val (v := .int .i64 x2) rfl (wantN rfl) (fun _ => by kernel_rfl) ?_
          refine SOps.enter rfl (wantN rfl) (fun _ => by kernel_rfl) (disk_Disk_Get.sound F p8 x2 H15 _ h) ?_
          clear h
          rintro v H18 ⟨s16, e17, rfl, h⟩
          refine SOps.val (v := .tuple #[.string s16, errV e17]) rfl (wantN rfl) (fun _ => by kernel_rfl) ?_
          refine SOps.val (v := .string s16) rfl (wantN rfl) (fun _ => by kernel_rfl) ?_
          refine SOps.val (v := errV e17) rfl (wantN rfl) (fun _ => by kernel_rfl) ?_
          refine SOps.val (v := .string s16) rfl (wantN rfl) (fun _ => by kernel_rfl) ?_
          refine SOps.val (v := errV e17) rfl (wantN rfl) (fun _ => by kernel_rfl) ?_
          refine SOps.nil ?_
          refine SW.seqJ (fun fr H => ∃ (g : Fr) (x39 : Int) (s40 : ByteArray) (p41 : Option (Nat × Nat)), fr = g.upds [(1, (.int .i64 x39 : Value)), (2, (.string s40 : Value)), (7, pv p41)] ∧ ladinglaw14_DiskBounds.j1 F K x39 s40 p41 H) ?_ ?_
          · clear h
            rintro fr H ⟨g, x39, s40, p41, rfl, h⟩
            unfold ladinglaw14_DiskBounds.j1 at h
            refine SW.seq ?_
            refine SW.region ?_
            refine SOps.val (v := pv none) rfl (wantN rfl) (fun _ => by kernel_rfl) ?_
            refine SOps.nil ?_
            refine SW.seq ?_
            refine SW.region ?_
            refine SOps.val (v := pv none) rfl (wantN rfl) (fun _ => by kernel_rfl) ?_
            refine SOps.val (v := .agg #[sv Sl.nil, .int .i64 0]) rfl (wantN rfl) (fun _ => by kernel_rfl) ?_
            refine SOps.enter rfl (wantN rfl) (fun _ => by kernel_rfl) (disk_Disk_Crash.sound F none Sl.nil 0 H _ h) ?_
            clear h
            rintro v H43 ⟨rfl, h⟩
            refine SOps.nil ?_
            refine SW.seq ?_
            refine SW.region ?_
            refine SOps.val (v := pv none) rfl (wantN rfl) (fun _ => by kernel_rfl) ?_
            refine SOps.val (v := .int .i64 x39) rfl (wantN rfl) (fun _ => by kernel_rfl) ?_
            refine SOps.enter rfl (wantN rfl) (fun _ => by kernel_rfl) (disk_Disk_Fuse.sound F none x39 H43 _ h) ?_
            clear h
            rintro v H44 ⟨rfl, h⟩
            refine SOps.nil ?_
            refine SW.seq ?_
            refine SW.region ?_
            refine SOps.val (v := pv none) rfl (wantN rfl) (fun _ => by kernel_rfl) ?_
            refine SOps.enter rfl (wantN rfl) (fun _ => by kernel_rfl) (disk_Disk_Log.sound F none H44 _ h) ?_
            clear h
            rintro v H47 ⟨s45, e46, rfl, h⟩
            refine SOps.val (v := .tuple #[.string s45, errV e46]) rfl (wantN rfl) (fun _ => by kernel_rfl) ?_
            refine SOps.val (v := .string s45) rfl (wantN rfl) (fun _ => by kernel_rfl) ?_
            refine SOps.val (v := errV e46) rfl (wantN rfl) (fun _ => by kernel_rfl) ?_
            refine SOps.val (v := .string s45) rfl (wantN rfl) (fun _ => by kernel_rfl) ?_
            refine SOps.val (v := errV e46) rfl (wantN rfl) (fun _ => by kernel_rfl) ?_
            refine SOps.nil ?_
            refine SW.seq ?_
            refine SW.region ?_
            refine SOps.val (v := pv none) rfl (wantN rfl) (fun _ => by kernel_rfl) ?_
            refine SOps.enter rfl (wantN rfl) (fun _ => by kernel_rfl) (disk_Disk_Get.sound F none 0 H47 _ h) ?_
            clear h
            rintro v H50 ⟨s48, e49, rfl, h⟩
            refine SOps.val (v := .tuple #[.string s48, errV e49]) rfl (wantN rfl) (fun _ => by kernel_rfl) ?_
            refine SOps.val (v := .string s48) rfl (wantN rfl) (fun _ => by kernel_rfl) ?_
            refine SOps.val (v := errV e49) rfl (wantN rfl) (fun _ => by kernel_rfl) ?_
            refine SOps.val (v := .string s48) rfl (wantN rfl) (fun _ => by kernel_rfl) ?_
            refine SOps.val (v := errV e49) rfl (wantN rfl) (fun _ => by kernel_rfl) ?_
            refine SOps.nil ?_
            refine SW.seq ?_
            refine SW.region ?_
            refine SOps.val (v := .int .i64 1) rfl (wantN rfl) (fun _ => by kernel_rfl) ?_
            refine SOps.nil ?_
            refine SW.seq ?_
            refine SW.region ?_
            refine SOps.val (v := errV e46) rfl (wantN rfl) (fun _ => by kernel_rfl) ?_
            refine SOps.enter rfl (wantN rfl) (fun _ => by kernel_rfl) (api_Code.sound F e46 H50 _ h) ?_
            clear h
            rintro v H52 ⟨x51, rfl, h⟩
            refine SOps.val (v := .int .i64 1) rfl (wantN rfl) (fun _ => by kernel_rfl) ?_
            refine SOps.val (v := .bool (x51 == 1)) rfl (wantN rfl) (fun _ => by kernel_rfl) ?_
            refine SOps.val (v := .bool (x51 == 1)) rfl (wantN rfl) (fun _ => by kernel_rfl) ?_
            by_cases c53 : x51 = 1
            · replace h := h.1 c53
              have dc53 : (x51 == 1) = true := (beq_iff_eq.mpr c53)
              refine SOps.val (v := errV e49) rfl (wantY (c := (x51 == 1)) rfl rfl rfl dc53) (fun _ => by kernel_rfl) ?_
              refine SOps.enter rfl (wantY (c := (x51 == 1)) rfl rfl rfl dc53) (fun _ => by kernel_rfl) (api_Code.sound F e49 H52 _ h) ?_
              clear h
              rintro v H55 ⟨x54, rfl, h⟩
              refine SOps.val (v := .int .i64 1) rfl (wantY (c := (x51 == 1)) rfl rfl rfl dc53) (fun _ => by kernel_rfl) ?_
              refine SOps.val (v := .bool (x54 == 1)) rfl (wantY (c := (x51 == 1)) rfl rfl rfl dc53) (fun _ => by kernel_rfl) ?_
              refine SOps.val (v := .bool (x54 == 1)) rfl (wantN rfl) (fun w => ev_pickT (v := .bool (x54 == 1)) rfl (t := (x51 == 1)) rfl dc53 rfl w) ?_
              refine SOps.val (v := .bool (x54 == 1)) rfl (wantN rfl) (fun _ => by kernel_rfl) ?_
              by_cases c56 : x54 = 1
              · replace h := h.1 c56
                have dc56 : (x54 == 1) = true := (beq_iff_eq.mpr c56)
                refine SOps.val (v := pv none) rfl (wantY (c := (x54 == 1)) rfl rfl rfl dc56) (fun _ => by kernel_rfl) ?_
                refine SOps.val (v := .string s40) rfl (wantY (c := (x54 == 1)) rfl rfl rfl dc56) (fun _ => by kernel_rfl) ?_
                refine SOps.enter rfl (wantY (c := (x54 == 1)) rfl rfl rfl dc56) (fun _ => by kernel_rfl) (disk_Disk_Append.sound F none s40 H55 _ h) ?_
                clear h
                rintro v H58 ⟨e57, rfl, h⟩
                refine SOps.enter rfl (wantY (c := (x54 == 1)) rfl rfl rfl dc56) (fun _ => by kernel_rfl) (api_Code.sound F e57 H58 _ h) ?_
                clear h
                rintro v H60 ⟨x59, rfl, h⟩
                refine SOps.val (v := .int .i64 1) rfl (wantY (c := (x54 == 1)) rfl rfl rfl dc56) (fun _ => by kernel_rfl) ?_
                refine SOps.val (v := .bool (x59 == 1)) rfl (wantY (c := (x54 == 1)) rfl rfl rfl dc56) (fun _ => by kernel_rfl) ?_
                refine SOps.val (v := .bool (x59 == 1)) rfl (wantN rfl) (fun w => ev_pickT (v := .bool (x59 == 1)) rfl (t := (x54 == 1)) rfl dc56 rfl w) ?_
                refine SOps.val (v := .bool (x59 == 1)) rfl (wantN rfl) (fun _ => by kernel_rfl) ?_
                by_cases c61 : x59 = 1
                · replace h := h.1 c61
                  have dc61 : (x59 == 1) = true := (beq_iff_eq.mpr c61)
                  refine SOps.val (v := pv none) rfl (wantY (c := (x59 == 1)) rfl rfl rfl dc61) (fun _ => by kernel_rfl) ?_
                  refine SOps.val (v := .string s40) rfl (wantY (c := (x59 == 1)) rfl rfl rfl dc61) (fun _ => by kernel_rfl) ?_
                  refine SOps.enter rfl (wantY (c := (x59 == 1)) rfl rfl rfl dc61) (fun _ => by kernel_rfl) (disk_Disk_Put.sound F none 0 s40 H60 _ h) ?_
                  clear h
                  rintro v H63 ⟨e62, rfl, h⟩
                  refine SOps.enter rfl (wantY (c := (x59 == 1)) rfl rfl rfl dc61) (fun _ => by kernel_rfl) (api_Code.sound F e62 H63 _ h) ?_
                  clear h
                  rintro v H65 ⟨x64, rfl, h⟩
                  refine SOps.val (v := .int .i64 1) rfl (wantY (c := (x59 == 1)) rfl rfl rfl dc61) (fun _ => by kernel_rfl) ?_
                  refine SOps.val (v := .bool (x64 == 1)) rfl (wantY (c := (x59 == 1)) rfl rfl rfl dc61) (fun _ => by kernel_rfl) ?_
                  refine SOps.val (v := .bool (x64 == 1)) rfl (wantN rfl) (fun w => ev_pickT (v := .bool (x64 == 1)) rfl (t := (x59 == 1)) rfl dc61 rfl w) ?_
                  refine SOps.val (v := .bool (x64 == 1)) rfl (wantN rfl) (fun _ => by kernel_rfl) ?_
                  by_cases c66 : x64 = 1
                  · replace h := h.1 c66
                    have dc66 : (x64 == 1) = true := (beq_iff_eq.mpr c66)
                    refine SOps.val (v := pv none) rfl (wantY (c := (x64 == 1)) rfl rfl rfl dc66) (fun _ => by kernel_rfl) ?_
                    refine SOps.enter rfl (wantY (c := (x64 == 1)) rfl rfl rfl dc66) (fun _ => by kernel_rfl) (disk_Disk_Sync.sound F none H65 _ h) ?_
                    clear h
                    rintro v H68 ⟨e67, rfl, h⟩
                    refine SOps.enter rfl (wantY (c := (x64 == 1)) rfl rfl rfl dc66) (fun _ => by kernel_rfl) (api_Code.sound F e67 H68 _ h) ?_
                    clear h
                    rintro v H70 ⟨x69, rfl, h⟩
                    refine SOps.val (v := .int .i64 1) rfl (wantY (c := (x64 == 1)) rfl rfl rfl dc66) (fun _ => by kernel_rfl) ?_
                    refine SOps.val (v := .bool (x69 == 1)) rfl (wantY (c := (x64 == 1)) rfl rfl rfl dc66) (fun _ => by kernel_rfl) ?_
                    refine SOps.val (v := .bool (x69 == 1)) rfl (wantN rfl) (fun w => ev_pickT (v := .bool (x69 == 1)) rfl (t := (x64 == 1)) rfl dc66 rfl w) ?_
                    refine SOps.val (v := .bool (x69 == 1)) rfl (wantN rfl) (fun _ => by kernel_rfl) ?_
                    by_cases c71 : x69 = 1
                    · replace h := h.1 c71
                      have dc71 : (x69 == 1) = true := (beq_iff_eq.mpr c71)
                      refine SOps.val (v := pv none) rfl (wantY (c := (x69 == 1)) rfl rfl rfl dc71) (fun _ => by kernel_rfl) ?_
                      refine SOps.enter rfl (wantY (c := (x69 == 1)) rfl rfl rfl dc71) (fun _ => by kernel_rfl) (disk_Disk_Cut.sound F none 0 H70 _ h) ?_
                      clear h
                      rintro v H73 ⟨e72, rfl, h⟩
                      refine SOps.enter rfl (wantY (c := (x69 == 1)) rfl rfl rfl dc71) (fun _ => by kernel_rfl) (api_Code.sound F e72 H73 _ h) ?_
                      clear h
                      rintro v H75 ⟨x74, rfl, h⟩
                      refine SOps.val (v := .int .i64 1) rfl (wantY (c := (x69 == 1)) rfl rfl rfl dc71) (fun _ => by kernel_rfl) ?_
                      refine SOps.val (v := .bool (x74 == 1)) rfl (wantY (c := (x69 == 1)) rfl rfl rfl dc71) (fun _ => by kernel_rfl) ?_
                      refine SOps.val (v := .bool (x74 == 1)) rfl (wantN rfl) (fun w => ev_pickT (v := .bool (x74 == 1)) rfl (t := (x69 == 1)) rfl dc71 rfl w) ?_
                      refine SOps.val (v := .bool (x74 == 1)) rfl (wantN rfl) (fun _ => by kernel_rfl) ?_
                      by_cases c76 : x74 = 1
                      · replace h := h.1 c76
                        have dc76 : (x74 == 1) = true := (beq_iff_eq.mpr c76)
                        refine SOps.val (v := pv none) rfl (wantY (c := (x74 == 1)) rfl rfl rfl dc76) (fun _ => by kernel_rfl) ?_
                        refine SOps.enter rfl (wantY (c := (x74 == 1)) rfl rfl rfl dc76) (fun _ => by kernel_rfl) (disk_Disk_Rot.sound F none 0 0 1 H75 _ h) ?_
                        clear h
                        rintro v H78 ⟨q77, rfl, h⟩
                        refine SOps.val (v := .bool (!q77)) rfl (wantY (c := (x74 == 1)) rfl rfl rfl dc76) (fun _ => by kernel_rfl) ?_
                        refine SOps.val (v := .bool (!q77)) rfl (wantN rfl) (fun w => ev_pickT (v := .bool (!q77)) rfl (t := (x74 == 1)) rfl dc76 rfl w) ?_
                        refine SOps.val (v := .bool (!q77)) rfl (wantN rfl) (fun _ => by kernel_rfl) ?_
                        by_cases c79 : q77 = true
                        · replace h := h.1 c79
                          have dc79 : q77 = true := c79
                          refine SOps.off rfl (wantX (c := !q77) rfl rfl rfl (not_t dc79)) ?_
                          refine SOps.off rfl (wantX (c := !q77) rfl rfl rfl (not_t dc79)) ?_
                          refine SOps.val (v := .bool false) rfl (wantN rfl) (fun w => ev_pickF (v := .bool false) rfl (t := !q77) rfl (not_t dc79) rfl w) ?_
                          refine SOps.val (v := .bool false) rfl (wantN rfl) (fun _ => by kernel_rfl) ?_
                          refine SOps.off rfl (wantX (c := false) rfl rfl rfl rfl) ?_
                          refine SOps.off rfl (wantX (c := false) rfl rfl rfl rfl) ?_
                          refine SOps.off rfl (wantX (c := false) rfl rfl rfl rfl) ?_
                          refine SOps.off rfl (wantX (c := false) rfl rfl rfl rfl) ?_
                          refine SOps.off rfl (wantX (c := false) rfl rfl rfl rfl) ?_
                          refine SOps.off rfl (wantX (c := false) rfl rfl rfl rfl) ?_
                          refine SOps.val (v := .bool false) rfl (wantN rfl) (fun w => ev_pickF (v := .bool false) rfl (t := false) rfl rfl rfl w) ?_
                          refine SOps.val (v := .bool false) rfl (wantN rfl) (fun _ => by kernel_rfl) ?_
                          refine SOps.off rfl (wantX (c := false) rfl rfl rfl rfl) ?_
                          refine SOps.off rfl (wantX (c := false) rfl rfl rfl rfl) ?_
                          refine SOps.val (v := .bool false) rfl (wantN rfl) (fun w => ev_pickF (v := .bool false) rfl (t := false) rfl rfl rfl w) ?_
                          refine SOps.val (v := .bool false) rfl (wantN rfl) (fun _ => by kernel_rfl) ?_
                          refine SOps.off rfl (wantX (c := false) rfl rfl rfl rfl) ?_
                          refine SOps.off rfl (wantX (c := false) rfl rfl rfl rfl) ?_
                          refine SOps.off rfl (wantX (c := false) rfl rfl rfl rfl) ?_
                          refine SOps.off rfl (wantX (c := false) rfl rfl rfl rfl) ?_
                          refine SOps.val (v := .bool false) rfl (wantN rfl) (fun w => ev_pickF (v := .bool false) rfl (t := false) rfl rfl rfl w) ?_
                          refine SOps.val (v := .bool false) rfl (wantN rfl) (fun _ => by kernel_rfl) ?_
                          refine SOps.off rfl (wantX (c := false) rfl rfl rfl rfl) ?_
                          refine SOps.off rfl (wantX (c := false) rfl rfl rfl rfl) ?_
                          refine SOps.off rfl (wantX (c := false) rfl rfl rfl rfl) ?_
                          refine SOps.val (v := .bool false) rfl (wantN rfl) (fun w => ev_pickF (v := .bool false) rfl (t := false) rfl rfl rfl w) ?_
                          refine SOps.val (v := .bool false) rfl (wantN rfl) (fun _ => by kernel_rfl) ?_
                          refine SOps.nil ?_
                          obtain ⟨Hr, hr, h⟩ := h
                          exact SW.ret (retQ.mk (.bool false) (res1 rfl rfl) hr ⟨false, rfl, h⟩)
                        · replace h := h.2 c79
                          have dc79 : q77 = false := (Bool.eq_false_iff.mpr c79)
                          refine SOps.val (v := pv none) rfl (wantY (c := !q77) rfl rfl rfl (not_f dc79)) (fun _ => by kernel_rfl) ?_
                          refine SOps.enter rfl (wantY (c := !q77) rfl rfl rfl (not_f dc79)) (fun _ => by kernel_rfl) (disk_Disk_Down.sound F none H78 _ h) ?_
                          clear h
                          rintro v H81 ⟨q80, rfl, h⟩
                          refine SOps.val (v := .bool q80) rfl (wantN rfl) (fun w => ev_pickT (v := .bool q80) rfl (t := !q77) rfl (not_f dc79) rfl w) ?_
                          refine SOps.val (v := .bool q80) rfl (wantN rfl) (fun _ => by kernel_rfl) ?_
                          by_cases c82 : q80 = true
                          · replace h := h.1 c82
                            have dc82 : q80 = true := c82
                            refine SOps.val (v := pv none) rfl (wantY (c := q80) rfl rfl rfl dc82) (fun _ => by kernel_rfl) ?_
                            refine SOps.enter rfl (wantY (c := q80) rfl rfl rfl dc82) (fun _ => by kernel_rfl) (disk_Disk_Slots.sound F none H81 _ h) ?_
                            clear h
                            rintro v H84 ⟨x83, rfl, h⟩
                            refine SOps.val (v := pv none) rfl (wantY (c := q80) rfl rfl rfl dc82) (fun _ => by kernel_rfl) ?_
                            refine SOps.enter rfl (wantY (c := q80) rfl rfl rfl dc82) (fun _ => by kernel_rfl) (disk_Disk_Waits.sound F none H84 _ h) ?_
                            clear h
                            rintro v H86 ⟨x85, rfl, h⟩
                            refine SOps.val (v := .int .i64 (w64 (x83 + x85))) rfl (wantY (c := q80) rfl rfl rfl dc82) (fun _ => by kernel_rfl) ?_
                            refine SOps.val (v := .bool ((w64 (x83 + x85)) == 0)) rfl (wantY (c := q80) rfl rfl rfl dc82) (fun _ => by kernel_rfl) ?_
                            refine SOps.val (v := .bool ((w64 (x83 + x85)) == 0)) rfl (wantN rfl) (fun w => ev_pickT (v := .bool ((w64 (x83 + x85)) == 0)) rfl (t := q80) rfl dc82 rfl w) ?_
                            refine SOps.val (v := .bool ((w64 (x83 + x85)) == 0)) rfl (wantN rfl) (fun _ => by kernel_rfl) ?_
                            by_cases c87 : (w64 (x83 + x85)) = 0
                            · replace h := h.1 c87
                              have dc87 : ((w64 (x83 + x85)) == 0) = true := (beq_iff_eq.mpr c87)
                              refine SOps.val (v := pv none) rfl (wantY (c := ((w64 (x83 + x85)) == 0)) rfl rfl rfl dc87) (fun _ => by kernel_rfl) ?_
                              refine SOps.enter rfl (wantY (c := ((w64 (x83 + x85)) == 0)) rfl rfl rfl dc87) (fun _ => by kernel_rfl) (disk_Disk_Same.sound F none none H86 _ h) ?_
                              clear h
                              rintro v H89 ⟨q88, rfl, h⟩
                              refine SOps.val (v := .bool q88) rfl (wantN rfl) (fun w => ev_pickT (v := .bool q88) rfl (t := ((w64 (x83 + x85)) == 0)) rfl dc87 rfl w) ?_
                              refine SOps.val (v := .bool q88) rfl (wantN rfl) (fun _ => by kernel_rfl) ?_
                              by_cases c90 : q88 = true
                              · replace h := h.1 c90
                                have dc90 : q88 = true := c90
                                refine SOps.val (v := pv none) rfl (wantY (c := q88) rfl rfl rfl dc90) (fun _ => by kernel_rfl) ?_
                                refine SOps.val (v := pv p41) rfl (wantY (c := q88) rfl rfl rfl dc90) (fun _ => by kernel_rfl) ?_
                                refine SOps.enter rfl (wantY (c := q88) rfl rfl rfl dc90) (fun _ => by kernel_rfl) (disk_Disk_Same.sound F none p41 H89 _ h) ?_
                                clear h
                                rintro v H92 ⟨q91, rfl, h⟩
                                refine SOps.val (v := .bool (!q91)) rfl (wantY (c := q88) rfl rfl rfl dc90) (fun _ => by kernel_rfl) ?_
                                refine SOps.val (v := .bool (!q91)) rfl (wantN rfl) (fun w => ev_pickT (v := .bool (!q91)) rfl (t := q88) rfl dc90 rfl w) ?_
                                refine SOps.val (v := .bool (!q91)) rfl (wantN rfl) (fun _ => by kernel_rfl) ?_
                                by_cases c93 : q91 = true
                                · replace h := h.1 c93
                                  have dc93 : q91 = true := c93
                                  refine SOps.off rfl (wantX (c := !q91) rfl rfl rfl (not_t dc93)) ?_
                                  refine SOps.off rfl (wantX (c := !q91) rfl rfl rfl (not_t dc93)) ?_
                                  refine SOps.off rfl (wantX (c := !q91) rfl rfl rfl (not_t dc93)) ?_
                                  refine SOps.val (v := .bool false) rfl (wantN rfl) (fun w => ev_pickF (v := .bool false) rfl (t := !q91) rfl (not_t dc93) rfl w) ?_
                                  refine SOps.val (v := .bool false) rfl (wantN rfl) (fun _ => by kernel_rfl) ?_
                                  refine SOps.nil ?_
                                  obtain ⟨Hr, hr, h⟩ := h
                                  exact SW.ret (retQ.mk (.bool false) (res1 rfl rfl) hr ⟨false, rfl, h⟩)
                                · replace h := h.2 c93
                                  have dc93 : q91 = false := (Bool.eq_false_iff.mpr c93)
                                  refine SOps.val (v := pv p41) rfl (wantY (c := !q91) rfl rfl rfl (not_f dc93)) (fun _ => by kernel_rfl) ?_
                                  refine SOps.val (v := pv p41) rfl (wantY (c := !q91) rfl rfl rfl (not_f dc93)) (fun _ => by kernel_rfl) ?_
                                  refine SOps.enter rfl (wantY (c := !q91) rfl rfl rfl (not_f dc93)) (fun _ => by kernel_rfl) (disk_Disk_Same.sound F p41 p41 H92 _ h) ?_
                                  clear h
                                  rintro v H95 ⟨q94, rfl, h⟩
                                  refine SOps.val (v := .bool q94) rfl (wantN rfl) (fun w => ev_pickT (v := .bool q94) rfl (t := !q91) rfl (not_f dc93) rfl w) ?_
                                  refine SOps.val (v := .bool q94) rfl (wantN rfl) (fun _ => by kernel_rfl) ?_
                                  refine SOps.nil ?_
                                  obtain ⟨Hr, hr, h⟩ := h
                                  exact SW.ret (retQ.mk (.bool q94) (res1 rfl rfl) hr ⟨q94, rfl, h⟩)
                              · replace h := h.2 c90
                                have dc90 : q88 = false := (Bool.eq_false_iff.mpr c90)
                                refine SOps.off rfl (wantX (c := q88) rfl rfl rfl dc90) ?_
                                refine SOps.off rfl (wantX (c := q88) rfl rfl rfl dc90) ?_
                                refine SOps.off rfl (wantX (c := q88) rfl rfl rfl dc90) ?_
                                refine SOps.off rfl (wantX (c := q88) rfl rfl rfl dc90) ?_
                                refine SOps.val (v := .bool false) rfl (wantN rfl) (fun w => ev_pickF (v := .bool false) rfl (t := q88) rfl dc90 rfl w) ?_
                                refine SOps.val (v := .bool false) rfl (wantN rfl) (fun _ => by kernel_rfl) ?_
                                refine SOps.off rfl (wantX (c := false) rfl rfl rfl rfl) ?_
                                refine SOps.off rfl (wantX (c := false) rfl rfl rfl rfl) ?_
                                refine SOps.off rfl (wantX (c := false) rfl rfl rfl rfl) ?_
                                refine SOps.val (v := .bool false) rfl (wantN rfl) (fun w => ev_pickF (v := .bool false) rfl (t := false) rfl rfl rfl w) ?_
                                refine SOps.val (v := .bool false) rfl (wantN rfl) (fun _ => by kernel_rfl) ?_
                                refine SOps.nil ?_
                                obtain ⟨Hr, hr, h⟩ := h
                                exact SW.ret (retQ.mk (.bool false) (res1 rfl rfl) hr ⟨false, rfl, h⟩)
                            · replace h := h.2 c87
                              have dc87 : ((w64 (x83 + x85)) == 0) = false := (beq_eq_false_iff_ne.mpr c87)
                              refine SOps.off rfl (wantX (c := ((w64 (x83 + x85)) == 0)) rfl rfl rfl dc87) ?_
                              refine SOps.off rfl (wantX (c := ((w64 (x83 + x85)) == 0)) rfl rfl rfl dc87) ?_
                              refine SOps.val (v := .bool false) rfl (wantN rfl) (fun w => ev_pickF (v := .bool false) rfl (t := ((w64 (x83 + x85)) == 0)) rfl dc87 rfl w) ?_
                              refine SOps.val (v := .bool false) rfl (wantN rfl) (fun _ => by kernel_rfl) ?_
                              refine SOps.off rfl (wantX (c := false) rfl rfl rfl rfl) ?_
                              refine SOps.off rfl (wantX (c := false) rfl rfl rfl rfl) ?_
                              refine SOps.off rfl (wantX (c := false) rfl rfl rfl rfl) ?_
                              refine SOps.off rfl (wantX (c := false) rfl rfl rfl rfl) ?_
                              refine SOps.val (v := .bool false) rfl (wantN rfl) (fun w => ev_pickF (v := .bool false) rfl (t := false) rfl rfl rfl w) ?_
                              refine SOps.val (v := .bool false) rfl (wantN rfl) (fun _ => by kernel_rfl) ?_
                              refine SOps.off rfl (wantX (c := false) rfl rfl rfl rfl) ?_
                              refine SOps.off rfl (wantX (c := false) rfl rfl rfl rfl) ?_
                              refine SOps.off rfl (wantX (c := false) rfl rfl rfl rfl) ?_
                              refine SOps.val (v := .bool false) rfl (wantN rfl) (fun w => ev_pickF (v := .bool false) rfl (t := false) rfl rfl rfl w) ?_
                              refine SOps.val (v := .bool false) rfl (wantN rfl) (fun _ => by kernel_rfl) ?_
                              refine SOps.nil ?_
                              obtain ⟨Hr, hr, h⟩ := h
                              exact SW.ret (retQ.mk (.bool false) (res1 rfl rfl) hr ⟨false, rfl, h⟩)
                          · replace h := h.2 c82
                            have dc82 : q80 = false := (Bool.eq_false_iff.mpr c82)
                            refine SOps.off rfl (wantX (c := q80) rfl rfl rfl dc82) ?_
                            refine SOps.off rfl (wantX (c := q80) rfl rfl rfl dc82) ?_
                            refine SOps.off rfl (wantX (c := q80) rfl rfl rfl dc82) ?_
                            refine SOps.off rfl (wantX (c := q80) rfl rfl rfl dc82) ?_
                            refine SOps.off rfl (wantX (c := q80) rfl rfl rfl dc82) ?_
                            refine SOps.off rfl (wantX (c := q80) rfl rfl rfl dc82) ?_
                            refine SOps.val (v := .bool false) rfl (wantN rfl) (fun w => ev_pickF (v := .bool false) rfl (t := q80) rfl dc82 rfl w) ?_
                            refine SOps.val (v := .bool false) rfl (wantN rfl) (fun _ => by kernel_rfl) ?_
                            refine SOps.off rfl (wantX (c := false) rfl rfl rfl rfl) ?_
                            refine SOps.off rfl (wantX (c := false) rfl rfl rfl rfl) ?_
                            refine SOps.val (v := .bool false) rfl (wantN rfl) (fun w => ev_pickF (v := .bool false) rfl (t := false) rfl rfl rfl w) ?_
                            refine SOps.val (v := .bool false) rfl (wantN rfl) (fun _ => by kernel_rfl) ?_
                            refine SOps.off rfl (wantX (c := false) rfl rfl rfl rfl) ?_
                            refine SOps.off rfl (wantX (c := false) rfl rfl rfl rfl) ?_
                            refine SOps.off rfl (wantX (c := false) rfl rfl rfl rfl) ?_
                            refine SOps.off rfl (wantX (c := false) rfl rfl rfl rfl) ?_
                            refine SOps.val (v := .bool false) rfl (wantN rfl) (fun w => ev_pickF (v := .bool false) rfl (t := false) rfl rfl rfl w) ?_
                            refine SOps.val (v := .bool false) rfl (wantN rfl) (fun _ => by kernel_rfl) ?_
                            refine SOps.off rfl (wantX (c := false) rfl rfl rfl rfl) ?_
                            refine SOps.off rfl (wantX (c := false) rfl rfl rfl rfl) ?_
                            refine SOps.off rfl (wantX (c := false) rfl rfl rfl rfl) ?_
                            refine SOps.val (v := .bool false) rfl (wantN rfl) (fun w => ev_pickF (v := .bool false) rfl (t := false) rfl rfl rfl w) ?_
                            refine SOps.val (v := .bool false) rfl (wantN rfl) (fun _ => by kernel_rfl) ?_
                            refine SOps.nil ?_
                            obtain ⟨Hr, hr, h⟩ := h
                            exact SW.ret (retQ.mk (.bool false) (res1 rfl rfl) hr ⟨false, rfl, h⟩)
                      · replace h := h.2 c76
                        have dc76 : (x74 == 1) = false := (beq_eq_false_iff_ne.mpr c76)
                        refine SOps.off rfl (wantX (c := (x74 == 1)) rfl rfl rfl dc76) ?_
                        refine SOps.off rfl (wantX (c := (x74 == 1)) rfl rfl rfl dc76) ?_
                        refine SOps.off rfl (wantX (c := (x74 == 1)) rfl rfl rfl dc76) ?_
                        refine SOps.val (v := .bool false) rfl (wantN rfl) (fun w => ev_pickF (v := .bool false) rfl (t := (x74 == 1)) rfl dc76 rfl w) ?_
                        refine SOps.val (v := .bool false) rfl (wantN rfl) (fun _ => by kernel_rfl) ?_
                        refine SOps.off rfl (wantX (c := false) rfl rfl rfl rfl) ?_
                        refine SOps.off rfl (wantX (c := false) rfl rfl rfl rfl) ?_
                        refine SOps.val (v := .bool false) rfl (wantN rfl) (fun w => ev_pickF (v := .bool false) rfl (t := false) rfl rfl rfl w) ?_
                        refine SOps.val (v := .bool false) rfl (wantN rfl) (fun _ => by kernel_rfl) ?_
                        refine SOps.off rfl (wantX (c := false) rfl rfl rfl rfl) ?_
                        refine SOps.off rfl (wantX (c := false) rfl rfl rfl rfl) ?_
                        refine SOps.off rfl (wantX (c := false) rfl rfl rfl rfl) ?_
                        refine SOps.off rfl (wantX (c := false) rfl rfl rfl rfl) ?_
                        refine SOps.off rfl (wantX (c := false) rfl rfl rfl rfl) ?_
                        refine SOps.off rfl (wantX (c := false) rfl rfl rfl rfl) ?_
                        refine SOps.val (v := .bool false) rfl (wantN rfl) (fun w => ev_pickF (v := .bool false) rfl (t := false) rfl rfl rfl w) ?_
                        refine SOps.val (v := .bool false) rfl (wantN rfl) (fun _ => by kernel_rfl) ?_
                        refine SOps.off rfl (wantX (c := false) rfl rfl rfl rfl) ?_
                        refine SOps.off rfl (wantX (c := false) rfl rfl rfl rfl) ?_
                        refine SOps.val (v := .bool false) rfl (wantN rfl) (fun w => ev_pickF (v := .bool false) rfl (t := false) rfl rfl rfl w) ?_
                        refine SOps.val (v := .bool false) rfl (wantN rfl) (fun _ => by kernel_rfl) ?_
                        refine SOps.off rfl (wantX (c := false) rfl rfl rfl rfl) ?_
                        refine SOps.off rfl (wantX (c := false) rfl rfl rfl rfl) ?_
                        refine SOps.off rfl (wantX (c := false) rfl rfl rfl rfl) ?_
                        refine SOps.off rfl (wantX (c := false) rfl rfl rfl rfl) ?_
                        refine SOps.val (v := .bool false) rfl (wantN rfl) (fun w => ev_pickF (v := .bool false) rfl (t := false) rfl rfl rfl w) ?_
                        refine SOps.val (v := .bool false) rfl (wantN rfl) (fun _ => by kernel_rfl) ?_
                        refine SOps.off rfl (wantX (c := false) rfl rfl rfl rfl) ?_
                        refine SOps.off rfl (wantX (c := false) rfl rfl rfl rfl) ?_
                        refine SOps.off rfl (wantX (c := false) rfl rfl rfl rfl) ?_
                        refine SOps.val (v := .bool false) rfl (wantN rfl) (fun w => ev_pickF (v := .bool false) rfl (t := false) rfl rfl rfl w) ?_
                        refine SOps.val (v := .bool false) rfl (wantN rfl) (fun _ => by kernel_rfl) ?_
                        refine SOps.nil ?_
                        obtain ⟨Hr, hr, h⟩ := h
                        exact SW.ret (retQ.mk (.bool false) (res1 rfl rfl) hr ⟨false, rfl, h⟩)
                    · replace h := h.2 c71
                      have dc71 : (x69 == 1) = false := (beq_eq_false_iff_ne.mpr c71)
                      refine SOps.off rfl (wantX (c := (x69 == 1)) rfl rfl rfl dc71) ?_
                      refine SOps.off rfl (wantX (c := (x69 == 1)) rfl rfl rfl dc71) ?_
                      refine SOps.off rfl (wantX (c := (x69 == 1)) rfl rfl rfl dc71) ?_
                      refine SOps.off rfl (wantX (c := (x69 == 1)) rfl rfl rfl dc71) ?_
                      refine SOps.off rfl (wantX (c := (x69 == 1)) rfl rfl rfl dc71) ?_
                      refine SOps.val (v := .bool false) rfl (wantN rfl) (fun w => ev_pickF (v := .bool false) rfl (t := (x69 == 1)) rfl dc71 rfl w) ?_
                      refine SOps.val (v := .bool false) rfl (wantN rfl) (fun _ => by kernel_rfl) ?_
                      refine SOps.off rfl (wantX (c := false) rfl rfl rfl rfl) ?_
                      refine SOps.off rfl (wantX (c := false) rfl rfl rfl rfl) ?_
                      refine SOps.off rfl (wantX (c := false) rfl rfl rfl rfl) ?_
                      refine SOps.val (v := .bool false) rfl (wantN rfl) (fun w => ev_pickF (v := .bool false) rfl (t := false) rfl rfl rfl w) ?_
                      refine SOps.val (v := .bool false) rfl (wantN rfl) (fun _ => by kernel_rfl) ?_
                      refine SOps.off rfl (wantX (c := false) rfl rfl rfl rfl) ?_
                      refine SOps.off rfl (wantX (c := false) rfl rfl rfl rfl) ?_
                      refine SOps.val (v := .bool false) rfl (wantN rfl) (fun w => ev_pickF (v := .bool false) rfl (t := false) rfl rfl rfl w) ?_
                      refine SOps.val (v := .bool false) rfl (wantN rfl) (fun _ => by kernel_rfl) ?_
                      refine SOps.off rfl (wantX (c := false) rfl rfl rfl rfl) ?_
                      refine SOps.off rfl (wantX (c := false) rfl rfl rfl rfl) ?_
                      refine SOps.off rfl (wantX (c := false) rfl rfl rfl rfl) ?_
                      refine SOps.off rfl (wantX (c := false) rfl rfl rfl rfl) ?_
                      refine SOps.off rfl (wantX (c := false) rfl rfl rfl rfl) ?_
                      refine SOps.off rfl (wantX (c := false) rfl rfl rfl rfl) ?_
                      refine SOps.val (v := .bool false) rfl (wantN rfl) (fun w => ev_pickF (v := .bool false) rfl (t := false) rfl rfl rfl w) ?_
                      refine SOps.val (v := .bool false) rfl (wantN rfl) (fun _ => by kernel_rfl) ?_
                      refine SOps.off rfl (wantX (c := false) rfl rfl rfl rfl) ?_
                      refine SOps.off rfl (wantX (c := false) rfl rfl rfl rfl) ?_
                      refine SOps.val (v := .bool false) rfl (wantN rfl) (fun w => ev_pickF (v := .bool false) rfl (t := false) rfl rfl rfl w) ?_
                      refine SOps.val (v := .bool false) rfl (wantN rfl) (fun _ => by kernel_rfl) ?_
                      refine SOps.off rfl (wantX (c := false) rfl rfl rfl rfl) ?_
                      refine SOps.off rfl (wantX (c := false) rfl rfl rfl rfl) ?_
                      refine SOps.off rfl (wantX (c := false) rfl rfl rfl rfl) ?_
                      refine SOps.off rfl (wantX (c := false) rfl rfl rfl rfl) ?_
                      refine SOps.val (v := .bool false) rfl (wantN rfl) (fun w => ev_pickF (v := .bool false) rfl (t := false) rfl rfl rfl w) ?_
                      refine SOps.val (v := .bool false) rfl (wantN rfl) (fun _ => by kernel_rfl) ?_
                      refine SOps.off rfl (wantX (c := false) rfl rfl rfl rfl) ?_
                      refine SOps.off rfl (wantX (c := false) rfl rfl rfl rfl) ?_
                      refine SOps.off rfl (wantX (c := false) rfl rfl rfl rfl) ?_
                      refine SOps.val (v := .bool false) rfl (wantN rfl) (fun w => ev_pickF (v := .bool false) rfl (t := false) rfl rfl rfl w) ?_
                      refine SOps.val (v := .bool false) rfl (wantN rfl) (fun _ => by kernel_rfl) ?_
                      refine SOps.nil ?_
                      obtain ⟨Hr, hr, h⟩ := h
                      exact SW.ret (retQ.mk (.bool false) (res1 rfl rfl) hr ⟨false, rfl, h⟩)
                  · replace h := h.2 c66
                    have dc66 : (x64 == 1) = false := (beq_eq_false_iff_ne.mpr c66)
                    refine SOps.off rfl (wantX (c := (x64 == 1)) rfl rfl rfl dc66) ?_
                    refine SOps.off rfl (wantX (c := (x64 == 1)) rfl rfl rfl dc66) ?_
                    refine SOps.off rfl (wantX (c := (x64 == 1)) rfl rfl rfl dc66) ?_
                    refine SOps.off rfl (wantX (c := (x64 == 1)) rfl rfl rfl dc66) ?_
                    refine SOps.off rfl (wantX (c := (x64 == 1)) rfl rfl rfl dc66) ?_
                    refine SOps.val (v := .bool false) rfl (wantN rfl) (fun w => ev_pickF (v := .bool false) rfl (t := (x64 == 1)) rfl dc66 rfl w) ?_
                    refine SOps.val (v := .bool false) rfl (wantN rfl) (fun _ => by kernel_rfl) ?_
                    refine SOps.off rfl (wantX (c := false) rfl rfl rfl rfl) ?_
                    refine SOps.off rfl (wantX (c := false) rfl rfl rfl rfl) ?_
                    refine SOps.off rfl (wantX (c := false) rfl rfl rfl rfl) ?_
                    refine SOps.off rfl (wantX (c := false) rfl rfl rfl rfl) ?_
                    refine SOps.off rfl (wantX (c := false) rfl rfl rfl rfl) ?_
                    refine SOps.val (v := .bool false) rfl (wantN rfl) (fun w => ev_pickF (v := .bool false) rfl (t := false) rfl rfl rfl w) ?_
                    refine SOps.val (v := .bool false) rfl (wantN rfl) (fun _ => by kernel_rfl) ?_
                    refine SOps.off rfl (wantX (c := false) rfl rfl rfl rfl) ?_
                    refine SOps.off rfl (wantX (c := false) rfl rfl rfl rfl) ?_
                    refine SOps.off rfl (wantX (c := false) rfl rfl rfl rfl) ?_
                    refine SOps.val (v := .bool false) rfl (wantN rfl) (fun w => ev_pickF (v := .bool false) rfl (t := false) rfl rfl rfl w) ?_
                    refine SOps.val (v := .bool false) rfl (wantN rfl) (fun _ => by kernel_rfl) ?_
                    refine SOps.off rfl (wantX (c := false) rfl rfl rfl rfl) ?_
                    refine SOps.off rfl (wantX (c := false) rfl rfl rfl rfl) ?_
                    refine SOps.val (v := .bool false) rfl (wantN rfl) (fun w => ev_pickF (v := .bool false) rfl (t := false) rfl rfl rfl w) ?_
                    refine SOps.val (v := .bool false) rfl (wantN rfl) (fun _ => by kernel_rfl) ?_
                    refine SOps.off rfl (wantX (c := false) rfl rfl rfl rfl) ?_
                    refine SOps.off rfl (wantX (c := false) rfl rfl rfl rfl) ?_
                    refine SOps.off rfl (wantX (c := false) rfl rfl rfl rfl) ?_
                    refine SOps.off rfl (wantX (c := false) rfl rfl rfl rfl) ?_
                    refine SOps.off rfl (wantX (c := false) rfl rfl rfl rfl) ?_
                    refine SOps.off rfl (wantX (c := false) rfl rfl rfl rfl) ?_
                    refine SOps.val (v := .bool false) rfl (wantN rfl) (fun w => ev_pickF (v := .bool false) rfl (t := false) rfl rfl rfl w) ?_
                    refine SOps.val (v := .bool false) rfl (wantN rfl) (fun _ => by kernel_rfl) ?_
                    refine SOps.off rfl (wantX (c := false) rfl rfl rfl rfl) ?_
                    refine SOps.off rfl (wantX (c := false) rfl rfl rfl rfl) ?_
                    refine SOps.val (v := .bool false) rfl (wantN rfl) (fun w => ev_pickF (v := .bool false) rfl (t := false) rfl rfl rfl w) ?_
                    refine SOps.val (v := .bool false) rfl (wantN rfl) (fun _ => by kernel_rfl) ?_
                    refine SOps.off rfl (wantX (c := false) rfl rfl rfl rfl) ?_
                    refine SOps.off rfl (wantX (c := false) rfl rfl rfl rfl) ?_
                    refine SOps.off rfl (wantX (c := false) rfl rfl rfl rfl) ?_
                    refine SOps.off rfl (wantX (c := false) rfl rfl rfl rfl) ?_
                    refine SOps.val (v := .bool false) rfl (wantN rfl) (fun w => ev_pickF (v := .bool false) rfl (t := false) rfl rfl rfl w) ?_
                    refine SOps.val (v := .bool false) rfl (wantN rfl) (fun _ => by kernel_rfl) ?_
                    refine SOps.off rfl (wantX (c := false) rfl rfl rfl rfl) ?_
                    refine SOps.off rfl (wantX (c := false) rfl rfl rfl rfl) ?_
                    refine SOps.off rfl (wantX (c := false) rfl rfl rfl rfl) ?_
                    refine SOps.val (v := .bool false) rfl (wantN rfl) (fun w => ev_pickF (v := .bool false) rfl (t := false) rfl rfl rfl w) ?_
                    refine SOps.val (v := .bool false) rfl (wantN rfl) (fun _ => by kernel_rfl) ?_
                    refine SOps.nil ?_
                    obtain ⟨Hr, hr, h⟩ := h
                    exact SW.ret (retQ.mk (.bool false) (res1 rfl rfl) hr ⟨false, rfl, h⟩)
                · replace h := h.2 c61
                  have dc61 : (x59 == 1) = false := (beq_eq_false_iff_ne.mpr c61)
                  refine SOps.off rfl (wantX (c := (x59 == 1)) rfl rfl rfl dc61) ?_
                  refine SOps.off rfl (wantX (c := (x59 == 1)) rfl rfl rfl dc61) ?_
                  refine SOps.off rfl (wantX (c := (x59 == 1)) rfl rfl rfl dc61) ?_
                  refine SOps.off rfl (wantX (c := (x59 == 1)) rfl rfl rfl dc61) ?_
                  refine SOps.off rfl (wantX (c := (x59 == 1)) rfl rfl rfl dc61) ?_
                  refine SOps.off rfl (wantX (c := (x59 == 1)) rfl rfl rfl dc61) ?_
                  refine SOps.val (v := .bool false) rfl (wantN rfl) (fun w => ev_pickF (v := .bool false) rfl (t := (x59 == 1)) rfl dc61 rfl w) ?_
                  refine SOps.val (v := .bool false) rfl (wantN rfl) (fun _ => by kernel_rfl) ?_
                  refine SOps.off rfl (wantX (c := false) rfl rfl rfl rfl) ?_
                  refine SOps.off rfl (wantX (c := false) rfl rfl rfl rfl) ?_
                  refine SOps.off rfl (wantX (c := false) rfl rfl rfl rfl) ?_
                  refine SOps.off rfl (wantX (c := false) rfl rfl rfl rfl) ?_
                  refine SOps.off rfl (wantX (c := false) rfl rfl rfl rfl) ?_
                  refine SOps.val (v := .bool false) rfl (wantN rfl) (fun w => ev_pickF (v := .bool false) rfl (t := false) rfl rfl rfl w) ?_
                  refine SOps.val (v := .bool false) rfl (wantN rfl) (fun _ => by kernel_rfl) ?_
                  refine SOps.off rfl (wantX (c := false) rfl rfl rfl rfl) ?_
                  refine SOps.off rfl (wantX (c := false) rfl rfl rfl rfl) ?_
                  refine SOps.off rfl (wantX (c := false) rfl rfl rfl rfl) ?_
                  refine SOps.off rfl (wantX (c := false) rfl rfl rfl rfl) ?_
                  refine SOps.off rfl (wantX (c := false) rfl rfl rfl rfl) ?_
                  refine SOps.val (v := .bool false) rfl (wantN rfl) (fun w => ev_pickF (v := .bool false) rfl (t := false) rfl rfl rfl w) ?_
                  refine SOps.val (v := .bool false) rfl (wantN rfl) (fun _ => by kernel_rfl) ?_
                  refine SOps.off rfl (wantX (c := false) rfl rfl rfl rfl) ?_
                  refine SOps.off rfl (wantX (c := false) rfl rfl rfl rfl) ?_
                  refine SOps.off rfl (wantX (c := false) rfl rfl rfl rfl) ?_
                  refine SOps.val (v := .bool false) rfl (wantN rfl) (fun w => ev_pickF (v := .bool false) rfl (t := false) rfl rfl rfl w) ?_
                  refine SOps.val (v := .bool false) rfl (wantN rfl) (fun _ => by kernel_rfl) ?_
                  refine SOps.off rfl (wantX (c := false) rfl rfl rfl rfl) ?_
                  refine SOps.off rfl (wantX (c := false) rfl rfl rfl rfl) ?_
                  refine SOps.val (v := .bool false) rfl (wantN rfl) (fun w => ev_pickF (v := .bool false) rfl (t := false) rfl rfl rfl w) ?_
                  refine SOps.val (v := .bool false) rfl (wantN rfl) (fun _ => by kernel_rfl) ?_
                  refine SOps.off rfl (wantX (c := false) rfl rfl rfl rfl) ?_
                  refine SOps.off rfl (wantX (c := false) rfl rfl rfl rfl) ?_
                  refine SOps.off rfl (wantX (c := false) rfl rfl rfl rfl) ?_
                  refine SOps.off rfl (wantX (c := false) rfl rfl rfl rfl) ?_
                  refine SOps.off rfl (wantX (c := false) rfl rfl rfl rfl) ?_
                  refine SOps.off rfl (wantX (c := false) rfl rfl rfl rfl) ?_
                  refine SOps.val (v := .bool false) rfl (wantN rfl) (fun w => ev_pickF (v := .bool false) rfl (t := false) rfl rfl rfl w) ?_
                  refine SOps.val (v := .bool false) rfl (wantN rfl) (fun _ => by kernel_rfl) ?_
                  refine SOps.off rfl (wantX (c := false) rfl rfl rfl rfl) ?_
                  refine SOps.off rfl (wantX (c := false) rfl rfl rfl rfl) ?_
                  refine SOps.val (v := .bool false) rfl (wantN rfl) (fun w => ev_pickF (v := .bool false) rfl (t := false) rfl rfl rfl w) ?_
                  refine SOps.val (v := .bool false) rfl (wantN rfl) (fun _ => by kernel_rfl) ?_
                  refine SOps.off rfl (wantX (c := false) rfl rfl rfl rfl) ?_
                  refine SOps.off rfl (wantX (c := false) rfl rfl rfl rfl) ?_
                  refine SOps.off rfl (wantX (c := false) rfl rfl rfl rfl) ?_
                  refine SOps.off rfl (wantX (c := false) rfl rfl rfl rfl) ?_
                  refine SOps.val (v := .bool false) rfl (wantN rfl) (fun w => ev_pickF (v := .bool false) rfl (t := false) rfl rfl rfl w) ?_
                  refine SOps.val (v := .bool false) rfl (wantN rfl) (fun _ => by kernel_rfl) ?_
                  refine SOps.off rfl (wantX (c := false) rfl rfl rfl rfl) ?_
                  refine SOps.off rfl (wantX (c := false) rfl rfl rfl rfl) ?_
                  refine SOps.off rfl (wantX (c := false) rfl rfl rfl rfl) ?_
                  refine SOps.val (v := .bool false) rfl (wantN rfl) (fun w => ev_pickF (v := .bool false) rfl (t := false) rfl rfl rfl w) ?_
                  refine SOps.val (v := .bool false) rfl (wantN rfl) (fun _ => by kernel_rfl) ?_
                  refine SOps.nil ?_
                  obtain ⟨Hr, hr, h⟩ := h
                  exact SW.ret (retQ.mk (.bool false) (res1 rfl rfl) hr ⟨false, rfl, h⟩)
              · replace h := h.2 c56
                have dc56 : (x54 == 1) = false := (beq_eq_false_iff_ne.mpr c56)
                refine SOps.off rfl (wantX (c := (x54 == 1)) rfl rfl rfl dc56) ?_
                refine SOps.off rfl (wantX (c := (x54 == 1)) rfl rfl rfl dc56) ?_
                refine SOps.off rfl (wantX (c := (x54 == 1)) rfl rfl rfl dc56) ?_
                refine SOps.off rfl (wantX (c := (x54 == 1)) rfl rfl rfl dc56) ?_
                refine SOps.off rfl (wantX (c := (x54 == 1)) rfl rfl rfl dc56) ?_
                refine SOps.off rfl (wantX (c := (x54 == 1)) rfl rfl rfl dc56) ?_
                refine SOps.val (v := .bool false) rfl (wantN rfl) (fun w => ev_pickF (v := .bool false) rfl (t := (x54 == 1)) rfl dc56 rfl w) ?_
                refine SOps.val (v := .bool false) rfl (wantN rfl) (fun _ => by kernel_rfl) ?_
                refine SOps.off rfl (wantX (c := false) rfl rfl rfl rfl) ?_
                refine SOps.off rfl (wantX (c := false) rfl rfl rfl rfl) ?_
                refine SOps.off rfl (wantX (c := false) rfl rfl rfl rfl) ?_
                refine SOps.off rfl (wantX (c := false) rfl rfl rfl rfl) ?_
                refine SOps.off rfl (wantX (c := false) rfl rfl rfl rfl) ?_
                refine SOps.off rfl (wantX (c := false) rfl rfl rfl rfl) ?_
                refine SOps.val (v := .bool false) rfl (wantN rfl) (fun w => ev_pickF (v := .bool false) rfl (t := false) rfl rfl rfl w) ?_
                refine SOps.val (v := .bool false) rfl (wantN rfl) (fun _ => by kernel_rfl) ?_
                refine SOps.off rfl (wantX (c := false) rfl rfl rfl rfl) ?_
                refine SOps.off rfl (wantX (c := false) rfl rfl rfl rfl) ?_
                refine SOps.off rfl (wantX (c := false) rfl rfl rfl rfl) ?_
                refine SOps.off rfl (wantX (c := false) rfl rfl rfl rfl) ?_
                refine SOps.off rfl (wantX (c := false) rfl rfl rfl rfl) ?_
                refine SOps.val (v := .bool false) rfl (wantN rfl) (fun w => ev_pickF (v := .bool false) rfl (t := false) rfl rfl rfl w) ?_
                refine SOps.val (v := .bool false) rfl (wantN rfl) (fun _ => by kernel_rfl) ?_
                refine SOps.off rfl (wantX (c := false) rfl rfl rfl rfl) ?_
                refine SOps.off rfl (wantX (c := false) rfl rfl rfl rfl) ?_
                refine SOps.off rfl (wantX (c := false) rfl rfl rfl rfl) ?_
                refine SOps.off rfl (wantX (c := false) rfl rfl rfl rfl) ?_
                refine SOps.off rfl (wantX (c := false) rfl rfl rfl rfl) ?_
                refine SOps.val (v := .bool false) rfl (wantN rfl) (fun w => ev_pickF (v := .bool false) rfl (t := false) rfl rfl rfl w) ?_
                refine SOps.val (v := .bool false) rfl (wantN rfl) (fun _ => by kernel_rfl) ?_
                refine SOps.off rfl (wantX (c := false) rfl rfl rfl rfl) ?_
                refine SOps.off rfl (wantX (c := false) rfl rfl rfl rfl) ?_
                refine SOps.off rfl (wantX (c := false) rfl rfl rfl rfl) ?_
                refine SOps.val (v := .bool false) rfl (wantN rfl) (fun w => ev_pickF (v := .bool false) rfl (t := false) rfl rfl rfl w) ?_
                refine SOps.val (v := .bool false) rfl (wantN rfl) (fun _ => by kernel_rfl) ?_
                refine SOps.off rfl (wantX (c := false) rfl rfl rfl rfl) ?_
                refine SOps.off rfl (wantX (c := false) rfl rfl rfl rfl) ?_
                refine SOps.val (v := .bool false) rfl (wantN rfl) (fun w => ev_pickF (v := .bool false) rfl (t := false) rfl rfl rfl w) ?_
                refine SOps.val (v := .bool false) rfl (wantN rfl) (fun _ => by kernel_rfl) ?_
                refine SOps.off rfl (wantX (c := false) rfl rfl rfl rfl) ?_
                refine SOps.off rfl (wantX (c := false) rfl rfl rfl rfl) ?_
                refine SOps.off rfl (wantX (c := false) rfl rfl rfl rfl) ?_
                refine SOps.off rfl (wantX (c := false) rfl rfl rfl rfl) ?_
                refine SOps.off rfl (wantX (c := false) rfl rfl rfl rfl) ?_
                refine SOps.off rfl (wantX (c := false) rfl rfl rfl rfl) ?_
                refine SOps.val (v := .bool false) rfl (wantN rfl) (fun w => ev_pickF (v := .bool false) rfl (t := false) rfl rfl rfl w) ?_
                refine SOps.val (v := .bool false) rfl (wantN rfl) (fun _ => by kernel_rfl) ?_
                refine SOps.off rfl (wantX (c := false) rfl rfl rfl rfl) ?_
                refine SOps.off rfl (wantX (c := false) rfl rfl rfl rfl) ?_
                refine SOps.val (v := .bool false) rfl (wantN rfl) (fun w => ev_pickF (v := .bool false) rfl (t := false) rfl rfl rfl w) ?_
                refine SOps.val (v := .bool false) rfl (wantN rfl) (fun _ => by kernel_rfl) ?_
                refine SOps.off rfl (wantX (c := false) rfl rfl rfl rfl) ?_
                refine SOps.off rfl (wantX (c := false) rfl rfl rfl rfl) ?_
                refine SOps.off rfl (wantX (c := false) rfl rfl rfl rfl) ?_
                refine SOps.off rfl (wantX (c := false) rfl rfl rfl rfl) ?_
                refine SOps.val (v := .bool false) rfl (wantN rfl) (fun w => ev_pickF (v := .bool false) rfl (t := false) rfl rfl rfl w) ?_
                refine SOps.val (v := .bool false) rfl (wantN rfl) (fun _ => by kernel_rfl) ?_
                refine SOps.off rfl (wantX (c := false) rfl rfl rfl rfl) ?_
                refine SOps.off rfl (wantX (c := false) rfl rfl rfl rfl) ?_
                refine SOps.off rfl (wantX (c := false) rfl rfl rfl rfl) ?_
                refine SOps.val (v := .bool false) rfl (wantN rfl) (fun w => ev_pickF (v := .bool false) rfl (t := false) rfl rfl rfl w) ?_
                refine SOps.val (v := .bool false) rfl (wantN rfl) (fun _ => by kernel_rfl) ?_
                refine SOps.nil ?_
                obtain ⟨Hr, hr, h⟩ := h
                exact SW.ret (retQ.mk (.bool false) (res1 rfl rfl) hr ⟨false, rfl, h⟩)
            · replace h := h.2 c53
              have dc53 : (x51 == 1) = false := (beq_eq_false_iff_ne.mpr c53)
              refine SOps.off rfl (wantX (c := (x51 == 1)) rfl rfl rfl dc53) ?_
              refine SOps.off rfl (wantX (c := (x51 == 1)) rfl rfl rfl dc53) ?_
              refine SOps.off rfl (wantX (c := (x51 == 1)) rfl rfl rfl dc53) ?_
              refine SOps.off rfl (wantX (c := (x51 == 1)) rfl rfl rfl dc53) ?_
              refine SOps.val (v := .bool false) rfl (wantN rfl) (fun w => ev_pickF (v := .bool false) rfl (t := (x51 == 1)) rfl dc53 rfl w) ?_
              refine SOps.val (v := .bool false) rfl (wantN rfl) (fun _ => by kernel_rfl) ?_
              refine SOps.off rfl (wantX (c := false) rfl rfl rfl rfl) ?_
              refine SOps.off rfl (wantX (c := false) rfl rfl rfl rfl) ?_
              refine SOps.off rfl (wantX (c := false) rfl rfl rfl rfl) ?_
              refine SOps.off rfl (wantX (c := false) rfl rfl rfl rfl) ?_
              refine SOps.off rfl (wantX (c := false) rfl rfl rfl rfl) ?_
              refine SOps.off rfl (wantX (c := false) rfl rfl rfl rfl) ?_
              refine SOps.val (v := .bool false) rfl (wantN rfl) (fun w => ev_pickF (v := .bool false) rfl (t := false) rfl rfl rfl w) ?_
              refine SOps.val (v := .bool false) rfl (wantN rfl) (fun _ => by kernel_rfl) ?_
              refine SOps.off rfl (wantX (c := false) rfl rfl rfl rfl) ?_
              refine SOps.off rfl (wantX (c := false) rfl rfl rfl rfl) ?_
              refine SOps.off rfl (wantX (c := false) rfl rfl rfl rfl) ?_
              refine SOps.off rfl (wantX (c := false) rfl rfl rfl rfl) ?_
              refine SOps.off rfl (wantX (c := false) rfl rfl rfl rfl) ?_
              refine SOps.off rfl (wantX (c := false) rfl rfl rfl rfl) ?_
              refine SOps.val (v := .bool false) rfl (wantN rfl) (fun w => ev_pickF (v := .bool false) rfl (t := false) rfl rfl rfl w) ?_
              refine SOps.val (v := .bool false) rfl (wantN rfl) (fun _ => by kernel_rfl) ?_
              refine SOps.off rfl (wantX (c := false) rfl rfl rfl rfl) ?_
              refine SOps.off rfl (wantX (c := false) rfl rfl rfl rfl) ?_
              refine SOps.off rfl (wantX (c := false) rfl rfl rfl rfl) ?_
              refine SOps.off rfl (wantX (c := false) rfl rfl rfl rfl) ?_
              refine SOps.off rfl (wantX (c := false) rfl rfl rfl rfl) ?_
              refine SOps.val (v := .bool false) rfl (wantN rfl) (fun w => ev_pickF (v := .bool false) rfl (t := false) rfl rfl rfl w) ?_
              refine SOps.val (v := .bool false) rfl (wantN rfl) (fun _ => by kernel_rfl) ?_
              refine SOps.off rfl (wantX (c := false) rfl rfl rfl rfl) ?_
              refine SOps.off rfl (wantX (c := false) rfl rfl rfl rfl) ?_
              refine SOps.off rfl (wantX (c := false) rfl rfl rfl rfl) ?_
              refine SOps.off rfl (wantX (c := false) rfl rfl rfl rfl) ?_
              refine SOps.off rfl (wantX (c := false) rfl rfl rfl rfl) ?_
              refine SOps.val (v := .bool false) rfl (wantN rfl) (fun w => ev_pickF (v := .bool false) rfl (t := false) rfl rfl rfl w) ?_
              refine SOps.val (v := .bool false) rfl (wantN rfl) (fun _ => by kernel_rfl) ?_
              refine SOps.off rfl (wantX (c := false) rfl rfl rfl rfl) ?_
              refine SOps.off rfl (wantX (c := false) rfl rfl rfl rfl) ?_
              refine SOps.off rfl (wantX (c := false) rfl rfl rfl rfl) ?_
              refine SOps.val (v := .bool false) rfl (wantN rfl) (fun w => ev_pickF (v := .bool false) rfl (t := false) rfl rfl rfl w) ?_
              refine SOps.val (v := .bool false) rfl (wantN rfl) (fun _ => by kernel_rfl) ?_
              refine SOps.off rfl (wantX (c := false) rfl rfl rfl rfl) ?_
              refine SOps.off rfl (wantX (c := false) rfl rfl rfl rfl) ?_
              refine SOps.val (v := .bool false) rfl (wantN rfl) (fun w => ev_pickF (v := .bool false) rfl (t := false) rfl rfl rfl w) ?_
              refine SOps.val (v := .bool false) rfl (wantN rfl) (fun _ => by kernel_rfl) ?_
              refine SOps.off rfl (wantX (c := false) rfl rfl rfl rfl) ?_
              refine SOps.off rfl (wantX (c := false) rfl rfl rfl rfl) ?_
              refine SOps.off rfl (wantX (c := false) rfl rfl rfl rfl) ?_
              refine SOps.off rfl (wantX (c := false) rfl rfl rfl rfl) ?_
              refine SOps.off rfl (wantX (c := false) rfl rfl rfl rfl) ?_
              refine SOps.off rfl (wantX (c := false) rfl rfl rfl rfl) ?_
              refine SOps.val (v := .bool false) rfl (wantN rfl) (fun w => ev_pickF (v := .bool false) rfl (t := false) rfl rfl rfl w) ?_
              refine SOps.val (v := .bool false) rfl (wantN rfl) (fun _ => by kernel_rfl) ?_
              refine SOps.off rfl (wantX (c := false) rfl rfl rfl rfl) ?_
              refine SOps.off rfl (wantX (c := false) rfl rfl rfl rfl) ?_
              refine SOps.val (v := .bool false) rfl (wantN rfl) (fun w => ev_pickF (v := .bool false) rfl (t := false) rfl rfl rfl w) ?_
              refine SOps.val (v := .bool false) rfl (wantN rfl) (fun _ => by kernel_rfl) ?_
              refine SOps.off rfl (wantX (c := false) rfl rfl rfl rfl) ?_
              refine SOps.off rfl (wantX (c := false) rfl rfl rfl rfl) ?_
              refine SOps.off rfl (wantX (c := false) rfl rfl rfl rfl) ?_
              refine SOps.off rfl (wantX (c := false) rfl rfl rfl rfl) ?_
              refine SOps.val (v := .bool false) rfl (wantN rfl) (fun w => ev_pickF (v := .bool false) rfl (t := false) rfl rfl rfl w) ?_
              refine SOps.val (v := .bool false) rfl (wantN rfl) (fun _ => by kernel_rfl) ?_
              refine SOps.off rfl (wantX (c := false) rfl rfl rfl rfl) ?_
              refine SOps.off rfl (wantX (c := false) rfl rfl rfl rfl) ?_
              refine SOps.off rfl (wantX (c := false) rfl rfl rfl rfl) ?_
              refine SOps.val (v := .bool false) rfl (wantN rfl) (fun w => ev_pickF (v := .bool false) rfl (t := false) rfl rfl rfl w) ?_
              refine SOps.val (v := .bool false) rfl (wantN rfl) (fun _ => by kernel_rfl) ?_
              refine SOps.nil ?_
              obtain ⟨Hr, hr, h⟩ := h
              exact SW.ret (retQ.mk (.bool false) (res1 rfl rfl) hr ⟨false, rfl, h⟩)
          · skip
            refine SW.blockJ (fun fr H => ∃ (g : Fr) (x26 : Int) (s27 : ByteArray) (p28 : Option (Nat × Nat)), fr = g.upds [(1, (.int .i64 x26 : Value)), (2, (.string s27 : Value)), (7, pv p28)] ∧ ladinglaw14_DiskBounds.j2 F K x26 s27 p28 H) ?_ ?_
            · clear h
              rintro fr H ⟨g, x26, s27, p28, rfl, h⟩
              unfold ladinglaw14_DiskBounds.j2 at h
              exact ⟨_, x26, s27, p28, Fr.upds_self _ _ ⟨rfl, rfl, rfl, trivial⟩, h⟩
            · skip
              refine SW.seq ?_
              refine SW.region ?_
              refine SOps.val (v := .bool (decide (x2 < (imin (imax x1 0) 4096)))) rfl (wantN rfl) (fun _ => by kernel_rfl) ?_
              refine SOps.val (v := .bool (!(decide (x2 < (imin (imax x1 0) 4096))))) rfl (wantN rfl) (fun _ => by kernel_rfl) ?_
              refine SOps.val (v := .bool (!(decide (x2 < (imin (imax x1 0) 4096))))) rfl (wantN rfl) (fun _ => by kernel_rfl) ?_
              refine SOps.nil ?_
              by_cases c19 : (x2 < (imin (imax x1 0) 4096))
              · replace h := h.1 c19
                have dc19 : (decide (x2 < (imin (imax x1 0) 4096))) = true := (decide_eq_true c19)
                refine SW.cond_f (t := !(decide (x2 < (imin (imax x1 0) 4096)))) rfl (not_t dc19) ?_
                refine SW.seq ?_
                refine SW.region ?_
                refine SOps.val (v := .string s3) rfl (wantN rfl) (fun _ => by kernel_rfl) ?_
                refine SOps.val (v := .int .i64 (s3.size : Int)) rfl (wantN rfl) (fun _ => by kernel_rfl) ?_
                refine SOps.val (v := .bool (decide ((s3.size : Int) > 64))) rfl (wantN rfl) (fun _ => by kernel_rfl) ?_
                refine SOps.val (v := .bool (decide ((s3.size : Int) > 64))) rfl (wantN rfl) (fun _ => by kernel_rfl) ?_
                refine SOps.nil ?_
                by_cases c20 : (s3.size : Int) > 64
                · replace h := h.1 c20
                  have dc20 : (decide ((s3.size : Int) > 64)) = true := (decide_eq_true c20)
                  refine SW.cond_t (t := decide ((s3.size : Int) > 64)) rfl dc20 ?_
                  refine SW.seq ?_
                  refine SW.region ?_
                  refine SOps.val (v := errV e14) rfl (wantN rfl) (fun _ => by kernel_rfl) ?_
                  refine SOps.enter rfl (wantN rfl) (fun _ => by kernel_rfl) (api_Code.sound F e14 H18 _ h) ?_
                  clear h
                  rintro v H22 ⟨x21, rfl, h⟩
                  refine SOps.val (v := .bool (x21 != 6)) rfl (wantN rfl) (fun _ => by kernel_rfl) ?_
                  refine SOps.val (v := .bool (x21 != 6)) rfl (wantN rfl) (fun _ => by kernel_rfl) ?_
                  by_cases c23 : x21 ≠ 6
                  · replace h := h.1 c23
                    have dc23 : (x21 != 6) = true := (bne_iff_ne.mpr c23)
                    refine SOps.off rfl (wantX (c := (x21 != 6)) rfl rfl rfl dc23) ?_
                    refine SOps.off rfl (wantX (c := (x21 != 6)) rfl rfl rfl dc23) ?_
                    refine SOps.val (v := .bool true) rfl (wantN rfl) (fun w => ev_pickT (v := .bool true) rfl (t := (x21 != 6)) rfl dc23 rfl w) ?_
                    refine SOps.val (v := .bool true) rfl (wantN rfl) (fun _ => by kernel_rfl) ?_
                    refine SOps.off rfl (wantX (c := true) rfl rfl rfl rfl) ?_
                    refine SOps.off rfl (wantX (c := true) rfl rfl rfl rfl) ?_
                    refine SOps.val (v := .bool true) rfl (wantN rfl) (fun w => ev_pickT (v := .bool true) rfl (t := true) rfl rfl rfl w) ?_
                    refine SOps.nil ?_
                    refine SW.cond_t (t := true) rfl rfl ?_
                    refine SW.seq ?_
                    refine SW.region ?_
                    refine SOps.val (v := .bool false) rfl (wantN rfl) (fun _ => by kernel_rfl) ?_
                    refine SOps.nil ?_
                    obtain ⟨Hr, hr, h⟩ := h
                    exact SW.ret (retQ.mk (.bool false) (res1 rfl rfl) hr ⟨false, rfl, h⟩)
                  · replace h := h.2 c23
                    have dc23 : (x21 != 6) = false := (by simpa using c23)
                    refine SOps.val (v := errV e17) rfl (wantY (c := (x21 != 6)) rfl rfl rfl dc23) (fun _ => by kernel_rfl) ?_
                    rcases e17 with _ | v24
                    · replace h := h.1 rfl
                      refine SOps.val (v := .bool false) rfl (wantY (c := (x21 != 6)) rfl rfl rfl dc23) (fun w => ev_errNe (e := none) rfl Tryd.underlying28 rfl rfl w) ?_
                      refine SOps.val (v := .bool false) rfl (wantN rfl) (fun w => ev_pickF (v := .bool false) rfl (t := (x21 != 6)) rfl dc23 rfl w) ?_
                      refine SOps.val (v := .bool false) rfl (wantN rfl) (fun _ => by kernel_rfl) ?_
                      refine SOps.val (v := .string s16) rfl (wantY (c := false) rfl rfl rfl rfl) (fun _ => by kernel_rfl) ?_
                      refine SOps.val (v := .bool (!decide (s16 = ByteArray.empty))) rfl (wantY (c := false) rfl rfl rfl rfl) (fun w => ev_neS rfl rfl rfl w) ?_
                      refine SOps.val (v := .bool (!decide (s16 = ByteArray.empty))) rfl (wantN rfl) (fun w => ev_pickF (v := .bool (!decide (s16 = ByteArray.empty))) rfl (t := false) rfl rfl rfl w) ?_
                      refine SOps.nil ?_
                      by_cases c25 : (s16 = ByteArray.empty)
                      · replace h := h.1 c25
                        have dc25 : (decide (s16 = ByteArray.empty)) = true := (decide_eq_true c25)
                        refine SW.cond_f (t := !decide (s16 = ByteArray.empty)) rfl (not_t dc25) ?_
                        refine SW.skip ?_
                        exact ⟨_, x2, s3, p8, Fr.upds_self _ _ ⟨rfl, rfl, rfl, trivial⟩, h⟩
                      · replace h := h.2 c25
                        have dc25 : (decide (s16 = ByteArray.empty)) = false := (decide_eq_false c25)
                        refine SW.cond_t (t := !decide (s16 = ByteArray.empty)) rfl (not_f dc25) ?_
                        refine SW.seq ?_
                        refine SW.region ?_
                        refine SOps.val (v := .bool false) rfl (wantN rfl) (fun _ => by kernel_rfl) ?_
                        refine SOps.nil ?_
                        obtain ⟨Hr, hr, h⟩ := h
                        exact SW.ret (retQ.mk (.bool false) (res1 rfl rfl) hr ⟨false, rfl, h⟩)
                    · replace h := h.2 v24 rfl
                      refine SOps.val (v := .bool true) rfl (wantY (c := (x21 != 6)) rfl rfl rfl dc23) (fun w => ev_errNe (e := some v24) rfl Tryd.underlying28 rfl rfl w) ?_
                      refine SOps.val (v := .bool true) rfl (wantN rfl) (fun w => ev_pickF (v := .bool true) rfl (t := (x21 != 6)) rfl dc23 rfl w) ?_
                      refine SOps.val (v := .bool true) rfl (wantN rfl) (fun _ => by kernel_rfl) ?_
                      refine SOps.off rfl (wantX (c := true) rfl rfl rfl rfl) ?_
                      refine SOps.off rfl (wantX (c := true) rfl rfl rfl rfl) ?_
                      refine SOps.val (v := .bool true) rfl (wantN rfl) (fun w => ev_pickT (v := .bool true) rfl (t := true) rfl rfl rfl w) ?_
                      refine SOps.nil ?_
                      refine SW.cond_t (t := true) rfl rfl ?_
                      refine SW.seq ?_
                      refine SW.region ?_
                      refine SOps.val (v := .bool false) rfl (wantN rfl) (fun _ => by kernel_rfl) ?_
                      refine SOps.nil ?_
                      obtain ⟨Hr, hr, h⟩ := h
                      exact SW.ret (retQ.mk (.bool false) (res1 rfl rfl) hr ⟨false, rfl, h⟩)
                · replace h := h.2 c20
                  have dc20 : (decide ((s3.size : Int) > 64)) = false := (decide_eq_false c20)
                  refine SW.cond_f (t := decide ((s3.size : Int) > 64)) rfl dc20 ?_
                  refine SW.seq ?_
                  refine SW.region ?_
                  refine SOps.val (v := errV e14) rfl (wantN rfl) (fun _ => by kernel_rfl) ?_
                  rcases e14 with _ | v29
                  · replace h := h.1 rfl
                    refine SOps.val (v := .bool false) rfl (wantN rfl) (fun w => ev_errNe (e := none) rfl Tryd.underlying28 rfl rfl w) ?_
                    refine SOps.val (v := .bool false) rfl (wantN rfl) (fun _ => by kernel_rfl) ?_
                    refine SOps.val (v := errV e17) rfl (wantY (c := false) rfl rfl rfl rfl) (fun _ => by kernel_rfl) ?_
                    rcases e17 with _ | v30
                    · replace h := h.1 rfl
                      refine SOps.val (v := .bool false) rfl (wantY (c := false) rfl rfl rfl rfl) (fun w => ev_errNe (e := none) rfl Tryd.underlying28 rfl rfl w) ?_
                      refine SOps.val (v := .bool false) rfl (wantN rfl) (fun w => ev_pickF (v := .bool false) rfl (t := false) rfl rfl rfl w) ?_
                      refine SOps.val (v := .bool false) rfl (wantN rfl) (fun _ => by kernel_rfl) ?_
                      refine SOps.val (v := .string s16) rfl (wantY (c := false) rfl rfl rfl rfl) (fun _ => by kernel_rfl) ?_
                      refine SOps.val (v := .string s3) rfl (wantY (c := false) rfl rfl rfl rfl) (fun _ => by kernel_rfl) ?_
                      refine SOps.val (v := .bool (!decide (s16 = s3))) rfl (wantY (c := false) rfl rfl rfl rfl) (fun w => ev_neS rfl rfl rfl w) ?_
                      refine SOps.val (v := .bool (!decide (s16 = s3))) rfl (wantN rfl) (fun w => ev_pickF (v := .bool (!decide (s16 = s3))) rfl (t := false) rfl rfl rfl w) ?_
                      refine SOps.val (v := .bool (!decide (s16 = s3))) rfl (wantN rfl) (fun _ => by kernel_rfl) ?_
                      refine SOps.nil ?_
                      by_cases c31 : (s16 = s3)
                      · replace h := h.1 c31
                        have dc31 : (decide (s16 = s3)) = true := (decide_eq_true c31)
                        refine SW.cond_f (t := !decide (s16 = s3)) rfl (not_t dc31) ?_
                        refine SW.skip ?_
                        exact ⟨_, x2, s3, p8, Fr.upds_self _ _ ⟨rfl, rfl, rfl, trivial⟩, h⟩
                      · replace h := h.2 c31
                        have dc31 : (decide (s16 = s3)) = false := (decide_eq_false c31)
                        refine SW.cond_t (t := !decide (s16 = s3)) rfl (not_f dc31) ?_
                        refine SW.seq ?_
                        refine SW.region ?_
                        refine SOps.val (v := .bool false) rfl (wantN rfl) (fun _ => by kernel_rfl) ?_
                        refine SOps.nil ?_
                        obtain ⟨Hr, hr, h⟩ := h
                        exact SW.ret (retQ.mk (.bool false) (res1 rfl rfl) hr ⟨false, rfl, h⟩)
                    · replace h := h.2 v30 rfl
                      refine SOps.val (v := .bool true) rfl (wantY (c := false) rfl rfl rfl rfl) (fun w => ev_errNe (e := some v30) rfl Tryd.underlying28 rfl rfl w) ?_
                      refine SOps.val (v := .bool true) rfl (wantN rfl) (fun w => ev_pickF (v := .bool true) rfl (t := false) rfl rfl rfl w) ?_
                      refine SOps.val (v := .bool true) rfl (wantN rfl) (fun _ => by kernel_rfl) ?_
                      refine SOps.off rfl (wantX (c := true) rfl rfl rfl rfl) ?_
                      refine SOps.off rfl (wantX (c := true) rfl rfl rfl rfl) ?_
                      refine SOps.off rfl (wantX (c := true) rfl rfl rfl rfl) ?_
                      refine SOps.val (v := .bool true) rfl (wantN rfl) (fun w => ev_pickT (v := .bool true) rfl (t := true) rfl rfl rfl w) ?_
                      refine SOps.val (v := .bool true) rfl (wantN rfl) (fun _ => by kernel_rfl) ?_
                      refine SOps.nil ?_
                      refine SW.cond_t (t := true) rfl rfl ?_
                      refine SW.seq ?_
                      refine SW.region ?_
                      refine SOps.val (v := .bool false) rfl (wantN rfl) (fun _ => by kernel_rfl) ?_
                      refine SOps.nil ?_
                      obtain ⟨Hr, hr, h⟩ := h
                      exact SW.ret (retQ.mk (.bool false) (res1 rfl rfl) hr ⟨false, rfl, h⟩)
                  · replace h := h.2 v29 rfl
                    refine SOps.val (v := .bool true) rfl (wantN rfl) (fun w => ev_errNe (e := some v29) rfl Tryd.underlying28 rfl rfl w) ?_
                    refine SOps.val (v := .bool true) rfl (wantN rfl) (fun _ => by kernel_rfl) ?_
                    refine SOps.off rfl (wantX (c := true) rfl rfl rfl rfl) ?_
                    refine SOps.off rfl (wantX (c := true) rfl rfl rfl rfl) ?_
                    refine SOps.val (v := .bool true) rfl (wantN rfl) (fun w => ev_pickT (v := .bool true) rfl (t := true) rfl rfl rfl w) ?_
                    refine SOps.val (v := .bool true) rfl (wantN rfl) (fun _ => by kernel_rfl) ?_
                    refine SOps.off rfl (wantX (c := true) rfl rfl rfl rfl) ?_
                    refine SOps.off rfl (wantX (c := true) rfl rfl rfl rfl) ?_
                    refine SOps.off rfl (wantX (c := true) rfl rfl rfl rfl) ?_
                    refine SOps.val (v := .bool true) rfl (wantN rfl) (fun w => ev_pickT (v := .bool true) rfl (t := true) rfl rfl rfl w) ?_
                    refine SOps.val (v := .bool true) rfl (wantN rfl) (fun _ => by kernel_rfl) ?_
                    refine SOps.nil ?_
                    refine SW.cond_t (t := true) rfl rfl ?_
                    refine SW.seq ?_
                    refine SW.region ?_
                    refine SOps.val (v := .bool false) rfl (wantN rfl) (fun _ => by kernel_rfl) ?_
                    refine SOps.nil ?_
                    obtain ⟨Hr, hr, h⟩ := h
                    exact SW.ret (retQ.mk (.bool false) (res1 rfl rfl) hr ⟨false, rfl, h⟩)
              · replace h := h.2 c19
                have dc19 : (decide (x2 < (imin (imax x1 0) 4096))) = false := (decide_eq_false c19)
                refine SW.cond_t (t := !(decide (x2 < (imin (imax x1 0) 4096)))) rfl (not_f dc19) ?_
                refine SW.seq ?_
                refine SW.region ?_
                refine SOps.val (v := errV e14) rfl (wantN rfl) (fun _ => by kernel_rfl) ?_
                refine SOps.enter rfl (wantN rfl) (fun _ => by kernel_rfl) (api_Code.sound F e14 H18 _ h) ?_
                clear h
                rintro v H33 ⟨x32, rfl, h⟩
                refine SOps.val (v := .bool (x32 != 2)) rfl (wantN rfl) (fun _ => by kernel_rfl) ?_
                refine SOps.val (v := .bool (x32 != 2)) rfl (wantN rfl) (fun _ => by kernel_rfl) ?_
                by_cases c34 : x32 ≠ 2
                · replace h := h.1 c34
                  have dc34 : (x32 != 2) = true := (bne_iff_ne.mpr c34)
                  refine SOps.off rfl (wantX (c := (x32 != 2)) rfl rfl rfl dc34) ?_
                  refine SOps.off rfl (wantX (c := (x32 != 2)) rfl rfl rfl dc34) ?_
                  refine SOps.off rfl (wantX (c := (x32 != 2)) rfl rfl rfl dc34) ?_
                  refine SOps.val (v := .bool true) rfl (wantN rfl) (fun w => ev_pickT (v := .bool true) rfl (t := (x32 != 2)) rfl dc34 rfl w) ?_
                  refine SOps.val (v := .bool true) rfl (wantN rfl) (fun _ => by kernel_rfl) ?_
                  refine SOps.off rfl (wantX (c := true) rfl rfl rfl rfl) ?_
                  refine SOps.off rfl (wantX (c := true) rfl rfl rfl rfl) ?_
                  refine SOps.val (v := .bool true) rfl (wantN rfl) (fun w => ev_pickT (v := .bool true) rfl (t := true) rfl rfl rfl w) ?_
                  refine SOps.nil ?_
                  refine SW.cond_t (t := true) rfl rfl ?_
                  refine SW.seq ?_
                  refine SW.region ?_
                  refine SOps.val (v := .bool false) rfl (wantN rfl) (fun _ => by kernel_rfl) ?_
                  refine SOps.nil ?_
                  obtain ⟨Hr, hr, h⟩ := h
                  exact SW.ret (retQ.mk (.bool false) (res1 rfl rfl) hr ⟨false, rfl, h⟩)
                · replace h := h.2 c34
                  have dc34 : (x32 != 2) = false := (by simpa using c34)
                  refine SOps.val (v := errV e17) rfl (wantY (c := (x32 != 2)) rfl rfl rfl dc34) (fun _ => by kernel_rfl) ?_
                  refine SOps.enter rfl (wantY (c := (x32 != 2)) rfl rfl rfl dc34) (fun _ => by kernel_rfl) (api_Code.sound F e17 H33 _ h) ?_
                  clear h
                  rintro v H36 ⟨x35, rfl, h⟩
                  refine SOps.val (v := .bool (x35 != 2)) rfl (wantY (c := (x32 != 2)) rfl rfl rfl dc34) (fun _ => by kernel_rfl) ?_
                  refine SOps.val (v := .bool (x35 != 2)) rfl (wantN rfl) (fun w => ev_pickF (v := .bool (x35 != 2)) rfl (t := (x32 != 2)) rfl dc34 rfl w) ?_
                  refine SOps.val (v := .bool (x35 != 2)) rfl (wantN rfl) (fun _ => by kernel_rfl) ?_
                  by_cases c37 : x35 ≠ 2
                  · replace h := h.1 c37
                    have dc37 : (x35 != 2) = true := (bne_iff_ne.mpr c37)
                    refine SOps.off rfl (wantX (c := (x35 != 2)) rfl rfl rfl dc37) ?_
                    refine SOps.off rfl (wantX (c := (x35 != 2)) rfl rfl rfl dc37) ?_
                    refine SOps.val (v := .bool true) rfl (wantN rfl) (fun w => ev_pickT (v := .bool true) rfl (t := (x35 != 2)) rfl dc37 rfl w) ?_
                    refine SOps.nil ?_
                    refine SW.cond_t (t := true) rfl rfl ?_
                    refine SW.seq ?_
                    refine SW.region ?_
                    refine SOps.val (v := .bool false) rfl (wantN rfl) (fun _ => by kernel_rfl) ?_
                    refine SOps.nil ?_
                    obtain ⟨Hr, hr, h⟩ := h
                    exact SW.ret (retQ.mk (.bool false) (res1 rfl rfl) hr ⟨false, rfl, h⟩)
                  · replace h := h.2 c37
                    have dc37 : (x35 != 2) = false := (by simpa using c37)
                    refine SOps.val (v := .string s16) rfl (wantY (c := (x35 != 2)) rfl rfl rfl dc37) (fun _ => by kernel_rfl) ?_
                    refine SOps.val (v := .bool (!decide (s16 = ByteArray.empty))) rfl (wantY (c := (x35 != 2)) rfl rfl rfl dc37) (fun w => ev_neS rfl rfl rfl w) ?_
                    refine SOps.val (v := .bool (!decide (s16 = ByteArray.empty))) rfl (wantN rfl) (fun w => ev_pickF (v := .bool (!decide (s16 = ByteArray.empty))) rfl (t := (x35 != 2)) rfl dc37 rfl w) ?_
                    refine SOps.nil ?_
                    by_cases c38 : (s16 = ByteArray.empty)
                    · replace h := h.1 c38
                      have dc38 : (decide (s16 = ByteArray.empty)) = true := (decide_eq_true c38)
                      refine SW.cond_f (t := !decide (s16 = ByteArray.empty)) rfl (not_t dc38) ?_
                      refine SW.skip ?_
                      exact ⟨_, x2, s3, p8, Fr.upds_self _ _ ⟨rfl, rfl, rfl, trivial⟩, h⟩
                    · replace h := h.2 c38
                      have dc38 : (decide (s16 = ByteArray.empty)) = false := (decide_eq_false c38)
                      refine SW.cond_t (t := !decide (s16 = ByteArray.empty)) rfl (not_f dc38) ?_
                      refine SW.seq ?_
                      refine SW.region ?_
                      refine SOps.val (v := .bool false) rfl (wantN rfl) (fun _ => by kernel_rfl) ?_
                      refine SOps.nil ?_
                      obtain ⟨Hr, hr, h⟩ := h
                      exact SW.ret (retQ.mk (.bool false) (res1 rfl rfl) hr ⟨false, rfl, h⟩)
        · replace h := h.2 c13
          have dc13 : (decide (x2 ≥ 0)) = false := (decide_eq_false c13)
          refine SOps.off rfl (wantX (c := decide (x2 ≥ 0)) rfl rfl rfl dc13) ?_
          refine SOps.off rfl (wantX (c := decide (x2 ≥ 0)) rfl rfl rfl dc13) ?_
          refine SOps.off rfl (wantX (c := decide (x2 ≥ 0)) rfl rfl rfl dc13) ?_
          refine SOps.val (v := .bool false) rfl (wantN rfl) (fun w => ev_pickF (v := .bool false) rfl (t := decide (x2 ≥ 0)) rfl dc13 rfl w) ?_
          refine SOps.val (v := .bool false) rfl (wantN rfl) (fun _ => by kernel_rfl) ?_
          refine SOps.nil ?_
          refine SW.seq ?_
          refine SW.region ?_
          refine SOps.val (v := pv p8) rfl (wantN rfl) (fun _ => by kernel_rfl) ?_
          refine SOps.val (v := .int .i64 x2) rfl (wantN rfl) (fun _ => by kernel_rfl) ?_
          refine SOps.val (v := .string s3) rfl (wantN rfl) (fun _ => by kernel_rfl) ?_
          refine SOps.enter rfl (wantN rfl) (fun _ => by kernel_rfl) (disk_Disk_Put.sound F p8 x2 s3 H11 _ h) ?_
          clear h
          rintro v H98 ⟨e97, rfl, h⟩
          refine SOps.val (v := errV e97) rfl (wantN rfl) (fun _ => by kernel_rfl) ?_
          refine SOps.nil ?_
          refine SW.seq ?_
          refine SW.region ?_
          refine SOps.val (v := pv p8) rfl (wantN rfl) (fun _ => by kernel_rfl) ?_
          refine SOps.val (v := .int .i64 x2) rfl (wantN rfl) (fun _ => by kernel_rfl) ?_
          refine SOps.enter rfl (wantN rfl) (fun _ => by kernel_rfl) (disk_Disk_Get.sound F p8 x2 H98 _ h) ?_
          clear h
          rintro v H101 ⟨s99, e100, rfl, h⟩
          refine SOps.val (v := .tuple #[.string s99, errV e100]) rfl (wantN rfl) (fun _ => by kernel_rfl) ?_
          refine SOps.val (v := .string s99) rfl (wantN rfl) (fun _ => by kernel_rfl) ?_
          refine SOps.val (v := errV e100) rfl (wantN rfl) (fun _ => by kernel_rfl) ?_
          refine SOps.val (v := .string s99) rfl (wantN rfl) (fun _ => by kernel_rfl) ?_
          refine SOps.val (v := errV e100) rfl (wantN rfl) (fun _ => by kernel_rfl) ?_
          refine SOps.nil ?_
          refine SW.seqJ (fun fr H => ∃ (g : Fr) (x112 : Int) (s113 : ByteArray) (p114 : Option (Nat × Nat)), fr = g.upds [(1, (.int .i64 x112 : Value)), (2, (.string s113 : Value)), (7, pv p114)] ∧ ladinglaw14_DiskBounds.j3 F K x112 s113 p114 H) ?_ ?_
          · clear h
            rintro fr H ⟨g, x112, s113, p114, rfl, h⟩
            unfold ladinglaw14_DiskBounds.j3 at h
            refine SW.seq ?_
            refine SW.region ?_
            refine SOps.val (v := pv none) rfl (wantN rfl) (fun _ => by kernel_rfl) ?_
            refine SOps.nil ?_
            refine SW.seq ?_
            refine SW.region ?_
            refine SOps.val (v := pv none) rfl (wantN rfl) (fun _ => by kernel_rfl) ?_
            refine SOps.val (v := .agg #[sv Sl.nil, .int .i64 0]) rfl (wantN rfl) (fun _ => by kernel_rfl) ?_
            refine SOps.enter rfl (wantN rfl) (fun _ => by kernel_rfl) (disk_Disk_Crash.sound F none Sl.nil 0 H _ h) ?_
            clear h
            rintro v H116 ⟨rfl, h⟩
            refine SOps.nil ?_
            refine SW.seq ?_
            refine SW.region ?_
            refine SOps.val (v := pv none) rfl (wantN rfl) (fun _ => by kernel_rfl) ?_
            refine SOps.val (v := .int .i64 x112) rfl (wantN rfl) (fun _ => by kernel_rfl) ?_
            refine SOps.enter rfl (wantN rfl) (fun _ => by kernel_rfl) (disk_Disk_Fuse.sound F none x112 H116 _ h) ?_
            clear h
            rintro v H117 ⟨rfl, h⟩
            refine SOps.nil ?_
            refine SW.seq ?_
            refine SW.region ?_
            refine SOps.val (v := pv none) rfl (wantN rfl) (fun _ => by kernel_rfl) ?_
            refine SOps.enter rfl (wantN rfl) (fun _ => by kernel_rfl) (disk_Disk_Log.sound F none H117 _ h) ?_
            clear h
            rintro v H120 ⟨s118, e119, rfl, h⟩
            refine SOps.val (v := .tuple #[.string s118, errV e119]) rfl (wantN rfl) (fun _ => by kernel_rfl) ?_
            refine SOps.val (v := .string s118) rfl (wantN rfl) (fun _ => by kernel_rfl) ?_
            refine SOps.val (v := errV e119) rfl (wantN rfl) (fun _ => by kernel_rfl) ?_
            refine SOps.val (v := .string s118) rfl (wantN rfl) (fun _ => by kernel_rfl) ?_
            refine SOps.val (v := errV e119) rfl (wantN rfl) (fun _ => by kernel_rfl) ?_
            refine SOps.nil ?_
            refine SW.seq ?_
            refine SW.region ?_
            refine SOps.val (v := pv none) rfl (wantN rfl) (fun _ => by kernel_rfl) ?_
            refine SOps.enter rfl (wantN rfl) (fun _ => by kernel_rfl) (disk_Disk_Get.sound F none 0 H120 _ h) ?_
            clear h
            rintro v H123 ⟨s121, e122, rfl, h⟩
            refine SOps.val (v := .tuple #[.string s121, errV e122]) rfl (wantN rfl) (fun _ => by kernel_rfl) ?_
            refine SOps.val (v := .string s121) rfl (wantN rfl) (fun _ => by kernel_rfl) ?_
            refine SOps.val (v := errV e122) rfl (wantN rfl) (fun _ => by kernel_rfl) ?_
            refine SOps.val (v := .string s121) rfl (wantN rfl) (fun _ => by kernel_rfl) ?_
            refine SOps.val (v := errV e122) rfl (wantN rfl) (fun _ => by kernel_rfl) ?_
            refine SOps.nil ?_
            refine SW.seq ?_
            refine SW.region ?_
            refine SOps.val (v := .int .i64 1) rfl (wantN rfl) (fun _ => by kernel_rfl) ?_
            refine SOps.nil ?_
            refine SW.seq ?_
            refine SW.region ?_
            refine SOps.val (v := errV e119) rfl (wantN rfl) (fun _ => by kernel_rfl) ?_
            refine SOps.enter rfl (wantN rfl) (fun _ => by kernel_rfl) (api_Code.sound F e119 H123 _ h) ?_
            clear h
            rintro v H125 ⟨x124, rfl, h⟩
            refine SOps.val (v := .int .i64 1) rfl (wantN rfl) (fun _ => by kernel_rfl) ?_
            refine SOps.val (v := .bool (x124 == 1)) rfl (wantN rfl) (fun _ => by kernel_rfl) ?_
            refine SOps.val (v := .bool (x124 == 1)) rfl (wantN rfl) (fun _ => by kernel_rfl) ?_
            by_cases c126 : x124 = 1
            · replace h := h.1 c126
              have dc126 : (x124 == 1) = true := (beq_iff_eq.mpr c126)
              refine SOps.val (v := errV e122) rfl (wantY (c := (x124 == 1)) rfl rfl rfl dc126) (fun _ => by kernel_rfl) ?_
              refine SOps.enter rfl (wantY (c := (x124 == 1)) rfl rfl rfl dc126) (fun _ => by kernel_rfl) (api_Code.sound F e122 H125 _ h) ?_
              clear h
              rintro v H128 ⟨x127, rfl, h⟩
              refine SOps.val (v := .int .i64 1) rfl (wantY (c := (x124 == 1)) rfl rfl rfl dc126) (fun _ => by kernel_rfl) ?_
              refine SOps.val (v := .bool (x127 == 1)) rfl (wantY (c := (x124 == 1)) rfl rfl rfl dc126) (fun _ => by kernel_rfl) ?_
              refine SOps.val (v := .bool (x127 == 1)) rfl (wantN rfl) (fun w => ev_pickT (v := .bool (x127 == 1)) rfl (t := (x124 == 1)) rfl dc126 rfl w) ?_
              refine SOps.val (v := .bool (x127 == 1)) rfl (wantN rfl) (fun _ => by kernel_rfl) ?_
              by_cases c129 : x127 = 1
              · replace h := h.1 c129
                have dc129 : (x127 == 1) = true := (beq_iff_eq.mpr c129)
                refine SOps.val (v := pv none) rfl (wantY (c := (x127 == 1)) rfl rfl rfl dc129) (fun _ => by kernel_rfl) ?_
                refine SOps.val (v := .string s113) rfl (wantY (c := (x127 == 1)) rfl rfl rfl dc129) (fun _ => by kernel_rfl) ?_
                refine SOps.enter rfl (wantY (c := (x127 == 1)) rfl rfl rfl dc129) (fun _ => by kernel_rfl) (disk_Disk_Append.sound F none s113 H128 _ h) ?_
                clear h
                rintro v H131 ⟨e130, rfl, h⟩
                refine SOps.enter rfl (wantY (c := (x127 == 1)) rfl rfl rfl dc129) (fun _ => by kernel_rfl) (api_Code.sound F e130 H131 _ h) ?_
                clear h
                rintro v H133 ⟨x132, rfl, h⟩
                refine SOps.val (v := .int .i64 1) rfl (wantY (c := (x127 == 1)) rfl rfl rfl dc129) (fun _ => by kernel_rfl) ?_
                refine SOps.val (v := .bool (x132 == 1)) rfl (wantY (c := (x127 == 1)) rfl rfl rfl dc129) (fun _ => by kernel_rfl) ?_
                refine SOps.val (v := .bool (x132 == 1)) rfl (wantN rfl) (fun w => ev_pickT (v := .bool (x132 == 1)) rfl (t := (x127 == 1)) rfl dc129 rfl w) ?_
                refine SOps.val (v := .bool (x132 == 1)) rfl (wantN rfl) (fun _ => by kernel_rfl) ?_
                by_cases c134 : x132 = 1
                · replace h := h.1 c134
                  have dc134 : (x132 == 1) = true := (beq_iff_eq.mpr c134)
                  refine SOps.val (v := pv none) rfl (wantY (c := (x132 == 1)) rfl rfl rfl dc134) (fun _ => by kernel_rfl) ?_
                  refine SOps.val (v := .string s113) rfl (wantY (c := (x132 == 1)) rfl rfl rfl dc134) (fun _ => by kernel_rfl) ?_
                  refine SOps.enter rfl (wantY (c := (x132 == 1)) rfl rfl rfl dc134) (fun _ => by kernel_rfl) (disk_Disk_Put.sound F none 0 s113 H133 _ h) ?_
                  clear h
                  rintro v H136 ⟨e135, rfl, h⟩
                  refine SOps.enter rfl (wantY (c := (x132 == 1)) rfl rfl rfl dc134) (fun _ => by kernel_rfl) (api_Code.sound F e135 H136 _ h) ?_
                  clear h
                  rintro v H138 ⟨x137, rfl, h⟩
                  refine SOps.val (v := .int .i64 1) rfl (wantY (c := (x132 == 1)) rfl rfl rfl dc134) (fun _ => by kernel_rfl) ?_
                  refine SOps.val (v := .bool (x137 == 1)) rfl (wantY (c := (x132 == 1)) rfl rfl rfl dc134) (fun _ => by kernel_rfl) ?_
                  refine SOps.val (v := .bool (x137 == 1)) rfl (wantN rfl) (fun w => ev_pickT (v := .bool (x137 == 1)) rfl (t := (x132 == 1)) rfl dc134 rfl w) ?_
                  refine SOps.val (v := .bool (x137 == 1)) rfl (wantN rfl) (fun _ => by kernel_rfl) ?_
                  by_cases c139 : x137 = 1
                  · replace h := h.1 c139
                    have dc139 : (x137 == 1) = true := (beq_iff_eq.mpr c139)
                    refine SOps.val (v := pv none) rfl (wantY (c := (x137 == 1)) rfl rfl rfl dc139) (fun _ => by kernel_rfl) ?_
                    refine SOps.enter rfl (wantY (c := (x137 == 1)) rfl rfl rfl dc139) (fun _ => by kernel_rfl) (disk_Disk_Sync.sound F none H138 _ h) ?_
                    clear h
                    rintro v H141 ⟨e140, rfl, h⟩
                    refine SOps.enter rfl (wantY (c := (x137 == 1)) rfl rfl rfl dc139) (fun _ => by kernel_rfl) (api_Code.sound F e140 H141 _ h) ?_
                    clear h
                    rintro v H143 ⟨x142, rfl, h⟩
                    refine SOps.val (v := .int .i64 1) rfl (wantY (c := (x137 == 1)) rfl rfl rfl dc139) (fun _ => by kernel_rfl) ?_
                    refine SOps.val (v := .bool (x142 == 1)) rfl (wantY (c := (x137 == 1)) rfl rfl rfl dc139) (fun _ => by kernel_rfl) ?_
                    refine SOps.val (v := .bool (x142 == 1)) rfl (wantN rfl) (fun w => ev_pickT (v := .bool (x142 == 1)) rfl (t := (x137 == 1)) rfl dc139 rfl w) ?_
                    refine SOps.val (v := .bool (x142 == 1)) rfl (wantN rfl) (fun _ => by kernel_rfl) ?_
                    by_cases c144 : x142 = 1
                    · replace h := h.1 c144
                      have dc144 : (x142 == 1) = true := (beq_iff_eq.mpr c144)
                      refine SOps.val (v := pv none) rfl (wantY (c := (x142 == 1)) rfl rfl rfl dc144) (fun _ => by kernel_rfl) ?_
                      refine SOps.enter rfl (wantY (c := (x142 == 1)) rfl rfl rfl dc144) (fun _ => by kernel_rfl) (disk_Disk_Cut.sound F none 0 H143 _ h) ?_
                      clear h
                      rintro v H146 ⟨e145, rfl, h⟩
                      refine SOps.enter rfl (wantY (c := (x142 == 1)) rfl rfl rfl dc144) (fun _ => by kernel_rfl) (api_Code.sound F e145 H146 _ h) ?_
                      clear h
                      rintro v H148 ⟨x147, rfl, h⟩
                      refine SOps.val (v := .int .i64 1) rfl (wantY (c := (x142 == 1)) rfl rfl rfl dc144) (fun _ => by kernel_rfl) ?_
                      refine SOps.val (v := .bool (x147 == 1)) rfl (wantY (c := (x142 == 1)) rfl rfl rfl dc144) (fun _ => by kernel_rfl) ?_
                      refine SOps.val (v := .bool (x147 == 1)) rfl (wantN rfl) (fun w => ev_pickT (v := .bool (x147 == 1)) rfl (t := (x142 == 1)) rfl dc144 rfl w) ?_
                      refine SOps.val (v := .bool (x147 == 1)) rfl (wantN rfl) (fun _ => by kernel_rfl) ?_
                      by_cases c149 : x147 = 1
                      · replace h := h.1 c149
                        have dc149 : (x147 == 1) = true := (beq_iff_eq.mpr c149)
                        refine SOps.val (v := pv none) rfl (wantY (c := (x147 == 1)) rfl rfl rfl dc149) (fun _ => by kernel_rfl) ?_
                        refine SOps.enter rfl (wantY (c := (x147 == 1)) rfl rfl rfl dc149) (fun _ => by kernel_rfl) (disk_Disk_Rot.sound F none 0 0 1 H148 _ h) ?_
                        clear h
                        rintro v H151 ⟨q150, rfl, h⟩
                        refine SOps.val (v := .bool (!q150)) rfl (wantY (c := (x147 == 1)) rfl rfl rfl dc149) (fun _ => by kernel_rfl) ?_
                        refine SOps.val (v := .bool (!q150)) rfl (wantN rfl) (fun w => ev_pickT (v := .bool (!q150)) rfl (t := (x147 == 1)) rfl dc149 rfl w) ?_
                        refine SOps.val (v := .bool (!q150)) rfl (wantN rfl) (fun _ => by kernel_rfl) ?_
                        by_cases c152 : q150 = true
                        · replace h := h.1 c152
                          have dc152 : q150 = true := c152
                          refine SOps.off rfl (wantX (c := !q150) rfl rfl rfl (not_t dc152)) ?_
                          refine SOps.off rfl (wantX (c := !q150) rfl rfl rfl (not_t dc152)) ?_
                          refine SOps.val (v := .bool false) rfl (wantN rfl) (fun w => ev_pickF (v := .bool false) rfl (t := !q150) rfl (not_t dc152) rfl w) ?_
                          refine SOps.val (v := .bool false) rfl (wantN rfl) (fun _ => by kernel_rfl) ?_
                          refine SOps.off rfl (wantX (c := false) rfl rfl rfl rfl) ?_
                          refine SOps.off rfl (wantX (c := false) rfl rfl rfl rfl) ?_
                          refine SOps.off rfl (wantX (c := false) rfl rfl rfl rfl) ?_
                          refine SOps.off rfl (wantX (c := false) rfl rfl rfl rfl) ?_
                          refine SOps.off rfl (wantX (c := false) rfl rfl rfl rfl) ?_
                          refine SOps.off rfl (wantX (c := false) rfl rfl rfl rfl) ?_
                          refine SOps.val (v := .bool false) rfl (wantN rfl) (fun w => ev_pickF (v := .bool false) rfl (t := false) rfl rfl rfl w) ?_
                          refine SOps.val (v := .bool false) rfl (wantN rfl) (fun _ => by kernel_rfl) ?_
                          refine SOps.off rfl (wantX (c := false) rfl rfl rfl rfl) ?_
                          refine SOps.off rfl (wantX (c := false) rfl rfl rfl rfl) ?_
                          refine SOps.val (v := .bool false) rfl (wantN rfl) (fun w => ev_pickF (v := .bool false) rfl (t := false) rfl rfl rfl w) ?_
                          refine SOps.val (v := .bool false) rfl (wantN rfl) (fun _ => by kernel_rfl) ?_
                          refine SOps.off rfl (wantX (c := false) rfl rfl rfl rfl) ?_
                          refine SOps.off rfl (wantX (c := false) rfl rfl rfl rfl) ?_
                          refine SOps.off rfl (wantX (c := false) rfl rfl rfl rfl) ?_
                          refine SOps.off rfl (wantX (c := false) rfl rfl rfl rfl) ?_
                          refine SOps.val (v := .bool false) rfl (wantN rfl) (fun w => ev_pickF (v := .bool false) rfl (t := false) rfl rfl rfl w) ?_
                          refine SOps.val (v := .bool false) rfl (wantN rfl) (fun _ => by kernel_rfl) ?_
                          refine SOps.off rfl (wantX (c := false) rfl rfl rfl rfl) ?_
                          refine SOps.off rfl (wantX (c := false) rfl rfl rfl rfl) ?_
                          refine SOps.off rfl (wantX (c := false) rfl rfl rfl rfl) ?_
                          refine SOps.val (v := .bool false) rfl (wantN rfl) (fun w => ev_pickF (v := .bool false) rfl (t := false) rfl rfl rfl w) ?_
                          refine SOps.val (v := .bool false) rfl (wantN rfl) (fun _ => by kernel_rfl) ?_
                          refine SOps.nil ?_
                          obtain ⟨Hr, hr, h⟩ := h
                          exact SW.ret (retQ.mk (.bool false) (res1 rfl rfl) hr ⟨false, rfl, h⟩)
                        · replace h := h.2 c152
                          have dc152 : q150 = false := (Bool.eq_false_iff.mpr c152)
                          refine SOps.val (v := pv none) rfl (wantY (c := !q150) rfl rfl rfl (not_f dc152)) (fun _ => by kernel_rfl) ?_
                          refine SOps.enter rfl (wantY (c := !q150) rfl rfl rfl (not_f dc152)) (fun _ => by kernel_rfl) (disk_Disk_Down.sound F none H151 _ h) ?_
                          clear h
                          rintro v H154 ⟨q153, rfl, h⟩
                          refine SOps.val (v := .bool q153) rfl (wantN rfl) (fun w => ev_pickT (v := .bool q153) rfl (t := !q150) rfl (not_f dc152) rfl w) ?_
                          refine SOps.val (v := .bool q153) rfl (wantN rfl) (fun _ => by kernel_rfl) ?_
                          by_cases c155 : q153 = true
                          · replace h := h.1 c155
                            have dc155 : q153 = true := c155
                            refine SOps.val (v := pv none) rfl (wantY (c := q153) rfl rfl rfl dc155) (fun _ => by kernel_rfl) ?_
                            refine SOps.enter rfl (wantY (c := q153) rfl rfl rfl dc155) (fun _ => by kernel_rfl) (disk_Disk_Slots.sound F none H154 _ h) ?_
                            clear h
                            rintro v H157 ⟨x156, rfl, h⟩
                            refine SOps.val (v := pv none) rfl (wantY (c := q153) rfl rfl rfl dc155) (fun _ => by kernel_rfl) ?_
                            refine SOps.enter rfl (wantY (c := q153) rfl rfl rfl dc155) (fun _ => by kernel_rfl) (disk_Disk_Waits.sound F none H157 _ h) ?_
                            clear h
                            rintro v H159 ⟨x158, rfl, h⟩
                            refine SOps.val (v := .int .i64 (w64 (x156 + x158))) rfl (wantY (c := q153) rfl rfl rfl dc155) (fun _ => by kernel_rfl) ?_
                            refine SOps.val (v := .bool ((w64 (x156 + x158)) == 0)) rfl (wantY (c := q153) rfl rfl rfl dc155) (fun _ => by kernel_rfl) ?_
                            refine SOps.val (v := .bool ((w64 (x156 + x158)) == 0)) rfl (wantN rfl) (fun w => ev_pickT (v := .bool ((w64 (x156 + x158)) == 0)) rfl (t := q153) rfl dc155 rfl w) ?_
                            refine SOps.val (v := .bool ((w64 (x156 + x158)) == 0)) rfl (wantN rfl) (fun _ => by kernel_rfl) ?_
                            by_cases c160 : (w64 (x156 + x158)) = 0
                            · replace h := h.1 c160
                              have dc160 : ((w64 (x156 + x158)) == 0) = true := (beq_iff_eq.mpr c160)
                              refine SOps.val (v := pv none) rfl (wantY (c := ((w64 (x156 + x158)) == 0)) rfl rfl rfl dc160) (fun _ => by kernel_rfl) ?_
                              refine SOps.enter rfl (wantY (c := ((w64 (x156 + x158)) == 0)) rfl rfl rfl dc160) (fun _ => by kernel_rfl) (disk_Disk_Same.sound F none none H159 _ h) ?_
                              clear h
                              rintro v H162 ⟨q161, rfl, h⟩
                              refine SOps.val (v := .bool q161) rfl (wantN rfl) (fun w => ev_pickT (v := .bool q161) rfl (t := ((w64 (x156 + x158)) == 0)) rfl dc160 rfl w) ?_
                              refine SOps.val (v := .bool q161) rfl (wantN rfl) (fun _ => by kernel_rfl) ?_
                              by_cases c163 : q161 = true
                              · replace h := h.1 c163
                                have dc163 : q161 = true := c163
                                refine SOps.val (v := pv none) rfl (wantY (c := q161) rfl rfl rfl dc163) (fun _ => by kernel_rfl) ?_
                                refine SOps.val (v := pv p114) rfl (wantY (c := q161) rfl rfl rfl dc163) (fun _ => by kernel_rfl) ?_
                                refine SOps.enter rfl (wantY (c := q161) rfl rfl rfl dc163) (fun _ => by kernel_rfl) (disk_Disk_Same.sound F none p114 H162 _ h) ?_
                                clear h
                                rintro v H165 ⟨q164, rfl, h⟩
                                refine SOps.val (v := .bool (!q164)) rfl (wantY (c := q161) rfl rfl rfl dc163) (fun _ => by kernel_rfl) ?_
                                refine SOps.val (v := .bool (!q164)) rfl (wantN rfl) (fun w => ev_pickT (v := .bool (!q164)) rfl (t := q161) rfl dc163 rfl w) ?_
                                refine SOps.val (v := .bool (!q164)) rfl (wantN rfl) (fun _ => by kernel_rfl) ?_
                                by_cases c166 : q164 = true
                                · replace h := h.1 c166
                                  have dc166 : q164 = true := c166
                                  refine SOps.off rfl (wantX (c := !q164) rfl rfl rfl (not_t dc166)) ?_
                                  refine SOps.off rfl (wantX (c := !q164) rfl rfl rfl (not_t dc166)) ?_
                                  refine SOps.off rfl (wantX (c := !q164) rfl rfl rfl (not_t dc166)) ?_
                                  refine SOps.val (v := .bool false) rfl (wantN rfl) (fun w => ev_pickF (v := .bool false) rfl (t := !q164) rfl (not_t dc166) rfl w) ?_
                                  refine SOps.val (v := .bool false) rfl (wantN rfl) (fun _ => by kernel_rfl) ?_
                                  refine SOps.nil ?_
                                  obtain ⟨Hr, hr, h⟩ := h
                                  exact SW.ret (retQ.mk (.bool false) (res1 rfl rfl) hr ⟨false, rfl, h⟩)
                                · replace h := h.2 c166
                                  have dc166 : q164 = false := (Bool.eq_false_iff.mpr c166)
                                  refine SOps.val (v := pv p114) rfl (wantY (c := !q164) rfl rfl rfl (not_f dc166)) (fun _ => by kernel_rfl) ?_
                                  refine SOps.val (v := pv p114) rfl (wantY (c := !q164) rfl rfl rfl (not_f dc166)) (fun _ => by kernel_rfl) ?_
                                  refine SOps.enter rfl (wantY (c := !q164) rfl rfl rfl (not_f dc166)) (fun _ => by kernel_rfl) (disk_Disk_Same.sound F p114 p114 H165 _ h) ?_
                                  clear h
                                  rintro v H168 ⟨q167, rfl, h⟩
                                  refine SOps.val (v := .bool q167) rfl (wantN rfl) (fun w => ev_pickT (v := .bool q167) rfl (t := !q164) rfl (not_f dc166) rfl w) ?_
                                  refine SOps.val (v := .bool q167) rfl (wantN rfl) (fun _ => by kernel_rfl) ?_
                                  refine SOps.nil ?_
                                  obtain ⟨Hr, hr, h⟩ := h
                                  exact SW.ret (retQ.mk (.bool q167) (res1 rfl rfl) hr ⟨q167, rfl, h⟩)
                              · replace h := h.2 c163
                                have dc163 : q161 = false := (Bool.eq_false_iff.mpr c163)
                                refine SOps.off rfl (wantX (c := q161) rfl rfl rfl dc163) ?_
                                refine SOps.off rfl (wantX (c := q161) rfl rfl rfl dc163) ?_
                                refine SOps.off rfl (wantX (c := q161) rfl rfl rfl dc163) ?_
                                refine SOps.off rfl (wantX (c := q161) rfl rfl rfl dc163) ?_
                                refine SOps.val (v := .bool false) rfl (wantN rfl) (fun w => ev_pickF (v := .bool false) rfl (t := q161) rfl dc163 rfl w) ?_
                                refine SOps.val (v := .bool false) rfl (wantN rfl) (fun _ => by kernel_rfl) ?_
                                refine SOps.off rfl (wantX (c := false) rfl rfl rfl rfl) ?_
                                refine SOps.off rfl (wantX (c := false) rfl rfl rfl rfl) ?_
                                refine SOps.off rfl (wantX (c := false) rfl rfl rfl rfl) ?_
                                refine SOps.val (v := .bool false) rfl (wantN rfl) (fun w => ev_pickF (v := .bool false) rfl (t := false) rfl rfl rfl w) ?_
                                refine SOps.val (v := .bool false) rfl (wantN rfl) (fun _ => by kernel_rfl) ?_
                                refine SOps.nil ?_
                                obtain ⟨Hr, hr, h⟩ := h
                                exact SW.ret (retQ.mk (.bool false) (res1 rfl rfl) hr ⟨false, rfl, h⟩)
                            · replace h := h.2 c160
                              have dc160 : ((w64 (x156 + x158)) == 0) = false := (beq_eq_false_iff_ne.mpr c160)
                              refine SOps.off rfl (wantX (c := ((w64 (x156 + x158)) == 0)) rfl rfl rfl dc160) ?_
                              refine SOps.off rfl (wantX (c := ((w64 (x156 + x158)) == 0)) rfl rfl rfl dc160) ?_
                              refine SOps.val (v := .bool false) rfl (wantN rfl) (fun w => ev_pickF (v := .bool false) rfl (t := ((w64 (x156 + x158)) == 0)) rfl dc160 rfl w) ?_
                              refine SOps.val (v := .bool false) rfl (wantN rfl) (fun _ => by kernel_rfl) ?_
                              refine SOps.off rfl (wantX (c := false) rfl rfl rfl rfl) ?_
                              refine SOps.off rfl (wantX (c := false) rfl rfl rfl rfl) ?_
                              refine SOps.off rfl (wantX (c := false) rfl rfl rfl rfl) ?_
                              refine SOps.off rfl (wantX (c := false) rfl rfl rfl rfl) ?_
                              refine SOps.val (v := .bool false) rfl (wantN rfl) (fun w => ev_pickF (v := .bool false) rfl (t := false) rfl rfl rfl w) ?_
                              refine SOps.val (v := .bool false) rfl (wantN rfl) (fun _ => by kernel_rfl) ?_
                              refine SOps.off rfl (wantX (c := false) rfl rfl rfl rfl) ?_
                              refine SOps.off rfl (wantX (c := false) rfl rfl rfl rfl) ?_
                              refine SOps.off rfl (wantX (c := false) rfl rfl rfl rfl) ?_
                              refine SOps.val (v := .bool false) rfl (wantN rfl) (fun w => ev_pickF (v := .bool false) rfl (t := false) rfl rfl rfl w) ?_
                              refine SOps.val (v := .bool false) rfl (wantN rfl) (fun _ => by kernel_rfl) ?_
                              refine SOps.nil ?_
                              obtain ⟨Hr, hr, h⟩ := h
                              exact SW.ret (retQ.mk (.bool false) (res1 rfl rfl) hr ⟨false, rfl, h⟩)
                          · replace h := h.2 c155
                            have dc155 : q153 = false := (Bool.eq_false_iff.mpr c155)
                            refine SOps.off rfl (wantX (c := q153) rfl rfl rfl dc155) ?_
                            refine SOps.off rfl (wantX (c := q153) rfl rfl rfl dc155) ?_
                            refine SOps.off rfl (wantX (c := q153) rfl rfl rfl dc155) ?_
                            refine SOps.off rfl (wantX (c := q153) rfl rfl rfl dc155) ?_
                            refine SOps.off rfl (wantX (c := q153) rfl rfl rfl dc155) ?_
                            refine SOps.off rfl (wantX (c := q153) rfl rfl rfl dc155) ?_
                            refine SOps.val (v := .bool false) rfl (wantN rfl) (fun w => ev_pickF (v := .bool false) rfl (t := q153) rfl dc155 rfl w) ?_
                            refine SOps.val (v := .bool false) rfl (wantN rfl) (fun _ => by kernel_rfl) ?_
                            refine SOps.off rfl (wantX (c := false) rfl rfl rfl rfl) ?_
                            refine SOps.off rfl (wantX (c := false) rfl rfl rfl rfl) ?_
                            refine SOps.val (v := .bool false) rfl (wantN rfl) (fun w => ev_pickF (v := .bool false) rfl (t := false) rfl rfl rfl w) ?_
                            refine SOps.val (v := .bool false) rfl (wantN rfl) (fun _ => by kernel_rfl) ?_
                            refine SOps.off rfl (wantX (c := false) rfl rfl rfl rfl) ?_
                            refine SOps.off rfl (wantX (c := false) rfl rfl rfl rfl) ?_
                            refine SOps.off rfl (wantX (c := false) rfl rfl rfl rfl) ?_
                            refine SOps.off rfl (wantX (c := false) rfl rfl rfl rfl) ?_
                            refine SOps.val (v := .bool false) rfl (wantN rfl) (fun w => ev_pickF (v := .bool false) rfl (t := false) rfl rfl rfl w) ?_
                            refine SOps.val (v := .bool false) rfl (wantN rfl) (fun _ => by kernel_rfl) ?_
                            refine SOps.off rfl (wantX (c := false) rfl rfl rfl rfl) ?_
                            refine SOps.off rfl (wantX (c := false) rfl rfl rfl rfl) ?_
                            refine SOps.off rfl (wantX (c := false) rfl rfl rfl rfl) ?_
                            refine SOps.val (v := .bool false) rfl (wantN rfl) (fun w => ev_pickF (v := .bool false) rfl (t := false) rfl rfl rfl w) ?_
                            refine SOps.val (v := .bool false) rfl (wantN rfl) (fun _ => by kernel_rfl) ?_
                            refine SOps.nil ?_
                            obtain ⟨Hr, hr, h⟩ := h
                            exact SW.ret (retQ.mk (.bool false) (res1 rfl rfl) hr ⟨false, rfl, h⟩)
                      · replace h := h.2 c149
                        have dc149 : (x147 == 1) = false := (beq_eq_false_iff_ne.mpr c149)
                        refine SOps.off rfl (wantX (c := (x147 == 1)) rfl rfl rfl dc149) ?_
                        refine SOps.off rfl (wantX (c := (x147 == 1)) rfl rfl rfl dc149) ?_
                        refine SOps.off rfl (wantX (c := (x147 == 1)) rfl rfl rfl dc149) ?_
                        refine SOps.val (v := .bool false) rfl (wantN rfl) (fun w => ev_pickF (v := .bool false) rfl (t := (x147 == 1)) rfl dc149 rfl w) ?_
                        refine SOps.val (v := .bool false) rfl (wantN rfl) (fun _ => by kernel_rfl) ?_
                        refine SOps.off rfl (wantX (c := false) rfl rfl rfl rfl) ?_
                        refine SOps.off rfl (wantX (c := false) rfl rfl rfl rfl) ?_
                        refine SOps.val (v := .bool false) rfl (wantN rfl) (fun w => ev_pickF (v := .bool false) rfl (t := false) rfl rfl rfl w) ?_
                        refine SOps.val (v := .bool false) rfl (wantN rfl) (fun _ => by kernel_rfl) ?_
                        refine SOps.off rfl (wantX (c := false) rfl rfl rfl rfl) ?_
                        refine SOps.off rfl (wantX (c := false) rfl rfl rfl rfl) ?_
                        refine SOps.off rfl (wantX (c := false) rfl rfl rfl rfl) ?_
                        refine SOps.off rfl (wantX (c := false) rfl rfl rfl rfl) ?_
                        refine SOps.off rfl (wantX (c := false) rfl rfl rfl rfl) ?_
                        refine SOps.off rfl (wantX (c := false) rfl rfl rfl rfl) ?_
                        refine SOps.val (v := .bool false) rfl (wantN rfl) (fun w => ev_pickF (v := .bool false) rfl (t := false) rfl rfl rfl w) ?_
                        refine SOps.val (v := .bool false) rfl (wantN rfl) (fun _ => by kernel_rfl) ?_
                        refine SOps.off rfl (wantX (c := false) rfl rfl rfl rfl) ?_
                        refine SOps.off rfl (wantX (c := false) rfl rfl rfl rfl) ?_
                        refine SOps.val (v := .bool false) rfl (wantN rfl) (fun w => ev_pickF (v := .bool false) rfl (t := false) rfl rfl rfl w) ?_
                        refine SOps.val (v := .bool false) rfl (wantN rfl) (fun _ => by kernel_rfl) ?_
                        refine SOps.off rfl (wantX (c := false) rfl rfl rfl rfl) ?_
                        refine SOps.off rfl (wantX (c := false) rfl rfl rfl rfl) ?_
                        refine SOps.off rfl (wantX (c := false) rfl rfl rfl rfl) ?_
                        refine SOps.off rfl (wantX (c := false) rfl rfl rfl rfl) ?_
                        refine SOps.val (v := .bool false) rfl (wantN rfl) (fun w => ev_pickF (v := .bool false) rfl (t := false) rfl rfl rfl w) ?_
                        refine SOps.val (v := .bool false) rfl (wantN rfl) (fun _ => by kernel_rfl) ?_
                        refine SOps.off rfl (wantX (c := false) rfl rfl rfl rfl) ?_
                        refine SOps.off rfl (wantX (c := false) rfl rfl rfl rfl) ?_
                        refine SOps.off rfl (wantX (c := false) rfl rfl rfl rfl) ?_
                        refine SOps.val (v := .bool false) rfl (wantN rfl) (fun w => ev_pickF (v := .bool false) rfl (t := false) rfl rfl rfl w) ?_
                        refine SOps.val (v := .bool false) rfl (wantN rfl) (fun _ => by kernel_rfl) ?_
                        refine SOps.nil ?_
                        obtain ⟨Hr, hr, h⟩ := h
                        exact SW.ret (retQ.mk (.bool false) (res1 rfl rfl) hr ⟨false, rfl, h⟩)
                    · replace h := h.2 c144
                      have dc144 : (x142 == 1) = false := (beq_eq_false_iff_ne.mpr c144)
                      refine SOps.off rfl (wantX (c := (x142 == 1)) rfl rfl rfl dc144) ?_
                      refine SOps.off rfl (wantX (c := (x142 == 1)) rfl rfl rfl dc144) ?_
                      refine SOps.off rfl (wantX (c := (x142 == 1)) rfl rfl rfl dc144) ?_
                      refine SOps.off rfl (wantX (c := (x142 == 1)) rfl rfl rfl dc144) ?_
                      refine SOps.off rfl (wantX (c := (x142 == 1)) rfl rfl rfl dc144) ?_
                      refine SOps.val (v := .bool false) rfl (wantN rfl) (fun w => ev_pickF (v := .bool false) rfl (t := (x142 == 1)) rfl dc144 rfl w) ?_
                      refine SOps.val (v := .bool false) rfl (wantN rfl) (fun _ => by kernel_rfl) ?_
                      refine SOps.off rfl (wantX (c := false) rfl rfl rfl rfl) ?_
                      refine SOps.off rfl (wantX (c := false) rfl rfl rfl rfl) ?_
                      refine SOps.off rfl (wantX (c := false) rfl rfl rfl rfl) ?_
                      refine SOps.val (v := .bool false) rfl (wantN rfl) (fun w => ev_pickF (v := .bool false) rfl (t := false) rfl rfl rfl w) ?_
                      refine SOps.val (v := .bool false) rfl (wantN rfl) (fun _ => by kernel_rfl) ?_
                      refine SOps.off rfl (wantX (c := false) rfl rfl rfl rfl) ?_
                      refine SOps.off rfl (wantX (c := false) rfl rfl rfl rfl) ?_
                      refine SOps.val (v := .bool false) rfl (wantN rfl) (fun w => ev_pickF (v := .bool false) rfl (t := false) rfl rfl rfl w) ?_
                      refine SOps.val (v := .bool false) rfl (wantN rfl) (fun _ => by kernel_rfl) ?_
                      refine SOps.off rfl (wantX (c := false) rfl rfl rfl rfl) ?_
                      refine SOps.off rfl (wantX (c := false) rfl rfl rfl rfl) ?_
                      refine SOps.off rfl (wantX (c := false) rfl rfl rfl rfl) ?_
                      refine SOps.off rfl (wantX (c := false) rfl rfl rfl rfl) ?_
                      refine SOps.off rfl (wantX (c := false) rfl rfl rfl rfl) ?_
                      refine SOps.off rfl (wantX (c := false) rfl rfl rfl rfl) ?_
                      refine SOps.val (v := .bool false) rfl (wantN rfl) (fun w => ev_pickF (v := .bool false) rfl (t := false) rfl rfl rfl w) ?_
                      refine SOps.val (v := .bool false) rfl (wantN rfl) (fun _ => by kernel_rfl) ?_
                      refine SOps.off rfl (wantX (c := false) rfl rfl rfl rfl) ?_
                      refine SOps.off rfl (wantX (c := false) rfl rfl rfl rfl) ?_
                      refine SOps.val (v := .bool false) rfl (wantN rfl) (fun w => ev_pickF (v := .bool false) rfl (t := false) rfl rfl rfl w) ?_
                      refine SOps.val (v := .bool false) rfl (wantN rfl) (fun _ => by kernel_rfl) ?_
                      refine SOps.off rfl (wantX (c := false) rfl rfl rfl rfl) ?_
                      refine SOps.off rfl (wantX (c := false) rfl rfl rfl rfl) ?_
                      refine SOps.off rfl (wantX (c := false) rfl rfl rfl rfl) ?_
                      refine SOps.off rfl (wantX (c := false) rfl rfl rfl rfl) ?_
                      refine SOps.val (v := .bool false) rfl (wantN rfl) (fun w => ev_pickF (v := .bool false) rfl (t := false) rfl rfl rfl w) ?_
                      refine SOps.val (v := .bool false) rfl (wantN rfl) (fun _ => by kernel_rfl) ?_
                      refine SOps.off rfl (wantX (c := false) rfl rfl rfl rfl) ?_
                      refine SOps.off rfl (wantX (c := false) rfl rfl rfl rfl) ?_
                      refine SOps.off rfl (wantX (c := false) rfl rfl rfl rfl) ?_
                      refine SOps.val (v := .bool false) rfl (wantN rfl) (fun w => ev_pickF (v := .bool false) rfl (t := false) rfl rfl rfl w) ?_
                      refine SOps.val (v := .bool false) rfl (wantN rfl) (fun _ => by kernel_rfl) ?_
                      refine SOps.nil ?_
                      obtain ⟨Hr, hr, h⟩ := h
                      exact SW.ret (retQ.mk (.bool false) (res1 rfl rfl) hr ⟨false, rfl, h⟩)
                  · replace h := h.2 c139
                    have dc139 : (x137 == 1) = false := (beq_eq_false_iff_ne.mpr c139)
                    refine SOps.off rfl (wantX (c := (x137 == 1)) rfl rfl rfl dc139) ?_
                    refine SOps.off rfl (wantX (c := (x137 == 1)) rfl rfl rfl dc139) ?_
                    refine SOps.off rfl (wantX (c := (x137 == 1)) rfl rfl rfl dc139) ?_
                    refine SOps.off rfl (wantX (c := (x137 == 1)) rfl rfl rfl dc139) ?_
                    refine SOps.off rfl (wantX (c := (x137 == 1)) rfl rfl rfl dc139) ?_
                    refine SOps.val (v := .bool false) rfl (wantN rfl) (fun w => ev_pickF (v := .bool false) rfl (t := (x137 == 1)) rfl dc139 rfl w) ?_
                    refine SOps.val (v := .bool false) rfl (wantN rfl) (fun _ => by kernel_rfl) ?_
                    refine SOps.off rfl (wantX (c := false) rfl rfl rfl rfl) ?_
                    refine SOps.off rfl (wantX (c := false) rfl rfl rfl rfl) ?_
                    refine SOps.off rfl (wantX (c := false) rfl rfl rfl rfl) ?_
                    refine SOps.off rfl (wantX (c := false) rfl rfl rfl rfl) ?_
                    refine SOps.off rfl (wantX (c := false) rfl rfl rfl rfl) ?_
                    refine SOps.val (v := .bool false) rfl (wantN rfl) (fun w => ev_pickF (v := .bool false) rfl (t := false) rfl rfl rfl w) ?_
                    refine SOps.val (v := .bool false) rfl (wantN rfl) (fun _ => by kernel_rfl) ?_
                    refine SOps.off rfl (wantX (c := false) rfl rfl rfl rfl) ?_
                    refine SOps.off rfl (wantX (c := false) rfl rfl rfl rfl) ?_
                    refine SOps.off rfl (wantX (c := false) rfl rfl rfl rfl) ?_
                    refine SOps.val (v := .bool false) rfl (wantN rfl) (fun w => ev_pickF (v := .bool false) rfl (t := false) rfl rfl rfl w) ?_
                    refine SOps.val (v := .bool false) rfl (wantN rfl) (fun _ => by kernel_rfl) ?_
                    refine SOps.off rfl (wantX (c := false) rfl rfl rfl rfl) ?_
                    refine SOps.off rfl (wantX (c := false) rfl rfl rfl rfl) ?_
                    refine SOps.val (v := .bool false) rfl (wantN rfl) (fun w => ev_pickF (v := .bool false) rfl (t := false) rfl rfl rfl w) ?_
                    refine SOps.val (v := .bool false) rfl (wantN rfl) (fun _ => by kernel_rfl) ?_
                    refine SOps.off rfl (wantX (c := false) rfl rfl rfl rfl) ?_
                    refine SOps.off rfl (wantX (c := false) rfl rfl rfl rfl) ?_
                    refine SOps.off rfl (wantX (c := false) rfl rfl rfl rfl) ?_
                    refine SOps.off rfl (wantX (c := false) rfl rfl rfl rfl) ?_
                    refine SOps.off rfl (wantX (c := false) rfl rfl rfl rfl) ?_
                    refine SOps.off rfl (wantX (c := false) rfl rfl rfl rfl) ?_
                    refine SOps.val (v := .bool false) rfl (wantN rfl) (fun w => ev_pickF (v := .bool false) rfl (t := false) rfl rfl rfl w) ?_
                    refine SOps.val (v := .bool false) rfl (wantN rfl) (fun _ => by kernel_rfl) ?_
                    refine SOps.off rfl (wantX (c := false) rfl rfl rfl rfl) ?_
                    refine SOps.off rfl (wantX (c := false) rfl rfl rfl rfl) ?_
                    refine SOps.val (v := .bool false) rfl (wantN rfl) (fun w => ev_pickF (v := .bool false) rfl (t := false) rfl rfl rfl w) ?_
                    refine SOps.val (v := .bool false) rfl (wantN rfl) (fun _ => by kernel_rfl) ?_
                    refine SOps.off rfl (wantX (c := false) rfl rfl rfl rfl) ?_
                    refine SOps.off rfl (wantX (c := false) rfl rfl rfl rfl) ?_
                    refine SOps.off rfl (wantX (c := false) rfl rfl rfl rfl) ?_
                    refine SOps.off rfl (wantX (c := false) rfl rfl rfl rfl) ?_
                    refine SOps.val (v := .bool false) rfl (wantN rfl) (fun w => ev_pickF (v := .bool false) rfl (t := false) rfl rfl rfl w) ?_
                    refine SOps.val (v := .bool false) rfl (wantN rfl) (fun _ => by kernel_rfl) ?_
                    refine SOps.off rfl (wantX (c := false) rfl rfl rfl rfl) ?_
                    refine SOps.off rfl (wantX (c := false) rfl rfl rfl rfl) ?_
                    refine SOps.off rfl (wantX (c := false) rfl rfl rfl rfl) ?_
                    refine SOps.val (v := .bool false) rfl (wantN rfl) (fun w => ev_pickF (v := .bool false) rfl (t := false) rfl rfl rfl w) ?_
                    refine SOps.val (v := .bool false) rfl (wantN rfl) (fun _ => by kernel_rfl) ?_
                    refine SOps.nil ?_
                    obtain ⟨Hr, hr, h⟩ := h
                    exact SW.ret (retQ.mk (.bool false) (res1 rfl rfl) hr ⟨false, rfl, h⟩)
                · replace h := h.2 c134
                  have dc134 : (x132 == 1) = false := (beq_eq_false_iff_ne.mpr c134)
                  refine SOps.off rfl (wantX (c := (x132 == 1)) rfl rfl rfl dc134) ?_
                  refine SOps.off rfl (wantX (c := (x132 == 1)) rfl rfl rfl dc134) ?_
                  refine SOps.off rfl (wantX (c := (x132 == 1)) rfl rfl rfl dc134) ?_
                  refine SOps.off rfl (wantX (c := (x132 == 1)) rfl rfl rfl dc134) ?_
                  refine SOps.off rfl (wantX (c := (x132 == 1)) rfl rfl rfl dc134) ?_
                  refine SOps.off rfl (wantX (c := (x132 == 1)) rfl rfl rfl dc134) ?_
                  refine SOps.val (v := .bool false) rfl (wantN rfl) (fun w => ev_pickF (v := .bool false) rfl (t := (x132 == 1)) rfl dc134 rfl w) ?_
                  refine SOps.val (v := .bool false) rfl (wantN rfl) (fun _ => by kernel_rfl) ?_
                  refine SOps.off rfl (wantX (c := false) rfl rfl rfl rfl) ?_
                  refine SOps.off rfl (wantX (c := false) rfl rfl rfl rfl) ?_
                  refine SOps.off rfl (wantX (c := false) rfl rfl rfl rfl) ?_
                  refine SOps.off rfl (wantX (c := false) rfl rfl rfl rfl) ?_
                  refine SOps.off rfl (wantX (c := false) rfl rfl rfl rfl) ?_
                  refine SOps.val (v := .bool false) rfl (wantN rfl) (fun w => ev_pickF (v := .bool false) rfl (t := false) rfl rfl rfl w) ?_
                  refine SOps.val (v := .bool false) rfl (wantN rfl) (fun _ => by kernel_rfl) ?_
                  refine SOps.off rfl (wantX (c := false) rfl rfl rfl rfl) ?_
                  refine SOps.off rfl (wantX (c := false) rfl rfl rfl rfl) ?_
                  refine SOps.off rfl (wantX (c := false) rfl rfl rfl rfl) ?_
                  refine SOps.off rfl (wantX (c := false) rfl rfl rfl rfl) ?_
                  refine SOps.off rfl (wantX (c := false) rfl rfl rfl rfl) ?_
                  refine SOps.val (v := .bool false) rfl (wantN rfl) (fun w => ev_pickF (v := .bool false) rfl (t := false) rfl rfl rfl w) ?_
                  refine SOps.val (v := .bool false) rfl (wantN rfl) (fun _ => by kernel_rfl) ?_
                  refine SOps.off rfl (wantX (c := false) rfl rfl rfl rfl) ?_
                  refine SOps.off rfl (wantX (c := false) rfl rfl rfl rfl) ?_
                  refine SOps.off rfl (wantX (c := false) rfl rfl rfl rfl) ?_
                  refine SOps.val (v := .bool false) rfl (wantN rfl) (fun w => ev_pickF (v := .bool false) rfl (t := false) rfl rfl rfl w) ?_
                  refine SOps.val (v := .bool false) rfl (wantN rfl) (fun _ => by kernel_rfl) ?_
                  refine SOps.off rfl (wantX (c := false) rfl rfl rfl rfl) ?_
                  refine SOps.off rfl (wantX (c := false) rfl rfl rfl rfl) ?_
                  refine SOps.val (v := .bool false) rfl (wantN rfl) (fun w => ev_pickF (v := .bool false) rfl (t := false) rfl rfl rfl w) ?_
                  refine SOps.val (v := .bool false) rfl (wantN rfl) (fun _ => by kernel_rfl) ?_
                  refine SOps.off rfl (wantX (c := false) rfl rfl rfl rfl) ?_
                  refine SOps.off rfl (wantX (c := false) rfl rfl rfl rfl) ?_
                  refine SOps.off rfl (wantX (c := false) rfl rfl rfl rfl) ?_
                  refine SOps.off rfl (wantX (c := false) rfl rfl rfl rfl) ?_
                  refine SOps.off rfl (wantX (c := false) rfl rfl rfl rfl) ?_
                  refine SOps.off rfl (wantX (c := false) rfl rfl rfl rfl) ?_
                  refine SOps.val (v := .bool false) rfl (wantN rfl) (fun w => ev_pickF (v := .bool false) rfl (t := false) rfl rfl rfl w) ?_
                  refine SOps.val (v := .bool false) rfl (wantN rfl) (fun _ => by kernel_rfl) ?_
                  refine SOps.off rfl (wantX (c := false) rfl rfl rfl rfl) ?_
                  refine SOps.off rfl (wantX (c := false) rfl rfl rfl rfl) ?_
                  refine SOps.val (v := .bool false) rfl (wantN rfl) (fun w => ev_pickF (v := .bool false) rfl (t := false) rfl rfl rfl w) ?_
                  refine SOps.val (v := .bool false) rfl (wantN rfl) (fun _ => by kernel_rfl) ?_
                  refine SOps.off rfl (wantX (c := false) rfl rfl rfl rfl) ?_
                  refine SOps.off rfl (wantX (c := false) rfl rfl rfl rfl) ?_
                  refine SOps.off rfl (wantX (c := false) rfl rfl rfl rfl) ?_
                  refine SOps.off rfl (wantX (c := false) rfl rfl rfl rfl) ?_
                  refine SOps.val (v := .bool false) rfl (wantN rfl) (fun w => ev_pickF (v := .bool false) rfl (t := false) rfl rfl rfl w) ?_
                  refine SOps.val (v := .bool false) rfl (wantN rfl) (fun _ => by kernel_rfl) ?_
                  refine SOps.off rfl (wantX (c := false) rfl rfl rfl rfl) ?_
                  refine SOps.off rfl (wantX (c := false) rfl rfl rfl rfl) ?_
                  refine SOps.off rfl (wantX (c := false) rfl rfl rfl rfl) ?_
                  refine SOps.val (v := .bool false) rfl (wantN rfl) (fun w => ev_pickF (v := .bool false) rfl (t := false) rfl rfl rfl w) ?_
                  refine SOps.val (v := .bool false) rfl (wantN rfl) (fun _ => by kernel_rfl) ?_
                  refine SOps.nil ?_
                  obtain ⟨Hr, hr, h⟩ := h
                  exact SW.ret (retQ.mk (.bool false) (res1 rfl rfl) hr ⟨false, rfl, h⟩)
              · replace h := h.2 c129
                have dc129 : (x127 == 1) = false := (beq_eq_false_iff_ne.mpr c129)
                refine SOps.off rfl (wantX (c := (x127 == 1)) rfl rfl rfl dc129) ?_
                refine SOps.off rfl (wantX (c := (x127 == 1)) rfl rfl rfl dc129) ?_
                refine SOps.off rfl (wantX (c := (x127 == 1)) rfl rfl rfl dc129) ?_
                refine SOps.off rfl (wantX (c := (x127 == 1)) rfl rfl rfl dc129) ?_
                refine SOps.off rfl (wantX (c := (x127 == 1)) rfl rfl rfl dc129) ?_
                refine SOps.off rfl (wantX (c := (x127 == 1)) rfl rfl rfl dc129) ?_
                refine SOps.val (v := .bool false) rfl (wantN rfl) (fun w => ev_pickF (v := .bool false) rfl (t := (x127 == 1)) rfl dc129 rfl w) ?_
                refine SOps.val (v := .bool false) rfl (wantN rfl) (fun _ => by kernel_rfl) ?_
                refine SOps.off rfl (wantX (c := false) rfl rfl rfl rfl) ?_
                refine SOps.off rfl (wantX (c := false) rfl rfl rfl rfl) ?_
                refine SOps.off rfl (wantX (c := false) rfl rfl rfl rfl) ?_
                refine SOps.off rfl (wantX (c := false) rfl rfl rfl rfl) ?_
                refine SOps.off rfl (wantX (c := false) rfl rfl rfl rfl) ?_
                refine SOps.off rfl (wantX (c := false) rfl rfl rfl rfl) ?_
                refine SOps.val (v := .bool false) rfl (wantN rfl) (fun w => ev_pickF (v := .bool false) rfl (t := false) rfl rfl rfl w) ?_
                refine SOps.val (v := .bool false) rfl (wantN rfl) (fun _ => by kernel_rfl) ?_
                refine SOps.off rfl (wantX (c := false) rfl rfl rfl rfl) ?_
                refine SOps.off rfl (wantX (c := false) rfl rfl rfl rfl) ?_
                refine SOps.off rfl (wantX (c := false) rfl rfl rfl rfl) ?_
                refine SOps.off rfl (wantX (c := false) rfl rfl rfl rfl) ?_
                refine SOps.off rfl (wantX (c := false) rfl rfl rfl rfl) ?_
                refine SOps.val (v := .bool false) rfl (wantN rfl) (fun w => ev_pickF (v := .bool false) rfl (t := false) rfl rfl rfl w) ?_
                refine SOps.val (v := .bool false) rfl (wantN rfl) (fun _ => by kernel_rfl) ?_
                refine SOps.off rfl (wantX (c := false) rfl rfl rfl rfl) ?_
                refine SOps.off rfl (wantX (c := false) rfl rfl rfl rfl) ?_
                refine SOps.off rfl (wantX (c := false) rfl rfl rfl rfl) ?_
                refine SOps.off rfl (wantX (c := false) rfl rfl rfl rfl) ?_
                refine SOps.off rfl (wantX (c := false) rfl rfl rfl rfl) ?_
                refine SOps.val (v := .bool false) rfl (wantN rfl) (fun w => ev_pickF (v := .bool false) rfl (t := false) rfl rfl rfl w) ?_
                refine SOps.val (v := .bool false) rfl (wantN rfl) (fun _ => by kernel_rfl) ?_
                refine SOps.off rfl (wantX (c := false) rfl rfl rfl rfl) ?_
                refine SOps.off rfl (wantX (c := false) rfl rfl rfl rfl) ?_
                refine SOps.off rfl (wantX (c := false) rfl rfl rfl rfl) ?_
                refine SOps.val (v := .bool false) rfl (wantN rfl) (fun w => ev_pickF (v := .bool false) rfl (t := false) rfl rfl rfl w) ?_
                refine SOps.val (v := .bool false) rfl (wantN rfl) (fun _ => by kernel_rfl) ?_
                refine SOps.off rfl (wantX (c := false) rfl rfl rfl rfl) ?_
                refine SOps.off rfl (wantX (c := false) rfl rfl rfl rfl) ?_
                refine SOps.val (v := .bool false) rfl (wantN rfl) (fun w => ev_pickF (v := .bool false) rfl (t := false) rfl rfl rfl w) ?_
                refine SOps.val (v := .bool false) rfl (wantN rfl) (fun _ => by kernel_rfl) ?_
                refine SOps.off rfl (wantX (c := false) rfl rfl rfl rfl) ?_
                refine SOps.off rfl (wantX (c := false) rfl rfl rfl rfl) ?_
                refine SOps.off rfl (wantX (c := false) rfl rfl rfl rfl) ?_
                refine SOps.off rfl (wantX (c := false) rfl rfl rfl rfl) ?_
                refine SOps.off rfl (wantX (c := false) rfl rfl rfl rfl) ?_
                refine SOps.off rfl (wantX (c := false) rfl rfl rfl rfl) ?_
                refine SOps.val (v := .bool false) rfl (wantN rfl) (fun w => ev_pickF (v := .bool false) rfl (t := false) rfl rfl rfl w) ?_
                refine SOps.val (v := .bool false) rfl (wantN rfl) (fun _ => by kernel_rfl) ?_
                refine SOps.off rfl (wantX (c := false) rfl rfl rfl rfl) ?_
                refine SOps.off rfl (wantX (c := false) rfl rfl rfl rfl) ?_
                refine SOps.val (v := .bool false) rfl (wantN rfl) (fun w => ev_pickF (v := .bool false) rfl (t := false) rfl rfl rfl w) ?_
                refine SOps.val (v := .bool false) rfl (wantN rfl) (fun _ => by kernel_rfl) ?_
                refine SOps.off rfl (wantX (c := false) rfl rfl rfl rfl) ?_
                refine SOps.off rfl (wantX (c := false) rfl rfl rfl rfl) ?_
                refine SOps.off rfl (wantX (c := false) rfl rfl rfl rfl) ?_
                refine SOps.off rfl (wantX (c := false) rfl rfl rfl rfl) ?_
                refine SOps.val (v := .bool false) rfl (wantN rfl) (fun w => ev_pickF (v := .bool false) rfl (t := false) rfl rfl rfl w) ?_
                refine SOps.val (v := .bool false) rfl (wantN rfl) (fun _ => by kernel_rfl) ?_
                refine SOps.off rfl (wantX (c := false) rfl rfl rfl rfl) ?_
                refine SOps.off rfl (wantX (c := false) rfl rfl rfl rfl) ?_
                refine SOps.off rfl (wantX (c := false) rfl rfl rfl rfl) ?_
                refine SOps.val (v := .bool false) rfl (wantN rfl) (fun w => ev_pickF (v := .bool false) rfl (t := false) rfl rfl rfl w) ?_
                refine SOps.val (v := .bool false) rfl (wantN rfl) (fun _ => by kernel_rfl) ?_
                refine SOps.nil ?_
                obtain ⟨Hr, hr, h⟩ := h
                exact SW.ret (retQ.mk (.bool false) (res1 rfl rfl) hr ⟨false, rfl, h⟩)
            · replace h := h.2 c126
              have dc126 : (x124 == 1) = false := (beq_eq_false_iff_ne.mpr c126)
              refine SOps.off rfl (wantX (c := (x124 == 1)) rfl rfl rfl dc126) ?_
              refine SOps.off rfl (wantX (c := (x124 == 1)) rfl rfl rfl dc126) ?_
              refine SOps.off rfl (wantX (c := (x124 == 1)) rfl rfl rfl dc126) ?_
              refine SOps.off rfl (wantX (c := (x124 == 1)) rfl rfl rfl dc126) ?_
              refine SOps.val (v := .bool false) rfl (wantN rfl) (fun w => ev_pickF (v := .bool false) rfl (t := (x124 == 1)) rfl dc126 rfl w) ?_
              refine SOps.val (v := .bool false) rfl (wantN rfl) (fun _ => by kernel_rfl) ?_
              refine SOps.off rfl (wantX (c := false) rfl rfl rfl rfl) ?_
              refine SOps.off rfl (wantX (c := false) rfl rfl rfl rfl) ?_
              refine SOps.off rfl (wantX (c := false) rfl rfl rfl rfl) ?_
              refine SOps.off rfl (wantX (c := false) rfl rfl rfl rfl) ?_
              refine SOps.off rfl (wantX (c := false) rfl rfl rfl rfl) ?_
              refine SOps.off rfl (wantX (c := false) rfl rfl rfl rfl) ?_
              refine SOps.val (v := .bool false) rfl (wantN rfl) (fun w => ev_pickF (v := .bool false) rfl (t := false) rfl rfl rfl w) ?_
              refine SOps.val (v := .bool false) rfl (wantN rfl) (fun _ => by kernel_rfl) ?_
              refine SOps.off rfl (wantX (c := false) rfl rfl rfl rfl) ?_
              refine SOps.off rfl (wantX (c := false) rfl rfl rfl rfl) ?_
              refine SOps.off rfl (wantX (c := false) rfl rfl rfl rfl) ?_
              refine SOps.off rfl (wantX (c := false) rfl rfl rfl rfl) ?_
              refine SOps.off rfl (wantX (c := false) rfl rfl rfl rfl) ?_
              refine SOps.off rfl (wantX (c := false) rfl rfl rfl rfl) ?_
              refine SOps.val (v := .bool false) rfl (wantN rfl) (fun w => ev_pickF (v := .bool false) rfl (t := false) rfl rfl rfl w) ?_
              refine SOps.val (v := .bool false) rfl (wantN rfl) (fun _ => by kernel_rfl) ?_
              refine SOps.off rfl (wantX (c := false) rfl rfl rfl rfl) ?_
              refine SOps.off rfl (wantX (c := false) rfl rfl rfl rfl) ?_
              refine SOps.off rfl (wantX (c := false) rfl rfl rfl rfl) ?_
              refine SOps.off rfl (wantX (c := false) rfl rfl rfl rfl) ?_
              refine SOps.off rfl (wantX (c := false) rfl rfl rfl rfl) ?_
              refine SOps.val (v := .bool false) rfl (wantN rfl) (fun w => ev_pickF (v := .bool false) rfl (t := false) rfl rfl rfl w) ?_
              refine SOps.val (v := .bool false) rfl (wantN rfl) (fun _ => by kernel_rfl) ?_
              refine SOps.off rfl (wantX (c := false) rfl rfl rfl rfl) ?_
              refine SOps.off rfl (wantX (c := false) rfl rfl rfl rfl) ?_
              refine SOps.off rfl (wantX (c := false) rfl rfl rfl rfl) ?_
              refine SOps.off rfl (wantX (c := false) rfl rfl rfl rfl) ?_
              refine SOps.off rfl (wantX (c := false) rfl rfl rfl rfl) ?_
              refine SOps.val (v := .bool false) rfl (wantN rfl) (fun w => ev_pickF (v := .bool false) rfl (t := false) rfl rfl rfl w) ?_
              refine SOps.val (v := .bool false) rfl (wantN rfl) (fun _ => by kernel_rfl) ?_
              refine SOps.off rfl (wantX (c := false) rfl rfl rfl rfl) ?_
              refine SOps.off rfl (wantX (c := false) rfl rfl rfl rfl) ?_
              refine SOps.off rfl (wantX (c := false) rfl rfl rfl rfl) ?_
              refine SOps.val (v := .bool false) rfl (wantN rfl) (fun w => ev_pickF (v := .bool false) rfl (t := false) rfl rfl rfl w) ?_
              refine SOps.val (v := .bool false) rfl (wantN rfl) (fun _ => by kernel_rfl) ?_
              refine SOps.off rfl (wantX (c := false) rfl rfl rfl rfl) ?_
              refine SOps.off rfl (wantX (c := false) rfl rfl rfl rfl) ?_
              refine SOps.val (v := .bool false) rfl (wantN rfl) (fun w => ev_pickF (v := .bool false) rfl (t := false) rfl rfl rfl w) ?_
              refine SOps.val (v := .bool false) rfl (wantN rfl) (fun _ => by kernel_rfl) ?_
              refine SOps.off rfl (wantX (c := false) rfl rfl rfl rfl) ?_
              refine SOps.off rfl (wantX (c := false) rfl rfl rfl rfl) ?_
              refine SOps.off rfl (wantX (c := false) rfl rfl rfl rfl) ?_
              refine SOps.off rfl (wantX (c := false) rfl rfl rfl rfl) ?_
              refine SOps.off rfl (wantX (c := false) rfl rfl rfl rfl) ?_
              refine SOps.off rfl (wantX (c := false) rfl rfl rfl rfl) ?_
              refine SOps.val (v := .bool false) rfl (wantN rfl) (fun w => ev_pickF (v := .bool false) rfl (t := false) rfl rfl rfl w) ?_
              refine SOps.val (v := .bool false) rfl (wantN rfl) (fun _ => by kernel_rfl) ?_
              refine SOps.off rfl (wantX (c := false) rfl rfl rfl rfl) ?_
              refine SOps.off rfl (wantX (c := false) rfl rfl rfl rfl) ?_
              refine SOps.val (v := .bool false) rfl (wantN rfl) (fun w => ev_pickF (v := .bool false) rfl (t := false) rfl rfl rfl w) ?_
              refine SOps.val (v := .bool false) rfl (wantN rfl) (fun _ => by kernel_rfl) ?_
              refine SOps.off rfl (wantX (c := false) rfl rfl rfl rfl) ?_
              refine SOps.off rfl (wantX (c := false) rfl rfl rfl rfl) ?_
              refine SOps.off rfl (wantX (c := false) rfl rfl rfl rfl) ?_
              refine SOps.off rfl (wantX (c := false) rfl rfl rfl rfl) ?_
              refine SOps.val (v := .bool false) rfl (wantN rfl) (fun w => ev_pickF (v := .bool false) rfl (t := false) rfl rfl rfl w) ?_
              refine SOps.val (v := .bool false) rfl (wantN rfl) (fun _ => by kernel_rfl) ?_
              refine SOps.off rfl (wantX (c := false) rfl rfl rfl rfl) ?_
              refine SOps.off rfl (wantX (c := false) rfl rfl rfl rfl) ?_
              refine SOps.off rfl (wantX (c := false) rfl rfl rfl rfl) ?_
              refine SOps.val (v := .bool false) rfl (wantN rfl) (fun w => ev_pickF (v := .bool false) rfl (t := false) rfl rfl rfl w) ?_
              refine SOps.val (v := .bool false) rfl (wantN rfl) (fun _ => by kernel_rfl) ?_
              refine SOps.nil ?_
              obtain ⟨Hr, hr, h⟩ := h
              exact SW.ret (retQ.mk (.bool false) (res1 rfl rfl) hr ⟨false, rfl, h⟩)
          · skip
            refine SW.blockJ (fun fr H => ∃ (g : Fr) (x109 : Int) (s110 : ByteArray) (p111 : Option (Nat × Nat)), fr = g.upds [(1, (.int .i64 x109 : Value)), (2, (.string s110 : Value)), (7, pv p111)] ∧ ladinglaw14_DiskBounds.j4 F K x109 s110 p111 H) ?_ ?_
            · clear h
              rintro fr H ⟨g, x109, s110, p111, rfl, h⟩
              unfold ladinglaw14_DiskBounds.j4 at h
              exact ⟨_, x109, s110, p111, Fr.upds_self _ _ ⟨rfl, rfl, rfl, trivial⟩, h⟩
            · skip
              refine SW.seq ?_
              refine SW.region ?_
              refine SOps.val (v := .bool false) rfl (wantN rfl) (fun _ => by kernel_rfl) ?_
              refine SOps.val (v := .bool true) rfl (wantN rfl) (fun _ => by kernel_rfl) ?_
              refine SOps.val (v := .bool true) rfl (wantN rfl) (fun _ => by kernel_rfl) ?_
              refine SOps.nil ?_
              refine SW.cond_t (t := true) rfl rfl ?_
              refine SW.seq ?_
              refine SW.region ?_
              refine SOps.val (v := errV e97) rfl (wantN rfl) (fun _ => by kernel_rfl) ?_
              refine SOps.enter rfl (wantN rfl) (fun _ => by kernel_rfl) (api_Code.sound F e97 H101 _ h) ?_
              clear h
              rintro v H103 ⟨x102, rfl, h⟩
              refine SOps.val (v := .bool (x102 != 2)) rfl (wantN rfl) (fun _ => by kernel_rfl) ?_
              refine SOps.val (v := .bool (x102 != 2)) rfl (wantN rfl) (fun _ => by kernel_rfl) ?_
              by_cases c104 : x102 ≠ 2
              · replace h := h.1 c104
                have dc104 : (x102 != 2) = true := (bne_iff_ne.mpr c104)
                refine SOps.off rfl (wantX (c := (x102 != 2)) rfl rfl rfl dc104) ?_
                refine SOps.off rfl (wantX (c := (x102 != 2)) rfl rfl rfl dc104) ?_
                refine SOps.off rfl (wantX (c := (x102 != 2)) rfl rfl rfl dc104) ?_
                refine SOps.val (v := .bool true) rfl (wantN rfl) (fun w => ev_pickT (v := .bool true) rfl (t := (x102 != 2)) rfl dc104 rfl w) ?_
                refine SOps.val (v := .bool true) rfl (wantN rfl) (fun _ => by kernel_rfl) ?_
                refine SOps.off rfl (wantX (c := true) rfl rfl rfl rfl) ?_
                refine SOps.off rfl (wantX (c := true) rfl rfl rfl rfl) ?_
                refine SOps.val (v := .bool true) rfl (wantN rfl) (fun w => ev_pickT (v := .bool true) rfl (t := true) rfl rfl rfl w) ?_
                refine SOps.nil ?_
                refine SW.cond_t (t := true) rfl rfl ?_
                refine SW.seq ?_
                refine SW.region ?_
                refine SOps.val (v := .bool false) rfl (wantN rfl) (fun _ => by kernel_rfl) ?_
                refine SOps.nil ?_
                obtain ⟨Hr, hr, h⟩ := h
                exact SW.ret (retQ.mk (.bool false) (res1 rfl rfl) hr ⟨false, rfl, h⟩)
              · replace h := h.2 c104
                have dc104 : (x102 != 2) = false := (by simpa using c104)
                refine SOps.val (v := errV e100) rfl (wantY (c := (x102 != 2)) rfl rfl rfl dc104) (fun _ => by kernel_rfl) ?_
                refine SOps.enter rfl (wantY (c := (x102 != 2)) rfl rfl rfl dc104) (fun _ => by kernel_rfl) (api_Code.sound F e100 H103 _ h) ?_
                clear h
                rintro v H106 ⟨x105, rfl, h⟩
                refine SOps.val (v := .bool (x105 != 2)) rfl (wantY (c := (x102 != 2)) rfl rfl rfl dc104) (fun _ => by kernel_rfl) ?_
                refine SOps.val (v := .bool (x105 != 2)) rfl (wantN rfl) (fun w => ev_pickF (v := .bool (x105 != 2)) rfl (t := (x102 != 2)) rfl dc104 rfl w) ?_
                refine SOps.val (v := .bool (x105 != 2)) rfl (wantN rfl) (fun _ => by kernel_rfl) ?_
                by_cases c107 : x105 ≠ 2
                · replace h := h.1 c107
                  have dc107 : (x105 != 2) = true := (bne_iff_ne.mpr c107)
                  refine SOps.off rfl (wantX (c := (x105 != 2)) rfl rfl rfl dc107) ?_
                  refine SOps.off rfl (wantX (c := (x105 != 2)) rfl rfl rfl dc107) ?_
                  refine SOps.val (v := .bool true) rfl (wantN rfl) (fun w => ev_pickT (v := .bool true) rfl (t := (x105 != 2)) rfl dc107 rfl w) ?_
                  refine SOps.nil ?_
                  refine SW.cond_t (t := true) rfl rfl ?_
                  refine SW.seq ?_
                  refine SW.region ?_
                  refine SOps.val (v := .bool false) rfl (wantN rfl) (fun _ => by kernel_rfl) ?_
                  refine SOps.nil ?_
                  obtain ⟨Hr, hr, h⟩ := h
                  exact SW.ret (retQ.mk (.bool false) (res1 rfl rfl) hr ⟨false, rfl, h⟩)
                · replace h := h.2 c107
                  have dc107 : (x105 != 2) = false := (by simpa using c107)
                  refine SOps.val (v := .string s99) rfl (wantY (c := (x105 != 2)) rfl rfl rfl dc107) (fun _ => by kernel_rfl) ?_
                  refine SOps.val (v := .bool (!decide (s99 = ByteArray.empty))) rfl (wantY (c := (x105 != 2)) rfl rfl rfl dc107) (fun w => ev_neS rfl rfl rfl w) ?_
                  refine SOps.val (v := .bool (!decide (s99 = ByteArray.empty))) rfl (wantN rfl) (fun w => ev_pickF (v := .bool (!decide (s99 = ByteArray.empty))) rfl (t := (x105 != 2)) rfl dc107 rfl w) ?_
                  refine SOps.nil ?_
                  by_cases c108 : (s99 = ByteArray.empty)
                  · replace h := h.1 c108
                    have dc108 : (decide (s99 = ByteArray.empty)) = true := (decide_eq_true c108)
                    refine SW.cond_f (t := !decide (s99 = ByteArray.empty)) rfl (not_t dc108) ?_
                    refine SW.skip ?_
                    exact ⟨_, x2, s3, p8, Fr.upds_self _ _ ⟨rfl, rfl, rfl, trivial⟩, h⟩
                  · replace h := h.2 c108
                    have dc108 : (decide (s99 = ByteArray.empty)) = false := (decide_eq_false c108)
                    refine SW.cond_t (t := !decide (s99 = ByteArray.empty)) rfl (not_f dc108) ?_
                    refine SW.seq ?_
                    refine SW.region ?_
                    refine SOps.val (v := .bool false) rfl (wantN rfl) (fun _ => by kernel_rfl) ?_
                    refine SOps.nil ?_
                    obtain ⟨Hr, hr, h⟩ := h
                    exact SW.ret (retQ.mk (.bool false) (res1 rfl rfl) hr ⟨false, rfl, h⟩)
  · replace h := h.2 c6
    have dc6 : q4 = false := (Bool.eq_false_iff.mpr c6)
    refine SW.cond_t (t := !q4) rfl (not_f dc6) ?_
    refine SW.seq ?_
    refine SW.region ?_
    refine SOps.val (v := .bool false) rfl (wantN rfl) (fun _ => by kernel_rfl) ?_
    refine SOps.nil ?_
    obtain ⟨Hr, hr, h⟩ := h
    exact SW.ret (retQ.mk (.bool false) (res1 rfl rfl) hr ⟨false, rfl, h⟩)

end Go.Proofs.YtknhlipealekoaaDoor.K
