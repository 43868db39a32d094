import Derived.Test.YtknhlipealekoaaDoorGladinglaw15
set_option linter.unusedVariables false
set_option linter.unusedSimpArgs false
set_option maxRecDepth 100000
namespace Go.Proofs.YtknhlipealekoaaDoor.K
open Go
attribute [local irreducible] SW SOps SQ SCalls retQ

/-! ### lading/ladinglaw15.JournalPlays: function 7 -/
def ladinglaw15_JournalPlays.j1 (F : Nat) (K : Bool → SH → Prop) (R1 : Option (Nat × Nat) → Option (Nat × Nat) → Sl → Int → Sl → Int → Int → SH → Prop) (p199 : Option (Nat × Nat)) (p200 : Option (Nat × Nat)) (l201 : Sl) (x202 : Int) (l203 : Sl) (x204 : Int) (x205 : Int) (H : SH) : Prop :=
  R1 p199 p200 l201 x202 l203 x204 (w64 (x205 + 1)) H
def ladinglaw15_JournalPlays.j2 (F : Nat) (K : Bool → SH → Prop) (R1 : Option (Nat × Nat) → Option (Nat × Nat) → Sl → Int → Sl → Int → Int → SH → Prop) (p188 : Option (Nat × Nat)) (p189 : Option (Nat × Nat)) (l190 : Sl) (x191 : Int) (l192 : Sl) (x193 : Int) (x194 : Int) (H : SH) : Prop :=
  ladinglaw15_JournalPlays.j1 F K R1 p188 p189 l190 x191 l192 x193 x194 H
def ladinglaw15_JournalPlays.j3 (F : Nat) (K : Bool → SH → Prop) (R1 : Option (Nat × Nat) → Option (Nat × Nat) → Sl → Int → Sl → Int → Int → SH → Prop) (p177 : Option (Nat × Nat)) (p178 : Option (Nat × Nat)) (l179 : Sl) (x180 : Int) (l181 : Sl) (x182 : Int) (x183 : Int) (H : SH) : Prop :=
  disk_Disk_Down.wp F p177 H (fun q185 H186 =>
    (q185 = true →
      ladinglaw15_JournalPlays.j2 F K R1 p177 p178 l179 x180 l181 x182 x183 H186
    ) ∧ (¬ (q185 = true) →
      ladinglaw15_has.wp F p177 p178 l179 H186 (fun q195 H196 =>
        (q195 = true →
          ladinglaw15_JournalPlays.j2 F K R1 p177 p178 l179 x180 l181 x182 x183 H196
        ) ∧ (¬ (q195 = true) →
          ∃ Hr, SH.le Hr H196 ∧ K false Hr
        )
      )
    )
  )
def ladinglaw15_JournalPlays.j4 (F : Nat) (K : Bool → SH → Prop) (R1 : Option (Nat × Nat) → Option (Nat × Nat) → Sl → Int → Sl → Int → Int → SH → Prop) (p115 : Option (Nat × Nat)) (p116 : Option (Nat × Nat)) (l117 : Sl) (x118 : Int) (l119 : Sl) (x120 : Int) (x121 : Int) (H : SH) : Prop :=
  ladinglaw15_JournalPlays.j3 F K R1 p115 p116 l117 x118 l119 x120 x121 H
def ladinglaw15_JournalPlays.j7 (F : Nat) (K : Bool → SH → Prop) (R1 : Option (Nat × Nat) → Option (Nat × Nat) → Sl → Int → Sl → Int → Int → SH → Prop) (p82 : Option (Nat × Nat)) (p83 : Option (Nat × Nat)) (l84 : Sl) (x85 : Int) (b86 : Nat) (e87 : Option EV) (l88 : Sl) (x89 : Int) (x90 : Int) (H : SH) : Prop :=
  ∃ H94, SH.le H94 H ∧
  ∃ (l104 : SlW),
  SH.has H94 (b86, 2) (swv l104) ∧
  ∃ w124, SH.row H l84.a w124 ∧
  (∀ b102, H b102 = none → AppendQ (SH.upd H b102 (⟨[], 9, false, 0⟩ : AO)) 9 1 16 (⟨some (b102, 0), 0, 0⟩ : Sl) l84.len w124 (fun l106 H107 => SH.le H94 H107 ∧
    ∃ w122, SH.rowW H107 l104.a w122 ∧
    AppendQ H107 9 1 16 l106 l104.len w122 (fun l109 H110 =>
      ∃ (x111 : Int),
      SH.has H110 (b86, 0) (.int .i64 x111) ∧
      (x111 = 1 →
        (e87 = none →
          ladinglaw15_JournalPlays.j4 F K R1 p82 p83 l109 (l109.len : Int) l88 x89 x90 H110
        ) ∧ (∀ v114, e87 = some v114 →
          ladinglaw15_JournalPlays.j4 F K R1 p82 p83 l109 x85 l88 x89 x90 H110
        )
      ) ∧ (¬ (x111 = 1) →
        ladinglaw15_JournalPlays.j4 F K R1 p82 p83 l109 x85 l88 x89 x90 H110
      )
    )
  ))
def ladinglaw15_JournalPlays.j6 (F : Nat) (K : Bool → SH → Prop) (R1 : Option (Nat × Nat) → Option (Nat × Nat) → Sl → Int → Sl → Int → Int → SH → Prop) (p62 : Option (Nat × Nat)) (p63 : Option (Nat × Nat)) (l64 : Sl) (x65 : Int) (b66 : Nat) (e67 : Option EV) (l68 : Sl) (x69 : Int) (x70 : Int) (H : SH) : Prop :=
  api_Code.wp F e67 H (fun x75 H76 =>
    (x75 ≠ 0 →
      (x75 ≠ 8 →
        ∃ Hr, SH.le Hr H76 ∧ K false Hr
      ) ∧ (¬ (x75 ≠ 8) →
        disk_Disk_Down.wp F p62 H76 (fun q79 H80 =>
          ((x75 != 0) ≠ q79 →
            ∃ Hr, SH.le Hr H80 ∧ K false Hr
          ) ∧ (¬ ((x75 != 0) ≠ q79) →
            ladinglaw15_JournalPlays.j7 F K R1 p62 p63 l64 x65 b66 e67 l68 x69 x70 H80
          )
        )
      )
    ) ∧ (¬ (x75 ≠ 0) →
      disk_Disk_Down.wp F p62 H76 (fun q91 H92 =>
        ((x75 != 0) ≠ q91 →
          ∃ Hr, SH.le Hr H92 ∧ K false Hr
        ) ∧ (¬ ((x75 != 0) ≠ q91) →
          ladinglaw15_JournalPlays.j7 F K R1 p62 p63 l64 x65 b66 e67 l68 x69 x70 H92
        )
      )
    )
  )
def ladinglaw15_JournalPlays.j5 (F : Nat) (K : Bool → SH → Prop) (R1 : Option (Nat × Nat) → Option (Nat × Nat) → Sl → Int → Sl → Int → Int → SH → Prop) (p44 : Option (Nat × Nat)) (p45 : Option (Nat × Nat)) (l46 : Sl) (x47 : Int) (b48 : Nat) (l49 : Sl) (x50 : Int) (x51 : Int) (x52 : Int) (q53 : Bool) (H : SH) : Prop :=
  (q53 = true →
    ∃ (x55 : Int),
    SH.has H (b48, 0) (.int .i64 x55) ∧
    (x55 = 0 →
      ∃ (l58 : SlW),
      SH.has H (b48, 2) (swv l58) ∧
      journal_Journal_Put__w1.wp F p45 l58 H (fun e60 H61 =>
        ladinglaw15_JournalPlays.j6 F K R1 p44 p45 l46 x47 b48 e60 l49 x50 x51 H61
      )
    ) ∧ (¬ (x55 = 0) →
      ∃ (l71 : SlW),
      SH.has H (b48, 2) (swv l71) ∧
      journal_Journal_Write__w1.wp F p45 l71 H (fun e73 H74 =>
        ladinglaw15_JournalPlays.j6 F K R1 p44 p45 l46 x47 b48 e73 l49 x50 x51 H74
      )
    )
  ) ∧ (¬ (q53 = true) →
    (x52 = 2 →
      journal_Journal_Flush.wp F p45 H (fun e129 H130 =>
        (e129 = none →
          ∃ (q132 : Bool),
          disk_Disk_Down.wp F p44 H130 (fun q132' H' => q132' = q132 ∧ H' = H130) ∧
          (false ≠ q132 →
            ∃ Hr, SH.le Hr H130 ∧ K false Hr
          ) ∧ (¬ (false ≠ q132) →
            ladinglaw15_JournalPlays.j4 F K R1 p44 p45 l46 (l46.len : Int) l49 x50 x51 H130
          )
        ) ∧ (∀ v131, e129 = some v131 →
          ∃ (q135 : Bool),
          disk_Disk_Down.wp F p44 H130 (fun q135' H' => q135' = q135 ∧ H' = H130) ∧
          (true ≠ q135 →
            ∃ Hr, SH.le Hr H130 ∧ K false Hr
          ) ∧ (¬ (true ≠ q135) →
            ladinglaw15_JournalPlays.j4 F K R1 p44 p45 l46 x47 l49 x50 x51 H130
          )
        )
      )
    ) ∧ (¬ (x52 = 2) →
      (x52 = 3 →
        disk_Disk_Down.wp F p44 H (fun q139 H140 =>
          (q139 = true →
            ladinglaw15_JournalPlays.j4 F K R1 p44 p45 l46 x47 l49 x50 x51 H140
          ) ∧ (¬ (q139 = true) →
            ∃ (x142 : Int),
            SH.has H140 (b48, 1) (.int .i64 x142) ∧
            disk_Disk_Fuse.wp F p44 x142 H140 (fun H144 =>
              ladinglaw15_JournalPlays.j4 F K R1 p44 p45 l46 x47 l49 x50 x51 H144
            )
          )
        )
      ) ∧ (¬ (x52 = 3) →
        (x52 = 4 →
          ∃ (l146 : SlW) (x147 : Int),
          SH.row H (some (b48, 3)) [swv l146, .int .i64 x147] ∧
          disk_Disk_Crash__w1.wp F p44 l146 x147 H (fun H149 =>
            journal_Open.wp F p44 H149 (fun p150 e151 H152 =>
              (e151 = none →
                journal_Journal_All.wp F p150 H152 (fun l154 H155 =>
                  ((l154.len : Int) < x47 →
                    ∃ Hr, SH.le Hr H155 ∧ K false Hr
                  ) ∧ (¬ ((l154.len : Int) < x47) →
                    ((l154.len : Int) > (l46.len : Int) →
                      ∃ Hr, SH.le Hr H155 ∧ K false Hr
                    ) ∧ (¬ ((l154.len : Int) > (l46.len : Int)) →
                      0 ≤ (0 : Int) ∧
                      (0 : Int) ≤ (l154.len : Int) ∧
                      (l154.len : Int) ≤ (l46.cap : Int) ∧
                      ladingref09_Same.wp F l154 (Sl.sub 1 l46 (0 : Int).toNat (l154.len : Int).toNat l46.cap) H155 (fun q161 H162 =>
                        (q161 = true →
                          journal_Open.wp F p44 H162 (fun p164 e165 H166 =>
                            (e165 = none →
                              journal_Journal_All.wp F p164 H166 (fun l168 H169 =>
                                ladingref09_Same.wp F l168 l154 H169 (fun q170 H171 =>
                                  (q170 = true →
                                    disk_Disk_Waits.wp F p44 H171 (fun x173 H174 =>
                                      (x173 ≠ 0 →
                                        ∃ Hr, SH.le Hr H174 ∧ K false Hr
                                      ) ∧ (¬ (x173 ≠ 0) →
                                        ladinglaw15_JournalPlays.j4 F K R1 p44 p150 l154 (l154.len : Int) l49 x50 x51 H174
                                      )
                                    )
                                  ) ∧ (¬ (q170 = true) →
                                    ∃ Hr, SH.le Hr H171 ∧ K false Hr
                                  )
                                )
                              )
                            ) ∧ (∀ v167, e165 = some v167 →
                              ∃ Hr, SH.le Hr H166 ∧ K false Hr
                            )
                          )
                        ) ∧ (¬ (q161 = true) →
                          ∃ Hr, SH.le Hr H162 ∧ K false Hr
                        )
                      )
                    )
                  )
                )
              ) ∧ (∀ v153, e151 = some v153 →
                ∃ Hr, SH.le Hr H152 ∧ K false Hr
              )
            )
          )
        ) ∧ (¬ (x52 = 4) →
          ladinglaw15_JournalPlays.j4 F K R1 p44 p45 l46 x47 l49 x50 x51 H
        )
      )
    )
  )
def ladinglaw15_JournalPlays.r1 (F : Nat) (K : Bool → SH → Prop) (R1 : Option (Nat × Nat) → Option (Nat × Nat) → Sl → Int → Sl → Int → Int → SH → Prop) (p12 : Option (Nat × Nat)) (p13 : Option (Nat × Nat)) (l14 : Sl) (x15 : Int) (l16 : Sl) (x17 : Int) (x18 : Int) (H : SH) : Prop :=
  (x18 < x17 →
    ∃ p20, l16.a = some p20 ∧ 0 ≤ x18 ∧ x18 < (l16.len : Int) ∧
    ∃ (x24 : Int) (x25 : Int) (l26 : SlW) (l27 : SlW) (x28 : Int),
    SH.row H (some (p20.1, (p20.2 + x18.toNat * 5))) [.int .i64 x24, .int .i64 x25, swv l26, swv l27, .int .i64 x28] ∧
    ∀ b30, H b30 = none →
    SH.wrs (SH.upd H b30 ⟨[.int .i64 0, .int .i64 0, sv Sl.nil, sv Sl.nil, .int .i64 0], 57, false, 5⟩) (b30, 0) 5 ∧
    ∃ (l33 : SlW),
    SH.has (SH.setl (SH.upd H b30 ⟨[.int .i64 0, .int .i64 0, sv Sl.nil, sv Sl.nil, .int .i64 0], 57, false, 5⟩) (b30, 0) [.int .i64 x24, .int .i64 x25, swv l26, swv l27, .int .i64 x28]) (b30, 2) (swv l33) ∧
    ladinglaw15_great__w0.wp F l33 (SH.setl (SH.upd H b30 ⟨[.int .i64 0, .int .i64 0, sv Sl.nil, sv Sl.nil, .int .i64 0], 57, false, 5⟩) (b30, 0) [.int .i64 x24, .int .i64 x25, swv l26, swv l27, .int .i64 x28]) (fun q35 H36 =>
      (q35 = true →
        ∃ Hr, SH.le Hr H36 ∧ K true Hr
      ) ∧ (¬ (q35 = true) →
        ∃ (l38 : SlW),
        SH.has H36 (b30, 3) (swv l38) ∧
        ((l38.len : Int) > 100 →
          ∃ Hr, SH.le Hr H36 ∧ K true Hr
        ) ∧ (¬ ((l38.len : Int) > 100) →
          ∃ (x41 : Int),
          SH.has H36 (b30, 0) (.int .i64 x41) ∧
          (x41 = 0 →
            ladinglaw15_JournalPlays.j5 F K R1 p12 p13 l14 x15 b30 l16 x17 x18 x41 (x41 == 0) H36
          ) ∧ (¬ (x41 = 0) →
            ladinglaw15_JournalPlays.j5 F K R1 p12 p13 l14 x15 b30 l16 x17 x18 x41 (x41 == 1) H36
          )
        )
      )
    )
  ) ∧ (¬ (x18 < x17) →
    ∃ Hr, SH.le Hr H ∧ K true Hr
  )
def ladinglaw15_JournalPlays.l1 (F : Nat) (K : Bool → SH → Prop) : Nat → Option (Nat × Nat) → Option (Nat × Nat) → Sl → Int → Sl → Int → Int → SH → Prop
  | 0, _, _, _, _, _, _, _, _ => False
  | k + 1, p12, p13, l14, x15, l16, x17, x18, H => ladinglaw15_JournalPlays.r1 F K (ladinglaw15_JournalPlays.l1 F K k) p12 p13 l14 x15 l16 x17 x18 H
def ladinglaw15_JournalPlays.wp (F : Nat) (l1 : Sl) (H : SH) (K : Bool → SH → Prop) : Prop :=
  ladinglaw15_awake.wp F  H (fun q2 H3 =>
    (q2 = true →
      ((l1.len : Int) > 60 →
        ∃ Hr, SH.le Hr H3 ∧ K true Hr
      ) ∧ (¬ ((l1.len : Int) > 60) →
        disk_New.wp F 0 H3 (fun p6 H7 =>
          journal_Open.wp F p6 H7 (fun p8 e9 H10 =>
            (e9 = none →
              ladinglaw15_JournalPlays.l1 F K F p6 p8 Sl.nil 0 l1 (l1.len : Int) 0 H10
            ) ∧ (∀ v11, e9 = some v11 →
              ∃ Hr, SH.le Hr H10 ∧ K false Hr
            )
          )
        )
      )
    ) ∧ (¬ (q2 = true) →
      ∃ Hr, SH.le Hr H3 ∧ K false Hr
    )
  )
set_option maxHeartbeats 8000000 in
theorem ladinglaw15_JournalPlays.sound (F : Nat) (l1 : Sl) (H : SH) (K : Bool → SH → Prop) (h : ladinglaw15_JournalPlays.wp F l1 H K) : SCalls Tryd.prog 7 #[sv l1] H (fun v H' => ∃ (q211 : Bool), v = .bool q211 ∧ K q211 H') := by
  unfold ladinglaw15_JournalPlays.wp at h
  refine SCalls.body Tryd.func7 rfl (Nat.le_of_ble_eq_true rfl) ?_
  refine SW.seq ?_
  refine SW.region ?_
  refine SOps.val (v := .bool false) rfl (wantN rfl) (fun _ => by kernel_rfl) ?_
  refine SOps.nil ?_
  refine SW.seq ?_
  refine SW.seq ?_
  refine SW.region ?_
  refine SOps.enter rfl (wantN rfl) (fun _ => by kernel_rfl) (ladinglaw15_awake.sound F  H _ h) ?_
  clear h
  rintro v H3 ⟨q2, rfl, h⟩
  refine SOps.val (v := .bool (!q2)) rfl (wantN rfl) (fun _ => by kernel_rfl) ?_
  refine SOps.nil ?_
  by_cases c4 : q2 = true
  · replace h := h.1 c4
    have dc4 : q2 = true := c4
    refine SW.cond_f (t := !q2) rfl (not_t dc4) ?_
    refine SW.skip ?_
    refine SW.seq ?_
    refine SW.seq ?_
    refine SW.region ?_
    refine SOps.val (v := sv l1) rfl (wantN rfl) (fun _ => by kernel_rfl) ?_
    refine SOps.val (v := .int .i64 (l1.len : Int)) rfl (wantN rfl) (fun _ => by kernel_rfl) ?_
    refine SOps.val (v := .bool (decide ((l1.len : Int) > 60))) rfl (wantN rfl) (fun _ => by kernel_rfl) ?_
    refine SOps.nil ?_
    by_cases c5 : (l1.len : Int) > 60
    · replace h := h.1 c5
      have dc5 : (decide ((l1.len : Int) > 60)) = true := (decide_eq_true c5)
      refine SW.cond_t (t := decide ((l1.len : Int) > 60)) rfl dc5 ?_
      refine SW.seq ?_
      refine SW.region ?_
      refine SOps.val (v := .bool true) rfl (wantN rfl) (fun _ => by kernel_rfl) ?_
      refine SOps.nil ?_
      obtain ⟨Hr, hr, h⟩ := h
      exact SW.ret (retQ.mk (.bool true) (res1 rfl rfl) hr ⟨true, rfl, h⟩)
    · replace h := h.2 c5
      have dc5 : (decide ((l1.len : Int) > 60)) = false := (decide_eq_false c5)
      refine SW.cond_f (t := decide ((l1.len : Int) > 60)) rfl dc5 ?_
      refine SW.skip ?_
      refine SW.seq ?_
      refine SW.region ?_
      refine SOps.enter rfl (wantN rfl) (fun _ => by kernel_rfl) (disk_New.sound F 0 H3 _ h) ?_
      clear h
      rintro v H7 ⟨p6, rfl, h⟩
      refine SOps.val (v := pv p6) rfl (wantN rfl) (fun _ => by kernel_rfl) ?_
      refine SOps.nil ?_
      refine SW.seq ?_
      refine SW.region ?_
      refine SOps.val (v := pv p6) rfl (wantN rfl) (fun _ => by kernel_rfl) ?_
      refine SOps.enter rfl (wantN rfl) (fun _ => by kernel_rfl) (journal_Open.sound F p6 H7 _ h) ?_
      clear h
      rintro v H10 ⟨p8, e9, rfl, h⟩
      refine SOps.val (v := .tuple #[pv p8, errV e9]) rfl (wantN rfl) (fun _ => by kernel_rfl) ?_
      refine SOps.val (v := pv p8) rfl (wantN rfl) (fun _ => by kernel_rfl) ?_
      refine SOps.val (v := errV e9) rfl (wantN rfl) (fun _ => by kernel_rfl) ?_
      refine SOps.val (v := pv p8) rfl (wantN rfl) (fun _ => by kernel_rfl) ?_
      refine SOps.val (v := errV e9) rfl (wantN rfl) (fun _ => by kernel_rfl) ?_
      refine SOps.nil ?_
      refine SW.seq ?_
      refine SW.seq ?_
      refine SW.region ?_
      refine SOps.val (v := errV e9) rfl (wantN rfl) (fun _ => by kernel_rfl) ?_
      rcases e9 with _ | v11
      · replace h := h.1 rfl
        refine SOps.val (v := .bool false) rfl (wantN rfl) (fun w => ev_errNe (e := none) rfl Tryd.underlying28 rfl rfl w) ?_
        refine SOps.nil ?_
        refine SW.cond_f (t := false) rfl rfl ?_
        refine SW.skip ?_
        refine SW.seq ?_
        refine SW.region ?_
        refine SOps.val (v := sv Sl.nil) rfl (wantN rfl) (fun _ => by kernel_rfl) ?_
        refine SOps.nil ?_
        refine SW.seq ?_
        refine SW.region ?_
        refine SOps.val (v := .int .i64 0) rfl (wantN rfl) (fun _ => by kernel_rfl) ?_
        refine SOps.nil ?_
        refine SW.seq ?_
        refine SW.seq ?_
        refine SW.region ?_
        refine SOps.val (v := sv l1) rfl (wantN rfl) (fun _ => by kernel_rfl) ?_
        refine SOps.val (v := .int .i64 (l1.len : Int)) rfl (wantN rfl) (fun _ => by kernel_rfl) ?_
        refine SOps.val (v := .int .i64 0) rfl (wantN rfl) (fun _ => by kernel_rfl) ?_
        refine SOps.nil ?_
        refine SW.block ?_
        refine SW.loop (fun k1 fr H => ∃ (g : Fr) (p12 : Option (Nat × Nat)) (p13 : Option (Nat × Nat)) (l14 : Sl) (x15 : Int) (l16 : Sl) (x17 : Int) (x18 : Int), fr = g.upds [(3, pv p12), (4, pv p13), (6, sv l14), (7, (.int .i64 x15 : Value)), (31, sv l16), (32, (.int .i64 x17 : Value)), (33, (.int .i64 x18 : Value))] ∧ ladinglaw15_JournalPlays.l1 F K k1 p12 p13 l14 x15 l16 x17 x18 H) F ⟨_, p6, p8, Sl.nil, 0, l1, (l1.len : Int), 0, (Fr.upds_self _ _ ⟨rfl, rfl, rfl, rfl, rfl, rfl, rfl, trivial⟩), h⟩ ?_
        clear h
        rintro k1 fr H ⟨g, p12, p13, l14, x15, l16, x17, x18, rfl, h⟩
        cases k1 with
        | zero => exact h.elim
        | succ k1 =>
          replace h : ladinglaw15_JournalPlays.r1 F K (ladinglaw15_JournalPlays.l1 F K k1) p12 p13 l14 x15 l16 x17 x18 H := h
          unfold ladinglaw15_JournalPlays.r1 at h
          refine SW.seq ?_
          refine SW.region ?_
          refine SOps.val (v := .bool (decide (x18 < x17))) rfl (wantN rfl) (fun _ => by kernel_rfl) ?_
          refine SOps.nil ?_
          refine SW.seq ?_
          by_cases c19 : x18 < x17
          · replace h := h.1 c19
            have dc19 : (decide (x18 < x17)) = true := (decide_eq_true c19)
            refine SW.cond_t (t := decide (x18 < x17)) rfl dc19 ?_
            refine SW.skip ?_
            refine SW.seqJ (fun fr H => ∃ (g : Fr) (p199 : Option (Nat × Nat)) (p200 : Option (Nat × Nat)) (l201 : Sl) (x202 : Int) (l203 : Sl) (x204 : Int) (x205 : Int), fr = g.upds [(3, pv p199), (4, pv p200), (6, sv l201), (7, (.int .i64 x202 : Value)), (31, sv l203), (32, (.int .i64 x204 : Value)), (33, (.int .i64 x205 : Value))] ∧ ladinglaw15_JournalPlays.j1 F K (ladinglaw15_JournalPlays.l1 F K k1) p199 p200 l201 x202 l203 x204 x205 H) ?_ ?_
            · clear h
              rintro fr H ⟨g, p199, p200, l201, x202, l203, x204, x205, rfl, h⟩
              unfold ladinglaw15_JournalPlays.j1 at h
              refine SW.region ?_
              refine SOps.val (v := .int .i64 (w64 (x205 + 1))) rfl (wantN rfl) (fun _ => by kernel_rfl) ?_
              refine SOps.val (v := .int .i64 (w64 (x205 + 1))) rfl (wantN rfl) (fun _ => by kernel_rfl) ?_
              refine SOps.nil ?_
              exact ⟨k1, Nat.lt_succ_self k1, _, p199, p200, l201, x202, l203, x204, w64 (x205 + 1), (Fr.upds_self _ _ ⟨rfl, rfl, rfl, rfl, rfl, rfl, rfl, trivial⟩), h⟩
            · skip
              refine SW.blockJ (fun fr H => ∃ (g : Fr) (p188 : Option (Nat × Nat)) (p189 : Option (Nat × Nat)) (l190 : Sl) (x191 : Int) (l192 : Sl) (x193 : Int) (x194 : Int), fr = g.upds [(3, pv p188), (4, pv p189), (6, sv l190), (7, (.int .i64 x191 : Value)), (31, sv l192), (32, (.int .i64 x193 : Value)), (33, (.int .i64 x194 : Value))] ∧ ladinglaw15_JournalPlays.j2 F K (ladinglaw15_JournalPlays.l1 F K k1) p188 p189 l190 x191 l192 x193 x194 H) ?_ ?_
              · clear h
                rintro fr H ⟨g, p188, p189, l190, x191, l192, x193, x194, rfl, h⟩
                unfold ladinglaw15_JournalPlays.j2 at h
                exact ⟨_, p188, p189, l190, x191, l192, x193, x194, Fr.upds_self _ _ ⟨rfl, rfl, rfl, rfl, rfl, rfl, rfl, trivial⟩, h⟩
              · skip
                refine SW.seq ?_
                refine SW.region ?_
                obtain ⟨p20, c21, c22, c23, h⟩ := h
                refine SOps.val (v := pv (some (p20.1, (p20.2 + x18.toNat * 5)))) rfl (wantN rfl) (fun w => ev_iaddr rfl Tryd.underlying51 (size := 5) (by kernel_rfl) rfl rfl c21 c22 c23 w) ?_
                obtain ⟨x24, x25, l26, l27, x28, c29, h⟩ := h
                refine SOps.rd (v := .agg #[.int .i64 x24, .int .i64 x25, swv l26, swv l27, .int .i64 x28]) rfl (wantN rfl) (fun w hw => ev_loadN rfl (fun _ => by kernel_rfl) (size := 5) (by kernel_rfl) (p := (p20.1, (p20.2 + x18.toNat * 5))) rfl rfl c29 w hw) ?_
                refine SOps.alloc rfl rfl (wantN rfl) (z := .agg #[.int .i64 0, .int .i64 0, sv Sl.nil, sv Sl.nil, .int .i64 0]) (by kernel_rfl) (fun b30 c31 => ?_)
                replace h := h b30 c31
                obtain ⟨c32, h⟩ := h
                refine SOps.storeL (p := (b30, 0)) (v := .agg #[.int .i64 x24, .int .i64 x25, swv l26, swv l27, .int .i64 x28]) (cs := [.int .i64 x24, .int .i64 x25, swv l26, swv l27, .int .i64 x28]) rfl rfl (wantN rfl) (size := 5) (by kernel_rfl) rfl rfl rfl rfl (by simp [Value.oneCell', errV_one, pv, sv, swv]) c32 ?_
                refine SOps.nil ?_
                refine SW.seq ?_
                refine SW.seq ?_
                refine SW.region ?_
                refine SOps.val (v := pv (some (b30, 2))) rfl (wantN rfl) (fun _ => by kernel_rfl) ?_
                obtain ⟨l33, c34, h⟩ := h
                refine SOps.rd (v := swv l33) rfl (wantN rfl) (fun w hw => ev_load1 rfl (fun _ => by kernel_rfl) (p := (b30, 2)) rfl c34 w hw) ?_
                refine SOps.enter rfl (wantN rfl) (fun _ => by kernel_rfl) (ladinglaw15_great__w0.sound F l33 (SH.setl (SH.upd H b30 ⟨[.int .i64 0, .int .i64 0, sv Sl.nil, sv Sl.nil, .int .i64 0], 57, false, 5⟩) (b30, 0) [.int .i64 x24, .int .i64 x25, swv l26, swv l27, .int .i64 x28]) _ h) ?_
                clear h
                rintro v H36 ⟨q35, rfl, h⟩
                refine SOps.val (v := .bool q35) rfl (wantN rfl) (fun _ => by kernel_rfl) ?_
                by_cases c37 : q35 = true
                · replace h := h.1 c37
                  have dc37 : q35 = true := c37
                  refine SOps.off rfl (wantX (c := q35) rfl rfl rfl dc37) ?_
                  refine SOps.off rfl (wantX (c := q35) rfl rfl rfl dc37) ?_
                  refine SOps.off rfl (wantX (c := q35) rfl rfl rfl dc37) ?_
                  refine SOps.off rfl (wantX (c := q35) rfl rfl rfl dc37) ?_
                  refine SOps.off rfl (wantX (c := q35) rfl rfl rfl dc37) ?_
                  refine SOps.val (v := .bool true) rfl (wantN rfl) (fun w => ev_pickT (v := .bool true) rfl (t := q35) rfl dc37 rfl w) ?_
                  refine SOps.nil ?_
                  refine SW.cond_t (t := true) rfl rfl ?_
                  refine SW.seq ?_
                  refine SW.region ?_
                  refine SOps.val (v := .bool true) rfl (wantN rfl) (fun _ => by kernel_rfl) ?_
                  refine SOps.nil ?_
                  obtain ⟨Hr, hr, h⟩ := h
                  exact SW.ret (retQ.mk (.bool true) (res1 rfl rfl) hr ⟨true, rfl, h⟩)
                · replace h := h.2 c37
                  have dc37 : q35 = false := (Bool.eq_false_iff.mpr c37)
                  refine SOps.val (v := pv (some (b30, 3))) rfl (wantY (c := q35) rfl rfl rfl dc37) (fun _ => by kernel_rfl) ?_
                  refine SOps.val (v := pv (some (b30, 3))) rfl (wantY (c := q35) rfl rfl rfl dc37) (fun _ => by kernel_rfl) ?_
                  obtain ⟨l38, c39, h⟩ := h
                  refine SOps.rd (v := swv l38) rfl (wantY (c := q35) rfl rfl rfl dc37) (fun w hw => ev_load1 rfl (fun _ => by kernel_rfl) (p := (b30, 3)) rfl c39 w hw) ?_
                  refine SOps.val (v := .int .i64 (l38.len : Int)) rfl (wantY (c := q35) rfl rfl rfl dc37) (fun _ => by kernel_rfl) ?_
                  refine SOps.val (v := .bool (decide ((l38.len : Int) > 100))) rfl (wantY (c := q35) rfl rfl rfl dc37) (fun _ => by kernel_rfl) ?_
                  refine SOps.val (v := .bool (decide ((l38.len : Int) > 100))) rfl (wantN rfl) (fun w => ev_pickF (v := .bool (decide ((l38.len : Int) > 100))) rfl (t := q35) rfl dc37 rfl w) ?_
                  refine SOps.nil ?_
                  by_cases c40 : (l38.len : Int) > 100
                  · replace h := h.1 c40
                    have dc40 : (decide ((l38.len : Int) > 100)) = true := (decide_eq_true c40)
                    refine SW.cond_t (t := decide ((l38.len : Int) > 100)) rfl dc40 ?_
                    refine SW.seq ?_
                    refine SW.region ?_
                    refine SOps.val (v := .bool true) rfl (wantN rfl) (fun _ => by kernel_rfl) ?_
                    refine SOps.nil ?_
                    obtain ⟨Hr, hr, h⟩ := h
                    exact SW.ret (retQ.mk (.bool true) (res1 rfl rfl) hr ⟨true, rfl, h⟩)
                  · replace h := h.2 c40
                    have dc40 : (decide ((l38.len : Int) > 100)) = false := (decide_eq_false c40)
                    refine SW.cond_f (t := decide ((l38.len : Int) > 100)) rfl dc40 ?_
                    refine SW.skip ?_
                    refine SW.seqJ (fun fr H => ∃ (g : Fr) (p177 : Option (Nat × Nat)) (p178 : Option (Nat × Nat)) (l179 : Sl) (x180 : Int) (l181 : Sl) (x182 : Int) (x183 : Int), fr = g.upds [(3, pv p177), (4, pv p178), (6, sv l179), (7, (.int .i64 x180 : Value)), (31, sv l181), (32, (.int .i64 x182 : Value)), (33, (.int .i64 x183 : Value))] ∧ ladinglaw15_JournalPlays.j3 F K (ladinglaw15_JournalPlays.l1 F K k1) p177 p178 l179 x180 l181 x182 x183 H) ?_ ?_
                    · clear h
                      rintro fr H ⟨g, p177, p178, l179, x180, l181, x182, x183, rfl, h⟩
                      unfold ladinglaw15_JournalPlays.j3 at h
                      refine SW.seq ?_
                      refine SW.seq ?_
                      refine SW.region ?_
                      refine SOps.val (v := pv p177) rfl (wantN rfl) (fun _ => by kernel_rfl) ?_
                      refine SOps.enter rfl (wantN rfl) (fun _ => by kernel_rfl) (disk_Disk_Down.sound F p177 H _ h) ?_
                      clear h
                      rintro v H186 ⟨q185, rfl, h⟩
                      refine SOps.nil ?_
                      by_cases c187 : q185 = true
                      · replace h := h.1 c187
                        have dc187 : q185 = true := c187
                        refine SW.cond_t (t := q185) rfl dc187 ?_
                        refine SW.exit ?_
                        exact ⟨_, p177, p178, l179, x180, l181, x182, x183, Fr.upds_self _ _ ⟨rfl, rfl, rfl, rfl, rfl, rfl, rfl, trivial⟩, h⟩
                      · replace h := h.2 c187
                        have dc187 : q185 = false := (Bool.eq_false_iff.mpr c187)
                        refine SW.cond_f (t := q185) rfl dc187 ?_
                        refine SW.skip ?_
                        refine SW.seq ?_
                        refine SW.region ?_
                        refine SOps.val (v := pv p177) rfl (wantN rfl) (fun _ => by kernel_rfl) ?_
                        refine SOps.val (v := pv p178) rfl (wantN rfl) (fun _ => by kernel_rfl) ?_
                        refine SOps.val (v := sv l179) rfl (wantN rfl) (fun _ => by kernel_rfl) ?_
                        refine SOps.enter rfl (wantN rfl) (fun _ => by kernel_rfl) (ladinglaw15_has.sound F p177 p178 l179 H186 _ h) ?_
                        clear h
                        rintro v H196 ⟨q195, rfl, h⟩
                        refine SOps.val (v := .bool (!q195)) rfl (wantN rfl) (fun _ => by kernel_rfl) ?_
                        refine SOps.nil ?_
                        by_cases c197 : q195 = true
                        · replace h := h.1 c197
                          have dc197 : q195 = true := c197
                          refine SW.cond_f (t := !q195) rfl (not_t dc197) ?_
                          refine SW.skip ?_
                          exact ⟨_, p177, p178, l179, x180, l181, x182, x183, Fr.upds_self _ _ ⟨rfl, rfl, rfl, rfl, rfl, rfl, rfl, trivial⟩, h⟩
                        · replace h := h.2 c197
                          have dc197 : q195 = false := (Bool.eq_false_iff.mpr c197)
                          refine SW.cond_t (t := !q195) rfl (not_f dc197) ?_
                          refine SW.seq ?_
                          refine SW.region ?_
                          refine SOps.val (v := .bool false) rfl (wantN rfl) (fun _ => by kernel_rfl) ?_
                          refine SOps.nil ?_
                          obtain ⟨Hr, hr, h⟩ := h
                          exact SW.ret (retQ.mk (.bool false) (res1 rfl rfl) hr ⟨false, rfl, h⟩)
                    · skip
                      refine SW.seq ?_
                      refine SW.region ?_
                      refine SOps.val (v := pv (some (b30, 0))) rfl (wantN rfl) (fun _ => by kernel_rfl) ?_
                      obtain ⟨x41, c42, h⟩ := h
                      refine SOps.rd (v := .int .i64 x41) rfl (wantN rfl) (fun w hw => ev_load1 rfl (fun _ => by kernel_rfl) (p := (b30, 0)) rfl c42 w hw) ?_
                      refine SOps.nil ?_
                      refine SW.blockJ (fun fr H => ∃ (g : Fr) (p115 : Option (Nat × Nat)) (p116 : Option (Nat × Nat)) (l117 : Sl) (x118 : Int) (l119 : Sl) (x120 : Int) (x121 : Int), fr = g.upds [(3, pv p115), (4, pv p116), (6, sv l117), (7, (.int .i64 x118 : Value)), (31, sv l119), (32, (.int .i64 x120 : Value)), (33, (.int .i64 x121 : Value))] ∧ ladinglaw15_JournalPlays.j4 F K (ladinglaw15_JournalPlays.l1 F K k1) p115 p116 l117 x118 l119 x120 x121 H) ?_ ?_
                      · clear h
                        rintro fr H ⟨g, p115, p116, l117, x118, l119, x120, x121, rfl, h⟩
                        unfold ladinglaw15_JournalPlays.j4 at h
                        exact ⟨_, p115, p116, l117, x118, l119, x120, x121, Fr.upds_self _ _ ⟨rfl, rfl, rfl, rfl, rfl, rfl, rfl, trivial⟩, h⟩
                      · skip
                        refine SW.seqJ (fun fr H => ∃ (g : Fr) (p44 : Option (Nat × Nat)) (p45 : Option (Nat × Nat)) (l46 : Sl) (x47 : Int) (b48 : Nat) (l49 : Sl) (x50 : Int) (x51 : Int) (x52 : Int) (q53 : Bool), fr = g.upds [(3, pv p44), (4, pv p45), (6, sv l46), (7, (.int .i64 x47 : Value)), (9, pv (some (b48, 0))), (31, sv l49), (32, (.int .i64 x50 : Value)), (33, (.int .i64 x51 : Value)), (48, (.int .i64 x52 : Value)), (49, (.bool q53 : Value))] ∧ ladinglaw15_JournalPlays.j5 F K (ladinglaw15_JournalPlays.l1 F K k1) p44 p45 l46 x47 b48 l49 x50 x51 x52 q53 H) ?_ ?_
                        · clear h
                          rintro fr H ⟨g, p44, p45, l46, x47, b48, l49, x50, x51, x52, q53, rfl, h⟩
                          unfold ladinglaw15_JournalPlays.j5 at h
                          by_cases c54 : q53 = true
                          · replace h := h.1 c54
                            have dc54 : q53 = true := c54
                            refine SW.cond_t (t := q53) rfl dc54 ?_
                            refine SW.seq ?_
                            refine SW.region ?_
                            refine SOps.val (v := errV none) rfl (wantN rfl) (fun _ => by kernel_rfl) ?_
                            refine SOps.nil ?_
                            refine SW.seqJ (fun fr H => ∃ (g : Fr) (p62 : Option (Nat × Nat)) (p63 : Option (Nat × Nat)) (l64 : Sl) (x65 : Int) (b66 : Nat) (e67 : Option EV) (l68 : Sl) (x69 : Int) (x70 : Int), fr = g.upds [(3, pv p62), (4, pv p63), (6, sv l64), (7, (.int .i64 x65 : Value)), (9, pv (some (b66, 0))), (10, errV e67), (31, sv l68), (32, (.int .i64 x69 : Value)), (33, (.int .i64 x70 : Value))] ∧ ladinglaw15_JournalPlays.j6 F K (ladinglaw15_JournalPlays.l1 F K k1) p62 p63 l64 x65 b66 e67 l68 x69 x70 H) ?_ ?_
                            · clear h
                              rintro fr H ⟨g, p62, p63, l64, x65, b66, e67, l68, x69, x70, rfl, h⟩
                              unfold ladinglaw15_JournalPlays.j6 at h
                              refine SW.seqJ (fun fr H => ∃ (g : Fr) (p82 : Option (Nat × Nat)) (p83 : Option (Nat × Nat)) (l84 : Sl) (x85 : Int) (b86 : Nat) (e87 : Option EV) (l88 : Sl) (x89 : Int) (x90 : Int), fr = g.upds [(3, pv p82), (4, pv p83), (6, sv l84), (7, (.int .i64 x85 : Value)), (9, pv (some (b86, 0))), (10, errV e87), (31, sv l88), (32, (.int .i64 x89 : Value)), (33, (.int .i64 x90 : Value))] ∧ ladinglaw15_JournalPlays.j7 F K (ladinglaw15_JournalPlays.l1 F K k1) p82 p83 l84 x85 b86 e87 l88 x89 x90 H) ?_ ?_
                              · clear h
                                rintro fr H ⟨g, p82, p83, l84, x85, b86, e87, l88, x89, x90, rfl, h⟩
                                unfold ladinglaw15_JournalPlays.j7 at h
                                refine SW.seq ?_
                                obtain ⟨H94, c95, h⟩ := h
                                obtain ⟨l104, c105, h⟩ := h
                                obtain ⟨w124, c125, h⟩ := h
                                obtain ⟨R96, m97, c108, k98⟩ := AppendQ.ex2 (l := fun b102 => (⟨some (b102, 0), 0, 0⟩ : Sl)) h
                                refine SW.drawW [] [.fresh 0 (fun b c => sv ⟨some (b, 0), 0, 0⟩) (fun c => (⟨[], 9, false, 0⟩ : AO)) (fun _ => True), .val (sv l84), .rel (fun H9 v9 T9 H8 => ∃ (l106 : Sl), v9 = sv l106 ∧ R96 l106 H8) (by rintro _ _ _ _ _ _ ⟨l106, e9, r9⟩ hle hT; exact ⟨l106, e9, m97 _ _ _ r9 hle⟩), .val (pv (some (b86, 2))), .val (swv l104)] [.d, .d, .w, .b, .b] 2 H94 (by kernel_rfl) (by kernel_rfl) (by kernel_rfl) c95 trivial (And.intro ?_ (And.intro ?_ (And.intro ?_ (And.intro ?_ (And.intro ?_ (trivial)))))) ?_
                                · try clear h
                                  intro fr' T' H' hle hs hA
                                  exact SA.fresh hle (fun h => SOps.lit (E := 9) (cs := #[]) rfl rfl (wantN rfl) (fun _ => by kernel_rfl) (fun b c => h b 0 c trivial))
                                · try clear h
                                  intro fr' T' H' hle hs hA
                                  have a6 : fr' 6 = sv l84 := hs 6 (by kernel_rfl)
                                  obtain ⟨g', hg'⟩ : ∃ g' : Fr, fr' = g'.upds [(6, sv l84)] := ⟨_, Fr.upds_self _ _ ⟨a6, trivial⟩⟩
                                  subst hg'
                                  exact SA.val (v := sv l84) rfl (wantN rfl) (fun _ => by kernel_rfl)
                                · try clear h
                                  intro fr' T' H' hle hs hA
                                  obtain ⟨b102, n103, a78, nb102, kb102, tb102, ob102⟩ := hA 0 (by kernel_rfl)
                                  have a79 : fr' 79 = sv l84 := hA 1 (by kernel_rfl)
                                  obtain ⟨g', hg'⟩ : ∃ g' : Fr, fr' = g'.upds [(78, sv (⟨some (b102, 0), 0, 0⟩ : Sl)), (79, sv l84)] := ⟨_, Fr.upds_self _ _ ⟨a78, a79, trivial⟩⟩
                                  subst hg'
                                  exact SA.wapp (R := R96) (p := fun H9 v9 T9 H8 => ∃ (l106 : Sl), v9 = sv l106 ∧ R96 l106 H8) (mono := (by rintro _ _ _ _ _ _ ⟨l106, e9, r9⟩ hle hT; exact ⟨l106, e9, m97 _ _ _ r9 hle⟩)) (SH.le.upd_in hle kb102) rfl (fun l1 H1 r => ⟨l1, rfl, r⟩) (fun k => SOps.append (z := .string ByteArray.empty) (size := 1) (bytes := 16) rfl rfl (wantN rfl) Tryd.underlying55 (by kernel_rfl) rfl rfl rfl (.inl ⟨⟨_, Tryd.underlying55⟩, _, rfl, rfl, rowLeD c125 (le_updD nb102)⟩) (AppendQ.mono (c108 b102 nb102) (by rintro l1 H1 ⟨g1, g2⟩; exact k l1 H1 g1 g2)))
                                · try clear h
                                  intro fr' T' H' hle hs hA
                                  have a9 : fr' 9 = pv (some (b86, 0)) := hs 9 (by kernel_rfl)
                                  obtain ⟨g', hg'⟩ : ∃ g' : Fr, fr' = g'.upds [(9, pv (some (b86, 0)))] := ⟨_, Fr.upds_self _ _ ⟨a9, trivial⟩⟩
                                  subst hg'
                                  exact SA.val (v := pv (some (b86, 2))) rfl (wantN rfl) (fun _ => by kernel_rfl)
                                · try clear h
                                  intro fr' T' H' hle hs hA
                                  have a81 : fr' 81 = pv (some (b86, 2)) := hA 3 (by kernel_rfl) (by kernel_rfl)
                                  obtain ⟨g', hg'⟩ : ∃ g' : Fr, fr' = g'.upds [(81, pv (some (b86, 2)))] := ⟨_, Fr.upds_self _ _ ⟨a81, trivial⟩⟩
                                  subst hg'
                                  exact SA.rdH (Hc := H94) hle (v := swv l104) rfl (wantN rfl) (fun w hw => ev_load1 rfl (fun _ => by kernel_rfl) (p := (b86, 2)) rfl c105 w hw)
                                · intro fr' T' H' hle hs hA
                                  have a3 : fr' 3 = pv p82 := hs 3 (by kernel_rfl)
                                  have a4 : fr' 4 = pv p83 := hs 4 (by kernel_rfl)
                                  have a7 : fr' 7 = (.int .i64 x85 : Value) := hs 7 (by kernel_rfl)
                                  have a9 : fr' 9 = pv (some (b86, 0)) := hs 9 (by kernel_rfl)
                                  have a10 : fr' 10 = errV e87 := hs 10 (by kernel_rfl)
                                  have a31 : fr' 31 = sv l88 := hs 31 (by kernel_rfl)
                                  have a32 : fr' 32 = (.int .i64 x89 : Value) := hs 32 (by kernel_rfl)
                                  have a33 : fr' 33 = (.int .i64 x90 : Value) := hs 33 (by kernel_rfl)
                                  obtain ⟨l106, a80, rR96⟩ := hA 2 (Nat.le_of_ble_eq_true rfl) (by kernel_rfl) (by kernel_rfl)
                                  have a82 : fr' 82 = swv l104 := hA 4 (Nat.le_of_ble_eq_true rfl) (by kernel_rfl) (by kernel_rfl)
                                  obtain ⟨g', hg'⟩ : ∃ g' : Fr, fr' = g'.upds [(3, pv p82), (4, pv p83), (7, (.int .i64 x85 : Value)), (9, pv (some (b86, 0))), (10, errV e87), (31, sv l88), (32, (.int .i64 x89 : Value)), (33, (.int .i64 x90 : Value)), (80, sv l106), (82, swv l104)] := ⟨_, Fr.upds_self _ _ ⟨a3, a4, a7, a9, a10, a31, a32, a33, a80, a82, trivial⟩⟩
                                  subst hg'
                                  obtain ⟨H107, g1, h⟩ := k98 _ _ rR96
                                  refine SOps.forget H107 g1 ?_
                                  clear g1
                                  clear hle hs hA
                                  obtain ⟨w122, c123, h⟩ := h
                                  refine SOps.appendG (z := .string ByteArray.empty) (size := 1) (bytes := 16) rfl rfl (wantN rfl) Tryd.underlying55 (by kernel_rfl) rfl rfl rfl (ReadsG.wide ⟨_, Tryd.underlying55⟩ rfl c123) (AppendQ.mono h ?_)
                                  clear h
                                  intro l109 H110 h
                                  refine SOps.val (v := sv l109) rfl (wantN rfl) (fun _ => by kernel_rfl) ?_
                                  refine SOps.nil ?_
                                  refine SW.seq ?_
                                  refine SW.region ?_
                                  refine SOps.val (v := pv (some (b86, 0))) rfl (wantN rfl) (fun _ => by kernel_rfl) ?_
                                  obtain ⟨x111, c112, h⟩ := h
                                  refine SOps.rd (v := .int .i64 x111) rfl (wantN rfl) (fun w hw => ev_load1 rfl (fun _ => by kernel_rfl) (p := (b86, 0)) rfl c112 w hw) ?_
                                  refine SOps.val (v := .bool (x111 == 1)) rfl (wantN rfl) (fun _ => by kernel_rfl) ?_
                                  refine SOps.val (v := .bool (x111 == 1)) rfl (wantN rfl) (fun _ => by kernel_rfl) ?_
                                  by_cases c113 : x111 = 1
                                  · replace h := h.1 c113
                                    have dc113 : (x111 == 1) = true := (beq_iff_eq.mpr c113)
                                    refine SOps.val (v := errV e87) rfl (wantY (c := (x111 == 1)) rfl rfl rfl dc113) (fun _ => by kernel_rfl) ?_
                                    rcases e87 with _ | v114
                                    · replace h := h.1 rfl
                                      refine SOps.val (v := .bool true) rfl (wantY (c := (x111 == 1)) rfl rfl rfl dc113) (fun w => ev_errEq (e := none) rfl Tryd.underlying28 rfl rfl w) ?_
                                      refine SOps.val (v := .bool true) rfl (wantN rfl) (fun w => ev_pickT (v := .bool true) rfl (t := (x111 == 1)) rfl dc113 rfl w) ?_
                                      refine SOps.nil ?_
                                      refine SW.cond_t (t := true) rfl rfl ?_
                                      refine SW.region ?_
                                      refine SOps.val (v := sv l109) rfl (wantN rfl) (fun _ => by kernel_rfl) ?_
                                      refine SOps.val (v := .int .i64 (l109.len : Int)) rfl (wantN rfl) (fun _ => by kernel_rfl) ?_
                                      refine SOps.val (v := .int .i64 (l109.len : Int)) rfl (wantN rfl) (fun _ => by kernel_rfl) ?_
                                      refine SOps.nil ?_
                                      exact ⟨_, p82, p83, l109, (l109.len : Int), l88, x89, x90, Fr.upds_self _ _ ⟨rfl, rfl, rfl, rfl, rfl, rfl, rfl, trivial⟩, h⟩
                                    · replace h := h.2 v114 rfl
                                      refine SOps.val (v := .bool false) rfl (wantY (c := (x111 == 1)) rfl rfl rfl dc113) (fun w => ev_errEq (e := some v114) rfl Tryd.underlying28 rfl rfl w) ?_
                                      refine SOps.val (v := .bool false) rfl (wantN rfl) (fun w => ev_pickT (v := .bool false) rfl (t := (x111 == 1)) rfl dc113 rfl w) ?_
                                      refine SOps.nil ?_
                                      refine SW.cond_f (t := false) rfl rfl ?_
                                      refine SW.skip ?_
                                      exact ⟨_, p82, p83, l109, x85, l88, x89, x90, Fr.upds_self _ _ ⟨rfl, rfl, rfl, rfl, rfl, rfl, rfl, trivial⟩, h⟩
                                  · replace h := h.2 c113
                                    have dc113 : (x111 == 1) = false := (beq_eq_false_iff_ne.mpr c113)
                                    refine SOps.off rfl (wantX (c := (x111 == 1)) rfl rfl rfl dc113) ?_
                                    refine SOps.off rfl (wantX (c := (x111 == 1)) rfl rfl rfl dc113) ?_
                                    refine SOps.val (v := .bool false) rfl (wantN rfl) (fun w => ev_pickF (v := .bool false) rfl (t := (x111 == 1)) rfl dc113 rfl w) ?_
                                    refine SOps.nil ?_
                                    refine SW.cond_f (t := false) rfl rfl ?_
                                    refine SW.skip ?_
                                    exact ⟨_, p82, p83, l109, x85, l88, x89, x90, Fr.upds_self _ _ ⟨rfl, rfl, rfl, rfl, rfl, rfl, rfl, trivial⟩, h⟩
                              · skip
                                refine SW.seq ?_
                                refine SW.region ?_
                                refine SOps.val (v := errV e67) rfl (wantN rfl) (fun _ => by kernel_rfl) ?_
                                refine SOps.enter rfl (wantN rfl) (fun _ => by kernel_rfl) (api_Code.sound F e67 H _ h) ?_
                                clear h
                                rintro v H76 ⟨x75, rfl, h⟩
                                refine SOps.val (v := .int .i64 x75) rfl (wantN rfl) (fun _ => by kernel_rfl) ?_
                                refine SOps.nil ?_
                                refine SW.seq ?_
                                refine SW.region ?_
                                refine SOps.val (v := .int .i64 x75) rfl (wantN rfl) (fun _ => by kernel_rfl) ?_
                                refine SOps.val (v := .bool (x75 != 0)) rfl (wantN rfl) (fun _ => by kernel_rfl) ?_
                                refine SOps.val (v := .bool (x75 != 0)) rfl (wantN rfl) (fun _ => by kernel_rfl) ?_
                                by_cases c77 : x75 ≠ 0
                                · replace h := h.1 c77
                                  have dc77 : (x75 != 0) = true := (bne_iff_ne.mpr c77)
                                  refine SOps.val (v := .int .i64 x75) rfl (wantY (c := (x75 != 0)) rfl rfl rfl dc77) (fun _ => by kernel_rfl) ?_
                                  refine SOps.val (v := .bool (x75 != 8)) rfl (wantY (c := (x75 != 0)) rfl rfl rfl dc77) (fun _ => by kernel_rfl) ?_
                                  refine SOps.val (v := .bool (x75 != 8)) rfl (wantN rfl) (fun w => ev_pickT (v := .bool (x75 != 8)) rfl (t := (x75 != 0)) rfl dc77 rfl w) ?_
                                  refine SOps.val (v := .bool (x75 != 8)) rfl (wantN rfl) (fun _ => by kernel_rfl) ?_
                                  by_cases c78 : x75 ≠ 8
                                  · replace h := h.1 c78
                                    have dc78 : (x75 != 8) = true := (bne_iff_ne.mpr c78)
                                    refine SOps.off rfl (wantX (c := (x75 != 8)) rfl rfl rfl dc78) ?_
                                    refine SOps.off rfl (wantX (c := (x75 != 8)) rfl rfl rfl dc78) ?_
                                    refine SOps.off rfl (wantX (c := (x75 != 8)) rfl rfl rfl dc78) ?_
                                    refine SOps.off rfl (wantX (c := (x75 != 8)) rfl rfl rfl dc78) ?_
                                    refine SOps.off rfl (wantX (c := (x75 != 8)) rfl rfl rfl dc78) ?_
                                    refine SOps.val (v := .bool true) rfl (wantN rfl) (fun w => ev_pickT (v := .bool true) rfl (t := (x75 != 8)) rfl dc78 rfl w) ?_
                                    refine SOps.nil ?_
                                    refine SW.cond_t (t := true) rfl rfl ?_
                                    refine SW.seq ?_
                                    refine SW.region ?_
                                    refine SOps.val (v := .bool false) rfl (wantN rfl) (fun _ => by kernel_rfl) ?_
                                    refine SOps.nil ?_
                                    obtain ⟨Hr, hr, h⟩ := h
                                    exact SW.ret (retQ.mk (.bool false) (res1 rfl rfl) hr ⟨false, rfl, h⟩)
                                  · replace h := h.2 c78
                                    have dc78 : (x75 != 8) = false := (by simpa using c78)
                                    refine SOps.val (v := .int .i64 x75) rfl (wantY (c := (x75 != 8)) rfl rfl rfl dc78) (fun _ => by kernel_rfl) ?_
                                    refine SOps.val (v := .bool (x75 != 0)) rfl (wantY (c := (x75 != 8)) rfl rfl rfl dc78) (fun _ => by kernel_rfl) ?_
                                    refine SOps.val (v := pv p62) rfl (wantY (c := (x75 != 8)) rfl rfl rfl dc78) (fun _ => by kernel_rfl) ?_
                                    refine SOps.enter rfl (wantY (c := (x75 != 8)) rfl rfl rfl dc78) (fun _ => by kernel_rfl) (disk_Disk_Down.sound F p62 H76 _ h) ?_
                                    clear h
                                    rintro v H80 ⟨q79, rfl, h⟩
                                    refine SOps.val (v := .bool ((x75 != 0) != q79)) rfl (wantY (c := (x75 != 8)) rfl rfl rfl dc78) (fun _ => by kernel_rfl) ?_
                                    refine SOps.val (v := .bool ((x75 != 0) != q79)) rfl (wantN rfl) (fun w => ev_pickF (v := .bool ((x75 != 0) != q79)) rfl (t := (x75 != 8)) rfl dc78 rfl w) ?_
                                    refine SOps.nil ?_
                                    by_cases c81 : (x75 != 0) ≠ q79
                                    · replace h := h.1 c81
                                      have dc81 : ((x75 != 0) != q79) = true := (bne_iff_ne.mpr c81)
                                      refine SW.cond_t (t := ((x75 != 0) != q79)) rfl dc81 ?_
                                      refine SW.seq ?_
                                      refine SW.region ?_
                                      refine SOps.val (v := .bool false) rfl (wantN rfl) (fun _ => by kernel_rfl) ?_
                                      refine SOps.nil ?_
                                      obtain ⟨Hr, hr, h⟩ := h
                                      exact SW.ret (retQ.mk (.bool false) (res1 rfl rfl) hr ⟨false, rfl, h⟩)
                                    · replace h := h.2 c81
                                      have dc81 : ((x75 != 0) != q79) = false := (by simpa using c81)
                                      refine SW.cond_f (t := ((x75 != 0) != q79)) rfl dc81 ?_
                                      refine SW.skip ?_
                                      exact ⟨_, p62, p63, l64, x65, b66, e67, l68, x69, x70, Fr.upds_self _ _ ⟨rfl, rfl, rfl, rfl, rfl, rfl, rfl, rfl, rfl, trivial⟩, h⟩
                                · replace h := h.2 c77
                                  have dc77 : (x75 != 0) = false := (by simpa using c77)
                                  refine SOps.off rfl (wantX (c := (x75 != 0)) rfl rfl rfl dc77) ?_
                                  refine SOps.off rfl (wantX (c := (x75 != 0)) rfl rfl rfl dc77) ?_
                                  refine SOps.val (v := .bool false) rfl (wantN rfl) (fun w => ev_pickF (v := .bool false) rfl (t := (x75 != 0)) rfl dc77 rfl w) ?_
                                  refine SOps.val (v := .bool false) rfl (wantN rfl) (fun _ => by kernel_rfl) ?_
                                  refine SOps.val (v := .int .i64 x75) rfl (wantY (c := false) rfl rfl rfl rfl) (fun _ => by kernel_rfl) ?_
                                  refine SOps.val (v := .bool (x75 != 0)) rfl (wantY (c := false) rfl rfl rfl rfl) (fun _ => by kernel_rfl) ?_
                                  refine SOps.val (v := pv p62) rfl (wantY (c := false) rfl rfl rfl rfl) (fun _ => by kernel_rfl) ?_
                                  refine SOps.enter rfl (wantY (c := false) rfl rfl rfl rfl) (fun _ => by kernel_rfl) (disk_Disk_Down.sound F p62 H76 _ h) ?_
                                  clear h
                                  rintro v H92 ⟨q91, rfl, h⟩
                                  refine SOps.val (v := .bool ((x75 != 0) != q91)) rfl (wantY (c := false) rfl rfl rfl rfl) (fun _ => by kernel_rfl) ?_
                                  refine SOps.val (v := .bool ((x75 != 0) != q91)) rfl (wantN rfl) (fun w => ev_pickF (v := .bool ((x75 != 0) != q91)) rfl (t := false) rfl rfl rfl w) ?_
                                  refine SOps.nil ?_
                                  by_cases c93 : (x75 != 0) ≠ q91
                                  · replace h := h.1 c93
                                    have dc93 : ((x75 != 0) != q91) = true := (bne_iff_ne.mpr c93)
                                    refine SW.cond_t (t := ((x75 != 0) != q91)) rfl dc93 ?_
                                    refine SW.seq ?_
                                    refine SW.region ?_
                                    refine SOps.val (v := .bool false) rfl (wantN rfl) (fun _ => by kernel_rfl) ?_
                                    refine SOps.nil ?_
                                    obtain ⟨Hr, hr, h⟩ := h
                                    exact SW.ret (retQ.mk (.bool false) (res1 rfl rfl) hr ⟨false, rfl, h⟩)
                                  · replace h := h.2 c93
                                    have dc93 : ((x75 != 0) != q91) = false := (by simpa using c93)
                                    refine SW.cond_f (t := ((x75 != 0) != q91)) rfl dc93 ?_
                                    refine SW.skip ?_
                                    exact ⟨_, p62, p63, l64, x65, b66, e67, l68, x69, x70, Fr.upds_self _ _ ⟨rfl, rfl, rfl, rfl, rfl, rfl, rfl, rfl, rfl, trivial⟩, h⟩
                            · skip
                              refine SW.seq ?_
                              refine SW.region ?_
                              refine SOps.val (v := pv (some (b48, 0))) rfl (wantN rfl) (fun _ => by kernel_rfl) ?_
                              obtain ⟨x55, c56, h⟩ := h
                              refine SOps.rd (v := .int .i64 x55) rfl (wantN rfl) (fun w hw => ev_load1 rfl (fun _ => by kernel_rfl) (p := (b48, 0)) rfl c56 w hw) ?_
                              refine SOps.val (v := .bool (x55 == 0)) rfl (wantN rfl) (fun _ => by kernel_rfl) ?_
                              refine SOps.nil ?_
                              by_cases c57 : x55 = 0
                              · replace h := h.1 c57
                                have dc57 : (x55 == 0) = true := (beq_iff_eq.mpr c57)
                                refine SW.cond_t (t := (x55 == 0)) rfl dc57 ?_
                                refine SW.region ?_
                                refine SOps.val (v := pv p45) rfl (wantN rfl) (fun _ => by kernel_rfl) ?_
                                refine SOps.val (v := pv (some (b48, 2))) rfl (wantN rfl) (fun _ => by kernel_rfl) ?_
                                obtain ⟨l58, c59, h⟩ := h
                                refine SOps.rd (v := swv l58) rfl (wantN rfl) (fun w hw => ev_load1 rfl (fun _ => by kernel_rfl) (p := (b48, 2)) rfl c59 w hw) ?_
                                refine SOps.enter rfl (wantN rfl) (fun _ => by kernel_rfl) (journal_Journal_Put__w1.sound F p45 l58 H _ h) ?_
                                clear h
                                rintro v H61 ⟨e60, rfl, h⟩
                                refine SOps.val (v := errV e60) rfl (wantN rfl) (fun _ => by kernel_rfl) ?_
                                refine SOps.nil ?_
                                exact ⟨_, p44, p45, l46, x47, b48, e60, l49, x50, x51, Fr.upds_self _ _ ⟨rfl, rfl, rfl, rfl, rfl, rfl, rfl, rfl, rfl, trivial⟩, h⟩
                              · replace h := h.2 c57
                                have dc57 : (x55 == 0) = false := (beq_eq_false_iff_ne.mpr c57)
                                refine SW.cond_f (t := (x55 == 0)) rfl dc57 ?_
                                refine SW.region ?_
                                refine SOps.val (v := pv p45) rfl (wantN rfl) (fun _ => by kernel_rfl) ?_
                                refine SOps.val (v := pv (some (b48, 2))) rfl (wantN rfl) (fun _ => by kernel_rfl) ?_
                                obtain ⟨l71, c72, h⟩ := h
                                refine SOps.rd (v := swv l71) rfl (wantN rfl) (fun w hw => ev_load1 rfl (fun _ => by kernel_rfl) (p := (b48, 2)) rfl c72 w hw) ?_
                                refine SOps.enter rfl (wantN rfl) (fun _ => by kernel_rfl) (journal_Journal_Write__w1.sound F p45 l71 H _ h) ?_
                                clear h
                                rintro v H74 ⟨e73, rfl, h⟩
                                refine SOps.val (v := errV e73) rfl (wantN rfl) (fun _ => by kernel_rfl) ?_
                                refine SOps.nil ?_
                                exact ⟨_, p44, p45, l46, x47, b48, e73, l49, x50, x51, Fr.upds_self _ _ ⟨rfl, rfl, rfl, rfl, rfl, rfl, rfl, rfl, rfl, trivial⟩, h⟩
                          · replace h := h.2 c54
                            have dc54 : q53 = false := (Bool.eq_false_iff.mpr c54)
                            refine SW.cond_f (t := q53) rfl dc54 ?_
                            refine SW.seq ?_
                            refine SW.region ?_
                            refine SOps.val (v := .bool (x52 == 2)) rfl (wantN rfl) (fun _ => by kernel_rfl) ?_
                            refine SOps.val (v := .bool (x52 == 2)) rfl (wantN rfl) (fun _ => by kernel_rfl) ?_
                            refine SOps.nil ?_
                            by_cases c128 : x52 = 2
                            · replace h := h.1 c128
                              have dc128 : (x52 == 2) = true := (beq_iff_eq.mpr c128)
                              refine SW.cond_t (t := (x52 == 2)) rfl dc128 ?_
                              refine SW.seq ?_
                              refine SW.region ?_
                              refine SOps.val (v := pv p45) rfl (wantN rfl) (fun _ => by kernel_rfl) ?_
                              refine SOps.enter rfl (wantN rfl) (fun _ => by kernel_rfl) (journal_Journal_Flush.sound F p45 H _ h) ?_
                              clear h
                              rintro v H130 ⟨e129, rfl, h⟩
                              refine SOps.val (v := errV e129) rfl (wantN rfl) (fun _ => by kernel_rfl) ?_
                              refine SOps.nil ?_
                              refine SW.seq ?_
                              refine SW.seq ?_
                              refine SW.draw (by kernel_rfl) (by kernel_rfl) ?_
                              refine SQ.val (v := errV e129) rfl (wantN rfl) (fun _ => by kernel_rfl) ?_
                              rcases e129 with _ | v131
                              · replace h := h.1 rfl
                                refine SQ.val (v := .bool false) rfl (wantN rfl) (fun w => ev_errNe (e := none) rfl Tryd.underlying28 rfl rfl w) ?_
                                refine SQ.val (v := pv p44) rfl (wantN rfl) (fun _ => by kernel_rfl) ?_
                                obtain ⟨q132, c133, h⟩ := h
                                refine SQ.enter (v := .bool q132) rfl (wantN rfl) (fun _ => by kernel_rfl) ((disk_Disk_Down.sound F p44 H130 _ c133).mono (by rintro v H' ⟨_, rfl, rfl, rfl⟩; exact ⟨rfl, rfl⟩)) ?_
                                refine SQ.val (v := .bool (false != q132)) rfl (wantN rfl) (fun _ => by kernel_rfl) ?_
                                refine SQ.nil ?_
                                by_cases c134 : false ≠ q132
                                · replace h := h.1 c134
                                  have dc134 : (false != q132) = true := (bne_iff_ne.mpr c134)
                                  refine SW.cond_t (t := (false != q132)) rfl dc134 ?_
                                  refine SW.seq ?_
                                  refine SW.region ?_
                                  refine SOps.val (v := .bool false) rfl (wantN rfl) (fun _ => by kernel_rfl) ?_
                                  refine SOps.nil ?_
                                  obtain ⟨Hr, hr, h⟩ := h
                                  exact SW.ret (retQ.mk (.bool false) (res1 rfl rfl) hr ⟨false, rfl, h⟩)
                                · replace h := h.2 c134
                                  have dc134 : (false != q132) = false := (by simpa using c134)
                                  refine SW.cond_f (t := (false != q132)) rfl dc134 ?_
                                  refine SW.skip ?_
                                  refine SW.seq ?_
                                  refine SW.region ?_
                                  refine SOps.val (v := errV none) rfl (wantN rfl) (fun _ => by kernel_rfl) ?_
                                  refine SOps.val (v := .bool true) rfl (wantN rfl) (fun w => ev_errEq (e := none) rfl Tryd.underlying28 rfl rfl w) ?_
                                  refine SOps.nil ?_
                                  refine SW.cond_t (t := true) rfl rfl ?_
                                  refine SW.region ?_
                                  refine SOps.val (v := sv l46) rfl (wantN rfl) (fun _ => by kernel_rfl) ?_
                                  refine SOps.val (v := .int .i64 (l46.len : Int)) rfl (wantN rfl) (fun _ => by kernel_rfl) ?_
                                  refine SOps.val (v := .int .i64 (l46.len : Int)) rfl (wantN rfl) (fun _ => by kernel_rfl) ?_
                                  refine SOps.nil ?_
                                  exact ⟨_, p44, p45, l46, (l46.len : Int), l49, x50, x51, Fr.upds_self _ _ ⟨rfl, rfl, rfl, rfl, rfl, rfl, rfl, trivial⟩, h⟩
                              · replace h := h.2 v131 rfl
                                refine SQ.val (v := .bool true) rfl (wantN rfl) (fun w => ev_errNe (e := some v131) rfl Tryd.underlying28 rfl rfl w) ?_
                                refine SQ.val (v := pv p44) rfl (wantN rfl) (fun _ => by kernel_rfl) ?_
                                obtain ⟨q135, c136, h⟩ := h
                                refine SQ.enter (v := .bool q135) rfl (wantN rfl) (fun _ => by kernel_rfl) ((disk_Disk_Down.sound F p44 H130 _ c136).mono (by rintro v H' ⟨_, rfl, rfl, rfl⟩; exact ⟨rfl, rfl⟩)) ?_
                                refine SQ.val (v := .bool (true != q135)) rfl (wantN rfl) (fun _ => by kernel_rfl) ?_
                                refine SQ.nil ?_
                                by_cases c137 : true ≠ q135
                                · replace h := h.1 c137
                                  have dc137 : (true != q135) = true := (bne_iff_ne.mpr c137)
                                  refine SW.cond_t (t := (true != q135)) rfl dc137 ?_
                                  refine SW.seq ?_
                                  refine SW.region ?_
                                  refine SOps.val (v := .bool false) rfl (wantN rfl) (fun _ => by kernel_rfl) ?_
                                  refine SOps.nil ?_
                                  obtain ⟨Hr, hr, h⟩ := h
                                  exact SW.ret (retQ.mk (.bool false) (res1 rfl rfl) hr ⟨false, rfl, h⟩)
                                · replace h := h.2 c137
                                  have dc137 : (true != q135) = false := (by simpa using c137)
                                  refine SW.cond_f (t := (true != q135)) rfl dc137 ?_
                                  refine SW.skip ?_
                                  refine SW.seq ?_
                                  refine SW.region ?_
                                  refine SOps.val (v := errV (some v131)) rfl (wantN rfl) (fun _ => by kernel_rfl) ?_
                                  refine SOps.val (v := .bool false) rfl (wantN rfl) (fun w => ev_errEq (e := some v131) rfl Tryd.underlying28 rfl rfl w) ?_
                                  refine SOps.nil ?_
                                  refine SW.cond_f (t := false) rfl rfl ?_
                                  refine SW.skip ?_
                                  exact ⟨_, p44, p45, l46, x47, l49, x50, x51, Fr.upds_self _ _ ⟨rfl, rfl, rfl, rfl, rfl, rfl, rfl, trivial⟩, h⟩
                            · replace h := h.2 c128
                              have dc128 : (x52 == 2) = false := (beq_eq_false_iff_ne.mpr c128)
                              refine SW.cond_f (t := (x52 == 2)) rfl dc128 ?_
                              refine SW.seq ?_
                              refine SW.region ?_
                              refine SOps.val (v := .bool (x52 == 3)) rfl (wantN rfl) (fun _ => by kernel_rfl) ?_
                              refine SOps.val (v := .bool (x52 == 3)) rfl (wantN rfl) (fun _ => by kernel_rfl) ?_
                              refine SOps.nil ?_
                              by_cases c138 : x52 = 3
                              · replace h := h.1 c138
                                have dc138 : (x52 == 3) = true := (beq_iff_eq.mpr c138)
                                refine SW.cond_t (t := (x52 == 3)) rfl dc138 ?_
                                refine SW.seq ?_
                                refine SW.region ?_
                                refine SOps.val (v := pv p44) rfl (wantN rfl) (fun _ => by kernel_rfl) ?_
                                refine SOps.enter rfl (wantN rfl) (fun _ => by kernel_rfl) (disk_Disk_Down.sound F p44 H _ h) ?_
                                clear h
                                rintro v H140 ⟨q139, rfl, h⟩
                                refine SOps.val (v := .bool (!q139)) rfl (wantN rfl) (fun _ => by kernel_rfl) ?_
                                refine SOps.nil ?_
                                by_cases c141 : q139 = true
                                · replace h := h.1 c141
                                  have dc141 : q139 = true := c141
                                  refine SW.cond_f (t := !q139) rfl (not_t dc141) ?_
                                  refine SW.skip ?_
                                  exact ⟨_, p44, p45, l46, x47, l49, x50, x51, Fr.upds_self _ _ ⟨rfl, rfl, rfl, rfl, rfl, rfl, rfl, trivial⟩, h⟩
                                · replace h := h.2 c141
                                  have dc141 : q139 = false := (Bool.eq_false_iff.mpr c141)
                                  refine SW.cond_t (t := !q139) rfl (not_f dc141) ?_
                                  refine SW.region ?_
                                  refine SOps.val (v := pv p44) rfl (wantN rfl) (fun _ => by kernel_rfl) ?_
                                  refine SOps.val (v := pv (some (b48, 1))) rfl (wantN rfl) (fun _ => by kernel_rfl) ?_
                                  obtain ⟨x142, c143, h⟩ := h
                                  refine SOps.rd (v := .int .i64 x142) rfl (wantN rfl) (fun w hw => ev_load1 rfl (fun _ => by kernel_rfl) (p := (b48, 1)) rfl c143 w hw) ?_
                                  refine SOps.enter rfl (wantN rfl) (fun _ => by kernel_rfl) (disk_Disk_Fuse.sound F p44 x142 H140 _ h) ?_
                                  clear h
                                  rintro v H144 ⟨rfl, h⟩
                                  refine SOps.nil ?_
                                  exact ⟨_, p44, p45, l46, x47, l49, x50, x51, Fr.upds_self _ _ ⟨rfl, rfl, rfl, rfl, rfl, rfl, rfl, trivial⟩, h⟩
                              · replace h := h.2 c138
                                have dc138 : (x52 == 3) = false := (beq_eq_false_iff_ne.mpr c138)
                                refine SW.cond_f (t := (x52 == 3)) rfl dc138 ?_
                                refine SW.seq ?_
                                refine SW.region ?_
                                refine SOps.val (v := .bool (x52 == 4)) rfl (wantN rfl) (fun _ => by kernel_rfl) ?_
                                refine SOps.val (v := .bool (x52 == 4)) rfl (wantN rfl) (fun _ => by kernel_rfl) ?_
                                refine SOps.nil ?_
                                by_cases c145 : x52 = 4
                                · replace h := h.1 c145
                                  have dc145 : (x52 == 4) = true := (beq_iff_eq.mpr c145)
                                  refine SW.cond_t (t := (x52 == 4)) rfl dc145 ?_
                                  refine SW.seq ?_
                                  refine SW.region ?_
                                  refine SOps.val (v := pv p44) rfl (wantN rfl) (fun _ => by kernel_rfl) ?_
                                  refine SOps.val (v := pv (some (b48, 3))) rfl (wantN rfl) (fun _ => by kernel_rfl) ?_
                                  obtain ⟨l146, x147, c148, h⟩ := h
                                  refine SOps.rd (v := .agg #[swv l146, .int .i64 x147]) rfl (wantN rfl) (fun w hw => ev_loadN rfl (fun _ => by kernel_rfl) (size := 2) (by kernel_rfl) (p := (b48, 3)) rfl rfl c148 w hw) ?_
                                  refine SOps.enter rfl (wantN rfl) (fun _ => by kernel_rfl) (disk_Disk_Crash__w1.sound F p44 l146 x147 H _ h) ?_
                                  clear h
                                  rintro v H149 ⟨rfl, h⟩
                                  refine SOps.nil ?_
                                  refine SW.seq ?_
                                  refine SW.region ?_
                                  refine SOps.val (v := pv p44) rfl (wantN rfl) (fun _ => by kernel_rfl) ?_
                                  refine SOps.enter rfl (wantN rfl) (fun _ => by kernel_rfl) (journal_Open.sound F p44 H149 _ h) ?_
                                  clear h
                                  rintro v H152 ⟨p150, e151, rfl, h⟩
                                  refine SOps.val (v := .tuple #[pv p150, errV e151]) rfl (wantN rfl) (fun _ => by kernel_rfl) ?_
                                  refine SOps.val (v := pv p150) rfl (wantN rfl) (fun _ => by kernel_rfl) ?_
                                  refine SOps.val (v := errV e151) rfl (wantN rfl) (fun _ => by kernel_rfl) ?_
                                  refine SOps.val (v := pv p150) rfl (wantN rfl) (fun _ => by kernel_rfl) ?_
                                  refine SOps.val (v := errV e151) rfl (wantN rfl) (fun _ => by kernel_rfl) ?_
                                  refine SOps.nil ?_
                                  refine SW.seq ?_
                                  refine SW.seq ?_
                                  refine SW.region ?_
                                  refine SOps.val (v := errV e151) rfl (wantN rfl) (fun _ => by kernel_rfl) ?_
                                  rcases e151 with _ | v153
                                  · replace h := h.1 rfl
                                    refine SOps.val (v := .bool false) rfl (wantN rfl) (fun w => ev_errNe (e := none) rfl Tryd.underlying28 rfl rfl w) ?_
                                    refine SOps.nil ?_
                                    refine SW.cond_f (t := false) rfl rfl ?_
                                    refine SW.skip ?_
                                    refine SW.seq ?_
                                    refine SW.region ?_
                                    refine SOps.val (v := pv p150) rfl (wantN rfl) (fun _ => by kernel_rfl) ?_
                                    refine SOps.enter rfl (wantN rfl) (fun _ => by kernel_rfl) (journal_Journal_All.sound F p150 H152 _ h) ?_
                                    clear h
                                    rintro v H155 ⟨l154, rfl, h⟩
                                    refine SOps.val (v := sv l154) rfl (wantN rfl) (fun _ => by kernel_rfl) ?_
                                    refine SOps.nil ?_
                                    refine SW.seq ?_
                                    refine SW.seq ?_
                                    refine SW.region ?_
                                    refine SOps.val (v := sv l154) rfl (wantN rfl) (fun _ => by kernel_rfl) ?_
                                    refine SOps.val (v := .int .i64 (l154.len : Int)) rfl (wantN rfl) (fun _ => by kernel_rfl) ?_
                                    refine SOps.val (v := .int .i64 x47) rfl (wantN rfl) (fun _ => by kernel_rfl) ?_
                                    refine SOps.val (v := .bool (decide ((l154.len : Int) < x47))) rfl (wantN rfl) (fun _ => by kernel_rfl) ?_
                                    refine SOps.val (v := .bool (decide ((l154.len : Int) < x47))) rfl (wantN rfl) (fun _ => by kernel_rfl) ?_
                                    by_cases c156 : (l154.len : Int) < x47
                                    · replace h := h.1 c156
                                      have dc156 : (decide ((l154.len : Int) < x47)) = true := (decide_eq_true c156)
                                      refine SOps.off rfl (wantX (c := decide ((l154.len : Int) < x47)) rfl rfl rfl dc156) ?_
                                      refine SOps.off rfl (wantX (c := decide ((l154.len : Int) < x47)) rfl rfl rfl dc156) ?_
                                      refine SOps.off rfl (wantX (c := decide ((l154.len : Int) < x47)) rfl rfl rfl dc156) ?_
                                      refine SOps.off rfl (wantX (c := decide ((l154.len : Int) < x47)) rfl rfl rfl dc156) ?_
                                      refine SOps.off rfl (wantX (c := decide ((l154.len : Int) < x47)) rfl rfl rfl dc156) ?_
                                      refine SOps.val (v := .bool true) rfl (wantN rfl) (fun w => ev_pickT (v := .bool true) rfl (t := decide ((l154.len : Int) < x47)) rfl dc156 rfl w) ?_
                                      refine SOps.val (v := .bool true) rfl (wantN rfl) (fun _ => by kernel_rfl) ?_
                                      refine SOps.off rfl (wantX (c := true) rfl rfl rfl rfl) ?_
                                      refine SOps.off rfl (wantX (c := true) rfl rfl rfl rfl) ?_
                                      refine SOps.off rfl (wantX (c := true) rfl rfl rfl rfl) ?_
                                      refine SOps.off rfl (wantX (c := true) rfl rfl rfl rfl) ?_
                                      refine SOps.off rfl (wantX (c := true) rfl rfl rfl rfl) ?_
                                      refine SOps.off rfl (wantX (c := true) rfl rfl rfl rfl) ?_
                                      refine SOps.off rfl (wantX (c := true) rfl rfl rfl rfl) ?_
                                      refine SOps.val (v := .bool true) rfl (wantN rfl) (fun w => ev_pickT (v := .bool true) rfl (t := true) rfl rfl rfl w) ?_
                                      refine SOps.nil ?_
                                      refine SW.cond_t (t := true) rfl rfl ?_
                                      refine SW.seq ?_
                                      refine SW.region ?_
                                      refine SOps.val (v := .bool false) rfl (wantN rfl) (fun _ => by kernel_rfl) ?_
                                      refine SOps.nil ?_
                                      obtain ⟨Hr, hr, h⟩ := h
                                      exact SW.ret (retQ.mk (.bool false) (res1 rfl rfl) hr ⟨false, rfl, h⟩)
                                    · replace h := h.2 c156
                                      have dc156 : (decide ((l154.len : Int) < x47)) = false := (decide_eq_false c156)
                                      refine SOps.val (v := sv l154) rfl (wantY (c := decide ((l154.len : Int) < x47)) rfl rfl rfl dc156) (fun _ => by kernel_rfl) ?_
                                      refine SOps.val (v := .int .i64 (l154.len : Int)) rfl (wantY (c := decide ((l154.len : Int) < x47)) rfl rfl rfl dc156) (fun _ => by kernel_rfl) ?_
                                      refine SOps.val (v := sv l46) rfl (wantY (c := decide ((l154.len : Int) < x47)) rfl rfl rfl dc156) (fun _ => by kernel_rfl) ?_
                                      refine SOps.val (v := .int .i64 (l46.len : Int)) rfl (wantY (c := decide ((l154.len : Int) < x47)) rfl rfl rfl dc156) (fun _ => by kernel_rfl) ?_
                                      refine SOps.val (v := .bool (decide ((l154.len : Int) > (l46.len : Int)))) rfl (wantY (c := decide ((l154.len : Int) < x47)) rfl rfl rfl dc156) (fun _ => by kernel_rfl) ?_
                                      refine SOps.val (v := .bool (decide ((l154.len : Int) > (l46.len : Int)))) rfl (wantN rfl) (fun w => ev_pickF (v := .bool (decide ((l154.len : Int) > (l46.len : Int)))) rfl (t := decide ((l154.len : Int) < x47)) rfl dc156 rfl w) ?_
                                      refine SOps.val (v := .bool (decide ((l154.len : Int) > (l46.len : Int)))) rfl (wantN rfl) (fun _ => by kernel_rfl) ?_
                                      by_cases c157 : (l154.len : Int) > (l46.len : Int)
                                      · replace h := h.1 c157
                                        have dc157 : (decide ((l154.len : Int) > (l46.len : Int))) = true := (decide_eq_true c157)
                                        refine SOps.off rfl (wantX (c := decide ((l154.len : Int) > (l46.len : Int))) rfl rfl rfl dc157) ?_
                                        refine SOps.off rfl (wantX (c := decide ((l154.len : Int) > (l46.len : Int))) rfl rfl rfl dc157) ?_
                                        refine SOps.off rfl (wantX (c := decide ((l154.len : Int) > (l46.len : Int))) rfl rfl rfl dc157) ?_
                                        refine SOps.off rfl (wantX (c := decide ((l154.len : Int) > (l46.len : Int))) rfl rfl rfl dc157) ?_
                                        refine SOps.off rfl (wantX (c := decide ((l154.len : Int) > (l46.len : Int))) rfl rfl rfl dc157) ?_
                                        refine SOps.off rfl (wantX (c := decide ((l154.len : Int) > (l46.len : Int))) rfl rfl rfl dc157) ?_
                                        refine SOps.off rfl (wantX (c := decide ((l154.len : Int) > (l46.len : Int))) rfl rfl rfl dc157) ?_
                                        refine SOps.val (v := .bool true) rfl (wantN rfl) (fun w => ev_pickT (v := .bool true) rfl (t := decide ((l154.len : Int) > (l46.len : Int))) rfl dc157 rfl w) ?_
                                        refine SOps.nil ?_
                                        refine SW.cond_t (t := true) rfl rfl ?_
                                        refine SW.seq ?_
                                        refine SW.region ?_
                                        refine SOps.val (v := .bool false) rfl (wantN rfl) (fun _ => by kernel_rfl) ?_
                                        refine SOps.nil ?_
                                        obtain ⟨Hr, hr, h⟩ := h
                                        exact SW.ret (retQ.mk (.bool false) (res1 rfl rfl) hr ⟨false, rfl, h⟩)
                                      · replace h := h.2 c157
                                        have dc157 : (decide ((l154.len : Int) > (l46.len : Int))) = false := (decide_eq_false c157)
                                        refine SOps.val (v := sv l154) rfl (wantY (c := decide ((l154.len : Int) > (l46.len : Int))) rfl rfl rfl dc157) (fun _ => by kernel_rfl) ?_
                                        refine SOps.val (v := sv l46) rfl (wantY (c := decide ((l154.len : Int) > (l46.len : Int))) rfl rfl rfl dc157) (fun _ => by kernel_rfl) ?_
                                        refine SOps.val (v := sv l154) rfl (wantY (c := decide ((l154.len : Int) > (l46.len : Int))) rfl rfl rfl dc157) (fun _ => by kernel_rfl) ?_
                                        refine SOps.val (v := .int .i64 (l154.len : Int)) rfl (wantY (c := decide ((l154.len : Int) > (l46.len : Int))) rfl rfl rfl dc157) (fun _ => by kernel_rfl) ?_
                                        obtain ⟨c158, c159, c160, h⟩ := h
                                        refine SOps.val (v := sv (Sl.sub 1 l46 (0 : Int).toNat (l154.len : Int).toNat l46.cap)) rfl (wantY (c := decide ((l154.len : Int) > (l46.len : Int))) rfl rfl rfl dc157) (fun w => ev_sub (a := (0 : Int)) (b := (l154.len : Int)) rfl Tryd.underlying55 (size := 1) (by kernel_rfl) rfl (Or.inl ⟨rfl, rfl⟩) (Or.inr ⟨_, rfl⟩) c158 c159 c160 w) ?_
                                        refine SOps.enter rfl (wantY (c := decide ((l154.len : Int) > (l46.len : Int))) rfl rfl rfl dc157) (fun _ => by kernel_rfl) (ladingref09_Same.sound F l154 (Sl.sub 1 l46 (0 : Int).toNat (l154.len : Int).toNat l46.cap) H155 _ h) ?_
                                        clear h
                                        rintro v H162 ⟨q161, rfl, h⟩
                                        refine SOps.val (v := .bool (!q161)) rfl (wantY (c := decide ((l154.len : Int) > (l46.len : Int))) rfl rfl rfl dc157) (fun _ => by kernel_rfl) ?_
                                        refine SOps.val (v := .bool (!q161)) rfl (wantN rfl) (fun w => ev_pickF (v := .bool (!q161)) rfl (t := decide ((l154.len : Int) > (l46.len : Int))) rfl dc157 rfl w) ?_
                                        refine SOps.nil ?_
                                        by_cases c163 : q161 = true
                                        · replace h := h.1 c163
                                          have dc163 : q161 = true := c163
                                          refine SW.cond_f (t := !q161) rfl (not_t dc163) ?_
                                          refine SW.skip ?_
                                          refine SW.seq ?_
                                          refine SW.region ?_
                                          refine SOps.val (v := pv p44) rfl (wantN rfl) (fun _ => by kernel_rfl) ?_
                                          refine SOps.enter rfl (wantN rfl) (fun _ => by kernel_rfl) (journal_Open.sound F p44 H162 _ h) ?_
                                          clear h
                                          rintro v H166 ⟨p164, e165, rfl, h⟩
                                          refine SOps.val (v := .tuple #[pv p164, errV e165]) rfl (wantN rfl) (fun _ => by kernel_rfl) ?_
                                          refine SOps.val (v := pv p164) rfl (wantN rfl) (fun _ => by kernel_rfl) ?_
                                          refine SOps.val (v := errV e165) rfl (wantN rfl) (fun _ => by kernel_rfl) ?_
                                          refine SOps.val (v := pv p164) rfl (wantN rfl) (fun _ => by kernel_rfl) ?_
                                          refine SOps.val (v := errV e165) rfl (wantN rfl) (fun _ => by kernel_rfl) ?_
                                          refine SOps.nil ?_
                                          refine SW.seq ?_
                                          refine SW.seq ?_
                                          refine SW.region ?_
                                          refine SOps.val (v := errV e165) rfl (wantN rfl) (fun _ => by kernel_rfl) ?_
                                          rcases e165 with _ | v167
                                          · replace h := h.1 rfl
                                            refine SOps.val (v := .bool false) rfl (wantN rfl) (fun w => ev_errNe (e := none) rfl Tryd.underlying28 rfl rfl w) ?_
                                            refine SOps.val (v := .bool false) rfl (wantN rfl) (fun _ => by kernel_rfl) ?_
                                            refine SOps.val (v := pv p164) rfl (wantY (c := false) rfl rfl rfl rfl) (fun _ => by kernel_rfl) ?_
                                            refine SOps.enter rfl (wantY (c := false) rfl rfl rfl rfl) (fun _ => by kernel_rfl) (journal_Journal_All.sound F p164 H166 _ h) ?_
                                            clear h
                                            rintro v H169 ⟨l168, rfl, h⟩
                                            refine SOps.val (v := sv l154) rfl (wantY (c := false) rfl rfl rfl rfl) (fun _ => by kernel_rfl) ?_
                                            refine SOps.enter rfl (wantY (c := false) rfl rfl rfl rfl) (fun _ => by kernel_rfl) (ladingref09_Same.sound F l168 l154 H169 _ h) ?_
                                            clear h
                                            rintro v H171 ⟨q170, rfl, h⟩
                                            refine SOps.val (v := .bool (!q170)) rfl (wantY (c := false) rfl rfl rfl rfl) (fun _ => by kernel_rfl) ?_
                                            refine SOps.val (v := .bool (!q170)) rfl (wantN rfl) (fun w => ev_pickF (v := .bool (!q170)) rfl (t := false) rfl rfl rfl w) ?_
                                            refine SOps.val (v := .bool (!q170)) rfl (wantN rfl) (fun _ => by kernel_rfl) ?_
                                            by_cases c172 : q170 = true
                                            · replace h := h.1 c172
                                              have dc172 : q170 = true := c172
                                              refine SOps.val (v := pv p44) rfl (wantY (c := !q170) rfl rfl rfl (not_t dc172)) (fun _ => by kernel_rfl) ?_
                                              refine SOps.enter rfl (wantY (c := !q170) rfl rfl rfl (not_t dc172)) (fun _ => by kernel_rfl) (disk_Disk_Waits.sound F p44 H171 _ h) ?_
                                              clear h
                                              rintro v H174 ⟨x173, rfl, h⟩
                                              refine SOps.val (v := .bool (x173 != 0)) rfl (wantY (c := !q170) rfl rfl rfl (not_t dc172)) (fun _ => by kernel_rfl) ?_
                                              refine SOps.val (v := .bool (x173 != 0)) rfl (wantN rfl) (fun w => ev_pickF (v := .bool (x173 != 0)) rfl (t := !q170) rfl (not_t dc172) rfl w) ?_
                                              refine SOps.nil ?_
                                              by_cases c175 : x173 ≠ 0
                                              · replace h := h.1 c175
                                                have dc175 : (x173 != 0) = true := (bne_iff_ne.mpr c175)
                                                refine SW.cond_t (t := (x173 != 0)) rfl dc175 ?_
                                                refine SW.seq ?_
                                                refine SW.region ?_
                                                refine SOps.val (v := .bool false) rfl (wantN rfl) (fun _ => by kernel_rfl) ?_
                                                refine SOps.nil ?_
                                                obtain ⟨Hr, hr, h⟩ := h
                                                exact SW.ret (retQ.mk (.bool false) (res1 rfl rfl) hr ⟨false, rfl, h⟩)
                                              · replace h := h.2 c175
                                                have dc175 : (x173 != 0) = false := (by simpa using c175)
                                                refine SW.cond_f (t := (x173 != 0)) rfl dc175 ?_
                                                refine SW.skip ?_
                                                refine SW.region ?_
                                                refine SOps.val (v := pv p150) rfl (wantN rfl) (fun _ => by kernel_rfl) ?_
                                                refine SOps.val (v := sv l154) rfl (wantN rfl) (fun _ => by kernel_rfl) ?_
                                                refine SOps.val (v := sv l154) rfl (wantN rfl) (fun _ => by kernel_rfl) ?_
                                                refine SOps.val (v := .int .i64 (l154.len : Int)) rfl (wantN rfl) (fun _ => by kernel_rfl) ?_
                                                refine SOps.val (v := pv p150) rfl (wantN rfl) (fun _ => by kernel_rfl) ?_
                                                refine SOps.val (v := sv l154) rfl (wantN rfl) (fun _ => by kernel_rfl) ?_
                                                refine SOps.val (v := .int .i64 (l154.len : Int)) rfl (wantN rfl) (fun _ => by kernel_rfl) ?_
                                                refine SOps.nil ?_
                                                exact ⟨_, p44, p150, l154, (l154.len : Int), l49, x50, x51, Fr.upds_self _ _ ⟨rfl, rfl, rfl, rfl, rfl, rfl, rfl, trivial⟩, h⟩
                                            · replace h := h.2 c172
                                              have dc172 : q170 = false := (Bool.eq_false_iff.mpr c172)
                                              refine SOps.off rfl (wantX (c := !q170) rfl rfl rfl (not_f dc172)) ?_
                                              refine SOps.off rfl (wantX (c := !q170) rfl rfl rfl (not_f dc172)) ?_
                                              refine SOps.off rfl (wantX (c := !q170) rfl rfl rfl (not_f dc172)) ?_
                                              refine SOps.val (v := .bool true) rfl (wantN rfl) (fun w => ev_pickT (v := .bool true) rfl (t := !q170) rfl (not_f dc172) rfl w) ?_
                                              refine SOps.nil ?_
                                              refine SW.cond_t (t := true) rfl rfl ?_
                                              refine SW.seq ?_
                                              refine SW.region ?_
                                              refine SOps.val (v := .bool false) rfl (wantN rfl) (fun _ => by kernel_rfl) ?_
                                              refine SOps.nil ?_
                                              obtain ⟨Hr, hr, h⟩ := h
                                              exact SW.ret (retQ.mk (.bool false) (res1 rfl rfl) hr ⟨false, rfl, h⟩)
                                          · replace h := h.2 v167 rfl
                                            refine SOps.val (v := .bool true) rfl (wantN rfl) (fun w => ev_errNe (e := some v167) rfl Tryd.underlying28 rfl rfl w) ?_
                                            refine SOps.val (v := .bool true) rfl (wantN rfl) (fun _ => by kernel_rfl) ?_
                                            refine SOps.off rfl (wantX (c := true) rfl rfl rfl rfl) ?_
                                            refine SOps.off rfl (wantX (c := true) rfl rfl rfl rfl) ?_
                                            refine SOps.off rfl (wantX (c := true) rfl rfl rfl rfl) ?_
                                            refine SOps.off rfl (wantX (c := true) rfl rfl rfl rfl) ?_
                                            refine SOps.off rfl (wantX (c := true) rfl rfl rfl rfl) ?_
                                            refine SOps.val (v := .bool true) rfl (wantN rfl) (fun w => ev_pickT (v := .bool true) rfl (t := true) rfl rfl rfl w) ?_
                                            refine SOps.val (v := .bool true) rfl (wantN rfl) (fun _ => by kernel_rfl) ?_
                                            refine SOps.off rfl (wantX (c := true) rfl rfl rfl rfl) ?_
                                            refine SOps.off rfl (wantX (c := true) rfl rfl rfl rfl) ?_
                                            refine SOps.off rfl (wantX (c := true) rfl rfl rfl rfl) ?_
                                            refine SOps.val (v := .bool true) rfl (wantN rfl) (fun w => ev_pickT (v := .bool true) rfl (t := true) rfl rfl rfl w) ?_
                                            refine SOps.nil ?_
                                            refine SW.cond_t (t := true) rfl rfl ?_
                                            refine SW.seq ?_
                                            refine SW.region ?_
                                            refine SOps.val (v := .bool false) rfl (wantN rfl) (fun _ => by kernel_rfl) ?_
                                            refine SOps.nil ?_
                                            obtain ⟨Hr, hr, h⟩ := h
                                            exact SW.ret (retQ.mk (.bool false) (res1 rfl rfl) hr ⟨false, rfl, h⟩)
                                        · replace h := h.2 c163
                                          have dc163 : q161 = false := (Bool.eq_false_iff.mpr c163)
                                          refine SW.cond_t (t := !q161) rfl (not_f dc163) ?_
                                          refine SW.seq ?_
                                          refine SW.region ?_
                                          refine SOps.val (v := .bool false) rfl (wantN rfl) (fun _ => by kernel_rfl) ?_
                                          refine SOps.nil ?_
                                          obtain ⟨Hr, hr, h⟩ := h
                                          exact SW.ret (retQ.mk (.bool false) (res1 rfl rfl) hr ⟨false, rfl, h⟩)
                                  · replace h := h.2 v153 rfl
                                    refine SOps.val (v := .bool true) rfl (wantN rfl) (fun w => ev_errNe (e := some v153) rfl Tryd.underlying28 rfl rfl w) ?_
                                    refine SOps.nil ?_
                                    refine SW.cond_t (t := true) rfl rfl ?_
                                    refine SW.seq ?_
                                    refine SW.region ?_
                                    refine SOps.val (v := .bool false) rfl (wantN rfl) (fun _ => by kernel_rfl) ?_
                                    refine SOps.nil ?_
                                    obtain ⟨Hr, hr, h⟩ := h
                                    exact SW.ret (retQ.mk (.bool false) (res1 rfl rfl) hr ⟨false, rfl, h⟩)
                                · replace h := h.2 c145
                                  have dc145 : (x52 == 4) = false := (beq_eq_false_iff_ne.mpr c145)
                                  refine SW.cond_f (t := (x52 == 4)) rfl dc145 ?_
                                  refine SW.skip ?_
                                  exact ⟨_, p44, p45, l46, x47, l49, x50, x51, Fr.upds_self _ _ ⟨rfl, rfl, rfl, rfl, rfl, rfl, rfl, trivial⟩, h⟩
                        · skip
                          refine SW.seq ?_
                          refine SW.region ?_
                          refine SOps.val (v := .bool (x41 == 0)) rfl (wantN rfl) (fun _ => by kernel_rfl) ?_
                          refine SOps.val (v := .bool (x41 == 0)) rfl (wantN rfl) (fun _ => by kernel_rfl) ?_
                          refine SOps.nil ?_
                          by_cases c43 : x41 = 0
                          · replace h := h.1 c43
                            have dc43 : (x41 == 0) = true := (beq_iff_eq.mpr c43)
                            refine SW.cond_t (t := (x41 == 0)) rfl dc43 ?_
                            refine SW.skip ?_
                            exact ⟨_, p12, p13, l14, x15, b30, l16, x17, x18, x41, (x41 == 0), Fr.upds_self _ _ ⟨rfl, rfl, rfl, rfl, rfl, rfl, rfl, rfl, rfl, rfl, trivial⟩, h⟩
                          · replace h := h.2 c43
                            have dc43 : (x41 == 0) = false := (beq_eq_false_iff_ne.mpr c43)
                            refine SW.cond_f (t := (x41 == 0)) rfl dc43 ?_
                            refine SW.region ?_
                            refine SOps.val (v := .bool (x41 == 1)) rfl (wantN rfl) (fun _ => by kernel_rfl) ?_
                            refine SOps.val (v := .bool (x41 == 1)) rfl (wantN rfl) (fun _ => by kernel_rfl) ?_
                            refine SOps.nil ?_
                            exact ⟨_, p12, p13, l14, x15, b30, l16, x17, x18, x41, (x41 == 1), Fr.upds_self _ _ ⟨rfl, rfl, rfl, rfl, rfl, rfl, rfl, rfl, rfl, rfl, trivial⟩, h⟩
          · replace h := h.2 c19
            have dc19 : (decide (x18 < x17)) = false := (decide_eq_false c19)
            refine SW.cond_f (t := decide (x18 < x17)) rfl dc19 ?_
            refine SW.exit ?_
            refine SW.seq ?_
            refine SW.region ?_
            refine SOps.val (v := .bool true) rfl (wantN rfl) (fun _ => by kernel_rfl) ?_
            refine SOps.nil ?_
            obtain ⟨Hr, hr, h⟩ := h
            exact SW.ret (retQ.mk (.bool true) (res1 rfl rfl) hr ⟨true, rfl, h⟩)
      · replace h := h.2 v11 rfl
        refine SOps.val (v := .bool true) rfl (wantN rfl) (fun w => ev_errNe (e := some v11) rfl Tryd.underlying28 rfl rfl w) ?_
        refine SOps.nil ?_
        refine SW.cond_t (t := true) rfl rfl ?_
        refine SW.seq ?_
        refine SW.region ?_
        refine SOps.val (v := .bool false) rfl (wantN rfl) (fun _ => by kernel_rfl) ?_
        refine SOps.nil ?_
        obtain ⟨Hr, hr, h⟩ := h
        exact SW.ret (retQ.mk (.bool false) (res1 rfl rfl) hr ⟨false, rfl, h⟩)
  · replace h := h.2 c4
    have dc4 : q2 = false := (Bool.eq_false_iff.mpr c4)
    refine SW.cond_t (t := !q2) rfl (not_f dc4) ?_
    refine SW.seq ?_
    refine SW.region ?_
    refine SOps.val (v := .bool false) rfl (wantN rfl) (fun _ => by kernel_rfl) ?_
    refine SOps.nil ?_
    obtain ⟨Hr, hr, h⟩ := h
    exact SW.ret (retQ.mk (.bool false) (res1 rfl rfl) hr ⟨false, rfl, h⟩)

end Go.Proofs.YtknhlipealekoaaDoor.K
