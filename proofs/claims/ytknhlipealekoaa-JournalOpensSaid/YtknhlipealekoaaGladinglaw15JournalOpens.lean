import Derived.Test.YtknhlipealekoaaGladinglaw15
set_option linter.unusedVariables false
set_option linter.unusedSimpArgs false
set_option maxRecDepth 100000
namespace Go.Proofs.Ytknhlipealekoaa.K
open Go
attribute [local irreducible] SW SOps SQ SCalls retQ

/-! ### lading/ladinglaw15.JournalOpens: function 4 -/
def ladinglaw15_JournalOpens.r1 (F : Nat) (K : Bool → SH → Prop) (R1 : ByteArray → Option (Nat × Nat) → Int → Sl → SH → Prop) (s18 : ByteArray) (p19 : Option (Nat × Nat)) (x20 : Int) (l21 : Sl) (H : SH) : Prop :=
  ladingref03_Next.wp F s18 x20 H (fun s22 x23 x24 H25 =>
    ∀ b26, H25 b26 = none →
    SH.wrs (SH.upd H25 b26 ⟨[.string ByteArray.empty, .int .i64 0, .int .i64 0], 43, false, 3⟩) (b26, 0) 3 ∧
    ∃ (x29 : Int),
    SH.has (SH.setl (SH.upd H25 b26 ⟨[.string ByteArray.empty, .int .i64 0, .int .i64 0], 43, false, 3⟩) (b26, 0) [.string s22, .int .i64 x23, .int .i64 x24]) (b26, 2) (.int .i64 x29) ∧
    (x29 ≠ 0 →
      journal_Open.wp F p19 (SH.setl (SH.upd H25 b26 ⟨[.string ByteArray.empty, .int .i64 0, .int .i64 0], 43, false, 3⟩) (b26, 0) [.string s22, .int .i64 x23, .int .i64 x24]) (fun p32 e33 H34 =>
        (e33 = none →
          journal_Journal_All.wp F p32 H34 (fun l36 H37 =>
            ladingref09_Same.wp F l36 l21 H37 (fun q38 H39 =>
              (q38 = true →
                journal_Journal_Bytes.wp F p32 H39 (fun x41 H42 =>
                  (x41 ≠ x20 →
                    ∃ Hr, SH.le Hr H42 ∧ K false Hr
                  ) ∧ (¬ (x41 ≠ x20) →
                    disk_Disk_Waits.wp F p19 H42 (fun x44 H45 =>
                      (x44 ≠ 0 →
                        ∃ Hr, SH.le Hr H45 ∧ K false Hr
                      ) ∧ (¬ (x44 ≠ 0) →
                        disk_Disk_Crash.wp F p19 Sl.nil 0 H45 (fun H47 =>
                          disk_Disk_Log.wp F p19 H47 (fun s48 e49 H50 =>
                            (e49 = none →
                              0 ≤ (0 : Int) ∧
                              (0 : Int) ≤ x20 ∧
                              x20 ≤ (s18.size : Int) ∧
                              ∃ Hr, SH.le Hr H50 ∧ K (decide (s48 = (s18.extract (0 : Int).toNat x20.toNat))) Hr
                            ) ∧ (∀ v51, e49 = some v51 →
                              ∃ Hr, SH.le Hr H50 ∧ K false Hr
                            )
                          )
                        )
                      )
                    )
                  )
                )
              ) ∧ (¬ (q38 = true) →
                ∃ Hr, SH.le Hr H39 ∧ K false Hr
              )
            )
          )
        ) ∧ (∀ v35, e33 = some v35 →
          ∃ Hr, SH.le Hr H34 ∧ K false Hr
        )
      )
    ) ∧ (¬ (x29 ≠ 0) →
      ∃ H55, SH.le H55 (SH.setl (SH.upd H25 b26 ⟨[.string ByteArray.empty, .int .i64 0, .int .i64 0], 43, false, 3⟩) (b26, 0) [.string s22, .int .i64 x23, .int .i64 x24]) ∧
      ∃ (s63 : ByteArray),
      SH.has (SH.setl (SH.upd H25 b26 ⟨[.string ByteArray.empty, .int .i64 0, .int .i64 0], 43, false, 3⟩) (b26, 0) [.string s22, .int .i64 x23, .int .i64 x24]) (b26, 0) (.string s63) ∧
      ∃ (x67 : Int),
      SH.has H55 (b26, 1) (.int .i64 x67) ∧
      (∀ b65, (SH.setl (SH.upd H25 b26 ⟨[.string ByteArray.empty, .int .i64 0, .int .i64 0], 43, false, 3⟩) (b26, 0) [.string s22, .int .i64 x23, .int .i64 x24]) b65 = none → AppendQ (SH.upd (SH.setl (SH.upd H25 b26 ⟨[.string ByteArray.empty, .int .i64 0, .int .i64 0], 43, false, 3⟩) (b26, 0) [.string s22, .int .i64 x23, .int .i64 x24]) b65 (⟨[.string s63], 9, false, 1⟩ : AO)) 9 1 16 l21 1 [.string s63] (fun l69 H70 => SH.le H55 H70 ∧
        R1 s18 p19 x67 l69 H70
      ))
    )
  )
def ladinglaw15_JournalOpens.l1 (F : Nat) (K : Bool → SH → Prop) : Nat → ByteArray → Option (Nat × Nat) → Int → Sl → SH → Prop
  | 0, _, _, _, _, _ => False
  | k + 1, s18, p19, x20, l21, H => ladinglaw15_JournalOpens.r1 F K (ladinglaw15_JournalOpens.l1 F K k) s18 p19 x20 l21 H
def ladinglaw15_JournalOpens.j1 (F : Nat) (K : Bool → SH → Prop) (s16 : ByteArray) (p17 : Option (Nat × Nat)) (H : SH) : Prop :=
  ladinglaw15_JournalOpens.l1 F K F s16 p17 0 Sl.nil H
def ladinglaw15_JournalOpens.wp (F : Nat) (s1 : ByteArray) (q2 : Bool) (H : SH) (K : Bool → SH → Prop) : Prop :=
  ladinglaw15_awake.wp F  H (fun q3 H4 =>
    (q3 = true →
      ((s1.size : Int) > 600 →
        ∃ Hr, SH.le Hr H4 ∧ K true Hr
      ) ∧ (¬ ((s1.size : Int) > 600) →
        disk_New.wp F 1 H4 (fun p7 H8 =>
          disk_Disk_Append.wp F p7 s1 H8 (fun e9 H10 =>
            (e9 = none →
              (q2 = true →
                disk_Disk_Sync.wp F p7 H10 (fun e13 H14 =>
                  (e13 = none →
                    ladinglaw15_JournalOpens.j1 F K s1 p7 H14
                  ) ∧ (∀ v15, e13 = some v15 →
                    ∃ Hr, SH.le Hr H14 ∧ K false Hr
                  )
                )
              ) ∧ (¬ (q2 = true) →
                ladinglaw15_JournalOpens.j1 F K s1 p7 H10
              )
            ) ∧ (∀ v11, e9 = some v11 →
              ∃ Hr, SH.le Hr H10 ∧ K false Hr
            )
          )
        )
      )
    ) ∧ (¬ (q3 = true) →
      ∃ Hr, SH.le Hr H4 ∧ K false Hr
    )
  )
set_option maxHeartbeats 8000000 in
theorem ladinglaw15_JournalOpens.sound (F : Nat) (s1 : ByteArray) (q2 : Bool) (H : SH) (K : Bool → SH → Prop) (h : ladinglaw15_JournalOpens.wp F s1 q2 H K) : SCalls Try.prog 4 #[.string s1, .bool q2] H (fun v H' => ∃ (q76 : Bool), v = .bool q76 ∧ K q76 H') := by
  unfold ladinglaw15_JournalOpens.wp at h
  refine SCalls.body Try.func4 rfl (Nat.le_of_ble_eq_true rfl) ?_
  refine SW.seq ?_
  refine SW.region ?_
  refine SOps.val (v := .bool false) rfl (wantN rfl) (fun _ => by kernel_rfl) ?_
  refine SOps.nil ?_
  refine SW.seq ?_
  refine SW.seq ?_
  refine SW.region ?_
  refine SOps.enter rfl (wantN rfl) (fun _ => by kernel_rfl) (ladinglaw15_awake.sound F  H _ h) ?_
  clear h
  rintro v H4 ⟨q3, rfl, h⟩
  refine SOps.val (v := .bool (!q3)) rfl (wantN rfl) (fun _ => by kernel_rfl) ?_
  refine SOps.nil ?_
  by_cases c5 : q3 = true
  · replace h := h.1 c5
    have dc5 : q3 = true := c5
    refine SW.cond_f (t := !q3) rfl (not_t dc5) ?_
    refine SW.skip ?_
    refine SW.seq ?_
    refine SW.seq ?_
    refine SW.region ?_
    refine SOps.val (v := .string s1) rfl (wantN rfl) (fun _ => by kernel_rfl) ?_
    refine SOps.val (v := .int .i64 (s1.size : Int)) rfl (wantN rfl) (fun _ => by kernel_rfl) ?_
    refine SOps.val (v := .bool (decide ((s1.size : Int) > 600))) rfl (wantN rfl) (fun _ => by kernel_rfl) ?_
    refine SOps.nil ?_
    by_cases c6 : (s1.size : Int) > 600
    · replace h := h.1 c6
      have dc6 : (decide ((s1.size : Int) > 600)) = true := (decide_eq_true c6)
      refine SW.cond_t (t := decide ((s1.size : Int) > 600)) rfl dc6 ?_
      refine SW.seq ?_
      refine SW.region ?_
      refine SOps.val (v := .bool true) rfl (wantN rfl) (fun _ => by kernel_rfl) ?_
      refine SOps.nil ?_
      obtain ⟨Hr, hr, h⟩ := h
      exact SW.ret (retQ.mk (.bool true) (res1 rfl rfl) hr ⟨true, rfl, h⟩)
    · replace h := h.2 c6
      have dc6 : (decide ((s1.size : Int) > 600)) = false := (decide_eq_false c6)
      refine SW.cond_f (t := decide ((s1.size : Int) > 600)) rfl dc6 ?_
      refine SW.skip ?_
      refine SW.seq ?_
      refine SW.region ?_
      refine SOps.enter rfl (wantN rfl) (fun _ => by kernel_rfl) (disk_New.sound F 1 H4 _ h) ?_
      clear h
      rintro v H8 ⟨p7, rfl, h⟩
      refine SOps.val (v := pv p7) rfl (wantN rfl) (fun _ => by kernel_rfl) ?_
      refine SOps.nil ?_
      refine SW.seqJ (fun fr H => ∃ (g : Fr) (s16 : ByteArray) (p17 : Option (Nat × Nat)), fr = g.upds [(0, (.string s16 : Value)), (5, pv p17)] ∧ ladinglaw15_JournalOpens.j1 F K s16 p17 H) ?_ ?_
      · clear h
        rintro fr H ⟨g, s16, p17, rfl, h⟩
        unfold ladinglaw15_JournalOpens.j1 at h
        refine SW.seq ?_
        refine SW.region ?_
        refine SOps.val (v := .int .i64 0) rfl (wantN rfl) (fun _ => by kernel_rfl) ?_
        refine SOps.nil ?_
        refine SW.seq ?_
        refine SW.region ?_
        refine SOps.val (v := sv Sl.nil) rfl (wantN rfl) (fun _ => by kernel_rfl) ?_
        refine SOps.nil ?_
        refine SW.seq ?_
        refine SW.block ?_
        refine SW.loop (fun k1 fr H => ∃ (g : Fr) (s18 : ByteArray) (p19 : Option (Nat × Nat)) (x20 : Int) (l21 : Sl), fr = g.upds [(0, (.string s18 : Value)), (5, pv p19), (6, (.int .i64 x20 : Value)), (7, sv l21)] ∧ ladinglaw15_JournalOpens.l1 F K k1 s18 p19 x20 l21 H) F ⟨_, s16, p17, 0, Sl.nil, (Fr.upds_self _ _ ⟨rfl, rfl, rfl, rfl, trivial⟩), h⟩ ?_
        clear h
        rintro k1 fr H ⟨g, s18, p19, x20, l21, rfl, h⟩
        cases k1 with
        | zero => exact h.elim
        | succ k1 =>
          replace h : ladinglaw15_JournalOpens.r1 F K (ladinglaw15_JournalOpens.l1 F K k1) s18 p19 x20 l21 H := h
          unfold ladinglaw15_JournalOpens.r1 at h
          refine SW.block ?_
          refine SW.seq ?_
          refine SW.region ?_
          refine SOps.val (v := .string s18) rfl (wantN rfl) (fun _ => by kernel_rfl) ?_
          refine SOps.val (v := .int .i64 x20) rfl (wantN rfl) (fun _ => by kernel_rfl) ?_
          refine SOps.enter rfl (wantN rfl) (fun _ => by kernel_rfl) (ladingref03_Next.sound F s18 x20 H _ h) ?_
          clear h
          rintro v H25 ⟨s22, x23, x24, rfl, h⟩
          refine SOps.alloc rfl rfl (wantN rfl) (z := .agg #[.string ByteArray.empty, .int .i64 0, .int .i64 0]) (by kernel_rfl) (fun b26 c27 => ?_)
          replace h := h b26 c27
          obtain ⟨c28, h⟩ := h
          refine SOps.storeL (p := (b26, 0)) (v := .agg #[.string s22, .int .i64 x23, .int .i64 x24]) (cs := [.string s22, .int .i64 x23, .int .i64 x24]) rfl rfl (wantN rfl) (size := 3) (by kernel_rfl) rfl rfl rfl rfl (by simp [Value.oneCell', errV_one, pv, sv]) c28 ?_
          refine SOps.nil ?_
          refine SW.seq ?_
          refine SW.seq ?_
          refine SW.region ?_
          refine SOps.val (v := pv (some (b26, 2))) rfl (wantN rfl) (fun _ => by kernel_rfl) ?_
          obtain ⟨x29, c30, h⟩ := h
          refine SOps.rd (v := .int .i64 x29) rfl (wantN rfl) (fun w hw => ev_load1 rfl (fun _ => by kernel_rfl) (p := (b26, 2)) rfl c30 w hw) ?_
          refine SOps.val (v := .bool (x29 != 0)) rfl (wantN rfl) (fun _ => by kernel_rfl) ?_
          refine SOps.nil ?_
          by_cases c31 : x29 ≠ 0
          · replace h := h.1 c31
            have dc31 : (x29 != 0) = true := (bne_iff_ne.mpr c31)
            refine SW.cond_t (t := (x29 != 0)) rfl dc31 ?_
            refine SW.exit ?_
            refine SW.seq ?_
            refine SW.region ?_
            refine SOps.val (v := pv p19) rfl (wantN rfl) (fun _ => by kernel_rfl) ?_
            refine SOps.enter rfl (wantN rfl) (fun _ => by kernel_rfl) (journal_Open.sound F p19 (SH.setl (SH.upd H25 b26 ⟨[.string ByteArray.empty, .int .i64 0, .int .i64 0], 43, false, 3⟩) (b26, 0) [.string s22, .int .i64 x23, .int .i64 x24]) _ h) ?_
            clear h
            rintro v H34 ⟨p32, e33, rfl, h⟩
            refine SOps.val (v := .tuple #[pv p32, errV e33]) rfl (wantN rfl) (fun _ => by kernel_rfl) ?_
            refine SOps.val (v := pv p32) rfl (wantN rfl) (fun _ => by kernel_rfl) ?_
            refine SOps.val (v := errV e33) rfl (wantN rfl) (fun _ => by kernel_rfl) ?_
            refine SOps.val (v := pv p32) rfl (wantN rfl) (fun _ => by kernel_rfl) ?_
            refine SOps.val (v := errV e33) rfl (wantN rfl) (fun _ => by kernel_rfl) ?_
            refine SOps.nil ?_
            refine SW.seq ?_
            refine SW.seq ?_
            refine SW.region ?_
            refine SOps.val (v := errV e33) rfl (wantN rfl) (fun _ => by kernel_rfl) ?_
            rcases e33 with _ | v35
            · replace h := h.1 rfl
              refine SOps.val (v := .bool false) rfl (wantN rfl) (fun w => ev_errNe (e := none) rfl Try.underlying27 rfl rfl w) ?_
              refine SOps.val (v := .bool false) rfl (wantN rfl) (fun _ => by kernel_rfl) ?_
              refine SOps.val (v := pv p32) rfl (wantY (c := false) rfl rfl rfl rfl) (fun _ => by kernel_rfl) ?_
              refine SOps.enter rfl (wantY (c := false) rfl rfl rfl rfl) (fun _ => by kernel_rfl) (journal_Journal_All.sound F p32 H34 _ h) ?_
              clear h
              rintro v H37 ⟨l36, rfl, h⟩
              refine SOps.val (v := sv l21) rfl (wantY (c := false) rfl rfl rfl rfl) (fun _ => by kernel_rfl) ?_
              refine SOps.enter rfl (wantY (c := false) rfl rfl rfl rfl) (fun _ => by kernel_rfl) (ladingref09_Same.sound F l36 l21 H37 _ h) ?_
              clear h
              rintro v H39 ⟨q38, rfl, h⟩
              refine SOps.val (v := .bool (!q38)) rfl (wantY (c := false) rfl rfl rfl rfl) (fun _ => by kernel_rfl) ?_
              refine SOps.val (v := .bool (!q38)) rfl (wantN rfl) (fun w => ev_pickF (v := .bool (!q38)) rfl (t := false) rfl rfl rfl w) ?_
              refine SOps.val (v := .bool (!q38)) rfl (wantN rfl) (fun _ => by kernel_rfl) ?_
              by_cases c40 : q38 = true
              · replace h := h.1 c40
                have dc40 : q38 = true := c40
                refine SOps.val (v := pv p32) rfl (wantY (c := !q38) rfl rfl rfl (not_t dc40)) (fun _ => by kernel_rfl) ?_
                refine SOps.enter rfl (wantY (c := !q38) rfl rfl rfl (not_t dc40)) (fun _ => by kernel_rfl) (journal_Journal_Bytes.sound F p32 H39 _ h) ?_
                clear h
                rintro v H42 ⟨x41, rfl, h⟩
                refine SOps.val (v := .int .i64 x20) rfl (wantY (c := !q38) rfl rfl rfl (not_t dc40)) (fun _ => by kernel_rfl) ?_
                refine SOps.val (v := .bool (x41 != x20)) rfl (wantY (c := !q38) rfl rfl rfl (not_t dc40)) (fun _ => by kernel_rfl) ?_
                refine SOps.val (v := .bool (x41 != x20)) rfl (wantN rfl) (fun w => ev_pickF (v := .bool (x41 != x20)) rfl (t := !q38) rfl (not_t dc40) rfl w) ?_
                refine SOps.val (v := .bool (x41 != x20)) rfl (wantN rfl) (fun _ => by kernel_rfl) ?_
                by_cases c43 : x41 ≠ x20
                · replace h := h.1 c43
                  have dc43 : (x41 != x20) = true := (bne_iff_ne.mpr c43)
                  refine SOps.off rfl (wantX (c := (x41 != x20)) rfl rfl rfl dc43) ?_
                  refine SOps.off rfl (wantX (c := (x41 != x20)) rfl rfl rfl dc43) ?_
                  refine SOps.off rfl (wantX (c := (x41 != x20)) rfl rfl rfl dc43) ?_
                  refine SOps.val (v := .bool true) rfl (wantN rfl) (fun w => ev_pickT (v := .bool true) rfl (t := (x41 != x20)) rfl dc43 rfl w) ?_
                  refine SOps.nil ?_
                  refine SW.cond_t (t := true) rfl rfl ?_
                  refine SW.seq ?_
                  refine SW.region ?_
                  refine SOps.val (v := .bool false) rfl (wantN rfl) (fun _ => by kernel_rfl) ?_
                  refine SOps.nil ?_
                  obtain ⟨Hr, hr, h⟩ := h
                  exact SW.ret (retQ.mk (.bool false) (res1 rfl rfl) hr ⟨false, rfl, h⟩)
                · replace h := h.2 c43
                  have dc43 : (x41 != x20) = false := (by simpa using c43)
                  refine SOps.val (v := pv p19) rfl (wantY (c := (x41 != x20)) rfl rfl rfl dc43) (fun _ => by kernel_rfl) ?_
                  refine SOps.enter rfl (wantY (c := (x41 != x20)) rfl rfl rfl dc43) (fun _ => by kernel_rfl) (disk_Disk_Waits.sound F p19 H42 _ h) ?_
                  clear h
                  rintro v H45 ⟨x44, rfl, h⟩
                  refine SOps.val (v := .bool (x44 != 0)) rfl (wantY (c := (x41 != x20)) rfl rfl rfl dc43) (fun _ => by kernel_rfl) ?_
                  refine SOps.val (v := .bool (x44 != 0)) rfl (wantN rfl) (fun w => ev_pickF (v := .bool (x44 != 0)) rfl (t := (x41 != x20)) rfl dc43 rfl w) ?_
                  refine SOps.nil ?_
                  by_cases c46 : x44 ≠ 0
                  · replace h := h.1 c46
                    have dc46 : (x44 != 0) = true := (bne_iff_ne.mpr c46)
                    refine SW.cond_t (t := (x44 != 0)) rfl dc46 ?_
                    refine SW.seq ?_
                    refine SW.region ?_
                    refine SOps.val (v := .bool false) rfl (wantN rfl) (fun _ => by kernel_rfl) ?_
                    refine SOps.nil ?_
                    obtain ⟨Hr, hr, h⟩ := h
                    exact SW.ret (retQ.mk (.bool false) (res1 rfl rfl) hr ⟨false, rfl, h⟩)
                  · replace h := h.2 c46
                    have dc46 : (x44 != 0) = false := (by simpa using c46)
                    refine SW.cond_f (t := (x44 != 0)) rfl dc46 ?_
                    refine SW.skip ?_
                    refine SW.seq ?_
                    refine SW.region ?_
                    refine SOps.val (v := pv p19) rfl (wantN rfl) (fun _ => by kernel_rfl) ?_
                    refine SOps.val (v := .agg #[sv Sl.nil, .int .i64 0]) rfl (wantN rfl) (fun _ => by kernel_rfl) ?_
                    refine SOps.enter rfl (wantN rfl) (fun _ => by kernel_rfl) (disk_Disk_Crash.sound F p19 Sl.nil 0 H45 _ h) ?_
                    clear h
                    rintro v H47 ⟨rfl, h⟩
                    refine SOps.nil ?_
                    refine SW.seq ?_
                    refine SW.region ?_
                    refine SOps.val (v := pv p19) rfl (wantN rfl) (fun _ => by kernel_rfl) ?_
                    refine SOps.enter rfl (wantN rfl) (fun _ => by kernel_rfl) (disk_Disk_Log.sound F p19 H47 _ h) ?_
                    clear h
                    rintro v H50 ⟨s48, e49, rfl, h⟩
                    refine SOps.val (v := .tuple #[.string s48, errV e49]) rfl (wantN rfl) (fun _ => by kernel_rfl) ?_
                    refine SOps.val (v := .string s48) rfl (wantN rfl) (fun _ => by kernel_rfl) ?_
                    refine SOps.val (v := errV e49) rfl (wantN rfl) (fun _ => by kernel_rfl) ?_
                    refine SOps.val (v := .string s48) rfl (wantN rfl) (fun _ => by kernel_rfl) ?_
                    refine SOps.val (v := errV e49) rfl (wantN rfl) (fun _ => by kernel_rfl) ?_
                    refine SOps.nil ?_
                    refine SW.seq ?_
                    refine SW.region ?_
                    refine SOps.val (v := errV e49) rfl (wantN rfl) (fun _ => by kernel_rfl) ?_
                    rcases e49 with _ | v51
                    · replace h := h.1 rfl
                      refine SOps.val (v := .bool true) rfl (wantN rfl) (fun w => ev_errEq (e := none) rfl Try.underlying27 rfl rfl w) ?_
                      refine SOps.val (v := .bool true) rfl (wantN rfl) (fun _ => by kernel_rfl) ?_
                      refine SOps.val (v := .string s48) rfl (wantY (c := true) rfl rfl rfl rfl) (fun _ => by kernel_rfl) ?_
                      refine SOps.val (v := .string s18) rfl (wantY (c := true) rfl rfl rfl rfl) (fun _ => by kernel_rfl) ?_
                      refine SOps.val (v := .int .i64 x20) rfl (wantY (c := true) rfl rfl rfl rfl) (fun _ => by kernel_rfl) ?_
                      obtain ⟨c52, c53, c54, h⟩ := h
                      refine SOps.val (v := .string (s18.extract (0 : Int).toNat x20.toNat)) rfl (wantY (c := true) rfl rfl rfl rfl) (fun w => ev_subS (a := (0 : Int)) (b := x20) rfl Try.underlying9 rfl (Or.inl ⟨rfl, rfl⟩) (Or.inr ⟨_, rfl⟩) c52 c53 c54 w) ?_
                      refine SOps.val (v := .bool (decide (s48 = (s18.extract (0 : Int).toNat x20.toNat)))) rfl (wantY (c := true) rfl rfl rfl rfl) (fun w => ev_eqS rfl rfl rfl w) ?_
                      refine SOps.val (v := .bool (decide (s48 = (s18.extract (0 : Int).toNat x20.toNat)))) rfl (wantN rfl) (fun w => ev_pickT (v := .bool (decide (s48 = (s18.extract (0 : Int).toNat x20.toNat)))) rfl (t := true) rfl rfl rfl w) ?_
                      refine SOps.val (v := .bool (decide (s48 = (s18.extract (0 : Int).toNat x20.toNat)))) rfl (wantN rfl) (fun _ => by kernel_rfl) ?_
                      refine SOps.nil ?_
                      obtain ⟨Hr, hr, h⟩ := h
                      exact SW.ret (retQ.mk (.bool (decide (s48 = (s18.extract (0 : Int).toNat x20.toNat)))) (res1 rfl rfl) hr ⟨decide (s48 = (s18.extract (0 : Int).toNat x20.toNat)), rfl, h⟩)
                    · replace h := h.2 v51 rfl
                      refine SOps.val (v := .bool false) rfl (wantN rfl) (fun w => ev_errEq (e := some v51) rfl Try.underlying27 rfl rfl w) ?_
                      refine SOps.val (v := .bool false) rfl (wantN rfl) (fun _ => by kernel_rfl) ?_
                      refine SOps.off rfl (wantX (c := false) rfl rfl rfl rfl) ?_
                      refine SOps.off rfl (wantX (c := false) rfl rfl rfl rfl) ?_
                      refine SOps.off rfl (wantX (c := false) rfl rfl rfl rfl) ?_
                      refine SOps.off rfl (wantX (c := false) rfl rfl rfl rfl) ?_
                      refine SOps.off rfl (wantX (c := false) rfl rfl rfl rfl) ?_
                      refine SOps.val (v := .bool false) rfl (wantN rfl) (fun w => ev_pickF (v := .bool false) rfl (t := false) rfl rfl rfl w) ?_
                      refine SOps.val (v := .bool false) rfl (wantN rfl) (fun _ => by kernel_rfl) ?_
                      refine SOps.nil ?_
                      obtain ⟨Hr, hr, h⟩ := h
                      exact SW.ret (retQ.mk (.bool false) (res1 rfl rfl) hr ⟨false, rfl, h⟩)
              · replace h := h.2 c40
                have dc40 : q38 = false := (Bool.eq_false_iff.mpr c40)
                refine SOps.off rfl (wantX (c := !q38) rfl rfl rfl (not_f dc40)) ?_
                refine SOps.off rfl (wantX (c := !q38) rfl rfl rfl (not_f dc40)) ?_
                refine SOps.off rfl (wantX (c := !q38) rfl rfl rfl (not_f dc40)) ?_
                refine SOps.off rfl (wantX (c := !q38) rfl rfl rfl (not_f dc40)) ?_
                refine SOps.val (v := .bool true) rfl (wantN rfl) (fun w => ev_pickT (v := .bool true) rfl (t := !q38) rfl (not_f dc40) rfl w) ?_
                refine SOps.val (v := .bool true) rfl (wantN rfl) (fun _ => by kernel_rfl) ?_
                refine SOps.off rfl (wantX (c := true) rfl rfl rfl rfl) ?_
                refine SOps.off rfl (wantX (c := true) rfl rfl rfl rfl) ?_
                refine SOps.off rfl (wantX (c := true) rfl rfl rfl rfl) ?_
                refine SOps.val (v := .bool true) rfl (wantN rfl) (fun w => ev_pickT (v := .bool true) rfl (t := true) rfl rfl rfl w) ?_
                refine SOps.nil ?_
                refine SW.cond_t (t := true) rfl rfl ?_
                refine SW.seq ?_
                refine SW.region ?_
                refine SOps.val (v := .bool false) rfl (wantN rfl) (fun _ => by kernel_rfl) ?_
                refine SOps.nil ?_
                obtain ⟨Hr, hr, h⟩ := h
                exact SW.ret (retQ.mk (.bool false) (res1 rfl rfl) hr ⟨false, rfl, h⟩)
            · replace h := h.2 v35 rfl
              refine SOps.val (v := .bool true) rfl (wantN rfl) (fun w => ev_errNe (e := some v35) rfl Try.underlying27 rfl rfl w) ?_
              refine SOps.val (v := .bool true) rfl (wantN rfl) (fun _ => by kernel_rfl) ?_
              refine SOps.off rfl (wantX (c := true) rfl rfl rfl rfl) ?_
              refine SOps.off rfl (wantX (c := true) rfl rfl rfl rfl) ?_
              refine SOps.off rfl (wantX (c := true) rfl rfl rfl rfl) ?_
              refine SOps.off rfl (wantX (c := true) rfl rfl rfl rfl) ?_
              refine SOps.off rfl (wantX (c := true) rfl rfl rfl rfl) ?_
              refine SOps.val (v := .bool true) rfl (wantN rfl) (fun w => ev_pickT (v := .bool true) rfl (t := true) rfl rfl rfl w) ?_
              refine SOps.val (v := .bool true) rfl (wantN rfl) (fun _ => by kernel_rfl) ?_
              refine SOps.off rfl (wantX (c := true) rfl rfl rfl rfl) ?_
              refine SOps.off rfl (wantX (c := true) rfl rfl rfl rfl) ?_
              refine SOps.off rfl (wantX (c := true) rfl rfl rfl rfl) ?_
              refine SOps.off rfl (wantX (c := true) rfl rfl rfl rfl) ?_
              refine SOps.val (v := .bool true) rfl (wantN rfl) (fun w => ev_pickT (v := .bool true) rfl (t := true) rfl rfl rfl w) ?_
              refine SOps.val (v := .bool true) rfl (wantN rfl) (fun _ => by kernel_rfl) ?_
              refine SOps.off rfl (wantX (c := true) rfl rfl rfl rfl) ?_
              refine SOps.off rfl (wantX (c := true) rfl rfl rfl rfl) ?_
              refine SOps.off rfl (wantX (c := true) rfl rfl rfl rfl) ?_
              refine SOps.val (v := .bool true) rfl (wantN rfl) (fun w => ev_pickT (v := .bool true) rfl (t := true) rfl rfl rfl w) ?_
              refine SOps.nil ?_
              refine SW.cond_t (t := true) rfl rfl ?_
              refine SW.seq ?_
              refine SW.region ?_
              refine SOps.val (v := .bool false) rfl (wantN rfl) (fun _ => by kernel_rfl) ?_
              refine SOps.nil ?_
              obtain ⟨Hr, hr, h⟩ := h
              exact SW.ret (retQ.mk (.bool false) (res1 rfl rfl) hr ⟨false, rfl, h⟩)
          · replace h := h.2 c31
            have dc31 : (x29 != 0) = false := (by simpa using c31)
            refine SW.cond_f (t := (x29 != 0)) rfl dc31 ?_
            refine SW.skip ?_
            obtain ⟨H55, c56, h⟩ := h
            obtain ⟨s63, c64, h⟩ := h
            obtain ⟨x67, c68, h⟩ := h
            obtain ⟨R57, m58, c71, k59⟩ := AppendQ.ex1 h
            refine SW.drawW [] [.val (sv l21), .val (pv (some (b26, 0))), .val (.string s63), .fresh 3 (fun b c => sv ⟨some (b, 0), 1, 1⟩) (fun c => (⟨[.string s63], 9, false, 1⟩ : AO)) (fun _ => True), .rel (fun H9 v9 T9 H8 => ∃ (l69 : Sl), v9 = sv l69 ∧ R57 l69 H8) (by rintro _ _ _ _ _ _ ⟨l69, e9, r9⟩ hle hT; exact ⟨l69, e9, m58 _ _ _ r9 hle⟩), .val (pv (some (b26, 1))), .val (.int .i64 x67), .rel (fun H9 v9 T9 H8 => ∃ (l69 : Sl), v9 = sv l69 ∧ R57 l69 H8) (by rintro _ _ _ _ _ _ ⟨l69, e9, r9⟩ hle hT; exact ⟨l69, e9, m58 _ _ _ r9 hle⟩), .val (.int .i64 x67)] [.d, .d, .d, .d, .w, .b, .b, .b, .b] 4 H55 (by kernel_rfl) (by kernel_rfl) (by kernel_rfl) c56 trivial (And.intro ?_ (And.intro ?_ (And.intro ?_ (And.intro ?_ (And.intro ?_ (And.intro ?_ (And.intro ?_ (And.intro ?_ (And.intro ?_ (trivial)))))))))) ?_
            · try clear h
              intro fr' T' H' hle hs hA
              have a7 : fr' 7 = sv l21 := hs 7 (by kernel_rfl)
              obtain ⟨g', hg'⟩ : ∃ g' : Fr, fr' = g'.upds [(7, sv l21)] := ⟨_, Fr.upds_self _ _ ⟨a7, trivial⟩⟩
              subst hg'
              exact SA.val (v := sv l21) rfl (wantN rfl) (fun _ => by kernel_rfl)
            · try clear h
              intro fr' T' H' hle hs hA
              have a8 : fr' 8 = pv (some (b26, 0)) := hs 8 (by kernel_rfl)
              obtain ⟨g', hg'⟩ : ∃ g' : Fr, fr' = g'.upds [(8, pv (some (b26, 0)))] := ⟨_, Fr.upds_self _ _ ⟨a8, trivial⟩⟩
              subst hg'
              exact SA.val (v := pv (some (b26, 0))) rfl (wantN rfl) (fun _ => by kernel_rfl)
            · try clear h
              intro fr' T' H' hle hs hA
              have a38 : fr' 38 = pv (some (b26, 0)) := hA 1 (by kernel_rfl)
              obtain ⟨g', hg'⟩ : ∃ g' : Fr, fr' = g'.upds [(38, pv (some (b26, 0)))] := ⟨_, Fr.upds_self _ _ ⟨a38, trivial⟩⟩
              subst hg'
              exact SA.rd hle (v := .string s63) rfl (wantN rfl) (fun w hw => ev_load1 rfl (fun _ => by kernel_rfl) (p := (b26, 0)) rfl c64 w hw)
            · try clear h
              intro fr' T' H' hle hs hA
              have a39 : fr' 39 = (.string s63 : Value) := hA 2 (by kernel_rfl)
              obtain ⟨g', hg'⟩ : ∃ g' : Fr, fr' = g'.upds [(39, (.string s63 : Value))] := ⟨_, Fr.upds_self _ _ ⟨a39, trivial⟩⟩
              subst hg'
              exact SA.fresh hle (fun h => SOps.lit (E := 9) (cs := #[.string s63]) rfl rfl (wantN rfl) (fun _ => by kernel_rfl) (fun b c => h b 0 c trivial))
            · try clear h
              intro fr' T' H' hle hs hA
              have a37 : fr' 37 = sv l21 := hA 0 (by kernel_rfl)
              obtain ⟨b65, n66, a40, nb65, kb65, tb65, ob65⟩ := hA 3 (by kernel_rfl)
              obtain ⟨g', hg'⟩ : ∃ g' : Fr, fr' = g'.upds [(37, sv l21), (40, sv (⟨some (b65, 0), 1, 1⟩ : Sl))] := ⟨_, Fr.upds_self _ _ ⟨a37, a40, trivial⟩⟩
              subst hg'
              exact SA.wapp (R := R57) (p := fun H9 v9 T9 H8 => ∃ (l69 : Sl), v9 = sv l69 ∧ R57 l69 H8) (mono := (by rintro _ _ _ _ _ _ ⟨l69, e9, r9⟩ hle hT; exact ⟨l69, e9, m58 _ _ _ r9 hle⟩)) (SH.le.upd_in hle kb65) rfl (fun l1 H1 r => ⟨l1, rfl, r⟩) (fun k => SOps.append (z := .string ByteArray.empty) (size := 1) (bytes := 16) rfl rfl (wantN rfl) Try.underlying41 (by kernel_rfl) rfl rfl rfl (.inl ⟨⟨_, Try.underlying41⟩, _, rfl, rfl, by exact row_updD rfl⟩) (AppendQ.mono (c71 b65 nb65) (by rintro l1 H1 ⟨g1, g2⟩; exact k l1 H1 g1 g2)))
            · try clear h
              intro fr' T' H' hle hs hA
              have a8 : fr' 8 = pv (some (b26, 0)) := hs 8 (by kernel_rfl)
              obtain ⟨g', hg'⟩ : ∃ g' : Fr, fr' = g'.upds [(8, pv (some (b26, 0)))] := ⟨_, Fr.upds_self _ _ ⟨a8, trivial⟩⟩
              subst hg'
              exact SA.val (v := pv (some (b26, 1))) rfl (wantN rfl) (fun _ => by kernel_rfl)
            · try clear h
              intro fr' T' H' hle hs hA
              have a42 : fr' 42 = pv (some (b26, 1)) := hA 5 (by kernel_rfl) (by kernel_rfl)
              obtain ⟨g', hg'⟩ : ∃ g' : Fr, fr' = g'.upds [(42, pv (some (b26, 1)))] := ⟨_, Fr.upds_self _ _ ⟨a42, trivial⟩⟩
              subst hg'
              exact SA.rdH (Hc := H55) hle (v := .int .i64 x67) rfl (wantN rfl) (fun w hw => ev_load1 rfl (fun _ => by kernel_rfl) (p := (b26, 1)) rfl c68 w hw)
            · try clear h
              intro fr' T' H' hle hs hA
              obtain ⟨l69, a41, rR57⟩ := hA 4 (by kernel_rfl) (by kernel_rfl)
              obtain ⟨g', hg'⟩ : ∃ g' : Fr, fr' = g'.upds [(41, sv l69)] := ⟨_, Fr.upds_self _ _ ⟨a41, trivial⟩⟩
              subst hg'
              exact SA.same (v := sv l69) (a := .rel (fun H9 v9 T9 H8 => ∃ (l69 : Sl), v9 = sv l69 ∧ R57 l69 H8) (by rintro _ _ _ _ _ _ ⟨l69, e9, r9⟩ hle hT; exact ⟨l69, e9, m58 _ _ _ r9 hle⟩)) rfl (wantN rfl) (fun _ => by kernel_rfl) ⟨l69, rfl, rR57⟩
            · try clear h
              intro fr' T' H' hle hs hA
              have a43 : fr' 43 = (.int .i64 x67 : Value) := hA 6 (by kernel_rfl) (by kernel_rfl)
              obtain ⟨g', hg'⟩ : ∃ g' : Fr, fr' = g'.upds [(43, (.int .i64 x67 : Value))] := ⟨_, Fr.upds_self _ _ ⟨a43, trivial⟩⟩
              subst hg'
              exact SA.val (v := .int .i64 x67) rfl (wantN rfl) (fun _ => by kernel_rfl)
            · intro fr' T' H' hle hs hA
              have a0 : fr' 0 = (.string s18 : Value) := hs 0 (by kernel_rfl)
              have a5 : fr' 5 = pv p19 := hs 5 (by kernel_rfl)
              have a6 : fr' 6 = (.int .i64 x67 : Value) := hA 8 (Nat.le_of_ble_eq_true rfl) (by kernel_rfl) (by kernel_rfl)
              obtain ⟨l69, a7, rR57⟩ := hA 7 (Nat.le_of_ble_eq_true rfl) (by kernel_rfl) (by kernel_rfl)
              obtain ⟨g', hg'⟩ : ∃ g' : Fr, fr' = g'.upds [(0, (.string s18 : Value)), (5, pv p19), (6, (.int .i64 x67 : Value)), (7, sv l69)] := ⟨_, Fr.upds_self _ _ ⟨a0, a5, a6, a7, trivial⟩⟩
              subst hg'
              obtain ⟨H70, g1, h⟩ := k59 _ _ rR57
              refine SOps.forget H70 g1 ?_
              clear g1
              clear hle hs hA
              refine SOps.nil ?_
              exact ⟨k1, Nat.lt_succ_self k1, _, s18, p19, x67, l69, (Fr.upds_self _ _ ⟨rfl, rfl, rfl, rfl, trivial⟩), h⟩
      · skip
        refine SW.seq ?_
        refine SW.region ?_
        refine SOps.val (v := pv p7) rfl (wantN rfl) (fun _ => by kernel_rfl) ?_
        refine SOps.val (v := .string s1) rfl (wantN rfl) (fun _ => by kernel_rfl) ?_
        refine SOps.enter rfl (wantN rfl) (fun _ => by kernel_rfl) (disk_Disk_Append.sound F p7 s1 H8 _ h) ?_
        clear h
        rintro v H10 ⟨e9, rfl, h⟩
        rcases e9 with _ | v11
        · replace h := h.1 rfl
          refine SOps.val (v := .bool false) rfl (wantN rfl) (fun w => ev_errNe (e := none) rfl Try.underlying27 rfl rfl w) ?_
          refine SOps.val (v := .bool false) rfl (wantN rfl) (fun _ => by kernel_rfl) ?_
          refine SOps.val (v := .bool q2) rfl (wantY (c := false) rfl rfl rfl rfl) (fun _ => by kernel_rfl) ?_
          refine SOps.val (v := .bool q2) rfl (wantY (c := false) rfl rfl rfl rfl) (fun _ => by kernel_rfl) ?_
          by_cases c12 : q2 = true
          · replace h := h.1 c12
            have dc12 : q2 = true := c12
            refine SOps.val (v := pv p7) rfl (wantY (c := q2) rfl rfl rfl dc12) (fun _ => by kernel_rfl) ?_
            refine SOps.enter rfl (wantY (c := q2) rfl rfl rfl dc12) (fun _ => by kernel_rfl) (disk_Disk_Sync.sound F p7 H10 _ h) ?_
            clear h
            rintro v H14 ⟨e13, rfl, h⟩
            rcases e13 with _ | v15
            · replace h := h.1 rfl
              refine SOps.val (v := .bool false) rfl (wantY (c := q2) rfl rfl rfl dc12) (fun w => ev_errNe (e := none) rfl Try.underlying27 rfl rfl w) ?_
              refine SOps.val (v := .bool false) rfl (wantY (c := false) rfl rfl rfl rfl) (fun w => ev_pickT (v := .bool false) rfl (t := q2) rfl dc12 rfl w) ?_
              refine SOps.val (v := .bool false) rfl (wantN rfl) (fun w => ev_pickF (v := .bool false) rfl (t := false) rfl rfl rfl w) ?_
              refine SOps.nil ?_
              refine SW.cond_f (t := false) rfl rfl ?_
              refine SW.skip ?_
              exact ⟨_, s1, p7, Fr.upds_self _ _ ⟨rfl, rfl, trivial⟩, h⟩
            · replace h := h.2 v15 rfl
              refine SOps.val (v := .bool true) rfl (wantY (c := q2) rfl rfl rfl dc12) (fun w => ev_errNe (e := some v15) rfl Try.underlying27 rfl rfl w) ?_
              refine SOps.val (v := .bool true) rfl (wantY (c := false) rfl rfl rfl rfl) (fun w => ev_pickT (v := .bool true) rfl (t := q2) rfl dc12 rfl w) ?_
              refine SOps.val (v := .bool true) rfl (wantN rfl) (fun w => ev_pickF (v := .bool true) rfl (t := false) rfl rfl rfl w) ?_
              refine SOps.nil ?_
              refine SW.cond_t (t := true) rfl rfl ?_
              refine SW.seq ?_
              refine SW.region ?_
              refine SOps.val (v := .bool false) rfl (wantN rfl) (fun _ => by kernel_rfl) ?_
              refine SOps.nil ?_
              obtain ⟨Hr, hr, h⟩ := h
              exact SW.ret (retQ.mk (.bool false) (res1 rfl rfl) hr ⟨false, rfl, h⟩)
          · replace h := h.2 c12
            have dc12 : q2 = false := (Bool.eq_false_iff.mpr c12)
            refine SOps.off rfl (wantX (c := q2) rfl rfl rfl dc12) ?_
            refine SOps.off rfl (wantX (c := q2) rfl rfl rfl dc12) ?_
            refine SOps.off rfl (wantX (c := q2) rfl rfl rfl dc12) ?_
            refine SOps.val (v := .bool false) rfl (wantY (c := false) rfl rfl rfl rfl) (fun w => ev_pickF (v := .bool false) rfl (t := q2) rfl dc12 rfl w) ?_
            refine SOps.val (v := .bool false) rfl (wantN rfl) (fun w => ev_pickF (v := .bool false) rfl (t := false) rfl rfl rfl w) ?_
            refine SOps.nil ?_
            refine SW.cond_f (t := false) rfl rfl ?_
            refine SW.skip ?_
            exact ⟨_, s1, p7, Fr.upds_self _ _ ⟨rfl, rfl, trivial⟩, h⟩
        · replace h := h.2 v11 rfl
          refine SOps.val (v := .bool true) rfl (wantN rfl) (fun w => ev_errNe (e := some v11) rfl Try.underlying27 rfl rfl w) ?_
          refine SOps.val (v := .bool true) rfl (wantN rfl) (fun _ => by kernel_rfl) ?_
          refine SOps.off rfl (wantX (c := true) rfl rfl rfl rfl) ?_
          refine SOps.off rfl (wantX (c := true) rfl rfl rfl rfl) ?_
          refine SOps.off rfl (wantU rfl rfl rfl) ?_
          refine SOps.off rfl (wantU rfl rfl rfl) ?_
          refine SOps.off rfl (wantU rfl rfl rfl) ?_
          refine SOps.off rfl (wantX (c := true) rfl rfl rfl rfl) ?_
          refine SOps.val (v := .bool true) rfl (wantN rfl) (fun w => ev_pickT (v := .bool true) rfl (t := true) rfl rfl rfl w) ?_
          refine SOps.nil ?_
          refine SW.cond_t (t := true) rfl rfl ?_
          refine SW.seq ?_
          refine SW.region ?_
          refine SOps.val (v := .bool false) rfl (wantN rfl) (fun _ => by kernel_rfl) ?_
          refine SOps.nil ?_
          obtain ⟨Hr, hr, h⟩ := h
          exact SW.ret (retQ.mk (.bool false) (res1 rfl rfl) hr ⟨false, rfl, h⟩)
  · replace h := h.2 c5
    have dc5 : q3 = false := (Bool.eq_false_iff.mpr c5)
    refine SW.cond_t (t := !q3) rfl (not_f dc5) ?_
    refine SW.seq ?_
    refine SW.region ?_
    refine SOps.val (v := .bool false) rfl (wantN rfl) (fun _ => by kernel_rfl) ?_
    refine SOps.nil ?_
    obtain ⟨Hr, hr, h⟩ := h
    exact SW.ret (retQ.mk (.bool false) (res1 rfl rfl) hr ⟨false, rfl, h⟩)

end Go.Proofs.Ytknhlipealekoaa.K
