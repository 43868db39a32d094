import Derived.Test.YtknhlipealekoaaGladinglaw15
set_option linter.unusedVariables false
set_option linter.unusedSimpArgs false
set_option maxRecDepth 100000
namespace Go.Proofs.Ytknhlipealekoaa.K
open Go
attribute [local irreducible] SW SOps SQ SCalls retQ

/-! ### lading/ladinglaw15.JournalTwice: function 5 -/
def ladinglaw15_JournalTwice.r2 (F : Nat) (K : Bool → SH → Prop) (R2 : Sl → Option (Nat × Nat) → Option (Nat × Nat) → Option (Nat × Nat) → Int → SH → Prop) (l62 : Sl) (p63 : Option (Nat × Nat)) (p64 : Option (Nat × Nat)) (p65 : Option (Nat × Nat)) (x66 : Int) (H : SH) : Prop :=
  (x66 < 3 →
    journal_Open.wp F p63 H (fun p68 e69 H70 =>
      (e69 = none →
        journal_Journal_All.wp F p68 H70 (fun l72 H73 =>
          ladingref09_Same.wp F l72 l62 H73 (fun q74 H75 =>
            (q74 = true →
              disk_Disk_Waits.wp F p63 H75 (fun x77 H78 =>
                (x77 ≠ 0 →
                  ∃ Hr, SH.le Hr H78 ∧ K false Hr
                ) ∧ (¬ (x77 ≠ 0) →
                  R2 l62 p63 p64 p65 (w64 (x66 + 1)) H78
                )
              )
            ) ∧ (¬ (q74 = true) →
              ∃ Hr, SH.le Hr H75 ∧ K false Hr
            )
          )
        )
      ) ∧ (∀ v71, e69 = some v71 →
        ∃ Hr, SH.le Hr H70 ∧ K false Hr
      )
    )
  ) ∧ (¬ (x66 < 3) →
    journal_Journal_All.wp F p64 H (fun l80 H81 =>
      journal_Journal_All.wp F p65 H81 (fun l82 H83 =>
        ladingref09_Same.wp F l80 l82 H83 (fun q84 H85 =>
          (q84 = true →
            journal_Journal_Bytes.wp F p64 H85 (fun x87 H88 =>
              journal_Journal_Bytes.wp F p65 H88 (fun x89 H90 =>
                ∃ Hr, SH.le Hr H90 ∧ K (x87 == x89) Hr
              )
            )
          ) ∧ (¬ (q84 = true) →
            ∃ Hr, SH.le Hr H85 ∧ K false Hr
          )
        )
      )
    )
  )
def ladinglaw15_JournalTwice.l2 (F : Nat) (K : Bool → SH → Prop) : Nat → Sl → Option (Nat × Nat) → Option (Nat × Nat) → Option (Nat × Nat) → Int → SH → Prop
  | 0, _, _, _, _, _, _ => False
  | k + 1, l62, p63, p64, p65, x66, H => ladinglaw15_JournalTwice.r2 F K (ladinglaw15_JournalTwice.l2 F K k) l62 p63 p64 p65 x66 H
def ladinglaw15_JournalTwice.j1 (F : Nat) (K : Bool → SH → Prop) (l55 : Sl) (p56 : Option (Nat × Nat)) (p57 : Option (Nat × Nat)) (p58 : Option (Nat × Nat)) (H : SH) : Prop :=
  ladinglaw15_JournalTwice.l2 F K F l55 p56 p57 p58 0 H
def ladinglaw15_JournalTwice.r1 (F : Nat) (K : Bool → SH → Prop) (R1 : Sl → Bool → Option (Nat × Nat) → Option (Nat × Nat) → Option (Nat × Nat) → Option (Nat × Nat) → Sl → Int → Int → SH → Prop) (l24 : Sl) (q25 : Bool) (p26 : Option (Nat × Nat)) (p27 : Option (Nat × Nat)) (p28 : Option (Nat × Nat)) (p29 : Option (Nat × Nat)) (l30 : Sl) (x31 : Int) (x32 : Int) (H : SH) : Prop :=
  (x32 < x31 →
    ∃ p34, l30.a = some p34 ∧ 0 ≤ x32 ∧ x32 < (l30.len : Int) ∧
    ∃ (s38 : ByteArray),
    SH.has H (p34.1, (p34.2 + x32.toNat * 1)) (.string s38) ∧
    ∀ b40, H b40 = none →
    journal_Journal_Put.wp F p29 (⟨some (b40, 0), 1, 1⟩ : Sl) (SH.upd H b40 ⟨[.string s38], 9, false, 1⟩) (fun e42 H43 =>
      (e42 = none →
        R1 l24 q25 p26 p27 p28 p29 l30 x31 (w64 (x32 + 1)) H43
      ) ∧ (∀ v44, e42 = some v44 →
        ∃ Hr, SH.le Hr H43 ∧ K false Hr
      )
    )
  ) ∧ (¬ (x32 < x31) →
    (q25 = true →
      journal_Journal_Flush.wp F p28 H (fun e46 H47 =>
        (e46 = none →
          journal_Journal_Flush.wp F p29 H47 (fun e49 H50 =>
            (e49 = none →
              disk_Disk_Same.wp F p26 p27 H50 (fun q52 H53 =>
                (q52 = true →
                  ladinglaw15_JournalTwice.j1 F K l24 p26 p28 p29 H53
                ) ∧ (¬ (q52 = true) →
                  ∃ Hr, SH.le Hr H53 ∧ K false Hr
                )
              )
            ) ∧ (∀ v51, e49 = some v51 →
              ∃ Hr, SH.le Hr H50 ∧ K false Hr
            )
          )
        ) ∧ (∀ v48, e46 = some v48 →
          ∃ Hr, SH.le Hr H47 ∧ K false Hr
        )
      )
    ) ∧ (¬ (q25 = true) →
      disk_Disk_Same.wp F p26 p27 H (fun q59 H60 =>
        (q59 = true →
          ladinglaw15_JournalTwice.j1 F K l24 p26 p28 p29 H60
        ) ∧ (¬ (q59 = true) →
          ∃ Hr, SH.le Hr H60 ∧ K false Hr
        )
      )
    )
  )
def ladinglaw15_JournalTwice.l1 (F : Nat) (K : Bool → SH → Prop) : Nat → Sl → Bool → Option (Nat × Nat) → Option (Nat × Nat) → Option (Nat × Nat) → Option (Nat × Nat) → Sl → Int → Int → SH → Prop
  | 0, _, _, _, _, _, _, _, _, _, _ => False
  | k + 1, l24, q25, p26, p27, p28, p29, l30, x31, x32, H => ladinglaw15_JournalTwice.r1 F K (ladinglaw15_JournalTwice.l1 F K k) l24 q25 p26 p27 p28 p29 l30 x31 x32 H
def ladinglaw15_JournalTwice.wp (F : Nat) (l1 : Sl) (q2 : Bool) (H : SH) (K : Bool → SH → Prop) : Prop :=
  ladinglaw15_awake.wp F  H (fun q3 H4 =>
    (q3 = true →
      ladinglaw15_great.wp F l1 H4 (fun q6 H7 =>
        (q6 = true →
          ∃ Hr, SH.le Hr H7 ∧ K true Hr
        ) ∧ (¬ (q6 = true) →
          disk_New.wp F 0 H7 (fun p9 H10 =>
            disk_New.wp F 0 H10 (fun p11 H12 =>
              journal_Open.wp F p9 H12 (fun p13 e14 H15 =>
                journal_Open.wp F p11 H15 (fun p16 e17 H18 =>
                  (e14 = none →
                    (e17 = none →
                      journal_Journal_Put.wp F p13 l1 H18 (fun e21 H22 =>
                        (e21 = none →
                          ladinglaw15_JournalTwice.l1 F K F l1 q2 p9 p11 p13 p16 l1 (l1.len : Int) 0 H22
                        ) ∧ (∀ v23, e21 = some v23 →
                          ∃ Hr, SH.le Hr H22 ∧ K false Hr
                        )
                      )
                    ) ∧ (∀ v20, e17 = some v20 →
                      ∃ Hr, SH.le Hr H18 ∧ K false Hr
                    )
                  ) ∧ (∀ v19, e14 = some v19 →
                    ∃ Hr, SH.le Hr H18 ∧ K false Hr
                  )
                )
              )
            )
          )
        )
      )
    ) ∧ (¬ (q3 = true) →
      ∃ Hr, SH.le Hr H4 ∧ K false Hr
    )
  )
set_option maxHeartbeats 8000000 in
theorem ladinglaw15_JournalTwice.sound (F : Nat) (l1 : Sl) (q2 : Bool) (H : SH) (K : Bool → SH → Prop) (h : ladinglaw15_JournalTwice.wp F l1 q2 H K) : SCalls Try.prog 5 #[sv l1, .bool q2] H (fun v H' => ∃ (q97 : Bool), v = .bool q97 ∧ K q97 H') := by
  unfold ladinglaw15_JournalTwice.wp at h
  refine SCalls.body Try.func5 rfl (Nat.le_of_ble_eq_true rfl) ?_
  refine SW.seq ?_
  refine SW.region ?_
  refine SOps.val (v := .bool false) rfl (wantN rfl) (fun _ => by kernel_rfl) ?_
  refine SOps.nil ?_
  refine SW.seq ?_
  refine SW.seq ?_
  refine SW.region ?_
  refine SOps.enter rfl (wantN rfl) (fun _ => by kernel_rfl) (ladinglaw15_awake.sound F  H _ h) ?_
  clear h
  rintro v H4 ⟨q3, rfl, h⟩
  refine SOps.val (v := .bool (!q3)) rfl (wantN rfl) (fun _ => by kernel_rfl) ?_
  refine SOps.nil ?_
  by_cases c5 : q3 = true
  · replace h := h.1 c5
    have dc5 : q3 = true := c5
    refine SW.cond_f (t := !q3) rfl (not_t dc5) ?_
    refine SW.skip ?_
    refine SW.seq ?_
    refine SW.seq ?_
    refine SW.region ?_
    refine SOps.val (v := sv l1) rfl (wantN rfl) (fun _ => by kernel_rfl) ?_
    refine SOps.enter rfl (wantN rfl) (fun _ => by kernel_rfl) (ladinglaw15_great.sound F l1 H4 _ h) ?_
    clear h
    rintro v H7 ⟨q6, rfl, h⟩
    refine SOps.nil ?_
    by_cases c8 : q6 = true
    · replace h := h.1 c8
      have dc8 : q6 = true := c8
      refine SW.cond_t (t := q6) rfl dc8 ?_
      refine SW.seq ?_
      refine SW.region ?_
      refine SOps.val (v := .bool true) rfl (wantN rfl) (fun _ => by kernel_rfl) ?_
      refine SOps.nil ?_
      obtain ⟨Hr, hr, h⟩ := h
      exact SW.ret (retQ.mk (.bool true) (res1 rfl rfl) hr ⟨true, rfl, h⟩)
    · replace h := h.2 c8
      have dc8 : q6 = false := (Bool.eq_false_iff.mpr c8)
      refine SW.cond_f (t := q6) rfl dc8 ?_
      refine SW.skip ?_
      refine SW.seq ?_
      refine SW.region ?_
      refine SOps.enter rfl (wantN rfl) (fun _ => by kernel_rfl) (disk_New.sound F 0 H7 _ h) ?_
      clear h
      rintro v H10 ⟨p9, rfl, h⟩
      refine SOps.enter rfl (wantN rfl) (fun _ => by kernel_rfl) (disk_New.sound F 0 H10 _ h) ?_
      clear h
      rintro v H12 ⟨p11, rfl, h⟩
      refine SOps.val (v := pv p9) rfl (wantN rfl) (fun _ => by kernel_rfl) ?_
      refine SOps.val (v := pv p11) rfl (wantN rfl) (fun _ => by kernel_rfl) ?_
      refine SOps.nil ?_
      refine SW.seq ?_
      refine SW.region ?_
      refine SOps.val (v := pv p9) rfl (wantN rfl) (fun _ => by kernel_rfl) ?_
      refine SOps.enter rfl (wantN rfl) (fun _ => by kernel_rfl) (journal_Open.sound F p9 H12 _ h) ?_
      clear h
      rintro v H15 ⟨p13, e14, rfl, h⟩
      refine SOps.val (v := .tuple #[pv p13, errV e14]) rfl (wantN rfl) (fun _ => by kernel_rfl) ?_
      refine SOps.val (v := pv p13) rfl (wantN rfl) (fun _ => by kernel_rfl) ?_
      refine SOps.val (v := errV e14) rfl (wantN rfl) (fun _ => by kernel_rfl) ?_
      refine SOps.val (v := pv p13) rfl (wantN rfl) (fun _ => by kernel_rfl) ?_
      refine SOps.val (v := errV e14) rfl (wantN rfl) (fun _ => by kernel_rfl) ?_
      refine SOps.nil ?_
      refine SW.seq ?_
      refine SW.region ?_
      refine SOps.val (v := pv p11) rfl (wantN rfl) (fun _ => by kernel_rfl) ?_
      refine SOps.enter rfl (wantN rfl) (fun _ => by kernel_rfl) (journal_Open.sound F p11 H15 _ h) ?_
      clear h
      rintro v H18 ⟨p16, e17, rfl, h⟩
      refine SOps.val (v := .tuple #[pv p16, errV e17]) rfl (wantN rfl) (fun _ => by kernel_rfl) ?_
      refine SOps.val (v := pv p16) rfl (wantN rfl) (fun _ => by kernel_rfl) ?_
      refine SOps.val (v := errV e17) rfl (wantN rfl) (fun _ => by kernel_rfl) ?_
      refine SOps.val (v := pv p16) rfl (wantN rfl) (fun _ => by kernel_rfl) ?_
      refine SOps.val (v := errV e17) rfl (wantN rfl) (fun _ => by kernel_rfl) ?_
      refine SOps.nil ?_
      refine SW.seq ?_
      refine SW.seq ?_
      refine SW.region ?_
      refine SOps.val (v := errV e14) rfl (wantN rfl) (fun _ => by kernel_rfl) ?_
      rcases e14 with _ | v19
      · replace h := h.1 rfl
        refine SOps.val (v := .bool false) rfl (wantN rfl) (fun w => ev_errNe (e := none) rfl Try.underlying27 rfl rfl w) ?_
        refine SOps.val (v := .bool false) rfl (wantN rfl) (fun _ => by kernel_rfl) ?_
        refine SOps.val (v := errV e17) rfl (wantY (c := false) rfl rfl rfl rfl) (fun _ => by kernel_rfl) ?_
        rcases e17 with _ | v20
        · replace h := h.1 rfl
          refine SOps.val (v := .bool false) rfl (wantY (c := false) rfl rfl rfl rfl) (fun w => ev_errNe (e := none) rfl Try.underlying27 rfl rfl w) ?_
          refine SOps.val (v := .bool false) rfl (wantN rfl) (fun w => ev_pickF (v := .bool false) rfl (t := false) rfl rfl rfl w) ?_
          refine SOps.val (v := .bool false) rfl (wantN rfl) (fun _ => by kernel_rfl) ?_
          refine SOps.val (v := pv p13) rfl (wantY (c := false) rfl rfl rfl rfl) (fun _ => by kernel_rfl) ?_
          refine SOps.val (v := sv l1) rfl (wantY (c := false) rfl rfl rfl rfl) (fun _ => by kernel_rfl) ?_
          refine SOps.enter rfl (wantY (c := false) rfl rfl rfl rfl) (fun _ => by kernel_rfl) (journal_Journal_Put.sound F p13 l1 H18 _ h) ?_
          clear h
          rintro v H22 ⟨e21, rfl, h⟩
          rcases e21 with _ | v23
          · replace h := h.1 rfl
            refine SOps.val (v := .bool false) rfl (wantY (c := false) rfl rfl rfl rfl) (fun w => ev_errNe (e := none) rfl Try.underlying27 rfl rfl w) ?_
            refine SOps.val (v := .bool false) rfl (wantN rfl) (fun w => ev_pickF (v := .bool false) rfl (t := false) rfl rfl rfl w) ?_
            refine SOps.nil ?_
            refine SW.cond_f (t := false) rfl rfl ?_
            refine SW.skip ?_
            refine SW.seq ?_
            refine SW.seq ?_
            refine SW.region ?_
            refine SOps.val (v := sv l1) rfl (wantN rfl) (fun _ => by kernel_rfl) ?_
            refine SOps.val (v := .int .i64 (l1.len : Int)) rfl (wantN rfl) (fun _ => by kernel_rfl) ?_
            refine SOps.val (v := .int .i64 0) rfl (wantN rfl) (fun _ => by kernel_rfl) ?_
            refine SOps.nil ?_
            refine SW.block ?_
            refine SW.loop (fun k1 fr H => ∃ (g : Fr) (l24 : Sl) (q25 : Bool) (p26 : Option (Nat × Nat)) (p27 : Option (Nat × Nat)) (p28 : Option (Nat × Nat)) (p29 : Option (Nat × Nat)) (l30 : Sl) (x31 : Int) (x32 : Int), fr = g.upds [(0, sv l24), (1, (.bool q25 : Value)), (5, pv p26), (6, pv p27), (7, pv p28), (9, pv p29), (44, sv l30), (45, (.int .i64 x31 : Value)), (46, (.int .i64 x32 : Value))] ∧ ladinglaw15_JournalTwice.l1 F K k1 l24 q25 p26 p27 p28 p29 l30 x31 x32 H) F ⟨_, l1, q2, p9, p11, p13, p16, l1, (l1.len : Int), 0, (Fr.upds_self _ _ ⟨rfl, rfl, rfl, rfl, rfl, rfl, rfl, rfl, rfl, trivial⟩), h⟩ ?_
            clear h
            rintro k1 fr H ⟨g, l24, q25, p26, p27, p28, p29, l30, x31, x32, rfl, h⟩
            cases k1 with
            | zero => exact h.elim
            | succ k1 =>
              replace h : ladinglaw15_JournalTwice.r1 F K (ladinglaw15_JournalTwice.l1 F K k1) l24 q25 p26 p27 p28 p29 l30 x31 x32 H := h
              unfold ladinglaw15_JournalTwice.r1 at h
              refine SW.seq ?_
              refine SW.region ?_
              refine SOps.val (v := .bool (decide (x32 < x31))) rfl (wantN rfl) (fun _ => by kernel_rfl) ?_
              refine SOps.nil ?_
              refine SW.seq ?_
              by_cases c33 : x32 < x31
              · replace h := h.1 c33
                have dc33 : (decide (x32 < x31)) = true := (decide_eq_true c33)
                refine SW.cond_t (t := decide (x32 < x31)) rfl dc33 ?_
                refine SW.skip ?_
                refine SW.seq ?_
                refine SW.block ?_
                refine SW.seq ?_
                refine SW.region ?_
                obtain ⟨p34, c35, c36, c37, h⟩ := h
                refine SOps.val (v := pv (some (p34.1, (p34.2 + x32.toNat * 1)))) rfl (wantN rfl) (fun w => ev_iaddr rfl Try.underlying41 (size := 1) (by kernel_rfl) rfl rfl c35 c36 c37 w) ?_
                obtain ⟨s38, c39, h⟩ := h
                refine SOps.rd (v := .string s38) rfl (wantN rfl) (fun w hw => ev_load1 rfl (fun _ => by kernel_rfl) (p := (p34.1, (p34.2 + x32.toNat * 1))) rfl c39 w hw) ?_
                refine SOps.val (v := .string s38) rfl (wantN rfl) (fun _ => by kernel_rfl) ?_
                refine SOps.nil ?_
                refine SW.seq ?_
                refine SW.region ?_
                refine SOps.val (v := pv p29) rfl (wantN rfl) (fun _ => by kernel_rfl) ?_
                refine SOps.val (v := .string s38) rfl (wantN rfl) (fun _ => by kernel_rfl) ?_
                refine SOps.lit (E := 9) (cs := #[.string s38]) rfl rfl (wantN rfl) (fun _ => by kernel_rfl) (fun b40 c41 => ?_)
                replace h := h b40 c41
                refine SOps.enter rfl (wantN rfl) (fun _ => by kernel_rfl) (journal_Journal_Put.sound F p29 (⟨some (b40, 0), 1, 1⟩ : Sl) (SH.upd H b40 ⟨[.string s38], 9, false, 1⟩) _ h) ?_
                clear h
                rintro v H43 ⟨e42, rfl, h⟩
                rcases e42 with _ | v44
                · replace h := h.1 rfl
                  refine SOps.val (v := .bool false) rfl (wantN rfl) (fun w => ev_errNe (e := none) rfl Try.underlying27 rfl rfl w) ?_
                  refine SOps.nil ?_
                  refine SW.cond_f (t := false) rfl rfl ?_
                  refine SW.skip ?_
                  refine SW.region ?_
                  refine SOps.val (v := .int .i64 (w64 (x32 + 1))) rfl (wantN rfl) (fun _ => by kernel_rfl) ?_
                  refine SOps.val (v := .int .i64 (w64 (x32 + 1))) rfl (wantN rfl) (fun _ => by kernel_rfl) ?_
                  refine SOps.nil ?_
                  exact ⟨k1, Nat.lt_succ_self k1, _, l24, q25, p26, p27, p28, p29, l30, x31, w64 (x32 + 1), (Fr.upds_self _ _ ⟨rfl, rfl, rfl, rfl, rfl, rfl, rfl, rfl, rfl, trivial⟩), h⟩
                · replace h := h.2 v44 rfl
                  refine SOps.val (v := .bool true) rfl (wantN rfl) (fun w => ev_errNe (e := some v44) rfl Try.underlying27 rfl rfl w) ?_
                  refine SOps.nil ?_
                  refine SW.cond_t (t := true) rfl rfl ?_
                  refine SW.seq ?_
                  refine SW.region ?_
                  refine SOps.val (v := .bool false) rfl (wantN rfl) (fun _ => by kernel_rfl) ?_
                  refine SOps.nil ?_
                  obtain ⟨Hr, hr, h⟩ := h
                  exact SW.ret (retQ.mk (.bool false) (res1 rfl rfl) hr ⟨false, rfl, h⟩)
              · replace h := h.2 c33
                have dc33 : (decide (x32 < x31)) = false := (decide_eq_false c33)
                refine SW.cond_f (t := decide (x32 < x31)) rfl dc33 ?_
                refine SW.exit ?_
                refine SW.seqJ (fun fr H => ∃ (g : Fr) (l55 : Sl) (p56 : Option (Nat × Nat)) (p57 : Option (Nat × Nat)) (p58 : Option (Nat × Nat)), fr = g.upds [(0, sv l55), (5, pv p56), (7, pv p57), (9, pv p58)] ∧ ladinglaw15_JournalTwice.j1 F K l55 p56 p57 p58 H) ?_ ?_
                · clear h
                  rintro fr H ⟨g, l55, p56, p57, p58, rfl, h⟩
                  unfold ladinglaw15_JournalTwice.j1 at h
                  refine SW.seq ?_
                  refine SW.seq ?_
                  refine SW.region ?_
                  refine SOps.val (v := .int .i64 0) rfl (wantN rfl) (fun _ => by kernel_rfl) ?_
                  refine SOps.nil ?_
                  refine SW.block ?_
                  refine SW.loop (fun k2 fr H => ∃ (g : Fr) (l62 : Sl) (p63 : Option (Nat × Nat)) (p64 : Option (Nat × Nat)) (p65 : Option (Nat × Nat)) (x66 : Int), fr = g.upds [(0, sv l62), (5, pv p63), (7, pv p64), (9, pv p65), (13, (.int .i64 x66 : Value))] ∧ ladinglaw15_JournalTwice.l2 F K k2 l62 p63 p64 p65 x66 H) F ⟨_, l55, p56, p57, p58, 0, (Fr.upds_self _ _ ⟨rfl, rfl, rfl, rfl, rfl, trivial⟩), h⟩ ?_
                  clear h
                  rintro k2 fr H ⟨g, l62, p63, p64, p65, x66, rfl, h⟩
                  cases k2 with
                  | zero => exact h.elim
                  | succ k2 =>
                    replace h : ladinglaw15_JournalTwice.r2 F K (ladinglaw15_JournalTwice.l2 F K k2) l62 p63 p64 p65 x66 H := h
                    unfold ladinglaw15_JournalTwice.r2 at h
                    refine SW.seq ?_
                    refine SW.seq ?_
                    refine SW.region ?_
                    refine SOps.val (v := .int .i64 x66) rfl (wantN rfl) (fun _ => by kernel_rfl) ?_
                    refine SOps.val (v := .bool (decide (x66 < 3))) rfl (wantN rfl) (fun _ => by kernel_rfl) ?_
                    refine SOps.nil ?_
                    by_cases c67 : x66 < 3
                    · replace h := h.1 c67
                      have dc67 : (decide (x66 < 3)) = true := (decide_eq_true c67)
                      refine SW.cond_t (t := decide (x66 < 3)) rfl dc67 ?_
                      refine SW.skip ?_
                      refine SW.seq ?_
                      refine SW.block ?_
                      refine SW.seq ?_
                      refine SW.region ?_
                      refine SOps.val (v := pv p63) rfl (wantN rfl) (fun _ => by kernel_rfl) ?_
                      refine SOps.enter rfl (wantN rfl) (fun _ => by kernel_rfl) (journal_Open.sound F p63 H _ h) ?_
                      clear h
                      rintro v H70 ⟨p68, e69, rfl, h⟩
                      refine SOps.val (v := .tuple #[pv p68, errV e69]) rfl (wantN rfl) (fun _ => by kernel_rfl) ?_
                      refine SOps.val (v := pv p68) rfl (wantN rfl) (fun _ => by kernel_rfl) ?_
                      refine SOps.val (v := errV e69) rfl (wantN rfl) (fun _ => by kernel_rfl) ?_
                      refine SOps.val (v := pv p68) rfl (wantN rfl) (fun _ => by kernel_rfl) ?_
                      refine SOps.val (v := errV e69) rfl (wantN rfl) (fun _ => by kernel_rfl) ?_
                      refine SOps.nil ?_
                      refine SW.seq ?_
                      refine SW.region ?_
                      refine SOps.val (v := errV e69) rfl (wantN rfl) (fun _ => by kernel_rfl) ?_
                      rcases e69 with _ | v71
                      · replace h := h.1 rfl
                        refine SOps.val (v := .bool false) rfl (wantN rfl) (fun w => ev_errNe (e := none) rfl Try.underlying27 rfl rfl w) ?_
                        refine SOps.val (v := .bool false) rfl (wantN rfl) (fun _ => by kernel_rfl) ?_
                        refine SOps.val (v := pv p68) rfl (wantY (c := false) rfl rfl rfl rfl) (fun _ => by kernel_rfl) ?_
                        refine SOps.enter rfl (wantY (c := false) rfl rfl rfl rfl) (fun _ => by kernel_rfl) (journal_Journal_All.sound F p68 H70 _ h) ?_
                        clear h
                        rintro v H73 ⟨l72, rfl, h⟩
                        refine SOps.val (v := sv l62) rfl (wantY (c := false) rfl rfl rfl rfl) (fun _ => by kernel_rfl) ?_
                        refine SOps.enter rfl (wantY (c := false) rfl rfl rfl rfl) (fun _ => by kernel_rfl) (ladingref09_Same.sound F l72 l62 H73 _ h) ?_
                        clear h
                        rintro v H75 ⟨q74, rfl, h⟩
                        refine SOps.val (v := .bool (!q74)) rfl (wantY (c := false) rfl rfl rfl rfl) (fun _ => by kernel_rfl) ?_
                        refine SOps.val (v := .bool (!q74)) rfl (wantN rfl) (fun w => ev_pickF (v := .bool (!q74)) rfl (t := false) rfl rfl rfl w) ?_
                        refine SOps.val (v := .bool (!q74)) rfl (wantN rfl) (fun _ => by kernel_rfl) ?_
                        by_cases c76 : q74 = true
                        · replace h := h.1 c76
                          have dc76 : q74 = true := c76
                          refine SOps.val (v := pv p63) rfl (wantY (c := !q74) rfl rfl rfl (not_t dc76)) (fun _ => by kernel_rfl) ?_
                          refine SOps.enter rfl (wantY (c := !q74) rfl rfl rfl (not_t dc76)) (fun _ => by kernel_rfl) (disk_Disk_Waits.sound F p63 H75 _ h) ?_
                          clear h
                          rintro v H78 ⟨x77, rfl, h⟩
                          refine SOps.val (v := .bool (x77 != 0)) rfl (wantY (c := !q74) rfl rfl rfl (not_t dc76)) (fun _ => by kernel_rfl) ?_
                          refine SOps.val (v := .bool (x77 != 0)) rfl (wantN rfl) (fun w => ev_pickF (v := .bool (x77 != 0)) rfl (t := !q74) rfl (not_t dc76) rfl w) ?_
                          refine SOps.nil ?_
                          by_cases c79 : x77 ≠ 0
                          · replace h := h.1 c79
                            have dc79 : (x77 != 0) = true := (bne_iff_ne.mpr c79)
                            refine SW.cond_t (t := (x77 != 0)) rfl dc79 ?_
                            refine SW.seq ?_
                            refine SW.region ?_
                            refine SOps.val (v := .bool false) rfl (wantN rfl) (fun _ => by kernel_rfl) ?_
                            refine SOps.nil ?_
                            obtain ⟨Hr, hr, h⟩ := h
                            exact SW.ret (retQ.mk (.bool false) (res1 rfl rfl) hr ⟨false, rfl, h⟩)
                          · replace h := h.2 c79
                            have dc79 : (x77 != 0) = false := (by simpa using c79)
                            refine SW.cond_f (t := (x77 != 0)) rfl dc79 ?_
                            refine SW.skip ?_
                            refine SW.region ?_
                            refine SOps.val (v := .int .i64 x66) rfl (wantN rfl) (fun _ => by kernel_rfl) ?_
                            refine SOps.val (v := .int .i64 (w64 (x66 + 1))) rfl (wantN rfl) (fun _ => by kernel_rfl) ?_
                            refine SOps.val (v := .int .i64 (w64 (x66 + 1))) rfl (wantN rfl) (fun _ => by kernel_rfl) ?_
                            refine SOps.nil ?_
                            exact ⟨k2, Nat.lt_succ_self k2, _, l62, p63, p64, p65, w64 (x66 + 1), (Fr.upds_self _ _ ⟨rfl, rfl, rfl, rfl, rfl, trivial⟩), h⟩
                        · replace h := h.2 c76
                          have dc76 : q74 = false := (Bool.eq_false_iff.mpr c76)
                          refine SOps.off rfl (wantX (c := !q74) rfl rfl rfl (not_f dc76)) ?_
                          refine SOps.off rfl (wantX (c := !q74) rfl rfl rfl (not_f dc76)) ?_
                          refine SOps.off rfl (wantX (c := !q74) rfl rfl rfl (not_f dc76)) ?_
                          refine SOps.val (v := .bool true) rfl (wantN rfl) (fun w => ev_pickT (v := .bool true) rfl (t := !q74) rfl (not_f dc76) rfl w) ?_
                          refine SOps.nil ?_
                          refine SW.cond_t (t := true) rfl rfl ?_
                          refine SW.seq ?_
                          refine SW.region ?_
                          refine SOps.val (v := .bool false) rfl (wantN rfl) (fun _ => by kernel_rfl) ?_
                          refine SOps.nil ?_
                          obtain ⟨Hr, hr, h⟩ := h
                          exact SW.ret (retQ.mk (.bool false) (res1 rfl rfl) hr ⟨false, rfl, h⟩)
                      · replace h := h.2 v71 rfl
                        refine SOps.val (v := .bool true) rfl (wantN rfl) (fun w => ev_errNe (e := some v71) rfl Try.underlying27 rfl rfl w) ?_
                        refine SOps.val (v := .bool true) rfl (wantN rfl) (fun _ => by kernel_rfl) ?_
                        refine SOps.off rfl (wantX (c := true) rfl rfl rfl rfl) ?_
                        refine SOps.off rfl (wantX (c := true) rfl rfl rfl rfl) ?_
                        refine SOps.off rfl (wantX (c := true) rfl rfl rfl rfl) ?_
                        refine SOps.off rfl (wantX (c := true) rfl rfl rfl rfl) ?_
                        refine SOps.off rfl (wantX (c := true) rfl rfl rfl rfl) ?_
                        refine SOps.val (v := .bool true) rfl (wantN rfl) (fun w => ev_pickT (v := .bool true) rfl (t := true) rfl rfl rfl w) ?_
                        refine SOps.val (v := .bool true) rfl (wantN rfl) (fun _ => by kernel_rfl) ?_
                        refine SOps.off rfl (wantX (c := true) rfl rfl rfl rfl) ?_
                        refine SOps.off rfl (wantX (c := true) rfl rfl rfl rfl) ?_
                        refine SOps.off rfl (wantX (c := true) rfl rfl rfl rfl) ?_
                        refine SOps.val (v := .bool true) rfl (wantN rfl) (fun w => ev_pickT (v := .bool true) rfl (t := true) rfl rfl rfl w) ?_
                        refine SOps.nil ?_
                        refine SW.cond_t (t := true) rfl rfl ?_
                        refine SW.seq ?_
                        refine SW.region ?_
                        refine SOps.val (v := .bool false) rfl (wantN rfl) (fun _ => by kernel_rfl) ?_
                        refine SOps.nil ?_
                        obtain ⟨Hr, hr, h⟩ := h
                        exact SW.ret (retQ.mk (.bool false) (res1 rfl rfl) hr ⟨false, rfl, h⟩)
                    · replace h := h.2 c67
                      have dc67 : (decide (x66 < 3)) = false := (decide_eq_false c67)
                      refine SW.cond_f (t := decide (x66 < 3)) rfl dc67 ?_
                      refine SW.exit ?_
                      refine SW.seq ?_
                      refine SW.region ?_
                      refine SOps.val (v := pv p64) rfl (wantN rfl) (fun _ => by kernel_rfl) ?_
                      refine SOps.enter rfl (wantN rfl) (fun _ => by kernel_rfl) (journal_Journal_All.sound F p64 H _ h) ?_
                      clear h
                      rintro v H81 ⟨l80, rfl, h⟩
                      refine SOps.val (v := pv p65) rfl (wantN rfl) (fun _ => by kernel_rfl) ?_
                      refine SOps.enter rfl (wantN rfl) (fun _ => by kernel_rfl) (journal_Journal_All.sound F p65 H81 _ h) ?_
                      clear h
                      rintro v H83 ⟨l82, rfl, h⟩
                      refine SOps.enter rfl (wantN rfl) (fun _ => by kernel_rfl) (ladingref09_Same.sound F l80 l82 H83 _ h) ?_
                      clear h
                      rintro v H85 ⟨q84, rfl, h⟩
                      refine SOps.val (v := .bool q84) rfl (wantN rfl) (fun _ => by kernel_rfl) ?_
                      by_cases c86 : q84 = true
                      · replace h := h.1 c86
                        have dc86 : q84 = true := c86
                        refine SOps.val (v := pv p64) rfl (wantY (c := q84) rfl rfl rfl dc86) (fun _ => by kernel_rfl) ?_
                        refine SOps.enter rfl (wantY (c := q84) rfl rfl rfl dc86) (fun _ => by kernel_rfl) (journal_Journal_Bytes.sound F p64 H85 _ h) ?_
                        clear h
                        rintro v H88 ⟨x87, rfl, h⟩
                        refine SOps.val (v := pv p65) rfl (wantY (c := q84) rfl rfl rfl dc86) (fun _ => by kernel_rfl) ?_
                        refine SOps.enter rfl (wantY (c := q84) rfl rfl rfl dc86) (fun _ => by kernel_rfl) (journal_Journal_Bytes.sound F p65 H88 _ h) ?_
                        clear h
                        rintro v H90 ⟨x89, rfl, h⟩
                        refine SOps.val (v := .bool (x87 == x89)) rfl (wantY (c := q84) rfl rfl rfl dc86) (fun _ => by kernel_rfl) ?_
                        refine SOps.val (v := .bool (x87 == x89)) rfl (wantN rfl) (fun w => ev_pickT (v := .bool (x87 == x89)) rfl (t := q84) rfl dc86 rfl w) ?_
                        refine SOps.val (v := .bool (x87 == x89)) rfl (wantN rfl) (fun _ => by kernel_rfl) ?_
                        refine SOps.nil ?_
                        obtain ⟨Hr, hr, h⟩ := h
                        exact SW.ret (retQ.mk (.bool (x87 == x89)) (res1 rfl rfl) hr ⟨(x87 == x89), rfl, h⟩)
                      · replace h := h.2 c86
                        have dc86 : q84 = false := (Bool.eq_false_iff.mpr c86)
                        refine SOps.off rfl (wantX (c := q84) rfl rfl rfl dc86) ?_
                        refine SOps.off rfl (wantX (c := q84) rfl rfl rfl dc86) ?_
                        refine SOps.off rfl (wantX (c := q84) rfl rfl rfl dc86) ?_
                        refine SOps.off rfl (wantX (c := q84) rfl rfl rfl dc86) ?_
                        refine SOps.off rfl (wantX (c := q84) rfl rfl rfl dc86) ?_
                        refine SOps.val (v := .bool false) rfl (wantN rfl) (fun w => ev_pickF (v := .bool false) rfl (t := q84) rfl dc86 rfl w) ?_
                        refine SOps.val (v := .bool false) rfl (wantN rfl) (fun _ => by kernel_rfl) ?_
                        refine SOps.nil ?_
                        obtain ⟨Hr, hr, h⟩ := h
                        exact SW.ret (retQ.mk (.bool false) (res1 rfl rfl) hr ⟨false, rfl, h⟩)
                · skip
                  refine SW.seq ?_
                  refine SW.region ?_
                  refine SOps.val (v := .bool q25) rfl (wantN rfl) (fun _ => by kernel_rfl) ?_
                  refine SOps.val (v := .bool q25) rfl (wantN rfl) (fun _ => by kernel_rfl) ?_
                  by_cases c45 : q25 = true
                  · replace h := h.1 c45
                    have dc45 : q25 = true := c45
                    refine SOps.val (v := pv p28) rfl (wantY (c := q25) rfl rfl rfl dc45) (fun _ => by kernel_rfl) ?_
                    refine SOps.enter rfl (wantY (c := q25) rfl rfl rfl dc45) (fun _ => by kernel_rfl) (journal_Journal_Flush.sound F p28 H _ h) ?_
                    clear h
                    rintro v H47 ⟨e46, rfl, h⟩
                    rcases e46 with _ | v48
                    · replace h := h.1 rfl
                      refine SOps.val (v := .bool false) rfl (wantY (c := q25) rfl rfl rfl dc45) (fun w => ev_errNe (e := none) rfl Try.underlying27 rfl rfl w) ?_
                      refine SOps.val (v := .bool false) rfl (wantY (c := q25) rfl rfl rfl dc45) (fun _ => by kernel_rfl) ?_
                      refine SOps.val (v := pv p29) rfl (wantY (c := false) rfl rfl rfl rfl) (fun _ => by kernel_rfl) ?_
                      refine SOps.enter rfl (wantY (c := false) rfl rfl rfl rfl) (fun _ => by kernel_rfl) (journal_Journal_Flush.sound F p29 H47 _ h) ?_
                      clear h
                      rintro v H50 ⟨e49, rfl, h⟩
                      rcases e49 with _ | v51
                      · replace h := h.1 rfl
                        refine SOps.val (v := .bool false) rfl (wantY (c := false) rfl rfl rfl rfl) (fun w => ev_errNe (e := none) rfl Try.underlying27 rfl rfl w) ?_
                        refine SOps.val (v := .bool false) rfl (wantY (c := q25) rfl rfl rfl dc45) (fun w => ev_pickF (v := .bool false) rfl (t := false) rfl rfl rfl w) ?_
                        refine SOps.val (v := .bool false) rfl (wantN rfl) (fun w => ev_pickT (v := .bool false) rfl (t := q25) rfl dc45 rfl w) ?_
                        refine SOps.val (v := .bool false) rfl (wantN rfl) (fun _ => by kernel_rfl) ?_
                        refine SOps.val (v := pv p26) rfl (wantY (c := false) rfl rfl rfl rfl) (fun _ => by kernel_rfl) ?_
                        refine SOps.val (v := pv p27) rfl (wantY (c := false) rfl rfl rfl rfl) (fun _ => by kernel_rfl) ?_
                        refine SOps.enter rfl (wantY (c := false) rfl rfl rfl rfl) (fun _ => by kernel_rfl) (disk_Disk_Same.sound F p26 p27 H50 _ h) ?_
                        clear h
                        rintro v H53 ⟨q52, rfl, h⟩
                        refine SOps.val (v := .bool (!q52)) rfl (wantY (c := false) rfl rfl rfl rfl) (fun _ => by kernel_rfl) ?_
                        refine SOps.val (v := .bool (!q52)) rfl (wantN rfl) (fun w => ev_pickF (v := .bool (!q52)) rfl (t := false) rfl rfl rfl w) ?_
                        refine SOps.nil ?_
                        by_cases c54 : q52 = true
                        · replace h := h.1 c54
                          have dc54 : q52 = true := c54
                          refine SW.cond_f (t := !q52) rfl (not_t dc54) ?_
                          refine SW.skip ?_
                          exact ⟨_, l24, p26, p28, p29, Fr.upds_self _ _ ⟨rfl, rfl, rfl, rfl, trivial⟩, h⟩
                        · replace h := h.2 c54
                          have dc54 : q52 = false := (Bool.eq_false_iff.mpr c54)
                          refine SW.cond_t (t := !q52) rfl (not_f dc54) ?_
                          refine SW.seq ?_
                          refine SW.region ?_
                          refine SOps.val (v := .bool false) rfl (wantN rfl) (fun _ => by kernel_rfl) ?_
                          refine SOps.nil ?_
                          obtain ⟨Hr, hr, h⟩ := h
                          exact SW.ret (retQ.mk (.bool false) (res1 rfl rfl) hr ⟨false, rfl, h⟩)
                      · replace h := h.2 v51 rfl
                        refine SOps.val (v := .bool true) rfl (wantY (c := false) rfl rfl rfl rfl) (fun w => ev_errNe (e := some v51) rfl Try.underlying27 rfl rfl w) ?_
                        refine SOps.val (v := .bool true) rfl (wantY (c := q25) rfl rfl rfl dc45) (fun w => ev_pickF (v := .bool true) rfl (t := false) rfl rfl rfl w) ?_
                        refine SOps.val (v := .bool true) rfl (wantN rfl) (fun w => ev_pickT (v := .bool true) rfl (t := q25) rfl dc45 rfl w) ?_
                        refine SOps.val (v := .bool true) rfl (wantN rfl) (fun _ => by kernel_rfl) ?_
                        refine SOps.off rfl (wantX (c := true) rfl rfl rfl rfl) ?_
                        refine SOps.off rfl (wantX (c := true) rfl rfl rfl rfl) ?_
                        refine SOps.off rfl (wantX (c := true) rfl rfl rfl rfl) ?_
                        refine SOps.off rfl (wantX (c := true) rfl rfl rfl rfl) ?_
                        refine SOps.val (v := .bool true) rfl (wantN rfl) (fun w => ev_pickT (v := .bool true) rfl (t := true) rfl rfl rfl w) ?_
                        refine SOps.nil ?_
                        refine SW.cond_t (t := true) rfl rfl ?_
                        refine SW.seq ?_
                        refine SW.region ?_
                        refine SOps.val (v := .bool false) rfl (wantN rfl) (fun _ => by kernel_rfl) ?_
                        refine SOps.nil ?_
                        obtain ⟨Hr, hr, h⟩ := h
                        exact SW.ret (retQ.mk (.bool false) (res1 rfl rfl) hr ⟨false, rfl, h⟩)
                    · replace h := h.2 v48 rfl
                      refine SOps.val (v := .bool true) rfl (wantY (c := q25) rfl rfl rfl dc45) (fun w => ev_errNe (e := some v48) rfl Try.underlying27 rfl rfl w) ?_
                      refine SOps.val (v := .bool true) rfl (wantY (c := q25) rfl rfl rfl dc45) (fun _ => by kernel_rfl) ?_
                      refine SOps.off rfl (wantX (c := true) rfl rfl rfl rfl) ?_
                      refine SOps.off rfl (wantX (c := true) rfl rfl rfl rfl) ?_
                      refine SOps.off rfl (wantX (c := true) rfl rfl rfl rfl) ?_
                      refine SOps.val (v := .bool true) rfl (wantY (c := q25) rfl rfl rfl dc45) (fun w => ev_pickT (v := .bool true) rfl (t := true) rfl rfl rfl w) ?_
                      refine SOps.val (v := .bool true) rfl (wantN rfl) (fun w => ev_pickT (v := .bool true) rfl (t := q25) rfl dc45 rfl w) ?_
                      refine SOps.val (v := .bool true) rfl (wantN rfl) (fun _ => by kernel_rfl) ?_
                      refine SOps.off rfl (wantX (c := true) rfl rfl rfl rfl) ?_
                      refine SOps.off rfl (wantX (c := true) rfl rfl rfl rfl) ?_
                      refine SOps.off rfl (wantX (c := true) rfl rfl rfl rfl) ?_
                      refine SOps.off rfl (wantX (c := true) rfl rfl rfl rfl) ?_
                      refine SOps.val (v := .bool true) rfl (wantN rfl) (fun w => ev_pickT (v := .bool true) rfl (t := true) rfl rfl rfl w) ?_
                      refine SOps.nil ?_
                      refine SW.cond_t (t := true) rfl rfl ?_
                      refine SW.seq ?_
                      refine SW.region ?_
                      refine SOps.val (v := .bool false) rfl (wantN rfl) (fun _ => by kernel_rfl) ?_
                      refine SOps.nil ?_
                      obtain ⟨Hr, hr, h⟩ := h
                      exact SW.ret (retQ.mk (.bool false) (res1 rfl rfl) hr ⟨false, rfl, h⟩)
                  · replace h := h.2 c45
                    have dc45 : q25 = false := (Bool.eq_false_iff.mpr c45)
                    refine SOps.off rfl (wantX (c := q25) rfl rfl rfl dc45) ?_
                    refine SOps.off rfl (wantX (c := q25) rfl rfl rfl dc45) ?_
                    refine SOps.off rfl (wantX (c := q25) rfl rfl rfl dc45) ?_
                    refine SOps.off rfl (wantX (c := q25) rfl rfl rfl dc45) ?_
                    refine SOps.off rfl (wantU rfl rfl rfl) ?_
                    refine SOps.off rfl (wantU rfl rfl rfl) ?_
                    refine SOps.off rfl (wantU rfl rfl rfl) ?_
                    refine SOps.off rfl (wantX (c := q25) rfl rfl rfl dc45) ?_
                    refine SOps.val (v := .bool false) rfl (wantN rfl) (fun w => ev_pickF (v := .bool false) rfl (t := q25) rfl dc45 rfl w) ?_
                    refine SOps.val (v := .bool false) rfl (wantN rfl) (fun _ => by kernel_rfl) ?_
                    refine SOps.val (v := pv p26) rfl (wantY (c := false) rfl rfl rfl rfl) (fun _ => by kernel_rfl) ?_
                    refine SOps.val (v := pv p27) rfl (wantY (c := false) rfl rfl rfl rfl) (fun _ => by kernel_rfl) ?_
                    refine SOps.enter rfl (wantY (c := false) rfl rfl rfl rfl) (fun _ => by kernel_rfl) (disk_Disk_Same.sound F p26 p27 H _ h) ?_
                    clear h
                    rintro v H60 ⟨q59, rfl, h⟩
                    refine SOps.val (v := .bool (!q59)) rfl (wantY (c := false) rfl rfl rfl rfl) (fun _ => by kernel_rfl) ?_
                    refine SOps.val (v := .bool (!q59)) rfl (wantN rfl) (fun w => ev_pickF (v := .bool (!q59)) rfl (t := false) rfl rfl rfl w) ?_
                    refine SOps.nil ?_
                    by_cases c61 : q59 = true
                    · replace h := h.1 c61
                      have dc61 : q59 = true := c61
                      refine SW.cond_f (t := !q59) rfl (not_t dc61) ?_
                      refine SW.skip ?_
                      exact ⟨_, l24, p26, p28, p29, Fr.upds_self _ _ ⟨rfl, rfl, rfl, rfl, trivial⟩, h⟩
                    · replace h := h.2 c61
                      have dc61 : q59 = false := (Bool.eq_false_iff.mpr c61)
                      refine SW.cond_t (t := !q59) rfl (not_f dc61) ?_
                      refine SW.seq ?_
                      refine SW.region ?_
                      refine SOps.val (v := .bool false) rfl (wantN rfl) (fun _ => by kernel_rfl) ?_
                      refine SOps.nil ?_
                      obtain ⟨Hr, hr, h⟩ := h
                      exact SW.ret (retQ.mk (.bool false) (res1 rfl rfl) hr ⟨false, rfl, h⟩)
          · replace h := h.2 v23 rfl
            refine SOps.val (v := .bool true) rfl (wantY (c := false) rfl rfl rfl rfl) (fun w => ev_errNe (e := some v23) rfl Try.underlying27 rfl rfl w) ?_
            refine SOps.val (v := .bool true) rfl (wantN rfl) (fun w => ev_pickF (v := .bool true) rfl (t := false) rfl rfl rfl w) ?_
            refine SOps.nil ?_
            refine SW.cond_t (t := true) rfl rfl ?_
            refine SW.seq ?_
            refine SW.region ?_
            refine SOps.val (v := .bool false) rfl (wantN rfl) (fun _ => by kernel_rfl) ?_
            refine SOps.nil ?_
            obtain ⟨Hr, hr, h⟩ := h
            exact SW.ret (retQ.mk (.bool false) (res1 rfl rfl) hr ⟨false, rfl, h⟩)
        · replace h := h.2 v20 rfl
          refine SOps.val (v := .bool true) rfl (wantY (c := false) rfl rfl rfl rfl) (fun w => ev_errNe (e := some v20) rfl Try.underlying27 rfl rfl w) ?_
          refine SOps.val (v := .bool true) rfl (wantN rfl) (fun w => ev_pickF (v := .bool true) rfl (t := false) rfl rfl rfl w) ?_
          refine SOps.val (v := .bool true) rfl (wantN rfl) (fun _ => by kernel_rfl) ?_
          refine SOps.off rfl (wantX (c := true) rfl rfl rfl rfl) ?_
          refine SOps.off rfl (wantX (c := true) rfl rfl rfl rfl) ?_
          refine SOps.off rfl (wantX (c := true) rfl rfl rfl rfl) ?_
          refine SOps.off rfl (wantX (c := true) rfl rfl rfl rfl) ?_
          refine SOps.val (v := .bool true) rfl (wantN rfl) (fun w => ev_pickT (v := .bool true) rfl (t := true) rfl rfl rfl w) ?_
          refine SOps.nil ?_
          refine SW.cond_t (t := true) rfl rfl ?_
          refine SW.seq ?_
          refine SW.region ?_
          refine SOps.val (v := .bool false) rfl (wantN rfl) (fun _ => by kernel_rfl) ?_
          refine SOps.nil ?_
          obtain ⟨Hr, hr, h⟩ := h
          exact SW.ret (retQ.mk (.bool false) (res1 rfl rfl) hr ⟨false, rfl, h⟩)
      · replace h := h.2 v19 rfl
        refine SOps.val (v := .bool true) rfl (wantN rfl) (fun w => ev_errNe (e := some v19) rfl Try.underlying27 rfl rfl w) ?_
        refine SOps.val (v := .bool true) rfl (wantN rfl) (fun _ => by kernel_rfl) ?_
        refine SOps.off rfl (wantX (c := true) rfl rfl rfl rfl) ?_
        refine SOps.off rfl (wantX (c := true) rfl rfl rfl rfl) ?_
        refine SOps.val (v := .bool true) rfl (wantN rfl) (fun w => ev_pickT (v := .bool true) rfl (t := true) rfl rfl rfl w) ?_
        refine SOps.val (v := .bool true) rfl (wantN rfl) (fun _ => by kernel_rfl) ?_
        refine SOps.off rfl (wantX (c := true) rfl rfl rfl rfl) ?_
        refine SOps.off rfl (wantX (c := true) rfl rfl rfl rfl) ?_
        refine SOps.off rfl (wantX (c := true) rfl rfl rfl rfl) ?_
        refine SOps.off rfl (wantX (c := true) rfl rfl rfl rfl) ?_
        refine SOps.val (v := .bool true) rfl (wantN rfl) (fun w => ev_pickT (v := .bool true) rfl (t := true) rfl rfl rfl w) ?_
        refine SOps.nil ?_
        refine SW.cond_t (t := true) rfl rfl ?_
        refine SW.seq ?_
        refine SW.region ?_
        refine SOps.val (v := .bool false) rfl (wantN rfl) (fun _ => by kernel_rfl) ?_
        refine SOps.nil ?_
        obtain ⟨Hr, hr, h⟩ := h
        exact SW.ret (retQ.mk (.bool false) (res1 rfl rfl) hr ⟨false, rfl, h⟩)
  · replace h := h.2 c5
    have dc5 : q3 = false := (Bool.eq_false_iff.mpr c5)
    refine SW.cond_t (t := !q3) rfl (not_f dc5) ?_
    refine SW.seq ?_
    refine SW.region ?_
    refine SOps.val (v := .bool false) rfl (wantN rfl) (fun _ => by kernel_rfl) ?_
    refine SOps.nil ?_
    obtain ⟨Hr, hr, h⟩ := h
    exact SW.ret (retQ.mk (.bool false) (res1 rfl rfl) hr ⟨false, rfl, h⟩)

end Go.Proofs.Ytknhlipealekoaa.K
