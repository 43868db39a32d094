import Derived.Test.YtknhlipealekoaaDoorGladinglaw15
set_option linter.unusedVariables false
set_option linter.unusedSimpArgs false
set_option maxRecDepth 100000
namespace Go.Proofs.YtknhlipealekoaaDoor.K
open Go
attribute [local irreducible] SW SOps SQ SCalls retQ

/-! ### (*lading/journal.Journal).Last: function 37 -/
def journal_Journal_Last__ladinglaw15_JournalLast_1.r1 (F : Nat) (K : ByteArray → Bool → SH → Prop) (R1 : Nat → Nat → Option (Nat × Nat) → Int → SH → Prop) (b7 : Nat) (o8 : Nat) (p9 : Option (Nat × Nat)) (x10 : Int) (H : SH) : Prop :=
  (x10 ≥ 0 →
    ∃ (l12 : Sl),
    SH.has H (b7, (o8 + 1)) (sv l12) ∧
    ∃ p14, l12.a = some p14 ∧ 0 ≤ x10 ∧ x10 < (l12.len : Int) ∧
    ∃ (s18 : ByteArray),
    SH.has H (p14.1, (p14.2 + x10.toNat * 1)) (.string s18) ∧
    ladinglaw15_JournalLast_1.wp F s18 p9 H (fun q20 H21 =>
      (q20 = true →
        ∃ (l23 : Sl),
        SH.has H21 (b7, (o8 + 1)) (sv l23) ∧
        ∃ p25, l23.a = some p25 ∧ 0 ≤ x10 ∧ x10 < (l23.len : Int) ∧
        ∃ (s29 : ByteArray),
        SH.has H21 (p25.1, (p25.2 + x10.toNat * 1)) (.string s29) ∧
        ∃ Hr, SH.le Hr H21 ∧ K s29 true Hr
      ) ∧ (¬ (q20 = true) →
        R1 b7 o8 p9 (w64 (x10 - 1)) H21
      )
    )
  ) ∧ (¬ (x10 ≥ 0) →
    ∃ Hr, SH.le Hr H ∧ K ByteArray.empty false Hr
  )
def journal_Journal_Last__ladinglaw15_JournalLast_1.l1 (F : Nat) (K : ByteArray → Bool → SH → Prop) : Nat → Nat → Nat → Option (Nat × Nat) → Int → SH → Prop
  | 0, _, _, _, _, _ => False
  | k + 1, b7, o8, p9, x10, H => journal_Journal_Last__ladinglaw15_JournalLast_1.r1 F K (journal_Journal_Last__ladinglaw15_JournalLast_1.l1 F K k) b7 o8 p9 x10 H
def journal_Journal_Last__ladinglaw15_JournalLast_1.wp (F : Nat) (p1 : Option (Nat × Nat)) (p2 : Option (Nat × Nat)) (H : SH) (K : ByteArray → Bool → SH → Prop) : Prop :=
  (p1 = none →
    ∃ Hr, SH.le Hr H ∧ K ByteArray.empty false Hr
  ) ∧ (∀ b3 o4, p1 = some (b3, o4) →
    ∃ (l5 : Sl),
    SH.has H (b3, (o4 + 1)) (sv l5) ∧
    journal_Journal_Last__ladinglaw15_JournalLast_1.l1 F K F b3 o4 p2 (w64 ((l5.len : Int) - 1)) H
  )
set_option maxHeartbeats 8000000 in
theorem journal_Journal_Last__ladinglaw15_JournalLast_1.sound (F : Nat) (p1 : Option (Nat × Nat)) (p2 : Option (Nat × Nat)) (H : SH) (K : ByteArray → Bool → SH → Prop) (h : journal_Journal_Last__ladinglaw15_JournalLast_1.wp F p1 p2 H K) : SCalls Tryd.prog 37 #[pv p1, .func (.func 36) #[] #[pv p2]] H (fun v H' => ∃ (s37 : ByteArray) (q38 : Bool), v = .tuple #[.string s37, .bool q38] ∧ K s37 q38 H') := by
  unfold journal_Journal_Last__ladinglaw15_JournalLast_1.wp at h
  refine SCalls.body Tryd.func37 rfl (Nat.le_of_ble_eq_true rfl) ?_
  refine SW.seq ?_
  refine SW.region ?_
  refine SOps.val (v := .string ByteArray.empty) rfl (wantN rfl) (fun _ => by kernel_rfl) ?_
  refine SOps.val (v := .bool false) rfl (wantN rfl) (fun _ => by kernel_rfl) ?_
  refine SOps.nil ?_
  refine SW.seq ?_
  refine SW.seq ?_
  refine SW.region ?_
  refine SOps.val (v := pv p1) rfl (wantN rfl) (fun _ => by kernel_rfl) ?_
  rcases p1 with _ | ⟨b3, o4⟩
  · replace h := h.1 rfl
    refine SOps.val (v := .bool true) rfl (wantN rfl) (fun _ => by kernel_rfl) ?_
    refine SOps.val (v := .bool true) rfl (wantN rfl) (fun _ => by kernel_rfl) ?_
    refine SOps.off rfl (wantX (c := true) rfl rfl rfl rfl) ?_
    refine SOps.off rfl (wantX (c := true) rfl rfl rfl rfl) ?_
    refine SOps.val (v := .bool true) rfl (wantN rfl) (fun w => ev_pickT (v := .bool true) rfl (t := true) rfl rfl rfl w) ?_
    refine SOps.nil ?_
    refine SW.cond_t (t := true) rfl rfl ?_
    refine SW.seq ?_
    refine SW.region ?_
    refine SOps.val (v := .string ByteArray.empty) rfl (wantN rfl) (fun _ => by kernel_rfl) ?_
    refine SOps.val (v := .bool false) rfl (wantN rfl) (fun _ => by kernel_rfl) ?_
    refine SOps.nil ?_
    obtain ⟨Hr, hr, h⟩ := h
    exact SW.ret (retQ.mk (.tuple #[.string ByteArray.empty, .bool false]) (res2 rfl rfl rfl) hr ⟨ByteArray.empty, false, rfl, h⟩)
  · replace h := h.2 b3 o4 rfl
    refine SOps.val (v := .bool false) rfl (wantN rfl) (fun _ => by kernel_rfl) ?_
    refine SOps.val (v := .bool false) rfl (wantN rfl) (fun _ => by kernel_rfl) ?_
    refine SOps.val (v := .func (.func 36) #[] #[pv p2]) rfl (wantY (c := false) rfl rfl rfl rfl) (fun _ => by kernel_rfl) ?_
    refine SOps.val (v := .bool false) rfl (wantY (c := false) rfl rfl rfl rfl) (fun _ => by kernel_rfl) ?_
    refine SOps.val (v := .bool false) rfl (wantN rfl) (fun w => ev_pickF (v := .bool false) rfl (t := false) rfl rfl rfl w) ?_
    refine SOps.nil ?_
    refine SW.cond_f (t := false) rfl rfl ?_
    refine SW.skip ?_
    refine SW.seq ?_
    refine SW.seq ?_
    refine SW.region ?_
    refine SOps.val (v := pv (some (b3, o4))) rfl (wantN rfl) (fun _ => by kernel_rfl) ?_
    refine SOps.val (v := pv (some (b3, o4))) rfl (wantN rfl) (fun _ => by kernel_rfl) ?_
    refine SOps.val (v := pv (some (b3, (o4 + 1)))) rfl (wantN rfl) (fun _ => by kernel_rfl) ?_
    obtain ⟨l5, c6, h⟩ := h
    refine SOps.rd (v := sv l5) rfl (wantN rfl) (fun w hw => ev_load1 rfl (fun _ => by kernel_rfl) (p := (b3, (o4 + 1))) rfl c6 w hw) ?_
    refine SOps.val (v := .int .i64 (l5.len : Int)) rfl (wantN rfl) (fun _ => by kernel_rfl) ?_
    refine SOps.val (v := .int .i64 (w64 ((l5.len : Int) - 1))) rfl (wantN rfl) (fun _ => by kernel_rfl) ?_
    refine SOps.val (v := .int .i64 (w64 ((l5.len : Int) - 1))) rfl (wantN rfl) (fun _ => by kernel_rfl) ?_
    refine SOps.nil ?_
    refine SW.block ?_
    refine SW.loop (fun k1 fr H => ∃ (g : Fr) (b7 : Nat) (o8 : Nat) (p9 : Option (Nat × Nat)) (x10 : Int), fr = g.upds [(0, pv (some (b7, o8))), (1, (.func (.func 36) #[] #[pv p9] : Value)), (6, (.int .i64 x10 : Value))] ∧ journal_Journal_Last__ladinglaw15_JournalLast_1.l1 F K k1 b7 o8 p9 x10 H) F ⟨_, b3, o4, p2, w64 ((l5.len : Int) - 1), (Fr.upds_self _ _ ⟨rfl, rfl, rfl, trivial⟩), h⟩ ?_
    clear h
    rintro k1 fr H ⟨g, b7, o8, p9, x10, rfl, h⟩
    cases k1 with
    | zero => exact h.elim
    | succ k1 =>
      replace h : journal_Journal_Last__ladinglaw15_JournalLast_1.r1 F K (journal_Journal_Last__ladinglaw15_JournalLast_1.l1 F K k1) b7 o8 p9 x10 H := h
      unfold journal_Journal_Last__ladinglaw15_JournalLast_1.r1 at h
      refine SW.seq ?_
      refine SW.seq ?_
      refine SW.region ?_
      refine SOps.val (v := .int .i64 x10) rfl (wantN rfl) (fun _ => by kernel_rfl) ?_
      refine SOps.val (v := .bool (decide (x10 ≥ 0))) rfl (wantN rfl) (fun _ => by kernel_rfl) ?_
      refine SOps.nil ?_
      by_cases c11 : x10 ≥ 0
      · replace h := h.1 c11
        have dc11 : (decide (x10 ≥ 0)) = true := (decide_eq_true c11)
        refine SW.cond_t (t := decide (x10 ≥ 0)) rfl dc11 ?_
        refine SW.skip ?_
        refine SW.seq ?_
        refine SW.block ?_
        refine SW.seq ?_
        refine SW.region ?_
        refine SOps.val (v := .func (.func 36) #[] #[pv p9]) rfl (wantN rfl) (fun _ => by kernel_rfl) ?_
        refine SOps.val (v := pv (some (b7, o8))) rfl (wantN rfl) (fun _ => by kernel_rfl) ?_
        refine SOps.val (v := pv (some (b7, o8))) rfl (wantN rfl) (fun _ => by kernel_rfl) ?_
        refine SOps.val (v := pv (some (b7, (o8 + 1)))) rfl (wantN rfl) (fun _ => by kernel_rfl) ?_
        obtain ⟨l12, c13, h⟩ := h
        refine SOps.rd (v := sv l12) rfl (wantN rfl) (fun w hw => ev_load1 rfl (fun _ => by kernel_rfl) (p := (b7, (o8 + 1))) rfl c13 w hw) ?_
        refine SOps.val (v := .int .i64 x10) rfl (wantN rfl) (fun _ => by kernel_rfl) ?_
        obtain ⟨p14, c15, c16, c17, h⟩ := h
        refine SOps.val (v := pv (some (p14.1, (p14.2 + x10.toNat * 1)))) rfl (wantN rfl) (fun w => ev_iaddr rfl Tryd.underlying55 (size := 1) (by kernel_rfl) rfl rfl c15 c16 c17 w) ?_
        obtain ⟨s18, c19, h⟩ := h
        refine SOps.rd (v := .string s18) rfl (wantN rfl) (fun w hw => ev_load1 rfl (fun _ => by kernel_rfl) (p := (p14.1, (p14.2 + x10.toNat * 1))) rfl c19 w hw) ?_
        refine SOps.enter rfl (wantN rfl) (fun _ => by kernel_rfl) (ladinglaw15_JournalLast_1.sound F s18 p9 H _ h) ?_
        clear h
        rintro v H21 ⟨q20, rfl, h⟩
        refine SOps.nil ?_
        by_cases c22 : q20 = true
        · replace h := h.1 c22
          have dc22 : q20 = true := c22
          refine SW.cond_t (t := q20) rfl dc22 ?_
          refine SW.seq ?_
          refine SW.region ?_
          refine SOps.val (v := pv (some (b7, o8))) rfl (wantN rfl) (fun _ => by kernel_rfl) ?_
          refine SOps.val (v := pv (some (b7, o8))) rfl (wantN rfl) (fun _ => by kernel_rfl) ?_
          refine SOps.val (v := pv (some (b7, (o8 + 1)))) rfl (wantN rfl) (fun _ => by kernel_rfl) ?_
          obtain ⟨l23, c24, h⟩ := h
          refine SOps.rd (v := sv l23) rfl (wantN rfl) (fun w hw => ev_load1 rfl (fun _ => by kernel_rfl) (p := (b7, (o8 + 1))) rfl c24 w hw) ?_
          refine SOps.val (v := .int .i64 x10) rfl (wantN rfl) (fun _ => by kernel_rfl) ?_
          obtain ⟨p25, c26, c27, c28, h⟩ := h
          refine SOps.val (v := pv (some (p25.1, (p25.2 + x10.toNat * 1)))) rfl (wantN rfl) (fun w => ev_iaddr rfl Tryd.underlying55 (size := 1) (by kernel_rfl) rfl rfl c26 c27 c28 w) ?_
          obtain ⟨s29, c30, h⟩ := h
          refine SOps.rd (v := .string s29) rfl (wantN rfl) (fun w hw => ev_load1 rfl (fun _ => by kernel_rfl) (p := (p25.1, (p25.2 + x10.toNat * 1))) rfl c30 w hw) ?_
          refine SOps.val (v := .string s29) rfl (wantN rfl) (fun _ => by kernel_rfl) ?_
          refine SOps.val (v := .bool true) rfl (wantN rfl) (fun _ => by kernel_rfl) ?_
          refine SOps.nil ?_
          obtain ⟨Hr, hr, h⟩ := h
          exact SW.ret (retQ.mk (.tuple #[.string s29, .bool true]) (res2 rfl rfl rfl) hr ⟨s29, true, rfl, h⟩)
        · replace h := h.2 c22
          have dc22 : q20 = false := (Bool.eq_false_iff.mpr c22)
          refine SW.cond_f (t := q20) rfl dc22 ?_
          refine SW.skip ?_
          refine SW.region ?_
          refine SOps.val (v := .int .i64 x10) rfl (wantN rfl) (fun _ => by kernel_rfl) ?_
          refine SOps.val (v := .int .i64 (w64 (x10 - 1))) rfl (wantN rfl) (fun _ => by kernel_rfl) ?_
          refine SOps.val (v := .int .i64 (w64 (x10 - 1))) rfl (wantN rfl) (fun _ => by kernel_rfl) ?_
          refine SOps.nil ?_
          exact ⟨k1, Nat.lt_succ_self k1, _, b7, o8, p9, w64 (x10 - 1), (Fr.upds_self _ _ ⟨rfl, rfl, rfl, trivial⟩), h⟩
      · replace h := h.2 c11
        have dc11 : (decide (x10 ≥ 0)) = false := (decide_eq_false c11)
        refine SW.cond_f (t := decide (x10 ≥ 0)) rfl dc11 ?_
        refine SW.exit ?_
        refine SW.seq ?_
        refine SW.region ?_
        refine SOps.val (v := .string ByteArray.empty) rfl (wantN rfl) (fun _ => by kernel_rfl) ?_
        refine SOps.val (v := .bool false) rfl (wantN rfl) (fun _ => by kernel_rfl) ?_
        refine SOps.nil ?_
        obtain ⟨Hr, hr, h⟩ := h
        exact SW.ret (retQ.mk (.tuple #[.string ByteArray.empty, .bool false]) (res2 rfl rfl rfl) hr ⟨ByteArray.empty, false, rfl, h⟩)
/-! ### (*lading/journal.Journal).Last: function 37 -/
def journal_Journal_Last__nil.wp (F : Nat) (p1 : Option (Nat × Nat)) (H : SH) (K : ByteArray → Bool → SH → Prop) : Prop :=
  (p1 = none →
    ∃ Hr, SH.le Hr H ∧ K ByteArray.empty false Hr
  ) ∧ (∀ b2 o3, p1 = some (b2, o3) →
    ∃ Hr, SH.le Hr H ∧ K ByteArray.empty false Hr
  )
set_option maxHeartbeats 8000000 in
theorem journal_Journal_Last__nil.sound (F : Nat) (p1 : Option (Nat × Nat)) (H : SH) (K : ByteArray → Bool → SH → Prop) (h : journal_Journal_Last__nil.wp F p1 H K) : SCalls Tryd.prog 37 #[pv p1, .nilFunc] H (fun v H' => ∃ (s6 : ByteArray) (q7 : Bool), v = .tuple #[.string s6, .bool q7] ∧ K s6 q7 H') := by
  unfold journal_Journal_Last__nil.wp at h
  refine SCalls.body Tryd.func37 rfl (Nat.le_of_ble_eq_true rfl) ?_
  refine SW.seq ?_
  refine SW.region ?_
  refine SOps.val (v := .string ByteArray.empty) rfl (wantN rfl) (fun _ => by kernel_rfl) ?_
  refine SOps.val (v := .bool false) rfl (wantN rfl) (fun _ => by kernel_rfl) ?_
  refine SOps.nil ?_
  refine SW.seq ?_
  refine SW.seq ?_
  refine SW.region ?_
  refine SOps.val (v := pv p1) rfl (wantN rfl) (fun _ => by kernel_rfl) ?_
  rcases p1 with _ | ⟨b2, o3⟩
  · replace h := h.1 rfl
    refine SOps.val (v := .bool true) rfl (wantN rfl) (fun _ => by kernel_rfl) ?_
    refine SOps.val (v := .bool true) rfl (wantN rfl) (fun _ => by kernel_rfl) ?_
    refine SOps.off rfl (wantX (c := true) rfl rfl rfl rfl) ?_
    refine SOps.off rfl (wantX (c := true) rfl rfl rfl rfl) ?_
    refine SOps.val (v := .bool true) rfl (wantN rfl) (fun w => ev_pickT (v := .bool true) rfl (t := true) rfl rfl rfl w) ?_
    refine SOps.nil ?_
    refine SW.cond_t (t := true) rfl rfl ?_
    refine SW.seq ?_
    refine SW.region ?_
    refine SOps.val (v := .string ByteArray.empty) rfl (wantN rfl) (fun _ => by kernel_rfl) ?_
    refine SOps.val (v := .bool false) rfl (wantN rfl) (fun _ => by kernel_rfl) ?_
    refine SOps.nil ?_
    obtain ⟨Hr, hr, h⟩ := h
    exact SW.ret (retQ.mk (.tuple #[.string ByteArray.empty, .bool false]) (res2 rfl rfl rfl) hr ⟨ByteArray.empty, false, rfl, h⟩)
  · replace h := h.2 b2 o3 rfl
    refine SOps.val (v := .bool false) rfl (wantN rfl) (fun _ => by kernel_rfl) ?_
    refine SOps.val (v := .bool false) rfl (wantN rfl) (fun _ => by kernel_rfl) ?_
    refine SOps.val (v := .nilFunc) rfl (wantY (c := false) rfl rfl rfl rfl) (fun _ => by kernel_rfl) ?_
    refine SOps.val (v := .bool true) rfl (wantY (c := false) rfl rfl rfl rfl) (fun _ => by kernel_rfl) ?_
    refine SOps.val (v := .bool true) rfl (wantN rfl) (fun w => ev_pickF (v := .bool true) rfl (t := false) rfl rfl rfl w) ?_
    refine SOps.nil ?_
    refine SW.cond_t (t := true) rfl rfl ?_
    refine SW.seq ?_
    refine SW.region ?_
    refine SOps.val (v := .string ByteArray.empty) rfl (wantN rfl) (fun _ => by kernel_rfl) ?_
    refine SOps.val (v := .bool false) rfl (wantN rfl) (fun _ => by kernel_rfl) ?_
    refine SOps.nil ?_
    obtain ⟨Hr, hr, h⟩ := h
    exact SW.ret (retQ.mk (.tuple #[.string ByteArray.empty, .bool false]) (res2 rfl rfl rfl) hr ⟨ByteArray.empty, false, rfl, h⟩)
/-! ### lading/ladinglaw15.JournalLast: function 8 -/
def ladinglaw15_JournalLast.j1 (F : Nat) (K : Bool → SH → Prop) (R1 : Sl → Bool → Option (Nat × Nat) → Option (Nat × Nat) → Nat → ByteArray → Bool → ByteArray → Bool → Sl → Int → Int → SH → Prop) (l58 : Sl) (q59 : Bool) (p60 : Option (Nat × Nat)) (p61 : Option (Nat × Nat)) (b62 : Nat) (s63 : ByteArray) (q64 : Bool) (s65 : ByteArray) (q66 : Bool) (l67 : Sl) (x68 : Int) (x69 : Int) (H : SH) : Prop :=
  R1 l58 q59 p60 p61 b62 s63 q64 s65 q66 l67 x68 (w64 (x69 + 1)) H
def ladinglaw15_JournalLast.j2 (F : Nat) (K : Bool → SH → Prop) (R1 : Sl → Bool → Option (Nat × Nat) → Option (Nat × Nat) → Nat → ByteArray → Bool → ByteArray → Bool → Sl → Int → Int → SH → Prop) (l46 : Sl) (q47 : Bool) (p48 : Option (Nat × Nat)) (p49 : Option (Nat × Nat)) (b50 : Nat) (s51 : ByteArray) (q52 : Bool) (s53 : ByteArray) (q54 : Bool) (l55 : Sl) (x56 : Int) (x57 : Int) (H : SH) : Prop :=
  ladinglaw15_JournalLast.j1 F K R1 l46 q47 p48 p49 b50 s51 q52 s53 q54 l55 x56 x57 H
def ladinglaw15_JournalLast.j3 (F : Nat) (K : Bool → SH → Prop) (b99 : Nat) (H : SH) : Prop :=
  journal_Open.wp F none H (fun p100 e101 H102 =>
    journal_Journal_Last__ladinglaw15_JournalLast_1.wp F none (some (b99, 0)) H102 (fun s103 q104 H105 =>
      api_Code.wp F e101 H105 (fun x106 H107 =>
        (x106 = 1 →
          (q104 = true →
            ∃ Hr, SH.le Hr H107 ∧ K false Hr
          ) ∧ (¬ (q104 = true) →
            ∀ b110, H107 b110 = none →
            journal_Journal_Put.wp F none (⟨some (b110, 0), 1, 1⟩ : Sl) (SH.upd H107 b110 ⟨[.string (⟨#[120]⟩ : ByteArray)], 9, false, 1⟩) (fun e112 H113 =>
              api_Code.wp F e112 H113 (fun x114 H115 =>
                (x114 = 1 →
                  ∀ b117, H115 b117 = none →
                  journal_Journal_Write.wp F none (⟨some (b117, 0), 1, 1⟩ : Sl) (SH.upd H115 b117 ⟨[.string (⟨#[120]⟩ : ByteArray)], 9, false, 1⟩) (fun e119 H120 =>
                    api_Code.wp F e119 H120 (fun x121 H122 =>
                      (x121 = 1 →
                        journal_Journal_Flush.wp F none H122 (fun e124 H125 =>
                          api_Code.wp F e124 H125 (fun x126 H127 =>
                            (x126 = 1 →
                              journal_Journal_All.wp F none H127 (fun l129 H130 =>
                                journal_Journal_Len.wp F none H130 (fun x131 H132 =>
                                  journal_Journal_Bytes.wp F none H132 (fun x133 H134 =>
                                    ∃ Hr, SH.le Hr H134 ∧ K ((w64 ((w64 ((l129.len : Int) + x131)) + x133)) == 0) Hr
                                  )
                                )
                              )
                            ) ∧ (¬ (x126 = 1) →
                              ∃ Hr, SH.le Hr H127 ∧ K false Hr
                            )
                          )
                        )
                      ) ∧ (¬ (x121 = 1) →
                        ∃ Hr, SH.le Hr H122 ∧ K false Hr
                      )
                    )
                  )
                ) ∧ (¬ (x114 = 1) →
                  ∃ Hr, SH.le Hr H115 ∧ K false Hr
                )
              )
            )
          )
        ) ∧ (¬ (x106 = 1) →
          ∃ Hr, SH.le Hr H107 ∧ K false Hr
        )
      )
    )
  )
def ladinglaw15_JournalLast.r1 (F : Nat) (K : Bool → SH → Prop) (R1 : Sl → Bool → Option (Nat × Nat) → Option (Nat × Nat) → Nat → ByteArray → Bool → ByteArray → Bool → Sl → Int → Int → SH → Prop) (l24 : Sl) (q25 : Bool) (p26 : Option (Nat × Nat)) (p27 : Option (Nat × Nat)) (b28 : Nat) (s29 : ByteArray) (q30 : Bool) (s31 : ByteArray) (q32 : Bool) (l33 : Sl) (x34 : Int) (x35 : Int) (H : SH) : Prop :=
  (x35 < x34 →
    ∃ p37, l33.a = some p37 ∧ 0 ≤ x35 ∧ x35 < (l33.len : Int) ∧
    ∃ (s41 : ByteArray),
    SH.has H (p37.1, (p37.2 + x35.toNat * 1)) (.string s41) ∧
    ladinglaw15_JournalLast_1.wp F s41 (some (b28, 0)) H (fun q43 H44 =>
      (q43 = true →
        ladinglaw15_JournalLast.j2 F K R1 l24 q25 p26 p27 b28 s29 q30 s41 true l33 x34 x35 H44
      ) ∧ (¬ (q43 = true) →
        ladinglaw15_JournalLast.j2 F K R1 l24 q25 p26 p27 b28 s29 q30 s31 q32 l33 x34 x35 H44
      )
    )
  ) ∧ (¬ (x35 < x34) →
    journal_Journal_Last__nil.wp F p27 H (fun s72 q73 H74 =>
      ((s29 = s31) →
        (q30 ≠ q32 →
          ∃ Hr, SH.le Hr H74 ∧ K false Hr
        ) ∧ (¬ (q30 ≠ q32) →
          (q73 = true →
            ∃ Hr, SH.le Hr H74 ∧ K false Hr
          ) ∧ (¬ (q73 = true) →
            (q25 = true →
              0 ≤ (60001 : Int) ∧ (60001 : Int).toNat * 1 ≤ 281474976710656 ∧
              ∀ b79, H74 b79 = none →
              ∃ bs83 : List UInt8,
              (⟨some (b79, 0), (60001 : Int).toNat, (60001 : Int).toNat⟩ : Sl).len = bs83.length ∧
              SH.row (SH.upd H74 b79 ⟨(Builtin.zeroCells (Value.cells (.int .u8 0 : Value)) (60001 : Int).toNat).toList, 5, false, (60001 : Int).toNat * 1⟩) (⟨some (b79, 0), (60001 : Int).toNat, (60001 : Int).toNat⟩ : Sl).a (byteCells bs83) ∧
              ∀ b86, (SH.upd H74 b79 ⟨(Builtin.zeroCells (Value.cells (.int .u8 0 : Value)) (60001 : Int).toNat).toList, 5, false, (60001 : Int).toNat * 1⟩) b86 = none →
              journal_Journal_Put.wp F p27 (⟨some (b86, 0), 3, 3⟩ : Sl) (SH.upd (SH.upd H74 b79 ⟨(Builtin.zeroCells (Value.cells (.int .u8 0 : Value)) (60001 : Int).toNat).toList, 5, false, (60001 : Int).toNat * 1⟩) b86 ⟨[.string (⟨#[97]⟩ : ByteArray), .string (⟨bs83.toArray⟩ : ByteArray), .string (⟨#[98]⟩ : ByteArray)], 9, false, 3⟩) (fun e88 H89 =>
                api_Code.wp F e88 H89 (fun x90 H91 =>
                  (x90 ≠ 6 →
                    ∃ Hr, SH.le Hr H91 ∧ K false Hr
                  ) ∧ (¬ (x90 ≠ 6) →
                    journal_Journal_Len.wp F p27 H91 (fun x93 H94 =>
                      (x93 ≠ (l24.len : Int) →
                        ∃ Hr, SH.le Hr H94 ∧ K false Hr
                      ) ∧ (¬ (x93 ≠ (l24.len : Int)) →
                        ladinglaw15_has.wp F p26 p27 l24 H94 (fun q96 H97 =>
                          (q96 = true →
                            ladinglaw15_JournalLast.j3 F K b28 H97
                          ) ∧ (¬ (q96 = true) →
                            ∃ Hr, SH.le Hr H97 ∧ K false Hr
                          )
                        )
                      )
                    )
                  )
                )
              )
            ) ∧ (¬ (q25 = true) →
              ladinglaw15_JournalLast.j3 F K b28 H74
            )
          )
        )
      ) ∧ (¬ ((s29 = s31)) →
        ∃ Hr, SH.le Hr H74 ∧ K false Hr
      )
    )
  )
def ladinglaw15_JournalLast.l1 (F : Nat) (K : Bool → SH → Prop) : Nat → Sl → Bool → Option (Nat × Nat) → Option (Nat × Nat) → Nat → ByteArray → Bool → ByteArray → Bool → Sl → Int → Int → SH → Prop
  | 0, _, _, _, _, _, _, _, _, _, _, _, _, _ => False
  | k + 1, l24, q25, p26, p27, b28, s29, q30, s31, q32, l33, x34, x35, H => ladinglaw15_JournalLast.r1 F K (ladinglaw15_JournalLast.l1 F K k) l24 q25 p26 p27 b28 s29 q30 s31 q32 l33 x34 x35 H
def ladinglaw15_JournalLast.wp (F : Nat) (l1 : Sl) (x2 : Int) (q3 : Bool) (H : SH) (K : Bool → SH → Prop) : Prop :=
  ∀ b4, H b4 = none →
  ladinglaw15_awake.wp F  (SH.upd H b4 ⟨[.int .u8 x2], 5, false, 1⟩) (fun q6 H7 =>
    (q6 = true →
      ladinglaw15_great.wp F l1 H7 (fun q9 H10 =>
        (q9 = true →
          ∃ Hr, SH.le Hr H10 ∧ K true Hr
        ) ∧ (¬ (q9 = true) →
          disk_New.wp F 0 H10 (fun p12 H13 =>
            journal_Open.wp F p12 H13 (fun p14 e15 H16 =>
              (e15 = none →
                journal_Journal_Put.wp F p14 l1 H16 (fun e18 H19 =>
                  (e18 = none →
                    journal_Journal_Last__ladinglaw15_JournalLast_1.wp F p14 (some (b4, 0)) H19 (fun s21 q22 H23 =>
                      ladinglaw15_JournalLast.l1 F K F l1 q3 p12 p14 b4 s21 q22 ByteArray.empty false l1 (l1.len : Int) 0 H23
                    )
                  ) ∧ (∀ v20, e18 = some v20 →
                    ∃ Hr, SH.le Hr H19 ∧ K false Hr
                  )
                )
              ) ∧ (∀ v17, e15 = some v17 →
                ∃ Hr, SH.le Hr H16 ∧ K false Hr
              )
            )
          )
        )
      )
    ) ∧ (¬ (q6 = true) →
      ∃ Hr, SH.le Hr H7 ∧ K false Hr
    )
  )
set_option maxHeartbeats 8000000 in
theorem ladinglaw15_JournalLast.sound (F : Nat) (l1 : Sl) (x2 : Int) (q3 : Bool) (H : SH) (K : Bool → SH → Prop) (h : ladinglaw15_JournalLast.wp F l1 x2 q3 H K) : SCalls Tryd.prog 8 #[sv l1, .int .u8 x2, .bool q3] H (fun v H' => ∃ (q139 : Bool), v = .bool q139 ∧ K q139 H') := by
  unfold ladinglaw15_JournalLast.wp at h
  refine SCalls.body Tryd.func8 rfl (Nat.le_of_ble_eq_true rfl) ?_
  refine SW.seq ?_
  refine SW.region ?_
  refine SOps.box rfl rfl (wantN rfl) (v := .int .u8 x2) rfl (fun b4 c5 => ?_)
  replace h := h b4 c5
  refine SOps.val (v := .bool false) rfl (wantN rfl) (fun _ => by kernel_rfl) ?_
  refine SOps.nil ?_
  refine SW.seq ?_
  refine SW.seq ?_
  refine SW.region ?_
  refine SOps.enter rfl (wantN rfl) (fun _ => by kernel_rfl) (ladinglaw15_awake.sound F  (SH.upd H b4 ⟨[.int .u8 x2], 5, false, 1⟩) _ h) ?_
  clear h
  rintro v H7 ⟨q6, rfl, h⟩
  refine SOps.val (v := .bool (!q6)) rfl (wantN rfl) (fun _ => by kernel_rfl) ?_
  refine SOps.nil ?_
  by_cases c8 : q6 = true
  · replace h := h.1 c8
    have dc8 : q6 = true := c8
    refine SW.cond_f (t := !q6) rfl (not_t dc8) ?_
    refine SW.skip ?_
    refine SW.seq ?_
    refine SW.seq ?_
    refine SW.region ?_
    refine SOps.val (v := sv l1) rfl (wantN rfl) (fun _ => by kernel_rfl) ?_
    refine SOps.enter rfl (wantN rfl) (fun _ => by kernel_rfl) (ladinglaw15_great.sound F l1 H7 _ h) ?_
    clear h
    rintro v H10 ⟨q9, rfl, h⟩
    refine SOps.nil ?_
    by_cases c11 : q9 = true
    · replace h := h.1 c11
      have dc11 : q9 = true := c11
      refine SW.cond_t (t := q9) rfl dc11 ?_
      refine SW.seq ?_
      refine SW.region ?_
      refine SOps.val (v := .bool true) rfl (wantN rfl) (fun _ => by kernel_rfl) ?_
      refine SOps.nil ?_
      obtain ⟨Hr, hr, h⟩ := h
      exact SW.ret (retQ.mk (.bool true) (res1 rfl rfl) hr ⟨true, rfl, h⟩)
    · replace h := h.2 c11
      have dc11 : q9 = false := (Bool.eq_false_iff.mpr c11)
      refine SW.cond_f (t := q9) rfl dc11 ?_
      refine SW.skip ?_
      refine SW.seq ?_
      refine SW.region ?_
      refine SOps.enter rfl (wantN rfl) (fun _ => by kernel_rfl) (disk_New.sound F 0 H10 _ h) ?_
      clear h
      rintro v H13 ⟨p12, rfl, h⟩
      refine SOps.val (v := pv p12) rfl (wantN rfl) (fun _ => by kernel_rfl) ?_
      refine SOps.nil ?_
      refine SW.seq ?_
      refine SW.region ?_
      refine SOps.val (v := pv p12) rfl (wantN rfl) (fun _ => by kernel_rfl) ?_
      refine SOps.enter rfl (wantN rfl) (fun _ => by kernel_rfl) (journal_Open.sound F p12 H13 _ h) ?_
      clear h
      rintro v H16 ⟨p14, e15, rfl, h⟩
      refine SOps.val (v := .tuple #[pv p14, errV e15]) rfl (wantN rfl) (fun _ => by kernel_rfl) ?_
      refine SOps.val (v := pv p14) rfl (wantN rfl) (fun _ => by kernel_rfl) ?_
      refine SOps.val (v := errV e15) rfl (wantN rfl) (fun _ => by kernel_rfl) ?_
      refine SOps.val (v := pv p14) rfl (wantN rfl) (fun _ => by kernel_rfl) ?_
      refine SOps.val (v := errV e15) rfl (wantN rfl) (fun _ => by kernel_rfl) ?_
      refine SOps.nil ?_
      refine SW.seq ?_
      refine SW.seq ?_
      refine SW.region ?_
      refine SOps.val (v := errV e15) rfl (wantN rfl) (fun _ => by kernel_rfl) ?_
      rcases e15 with _ | v17
      · replace h := h.1 rfl
        refine SOps.val (v := .bool false) rfl (wantN rfl) (fun w => ev_errNe (e := none) rfl Tryd.underlying28 rfl rfl w) ?_
        refine SOps.val (v := .bool false) rfl (wantN rfl) (fun _ => by kernel_rfl) ?_
        refine SOps.val (v := pv p14) rfl (wantY (c := false) rfl rfl rfl rfl) (fun _ => by kernel_rfl) ?_
        refine SOps.val (v := sv l1) rfl (wantY (c := false) rfl rfl rfl rfl) (fun _ => by kernel_rfl) ?_
        refine SOps.enter rfl (wantY (c := false) rfl rfl rfl rfl) (fun _ => by kernel_rfl) (journal_Journal_Put.sound F p14 l1 H16 _ h) ?_
        clear h
        rintro v H19 ⟨e18, rfl, h⟩
        rcases e18 with _ | v20
        · replace h := h.1 rfl
          refine SOps.val (v := .bool false) rfl (wantY (c := false) rfl rfl rfl rfl) (fun w => ev_errNe (e := none) rfl Tryd.underlying28 rfl rfl w) ?_
          refine SOps.val (v := .bool false) rfl (wantN rfl) (fun w => ev_pickF (v := .bool false) rfl (t := false) rfl rfl rfl w) ?_
          refine SOps.nil ?_
          refine SW.cond_f (t := false) rfl rfl ?_
          refine SW.skip ?_
          refine SW.seq ?_
          refine SW.region ?_
          refine SOps.val (v := .func (.func 36) #[] #[pv (some (b4, 0))]) rfl (wantN rfl) (fun _ => by kernel_rfl) ?_
          refine SOps.val (v := .func (.func 36) #[] #[pv (some (b4, 0))]) rfl (wantN rfl) (fun _ => by kernel_rfl) ?_
          refine SOps.nil ?_
          refine SW.seq ?_
          refine SW.region ?_
          refine SOps.val (v := pv p14) rfl (wantN rfl) (fun _ => by kernel_rfl) ?_
          refine SOps.val (v := .func (.func 36) #[] #[pv (some (b4, 0))]) rfl (wantN rfl) (fun _ => by kernel_rfl) ?_
          refine SOps.enter rfl (wantN rfl) (fun _ => by kernel_rfl) (journal_Journal_Last__ladinglaw15_JournalLast_1.sound F p14 (some (b4, 0)) H19 _ h) ?_
          clear h
          rintro v H23 ⟨s21, q22, rfl, h⟩
          refine SOps.val (v := .tuple #[.string s21, .bool q22]) rfl (wantN rfl) (fun _ => by kernel_rfl) ?_
          refine SOps.val (v := .string s21) rfl (wantN rfl) (fun _ => by kernel_rfl) ?_
          refine SOps.val (v := .bool q22) rfl (wantN rfl) (fun _ => by kernel_rfl) ?_
          refine SOps.val (v := .string s21) rfl (wantN rfl) (fun _ => by kernel_rfl) ?_
          refine SOps.val (v := .bool q22) rfl (wantN rfl) (fun _ => by kernel_rfl) ?_
          refine SOps.nil ?_
          refine SW.seq ?_
          refine SW.region ?_
          refine SOps.val (v := .string ByteArray.empty) rfl (wantN rfl) (fun _ => by kernel_rfl) ?_
          refine SOps.val (v := .bool false) rfl (wantN rfl) (fun _ => by kernel_rfl) ?_
          refine SOps.nil ?_
          refine SW.seq ?_
          refine SW.seq ?_
          refine SW.region ?_
          refine SOps.val (v := sv l1) rfl (wantN rfl) (fun _ => by kernel_rfl) ?_
          refine SOps.val (v := .int .i64 (l1.len : Int)) rfl (wantN rfl) (fun _ => by kernel_rfl) ?_
          refine SOps.val (v := .int .i64 0) rfl (wantN rfl) (fun _ => by kernel_rfl) ?_
          refine SOps.nil ?_
          refine SW.block ?_
          refine SW.loop (fun k1 fr H => ∃ (g : Fr) (l24 : Sl) (q25 : Bool) (p26 : Option (Nat × Nat)) (p27 : Option (Nat × Nat)) (b28 : Nat) (s29 : ByteArray) (q30 : Bool) (s31 : ByteArray) (q32 : Bool) (l33 : Sl) (x34 : Int) (x35 : Int), fr = g.upds [(0, sv l24), (2, (.bool q25 : Value)), (7, pv p26), (8, pv p27), (10, (.func (.func 36) #[] #[pv (some (b28, 0))] : Value)), (11, (.string s29 : Value)), (12, (.bool q30 : Value)), (13, (.string s31 : Value)), (14, (.bool q32 : Value)), (51, sv l33), (52, (.int .i64 x34 : Value)), (53, (.int .i64 x35 : Value))] ∧ ladinglaw15_JournalLast.l1 F K k1 l24 q25 p26 p27 b28 s29 q30 s31 q32 l33 x34 x35 H) F ⟨_, l1, q3, p12, p14, b4, s21, q22, ByteArray.empty, false, l1, (l1.len : Int), 0, (Fr.upds_self _ _ ⟨rfl, rfl, rfl, rfl, rfl, rfl, rfl, rfl, rfl, rfl, rfl, rfl, trivial⟩), h⟩ ?_
          clear h
          rintro k1 fr H ⟨g, l24, q25, p26, p27, b28, s29, q30, s31, q32, l33, x34, x35, rfl, h⟩
          cases k1 with
          | zero => exact h.elim
          | succ k1 =>
            replace h : ladinglaw15_JournalLast.r1 F K (ladinglaw15_JournalLast.l1 F K k1) l24 q25 p26 p27 b28 s29 q30 s31 q32 l33 x34 x35 H := h
            unfold ladinglaw15_JournalLast.r1 at h
            refine SW.seq ?_
            refine SW.region ?_
            refine SOps.val (v := .bool (decide (x35 < x34))) rfl (wantN rfl) (fun _ => by kernel_rfl) ?_
            refine SOps.nil ?_
            refine SW.seq ?_
            by_cases c36 : x35 < x34
            · replace h := h.1 c36
              have dc36 : (decide (x35 < x34)) = true := (decide_eq_true c36)
              refine SW.cond_t (t := decide (x35 < x34)) rfl dc36 ?_
              refine SW.skip ?_
              refine SW.seqJ (fun fr H => ∃ (g : Fr) (l58 : Sl) (q59 : Bool) (p60 : Option (Nat × Nat)) (p61 : Option (Nat × Nat)) (b62 : Nat) (s63 : ByteArray) (q64 : Bool) (s65 : ByteArray) (q66 : Bool) (l67 : Sl) (x68 : Int) (x69 : Int), fr = g.upds [(0, sv l58), (2, (.bool q59 : Value)), (7, pv p60), (8, pv p61), (10, (.func (.func 36) #[] #[pv (some (b62, 0))] : Value)), (11, (.string s63 : Value)), (12, (.bool q64 : Value)), (13, (.string s65 : Value)), (14, (.bool q66 : Value)), (51, sv l67), (52, (.int .i64 x68 : Value)), (53, (.int .i64 x69 : Value))] ∧ ladinglaw15_JournalLast.j1 F K (ladinglaw15_JournalLast.l1 F K k1) l58 q59 p60 p61 b62 s63 q64 s65 q66 l67 x68 x69 H) ?_ ?_
              · clear h
                rintro fr H ⟨g, l58, q59, p60, p61, b62, s63, q64, s65, q66, l67, x68, x69, rfl, h⟩
                unfold ladinglaw15_JournalLast.j1 at h
                refine SW.region ?_
                refine SOps.val (v := .int .i64 (w64 (x69 + 1))) rfl (wantN rfl) (fun _ => by kernel_rfl) ?_
                refine SOps.val (v := .int .i64 (w64 (x69 + 1))) rfl (wantN rfl) (fun _ => by kernel_rfl) ?_
                refine SOps.nil ?_
                exact ⟨k1, Nat.lt_succ_self k1, _, l58, q59, p60, p61, b62, s63, q64, s65, q66, l67, x68, w64 (x69 + 1), (Fr.upds_self _ _ ⟨rfl, rfl, rfl, rfl, rfl, rfl, rfl, rfl, rfl, rfl, rfl, rfl, trivial⟩), h⟩
              · skip
                refine SW.blockJ (fun fr H => ∃ (g : Fr) (l46 : Sl) (q47 : Bool) (p48 : Option (Nat × Nat)) (p49 : Option (Nat × Nat)) (b50 : Nat) (s51 : ByteArray) (q52 : Bool) (s53 : ByteArray) (q54 : Bool) (l55 : Sl) (x56 : Int) (x57 : Int), fr = g.upds [(0, sv l46), (2, (.bool q47 : Value)), (7, pv p48), (8, pv p49), (10, (.func (.func 36) #[] #[pv (some (b50, 0))] : Value)), (11, (.string s51 : Value)), (12, (.bool q52 : Value)), (13, (.string s53 : Value)), (14, (.bool q54 : Value)), (51, sv l55), (52, (.int .i64 x56 : Value)), (53, (.int .i64 x57 : Value))] ∧ ladinglaw15_JournalLast.j2 F K (ladinglaw15_JournalLast.l1 F K k1) l46 q47 p48 p49 b50 s51 q52 s53 q54 l55 x56 x57 H) ?_ ?_
                · clear h
                  rintro fr H ⟨g, l46, q47, p48, p49, b50, s51, q52, s53, q54, l55, x56, x57, rfl, h⟩
                  unfold ladinglaw15_JournalLast.j2 at h
                  exact ⟨_, l46, q47, p48, p49, b50, s51, q52, s53, q54, l55, x56, x57, Fr.upds_self _ _ ⟨rfl, rfl, rfl, rfl, rfl, rfl, rfl, rfl, rfl, rfl, rfl, rfl, trivial⟩, h⟩
                · skip
                  refine SW.seq ?_
                  refine SW.region ?_
                  obtain ⟨p37, c38, c39, c40, h⟩ := h
                  refine SOps.val (v := pv (some (p37.1, (p37.2 + x35.toNat * 1)))) rfl (wantN rfl) (fun w => ev_iaddr rfl Tryd.underlying55 (size := 1) (by kernel_rfl) rfl rfl c38 c39 c40 w) ?_
                  obtain ⟨s41, c42, h⟩ := h
                  refine SOps.rd (v := .string s41) rfl (wantN rfl) (fun w hw => ev_load1 rfl (fun _ => by kernel_rfl) (p := (p37.1, (p37.2 + x35.toNat * 1))) rfl c42 w hw) ?_
                  refine SOps.val (v := .string s41) rfl (wantN rfl) (fun _ => by kernel_rfl) ?_
                  refine SOps.nil ?_
                  refine SW.seq ?_
                  refine SW.region ?_
                  refine SOps.val (v := .func (.func 36) #[] #[pv (some (b28, 0))]) rfl (wantN rfl) (fun _ => by kernel_rfl) ?_
                  refine SOps.val (v := .string s41) rfl (wantN rfl) (fun _ => by kernel_rfl) ?_
                  refine SOps.enter rfl (wantN rfl) (fun _ => by kernel_rfl) (ladinglaw15_JournalLast_1.sound F s41 (some (b28, 0)) H _ h) ?_
                  clear h
                  rintro v H44 ⟨q43, rfl, h⟩
                  refine SOps.nil ?_
                  by_cases c45 : q43 = true
                  · replace h := h.1 c45
                    have dc45 : q43 = true := c45
                    refine SW.cond_t (t := q43) rfl dc45 ?_
                    refine SW.region ?_
                    refine SOps.val (v := .string s41) rfl (wantN rfl) (fun _ => by kernel_rfl) ?_
                    refine SOps.val (v := .string s41) rfl (wantN rfl) (fun _ => by kernel_rfl) ?_
                    refine SOps.val (v := .bool true) rfl (wantN rfl) (fun _ => by kernel_rfl) ?_
                    refine SOps.nil ?_
                    exact ⟨_, l24, q25, p26, p27, b28, s29, q30, s41, true, l33, x34, x35, Fr.upds_self _ _ ⟨rfl, rfl, rfl, rfl, rfl, rfl, rfl, rfl, rfl, rfl, rfl, rfl, trivial⟩, h⟩
                  · replace h := h.2 c45
                    have dc45 : q43 = false := (Bool.eq_false_iff.mpr c45)
                    refine SW.cond_f (t := q43) rfl dc45 ?_
                    refine SW.skip ?_
                    exact ⟨_, l24, q25, p26, p27, b28, s29, q30, s31, q32, l33, x34, x35, Fr.upds_self _ _ ⟨rfl, rfl, rfl, rfl, rfl, rfl, rfl, rfl, rfl, rfl, rfl, rfl, trivial⟩, h⟩
            · replace h := h.2 c36
              have dc36 : (decide (x35 < x34)) = false := (decide_eq_false c36)
              refine SW.cond_f (t := decide (x35 < x34)) rfl dc36 ?_
              refine SW.exit ?_
              refine SW.seq ?_
              refine SW.region ?_
              refine SOps.val (v := pv p27) rfl (wantN rfl) (fun _ => by kernel_rfl) ?_
              refine SOps.enter rfl (wantN rfl) (fun _ => by kernel_rfl) (journal_Journal_Last__nil.sound F p27 H _ h) ?_
              clear h
              rintro v H74 ⟨s72, q73, rfl, h⟩
              refine SOps.val (v := .tuple #[.string s72, .bool q73]) rfl (wantN rfl) (fun _ => by kernel_rfl) ?_
              refine SOps.val (v := .string s72) rfl (wantN rfl) (fun _ => by kernel_rfl) ?_
              refine SOps.val (v := .bool q73) rfl (wantN rfl) (fun _ => by kernel_rfl) ?_
              refine SOps.val (v := .string s72) rfl (wantN rfl) (fun _ => by kernel_rfl) ?_
              refine SOps.val (v := .bool q73) rfl (wantN rfl) (fun _ => by kernel_rfl) ?_
              refine SOps.nil ?_
              refine SW.seq ?_
              refine SW.seq ?_
              refine SW.region ?_
              refine SOps.val (v := .string s29) rfl (wantN rfl) (fun _ => by kernel_rfl) ?_
              refine SOps.val (v := .string s31) rfl (wantN rfl) (fun _ => by kernel_rfl) ?_
              refine SOps.val (v := .bool (!decide (s29 = s31))) rfl (wantN rfl) (fun w => ev_neS rfl rfl rfl w) ?_
              refine SOps.val (v := .bool (!decide (s29 = s31))) rfl (wantN rfl) (fun _ => by kernel_rfl) ?_
              by_cases c75 : (s29 = s31)
              · replace h := h.1 c75
                have dc75 : (decide (s29 = s31)) = true := (decide_eq_true c75)
                refine SOps.val (v := .bool q30) rfl (wantY (c := !decide (s29 = s31)) rfl rfl rfl (not_t dc75)) (fun _ => by kernel_rfl) ?_
                refine SOps.val (v := .bool q32) rfl (wantY (c := !decide (s29 = s31)) rfl rfl rfl (not_t dc75)) (fun _ => by kernel_rfl) ?_
                refine SOps.val (v := .bool (q30 != q32)) rfl (wantY (c := !decide (s29 = s31)) rfl rfl rfl (not_t dc75)) (fun _ => by kernel_rfl) ?_
                refine SOps.val (v := .bool (q30 != q32)) rfl (wantN rfl) (fun w => ev_pickF (v := .bool (q30 != q32)) rfl (t := !decide (s29 = s31)) rfl (not_t dc75) rfl w) ?_
                refine SOps.val (v := .bool (q30 != q32)) rfl (wantN rfl) (fun _ => by kernel_rfl) ?_
                by_cases c76 : q30 ≠ q32
                · replace h := h.1 c76
                  have dc76 : (q30 != q32) = true := (bne_iff_ne.mpr c76)
                  refine SOps.off rfl (wantX (c := (q30 != q32)) rfl rfl rfl dc76) ?_
                  refine SOps.val (v := .bool true) rfl (wantN rfl) (fun w => ev_pickT (v := .bool true) rfl (t := (q30 != q32)) rfl dc76 rfl w) ?_
                  refine SOps.nil ?_
                  refine SW.cond_t (t := true) rfl rfl ?_
                  refine SW.seq ?_
                  refine SW.region ?_
                  refine SOps.val (v := .bool false) rfl (wantN rfl) (fun _ => by kernel_rfl) ?_
                  refine SOps.nil ?_
                  obtain ⟨Hr, hr, h⟩ := h
                  exact SW.ret (retQ.mk (.bool false) (res1 rfl rfl) hr ⟨false, rfl, h⟩)
                · replace h := h.2 c76
                  have dc76 : (q30 != q32) = false := (by simpa using c76)
                  refine SOps.val (v := .bool q73) rfl (wantY (c := (q30 != q32)) rfl rfl rfl dc76) (fun _ => by kernel_rfl) ?_
                  refine SOps.val (v := .bool q73) rfl (wantN rfl) (fun w => ev_pickF (v := .bool q73) rfl (t := (q30 != q32)) rfl dc76 rfl w) ?_
                  refine SOps.nil ?_
                  by_cases c77 : q73 = true
                  · replace h := h.1 c77
                    have dc77 : q73 = true := c77
                    refine SW.cond_t (t := q73) rfl dc77 ?_
                    refine SW.seq ?_
                    refine SW.region ?_
                    refine SOps.val (v := .bool false) rfl (wantN rfl) (fun _ => by kernel_rfl) ?_
                    refine SOps.nil ?_
                    obtain ⟨Hr, hr, h⟩ := h
                    exact SW.ret (retQ.mk (.bool false) (res1 rfl rfl) hr ⟨false, rfl, h⟩)
                  · replace h := h.2 c77
                    have dc77 : q73 = false := (Bool.eq_false_iff.mpr c77)
                    refine SW.cond_f (t := q73) rfl dc77 ?_
                    refine SW.skip ?_
                    refine SW.seqJ (fun fr H => ∃ (g : Fr) (b99 : Nat), fr = g.upds [(10, (.func (.func 36) #[] #[pv (some (b99, 0))] : Value))] ∧ ladinglaw15_JournalLast.j3 F K b99 H) ?_ ?_
                    · clear h
                      rintro fr H ⟨g, b99, rfl, h⟩
                      unfold ladinglaw15_JournalLast.j3 at h
                      refine SW.seq ?_
                      refine SW.region ?_
                      refine SOps.val (v := pv none) rfl (wantN rfl) (fun _ => by kernel_rfl) ?_
                      refine SOps.nil ?_
                      refine SW.seq ?_
                      refine SW.region ?_
                      refine SOps.enter rfl (wantN rfl) (fun _ => by kernel_rfl) (journal_Open.sound F none H _ h) ?_
                      clear h
                      rintro v H102 ⟨p100, e101, rfl, h⟩
                      refine SOps.val (v := .tuple #[pv p100, errV e101]) rfl (wantN rfl) (fun _ => by kernel_rfl) ?_
                      refine SOps.val (v := pv p100) rfl (wantN rfl) (fun _ => by kernel_rfl) ?_
                      refine SOps.val (v := errV e101) rfl (wantN rfl) (fun _ => by kernel_rfl) ?_
                      refine SOps.val (v := pv p100) rfl (wantN rfl) (fun _ => by kernel_rfl) ?_
                      refine SOps.val (v := errV e101) rfl (wantN rfl) (fun _ => by kernel_rfl) ?_
                      refine SOps.nil ?_
                      refine SW.seq ?_
                      refine SW.region ?_
                      refine SOps.val (v := pv none) rfl (wantN rfl) (fun _ => by kernel_rfl) ?_
                      refine SOps.val (v := .func (.func 36) #[] #[pv (some (b99, 0))]) rfl (wantN rfl) (fun _ => by kernel_rfl) ?_
                      refine SOps.enter rfl (wantN rfl) (fun _ => by kernel_rfl) (journal_Journal_Last__ladinglaw15_JournalLast_1.sound F none (some (b99, 0)) H102 _ h) ?_
                      clear h
                      rintro v H105 ⟨s103, q104, rfl, h⟩
                      refine SOps.val (v := .tuple #[.string s103, .bool q104]) rfl (wantN rfl) (fun _ => by kernel_rfl) ?_
                      refine SOps.val (v := .string s103) rfl (wantN rfl) (fun _ => by kernel_rfl) ?_
                      refine SOps.val (v := .bool q104) rfl (wantN rfl) (fun _ => by kernel_rfl) ?_
                      refine SOps.val (v := .string s103) rfl (wantN rfl) (fun _ => by kernel_rfl) ?_
                      refine SOps.val (v := .bool q104) rfl (wantN rfl) (fun _ => by kernel_rfl) ?_
                      refine SOps.nil ?_
                      refine SW.seq ?_
                      refine SW.region ?_
                      refine SOps.val (v := .int .i64 1) rfl (wantN rfl) (fun _ => by kernel_rfl) ?_
                      refine SOps.nil ?_
                      refine SW.seq ?_
                      refine SW.region ?_
                      refine SOps.val (v := errV e101) rfl (wantN rfl) (fun _ => by kernel_rfl) ?_
                      refine SOps.enter rfl (wantN rfl) (fun _ => by kernel_rfl) (api_Code.sound F e101 H105 _ h) ?_
                      clear h
                      rintro v H107 ⟨x106, rfl, h⟩
                      refine SOps.val (v := .int .i64 1) rfl (wantN rfl) (fun _ => by kernel_rfl) ?_
                      refine SOps.val (v := .bool (x106 == 1)) rfl (wantN rfl) (fun _ => by kernel_rfl) ?_
                      refine SOps.val (v := .bool (x106 == 1)) rfl (wantN rfl) (fun _ => by kernel_rfl) ?_
                      by_cases c108 : x106 = 1
                      · replace h := h.1 c108
                        have dc108 : (x106 == 1) = true := (beq_iff_eq.mpr c108)
                        refine SOps.val (v := .bool q104) rfl (wantY (c := (x106 == 1)) rfl rfl rfl dc108) (fun _ => by kernel_rfl) ?_
                        refine SOps.val (v := .bool (!q104)) rfl (wantY (c := (x106 == 1)) rfl rfl rfl dc108) (fun _ => by kernel_rfl) ?_
                        refine SOps.val (v := .bool (!q104)) rfl (wantN rfl) (fun w => ev_pickT (v := .bool (!q104)) rfl (t := (x106 == 1)) rfl dc108 rfl w) ?_
                        refine SOps.val (v := .bool (!q104)) rfl (wantN rfl) (fun _ => by kernel_rfl) ?_
                        by_cases c109 : q104 = true
                        · replace h := h.1 c109
                          have dc109 : q104 = true := c109
                          refine SOps.off rfl (wantX (c := !q104) rfl rfl rfl (not_t dc109)) ?_
                          refine SOps.off rfl (wantX (c := !q104) rfl rfl rfl (not_t dc109)) ?_
                          refine SOps.off rfl (wantX (c := !q104) rfl rfl rfl (not_t dc109)) ?_
                          refine SOps.off rfl (wantX (c := !q104) rfl rfl rfl (not_t dc109)) ?_
                          refine SOps.off rfl (wantX (c := !q104) rfl rfl rfl (not_t dc109)) ?_
                          refine SOps.off rfl (wantX (c := !q104) rfl rfl rfl (not_t dc109)) ?_
                          refine SOps.val (v := .bool false) rfl (wantN rfl) (fun w => ev_pickF (v := .bool false) rfl (t := !q104) rfl (not_t dc109) rfl w) ?_
                          refine SOps.val (v := .bool false) rfl (wantN rfl) (fun _ => by kernel_rfl) ?_
                          refine SOps.off rfl (wantX (c := false) rfl rfl rfl rfl) ?_
                          refine SOps.off rfl (wantX (c := false) rfl rfl rfl rfl) ?_
                          refine SOps.off rfl (wantX (c := false) rfl rfl rfl rfl) ?_
                          refine SOps.off rfl (wantX (c := false) rfl rfl rfl rfl) ?_
                          refine SOps.off rfl (wantX (c := false) rfl rfl rfl rfl) ?_
                          refine SOps.off rfl (wantX (c := false) rfl rfl rfl rfl) ?_
                          refine SOps.val (v := .bool false) rfl (wantN rfl) (fun w => ev_pickF (v := .bool false) rfl (t := false) rfl rfl rfl w) ?_
                          refine SOps.val (v := .bool false) rfl (wantN rfl) (fun _ => by kernel_rfl) ?_
                          refine SOps.off rfl (wantX (c := false) rfl rfl rfl rfl) ?_
                          refine SOps.off rfl (wantX (c := false) rfl rfl rfl rfl) ?_
                          refine SOps.off rfl (wantX (c := false) rfl rfl rfl rfl) ?_
                          refine SOps.off rfl (wantX (c := false) rfl rfl rfl rfl) ?_
                          refine SOps.off rfl (wantX (c := false) rfl rfl rfl rfl) ?_
                          refine SOps.val (v := .bool false) rfl (wantN rfl) (fun w => ev_pickF (v := .bool false) rfl (t := false) rfl rfl rfl w) ?_
                          refine SOps.val (v := .bool false) rfl (wantN rfl) (fun _ => by kernel_rfl) ?_
                          refine SOps.off rfl (wantX (c := false) rfl rfl rfl rfl) ?_
                          refine SOps.off rfl (wantX (c := false) rfl rfl rfl rfl) ?_
                          refine SOps.off rfl (wantX (c := false) rfl rfl rfl rfl) ?_
                          refine SOps.off rfl (wantX (c := false) rfl rfl rfl rfl) ?_
                          refine SOps.off rfl (wantX (c := false) rfl rfl rfl rfl) ?_
                          refine SOps.off rfl (wantX (c := false) rfl rfl rfl rfl) ?_
                          refine SOps.off rfl (wantX (c := false) rfl rfl rfl rfl) ?_
                          refine SOps.off rfl (wantX (c := false) rfl rfl rfl rfl) ?_
                          refine SOps.off rfl (wantX (c := false) rfl rfl rfl rfl) ?_
                          refine SOps.off rfl (wantX (c := false) rfl rfl rfl rfl) ?_
                          refine SOps.val (v := .bool false) rfl (wantN rfl) (fun w => ev_pickF (v := .bool false) rfl (t := false) rfl rfl rfl w) ?_
                          refine SOps.val (v := .bool false) rfl (wantN rfl) (fun _ => by kernel_rfl) ?_
                          refine SOps.nil ?_
                          obtain ⟨Hr, hr, h⟩ := h
                          exact SW.ret (retQ.mk (.bool false) (res1 rfl rfl) hr ⟨false, rfl, h⟩)
                        · replace h := h.2 c109
                          have dc109 : q104 = false := (Bool.eq_false_iff.mpr c109)
                          refine SOps.val (v := pv none) rfl (wantY (c := !q104) rfl rfl rfl (not_f dc109)) (fun _ => by kernel_rfl) ?_
                          refine SOps.lit (E := 9) (cs := #[.string (⟨#[120]⟩ : ByteArray)]) rfl rfl (wantY (c := !q104) rfl rfl rfl (not_f dc109)) (fun _ => by kernel_rfl) (fun b110 c111 => ?_)
                          replace h := h b110 c111
                          refine SOps.enter rfl (wantY (c := !q104) rfl rfl rfl (not_f dc109)) (fun _ => by kernel_rfl) (journal_Journal_Put.sound F none (⟨some (b110, 0), 1, 1⟩ : Sl) (SH.upd H107 b110 ⟨[.string (⟨#[120]⟩ : ByteArray)], 9, false, 1⟩) _ h) ?_
                          clear h
                          rintro v H113 ⟨e112, rfl, h⟩
                          refine SOps.enter rfl (wantY (c := !q104) rfl rfl rfl (not_f dc109)) (fun _ => by kernel_rfl) (api_Code.sound F e112 H113 _ h) ?_
                          clear h
                          rintro v H115 ⟨x114, rfl, h⟩
                          refine SOps.val (v := .int .i64 1) rfl (wantY (c := !q104) rfl rfl rfl (not_f dc109)) (fun _ => by kernel_rfl) ?_
                          refine SOps.val (v := .bool (x114 == 1)) rfl (wantY (c := !q104) rfl rfl rfl (not_f dc109)) (fun _ => by kernel_rfl) ?_
                          refine SOps.val (v := .bool (x114 == 1)) rfl (wantN rfl) (fun w => ev_pickT (v := .bool (x114 == 1)) rfl (t := !q104) rfl (not_f dc109) rfl w) ?_
                          refine SOps.val (v := .bool (x114 == 1)) rfl (wantN rfl) (fun _ => by kernel_rfl) ?_
                          by_cases c116 : x114 = 1
                          · replace h := h.1 c116
                            have dc116 : (x114 == 1) = true := (beq_iff_eq.mpr c116)
                            refine SOps.val (v := pv none) rfl (wantY (c := (x114 == 1)) rfl rfl rfl dc116) (fun _ => by kernel_rfl) ?_
                            refine SOps.lit (E := 9) (cs := #[.string (⟨#[120]⟩ : ByteArray)]) rfl rfl (wantY (c := (x114 == 1)) rfl rfl rfl dc116) (fun _ => by kernel_rfl) (fun b117 c118 => ?_)
                            replace h := h b117 c118
                            refine SOps.enter rfl (wantY (c := (x114 == 1)) rfl rfl rfl dc116) (fun _ => by kernel_rfl) (journal_Journal_Write.sound F none (⟨some (b117, 0), 1, 1⟩ : Sl) (SH.upd H115 b117 ⟨[.string (⟨#[120]⟩ : ByteArray)], 9, false, 1⟩) _ h) ?_
                            clear h
                            rintro v H120 ⟨e119, rfl, h⟩
                            refine SOps.enter rfl (wantY (c := (x114 == 1)) rfl rfl rfl dc116) (fun _ => by kernel_rfl) (api_Code.sound F e119 H120 _ h) ?_
                            clear h
                            rintro v H122 ⟨x121, rfl, h⟩
                            refine SOps.val (v := .int .i64 1) rfl (wantY (c := (x114 == 1)) rfl rfl rfl dc116) (fun _ => by kernel_rfl) ?_
                            refine SOps.val (v := .bool (x121 == 1)) rfl (wantY (c := (x114 == 1)) rfl rfl rfl dc116) (fun _ => by kernel_rfl) ?_
                            refine SOps.val (v := .bool (x121 == 1)) rfl (wantN rfl) (fun w => ev_pickT (v := .bool (x121 == 1)) rfl (t := (x114 == 1)) rfl dc116 rfl w) ?_
                            refine SOps.val (v := .bool (x121 == 1)) rfl (wantN rfl) (fun _ => by kernel_rfl) ?_
                            by_cases c123 : x121 = 1
                            · replace h := h.1 c123
                              have dc123 : (x121 == 1) = true := (beq_iff_eq.mpr c123)
                              refine SOps.val (v := pv none) rfl (wantY (c := (x121 == 1)) rfl rfl rfl dc123) (fun _ => by kernel_rfl) ?_
                              refine SOps.enter rfl (wantY (c := (x121 == 1)) rfl rfl rfl dc123) (fun _ => by kernel_rfl) (journal_Journal_Flush.sound F none H122 _ h) ?_
                              clear h
                              rintro v H125 ⟨e124, rfl, h⟩
                              refine SOps.enter rfl (wantY (c := (x121 == 1)) rfl rfl rfl dc123) (fun _ => by kernel_rfl) (api_Code.sound F e124 H125 _ h) ?_
                              clear h
                              rintro v H127 ⟨x126, rfl, h⟩
                              refine SOps.val (v := .int .i64 1) rfl (wantY (c := (x121 == 1)) rfl rfl rfl dc123) (fun _ => by kernel_rfl) ?_
                              refine SOps.val (v := .bool (x126 == 1)) rfl (wantY (c := (x121 == 1)) rfl rfl rfl dc123) (fun _ => by kernel_rfl) ?_
                              refine SOps.val (v := .bool (x126 == 1)) rfl (wantN rfl) (fun w => ev_pickT (v := .bool (x126 == 1)) rfl (t := (x121 == 1)) rfl dc123 rfl w) ?_
                              refine SOps.val (v := .bool (x126 == 1)) rfl (wantN rfl) (fun _ => by kernel_rfl) ?_
                              by_cases c128 : x126 = 1
                              · replace h := h.1 c128
                                have dc128 : (x126 == 1) = true := (beq_iff_eq.mpr c128)
                                refine SOps.val (v := pv none) rfl (wantY (c := (x126 == 1)) rfl rfl rfl dc128) (fun _ => by kernel_rfl) ?_
                                refine SOps.enter rfl (wantY (c := (x126 == 1)) rfl rfl rfl dc128) (fun _ => by kernel_rfl) (journal_Journal_All.sound F none H127 _ h) ?_
                                clear h
                                rintro v H130 ⟨l129, rfl, h⟩
                                refine SOps.val (v := .int .i64 (l129.len : Int)) rfl (wantY (c := (x126 == 1)) rfl rfl rfl dc128) (fun _ => by kernel_rfl) ?_
                                refine SOps.val (v := pv none) rfl (wantY (c := (x126 == 1)) rfl rfl rfl dc128) (fun _ => by kernel_rfl) ?_
                                refine SOps.enter rfl (wantY (c := (x126 == 1)) rfl rfl rfl dc128) (fun _ => by kernel_rfl) (journal_Journal_Len.sound F none H130 _ h) ?_
                                clear h
                                rintro v H132 ⟨x131, rfl, h⟩
                                refine SOps.val (v := .int .i64 (w64 ((l129.len : Int) + x131))) rfl (wantY (c := (x126 == 1)) rfl rfl rfl dc128) (fun _ => by kernel_rfl) ?_
                                refine SOps.val (v := pv none) rfl (wantY (c := (x126 == 1)) rfl rfl rfl dc128) (fun _ => by kernel_rfl) ?_
                                refine SOps.enter rfl (wantY (c := (x126 == 1)) rfl rfl rfl dc128) (fun _ => by kernel_rfl) (journal_Journal_Bytes.sound F none H132 _ h) ?_
                                clear h
                                rintro v H134 ⟨x133, rfl, h⟩
                                refine SOps.val (v := .int .i64 (w64 ((w64 ((l129.len : Int) + x131)) + x133))) rfl (wantY (c := (x126 == 1)) rfl rfl rfl dc128) (fun _ => by kernel_rfl) ?_
                                refine SOps.val (v := .bool ((w64 ((w64 ((l129.len : Int) + x131)) + x133)) == 0)) rfl (wantY (c := (x126 == 1)) rfl rfl rfl dc128) (fun _ => by kernel_rfl) ?_
                                refine SOps.val (v := .bool ((w64 ((w64 ((l129.len : Int) + x131)) + x133)) == 0)) rfl (wantN rfl) (fun w => ev_pickT (v := .bool ((w64 ((w64 ((l129.len : Int) + x131)) + x133)) == 0)) rfl (t := (x126 == 1)) rfl dc128 rfl w) ?_
                                refine SOps.val (v := .bool ((w64 ((w64 ((l129.len : Int) + x131)) + x133)) == 0)) rfl (wantN rfl) (fun _ => by kernel_rfl) ?_
                                refine SOps.nil ?_
                                obtain ⟨Hr, hr, h⟩ := h
                                exact SW.ret (retQ.mk (.bool ((w64 ((w64 ((l129.len : Int) + x131)) + x133)) == 0)) (res1 rfl rfl) hr ⟨((w64 ((w64 ((l129.len : Int) + x131)) + x133)) == 0), rfl, h⟩)
                              · replace h := h.2 c128
                                have dc128 : (x126 == 1) = false := (beq_eq_false_iff_ne.mpr c128)
                                refine SOps.off rfl (wantX (c := (x126 == 1)) rfl rfl rfl dc128) ?_
                                refine SOps.off rfl (wantX (c := (x126 == 1)) rfl rfl rfl dc128) ?_
                                refine SOps.off rfl (wantX (c := (x126 == 1)) rfl rfl rfl dc128) ?_
                                refine SOps.off rfl (wantX (c := (x126 == 1)) rfl rfl rfl dc128) ?_
                                refine SOps.off rfl (wantX (c := (x126 == 1)) rfl rfl rfl dc128) ?_
                                refine SOps.off rfl (wantX (c := (x126 == 1)) rfl rfl rfl dc128) ?_
                                refine SOps.off rfl (wantX (c := (x126 == 1)) rfl rfl rfl dc128) ?_
                                refine SOps.off rfl (wantX (c := (x126 == 1)) rfl rfl rfl dc128) ?_
                                refine SOps.off rfl (wantX (c := (x126 == 1)) rfl rfl rfl dc128) ?_
                                refine SOps.off rfl (wantX (c := (x126 == 1)) rfl rfl rfl dc128) ?_
                                refine SOps.val (v := .bool false) rfl (wantN rfl) (fun w => ev_pickF (v := .bool false) rfl (t := (x126 == 1)) rfl dc128 rfl w) ?_
                                refine SOps.val (v := .bool false) rfl (wantN rfl) (fun _ => by kernel_rfl) ?_
                                refine SOps.nil ?_
                                obtain ⟨Hr, hr, h⟩ := h
                                exact SW.ret (retQ.mk (.bool false) (res1 rfl rfl) hr ⟨false, rfl, h⟩)
                            · replace h := h.2 c123
                              have dc123 : (x121 == 1) = false := (beq_eq_false_iff_ne.mpr c123)
                              refine SOps.off rfl (wantX (c := (x121 == 1)) rfl rfl rfl dc123) ?_
                              refine SOps.off rfl (wantX (c := (x121 == 1)) rfl rfl rfl dc123) ?_
                              refine SOps.off rfl (wantX (c := (x121 == 1)) rfl rfl rfl dc123) ?_
                              refine SOps.off rfl (wantX (c := (x121 == 1)) rfl rfl rfl dc123) ?_
                              refine SOps.off rfl (wantX (c := (x121 == 1)) rfl rfl rfl dc123) ?_
                              refine SOps.val (v := .bool false) rfl (wantN rfl) (fun w => ev_pickF (v := .bool false) rfl (t := (x121 == 1)) rfl dc123 rfl w) ?_
                              refine SOps.val (v := .bool false) rfl (wantN rfl) (fun _ => by kernel_rfl) ?_
                              refine SOps.off rfl (wantX (c := false) rfl rfl rfl rfl) ?_
                              refine SOps.off rfl (wantX (c := false) rfl rfl rfl rfl) ?_
                              refine SOps.off rfl (wantX (c := false) rfl rfl rfl rfl) ?_
                              refine SOps.off rfl (wantX (c := false) rfl rfl rfl rfl) ?_
                              refine SOps.off rfl (wantX (c := false) rfl rfl rfl rfl) ?_
                              refine SOps.off rfl (wantX (c := false) rfl rfl rfl rfl) ?_
                              refine SOps.off rfl (wantX (c := false) rfl rfl rfl rfl) ?_
                              refine SOps.off rfl (wantX (c := false) rfl rfl rfl rfl) ?_
                              refine SOps.off rfl (wantX (c := false) rfl rfl rfl rfl) ?_
                              refine SOps.off rfl (wantX (c := false) rfl rfl rfl rfl) ?_
                              refine SOps.val (v := .bool false) rfl (wantN rfl) (fun w => ev_pickF (v := .bool false) rfl (t := false) rfl rfl rfl w) ?_
                              refine SOps.val (v := .bool false) rfl (wantN rfl) (fun _ => by kernel_rfl) ?_
                              refine SOps.nil ?_
                              obtain ⟨Hr, hr, h⟩ := h
                              exact SW.ret (retQ.mk (.bool false) (res1 rfl rfl) hr ⟨false, rfl, h⟩)
                          · replace h := h.2 c116
                            have dc116 : (x114 == 1) = false := (beq_eq_false_iff_ne.mpr c116)
                            refine SOps.off rfl (wantX (c := (x114 == 1)) rfl rfl rfl dc116) ?_
                            refine SOps.off rfl (wantX (c := (x114 == 1)) rfl rfl rfl dc116) ?_
                            refine SOps.off rfl (wantX (c := (x114 == 1)) rfl rfl rfl dc116) ?_
                            refine SOps.off rfl (wantX (c := (x114 == 1)) rfl rfl rfl dc116) ?_
                            refine SOps.off rfl (wantX (c := (x114 == 1)) rfl rfl rfl dc116) ?_
                            refine SOps.off rfl (wantX (c := (x114 == 1)) rfl rfl rfl dc116) ?_
                            refine SOps.val (v := .bool false) rfl (wantN rfl) (fun w => ev_pickF (v := .bool false) rfl (t := (x114 == 1)) rfl dc116 rfl w) ?_
                            refine SOps.val (v := .bool false) rfl (wantN rfl) (fun _ => by kernel_rfl) ?_
                            refine SOps.off rfl (wantX (c := false) rfl rfl rfl rfl) ?_
                            refine SOps.off rfl (wantX (c := false) rfl rfl rfl rfl) ?_
                            refine SOps.off rfl (wantX (c := false) rfl rfl rfl rfl) ?_
                            refine SOps.off rfl (wantX (c := false) rfl rfl rfl rfl) ?_
                            refine SOps.off rfl (wantX (c := false) rfl rfl rfl rfl) ?_
                            refine SOps.val (v := .bool false) rfl (wantN rfl) (fun w => ev_pickF (v := .bool false) rfl (t := false) rfl rfl rfl w) ?_
                            refine SOps.val (v := .bool false) rfl (wantN rfl) (fun _ => by kernel_rfl) ?_
                            refine SOps.off rfl (wantX (c := false) rfl rfl rfl rfl) ?_
                            refine SOps.off rfl (wantX (c := false) rfl rfl rfl rfl) ?_
                            refine SOps.off rfl (wantX (c := false) rfl rfl rfl rfl) ?_
                            refine SOps.off rfl (wantX (c := false) rfl rfl rfl rfl) ?_
                            refine SOps.off rfl (wantX (c := false) rfl rfl rfl rfl) ?_
                            refine SOps.off rfl (wantX (c := false) rfl rfl rfl rfl) ?_
                            refine SOps.off rfl (wantX (c := false) rfl rfl rfl rfl) ?_
                            refine SOps.off rfl (wantX (c := false) rfl rfl rfl rfl) ?_
                            refine SOps.off rfl (wantX (c := false) rfl rfl rfl rfl) ?_
                            refine SOps.off rfl (wantX (c := false) rfl rfl rfl rfl) ?_
                            refine SOps.val (v := .bool false) rfl (wantN rfl) (fun w => ev_pickF (v := .bool false) rfl (t := false) rfl rfl rfl w) ?_
                            refine SOps.val (v := .bool false) rfl (wantN rfl) (fun _ => by kernel_rfl) ?_
                            refine SOps.nil ?_
                            obtain ⟨Hr, hr, h⟩ := h
                            exact SW.ret (retQ.mk (.bool false) (res1 rfl rfl) hr ⟨false, rfl, h⟩)
                      · replace h := h.2 c108
                        have dc108 : (x106 == 1) = false := (beq_eq_false_iff_ne.mpr c108)
                        refine SOps.off rfl (wantX (c := (x106 == 1)) rfl rfl rfl dc108) ?_
                        refine SOps.off rfl (wantX (c := (x106 == 1)) rfl rfl rfl dc108) ?_
                        refine SOps.val (v := .bool false) rfl (wantN rfl) (fun w => ev_pickF (v := .bool false) rfl (t := (x106 == 1)) rfl dc108 rfl w) ?_
                        refine SOps.val (v := .bool false) rfl (wantN rfl) (fun _ => by kernel_rfl) ?_
                        refine SOps.off rfl (wantX (c := false) rfl rfl rfl rfl) ?_
                        refine SOps.off rfl (wantX (c := false) rfl rfl rfl rfl) ?_
                        refine SOps.off rfl (wantX (c := false) rfl rfl rfl rfl) ?_
                        refine SOps.off rfl (wantX (c := false) rfl rfl rfl rfl) ?_
                        refine SOps.off rfl (wantX (c := false) rfl rfl rfl rfl) ?_
                        refine SOps.off rfl (wantX (c := false) rfl rfl rfl rfl) ?_
                        refine SOps.val (v := .bool false) rfl (wantN rfl) (fun w => ev_pickF (v := .bool false) rfl (t := false) rfl rfl rfl w) ?_
                        refine SOps.val (v := .bool false) rfl (wantN rfl) (fun _ => by kernel_rfl) ?_
                        refine SOps.off rfl (wantX (c := false) rfl rfl rfl rfl) ?_
                        refine SOps.off rfl (wantX (c := false) rfl rfl rfl rfl) ?_
                        refine SOps.off rfl (wantX (c := false) rfl rfl rfl rfl) ?_
                        refine SOps.off rfl (wantX (c := false) rfl rfl rfl rfl) ?_
                        refine SOps.off rfl (wantX (c := false) rfl rfl rfl rfl) ?_
                        refine SOps.off rfl (wantX (c := false) rfl rfl rfl rfl) ?_
                        refine SOps.val (v := .bool false) rfl (wantN rfl) (fun w => ev_pickF (v := .bool false) rfl (t := false) rfl rfl rfl w) ?_
                        refine SOps.val (v := .bool false) rfl (wantN rfl) (fun _ => by kernel_rfl) ?_
                        refine SOps.off rfl (wantX (c := false) rfl rfl rfl rfl) ?_
                        refine SOps.off rfl (wantX (c := false) rfl rfl rfl rfl) ?_
                        refine SOps.off rfl (wantX (c := false) rfl rfl rfl rfl) ?_
                        refine SOps.off rfl (wantX (c := false) rfl rfl rfl rfl) ?_
                        refine SOps.off rfl (wantX (c := false) rfl rfl rfl rfl) ?_
                        refine SOps.val (v := .bool false) rfl (wantN rfl) (fun w => ev_pickF (v := .bool false) rfl (t := false) rfl rfl rfl w) ?_
                        refine SOps.val (v := .bool false) rfl (wantN rfl) (fun _ => by kernel_rfl) ?_
                        refine SOps.off rfl (wantX (c := false) rfl rfl rfl rfl) ?_
                        refine SOps.off rfl (wantX (c := false) rfl rfl rfl rfl) ?_
                        refine SOps.off rfl (wantX (c := false) rfl rfl rfl rfl) ?_
                        refine SOps.off rfl (wantX (c := false) rfl rfl rfl rfl) ?_
                        refine SOps.off rfl (wantX (c := false) rfl rfl rfl rfl) ?_
                        refine SOps.off rfl (wantX (c := false) rfl rfl rfl rfl) ?_
                        refine SOps.off rfl (wantX (c := false) rfl rfl rfl rfl) ?_
                        refine SOps.off rfl (wantX (c := false) rfl rfl rfl rfl) ?_
                        refine SOps.off rfl (wantX (c := false) rfl rfl rfl rfl) ?_
                        refine SOps.off rfl (wantX (c := false) rfl rfl rfl rfl) ?_
                        refine SOps.val (v := .bool false) rfl (wantN rfl) (fun w => ev_pickF (v := .bool false) rfl (t := false) rfl rfl rfl w) ?_
                        refine SOps.val (v := .bool false) rfl (wantN rfl) (fun _ => by kernel_rfl) ?_
                        refine SOps.nil ?_
                        obtain ⟨Hr, hr, h⟩ := h
                        exact SW.ret (retQ.mk (.bool false) (res1 rfl rfl) hr ⟨false, rfl, h⟩)
                    · skip
                      refine SW.seq ?_
                      refine SW.region ?_
                      refine SOps.val (v := .bool q25) rfl (wantN rfl) (fun _ => by kernel_rfl) ?_
                      refine SOps.nil ?_
                      by_cases c78 : q25 = true
                      · replace h := h.1 c78
                        have dc78 : q25 = true := c78
                        refine SW.cond_t (t := q25) rfl dc78 ?_
                        refine SW.seq ?_
                        refine SW.region ?_
                        refine SOps.val (v := pv p27) rfl (wantN rfl) (fun _ => by kernel_rfl) ?_
                        obtain ⟨c81, c82, h⟩ := h
                        refine SOps.make (z := .int .u8 0) (size := 1) (bytes := 1) rfl rfl (wantN rfl) Tryd.underlying67 (by kernel_rfl) rfl (by decide) (by decide) rfl rfl c81 c82 (fun b79 c80 => ?_)
                        replace h := h b79 c80
                        obtain ⟨bs83, c84, c85, h⟩ := h
                        refine SOps.rd (v := .string (⟨bs83.toArray⟩ : ByteArray)) rfl (wantN rfl) (fun w hw => ev_str rfl Tryd.underlying67 Tryd.underlying5 Tryd.underlying9 rfl c84 c85 w hw) ?_
                        refine SOps.lit (E := 9) (cs := #[.string (⟨#[97]⟩ : ByteArray), .string (⟨bs83.toArray⟩ : ByteArray), .string (⟨#[98]⟩ : ByteArray)]) rfl rfl (wantN rfl) (fun _ => by kernel_rfl) (fun b86 c87 => ?_)
                        replace h := h b86 c87
                        refine SOps.enter rfl (wantN rfl) (fun _ => by kernel_rfl) (journal_Journal_Put.sound F p27 (⟨some (b86, 0), 3, 3⟩ : Sl) (SH.upd (SH.upd H74 b79 ⟨(Builtin.zeroCells (Value.cells (.int .u8 0 : Value)) (60001 : Int).toNat).toList, 5, false, (60001 : Int).toNat * 1⟩) b86 ⟨[.string (⟨#[97]⟩ : ByteArray), .string (⟨bs83.toArray⟩ : ByteArray), .string (⟨#[98]⟩ : ByteArray)], 9, false, 3⟩) _ h) ?_
                        clear h
                        rintro v H89 ⟨e88, rfl, h⟩
                        refine SOps.val (v := errV e88) rfl (wantN rfl) (fun _ => by kernel_rfl) ?_
                        refine SOps.nil ?_
                        refine SW.seq ?_
                        refine SW.region ?_
                        refine SOps.val (v := errV e88) rfl (wantN rfl) (fun _ => by kernel_rfl) ?_
                        refine SOps.enter rfl (wantN rfl) (fun _ => by kernel_rfl) (api_Code.sound F e88 H89 _ h) ?_
                        clear h
                        rintro v H91 ⟨x90, rfl, h⟩
                        refine SOps.val (v := .bool (x90 != 6)) rfl (wantN rfl) (fun _ => by kernel_rfl) ?_
                        refine SOps.val (v := .bool (x90 != 6)) rfl (wantN rfl) (fun _ => by kernel_rfl) ?_
                        by_cases c92 : x90 ≠ 6
                        · replace h := h.1 c92
                          have dc92 : (x90 != 6) = true := (bne_iff_ne.mpr c92)
                          refine SOps.off rfl (wantX (c := (x90 != 6)) rfl rfl rfl dc92) ?_
                          refine SOps.off rfl (wantX (c := (x90 != 6)) rfl rfl rfl dc92) ?_
                          refine SOps.off rfl (wantX (c := (x90 != 6)) rfl rfl rfl dc92) ?_
                          refine SOps.off rfl (wantX (c := (x90 != 6)) rfl rfl rfl dc92) ?_
                          refine SOps.off rfl (wantX (c := (x90 != 6)) rfl rfl rfl dc92) ?_
                          refine SOps.val (v := .bool true) rfl (wantN rfl) (fun w => ev_pickT (v := .bool true) rfl (t := (x90 != 6)) rfl dc92 rfl w) ?_
                          refine SOps.val (v := .bool true) rfl (wantN rfl) (fun _ => by kernel_rfl) ?_
                          refine SOps.off rfl (wantX (c := true) rfl rfl rfl rfl) ?_
                          refine SOps.off rfl (wantX (c := true) rfl rfl rfl rfl) ?_
                          refine SOps.off rfl (wantX (c := true) rfl rfl rfl rfl) ?_
                          refine SOps.off rfl (wantX (c := true) rfl rfl rfl rfl) ?_
                          refine SOps.off rfl (wantX (c := true) rfl rfl rfl rfl) ?_
                          refine SOps.val (v := .bool true) rfl (wantN rfl) (fun w => ev_pickT (v := .bool true) rfl (t := true) rfl rfl rfl w) ?_
                          refine SOps.nil ?_
                          refine SW.cond_t (t := true) rfl rfl ?_
                          refine SW.seq ?_
                          refine SW.region ?_
                          refine SOps.val (v := .bool false) rfl (wantN rfl) (fun _ => by kernel_rfl) ?_
                          refine SOps.nil ?_
                          obtain ⟨Hr, hr, h⟩ := h
                          exact SW.ret (retQ.mk (.bool false) (res1 rfl rfl) hr ⟨false, rfl, h⟩)
                        · replace h := h.2 c92
                          have dc92 : (x90 != 6) = false := (by simpa using c92)
                          refine SOps.val (v := pv p27) rfl (wantY (c := (x90 != 6)) rfl rfl rfl dc92) (fun _ => by kernel_rfl) ?_
                          refine SOps.enter rfl (wantY (c := (x90 != 6)) rfl rfl rfl dc92) (fun _ => by kernel_rfl) (journal_Journal_Len.sound F p27 H91 _ h) ?_
                          clear h
                          rintro v H94 ⟨x93, rfl, h⟩
                          refine SOps.val (v := sv l24) rfl (wantY (c := (x90 != 6)) rfl rfl rfl dc92) (fun _ => by kernel_rfl) ?_
                          refine SOps.val (v := .int .i64 (l24.len : Int)) rfl (wantY (c := (x90 != 6)) rfl rfl rfl dc92) (fun _ => by kernel_rfl) ?_
                          refine SOps.val (v := .bool (x93 != (l24.len : Int))) rfl (wantY (c := (x90 != 6)) rfl rfl rfl dc92) (fun _ => by kernel_rfl) ?_
                          refine SOps.val (v := .bool (x93 != (l24.len : Int))) rfl (wantN rfl) (fun w => ev_pickF (v := .bool (x93 != (l24.len : Int))) rfl (t := (x90 != 6)) rfl dc92 rfl w) ?_
                          refine SOps.val (v := .bool (x93 != (l24.len : Int))) rfl (wantN rfl) (fun _ => by kernel_rfl) ?_
                          by_cases c95 : x93 ≠ (l24.len : Int)
                          · replace h := h.1 c95
                            have dc95 : (x93 != (l24.len : Int)) = true := (bne_iff_ne.mpr c95)
                            refine SOps.off rfl (wantX (c := (x93 != (l24.len : Int))) rfl rfl rfl dc95) ?_
                            refine SOps.off rfl (wantX (c := (x93 != (l24.len : Int))) rfl rfl rfl dc95) ?_
                            refine SOps.off rfl (wantX (c := (x93 != (l24.len : Int))) rfl rfl rfl dc95) ?_
                            refine SOps.off rfl (wantX (c := (x93 != (l24.len : Int))) rfl rfl rfl dc95) ?_
                            refine SOps.off rfl (wantX (c := (x93 != (l24.len : Int))) rfl rfl rfl dc95) ?_
                            refine SOps.val (v := .bool true) rfl (wantN rfl) (fun w => ev_pickT (v := .bool true) rfl (t := (x93 != (l24.len : Int))) rfl dc95 rfl w) ?_
                            refine SOps.nil ?_
                            refine SW.cond_t (t := true) rfl rfl ?_
                            refine SW.seq ?_
                            refine SW.region ?_
                            refine SOps.val (v := .bool false) rfl (wantN rfl) (fun _ => by kernel_rfl) ?_
                            refine SOps.nil ?_
                            obtain ⟨Hr, hr, h⟩ := h
                            exact SW.ret (retQ.mk (.bool false) (res1 rfl rfl) hr ⟨false, rfl, h⟩)
                          · replace h := h.2 c95
                            have dc95 : (x93 != (l24.len : Int)) = false := (by simpa using c95)
                            refine SOps.val (v := pv p26) rfl (wantY (c := (x93 != (l24.len : Int))) rfl rfl rfl dc95) (fun _ => by kernel_rfl) ?_
                            refine SOps.val (v := pv p27) rfl (wantY (c := (x93 != (l24.len : Int))) rfl rfl rfl dc95) (fun _ => by kernel_rfl) ?_
                            refine SOps.val (v := sv l24) rfl (wantY (c := (x93 != (l24.len : Int))) rfl rfl rfl dc95) (fun _ => by kernel_rfl) ?_
                            refine SOps.enter rfl (wantY (c := (x93 != (l24.len : Int))) rfl rfl rfl dc95) (fun _ => by kernel_rfl) (ladinglaw15_has.sound F p26 p27 l24 H94 _ h) ?_
                            clear h
                            rintro v H97 ⟨q96, rfl, h⟩
                            refine SOps.val (v := .bool (!q96)) rfl (wantY (c := (x93 != (l24.len : Int))) rfl rfl rfl dc95) (fun _ => by kernel_rfl) ?_
                            refine SOps.val (v := .bool (!q96)) rfl (wantN rfl) (fun w => ev_pickF (v := .bool (!q96)) rfl (t := (x93 != (l24.len : Int))) rfl dc95 rfl w) ?_
                            refine SOps.nil ?_
                            by_cases c98 : q96 = true
                            · replace h := h.1 c98
                              have dc98 : q96 = true := c98
                              refine SW.cond_f (t := !q96) rfl (not_t dc98) ?_
                              refine SW.skip ?_
                              exact ⟨_, b28, Fr.upds_self _ _ ⟨rfl, trivial⟩, h⟩
                            · replace h := h.2 c98
                              have dc98 : q96 = false := (Bool.eq_false_iff.mpr c98)
                              refine SW.cond_t (t := !q96) rfl (not_f dc98) ?_
                              refine SW.seq ?_
                              refine SW.region ?_
                              refine SOps.val (v := .bool false) rfl (wantN rfl) (fun _ => by kernel_rfl) ?_
                              refine SOps.nil ?_
                              obtain ⟨Hr, hr, h⟩ := h
                              exact SW.ret (retQ.mk (.bool false) (res1 rfl rfl) hr ⟨false, rfl, h⟩)
                      · replace h := h.2 c78
                        have dc78 : q25 = false := (Bool.eq_false_iff.mpr c78)
                        refine SW.cond_f (t := q25) rfl dc78 ?_
                        refine SW.skip ?_
                        exact ⟨_, b28, Fr.upds_self _ _ ⟨rfl, trivial⟩, h⟩
              · replace h := h.2 c75
                have dc75 : (decide (s29 = s31)) = false := (decide_eq_false c75)
                refine SOps.off rfl (wantX (c := !decide (s29 = s31)) rfl rfl rfl (not_f dc75)) ?_
                refine SOps.off rfl (wantX (c := !decide (s29 = s31)) rfl rfl rfl (not_f dc75)) ?_
                refine SOps.off rfl (wantX (c := !decide (s29 = s31)) rfl rfl rfl (not_f dc75)) ?_
                refine SOps.val (v := .bool true) rfl (wantN rfl) (fun w => ev_pickT (v := .bool true) rfl (t := !decide (s29 = s31)) rfl (not_f dc75) rfl w) ?_
                refine SOps.val (v := .bool true) rfl (wantN rfl) (fun _ => by kernel_rfl) ?_
                refine SOps.off rfl (wantX (c := true) rfl rfl rfl rfl) ?_
                refine SOps.val (v := .bool true) rfl (wantN rfl) (fun w => ev_pickT (v := .bool true) rfl (t := true) rfl rfl rfl w) ?_
                refine SOps.nil ?_
                refine SW.cond_t (t := true) rfl rfl ?_
                refine SW.seq ?_
                refine SW.region ?_
                refine SOps.val (v := .bool false) rfl (wantN rfl) (fun _ => by kernel_rfl) ?_
                refine SOps.nil ?_
                obtain ⟨Hr, hr, h⟩ := h
                exact SW.ret (retQ.mk (.bool false) (res1 rfl rfl) hr ⟨false, rfl, h⟩)
        · replace h := h.2 v20 rfl
          refine SOps.val (v := .bool true) rfl (wantY (c := false) rfl rfl rfl rfl) (fun w => ev_errNe (e := some v20) rfl Tryd.underlying28 rfl rfl w) ?_
          refine SOps.val (v := .bool true) rfl (wantN rfl) (fun w => ev_pickF (v := .bool true) rfl (t := false) rfl rfl rfl w) ?_
          refine SOps.nil ?_
          refine SW.cond_t (t := true) rfl rfl ?_
          refine SW.seq ?_
          refine SW.region ?_
          refine SOps.val (v := .bool false) rfl (wantN rfl) (fun _ => by kernel_rfl) ?_
          refine SOps.nil ?_
          obtain ⟨Hr, hr, h⟩ := h
          exact SW.ret (retQ.mk (.bool false) (res1 rfl rfl) hr ⟨false, rfl, h⟩)
      · replace h := h.2 v17 rfl
        refine SOps.val (v := .bool true) rfl (wantN rfl) (fun w => ev_errNe (e := some v17) rfl Tryd.underlying28 rfl rfl w) ?_
        refine SOps.val (v := .bool true) rfl (wantN rfl) (fun _ => by kernel_rfl) ?_
        refine SOps.off rfl (wantX (c := true) rfl rfl rfl rfl) ?_
        refine SOps.off rfl (wantX (c := true) rfl rfl rfl rfl) ?_
        refine SOps.off rfl (wantX (c := true) rfl rfl rfl rfl) ?_
        refine SOps.off rfl (wantX (c := true) rfl rfl rfl rfl) ?_
        refine SOps.val (v := .bool true) rfl (wantN rfl) (fun w => ev_pickT (v := .bool true) rfl (t := true) rfl rfl rfl w) ?_
        refine SOps.nil ?_
        refine SW.cond_t (t := true) rfl rfl ?_
        refine SW.seq ?_
        refine SW.region ?_
        refine SOps.val (v := .bool false) rfl (wantN rfl) (fun _ => by kernel_rfl) ?_
        refine SOps.nil ?_
        obtain ⟨Hr, hr, h⟩ := h
        exact SW.ret (retQ.mk (.bool false) (res1 rfl rfl) hr ⟨false, rfl, h⟩)
  · replace h := h.2 c8
    have dc8 : q6 = false := (Bool.eq_false_iff.mpr c8)
    refine SW.cond_t (t := !q6) rfl (not_f dc8) ?_
    refine SW.seq ?_
    refine SW.region ?_
    refine SOps.val (v := .bool false) rfl (wantN rfl) (fun _ => by kernel_rfl) ?_
    refine SOps.nil ?_
    obtain ⟨Hr, hr, h⟩ := h
    exact SW.ret (retQ.mk (.bool false) (res1 rfl rfl) hr ⟨false, rfl, h⟩)

end Go.Proofs.YtknhlipealekoaaDoor.K
