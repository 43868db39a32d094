import Derived.Test.YtkfbmoekghbgbaaDoorGladinglaw18
set_option linter.unusedVariables false
set_option linter.unusedSimpArgs false
set_option maxRecDepth 100000
namespace Go.Proofs.YtkfbmoekghbgbaaDoor.K
open Go
attribute [local irreducible] SW SOps SQ SCalls retQ

/-! ### lading/ladinglaw18.MsgGets: function 5 -/
def ladinglaw18_MsgGets.wp (F : Nat) (s1 : ByteArray) (H : SH) (K : Bool → SH → Prop) : Prop :=
  ladinglaw18_awake.wp F  H (fun q2 H3 =>
    (q2 = true →
      ((s1.size : Int) > 1000 →
        ∃ Hr, SH.le Hr H3 ∧ K true Hr
      ) ∧ (¬ ((s1.size : Int) > 1000) →
        msg_Get.wp F s1 H3 (fun x6 x7 x8 s9 l10 e11 H12 =>
          ∀ b13, H12 b13 = none →
          SH.wrs (SH.upd H12 b13 ⟨[.int .i64 0, .int .i64 0, .int .i64 0, .string ByteArray.empty, sv Sl.nil], 53, false, 5⟩) (b13, 0) 5 ∧
          (e11 = none →
            ∃ (x17 : Int) (x18 : Int) (x19 : Int) (s20 : ByteArray) (l21 : Sl),
            SH.row (SH.setl (SH.upd H12 b13 ⟨[.int .i64 0, .int .i64 0, .int .i64 0, .string ByteArray.empty, sv Sl.nil], 53, false, 5⟩) (b13, 0) [.int .i64 x6, .int .i64 x7, .int .i64 x8, .string s9, sv l10]) (some (b13, 0)) [.int .i64 x17, .int .i64 x18, .int .i64 x19, .string s20, sv l21] ∧
            ladinglaw18_parts.wp F x17 x18 x19 s20 l21 (SH.setl (SH.upd H12 b13 ⟨[.int .i64 0, .int .i64 0, .int .i64 0, .string ByteArray.empty, sv Sl.nil], 53, false, 5⟩) (b13, 0) [.int .i64 x6, .int .i64 x7, .int .i64 x8, .string s9, sv l10]) (fun x23 x24 x25 s26 l27 H28 =>
              ladingref18_May.wp F x23 x24 x25 s26 l27 H28 (fun q29 H30 =>
                (q29 = true →
                  ∃ (x32 : Int) (x33 : Int) (x34 : Int) (s35 : ByteArray) (l36 : Sl),
                  SH.row H30 (some (b13, 0)) [.int .i64 x32, .int .i64 x33, .int .i64 x34, .string s35, sv l36] ∧
                  ladinglaw18_parts.wp F x32 x33 x34 s35 l36 H30 (fun x38 x39 x40 s41 l42 H43 =>
                    ladingref18_Put.wp F x38 x39 x40 s41 l42 H43 (fun s44 H45 =>
                      ∃ Hr, SH.le Hr H45 ∧ K (decide (s44 = s1)) Hr
                    )
                  )
                ) ∧ (¬ (q29 = true) →
                  ∃ Hr, SH.le Hr H30 ∧ K false Hr
                )
              )
            )
          ) ∧ (∀ v16, e11 = some v16 →
            api_Code.wp F (some v16) (SH.setl (SH.upd H12 b13 ⟨[.int .i64 0, .int .i64 0, .int .i64 0, .string ByteArray.empty, sv Sl.nil], 53, false, 5⟩) (b13, 0) [.int .i64 x6, .int .i64 x7, .int .i64 x8, .string s9, sv l10]) (fun x46 H47 =>
              ∃ (x48 : Int) (x49 : Int) (x50 : Int) (s51 : ByteArray) (l52 : Sl),
              SH.row H47 (some (b13, 0)) [.int .i64 x48, .int .i64 x49, .int .i64 x50, .string s51, sv l52] ∧
              ladinglaw18_same.wp F x48 x49 x50 s51 l52 0 0 0 ByteArray.empty Sl.nil H47 (fun q54 H55 =>
                (q54 = true →
                  (x46 = 4 →
                    api_Place.wp F (some v16) H55 (fun x58 H59 =>
                      ∃ Hr, SH.le Hr H59 ∧ K (decide (x58 ≥ 0)) Hr
                    )
                  ) ∧ (¬ (x46 = 4) →
                    (x46 = 3 →
                      api_Place.wp F (some v16) H55 (fun x61 H62 =>
                        ∃ Hr, SH.le Hr H62 ∧ K (decide (x61 ≥ 0)) Hr
                      )
                    ) ∧ (¬ (x46 = 3) →
                      (x46 = 5 →
                        api_Place.wp F (some v16) H55 (fun x64 H65 =>
                          ∃ Hr, SH.le Hr H65 ∧ K (decide (x64 ≥ 0)) Hr
                        )
                      ) ∧ (¬ (x46 = 5) →
                        (x46 = 6 →
                          api_Place.wp F (some v16) H55 (fun x67 H68 =>
                            ∃ Hr, SH.le Hr H68 ∧ K (decide (x67 ≥ 0)) Hr
                          )
                        ) ∧ (¬ (x46 = 6) →
                          ∃ Hr, SH.le Hr H55 ∧ K false Hr
                        )
                      )
                    )
                  )
                ) ∧ (¬ (q54 = true) →
                  ∃ Hr, SH.le Hr H55 ∧ K false Hr
                )
              )
            )
          )
        )
      )
    ) ∧ (¬ (q2 = true) →
      ∃ Hr, SH.le Hr H3 ∧ K false Hr
    )
  )
set_option maxHeartbeats 8000000 in
theorem ladinglaw18_MsgGets.sound (F : Nat) (s1 : ByteArray) (H : SH) (K : Bool → SH → Prop) (h : ladinglaw18_MsgGets.wp F s1 H K) : SCalls Tryd.prog 5 #[.string s1] H (fun v H' => ∃ (q70 : Bool), v = .bool q70 ∧ K q70 H') := by
  unfold ladinglaw18_MsgGets.wp at h
  refine SCalls.body Tryd.func5 rfl (Nat.le_of_ble_eq_true rfl) ?_
  refine SW.seq ?_
  refine SW.region ?_
  refine SOps.val (v := .bool false) rfl (wantN rfl) (fun _ => by kernel_rfl) ?_
  refine SOps.nil ?_
  refine SW.seq ?_
  refine SW.seq ?_
  refine SW.region ?_
  refine SOps.enter rfl (wantN rfl) (fun _ => by kernel_rfl) (ladinglaw18_awake.sound F  H _ h) ?_
  clear h
  rintro v H3 ⟨q2, rfl, h⟩
  refine SOps.val (v := .bool (!q2)) rfl (wantN rfl) (fun _ => by kernel_rfl) ?_
  refine SOps.nil ?_
  by_cases c4 : q2 = true
  · replace h := h.1 c4
    have dc4 : q2 = true := c4
    refine SW.cond_f (t := !q2) rfl (not_t dc4) ?_
    refine SW.skip ?_
    refine SW.seq ?_
    refine SW.seq ?_
    refine SW.region ?_
    refine SOps.val (v := .string s1) rfl (wantN rfl) (fun _ => by kernel_rfl) ?_
    refine SOps.val (v := .int .i64 (s1.size : Int)) rfl (wantN rfl) (fun _ => by kernel_rfl) ?_
    refine SOps.val (v := .bool (decide ((s1.size : Int) > 1000))) rfl (wantN rfl) (fun _ => by kernel_rfl) ?_
    refine SOps.nil ?_
    by_cases c5 : (s1.size : Int) > 1000
    · replace h := h.1 c5
      have dc5 : (decide ((s1.size : Int) > 1000)) = true := (decide_eq_true c5)
      refine SW.cond_t (t := decide ((s1.size : Int) > 1000)) rfl dc5 ?_
      refine SW.seq ?_
      refine SW.region ?_
      refine SOps.val (v := .bool true) rfl (wantN rfl) (fun _ => by kernel_rfl) ?_
      refine SOps.nil ?_
      obtain ⟨Hr, hr, h⟩ := h
      exact SW.ret (retQ.mk (.bool true) (res1 rfl rfl) hr ⟨true, rfl, h⟩)
    · replace h := h.2 c5
      have dc5 : (decide ((s1.size : Int) > 1000)) = false := (decide_eq_false c5)
      refine SW.cond_f (t := decide ((s1.size : Int) > 1000)) rfl dc5 ?_
      refine SW.skip ?_
      refine SW.seq ?_
      refine SW.region ?_
      refine SOps.val (v := .string s1) rfl (wantN rfl) (fun _ => by kernel_rfl) ?_
      refine SOps.enter rfl (wantN rfl) (fun _ => by kernel_rfl) (msg_Get.sound F s1 H3 _ h) ?_
      clear h
      rintro v H12 ⟨x6, x7, x8, s9, l10, e11, rfl, h⟩
      refine SOps.val (v := .tuple #[.agg #[.int .i64 x6, .int .i64 x7, .int .i64 x8, .string s9, sv l10], errV e11]) rfl (wantN rfl) (fun _ => by kernel_rfl) ?_
      refine SOps.val (v := .agg #[.int .i64 x6, .int .i64 x7, .int .i64 x8, .string s9, sv l10]) rfl (wantN rfl) (fun _ => by kernel_rfl) ?_
      refine SOps.val (v := errV e11) rfl (wantN rfl) (fun _ => by kernel_rfl) ?_
      refine SOps.alloc rfl rfl (wantN rfl) (z := .agg #[.int .i64 0, .int .i64 0, .int .i64 0, .string ByteArray.empty, sv Sl.nil]) (by kernel_rfl) (fun b13 c14 => ?_)
      replace h := h b13 c14
      obtain ⟨c15, h⟩ := h
      refine SOps.storeL (p := (b13, 0)) (v := .agg #[.int .i64 x6, .int .i64 x7, .int .i64 x8, .string s9, sv l10]) (cs := [.int .i64 x6, .int .i64 x7, .int .i64 x8, .string s9, sv l10]) rfl rfl (wantN rfl) (size := 5) (by kernel_rfl) rfl rfl rfl rfl (by simp [Value.oneCell', errV_one, pv, sv]) c15 ?_
      refine SOps.val (v := errV e11) rfl (wantN rfl) (fun _ => by kernel_rfl) ?_
      refine SOps.nil ?_
      refine SW.seq ?_
      refine SW.seq ?_
      refine SW.region ?_
      refine SOps.val (v := errV e11) rfl (wantN rfl) (fun _ => by kernel_rfl) ?_
      rcases e11 with _ | v16
      · replace h := h.1 rfl
        refine SOps.val (v := .bool false) rfl (wantN rfl) (fun w => ev_errNe (e := none) rfl Tryd.underlying31 rfl rfl w) ?_
        refine SOps.nil ?_
        refine SW.cond_f (t := false) rfl rfl ?_
        refine SW.skip ?_
        refine SW.seq ?_
        refine SW.region ?_
        obtain ⟨x17, x18, x19, s20, l21, c22, h⟩ := h
        refine SOps.rd (v := .agg #[.int .i64 x17, .int .i64 x18, .int .i64 x19, .string s20, sv l21]) rfl (wantN rfl) (fun w hw => ev_loadN rfl (fun _ => by kernel_rfl) (size := 5) (by kernel_rfl) (p := (b13, 0)) rfl rfl c22 w hw) ?_
        refine SOps.enter rfl (wantN rfl) (fun _ => by kernel_rfl) (ladinglaw18_parts.sound F x17 x18 x19 s20 l21 (SH.setl (SH.upd H12 b13 ⟨[.int .i64 0, .int .i64 0, .int .i64 0, .string ByteArray.empty, sv Sl.nil], 53, false, 5⟩) (b13, 0) [.int .i64 x6, .int .i64 x7, .int .i64 x8, .string s9, sv l10]) _ h) ?_
        clear h
        rintro v H28 ⟨x23, x24, x25, s26, l27, rfl, h⟩
        refine SOps.enter rfl (wantN rfl) (fun _ => by kernel_rfl) (ladingref18_May.sound F x23 x24 x25 s26 l27 H28 _ h) ?_
        clear h
        rintro v H30 ⟨q29, rfl, h⟩
        refine SOps.val (v := .bool q29) rfl (wantN rfl) (fun _ => by kernel_rfl) ?_
        by_cases c31 : q29 = true
        · replace h := h.1 c31
          have dc31 : q29 = true := c31
          obtain ⟨x32, x33, x34, s35, l36, c37, h⟩ := h
          refine SOps.rd (v := .agg #[.int .i64 x32, .int .i64 x33, .int .i64 x34, .string s35, sv l36]) rfl (wantY (c := q29) rfl rfl rfl dc31) (fun w hw => ev_loadN rfl (fun _ => by kernel_rfl) (size := 5) (by kernel_rfl) (p := (b13, 0)) rfl rfl c37 w hw) ?_
          refine SOps.enter rfl (wantY (c := q29) rfl rfl rfl dc31) (fun _ => by kernel_rfl) (ladinglaw18_parts.sound F x32 x33 x34 s35 l36 H30 _ h) ?_
          clear h
          rintro v H43 ⟨x38, x39, x40, s41, l42, rfl, h⟩
          refine SOps.enter rfl (wantY (c := q29) rfl rfl rfl dc31) (fun _ => by kernel_rfl) (ladingref18_Put.sound F x38 x39 x40 s41 l42 H43 _ h) ?_
          clear h
          rintro v H45 ⟨s44, rfl, h⟩
          refine SOps.val (v := .string s1) rfl (wantY (c := q29) rfl rfl rfl dc31) (fun _ => by kernel_rfl) ?_
          refine SOps.val (v := .bool (decide (s44 = s1))) rfl (wantY (c := q29) rfl rfl rfl dc31) (fun w => ev_eqS rfl rfl rfl w) ?_
          refine SOps.val (v := .bool (decide (s44 = s1))) rfl (wantN rfl) (fun w => ev_pickT (v := .bool (decide (s44 = s1))) rfl (t := q29) rfl dc31 rfl w) ?_
          refine SOps.val (v := .bool (decide (s44 = s1))) rfl (wantN rfl) (fun _ => by kernel_rfl) ?_
          refine SOps.nil ?_
          obtain ⟨Hr, hr, h⟩ := h
          exact SW.ret (retQ.mk (.bool (decide (s44 = s1))) (res1 rfl rfl) hr ⟨decide (s44 = s1), rfl, h⟩)
        · replace h := h.2 c31
          have dc31 : q29 = false := (Bool.eq_false_iff.mpr c31)
          refine SOps.off rfl (wantX (c := q29) rfl rfl rfl dc31) ?_
          refine SOps.off rfl (wantX (c := q29) rfl rfl rfl dc31) ?_
          refine SOps.off rfl (wantX (c := q29) rfl rfl rfl dc31) ?_
          refine SOps.off rfl (wantX (c := q29) rfl rfl rfl dc31) ?_
          refine SOps.off rfl (wantX (c := q29) rfl rfl rfl dc31) ?_
          refine SOps.val (v := .bool false) rfl (wantN rfl) (fun w => ev_pickF (v := .bool false) rfl (t := q29) rfl dc31 rfl w) ?_
          refine SOps.val (v := .bool false) rfl (wantN rfl) (fun _ => by kernel_rfl) ?_
          refine SOps.nil ?_
          obtain ⟨Hr, hr, h⟩ := h
          exact SW.ret (retQ.mk (.bool false) (res1 rfl rfl) hr ⟨false, rfl, h⟩)
      · replace h := h.2 v16 rfl
        refine SOps.val (v := .bool true) rfl (wantN rfl) (fun w => ev_errNe (e := some v16) rfl Tryd.underlying31 rfl rfl w) ?_
        refine SOps.nil ?_
        refine SW.cond_t (t := true) rfl rfl ?_
        refine SW.seq ?_
        refine SW.region ?_
        refine SOps.val (v := errV (some v16)) rfl (wantN rfl) (fun _ => by kernel_rfl) ?_
        refine SOps.enter rfl (wantN rfl) (fun _ => by kernel_rfl) (api_Code.sound F (some v16) (SH.setl (SH.upd H12 b13 ⟨[.int .i64 0, .int .i64 0, .int .i64 0, .string ByteArray.empty, sv Sl.nil], 53, false, 5⟩) (b13, 0) [.int .i64 x6, .int .i64 x7, .int .i64 x8, .string s9, sv l10]) _ h) ?_
        clear h
        rintro v H47 ⟨x46, rfl, h⟩
        refine SOps.val (v := .int .i64 x46) rfl (wantN rfl) (fun _ => by kernel_rfl) ?_
        refine SOps.nil ?_
        refine SW.seq ?_
        refine SW.region ?_
        obtain ⟨x48, x49, x50, s51, l52, c53, h⟩ := h
        refine SOps.rd (v := .agg #[.int .i64 x48, .int .i64 x49, .int .i64 x50, .string s51, sv l52]) rfl (wantN rfl) (fun w hw => ev_loadN rfl (fun _ => by kernel_rfl) (size := 5) (by kernel_rfl) (p := (b13, 0)) rfl rfl c53 w hw) ?_
        refine SOps.val (v := .agg #[.int .i64 0, .int .i64 0, .int .i64 0, .string ByteArray.empty, sv Sl.nil]) rfl (wantN rfl) (fun _ => by kernel_rfl) ?_
        refine SOps.enter rfl (wantN rfl) (fun _ => by kernel_rfl) (ladinglaw18_same.sound F x48 x49 x50 s51 l52 0 0 0 ByteArray.empty Sl.nil H47 _ h) ?_
        clear h
        rintro v H55 ⟨q54, rfl, h⟩
        refine SOps.val (v := .bool q54) rfl (wantN rfl) (fun _ => by kernel_rfl) ?_
        by_cases c56 : q54 = true
        · replace h := h.1 c56
          have dc56 : q54 = true := c56
          refine SOps.val (v := .int .i64 x46) rfl (wantY (c := q54) rfl rfl rfl dc56) (fun _ => by kernel_rfl) ?_
          refine SOps.val (v := .bool (x46 == 4)) rfl (wantY (c := q54) rfl rfl rfl dc56) (fun _ => by kernel_rfl) ?_
          refine SOps.val (v := .bool (x46 == 4)) rfl (wantY (c := q54) rfl rfl rfl dc56) (fun _ => by kernel_rfl) ?_
          by_cases c57 : x46 = 4
          · replace h := h.1 c57
            have dc57 : (x46 == 4) = true := (beq_iff_eq.mpr c57)
            refine SOps.off rfl (wantX (c := (x46 == 4)) rfl rfl rfl dc57) ?_
            refine SOps.off rfl (wantX (c := (x46 == 4)) rfl rfl rfl dc57) ?_
            refine SOps.val (v := .bool true) rfl (wantY (c := q54) rfl rfl rfl dc56) (fun w => ev_pickT (v := .bool true) rfl (t := (x46 == 4)) rfl dc57 rfl w) ?_
            refine SOps.val (v := .bool true) rfl (wantY (c := q54) rfl rfl rfl dc56) (fun _ => by kernel_rfl) ?_
            refine SOps.off rfl (wantX (c := true) rfl rfl rfl rfl) ?_
            refine SOps.off rfl (wantX (c := true) rfl rfl rfl rfl) ?_
            refine SOps.val (v := .bool true) rfl (wantY (c := q54) rfl rfl rfl dc56) (fun w => ev_pickT (v := .bool true) rfl (t := true) rfl rfl rfl w) ?_
            refine SOps.val (v := .bool true) rfl (wantY (c := q54) rfl rfl rfl dc56) (fun _ => by kernel_rfl) ?_
            refine SOps.off rfl (wantX (c := true) rfl rfl rfl rfl) ?_
            refine SOps.off rfl (wantX (c := true) rfl rfl rfl rfl) ?_
            refine SOps.val (v := .bool true) rfl (wantY (c := q54) rfl rfl rfl dc56) (fun w => ev_pickT (v := .bool true) rfl (t := true) rfl rfl rfl w) ?_
            refine SOps.val (v := .bool true) rfl (wantN rfl) (fun w => ev_pickT (v := .bool true) rfl (t := q54) rfl dc56 rfl w) ?_
            refine SOps.val (v := .bool true) rfl (wantN rfl) (fun _ => by kernel_rfl) ?_
            refine SOps.val (v := errV (some v16)) rfl (wantY (c := true) rfl rfl rfl rfl) (fun _ => by kernel_rfl) ?_
            refine SOps.enter rfl (wantY (c := true) rfl rfl rfl rfl) (fun _ => by kernel_rfl) (api_Place.sound F (some v16) H55 _ h) ?_
            clear h
            rintro v H59 ⟨x58, rfl, h⟩
            refine SOps.val (v := .bool (decide (x58 ≥ 0))) rfl (wantY (c := true) rfl rfl rfl rfl) (fun _ => by kernel_rfl) ?_
            refine SOps.val (v := .bool (decide (x58 ≥ 0))) rfl (wantN rfl) (fun w => ev_pickT (v := .bool (decide (x58 ≥ 0))) rfl (t := true) rfl rfl rfl w) ?_
            refine SOps.val (v := .bool (decide (x58 ≥ 0))) rfl (wantN rfl) (fun _ => by kernel_rfl) ?_
            refine SOps.nil ?_
            obtain ⟨Hr, hr, h⟩ := h
            exact SW.ret (retQ.mk (.bool (decide (x58 ≥ 0))) (res1 rfl rfl) hr ⟨decide (x58 ≥ 0), rfl, h⟩)
          · replace h := h.2 c57
            have dc57 : (x46 == 4) = false := (beq_eq_false_iff_ne.mpr c57)
            refine SOps.val (v := .int .i64 x46) rfl (wantY (c := (x46 == 4)) rfl rfl rfl dc57) (fun _ => by kernel_rfl) ?_
            refine SOps.val (v := .bool (x46 == 3)) rfl (wantY (c := (x46 == 4)) rfl rfl rfl dc57) (fun _ => by kernel_rfl) ?_
            refine SOps.val (v := .bool (x46 == 3)) rfl (wantY (c := q54) rfl rfl rfl dc56) (fun w => ev_pickF (v := .bool (x46 == 3)) rfl (t := (x46 == 4)) rfl dc57 rfl w) ?_
            refine SOps.val (v := .bool (x46 == 3)) rfl (wantY (c := q54) rfl rfl rfl dc56) (fun _ => by kernel_rfl) ?_
            by_cases c60 : x46 = 3
            · replace h := h.1 c60
              have dc60 : (x46 == 3) = true := (beq_iff_eq.mpr c60)
              refine SOps.off rfl (wantX (c := (x46 == 3)) rfl rfl rfl dc60) ?_
              refine SOps.off rfl (wantX (c := (x46 == 3)) rfl rfl rfl dc60) ?_
              refine SOps.val (v := .bool true) rfl (wantY (c := q54) rfl rfl rfl dc56) (fun w => ev_pickT (v := .bool true) rfl (t := (x46 == 3)) rfl dc60 rfl w) ?_
              refine SOps.val (v := .bool true) rfl (wantY (c := q54) rfl rfl rfl dc56) (fun _ => by kernel_rfl) ?_
              refine SOps.off rfl (wantX (c := true) rfl rfl rfl rfl) ?_
              refine SOps.off rfl (wantX (c := true) rfl rfl rfl rfl) ?_
              refine SOps.val (v := .bool true) rfl (wantY (c := q54) rfl rfl rfl dc56) (fun w => ev_pickT (v := .bool true) rfl (t := true) rfl rfl rfl w) ?_
              refine SOps.val (v := .bool true) rfl (wantN rfl) (fun w => ev_pickT (v := .bool true) rfl (t := q54) rfl dc56 rfl w) ?_
              refine SOps.val (v := .bool true) rfl (wantN rfl) (fun _ => by kernel_rfl) ?_
              refine SOps.val (v := errV (some v16)) rfl (wantY (c := true) rfl rfl rfl rfl) (fun _ => by kernel_rfl) ?_
              refine SOps.enter rfl (wantY (c := true) rfl rfl rfl rfl) (fun _ => by kernel_rfl) (api_Place.sound F (some v16) H55 _ h) ?_
              clear h
              rintro v H62 ⟨x61, rfl, h⟩
              refine SOps.val (v := .bool (decide (x61 ≥ 0))) rfl (wantY (c := true) rfl rfl rfl rfl) (fun _ => by kernel_rfl) ?_
              refine SOps.val (v := .bool (decide (x61 ≥ 0))) rfl (wantN rfl) (fun w => ev_pickT (v := .bool (decide (x61 ≥ 0))) rfl (t := true) rfl rfl rfl w) ?_
              refine SOps.val (v := .bool (decide (x61 ≥ 0))) rfl (wantN rfl) (fun _ => by kernel_rfl) ?_
              refine SOps.nil ?_
              obtain ⟨Hr, hr, h⟩ := h
              exact SW.ret (retQ.mk (.bool (decide (x61 ≥ 0))) (res1 rfl rfl) hr ⟨decide (x61 ≥ 0), rfl, h⟩)
            · replace h := h.2 c60
              have dc60 : (x46 == 3) = false := (beq_eq_false_iff_ne.mpr c60)
              refine SOps.val (v := .int .i64 x46) rfl (wantY (c := (x46 == 3)) rfl rfl rfl dc60) (fun _ => by kernel_rfl) ?_
              refine SOps.val (v := .bool (x46 == 5)) rfl (wantY (c := (x46 == 3)) rfl rfl rfl dc60) (fun _ => by kernel_rfl) ?_
              refine SOps.val (v := .bool (x46 == 5)) rfl (wantY (c := q54) rfl rfl rfl dc56) (fun w => ev_pickF (v := .bool (x46 == 5)) rfl (t := (x46 == 3)) rfl dc60 rfl w) ?_
              refine SOps.val (v := .bool (x46 == 5)) rfl (wantY (c := q54) rfl rfl rfl dc56) (fun _ => by kernel_rfl) ?_
              by_cases c63 : x46 = 5
              · replace h := h.1 c63
                have dc63 : (x46 == 5) = true := (beq_iff_eq.mpr c63)
                refine SOps.off rfl (wantX (c := (x46 == 5)) rfl rfl rfl dc63) ?_
                refine SOps.off rfl (wantX (c := (x46 == 5)) rfl rfl rfl dc63) ?_
                refine SOps.val (v := .bool true) rfl (wantY (c := q54) rfl rfl rfl dc56) (fun w => ev_pickT (v := .bool true) rfl (t := (x46 == 5)) rfl dc63 rfl w) ?_
                refine SOps.val (v := .bool true) rfl (wantN rfl) (fun w => ev_pickT (v := .bool true) rfl (t := q54) rfl dc56 rfl w) ?_
                refine SOps.val (v := .bool true) rfl (wantN rfl) (fun _ => by kernel_rfl) ?_
                refine SOps.val (v := errV (some v16)) rfl (wantY (c := true) rfl rfl rfl rfl) (fun _ => by kernel_rfl) ?_
                refine SOps.enter rfl (wantY (c := true) rfl rfl rfl rfl) (fun _ => by kernel_rfl) (api_Place.sound F (some v16) H55 _ h) ?_
                clear h
                rintro v H65 ⟨x64, rfl, h⟩
                refine SOps.val (v := .bool (decide (x64 ≥ 0))) rfl (wantY (c := true) rfl rfl rfl rfl) (fun _ => by kernel_rfl) ?_
                refine SOps.val (v := .bool (decide (x64 ≥ 0))) rfl (wantN rfl) (fun w => ev_pickT (v := .bool (decide (x64 ≥ 0))) rfl (t := true) rfl rfl rfl w) ?_
                refine SOps.val (v := .bool (decide (x64 ≥ 0))) rfl (wantN rfl) (fun _ => by kernel_rfl) ?_
                refine SOps.nil ?_
                obtain ⟨Hr, hr, h⟩ := h
                exact SW.ret (retQ.mk (.bool (decide (x64 ≥ 0))) (res1 rfl rfl) hr ⟨decide (x64 ≥ 0), rfl, h⟩)
              · replace h := h.2 c63
                have dc63 : (x46 == 5) = false := (beq_eq_false_iff_ne.mpr c63)
                refine SOps.val (v := .int .i64 x46) rfl (wantY (c := (x46 == 5)) rfl rfl rfl dc63) (fun _ => by kernel_rfl) ?_
                refine SOps.val (v := .bool (x46 == 6)) rfl (wantY (c := (x46 == 5)) rfl rfl rfl dc63) (fun _ => by kernel_rfl) ?_
                refine SOps.val (v := .bool (x46 == 6)) rfl (wantY (c := q54) rfl rfl rfl dc56) (fun w => ev_pickF (v := .bool (x46 == 6)) rfl (t := (x46 == 5)) rfl dc63 rfl w) ?_
                refine SOps.val (v := .bool (x46 == 6)) rfl (wantN rfl) (fun w => ev_pickT (v := .bool (x46 == 6)) rfl (t := q54) rfl dc56 rfl w) ?_
                refine SOps.val (v := .bool (x46 == 6)) rfl (wantN rfl) (fun _ => by kernel_rfl) ?_
                by_cases c66 : x46 = 6
                · replace h := h.1 c66
                  have dc66 : (x46 == 6) = true := (beq_iff_eq.mpr c66)
                  refine SOps.val (v := errV (some v16)) rfl (wantY (c := (x46 == 6)) rfl rfl rfl dc66) (fun _ => by kernel_rfl) ?_
                  refine SOps.enter rfl (wantY (c := (x46 == 6)) rfl rfl rfl dc66) (fun _ => by kernel_rfl) (api_Place.sound F (some v16) H55 _ h) ?_
                  clear h
                  rintro v H68 ⟨x67, rfl, h⟩
                  refine SOps.val (v := .bool (decide (x67 ≥ 0))) rfl (wantY (c := (x46 == 6)) rfl rfl rfl dc66) (fun _ => by kernel_rfl) ?_
                  refine SOps.val (v := .bool (decide (x67 ≥ 0))) rfl (wantN rfl) (fun w => ev_pickT (v := .bool (decide (x67 ≥ 0))) rfl (t := (x46 == 6)) rfl dc66 rfl w) ?_
                  refine SOps.val (v := .bool (decide (x67 ≥ 0))) rfl (wantN rfl) (fun _ => by kernel_rfl) ?_
                  refine SOps.nil ?_
                  obtain ⟨Hr, hr, h⟩ := h
                  exact SW.ret (retQ.mk (.bool (decide (x67 ≥ 0))) (res1 rfl rfl) hr ⟨decide (x67 ≥ 0), rfl, h⟩)
                · replace h := h.2 c66
                  have dc66 : (x46 == 6) = false := (beq_eq_false_iff_ne.mpr c66)
                  refine SOps.off rfl (wantX (c := (x46 == 6)) rfl rfl rfl dc66) ?_
                  refine SOps.off rfl (wantX (c := (x46 == 6)) rfl rfl rfl dc66) ?_
                  refine SOps.off rfl (wantX (c := (x46 == 6)) rfl rfl rfl dc66) ?_
                  refine SOps.val (v := .bool false) rfl (wantN rfl) (fun w => ev_pickF (v := .bool false) rfl (t := (x46 == 6)) rfl dc66 rfl w) ?_
                  refine SOps.val (v := .bool false) rfl (wantN rfl) (fun _ => by kernel_rfl) ?_
                  refine SOps.nil ?_
                  obtain ⟨Hr, hr, h⟩ := h
                  exact SW.ret (retQ.mk (.bool false) (res1 rfl rfl) hr ⟨false, rfl, h⟩)
        · replace h := h.2 c56
          have dc56 : q54 = false := (Bool.eq_false_iff.mpr c56)
          refine SOps.off rfl (wantX (c := q54) rfl rfl rfl dc56) ?_
          refine SOps.off rfl (wantX (c := q54) rfl rfl rfl dc56) ?_
          refine SOps.off rfl (wantX (c := q54) rfl rfl rfl dc56) ?_
          refine SOps.off rfl (wantU rfl rfl rfl) ?_
          refine SOps.off rfl (wantU rfl rfl rfl) ?_
          refine SOps.off rfl (wantX (c := q54) rfl rfl rfl dc56) ?_
          refine SOps.off rfl (wantX (c := q54) rfl rfl rfl dc56) ?_
          refine SOps.off rfl (wantU rfl rfl rfl) ?_
          refine SOps.off rfl (wantU rfl rfl rfl) ?_
          refine SOps.off rfl (wantX (c := q54) rfl rfl rfl dc56) ?_
          refine SOps.off rfl (wantX (c := q54) rfl rfl rfl dc56) ?_
          refine SOps.off rfl (wantU rfl rfl rfl) ?_
          refine SOps.off rfl (wantU rfl rfl rfl) ?_
          refine SOps.off rfl (wantX (c := q54) rfl rfl rfl dc56) ?_
          refine SOps.val (v := .bool false) rfl (wantN rfl) (fun w => ev_pickF (v := .bool false) rfl (t := q54) rfl dc56 rfl w) ?_
          refine SOps.val (v := .bool false) rfl (wantN rfl) (fun _ => by kernel_rfl) ?_
          refine SOps.off rfl (wantX (c := false) rfl rfl rfl rfl) ?_
          refine SOps.off rfl (wantX (c := false) rfl rfl rfl rfl) ?_
          refine SOps.off rfl (wantX (c := false) rfl rfl rfl rfl) ?_
          refine SOps.val (v := .bool false) rfl (wantN rfl) (fun w => ev_pickF (v := .bool false) rfl (t := false) rfl rfl rfl w) ?_
          refine SOps.val (v := .bool false) rfl (wantN rfl) (fun _ => by kernel_rfl) ?_
          refine SOps.nil ?_
          obtain ⟨Hr, hr, h⟩ := h
          exact SW.ret (retQ.mk (.bool false) (res1 rfl rfl) hr ⟨false, rfl, h⟩)
  · replace h := h.2 c4
    have dc4 : q2 = false := (Bool.eq_false_iff.mpr c4)
    refine SW.cond_t (t := !q2) rfl (not_f dc4) ?_
    refine SW.seq ?_
    refine SW.region ?_
    refine SOps.val (v := .bool false) rfl (wantN rfl) (fun _ => by kernel_rfl) ?_
    refine SOps.nil ?_
    obtain ⟨Hr, hr, h⟩ := h
    exact SW.ret (retQ.mk (.bool false) (res1 rfl rfl) hr ⟨false, rfl, h⟩)

end Go.Proofs.YtkfbmoekghbgbaaDoor.K
