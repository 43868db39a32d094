import Derived.Test.YtknhlipealekoaaDoorGladinglaw14
set_option linter.unusedVariables false
set_option linter.unusedSimpArgs false
set_option maxRecDepth 100000
namespace Go.Proofs.YtknhlipealekoaaDoor.K
open Go
attribute [local irreducible] SW SOps SQ SCalls retQ

/-! ### lading/ladinglaw14.DiskFuses: function 3 -/
def ladinglaw14_DiskFuses.j3 (F : Nat) (K : Bool → SH → Prop) (R1 : Option (Nat × Nat) → Int → ByteArray → Sl → Int → Int → SH → Prop) (p55 : Option (Nat × Nat)) (x56 : Int) (s57 : ByteArray) (l58 : Sl) (x59 : Int) (x60 : Int) (H : SH) : Prop :=
  R1 p55 (w64 (x56 - 1)) s57 l58 x59 (w64 (x60 + 1)) H
def ladinglaw14_DiskFuses.j2 (F : Nat) (K : Bool → SH → Prop) (R1 : Option (Nat × Nat) → Int → ByteArray → Sl → Int → Int → SH → Prop) (p38 : Option (Nat × Nat)) (x39 : Int) (s40 : ByteArray) (q41 : Bool) (e42 : Option EV) (l43 : Sl) (x44 : Int) (x45 : Int) (H : SH) : Prop :=
  (e42 = none →
    (q41 = true →
      ladinglaw14_DiskFuses.j3 F K R1 p38 x39 s40 l43 x44 x45 H
    ) ∧ (¬ (q41 = true) →
      s40.size + (⟨#[120]⟩ : ByteArray).size ≤ 9223372036854775807 ∧
      ladinglaw14_DiskFuses.j3 F K R1 p38 x39 (s40 ++ (⟨#[120]⟩ : ByteArray)) l43 x44 x45 H
    )
  ) ∧ (∀ v53, e42 = some v53 →
    ladinglaw14_DiskFuses.j3 F K R1 p38 x39 s40 l43 x44 x45 H
  )
def ladinglaw14_DiskFuses.j1 (F : Nat) (K : Bool → SH → Prop) (R1 : Option (Nat × Nat) → Int → ByteArray → Sl → Int → Int → SH → Prop) (p26 : Option (Nat × Nat)) (x27 : Int) (s28 : ByteArray) (q29 : Bool) (e30 : Option EV) (l31 : Sl) (x32 : Int) (x33 : Int) (H : SH) : Prop :=
  (e30 = none →
    (true ≠ (decide (x27 > 0)) →
      ∃ Hr, SH.le Hr H ∧ K false Hr
    ) ∧ (¬ (true ≠ (decide (x27 > 0))) →
      ladinglaw14_DiskFuses.j2 F K R1 p26 x27 s28 q29 none l31 x32 x33 H
    )
  ) ∧ (∀ v36, e30 = some v36 →
    (false ≠ (decide (x27 > 0)) →
      ∃ Hr, SH.le Hr H ∧ K false Hr
    ) ∧ (¬ (false ≠ (decide (x27 > 0))) →
      api_Code.wp F (some v36) H (fun x47 H48 =>
        (x47 ≠ 8 →
          ∃ Hr, SH.le Hr H48 ∧ K false Hr
        ) ∧ (¬ (x47 ≠ 8) →
          disk_Disk_Down.wp F p26 H48 (fun q50 H51 =>
            (q50 = true →
              ladinglaw14_DiskFuses.j2 F K R1 p26 x27 s28 q29 (some v36) l31 x32 x33 H51
            ) ∧ (¬ (q50 = true) →
              ∃ Hr, SH.le Hr H51 ∧ K false Hr
            )
          )
        )
      )
    )
  )
def ladinglaw14_DiskFuses.j4 (F : Nat) (K : Bool → SH → Prop) (p70 : Option (Nat × Nat)) (H : SH) : Prop :=
  disk_Disk_Crash.wp F p70 Sl.nil 0 H (fun H71 =>
    disk_Disk_Down.wp F p70 H71 (fun q72 H73 =>
      (q72 = true →
        ∃ Hr, SH.le Hr H73 ∧ K false Hr
      ) ∧ (¬ (q72 = true) →
        disk_Disk_Append.wp F p70 (⟨#[121]⟩ : ByteArray) H73 (fun e75 H76 =>
          (e75 = none →
            ∃ Hr, SH.le Hr H76 ∧ K true Hr
          ) ∧ (∀ v77, e75 = some v77 →
            ∃ Hr, SH.le Hr H76 ∧ K false Hr
          )
        )
      )
    )
  )
def ladinglaw14_DiskFuses.r1 (F : Nat) (K : Bool → SH → Prop) (R1 : Option (Nat × Nat) → Int → ByteArray → Sl → Int → Int → SH → Prop) (p10 : Option (Nat × Nat)) (x11 : Int) (s12 : ByteArray) (l13 : Sl) (x14 : Int) (x15 : Int) (H : SH) : Prop :=
  (x15 < x14 →
    ∃ p17, l13.a = some p17 ∧ 0 ≤ x15 ∧ x15 < (l13.len : Int) ∧
    ∃ (q21 : Bool),
    SH.has H (p17.1, (p17.2 + x15.toNat * 1)) (.bool q21) ∧
    (q21 = true →
      disk_Disk_Sync.wp F p10 H (fun e24 H25 =>
        ladinglaw14_DiskFuses.j1 F K R1 p10 x11 s12 q21 e24 l13 x14 x15 H25
      )
    ) ∧ (¬ (q21 = true) →
      disk_Disk_Append.wp F p10 (⟨#[120]⟩ : ByteArray) H (fun e34 H35 =>
        ladinglaw14_DiskFuses.j1 F K R1 p10 x11 s12 q21 e34 l13 x14 x15 H35
      )
    )
  ) ∧ (¬ (x15 < x14) →
    disk_Disk_Log.wp F p10 H (fun s65 e66 H67 =>
      (e66 = none →
        ((s65 = s12) →
          ladinglaw14_DiskFuses.j4 F K p10 H67
        ) ∧ (¬ ((s65 = s12)) →
          ∃ Hr, SH.le Hr H67 ∧ K false Hr
        )
      ) ∧ (∀ v68, e66 = some v68 →
        ladinglaw14_DiskFuses.j4 F K p10 H67
      )
    )
  )
def ladinglaw14_DiskFuses.l1 (F : Nat) (K : Bool → SH → Prop) : Nat → Option (Nat × Nat) → Int → ByteArray → Sl → Int → Int → SH → Prop
  | 0, _, _, _, _, _, _, _ => False
  | k + 1, p10, x11, s12, l13, x14, x15, H => ladinglaw14_DiskFuses.r1 F K (ladinglaw14_DiskFuses.l1 F K k) p10 x11 s12 l13 x14 x15 H
def ladinglaw14_DiskFuses.wp (F : Nat) (x1 : Int) (l2 : Sl) (H : SH) (K : Bool → SH → Prop) : Prop :=
  ladinglaw14_awake.wp F  H (fun q3 H4 =>
    (q3 = true →
      ((l2.len : Int) > 100 →
        ∃ Hr, SH.le Hr H4 ∧ K true Hr
      ) ∧ (¬ ((l2.len : Int) > 100) →
        disk_New.wp F 2 H4 (fun p7 H8 =>
          disk_Disk_Fuse.wp F p7 ((w64 x1).tmod 50) H8 (fun H9 =>
            ladinglaw14_DiskFuses.l1 F K F p7 ((w64 x1).tmod 50) ByteArray.empty l2 (l2.len : Int) 0 H9
          )
        )
      )
    ) ∧ (¬ (q3 = true) →
      ∃ Hr, SH.le Hr H4 ∧ K false Hr
    )
  )
set_option maxHeartbeats 8000000 in
theorem ladinglaw14_DiskFuses.sound (F : Nat) (x1 : Int) (l2 : Sl) (H : SH) (K : Bool → SH → Prop) (h : ladinglaw14_DiskFuses.wp F x1 l2 H K) : SCalls Tryd.prog 3 #[.int .u8 x1, sv l2] H (fun v H' => ∃ (q82 : Bool), v = .bool q82 ∧ K q82 H') := by
  unfold ladinglaw14_DiskFuses.wp at h
  refine SCalls.body Tryd.func3 rfl (Nat.le_of_ble_eq_true rfl) ?_
  refine SW.seq ?_
  refine SW.region ?_
  refine SOps.val (v := .bool false) rfl (wantN rfl) (fun _ => by kernel_rfl) ?_
  refine SOps.nil ?_
  refine SW.seq ?_
  refine SW.seq ?_
  refine SW.region ?_
  refine SOps.enter rfl (wantN rfl) (fun _ => by kernel_rfl) (ladinglaw14_awake.sound F  H _ h) ?_
  clear h
  rintro v H4 ⟨q3, rfl, h⟩
  refine SOps.val (v := .bool (!q3)) rfl (wantN rfl) (fun _ => by kernel_rfl) ?_
  refine SOps.nil ?_
  by_cases c5 : q3 = true
  · replace h := h.1 c5
    have dc5 : q3 = true := c5
    refine SW.cond_f (t := !q3) rfl (not_t dc5) ?_
    refine SW.skip ?_
    refine SW.seq ?_
    refine SW.seq ?_
    refine SW.region ?_
    refine SOps.val (v := sv l2) rfl (wantN rfl) (fun _ => by kernel_rfl) ?_
    refine SOps.val (v := .int .i64 (l2.len : Int)) rfl (wantN rfl) (fun _ => by kernel_rfl) ?_
    refine SOps.val (v := .bool (decide ((l2.len : Int) > 100))) rfl (wantN rfl) (fun _ => by kernel_rfl) ?_
    refine SOps.nil ?_
    by_cases c6 : (l2.len : Int) > 100
    · replace h := h.1 c6
      have dc6 : (decide ((l2.len : Int) > 100)) = true := (decide_eq_true c6)
      refine SW.cond_t (t := decide ((l2.len : Int) > 100)) rfl dc6 ?_
      refine SW.seq ?_
      refine SW.region ?_
      refine SOps.val (v := .bool true) rfl (wantN rfl) (fun _ => by kernel_rfl) ?_
      refine SOps.nil ?_
      obtain ⟨Hr, hr, h⟩ := h
      exact SW.ret (retQ.mk (.bool true) (res1 rfl rfl) hr ⟨true, rfl, h⟩)
    · replace h := h.2 c6
      have dc6 : (decide ((l2.len : Int) > 100)) = false := (decide_eq_false c6)
      refine SW.cond_f (t := decide ((l2.len : Int) > 100)) rfl dc6 ?_
      refine SW.skip ?_
      refine SW.seq ?_
      refine SW.region ?_
      refine SOps.enter rfl (wantN rfl) (fun _ => by kernel_rfl) (disk_New.sound F 2 H4 _ h) ?_
      clear h
      rintro v H8 ⟨p7, rfl, h⟩
      refine SOps.val (v := pv p7) rfl (wantN rfl) (fun _ => by kernel_rfl) ?_
      refine SOps.nil ?_
      refine SW.seq ?_
      refine SW.region ?_
      refine SOps.val (v := pv p7) rfl (wantN rfl) (fun _ => by kernel_rfl) ?_
      refine SOps.val (v := .int .u8 x1) rfl (wantN rfl) (fun _ => by kernel_rfl) ?_
      refine SOps.val (v := .int .i64 (w64 x1)) rfl (wantN rfl) (fun _ => by kernel_rfl) ?_
      refine SOps.val (v := .int .i64 ((w64 x1).tmod 50)) rfl (wantN rfl) (fun w => ev_rem rfl rfl rfl (by decide) w) ?_
      refine SOps.enter rfl (wantN rfl) (fun _ => by kernel_rfl) (disk_Disk_Fuse.sound F p7 ((w64 x1).tmod 50) H8 _ h) ?_
      clear h
      rintro v H9 ⟨rfl, h⟩
      refine SOps.nil ?_
      refine SW.seq ?_
      refine SW.region ?_
      refine SOps.val (v := .int .u8 x1) rfl (wantN rfl) (fun _ => by kernel_rfl) ?_
      refine SOps.val (v := .int .i64 (w64 x1)) rfl (wantN rfl) (fun _ => by kernel_rfl) ?_
      refine SOps.val (v := .int .i64 ((w64 x1).tmod 50)) rfl (wantN rfl) (fun w => ev_rem rfl rfl rfl (by decide) w) ?_
      refine SOps.val (v := .int .i64 ((w64 x1).tmod 50)) rfl (wantN rfl) (fun _ => by kernel_rfl) ?_
      refine SOps.nil ?_
      refine SW.seq ?_
      refine SW.region ?_
      refine SOps.val (v := .string ByteArray.empty) rfl (wantN rfl) (fun _ => by kernel_rfl) ?_
      refine SOps.nil ?_
      refine SW.seq ?_
      refine SW.seq ?_
      refine SW.region ?_
      refine SOps.val (v := sv l2) rfl (wantN rfl) (fun _ => by kernel_rfl) ?_
      refine SOps.val (v := .int .i64 (l2.len : Int)) rfl (wantN rfl) (fun _ => by kernel_rfl) ?_
      refine SOps.val (v := .int .i64 0) rfl (wantN rfl) (fun _ => by kernel_rfl) ?_
      refine SOps.nil ?_
      refine SW.block ?_
      refine SW.loop (fun k1 fr H => ∃ (g : Fr) (p10 : Option (Nat × Nat)) (x11 : Int) (s12 : ByteArray) (l13 : Sl) (x14 : Int) (x15 : Int), fr = g.upds [(5, pv p10), (6, (.int .i64 x11 : Value)), (7, (.string s12 : Value)), (27, sv l13), (28, (.int .i64 x14 : Value)), (29, (.int .i64 x15 : Value))] ∧ ladinglaw14_DiskFuses.l1 F K k1 p10 x11 s12 l13 x14 x15 H) F ⟨_, p7, (w64 x1).tmod 50, ByteArray.empty, l2, (l2.len : Int), 0, (Fr.upds_self _ _ ⟨rfl, rfl, rfl, rfl, rfl, rfl, trivial⟩), h⟩ ?_
      clear h
      rintro k1 fr H ⟨g, p10, x11, s12, l13, x14, x15, rfl, h⟩
      cases k1 with
      | zero => exact h.elim
      | succ k1 =>
        replace h : ladinglaw14_DiskFuses.r1 F K (ladinglaw14_DiskFuses.l1 F K k1) p10 x11 s12 l13 x14 x15 H := h
        unfold ladinglaw14_DiskFuses.r1 at h
        refine SW.seq ?_
        refine SW.region ?_
        refine SOps.val (v := .bool (decide (x15 < x14))) rfl (wantN rfl) (fun _ => by kernel_rfl) ?_
        refine SOps.nil ?_
        refine SW.seq ?_
        by_cases c16 : x15 < x14
        · replace h := h.1 c16
          have dc16 : (decide (x15 < x14)) = true := (decide_eq_true c16)
          refine SW.cond_t (t := decide (x15 < x14)) rfl dc16 ?_
          refine SW.skip ?_
          refine SW.seq ?_
          refine SW.block ?_
          refine SW.seq ?_
          refine SW.region ?_
          obtain ⟨p17, c18, c19, c20, h⟩ := h
          refine SOps.val (v := pv (some (p17.1, (p17.2 + x15.toNat * 1)))) rfl (wantN rfl) (fun w => ev_iaddr rfl Tryd.underlying22 (size := 1) (by kernel_rfl) rfl rfl c18 c19 c20 w) ?_
          obtain ⟨q21, c22, h⟩ := h
          refine SOps.rd (v := .bool q21) rfl (wantN rfl) (fun w hw => ev_load1 rfl (fun _ => by kernel_rfl) (p := (p17.1, (p17.2 + x15.toNat * 1))) rfl c22 w hw) ?_
          refine SOps.val (v := .bool q21) rfl (wantN rfl) (fun _ => by kernel_rfl) ?_
          refine SOps.nil ?_
          refine SW.seq ?_
          refine SW.region ?_
          refine SOps.val (v := errV none) rfl (wantN rfl) (fun _ => by kernel_rfl) ?_
          refine SOps.nil ?_
          refine SW.seqJ (fun fr H => ∃ (g : Fr) (p26 : Option (Nat × Nat)) (x27 : Int) (s28 : ByteArray) (q29 : Bool) (e30 : Option EV) (l31 : Sl) (x32 : Int) (x33 : Int), fr = g.upds [(5, pv p26), (6, (.int .i64 x27 : Value)), (7, (.string s28 : Value)), (9, (.bool q29 : Value)), (10, errV e30), (27, sv l31), (28, (.int .i64 x32 : Value)), (29, (.int .i64 x33 : Value))] ∧ ladinglaw14_DiskFuses.j1 F K (ladinglaw14_DiskFuses.l1 F K k1) p26 x27 s28 q29 e30 l31 x32 x33 H) ?_ ?_
          · clear h
            rintro fr H ⟨g, p26, x27, s28, q29, e30, l31, x32, x33, rfl, h⟩
            unfold ladinglaw14_DiskFuses.j1 at h
            refine SW.seqJ (fun fr H => ∃ (g : Fr) (p38 : Option (Nat × Nat)) (x39 : Int) (s40 : ByteArray) (q41 : Bool) (e42 : Option EV) (l43 : Sl) (x44 : Int) (x45 : Int), fr = g.upds [(5, pv p38), (6, (.int .i64 x39 : Value)), (7, (.string s40 : Value)), (9, (.bool q41 : Value)), (10, errV e42), (27, sv l43), (28, (.int .i64 x44 : Value)), (29, (.int .i64 x45 : Value))] ∧ ladinglaw14_DiskFuses.j2 F K (ladinglaw14_DiskFuses.l1 F K k1) p38 x39 s40 q41 e42 l43 x44 x45 H) ?_ ?_
            · clear h
              rintro fr H ⟨g, p38, x39, s40, q41, e42, l43, x44, x45, rfl, h⟩
              unfold ladinglaw14_DiskFuses.j2 at h
              refine SW.seqJ (fun fr H => ∃ (g : Fr) (p55 : Option (Nat × Nat)) (x56 : Int) (s57 : ByteArray) (l58 : Sl) (x59 : Int) (x60 : Int), fr = g.upds [(5, pv p55), (6, (.int .i64 x56 : Value)), (7, (.string s57 : Value)), (27, sv l58), (28, (.int .i64 x59 : Value)), (29, (.int .i64 x60 : Value))] ∧ ladinglaw14_DiskFuses.j3 F K (ladinglaw14_DiskFuses.l1 F K k1) p55 x56 s57 l58 x59 x60 H) ?_ ?_
              · clear h
                rintro fr H ⟨g, p55, x56, s57, l58, x59, x60, rfl, h⟩
                unfold ladinglaw14_DiskFuses.j3 at h
                refine SW.region ?_
                refine SOps.val (v := .int .i64 x56) rfl (wantN rfl) (fun _ => by kernel_rfl) ?_
                refine SOps.val (v := .int .i64 (w64 (x56 - 1))) rfl (wantN rfl) (fun _ => by kernel_rfl) ?_
                refine SOps.val (v := .int .i64 (w64 (x56 - 1))) rfl (wantN rfl) (fun _ => by kernel_rfl) ?_
                refine SOps.nil ?_
                refine SW.region ?_
                refine SOps.val (v := .int .i64 (w64 (x60 + 1))) rfl (wantN rfl) (fun _ => by kernel_rfl) ?_
                refine SOps.val (v := .int .i64 (w64 (x60 + 1))) rfl (wantN rfl) (fun _ => by kernel_rfl) ?_
                refine SOps.nil ?_
                exact ⟨k1, Nat.lt_succ_self k1, _, p55, w64 (x56 - 1), s57, l58, x59, w64 (x60 + 1), (Fr.upds_self _ _ ⟨rfl, rfl, rfl, rfl, rfl, rfl, trivial⟩), h⟩
              · skip
                refine SW.seq ?_
                refine SW.region ?_
                refine SOps.val (v := errV e42) rfl (wantN rfl) (fun _ => by kernel_rfl) ?_
                rcases e42 with _ | v53
                · replace h := h.1 rfl
                  refine SOps.val (v := .bool true) rfl (wantN rfl) (fun w => ev_errEq (e := none) rfl Tryd.underlying28 rfl rfl w) ?_
                  refine SOps.val (v := .bool true) rfl (wantN rfl) (fun _ => by kernel_rfl) ?_
                  refine SOps.val (v := .bool q41) rfl (wantY (c := true) rfl rfl rfl rfl) (fun _ => by kernel_rfl) ?_
                  refine SOps.val (v := .bool (!q41)) rfl (wantY (c := true) rfl rfl rfl rfl) (fun _ => by kernel_rfl) ?_
                  refine SOps.val (v := .bool (!q41)) rfl (wantN rfl) (fun w => ev_pickT (v := .bool (!q41)) rfl (t := true) rfl rfl rfl w) ?_
                  refine SOps.nil ?_
                  by_cases c54 : q41 = true
                  · replace h := h.1 c54
                    have dc54 : q41 = true := c54
                    refine SW.cond_f (t := !q41) rfl (not_t dc54) ?_
                    refine SW.skip ?_
                    exact ⟨_, p38, x39, s40, l43, x44, x45, Fr.upds_self _ _ ⟨rfl, rfl, rfl, rfl, rfl, rfl, trivial⟩, h⟩
                  · replace h := h.2 c54
                    have dc54 : q41 = false := (Bool.eq_false_iff.mpr c54)
                    refine SW.cond_t (t := !q41) rfl (not_f dc54) ?_
                    refine SW.region ?_
                    refine SOps.val (v := .string s40) rfl (wantN rfl) (fun _ => by kernel_rfl) ?_
                    obtain ⟨c61, h⟩ := h
                    refine SOps.val (v := .string (s40 ++ (⟨#[120]⟩ : ByteArray))) rfl (wantN rfl) (fun w => ev_cat rfl rfl rfl c61 w) ?_
                    refine SOps.val (v := .string (s40 ++ (⟨#[120]⟩ : ByteArray))) rfl (wantN rfl) (fun _ => by kernel_rfl) ?_
                    refine SOps.nil ?_
                    exact ⟨_, p38, x39, s40 ++ (⟨#[120]⟩ : ByteArray), l43, x44, x45, Fr.upds_self _ _ ⟨rfl, rfl, rfl, rfl, rfl, rfl, trivial⟩, h⟩
                · replace h := h.2 v53 rfl
                  refine SOps.val (v := .bool false) rfl (wantN rfl) (fun w => ev_errEq (e := some v53) rfl Tryd.underlying28 rfl rfl w) ?_
                  refine SOps.val (v := .bool false) rfl (wantN rfl) (fun _ => by kernel_rfl) ?_
                  refine SOps.off rfl (wantX (c := false) rfl rfl rfl rfl) ?_
                  refine SOps.off rfl (wantX (c := false) rfl rfl rfl rfl) ?_
                  refine SOps.val (v := .bool false) rfl (wantN rfl) (fun w => ev_pickF (v := .bool false) rfl (t := false) rfl rfl rfl w) ?_
                  refine SOps.nil ?_
                  refine SW.cond_f (t := false) rfl rfl ?_
                  refine SW.skip ?_
                  exact ⟨_, p38, x39, s40, l43, x44, x45, Fr.upds_self _ _ ⟨rfl, rfl, rfl, rfl, rfl, rfl, trivial⟩, h⟩
            · skip
              refine SW.seq ?_
              refine SW.region ?_
              refine SOps.val (v := errV e30) rfl (wantN rfl) (fun _ => by kernel_rfl) ?_
              rcases e30 with _ | v36
              · replace h := h.1 rfl
                refine SOps.val (v := .bool true) rfl (wantN rfl) (fun w => ev_errEq (e := none) rfl Tryd.underlying28 rfl rfl w) ?_
                refine SOps.val (v := .int .i64 x27) rfl (wantN rfl) (fun _ => by kernel_rfl) ?_
                refine SOps.val (v := .bool (decide (x27 > 0))) rfl (wantN rfl) (fun _ => by kernel_rfl) ?_
                refine SOps.val (v := .bool (true != (decide (x27 > 0)))) rfl (wantN rfl) (fun _ => by kernel_rfl) ?_
                refine SOps.val (v := .bool (true != (decide (x27 > 0)))) rfl (wantN rfl) (fun _ => by kernel_rfl) ?_
                by_cases c37 : true ≠ (decide (x27 > 0))
                · replace h := h.1 c37
                  have dc37 : (true != (decide (x27 > 0))) = true := (bne_iff_ne.mpr c37)
                  refine SOps.off rfl (wantX (c := (true != (decide (x27 > 0)))) rfl rfl rfl dc37) ?_
                  refine SOps.off rfl (wantX (c := (true != (decide (x27 > 0)))) rfl rfl rfl dc37) ?_
                  refine SOps.off rfl (wantX (c := (true != (decide (x27 > 0)))) rfl rfl rfl dc37) ?_
                  refine SOps.off rfl (wantU rfl rfl rfl) ?_
                  refine SOps.off rfl (wantU rfl rfl rfl) ?_
                  refine SOps.off rfl (wantU rfl rfl rfl) ?_
                  refine SOps.off rfl (wantU rfl rfl rfl) ?_
                  refine SOps.off rfl (wantU rfl rfl rfl) ?_
                  refine SOps.off rfl (wantU rfl rfl rfl) ?_
                  refine SOps.off rfl (wantU rfl rfl rfl) ?_
                  refine SOps.off rfl (wantU rfl rfl rfl) ?_
                  refine SOps.off rfl (wantX (c := (true != (decide (x27 > 0)))) rfl rfl rfl dc37) ?_
                  refine SOps.val (v := .bool true) rfl (wantN rfl) (fun w => ev_pickT (v := .bool true) rfl (t := (true != (decide (x27 > 0)))) rfl dc37 rfl w) ?_
                  refine SOps.nil ?_
                  refine SW.cond_t (t := true) rfl rfl ?_
                  refine SW.seq ?_
                  refine SW.region ?_
                  refine SOps.val (v := .bool false) rfl (wantN rfl) (fun _ => by kernel_rfl) ?_
                  refine SOps.nil ?_
                  obtain ⟨Hr, hr, h⟩ := h
                  exact SW.ret (retQ.mk (.bool false) (res1 rfl rfl) hr ⟨false, rfl, h⟩)
                · replace h := h.2 c37
                  have dc37 : (true != (decide (x27 > 0))) = false := (by simpa using c37)
                  refine SOps.val (v := errV none) rfl (wantY (c := (true != (decide (x27 > 0)))) rfl rfl rfl dc37) (fun _ => by kernel_rfl) ?_
                  refine SOps.val (v := .bool false) rfl (wantY (c := (true != (decide (x27 > 0)))) rfl rfl rfl dc37) (fun w => ev_errNe (e := none) rfl Tryd.underlying28 rfl rfl w) ?_
                  refine SOps.val (v := .bool false) rfl (wantY (c := (true != (decide (x27 > 0)))) rfl rfl rfl dc37) (fun _ => by kernel_rfl) ?_
                  refine SOps.off rfl (wantX (c := false) rfl rfl rfl rfl) ?_
                  refine SOps.off rfl (wantX (c := false) rfl rfl rfl rfl) ?_
                  refine SOps.off rfl (wantX (c := false) rfl rfl rfl rfl) ?_
                  refine SOps.off rfl (wantX (c := false) rfl rfl rfl rfl) ?_
                  refine SOps.off rfl (wantU rfl rfl rfl) ?_
                  refine SOps.off rfl (wantU rfl rfl rfl) ?_
                  refine SOps.off rfl (wantU rfl rfl rfl) ?_
                  refine SOps.off rfl (wantX (c := false) rfl rfl rfl rfl) ?_
                  refine SOps.val (v := .bool false) rfl (wantY (c := (true != (decide (x27 > 0)))) rfl rfl rfl dc37) (fun w => ev_pickF (v := .bool false) rfl (t := false) rfl rfl rfl w) ?_
                  refine SOps.val (v := .bool false) rfl (wantN rfl) (fun w => ev_pickF (v := .bool false) rfl (t := (true != (decide (x27 > 0)))) rfl dc37 rfl w) ?_
                  refine SOps.nil ?_
                  refine SW.cond_f (t := false) rfl rfl ?_
                  refine SW.skip ?_
                  exact ⟨_, p26, x27, s28, q29, none, l31, x32, x33, Fr.upds_self _ _ ⟨rfl, rfl, rfl, rfl, rfl, rfl, rfl, rfl, trivial⟩, h⟩
              · replace h := h.2 v36 rfl
                refine SOps.val (v := .bool false) rfl (wantN rfl) (fun w => ev_errEq (e := some v36) rfl Tryd.underlying28 rfl rfl w) ?_
                refine SOps.val (v := .int .i64 x27) rfl (wantN rfl) (fun _ => by kernel_rfl) ?_
                refine SOps.val (v := .bool (decide (x27 > 0))) rfl (wantN rfl) (fun _ => by kernel_rfl) ?_
                refine SOps.val (v := .bool (false != (decide (x27 > 0)))) rfl (wantN rfl) (fun _ => by kernel_rfl) ?_
                refine SOps.val (v := .bool (false != (decide (x27 > 0)))) rfl (wantN rfl) (fun _ => by kernel_rfl) ?_
                by_cases c46 : false ≠ (decide (x27 > 0))
                · replace h := h.1 c46
                  have dc46 : (false != (decide (x27 > 0))) = true := (bne_iff_ne.mpr c46)
                  refine SOps.off rfl (wantX (c := (false != (decide (x27 > 0)))) rfl rfl rfl dc46) ?_
                  refine SOps.off rfl (wantX (c := (false != (decide (x27 > 0)))) rfl rfl rfl dc46) ?_
                  refine SOps.off rfl (wantX (c := (false != (decide (x27 > 0)))) rfl rfl rfl dc46) ?_
                  refine SOps.off rfl (wantU rfl rfl rfl) ?_
                  refine SOps.off rfl (wantU rfl rfl rfl) ?_
                  refine SOps.off rfl (wantU rfl rfl rfl) ?_
                  refine SOps.off rfl (wantU rfl rfl rfl) ?_
                  refine SOps.off rfl (wantU rfl rfl rfl) ?_
                  refine SOps.off rfl (wantU rfl rfl rfl) ?_
                  refine SOps.off rfl (wantU rfl rfl rfl) ?_
                  refine SOps.off rfl (wantU rfl rfl rfl) ?_
                  refine SOps.off rfl (wantX (c := (false != (decide (x27 > 0)))) rfl rfl rfl dc46) ?_
                  refine SOps.val (v := .bool true) rfl (wantN rfl) (fun w => ev_pickT (v := .bool true) rfl (t := (false != (decide (x27 > 0)))) rfl dc46 rfl w) ?_
                  refine SOps.nil ?_
                  refine SW.cond_t (t := true) rfl rfl ?_
                  refine SW.seq ?_
                  refine SW.region ?_
                  refine SOps.val (v := .bool false) rfl (wantN rfl) (fun _ => by kernel_rfl) ?_
                  refine SOps.nil ?_
                  obtain ⟨Hr, hr, h⟩ := h
                  exact SW.ret (retQ.mk (.bool false) (res1 rfl rfl) hr ⟨false, rfl, h⟩)
                · replace h := h.2 c46
                  have dc46 : (false != (decide (x27 > 0))) = false := (by simpa using c46)
                  refine SOps.val (v := errV (some v36)) rfl (wantY (c := (false != (decide (x27 > 0)))) rfl rfl rfl dc46) (fun _ => by kernel_rfl) ?_
                  refine SOps.val (v := .bool true) rfl (wantY (c := (false != (decide (x27 > 0)))) rfl rfl rfl dc46) (fun w => ev_errNe (e := some v36) rfl Tryd.underlying28 rfl rfl w) ?_
                  refine SOps.val (v := .bool true) rfl (wantY (c := (false != (decide (x27 > 0)))) rfl rfl rfl dc46) (fun _ => by kernel_rfl) ?_
                  refine SOps.val (v := errV (some v36)) rfl (wantY (c := true) rfl rfl rfl rfl) (fun _ => by kernel_rfl) ?_
                  refine SOps.enter rfl (wantY (c := true) rfl rfl rfl rfl) (fun _ => by kernel_rfl) (api_Code.sound F (some v36) H _ h) ?_
                  clear h
                  rintro v H48 ⟨x47, rfl, h⟩
                  refine SOps.val (v := .bool (x47 != 8)) rfl (wantY (c := true) rfl rfl rfl rfl) (fun _ => by kernel_rfl) ?_
                  refine SOps.val (v := .bool (x47 != 8)) rfl (wantY (c := true) rfl rfl rfl rfl) (fun _ => by kernel_rfl) ?_
                  by_cases c49 : x47 ≠ 8
                  · replace h := h.1 c49
                    have dc49 : (x47 != 8) = true := (bne_iff_ne.mpr c49)
                    refine SOps.off rfl (wantX (c := (x47 != 8)) rfl rfl rfl dc49) ?_
                    refine SOps.off rfl (wantX (c := (x47 != 8)) rfl rfl rfl dc49) ?_
                    refine SOps.off rfl (wantX (c := (x47 != 8)) rfl rfl rfl dc49) ?_
                    refine SOps.val (v := .bool true) rfl (wantY (c := true) rfl rfl rfl rfl) (fun w => ev_pickT (v := .bool true) rfl (t := (x47 != 8)) rfl dc49 rfl w) ?_
                    refine SOps.val (v := .bool true) rfl (wantY (c := (false != (decide (x27 > 0)))) rfl rfl rfl dc46) (fun w => ev_pickT (v := .bool true) rfl (t := true) rfl rfl rfl w) ?_
                    refine SOps.val (v := .bool true) rfl (wantN rfl) (fun w => ev_pickF (v := .bool true) rfl (t := (false != (decide (x27 > 0)))) rfl dc46 rfl w) ?_
                    refine SOps.nil ?_
                    refine SW.cond_t (t := true) rfl rfl ?_
                    refine SW.seq ?_
                    refine SW.region ?_
                    refine SOps.val (v := .bool false) rfl (wantN rfl) (fun _ => by kernel_rfl) ?_
                    refine SOps.nil ?_
                    obtain ⟨Hr, hr, h⟩ := h
                    exact SW.ret (retQ.mk (.bool false) (res1 rfl rfl) hr ⟨false, rfl, h⟩)
                  · replace h := h.2 c49
                    have dc49 : (x47 != 8) = false := (by simpa using c49)
                    refine SOps.val (v := pv p26) rfl (wantY (c := (x47 != 8)) rfl rfl rfl dc49) (fun _ => by kernel_rfl) ?_
                    refine SOps.enter rfl (wantY (c := (x47 != 8)) rfl rfl rfl dc49) (fun _ => by kernel_rfl) (disk_Disk_Down.sound F p26 H48 _ h) ?_
                    clear h
                    rintro v H51 ⟨q50, rfl, h⟩
                    refine SOps.val (v := .bool (!q50)) rfl (wantY (c := (x47 != 8)) rfl rfl rfl dc49) (fun _ => by kernel_rfl) ?_
                    refine SOps.val (v := .bool (!q50)) rfl (wantY (c := true) rfl rfl rfl rfl) (fun w => ev_pickF (v := .bool (!q50)) rfl (t := (x47 != 8)) rfl dc49 rfl w) ?_
                    refine SOps.val (v := .bool (!q50)) rfl (wantY (c := (false != (decide (x27 > 0)))) rfl rfl rfl dc46) (fun w => ev_pickT (v := .bool (!q50)) rfl (t := true) rfl rfl rfl w) ?_
                    refine SOps.val (v := .bool (!q50)) rfl (wantN rfl) (fun w => ev_pickF (v := .bool (!q50)) rfl (t := (false != (decide (x27 > 0)))) rfl dc46 rfl w) ?_
                    refine SOps.nil ?_
                    by_cases c52 : q50 = true
                    · replace h := h.1 c52
                      have dc52 : q50 = true := c52
                      refine SW.cond_f (t := !q50) rfl (not_t dc52) ?_
                      refine SW.skip ?_
                      exact ⟨_, p26, x27, s28, q29, some v36, l31, x32, x33, Fr.upds_self _ _ ⟨rfl, rfl, rfl, rfl, rfl, rfl, rfl, rfl, trivial⟩, h⟩
                    · replace h := h.2 c52
                      have dc52 : q50 = false := (Bool.eq_false_iff.mpr c52)
                      refine SW.cond_t (t := !q50) rfl (not_f dc52) ?_
                      refine SW.seq ?_
                      refine SW.region ?_
                      refine SOps.val (v := .bool false) rfl (wantN rfl) (fun _ => by kernel_rfl) ?_
                      refine SOps.nil ?_
                      obtain ⟨Hr, hr, h⟩ := h
                      exact SW.ret (retQ.mk (.bool false) (res1 rfl rfl) hr ⟨false, rfl, h⟩)
          · skip
            refine SW.seq ?_
            refine SW.region ?_
            refine SOps.val (v := .bool q21) rfl (wantN rfl) (fun _ => by kernel_rfl) ?_
            refine SOps.nil ?_
            by_cases c23 : q21 = true
            · replace h := h.1 c23
              have dc23 : q21 = true := c23
              refine SW.cond_t (t := q21) rfl dc23 ?_
              refine SW.region ?_
              refine SOps.val (v := pv p10) rfl (wantN rfl) (fun _ => by kernel_rfl) ?_
              refine SOps.enter rfl (wantN rfl) (fun _ => by kernel_rfl) (disk_Disk_Sync.sound F p10 H _ h) ?_
              clear h
              rintro v H25 ⟨e24, rfl, h⟩
              refine SOps.val (v := errV e24) rfl (wantN rfl) (fun _ => by kernel_rfl) ?_
              refine SOps.nil ?_
              exact ⟨_, p10, x11, s12, q21, e24, l13, x14, x15, Fr.upds_self _ _ ⟨rfl, rfl, rfl, rfl, rfl, rfl, rfl, rfl, trivial⟩, h⟩
            · replace h := h.2 c23
              have dc23 : q21 = false := (Bool.eq_false_iff.mpr c23)
              refine SW.cond_f (t := q21) rfl dc23 ?_
              refine SW.region ?_
              refine SOps.val (v := pv p10) rfl (wantN rfl) (fun _ => by kernel_rfl) ?_
              refine SOps.enter rfl (wantN rfl) (fun _ => by kernel_rfl) (disk_Disk_Append.sound F p10 (⟨#[120]⟩ : ByteArray) H _ h) ?_
              clear h
              rintro v H35 ⟨e34, rfl, h⟩
              refine SOps.val (v := errV e34) rfl (wantN rfl) (fun _ => by kernel_rfl) ?_
              refine SOps.nil ?_
              exact ⟨_, p10, x11, s12, q21, e34, l13, x14, x15, Fr.upds_self _ _ ⟨rfl, rfl, rfl, rfl, rfl, rfl, rfl, rfl, trivial⟩, h⟩
        · replace h := h.2 c16
          have dc16 : (decide (x15 < x14)) = false := (decide_eq_false c16)
          refine SW.cond_f (t := decide (x15 < x14)) rfl dc16 ?_
          refine SW.exit ?_
          refine SW.seqJ (fun fr H => ∃ (g : Fr) (p70 : Option (Nat × Nat)), fr = g.upds [(5, pv p70)] ∧ ladinglaw14_DiskFuses.j4 F K p70 H) ?_ ?_
          · clear h
            rintro fr H ⟨g, p70, rfl, h⟩
            unfold ladinglaw14_DiskFuses.j4 at h
            refine SW.seq ?_
            refine SW.region ?_
            refine SOps.val (v := pv p70) rfl (wantN rfl) (fun _ => by kernel_rfl) ?_
            refine SOps.val (v := .agg #[sv Sl.nil, .int .i64 0]) rfl (wantN rfl) (fun _ => by kernel_rfl) ?_
            refine SOps.enter rfl (wantN rfl) (fun _ => by kernel_rfl) (disk_Disk_Crash.sound F p70 Sl.nil 0 H _ h) ?_
            clear h
            rintro v H71 ⟨rfl, h⟩
            refine SOps.nil ?_
            refine SW.seq ?_
            refine SW.region ?_
            refine SOps.val (v := pv p70) rfl (wantN rfl) (fun _ => by kernel_rfl) ?_
            refine SOps.enter rfl (wantN rfl) (fun _ => by kernel_rfl) (disk_Disk_Down.sound F p70 H71 _ h) ?_
            clear h
            rintro v H73 ⟨q72, rfl, h⟩
            refine SOps.val (v := .bool (!q72)) rfl (wantN rfl) (fun _ => by kernel_rfl) ?_
            refine SOps.val (v := .bool (!q72)) rfl (wantN rfl) (fun _ => by kernel_rfl) ?_
            by_cases c74 : q72 = true
            · replace h := h.1 c74
              have dc74 : q72 = true := c74
              refine SOps.off rfl (wantX (c := !q72) rfl rfl rfl (not_t dc74)) ?_
              refine SOps.off rfl (wantX (c := !q72) rfl rfl rfl (not_t dc74)) ?_
              refine SOps.off rfl (wantX (c := !q72) rfl rfl rfl (not_t dc74)) ?_
              refine SOps.val (v := .bool false) rfl (wantN rfl) (fun w => ev_pickF (v := .bool false) rfl (t := !q72) rfl (not_t dc74) rfl w) ?_
              refine SOps.val (v := .bool false) rfl (wantN rfl) (fun _ => by kernel_rfl) ?_
              refine SOps.nil ?_
              obtain ⟨Hr, hr, h⟩ := h
              exact SW.ret (retQ.mk (.bool false) (res1 rfl rfl) hr ⟨false, rfl, h⟩)
            · replace h := h.2 c74
              have dc74 : q72 = false := (Bool.eq_false_iff.mpr c74)
              refine SOps.val (v := pv p70) rfl (wantY (c := !q72) rfl rfl rfl (not_f dc74)) (fun _ => by kernel_rfl) ?_
              refine SOps.enter rfl (wantY (c := !q72) rfl rfl rfl (not_f dc74)) (fun _ => by kernel_rfl) (disk_Disk_Append.sound F p70 (⟨#[121]⟩ : ByteArray) H73 _ h) ?_
              clear h
              rintro v H76 ⟨e75, rfl, h⟩
              rcases e75 with _ | v77
              · replace h := h.1 rfl
                refine SOps.val (v := .bool true) rfl (wantY (c := !q72) rfl rfl rfl (not_f dc74)) (fun w => ev_errEq (e := none) rfl Tryd.underlying28 rfl rfl w) ?_
                refine SOps.val (v := .bool true) rfl (wantN rfl) (fun w => ev_pickT (v := .bool true) rfl (t := !q72) rfl (not_f dc74) rfl w) ?_
                refine SOps.val (v := .bool true) rfl (wantN rfl) (fun _ => by kernel_rfl) ?_
                refine SOps.nil ?_
                obtain ⟨Hr, hr, h⟩ := h
                exact SW.ret (retQ.mk (.bool true) (res1 rfl rfl) hr ⟨true, rfl, h⟩)
              · replace h := h.2 v77 rfl
                refine SOps.val (v := .bool false) rfl (wantY (c := !q72) rfl rfl rfl (not_f dc74)) (fun w => ev_errEq (e := some v77) rfl Tryd.underlying28 rfl rfl w) ?_
                refine SOps.val (v := .bool false) rfl (wantN rfl) (fun w => ev_pickT (v := .bool false) rfl (t := !q72) rfl (not_f dc74) rfl w) ?_
                refine SOps.val (v := .bool false) rfl (wantN rfl) (fun _ => by kernel_rfl) ?_
                refine SOps.nil ?_
                obtain ⟨Hr, hr, h⟩ := h
                exact SW.ret (retQ.mk (.bool false) (res1 rfl rfl) hr ⟨false, rfl, h⟩)
          · skip
            refine SW.seq ?_
            refine SW.region ?_
            refine SOps.val (v := pv p10) rfl (wantN rfl) (fun _ => by kernel_rfl) ?_
            refine SOps.enter rfl (wantN rfl) (fun _ => by kernel_rfl) (disk_Disk_Log.sound F p10 H _ h) ?_
            clear h
            rintro v H67 ⟨s65, e66, rfl, h⟩
            refine SOps.val (v := .tuple #[.string s65, errV e66]) rfl (wantN rfl) (fun _ => by kernel_rfl) ?_
            refine SOps.val (v := .string s65) rfl (wantN rfl) (fun _ => by kernel_rfl) ?_
            refine SOps.val (v := errV e66) rfl (wantN rfl) (fun _ => by kernel_rfl) ?_
            refine SOps.val (v := .string s65) rfl (wantN rfl) (fun _ => by kernel_rfl) ?_
            refine SOps.val (v := errV e66) rfl (wantN rfl) (fun _ => by kernel_rfl) ?_
            refine SOps.nil ?_
            refine SW.seq ?_
            refine SW.region ?_
            refine SOps.val (v := errV e66) rfl (wantN rfl) (fun _ => by kernel_rfl) ?_
            rcases e66 with _ | v68
            · replace h := h.1 rfl
              refine SOps.val (v := .bool true) rfl (wantN rfl) (fun w => ev_errEq (e := none) rfl Tryd.underlying28 rfl rfl w) ?_
              refine SOps.val (v := .bool true) rfl (wantN rfl) (fun _ => by kernel_rfl) ?_
              refine SOps.val (v := .string s65) rfl (wantY (c := true) rfl rfl rfl rfl) (fun _ => by kernel_rfl) ?_
              refine SOps.val (v := .string s12) rfl (wantY (c := true) rfl rfl rfl rfl) (fun _ => by kernel_rfl) ?_
              refine SOps.val (v := .bool (!decide (s65 = s12))) rfl (wantY (c := true) rfl rfl rfl rfl) (fun w => ev_neS rfl rfl rfl w) ?_
              refine SOps.val (v := .bool (!decide (s65 = s12))) rfl (wantN rfl) (fun w => ev_pickT (v := .bool (!decide (s65 = s12))) rfl (t := true) rfl rfl rfl w) ?_
              refine SOps.nil ?_
              by_cases c69 : (s65 = s12)
              · replace h := h.1 c69
                have dc69 : (decide (s65 = s12)) = true := (decide_eq_true c69)
                refine SW.cond_f (t := !decide (s65 = s12)) rfl (not_t dc69) ?_
                refine SW.skip ?_
                exact ⟨_, p10, Fr.upds_self _ _ ⟨rfl, trivial⟩, h⟩
              · replace h := h.2 c69
                have dc69 : (decide (s65 = s12)) = false := (decide_eq_false c69)
                refine SW.cond_t (t := !decide (s65 = s12)) rfl (not_f dc69) ?_
                refine SW.seq ?_
                refine SW.region ?_
                refine SOps.val (v := .bool false) rfl (wantN rfl) (fun _ => by kernel_rfl) ?_
                refine SOps.nil ?_
                obtain ⟨Hr, hr, h⟩ := h
                exact SW.ret (retQ.mk (.bool false) (res1 rfl rfl) hr ⟨false, rfl, h⟩)
            · replace h := h.2 v68 rfl
              refine SOps.val (v := .bool false) rfl (wantN rfl) (fun w => ev_errEq (e := some v68) rfl Tryd.underlying28 rfl rfl w) ?_
              refine SOps.val (v := .bool false) rfl (wantN rfl) (fun _ => by kernel_rfl) ?_
              refine SOps.off rfl (wantX (c := false) rfl rfl rfl rfl) ?_
              refine SOps.off rfl (wantX (c := false) rfl rfl rfl rfl) ?_
              refine SOps.off rfl (wantX (c := false) rfl rfl rfl rfl) ?_
              refine SOps.val (v := .bool false) rfl (wantN rfl) (fun w => ev_pickF (v := .bool false) rfl (t := false) rfl rfl rfl w) ?_
              refine SOps.nil ?_
              refine SW.cond_f (t := false) rfl rfl ?_
              refine SW.skip ?_
              exact ⟨_, p10, Fr.upds_self _ _ ⟨rfl, trivial⟩, h⟩
  · replace h := h.2 c5
    have dc5 : q3 = false := (Bool.eq_false_iff.mpr c5)
    refine SW.cond_t (t := !q3) rfl (not_f dc5) ?_
    refine SW.seq ?_
    refine SW.region ?_
    refine SOps.val (v := .bool false) rfl (wantN rfl) (fun _ => by kernel_rfl) ?_
    refine SOps.nil ?_
    obtain ⟨Hr, hr, h⟩ := h
    exact SW.ret (retQ.mk (.bool false) (res1 rfl rfl) hr ⟨false, rfl, h⟩)

end Go.Proofs.YtknhlipealekoaaDoor.K
