import Derived.Test.YtknhlipealekoaaDoorGjournal
import Derived.Test.YtknhlipealekoaaDoorGdiskW
set_option linter.unusedVariables false
set_option linter.unusedSimpArgs false
set_option maxRecDepth 100000
namespace Go.Proofs.YtknhlipealekoaaDoor.K
open Go
attribute [local irreducible] SW SOps SQ SCalls retQ

/-! ### (*lading/journal.Journal).Put: function 30 -/
def journal_Journal_Put__w1.r1 (F : Nat) (K : Option EV → SH → Prop) (R1 : Nat → Nat → SlW → ByteArray → SlW → Int → Int → SH → Prop) (b5 : Nat) (o6 : Nat) (l7 : SlW) (s8 : ByteArray) (l9 : SlW) (x10 : Int) (x11 : Int) (H : SH) : Prop :=
  (x11 < x10 →
    ∃ p13, l9.a = some (ad p13) ∧ 0 ≤ x11 ∧ x11 < (l9.len : Int) ∧
    ∃ (s17 : ByteArray),
    SH.has H (p13.1, (p13.2 + x11.toNat * 1)) (.string s17) ∧
    frame_Seal.wp F s17 H (fun s19 e20 H21 =>
      (e20 = none →
        s8.size + s19.size ≤ 9223372036854775807 ∧
        R1 b5 o6 l7 (s8 ++ s19) l9 x10 (w64 (x11 + 1)) H21
      ) ∧ (∀ v22, e20 = some v22 →
        ∃ Hr, SH.le Hr H21 ∧ K (some v22) Hr
      )
    )
  ) ∧ (¬ (x11 < x10) →
    ∃ (p24 : Option (Nat × Nat)),
    SH.has H (b5, o6) (pv p24) ∧
    disk_Disk_Append.wp F p24 s8 H (fun e26 H27 =>
      (e26 = none →
        ∃ (l29 : Sl),
        SH.has H27 (b5, (o6 + 1)) (sv l29) ∧
        ∃ w37, SH.rowW H27 l7.a w37 ∧
        AppendQ H27 9 1 16 l29 l7.len w37 (fun l31 H32 =>
          SH.wrs H32 (b5, (o6 + 1)) 1 ∧
          ∃ (x34 : Int),
          SH.has (SH.setl H32 (b5, (o6 + 1)) [sv l31]) (b5, (o6 + 2)) (.int .i64 x34) ∧
          SH.wrs (SH.setl H32 (b5, (o6 + 1)) [sv l31]) (b5, (o6 + 2)) 1 ∧
          ∃ Hr, SH.le Hr (SH.setl (SH.setl H32 (b5, (o6 + 1)) [sv l31]) (b5, (o6 + 2)) [.int .i64 (w64 (x34 + (s8.size : Int)))]) ∧ K none Hr
        )
      ) ∧ (∀ v28, e26 = some v28 →
        ∃ Hr, SH.le Hr H27 ∧ K (some v28) Hr
      )
    )
  )
def journal_Journal_Put__w1.l1 (F : Nat) (K : Option EV → SH → Prop) : Nat → Nat → Nat → SlW → ByteArray → SlW → Int → Int → SH → Prop
  | 0, _, _, _, _, _, _, _, _ => False
  | k + 1, b5, o6, l7, s8, l9, x10, x11, H => journal_Journal_Put__w1.r1 F K (journal_Journal_Put__w1.l1 F K k) b5 o6 l7 s8 l9 x10 x11 H
def journal_Journal_Put__w1.wp (F : Nat) (p1 : Option (Nat × Nat)) (l2 : SlW) (H : SH) (K : Option EV → SH → Prop) : Prop :=
  (p1 = none →
    ∃ Hr, SH.le Hr H ∧ K (some (EV.no 1)) Hr
  ) ∧ (∀ b3 o4, p1 = some (b3, o4) →
    journal_Journal_Put__w1.l1 F K F b3 o4 l2 ByteArray.empty l2 (l2.len : Int) 0 H
  )
set_option maxHeartbeats 8000000 in
theorem journal_Journal_Put__w1.sound (F : Nat) (p1 : Option (Nat × Nat)) (l2 : SlW) (H : SH) (K : Option EV → SH → Prop) (h : journal_Journal_Put__w1.wp F p1 l2 H K) : SCalls Tryd.prog 30 #[pv p1, swv l2] H (fun v H' => ∃ (e42 : Option EV), v = errV e42 ∧ K e42 H') := by
  unfold journal_Journal_Put__w1.wp at h
  refine SCalls.body Tryd.func30 rfl (Nat.le_of_ble_eq_true rfl) ?_
  refine SW.seq ?_
  refine SW.region ?_
  refine SOps.val (v := errV none) rfl (wantN rfl) (fun _ => by kernel_rfl) ?_
  refine SOps.nil ?_
  refine SW.seq ?_
  refine SW.seq ?_
  refine SW.region ?_
  refine SOps.val (v := pv p1) rfl (wantN rfl) (fun _ => by kernel_rfl) ?_
  rcases p1 with _ | ⟨b3, o4⟩
  · replace h := h.1 rfl
    refine SOps.val (v := .bool true) rfl (wantN rfl) (fun _ => by kernel_rfl) ?_
    refine SOps.nil ?_
    refine SW.cond_t (t := true) rfl rfl ?_
    refine SW.seq ?_
    refine SW.region ?_
    refine SOps.val (v := errV (some (EV.no 1))) rfl (wantN rfl) (fun _ => by kernel_rfl) ?_
    refine SOps.val (v := errV (some (EV.no 1))) rfl (wantN rfl) (fun _ => by kernel_rfl) ?_
    refine SOps.nil ?_
    obtain ⟨Hr, hr, h⟩ := h
    exact SW.ret (retQ.mk (errV (some (EV.no 1))) (res1 rfl rfl) hr ⟨some (EV.no 1), rfl, h⟩)
  · replace h := h.2 b3 o4 rfl
    refine SOps.val (v := .bool false) rfl (wantN rfl) (fun _ => by kernel_rfl) ?_
    refine SOps.nil ?_
    refine SW.cond_f (t := false) rfl rfl ?_
    refine SW.skip ?_
    refine SW.seq ?_
    refine SW.region ?_
    refine SOps.val (v := .string ByteArray.empty) rfl (wantN rfl) (fun _ => by kernel_rfl) ?_
    refine SOps.nil ?_
    refine SW.seq ?_
    refine SW.seq ?_
    refine SW.region ?_
    refine SOps.val (v := swv l2) rfl (wantN rfl) (fun _ => by kernel_rfl) ?_
    refine SOps.val (v := .int .i64 (l2.len : Int)) rfl (wantN rfl) (fun _ => by kernel_rfl) ?_
    refine SOps.val (v := .int .i64 0) rfl (wantN rfl) (fun _ => by kernel_rfl) ?_
    refine SOps.nil ?_
    refine SW.block ?_
    refine SW.loop (fun k1 fr H => ∃ (g : Fr) (b5 : Nat) (o6 : Nat) (l7 : SlW) (s8 : ByteArray) (l9 : SlW) (x10 : Int) (x11 : Int), fr = g.upds [(0, pv (some (b5, o6))), (1, swv l7), (5, (.string s8 : Value)), (14, swv l9), (15, (.int .i64 x10 : Value)), (16, (.int .i64 x11 : Value))] ∧ journal_Journal_Put__w1.l1 F K k1 b5 o6 l7 s8 l9 x10 x11 H) F ⟨_, b3, o4, l2, ByteArray.empty, l2, (l2.len : Int), 0, (Fr.upds_self _ _ ⟨rfl, rfl, rfl, rfl, rfl, rfl, trivial⟩), h⟩ ?_
    clear h
    rintro k1 fr H ⟨g, b5, o6, l7, s8, l9, x10, x11, rfl, h⟩
    cases k1 with
    | zero => exact h.elim
    | succ k1 =>
      replace h : journal_Journal_Put__w1.r1 F K (journal_Journal_Put__w1.l1 F K k1) b5 o6 l7 s8 l9 x10 x11 H := h
      unfold journal_Journal_Put__w1.r1 at h
      refine SW.seq ?_
      refine SW.region ?_
      refine SOps.val (v := .bool (decide (x11 < x10))) rfl (wantN rfl) (fun _ => by kernel_rfl) ?_
      refine SOps.nil ?_
      refine SW.seq ?_
      by_cases c12 : x11 < x10
      · replace h := h.1 c12
        have dc12 : (decide (x11 < x10)) = true := (decide_eq_true c12)
        refine SW.cond_t (t := decide (x11 < x10)) rfl dc12 ?_
        refine SW.skip ?_
        refine SW.seq ?_
        refine SW.block ?_
        refine SW.seq ?_
        refine SW.region ?_
        obtain ⟨p13, c14, c15, c16, h⟩ := h
        refine SOps.val (v := pv (some (p13.1, (p13.2 + x11.toNat * 1)))) rfl (wantN rfl) (fun w => ev_iaddrW rfl Tryd.underlying55 (size := 1) (by kernel_rfl) rfl rfl c14 c15 c16 w) ?_
        obtain ⟨s17, c18, h⟩ := h
        refine SOps.rd (v := .string s17) rfl (wantN rfl) (fun w hw => ev_load1 rfl (fun _ => by kernel_rfl) (p := (p13.1, (p13.2 + x11.toNat * 1))) rfl c18 w hw) ?_
        refine SOps.val (v := .string s17) rfl (wantN rfl) (fun _ => by kernel_rfl) ?_
        refine SOps.nil ?_
        refine SW.seq ?_
        refine SW.region ?_
        refine SOps.val (v := .string s17) rfl (wantN rfl) (fun _ => by kernel_rfl) ?_
        refine SOps.enter rfl (wantN rfl) (fun _ => by kernel_rfl) (frame_Seal.sound F s17 H _ h) ?_
        clear h
        rintro v H21 ⟨s19, e20, rfl, h⟩
        refine SOps.val (v := .tuple #[.string s19, errV e20]) rfl (wantN rfl) (fun _ => by kernel_rfl) ?_
        refine SOps.val (v := .string s19) rfl (wantN rfl) (fun _ => by kernel_rfl) ?_
        refine SOps.val (v := errV e20) rfl (wantN rfl) (fun _ => by kernel_rfl) ?_
        refine SOps.val (v := .string s19) rfl (wantN rfl) (fun _ => by kernel_rfl) ?_
        refine SOps.val (v := errV e20) rfl (wantN rfl) (fun _ => by kernel_rfl) ?_
        refine SOps.nil ?_
        refine SW.seq ?_
        refine SW.seq ?_
        refine SW.region ?_
        refine SOps.val (v := errV e20) rfl (wantN rfl) (fun _ => by kernel_rfl) ?_
        rcases e20 with _ | v22
        · replace h := h.1 rfl
          refine SOps.val (v := .bool false) rfl (wantN rfl) (fun w => ev_errNe (e := none) rfl Tryd.underlying28 rfl rfl w) ?_
          refine SOps.nil ?_
          refine SW.cond_f (t := false) rfl rfl ?_
          refine SW.skip ?_
          refine SW.region ?_
          refine SOps.val (v := .string s8) rfl (wantN rfl) (fun _ => by kernel_rfl) ?_
          refine SOps.val (v := .string s19) rfl (wantN rfl) (fun _ => by kernel_rfl) ?_
          obtain ⟨c23, h⟩ := h
          refine SOps.val (v := .string (s8 ++ s19)) rfl (wantN rfl) (fun w => ev_cat rfl rfl rfl c23 w) ?_
          refine SOps.val (v := .string (s8 ++ s19)) rfl (wantN rfl) (fun _ => by kernel_rfl) ?_
          refine SOps.nil ?_
          refine SW.region ?_
          refine SOps.val (v := .int .i64 (w64 (x11 + 1))) rfl (wantN rfl) (fun _ => by kernel_rfl) ?_
          refine SOps.val (v := .int .i64 (w64 (x11 + 1))) rfl (wantN rfl) (fun _ => by kernel_rfl) ?_
          refine SOps.nil ?_
          exact ⟨k1, Nat.lt_succ_self k1, _, b5, o6, l7, s8 ++ s19, l9, x10, w64 (x11 + 1), (Fr.upds_self _ _ ⟨rfl, rfl, rfl, rfl, rfl, rfl, trivial⟩), h⟩
        · replace h := h.2 v22 rfl
          refine SOps.val (v := .bool true) rfl (wantN rfl) (fun w => ev_errNe (e := some v22) rfl Tryd.underlying28 rfl rfl w) ?_
          refine SOps.nil ?_
          refine SW.cond_t (t := true) rfl rfl ?_
          refine SW.seq ?_
          refine SW.region ?_
          refine SOps.val (v := errV (some v22)) rfl (wantN rfl) (fun _ => by kernel_rfl) ?_
          refine SOps.val (v := errV (some v22)) rfl (wantN rfl) (fun _ => by kernel_rfl) ?_
          refine SOps.nil ?_
          obtain ⟨Hr, hr, h⟩ := h
          exact SW.ret (retQ.mk (errV (some v22)) (res1 rfl rfl) hr ⟨some v22, rfl, h⟩)
      · replace h := h.2 c12
        have dc12 : (decide (x11 < x10)) = false := (decide_eq_false c12)
        refine SW.cond_f (t := decide (x11 < x10)) rfl dc12 ?_
        refine SW.exit ?_
        refine SW.seq ?_
        refine SW.seq ?_
        refine SW.region ?_
        refine SOps.val (v := pv (some (b5, o6))) rfl (wantN rfl) (fun _ => by kernel_rfl) ?_
        refine SOps.val (v := pv (some (b5, o6))) rfl (wantN rfl) (fun _ => by kernel_rfl) ?_
        refine SOps.val (v := pv (some (b5, o6))) rfl (wantN rfl) (fun _ => by kernel_rfl) ?_
        obtain ⟨p24, c25, h⟩ := h
        refine SOps.rd (v := pv p24) rfl (wantN rfl) (fun w hw => ev_load1 rfl (fun _ => by kernel_rfl) (p := (b5, o6)) rfl c25 w hw) ?_
        refine SOps.val (v := .string s8) rfl (wantN rfl) (fun _ => by kernel_rfl) ?_
        refine SOps.enter rfl (wantN rfl) (fun _ => by kernel_rfl) (disk_Disk_Append.sound F p24 s8 H _ h) ?_
        clear h
        rintro v H27 ⟨e26, rfl, h⟩
        refine SOps.val (v := errV e26) rfl (wantN rfl) (fun _ => by kernel_rfl) ?_
        refine SOps.nil ?_
        refine SW.seq ?_
        refine SW.region ?_
        refine SOps.val (v := errV e26) rfl (wantN rfl) (fun _ => by kernel_rfl) ?_
        rcases e26 with _ | v28
        · replace h := h.1 rfl
          refine SOps.val (v := .bool false) rfl (wantN rfl) (fun w => ev_errNe (e := none) rfl Tryd.underlying28 rfl rfl w) ?_
          refine SOps.nil ?_
          refine SW.cond_f (t := false) rfl rfl ?_
          refine SW.skip ?_
          refine SW.seq ?_
          refine SW.region ?_
          refine SOps.val (v := pv (some (b5, o6))) rfl (wantN rfl) (fun _ => by kernel_rfl) ?_
          refine SOps.val (v := pv (some (b5, o6))) rfl (wantN rfl) (fun _ => by kernel_rfl) ?_
          refine SOps.val (v := pv (some (b5, o6))) rfl (wantN rfl) (fun _ => by kernel_rfl) ?_
          refine SOps.val (v := pv (some (b5, (o6 + 1)))) rfl (wantN rfl) (fun _ => by kernel_rfl) ?_
          obtain ⟨l29, c30, h⟩ := h
          refine SOps.rd (v := sv l29) rfl (wantN rfl) (fun w hw => ev_load1 rfl (fun _ => by kernel_rfl) (p := (b5, (o6 + 1))) rfl c30 w hw) ?_
          refine SOps.val (v := swv l7) rfl (wantN rfl) (fun _ => by kernel_rfl) ?_
          obtain ⟨w37, c38, h⟩ := h
          refine SOps.appendG (z := .string ByteArray.empty) (size := 1) (bytes := 16) rfl rfl (wantN rfl) Tryd.underlying55 (by kernel_rfl) rfl rfl rfl (ReadsG.wide ⟨_, Tryd.underlying55⟩ rfl c38) (AppendQ.mono h ?_)
          clear h
          intro l31 H32 h
          refine SOps.val (v := pv (some (b5, o6))) rfl (wantN rfl) (fun _ => by kernel_rfl) ?_
          refine SOps.val (v := pv (some (b5, (o6 + 1)))) rfl (wantN rfl) (fun _ => by kernel_rfl) ?_
          obtain ⟨c33, h⟩ := h
          refine SOps.storeL (p := (b5, (o6 + 1))) (v := sv l31) (cs := [sv l31]) rfl rfl (wantN rfl) (size := 1) (by kernel_rfl) rfl rfl rfl rfl (by simp [Value.oneCell', errV_one, pv, sv]) c33 ?_
          refine SOps.nil ?_
          refine SW.seq ?_
          refine SW.region ?_
          refine SOps.val (v := pv (some (b5, o6))) rfl (wantN rfl) (fun _ => by kernel_rfl) ?_
          refine SOps.val (v := pv (some (b5, o6))) rfl (wantN rfl) (fun _ => by kernel_rfl) ?_
          refine SOps.val (v := pv (some (b5, (o6 + 2)))) rfl (wantN rfl) (fun _ => by kernel_rfl) ?_
          obtain ⟨x34, c35, h⟩ := h
          refine SOps.rd (v := .int .i64 x34) rfl (wantN rfl) (fun w hw => ev_load1 rfl (fun _ => by kernel_rfl) (p := (b5, (o6 + 2))) rfl c35 w hw) ?_
          refine SOps.val (v := .string s8) rfl (wantN rfl) (fun _ => by kernel_rfl) ?_
          refine SOps.val (v := .int .i64 (s8.size : Int)) rfl (wantN rfl) (fun _ => by kernel_rfl) ?_
          refine SOps.val (v := .int .i64 (w64 (x34 + (s8.size : Int)))) rfl (wantN rfl) (fun _ => by kernel_rfl) ?_
          refine SOps.val (v := pv (some (b5, o6))) rfl (wantN rfl) (fun _ => by kernel_rfl) ?_
          refine SOps.val (v := pv (some (b5, (o6 + 2)))) rfl (wantN rfl) (fun _ => by kernel_rfl) ?_
          obtain ⟨c36, h⟩ := h
          refine SOps.storeL (p := (b5, (o6 + 2))) (v := .int .i64 (w64 (x34 + (s8.size : Int)))) (cs := [.int .i64 (w64 (x34 + (s8.size : Int)))]) rfl rfl (wantN rfl) (size := 1) (by kernel_rfl) rfl rfl rfl rfl (by simp [Value.oneCell', errV_one, pv, sv]) c36 ?_
          refine SOps.nil ?_
          refine SW.seq ?_
          refine SW.region ?_
          refine SOps.val (v := errV none) rfl (wantN rfl) (fun _ => by kernel_rfl) ?_
          refine SOps.nil ?_
          obtain ⟨Hr, hr, h⟩ := h
          exact SW.ret (retQ.mk (errV none) (res1 rfl rfl) hr ⟨none, rfl, h⟩)
        · replace h := h.2 v28 rfl
          refine SOps.val (v := .bool true) rfl (wantN rfl) (fun w => ev_errNe (e := some v28) rfl Tryd.underlying28 rfl rfl w) ?_
          refine SOps.nil ?_
          refine SW.cond_t (t := true) rfl rfl ?_
          refine SW.seq ?_
          refine SW.region ?_
          refine SOps.val (v := errV (some v28)) rfl (wantN rfl) (fun _ => by kernel_rfl) ?_
          refine SOps.val (v := errV (some v28)) rfl (wantN rfl) (fun _ => by kernel_rfl) ?_
          refine SOps.nil ?_
          obtain ⟨Hr, hr, h⟩ := h
          exact SW.ret (retQ.mk (errV (some v28)) (res1 rfl rfl) hr ⟨some v28, rfl, h⟩)

/-! ### (*lading/journal.Journal).Write: function 31 -/
def journal_Journal_Write__w1.wp (F : Nat) (p1 : Option (Nat × Nat)) (l2 : SlW) (H : SH) (K : Option EV → SH → Prop) : Prop :=
  journal_Journal_Put__w1.wp F p1 l2 H (fun e3 H4 =>
    (e3 = none →
      journal_Journal_Flush.wp F p1 H4 (fun e6 H7 =>
        ∃ Hr, SH.le Hr H7 ∧ K e6 Hr
      )
    ) ∧ (∀ v5, e3 = some v5 →
      ∃ Hr, SH.le Hr H4 ∧ K (some v5) Hr
    )
  )
set_option maxHeartbeats 8000000 in
theorem journal_Journal_Write__w1.sound (F : Nat) (p1 : Option (Nat × Nat)) (l2 : SlW) (H : SH) (K : Option EV → SH → Prop) (h : journal_Journal_Write__w1.wp F p1 l2 H K) : SCalls Tryd.prog 31 #[pv p1, swv l2] H (fun v H' => ∃ (e9 : Option EV), v = errV e9 ∧ K e9 H') := by
  unfold journal_Journal_Write__w1.wp at h
  refine SCalls.body Tryd.func31 rfl (Nat.le_of_ble_eq_true rfl) ?_
  refine SW.seq ?_
  refine SW.region ?_
  refine SOps.val (v := errV none) rfl (wantN rfl) (fun _ => by kernel_rfl) ?_
  refine SOps.nil ?_
  refine SW.seq ?_
  refine SW.seq ?_
  refine SW.region ?_
  refine SOps.val (v := pv p1) rfl (wantN rfl) (fun _ => by kernel_rfl) ?_
  refine SOps.val (v := swv l2) rfl (wantN rfl) (fun _ => by kernel_rfl) ?_
  refine SOps.enter rfl (wantN rfl) (fun _ => by kernel_rfl) (journal_Journal_Put__w1.sound F p1 l2 H _ h) ?_
  clear h
  rintro v H4 ⟨e3, rfl, h⟩
  refine SOps.val (v := errV e3) rfl (wantN rfl) (fun _ => by kernel_rfl) ?_
  refine SOps.nil ?_
  refine SW.seq ?_
  refine SW.region ?_
  refine SOps.val (v := errV e3) rfl (wantN rfl) (fun _ => by kernel_rfl) ?_
  rcases e3 with _ | v5
  · replace h := h.1 rfl
    refine SOps.val (v := .bool false) rfl (wantN rfl) (fun w => ev_errNe (e := none) rfl Tryd.underlying28 rfl rfl w) ?_
    refine SOps.nil ?_
    refine SW.cond_f (t := false) rfl rfl ?_
    refine SW.skip ?_
    refine SW.seq ?_
    refine SW.region ?_
    refine SOps.val (v := pv p1) rfl (wantN rfl) (fun _ => by kernel_rfl) ?_
    refine SOps.enter rfl (wantN rfl) (fun _ => by kernel_rfl) (journal_Journal_Flush.sound F p1 H4 _ h) ?_
    clear h
    rintro v H7 ⟨e6, rfl, h⟩
    refine SOps.val (v := errV e6) rfl (wantN rfl) (fun _ => by kernel_rfl) ?_
    refine SOps.nil ?_
    obtain ⟨Hr, hr, h⟩ := h
    exact SW.ret (retQ.mk (errV e6) (res1 rfl rfl) hr ⟨e6, rfl, h⟩)
  · replace h := h.2 v5 rfl
    refine SOps.val (v := .bool true) rfl (wantN rfl) (fun w => ev_errNe (e := some v5) rfl Tryd.underlying28 rfl rfl w) ?_
    refine SOps.nil ?_
    refine SW.cond_t (t := true) rfl rfl ?_
    refine SW.seq ?_
    refine SW.region ?_
    refine SOps.val (v := errV (some v5)) rfl (wantN rfl) (fun _ => by kernel_rfl) ?_
    refine SOps.val (v := errV (some v5)) rfl (wantN rfl) (fun _ => by kernel_rfl) ?_
    refine SOps.nil ?_
    obtain ⟨Hr, hr, h⟩ := h
    exact SW.ret (retQ.mk (errV (some v5)) (res1 rfl rfl) hr ⟨some v5, rfl, h⟩)

end Go.Proofs.YtknhlipealekoaaDoor.K
