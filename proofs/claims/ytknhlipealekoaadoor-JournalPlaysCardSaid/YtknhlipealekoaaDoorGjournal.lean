import Derived.Test.YtknhlipealekoaaDoorGdisk
import Derived.Test.YtknhlipealekoaaDoorGframe
import Derived.Test.YtknhlipealekoaaDoorGslices
import Derived.Test.YtknhlipealekoaaDoorGdiskW
import Derived.Test.YtknhlipealekoaaDoorSatWrit
set_option linter.unusedVariables false
set_option linter.unusedSimpArgs false
set_option maxRecDepth 100000
namespace Go.Proofs.YtknhlipealekoaaDoor.K
open Go
attribute [local irreducible] SW SOps SQ SCalls retQ

/-! ### lading/journal.Open: function 28 -/
def journal_Open.j2 (F : Nat) (K : Option (Nat × Nat) → Option EV → SH → Prop) (p22 : Option (Nat × Nat)) (e23 : Option EV) (l24 : Sl) (x25 : Int) (H : SH) : Prop :=
  (e23 = none →
    ∀ b27, H b27 = none →
    ∃ Hr, SH.le Hr (SH.upd H b27 ⟨[pv p22, sv l24, .int .i64 x25], 93, false, 3⟩) ∧ K (some (b27, 0)) none Hr
  ) ∧ (∀ v26, e23 = some v26 →
    ∃ Hr, SH.le Hr H ∧ K none (some v26) Hr
  )
def journal_Open.j1 (F : Nat) (K : Option (Nat × Nat) → Option EV → SH → Prop) (p12 : Option (Nat × Nat)) (e13 : Option EV) (l14 : Sl) (x15 : Int) (H : SH) : Prop :=
  (e13 = none →
    disk_Disk_Waits.wp F p12 H (fun x17 H18 =>
      (x17 > 0 →
        disk_Disk_Sync.wp F p12 H18 (fun e20 H21 =>
          journal_Open.j2 F K p12 e20 l14 x15 H21
        )
      ) ∧ (¬ (x17 > 0) →
        journal_Open.j2 F K p12 none l14 x15 H18
      )
    )
  ) ∧ (∀ v16, e13 = some v16 →
    journal_Open.j2 F K p12 (some v16) l14 x15 H
  )
def journal_Open.wp (F : Nat) (p1 : Option (Nat × Nat)) (H : SH) (K : Option (Nat × Nat) → Option EV → SH → Prop) : Prop :=
  disk_Disk_Log.wp F p1 H (fun s2 e3 H4 =>
    (e3 = none →
      frame_All.wp F s2 H4 (fun l6 x7 H8 =>
        (x7 < (s2.size : Int) →
          disk_Disk_Cut.wp F p1 x7 H8 (fun e10 H11 =>
            journal_Open.j1 F K p1 e10 l6 x7 H11
          )
        ) ∧ (¬ (x7 < (s2.size : Int)) →
          journal_Open.j1 F K p1 none l6 x7 H8
        )
      )
    ) ∧ (∀ v5, e3 = some v5 →
      ∃ Hr, SH.le Hr H4 ∧ K none (some v5) Hr
    )
  )
set_option maxHeartbeats 8000000 in
theorem journal_Open.sound (F : Nat) (p1 : Option (Nat × Nat)) (H : SH) (K : Option (Nat × Nat) → Option EV → SH → Prop) (h : journal_Open.wp F p1 H K) : SCalls Tryd.prog 28 #[pv p1] H (fun v H' => ∃ (p35 : Option (Nat × Nat)) (e36 : Option EV), v = .tuple #[pv p35, errV e36] ∧ K p35 e36 H') := by
  unfold journal_Open.wp at h
  refine SCalls.body Tryd.func28 rfl (Nat.le_of_ble_eq_true rfl) ?_
  refine SW.seq ?_
  refine SW.region ?_
  refine SOps.val (v := pv none) rfl (wantN rfl) (fun _ => by kernel_rfl) ?_
  refine SOps.val (v := errV none) rfl (wantN rfl) (fun _ => by kernel_rfl) ?_
  refine SOps.nil ?_
  refine SW.seq ?_
  refine SW.region ?_
  refine SOps.val (v := pv p1) rfl (wantN rfl) (fun _ => by kernel_rfl) ?_
  refine SOps.enter rfl (wantN rfl) (fun _ => by kernel_rfl) (disk_Disk_Log.sound F p1 H _ h) ?_
  clear h
  rintro v H4 ⟨s2, e3, rfl, h⟩
  refine SOps.val (v := .tuple #[.string s2, errV e3]) rfl (wantN rfl) (fun _ => by kernel_rfl) ?_
  refine SOps.val (v := .string s2) rfl (wantN rfl) (fun _ => by kernel_rfl) ?_
  refine SOps.val (v := errV e3) rfl (wantN rfl) (fun _ => by kernel_rfl) ?_
  refine SOps.val (v := .string s2) rfl (wantN rfl) (fun _ => by kernel_rfl) ?_
  refine SOps.val (v := errV e3) rfl (wantN rfl) (fun _ => by kernel_rfl) ?_
  refine SOps.nil ?_
  refine SW.seq ?_
  refine SW.seq ?_
  refine SW.region ?_
  refine SOps.val (v := errV e3) rfl (wantN rfl) (fun _ => by kernel_rfl) ?_
  rcases e3 with _ | v5
  · replace h := h.1 rfl
    refine SOps.val (v := .bool false) rfl (wantN rfl) (fun w => ev_errNe (e := none) rfl Tryd.underlying28 rfl rfl w) ?_
    refine SOps.nil ?_
    refine SW.cond_f (t := false) rfl rfl ?_
    refine SW.skip ?_
    refine SW.seq ?_
    refine SW.region ?_
    refine SOps.val (v := .string s2) rfl (wantN rfl) (fun _ => by kernel_rfl) ?_
    refine SOps.enter rfl (wantN rfl) (fun _ => by kernel_rfl) (frame_All.sound F s2 H4 _ h) ?_
    clear h
    rintro v H8 ⟨l6, x7, rfl, h⟩
    refine SOps.val (v := .tuple #[sv l6, .int .i64 x7]) rfl (wantN rfl) (fun _ => by kernel_rfl) ?_
    refine SOps.val (v := sv l6) rfl (wantN rfl) (fun _ => by kernel_rfl) ?_
    refine SOps.val (v := .int .i64 x7) rfl (wantN rfl) (fun _ => by kernel_rfl) ?_
    refine SOps.val (v := sv l6) rfl (wantN rfl) (fun _ => by kernel_rfl) ?_
    refine SOps.val (v := .int .i64 x7) rfl (wantN rfl) (fun _ => by kernel_rfl) ?_
    refine SOps.nil ?_
    refine SW.seqJ (fun fr H => ∃ (g : Fr) (p12 : Option (Nat × Nat)) (e13 : Option EV) (l14 : Sl) (x15 : Int), fr = g.upds [(0, pv p12), (5, errV e13), (6, sv l14), (7, (.int .i64 x15 : Value))] ∧ journal_Open.j1 F K p12 e13 l14 x15 H) ?_ ?_
    · clear h
      rintro fr H ⟨g, p12, e13, l14, x15, rfl, h⟩
      unfold journal_Open.j1 at h
      refine SW.seqJ (fun fr H => ∃ (g : Fr) (p22 : Option (Nat × Nat)) (e23 : Option EV) (l24 : Sl) (x25 : Int), fr = g.upds [(0, pv p22), (5, errV e23), (6, sv l24), (7, (.int .i64 x25 : Value))] ∧ journal_Open.j2 F K p22 e23 l24 x25 H) ?_ ?_
      · clear h
        rintro fr H ⟨g, p22, e23, l24, x25, rfl, h⟩
        unfold journal_Open.j2 at h
        refine SW.seq ?_
        refine SW.seq ?_
        refine SW.region ?_
        refine SOps.val (v := errV e23) rfl (wantN rfl) (fun _ => by kernel_rfl) ?_
        rcases e23 with _ | v26
        · replace h := h.1 rfl
          refine SOps.val (v := .bool false) rfl (wantN rfl) (fun w => ev_errNe (e := none) rfl Tryd.underlying28 rfl rfl w) ?_
          refine SOps.nil ?_
          refine SW.cond_f (t := false) rfl rfl ?_
          refine SW.skip ?_
          refine SW.seq ?_
          refine SW.region ?_
          refine SOps.val (v := pv p22) rfl (wantN rfl) (fun _ => by kernel_rfl) ?_
          refine SOps.val (v := sv l24) rfl (wantN rfl) (fun _ => by kernel_rfl) ?_
          refine SOps.val (v := .int .i64 x25) rfl (wantN rfl) (fun _ => by kernel_rfl) ?_
          refine SOps.val (v := .agg #[pv p22, sv l24, .int .i64 x25]) rfl (wantN rfl) (fun _ => by kernel_rfl) ?_
          refine SOps.box rfl rfl (wantN rfl) (v := .agg #[pv p22, sv l24, .int .i64 x25]) rfl (fun b27 c28 => ?_)
          replace h := h b27 c28
          refine SOps.val (v := pv (some (b27, 0))) rfl (wantN rfl) (fun _ => by kernel_rfl) ?_
          refine SOps.val (v := errV none) rfl (wantN rfl) (fun _ => by kernel_rfl) ?_
          refine SOps.nil ?_
          obtain ⟨Hr, hr, h⟩ := h
          exact SW.ret (retQ.mk (.tuple #[pv (some (b27, 0)), errV none]) (res2 rfl rfl rfl) hr ⟨some (b27, 0), none, rfl, h⟩)
        · replace h := h.2 v26 rfl
          refine SOps.val (v := .bool true) rfl (wantN rfl) (fun w => ev_errNe (e := some v26) rfl Tryd.underlying28 rfl rfl w) ?_
          refine SOps.nil ?_
          refine SW.cond_t (t := true) rfl rfl ?_
          refine SW.seq ?_
          refine SW.region ?_
          refine SOps.val (v := errV (some v26)) rfl (wantN rfl) (fun _ => by kernel_rfl) ?_
          refine SOps.val (v := pv none) rfl (wantN rfl) (fun _ => by kernel_rfl) ?_
          refine SOps.val (v := errV (some v26)) rfl (wantN rfl) (fun _ => by kernel_rfl) ?_
          refine SOps.nil ?_
          obtain ⟨Hr, hr, h⟩ := h
          exact SW.ret (retQ.mk (.tuple #[pv none, errV (some v26)]) (res2 rfl rfl rfl) hr ⟨none, some v26, rfl, h⟩)
      · skip
        refine SW.seq ?_
        refine SW.region ?_
        refine SOps.val (v := errV e13) rfl (wantN rfl) (fun _ => by kernel_rfl) ?_
        rcases e13 with _ | v16
        · replace h := h.1 rfl
          refine SOps.val (v := .bool true) rfl (wantN rfl) (fun w => ev_errEq (e := none) rfl Tryd.underlying28 rfl rfl w) ?_
          refine SOps.val (v := .bool true) rfl (wantN rfl) (fun _ => by kernel_rfl) ?_
          refine SOps.val (v := pv p12) rfl (wantY (c := true) rfl rfl rfl rfl) (fun _ => by kernel_rfl) ?_
          refine SOps.enter rfl (wantY (c := true) rfl rfl rfl rfl) (fun _ => by kernel_rfl) (disk_Disk_Waits.sound F p12 H _ h) ?_
          clear h
          rintro v H18 ⟨x17, rfl, h⟩
          refine SOps.val (v := .bool (decide (x17 > 0))) rfl (wantY (c := true) rfl rfl rfl rfl) (fun _ => by kernel_rfl) ?_
          refine SOps.val (v := .bool (decide (x17 > 0))) rfl (wantN rfl) (fun w => ev_pickT (v := .bool (decide (x17 > 0))) rfl (t := true) rfl rfl rfl w) ?_
          refine SOps.nil ?_
          by_cases c19 : x17 > 0
          · replace h := h.1 c19
            have dc19 : (decide (x17 > 0)) = true := (decide_eq_true c19)
            refine SW.cond_t (t := decide (x17 > 0)) rfl dc19 ?_
            refine SW.region ?_
            refine SOps.val (v := pv p12) rfl (wantN rfl) (fun _ => by kernel_rfl) ?_
            refine SOps.enter rfl (wantN rfl) (fun _ => by kernel_rfl) (disk_Disk_Sync.sound F p12 H18 _ h) ?_
            clear h
            rintro v H21 ⟨e20, rfl, h⟩
            refine SOps.val (v := errV e20) rfl (wantN rfl) (fun _ => by kernel_rfl) ?_
            refine SOps.nil ?_
            exact ⟨_, p12, e20, l14, x15, Fr.upds_self _ _ ⟨rfl, rfl, rfl, rfl, trivial⟩, h⟩
          · replace h := h.2 c19
            have dc19 : (decide (x17 > 0)) = false := (decide_eq_false c19)
            refine SW.cond_f (t := decide (x17 > 0)) rfl dc19 ?_
            refine SW.skip ?_
            exact ⟨_, p12, none, l14, x15, Fr.upds_self _ _ ⟨rfl, rfl, rfl, rfl, trivial⟩, h⟩
        · replace h := h.2 v16 rfl
          refine SOps.val (v := .bool false) rfl (wantN rfl) (fun w => ev_errEq (e := some v16) rfl Tryd.underlying28 rfl rfl w) ?_
          refine SOps.val (v := .bool false) rfl (wantN rfl) (fun _ => by kernel_rfl) ?_
          refine SOps.off rfl (wantX (c := false) rfl rfl rfl rfl) ?_
          refine SOps.off rfl (wantX (c := false) rfl rfl rfl rfl) ?_
          refine SOps.off rfl (wantX (c := false) rfl rfl rfl rfl) ?_
          refine SOps.val (v := .bool false) rfl (wantN rfl) (fun w => ev_pickF (v := .bool false) rfl (t := false) rfl rfl rfl w) ?_
          refine SOps.nil ?_
          refine SW.cond_f (t := false) rfl rfl ?_
          refine SW.skip ?_
          exact ⟨_, p12, some v16, l14, x15, Fr.upds_self _ _ ⟨rfl, rfl, rfl, rfl, trivial⟩, h⟩
    · skip
      refine SW.seq ?_
      refine SW.region ?_
      refine SOps.val (v := .int .i64 x7) rfl (wantN rfl) (fun _ => by kernel_rfl) ?_
      refine SOps.val (v := .string s2) rfl (wantN rfl) (fun _ => by kernel_rfl) ?_
      refine SOps.val (v := .int .i64 (s2.size : Int)) rfl (wantN rfl) (fun _ => by kernel_rfl) ?_
      refine SOps.val (v := .bool (decide (x7 < (s2.size : Int)))) rfl (wantN rfl) (fun _ => by kernel_rfl) ?_
      refine SOps.nil ?_
      by_cases c9 : x7 < (s2.size : Int)
      · replace h := h.1 c9
        have dc9 : (decide (x7 < (s2.size : Int))) = true := (decide_eq_true c9)
        refine SW.cond_t (t := decide (x7 < (s2.size : Int))) rfl dc9 ?_
        refine SW.region ?_
        refine SOps.val (v := pv p1) rfl (wantN rfl) (fun _ => by kernel_rfl) ?_
        refine SOps.val (v := .int .i64 x7) rfl (wantN rfl) (fun _ => by kernel_rfl) ?_
        refine SOps.enter rfl (wantN rfl) (fun _ => by kernel_rfl) (disk_Disk_Cut.sound F p1 x7 H8 _ h) ?_
        clear h
        rintro v H11 ⟨e10, rfl, h⟩
        refine SOps.val (v := errV e10) rfl (wantN rfl) (fun _ => by kernel_rfl) ?_
        refine SOps.nil ?_
        exact ⟨_, p1, e10, l6, x7, Fr.upds_self _ _ ⟨rfl, rfl, rfl, rfl, trivial⟩, h⟩
      · replace h := h.2 c9
        have dc9 : (decide (x7 < (s2.size : Int))) = false := (decide_eq_false c9)
        refine SW.cond_f (t := decide (x7 < (s2.size : Int))) rfl dc9 ?_
        refine SW.skip ?_
        exact ⟨_, p1, none, l6, x7, Fr.upds_self _ _ ⟨rfl, rfl, rfl, rfl, trivial⟩, h⟩
  · replace h := h.2 v5 rfl
    refine SOps.val (v := .bool true) rfl (wantN rfl) (fun w => ev_errNe (e := some v5) rfl Tryd.underlying28 rfl rfl w) ?_
    refine SOps.nil ?_
    refine SW.cond_t (t := true) rfl rfl ?_
    refine SW.seq ?_
    refine SW.region ?_
    refine SOps.val (v := errV (some v5)) rfl (wantN rfl) (fun _ => by kernel_rfl) ?_
    refine SOps.val (v := pv none) rfl (wantN rfl) (fun _ => by kernel_rfl) ?_
    refine SOps.val (v := errV (some v5)) rfl (wantN rfl) (fun _ => by kernel_rfl) ?_
    refine SOps.nil ?_
    obtain ⟨Hr, hr, h⟩ := h
    exact SW.ret (retQ.mk (.tuple #[pv none, errV (some v5)]) (res2 rfl rfl rfl) hr ⟨none, some v5, rfl, h⟩)

/-! ### (*lading/journal.Journal).Put: function 30 -/
def journal_Journal_Put.r1 (F : Nat) (K : Option EV → SH → Prop) (R1 : Nat → Nat → Sl → ByteArray → Sl → Int → Int → SH → Prop) (b5 : Nat) (o6 : Nat) (l7 : Sl) (s8 : ByteArray) (l9 : Sl) (x10 : Int) (x11 : Int) (H : SH) : Prop :=
  (x11 < x10 →
    ∃ p13, l9.a = some p13 ∧ 0 ≤ x11 ∧ x11 < (l9.len : Int) ∧
    ∃ (s17 : ByteArray),
    SH.has H (p13.1, (p13.2 + x11.toNat * 1)) (.string s17) ∧
    frame_Seal.wp F s17 H (fun s19 e20 H21 =>
      (e20 = none →
        s8.size + s19.size ≤ 9223372036854775807 ∧
        R1 b5 o6 l7 (s8 ++ s19) l9 x10 (w64 (x11 + 1)) H21
      ) ∧ (∀ v22, e20 = some v22 →
        ∃ Hr, SH.le Hr H21 ∧ K (some v22) Hr
      )
    )
  ) ∧ (¬ (x11 < x10) →
    ∃ (p24 : Option (Nat × Nat)),
    SH.has H (b5, o6) (pv p24) ∧
    disk_Disk_Append.wp F p24 s8 H (fun e26 H27 =>
      (e26 = none →
        ∃ (l29 : Sl),
        SH.has H27 (b5, (o6 + 1)) (sv l29) ∧
        ∃ w37, SH.row H27 l7.a w37 ∧
        AppendQ H27 9 1 16 l29 l7.len w37 (fun l31 H32 =>
          SH.wrs H32 (b5, (o6 + 1)) 1 ∧
          ∃ (x34 : Int),
          SH.has (SH.setl H32 (b5, (o6 + 1)) [sv l31]) (b5, (o6 + 2)) (.int .i64 x34) ∧
          SH.wrs (SH.setl H32 (b5, (o6 + 1)) [sv l31]) (b5, (o6 + 2)) 1 ∧
          ∃ Hr, SH.le Hr (SH.setl (SH.setl H32 (b5, (o6 + 1)) [sv l31]) (b5, (o6 + 2)) [.int .i64 (w64 (x34 + (s8.size : Int)))]) ∧ K none Hr
        )
      ) ∧ (∀ v28, e26 = some v28 →
        ∃ Hr, SH.le Hr H27 ∧ K (some v28) Hr
      )
    )
  )
def journal_Journal_Put.l1 (F : Nat) (K : Option EV → SH → Prop) : Nat → Nat → Nat → Sl → ByteArray → Sl → Int → Int → SH → Prop
  | 0, _, _, _, _, _, _, _, _ => False
  | k + 1, b5, o6, l7, s8, l9, x10, x11, H => journal_Journal_Put.r1 F K (journal_Journal_Put.l1 F K k) b5 o6 l7 s8 l9 x10 x11 H
def journal_Journal_Put.wp (F : Nat) (p1 : Option (Nat × Nat)) (l2 : Sl) (H : SH) (K : Option EV → SH → Prop) : Prop :=
  (p1 = none →
    ∃ Hr, SH.le Hr H ∧ K (some (EV.no 1)) Hr
  ) ∧ (∀ b3 o4, p1 = some (b3, o4) →
    journal_Journal_Put.l1 F K F b3 o4 l2 ByteArray.empty l2 (l2.len : Int) 0 H
  )
set_option maxHeartbeats 8000000 in
theorem journal_Journal_Put.sound (F : Nat) (p1 : Option (Nat × Nat)) (l2 : Sl) (H : SH) (K : Option EV → SH → Prop) (h : journal_Journal_Put.wp F p1 l2 H K) : SCalls Tryd.prog 30 #[pv p1, sv l2] H (fun v H' => ∃ (e42 : Option EV), v = errV e42 ∧ K e42 H') := by
  unfold journal_Journal_Put.wp at h
  refine SCalls.body Tryd.func30 rfl (Nat.le_of_ble_eq_true rfl) ?_
  refine SW.seq ?_
  refine SW.region ?_
  refine SOps.val (v := errV none) rfl (wantN rfl) (fun _ => by kernel_rfl) ?_
  refine SOps.nil ?_
  refine SW.seq ?_
  refine SW.seq ?_
  refine SW.region ?_
  refine SOps.val (v := pv p1) rfl (wantN rfl) (fun _ => by kernel_rfl) ?_
  rcases p1 with _ | ⟨b3, o4⟩
  · replace h := h.1 rfl
    refine SOps.val (v := .bool true) rfl (wantN rfl) (fun _ => by kernel_rfl) ?_
    refine SOps.nil ?_
    refine SW.cond_t (t := true) rfl rfl ?_
    refine SW.seq ?_
    refine SW.region ?_
    refine SOps.val (v := errV (some (EV.no 1))) rfl (wantN rfl) (fun _ => by kernel_rfl) ?_
    refine SOps.val (v := errV (some (EV.no 1))) rfl (wantN rfl) (fun _ => by kernel_rfl) ?_
    refine SOps.nil ?_
    obtain ⟨Hr, hr, h⟩ := h
    exact SW.ret (retQ.mk (errV (some (EV.no 1))) (res1 rfl rfl) hr ⟨some (EV.no 1), rfl, h⟩)
  · replace h := h.2 b3 o4 rfl
    refine SOps.val (v := .bool false) rfl (wantN rfl) (fun _ => by kernel_rfl) ?_
    refine SOps.nil ?_
    refine SW.cond_f (t := false) rfl rfl ?_
    refine SW.skip ?_
    refine SW.seq ?_
    refine SW.region ?_
    refine SOps.val (v := .string ByteArray.empty) rfl (wantN rfl) (fun _ => by kernel_rfl) ?_
    refine SOps.nil ?_
    refine SW.seq ?_
    refine SW.seq ?_
    refine SW.region ?_
    refine SOps.val (v := sv l2) rfl (wantN rfl) (fun _ => by kernel_rfl) ?_
    refine SOps.val (v := .int .i64 (l2.len : Int)) rfl (wantN rfl) (fun _ => by kernel_rfl) ?_
    refine SOps.val (v := .int .i64 0) rfl (wantN rfl) (fun _ => by kernel_rfl) ?_
    refine SOps.nil ?_
    refine SW.block ?_
    refine SW.loop (fun k1 fr H => ∃ (g : Fr) (b5 : Nat) (o6 : Nat) (l7 : Sl) (s8 : ByteArray) (l9 : Sl) (x10 : Int) (x11 : Int), fr = g.upds [(0, pv (some (b5, o6))), (1, sv l7), (5, (.string s8 : Value)), (14, sv l9), (15, (.int .i64 x10 : Value)), (16, (.int .i64 x11 : Value))] ∧ journal_Journal_Put.l1 F K k1 b5 o6 l7 s8 l9 x10 x11 H) F ⟨_, b3, o4, l2, ByteArray.empty, l2, (l2.len : Int), 0, (Fr.upds_self _ _ ⟨rfl, rfl, rfl, rfl, rfl, rfl, trivial⟩), h⟩ ?_
    clear h
    rintro k1 fr H ⟨g, b5, o6, l7, s8, l9, x10, x11, rfl, h⟩
    cases k1 with
    | zero => exact h.elim
    | succ k1 =>
      replace h : journal_Journal_Put.r1 F K (journal_Journal_Put.l1 F K k1) b5 o6 l7 s8 l9 x10 x11 H := h
      unfold journal_Journal_Put.r1 at h
      refine SW.seq ?_
      refine SW.region ?_
      refine SOps.val (v := .bool (decide (x11 < x10))) rfl (wantN rfl) (fun _ => by kernel_rfl) ?_
      refine SOps.nil ?_
      refine SW.seq ?_
      by_cases c12 : x11 < x10
      · replace h := h.1 c12
        have dc12 : (decide (x11 < x10)) = true := (decide_eq_true c12)
        refine SW.cond_t (t := decide (x11 < x10)) rfl dc12 ?_
        refine SW.skip ?_
        refine SW.seq ?_
        refine SW.block ?_
        refine SW.seq ?_
        refine SW.region ?_
        obtain ⟨p13, c14, c15, c16, h⟩ := h
        refine SOps.val (v := pv (some (p13.1, (p13.2 + x11.toNat * 1)))) rfl (wantN rfl) (fun w => ev_iaddr rfl Tryd.underlying55 (size := 1) (by kernel_rfl) rfl rfl c14 c15 c16 w) ?_
        obtain ⟨s17, c18, h⟩ := h
        refine SOps.rd (v := .string s17) rfl (wantN rfl) (fun w hw => ev_load1 rfl (fun _ => by kernel_rfl) (p := (p13.1, (p13.2 + x11.toNat * 1))) rfl c18 w hw) ?_
        refine SOps.val (v := .string s17) rfl (wantN rfl) (fun _ => by kernel_rfl) ?_
        refine SOps.nil ?_
        refine SW.seq ?_
        refine SW.region ?_
        refine SOps.val (v := .string s17) rfl (wantN rfl) (fun _ => by kernel_rfl) ?_
        refine SOps.enter rfl (wantN rfl) (fun _ => by kernel_rfl) (frame_Seal.sound F s17 H _ h) ?_
        clear h
        rintro v H21 ⟨s19, e20, rfl, h⟩
        refine SOps.val (v := .tuple #[.string s19, errV e20]) rfl (wantN rfl) (fun _ => by kernel_rfl) ?_
        refine SOps.val (v := .string s19) rfl (wantN rfl) (fun _ => by kernel_rfl) ?_
        refine SOps.val (v := errV e20) rfl (wantN rfl) (fun _ => by kernel_rfl) ?_
        refine SOps.val (v := .string s19) rfl (wantN rfl) (fun _ => by kernel_rfl) ?_
        refine SOps.val (v := errV e20) rfl (wantN rfl) (fun _ => by kernel_rfl) ?_
        refine SOps.nil ?_
        refine SW.seq ?_
        refine SW.seq ?_
        refine SW.region ?_
        refine SOps.val (v := errV e20) rfl (wantN rfl) (fun _ => by kernel_rfl) ?_
        rcases e20 with _ | v22
        · replace h := h.1 rfl
          refine SOps.val (v := .bool false) rfl (wantN rfl) (fun w => ev_errNe (e := none) rfl Tryd.underlying28 rfl rfl w) ?_
          refine SOps.nil ?_
          refine SW.cond_f (t := false) rfl rfl ?_
          refine SW.skip ?_
          refine SW.region ?_
          refine SOps.val (v := .string s8) rfl (wantN rfl) (fun _ => by kernel_rfl) ?_
          refine SOps.val (v := .string s19) rfl (wantN rfl) (fun _ => by kernel_rfl) ?_
          obtain ⟨c23, h⟩ := h
          refine SOps.val (v := .string (s8 ++ s19)) rfl (wantN rfl) (fun w => ev_cat rfl rfl rfl c23 w) ?_
          refine SOps.val (v := .string (s8 ++ s19)) rfl (wantN rfl) (fun _ => by kernel_rfl) ?_
          refine SOps.nil ?_
          refine SW.region ?_
          refine SOps.val (v := .int .i64 (w64 (x11 + 1))) rfl (wantN rfl) (fun _ => by kernel_rfl) ?_
          refine SOps.val (v := .int .i64 (w64 (x11 + 1))) rfl (wantN rfl) (fun _ => by kernel_rfl) ?_
          refine SOps.nil ?_
          exact ⟨k1, Nat.lt_succ_self k1, _, b5, o6, l7, s8 ++ s19, l9, x10, w64 (x11 + 1), (Fr.upds_self _ _ ⟨rfl, rfl, rfl, rfl, rfl, rfl, trivial⟩), h⟩
        · replace h := h.2 v22 rfl
          refine SOps.val (v := .bool true) rfl (wantN rfl) (fun w => ev_errNe (e := some v22) rfl Tryd.underlying28 rfl rfl w) ?_
          refine SOps.nil ?_
          refine SW.cond_t (t := true) rfl rfl ?_
          refine SW.seq ?_
          refine SW.region ?_
          refine SOps.val (v := errV (some v22)) rfl (wantN rfl) (fun _ => by kernel_rfl) ?_
          refine SOps.val (v := errV (some v22)) rfl (wantN rfl) (fun _ => by kernel_rfl) ?_
          refine SOps.nil ?_
          obtain ⟨Hr, hr, h⟩ := h
          exact SW.ret (retQ.mk (errV (some v22)) (res1 rfl rfl) hr ⟨some v22, rfl, h⟩)
      · replace h := h.2 c12
        have dc12 : (decide (x11 < x10)) = false := (decide_eq_false c12)
        refine SW.cond_f (t := decide (x11 < x10)) rfl dc12 ?_
        refine SW.exit ?_
        refine SW.seq ?_
        refine SW.seq ?_
        refine SW.region ?_
        refine SOps.val (v := pv (some (b5, o6))) rfl (wantN rfl) (fun _ => by kernel_rfl) ?_
        refine SOps.val (v := pv (some (b5, o6))) rfl (wantN rfl) (fun _ => by kernel_rfl) ?_
        refine SOps.val (v := pv (some (b5, o6))) rfl (wantN rfl) (fun _ => by kernel_rfl) ?_
        obtain ⟨p24, c25, h⟩ := h
        refine SOps.rd (v := pv p24) rfl (wantN rfl) (fun w hw => ev_load1 rfl (fun _ => by kernel_rfl) (p := (b5, o6)) rfl c25 w hw) ?_
        refine SOps.val (v := .string s8) rfl (wantN rfl) (fun _ => by kernel_rfl) ?_
        refine SOps.enter rfl (wantN rfl) (fun _ => by kernel_rfl) (disk_Disk_Append.sound F p24 s8 H _ h) ?_
        clear h
        rintro v H27 ⟨e26, rfl, h⟩
        refine SOps.val (v := errV e26) rfl (wantN rfl) (fun _ => by kernel_rfl) ?_
        refine SOps.nil ?_
        refine SW.seq ?_
        refine SW.region ?_
        refine SOps.val (v := errV e26) rfl (wantN rfl) (fun _ => by kernel_rfl) ?_
        rcases e26 with _ | v28
        · replace h := h.1 rfl
          refine SOps.val (v := .bool false) rfl (wantN rfl) (fun w => ev_errNe (e := none) rfl Tryd.underlying28 rfl rfl w) ?_
          refine SOps.nil ?_
          refine SW.cond_f (t := false) rfl rfl ?_
          refine SW.skip ?_
          refine SW.seq ?_
          refine SW.region ?_
          refine SOps.val (v := pv (some (b5, o6))) rfl (wantN rfl) (fun _ => by kernel_rfl) ?_
          refine SOps.val (v := pv (some (b5, o6))) rfl (wantN rfl) (fun _ => by kernel_rfl) ?_
          refine SOps.val (v := pv (some (b5, o6))) rfl (wantN rfl) (fun _ => by kernel_rfl) ?_
          refine SOps.val (v := pv (some (b5, (o6 + 1)))) rfl (wantN rfl) (fun _ => by kernel_rfl) ?_
          obtain ⟨l29, c30, h⟩ := h
          refine SOps.rd (v := sv l29) rfl (wantN rfl) (fun w hw => ev_load1 rfl (fun _ => by kernel_rfl) (p := (b5, (o6 + 1))) rfl c30 w hw) ?_
          refine SOps.val (v := sv l7) rfl (wantN rfl) (fun _ => by kernel_rfl) ?_
          obtain ⟨w37, c38, h⟩ := h
          refine SOps.append (z := .string ByteArray.empty) (size := 1) (bytes := 16) rfl rfl (wantN rfl) Tryd.underlying55 (by kernel_rfl) rfl rfl rfl (.inl ⟨⟨_, Tryd.underlying55⟩, _, rfl, rfl, c38⟩) (AppendQ.mono h ?_)
          clear h
          intro l31 H32 h
          refine SOps.val (v := pv (some (b5, o6))) rfl (wantN rfl) (fun _ => by kernel_rfl) ?_
          refine SOps.val (v := pv (some (b5, (o6 + 1)))) rfl (wantN rfl) (fun _ => by kernel_rfl) ?_
          obtain ⟨c33, h⟩ := h
          refine SOps.storeL (p := (b5, (o6 + 1))) (v := sv l31) (cs := [sv l31]) rfl rfl (wantN rfl) (size := 1) (by kernel_rfl) rfl rfl rfl rfl (by simp [Value.oneCell', errV_one, pv, sv]) c33 ?_
          refine SOps.nil ?_
          refine SW.seq ?_
          refine SW.region ?_
          refine SOps.val (v := pv (some (b5, o6))) rfl (wantN rfl) (fun _ => by kernel_rfl) ?_
          refine SOps.val (v := pv (some (b5, o6))) rfl (wantN rfl) (fun _ => by kernel_rfl) ?_
          refine SOps.val (v := pv (some (b5, (o6 + 2)))) rfl (wantN rfl) (fun _ => by kernel_rfl) ?_
          obtain ⟨x34, c35, h⟩ := h
          refine SOps.rd (v := .int .i64 x34) rfl (wantN rfl) (fun w hw => ev_load1 rfl (fun _ => by kernel_rfl) (p := (b5, (o6 + 2))) rfl c35 w hw) ?_
          refine SOps.val (v := .string s8) rfl (wantN rfl) (fun _ => by kernel_rfl) ?_
          refine SOps.val (v := .int .i64 (s8.size : Int)) rfl (wantN rfl) (fun _ => by kernel_rfl) ?_
          refine SOps.val (v := .int .i64 (w64 (x34 + (s8.size : Int)))) rfl (wantN rfl) (fun _ => by kernel_rfl) ?_
          refine SOps.val (v := pv (some (b5, o6))) rfl (wantN rfl) (fun _ => by kernel_rfl) ?_
          refine SOps.val (v := pv (some (b5, (o6 + 2)))) rfl (wantN rfl) (fun _ => by kernel_rfl) ?_
          obtain ⟨c36, h⟩ := h
          refine SOps.storeL (p := (b5, (o6 + 2))) (v := .int .i64 (w64 (x34 + (s8.size : Int)))) (cs := [.int .i64 (w64 (x34 + (s8.size : Int)))]) rfl rfl (wantN rfl) (size := 1) (by kernel_rfl) rfl rfl rfl rfl (by simp [Value.oneCell', errV_one, pv, sv]) c36 ?_
          refine SOps.nil ?_
          refine SW.seq ?_
          refine SW.region ?_
          refine SOps.val (v := errV none) rfl (wantN rfl) (fun _ => by kernel_rfl) ?_
          refine SOps.nil ?_
          obtain ⟨Hr, hr, h⟩ := h
          exact SW.ret (retQ.mk (errV none) (res1 rfl rfl) hr ⟨none, rfl, h⟩)
        · replace h := h.2 v28 rfl
          refine SOps.val (v := .bool true) rfl (wantN rfl) (fun w => ev_errNe (e := some v28) rfl Tryd.underlying28 rfl rfl w) ?_
          refine SOps.nil ?_
          refine SW.cond_t (t := true) rfl rfl ?_
          refine SW.seq ?_
          refine SW.region ?_
          refine SOps.val (v := errV (some v28)) rfl (wantN rfl) (fun _ => by kernel_rfl) ?_
          refine SOps.val (v := errV (some v28)) rfl (wantN rfl) (fun _ => by kernel_rfl) ?_
          refine SOps.nil ?_
          obtain ⟨Hr, hr, h⟩ := h
          exact SW.ret (retQ.mk (errV (some v28)) (res1 rfl rfl) hr ⟨some v28, rfl, h⟩)

/-! ### (*lading/journal.Journal).Flush: function 32 -/
def journal_Journal_Flush.wp (F : Nat) (p1 : Option (Nat × Nat)) (H : SH) (K : Option EV → SH → Prop) : Prop :=
  (p1 = none →
    ∃ Hr, SH.le Hr H ∧ K (some (EV.no 1)) Hr
  ) ∧ (∀ b2 o3, p1 = some (b2, o3) →
    ∃ (p4 : Option (Nat × Nat)),
    SH.has H (b2, o3) (pv p4) ∧
    disk_Disk_Sync.wp F p4 H (fun e6 H7 =>
      ∃ Hr, SH.le Hr H7 ∧ K e6 Hr
    )
  )
set_option maxHeartbeats 8000000 in
theorem journal_Journal_Flush.sound (F : Nat) (p1 : Option (Nat × Nat)) (H : SH) (K : Option EV → SH → Prop) (h : journal_Journal_Flush.wp F p1 H K) : SCalls Tryd.prog 32 #[pv p1] H (fun v H' => ∃ (e9 : Option EV), v = errV e9 ∧ K e9 H') := by
  unfold journal_Journal_Flush.wp at h
  refine SCalls.body Tryd.func32 rfl (Nat.le_of_ble_eq_true rfl) ?_
  refine SW.seq ?_
  refine SW.region ?_
  refine SOps.val (v := errV none) rfl (wantN rfl) (fun _ => by kernel_rfl) ?_
  refine SOps.nil ?_
  refine SW.seq ?_
  refine SW.seq ?_
  refine SW.region ?_
  refine SOps.val (v := pv p1) rfl (wantN rfl) (fun _ => by kernel_rfl) ?_
  rcases p1 with _ | ⟨b2, o3⟩
  · replace h := h.1 rfl
    refine SOps.val (v := .bool true) rfl (wantN rfl) (fun _ => by kernel_rfl) ?_
    refine SOps.nil ?_
    refine SW.cond_t (t := true) rfl rfl ?_
    refine SW.seq ?_
    refine SW.region ?_
    refine SOps.val (v := errV (some (EV.no 1))) rfl (wantN rfl) (fun _ => by kernel_rfl) ?_
    refine SOps.val (v := errV (some (EV.no 1))) rfl (wantN rfl) (fun _ => by kernel_rfl) ?_
    refine SOps.nil ?_
    obtain ⟨Hr, hr, h⟩ := h
    exact SW.ret (retQ.mk (errV (some (EV.no 1))) (res1 rfl rfl) hr ⟨some (EV.no 1), rfl, h⟩)
  · replace h := h.2 b2 o3 rfl
    refine SOps.val (v := .bool false) rfl (wantN rfl) (fun _ => by kernel_rfl) ?_
    refine SOps.nil ?_
    refine SW.cond_f (t := false) rfl rfl ?_
    refine SW.skip ?_
    refine SW.seq ?_
    refine SW.region ?_
    refine SOps.val (v := pv (some (b2, o3))) rfl (wantN rfl) (fun _ => by kernel_rfl) ?_
    refine SOps.val (v := pv (some (b2, o3))) rfl (wantN rfl) (fun _ => by kernel_rfl) ?_
    refine SOps.val (v := pv (some (b2, o3))) rfl (wantN rfl) (fun _ => by kernel_rfl) ?_
    obtain ⟨p4, c5, h⟩ := h
    refine SOps.rd (v := pv p4) rfl (wantN rfl) (fun w hw => ev_load1 rfl (fun _ => by kernel_rfl) (p := (b2, o3)) rfl c5 w hw) ?_
    refine SOps.enter rfl (wantN rfl) (fun _ => by kernel_rfl) (disk_Disk_Sync.sound F p4 H _ h) ?_
    clear h
    rintro v H7 ⟨e6, rfl, h⟩
    refine SOps.val (v := errV e6) rfl (wantN rfl) (fun _ => by kernel_rfl) ?_
    refine SOps.nil ?_
    obtain ⟨Hr, hr, h⟩ := h
    exact SW.ret (retQ.mk (errV e6) (res1 rfl rfl) hr ⟨e6, rfl, h⟩)

/-! ### (*lading/journal.Journal).Write: function 31 -/
def journal_Journal_Write.wp (F : Nat) (p1 : Option (Nat × Nat)) (l2 : Sl) (H : SH) (K : Option EV → SH → Prop) : Prop :=
  journal_Journal_Put.wp F p1 l2 H (fun e3 H4 =>
    (e3 = none →
      journal_Journal_Flush.wp F p1 H4 (fun e6 H7 =>
        ∃ Hr, SH.le Hr H7 ∧ K e6 Hr
      )
    ) ∧ (∀ v5, e3 = some v5 →
      ∃ Hr, SH.le Hr H4 ∧ K (some v5) Hr
    )
  )
set_option maxHeartbeats 8000000 in
theorem journal_Journal_Write.sound (F : Nat) (p1 : Option (Nat × Nat)) (l2 : Sl) (H : SH) (K : Option EV → SH → Prop) (h : journal_Journal_Write.wp F p1 l2 H K) : SCalls Tryd.prog 31 #[pv p1, sv l2] H (fun v H' => ∃ (e9 : Option EV), v = errV e9 ∧ K e9 H') := by
  unfold journal_Journal_Write.wp at h
  refine SCalls.body Tryd.func31 rfl (Nat.le_of_ble_eq_true rfl) ?_
  refine SW.seq ?_
  refine SW.region ?_
  refine SOps.val (v := errV none) rfl (wantN rfl) (fun _ => by kernel_rfl) ?_
  refine SOps.nil ?_
  refine SW.seq ?_
  refine SW.seq ?_
  refine SW.region ?_
  refine SOps.val (v := pv p1) rfl (wantN rfl) (fun _ => by kernel_rfl) ?_
  refine SOps.val (v := sv l2) rfl (wantN rfl) (fun _ => by kernel_rfl) ?_
  refine SOps.enter rfl (wantN rfl) (fun _ => by kernel_rfl) (journal_Journal_Put.sound F p1 l2 H _ h) ?_
  clear h
  rintro v H4 ⟨e3, rfl, h⟩
  refine SOps.val (v := errV e3) rfl (wantN rfl) (fun _ => by kernel_rfl) ?_
  refine SOps.nil ?_
  refine SW.seq ?_
  refine SW.region ?_
  refine SOps.val (v := errV e3) rfl (wantN rfl) (fun _ => by kernel_rfl) ?_
  rcases e3 with _ | v5
  · replace h := h.1 rfl
    refine SOps.val (v := .bool false) rfl (wantN rfl) (fun w => ev_errNe (e := none) rfl Tryd.underlying28 rfl rfl w) ?_
    refine SOps.nil ?_
    refine SW.cond_f (t := false) rfl rfl ?_
    refine SW.skip ?_
    refine SW.seq ?_
    refine SW.region ?_
    refine SOps.val (v := pv p1) rfl (wantN rfl) (fun _ => by kernel_rfl) ?_
    refine SOps.enter rfl (wantN rfl) (fun _ => by kernel_rfl) (journal_Journal_Flush.sound F p1 H4 _ h) ?_
    clear h
    rintro v H7 ⟨e6, rfl, h⟩
    refine SOps.val (v := errV e6) rfl (wantN rfl) (fun _ => by kernel_rfl) ?_
    refine SOps.nil ?_
    obtain ⟨Hr, hr, h⟩ := h
    exact SW.ret (retQ.mk (errV e6) (res1 rfl rfl) hr ⟨e6, rfl, h⟩)
  · replace h := h.2 v5 rfl
    refine SOps.val (v := .bool true) rfl (wantN rfl) (fun w => ev_errNe (e := some v5) rfl Tryd.underlying28 rfl rfl w) ?_
    refine SOps.nil ?_
    refine SW.cond_t (t := true) rfl rfl ?_
    refine SW.seq ?_
    refine SW.region ?_
    refine SOps.val (v := errV (some v5)) rfl (wantN rfl) (fun _ => by kernel_rfl) ?_
    refine SOps.val (v := errV (some v5)) rfl (wantN rfl) (fun _ => by kernel_rfl) ?_
    refine SOps.nil ?_
    obtain ⟨Hr, hr, h⟩ := h
    exact SW.ret (retQ.mk (errV (some v5)) (res1 rfl rfl) hr ⟨some v5, rfl, h⟩)

/-! ### (*lading/journal.Journal).All: function 33 -/
def journal_Journal_All.wp (F : Nat) (p1 : Option (Nat × Nat)) (H : SH) (K : Sl → SH → Prop) : Prop :=
  (p1 = none →
    ∃ Hr, SH.le Hr H ∧ K Sl.nil Hr
  ) ∧ (∀ b2 o3, p1 = some (b2, o3) →
    ∃ (l4 : Sl),
    SH.has H (b2, (o3 + 1)) (sv l4) ∧
    slices_Clone_string_string.wp F l4 H (fun l6 H7 =>
      ∃ Hr, SH.le Hr H7 ∧ K l6 Hr
    )
  )
set_option maxHeartbeats 8000000 in
theorem journal_Journal_All.sound (F : Nat) (p1 : Option (Nat × Nat)) (H : SH) (K : Sl → SH → Prop) (h : journal_Journal_All.wp F p1 H K) : SCalls Tryd.prog 33 #[pv p1] H (fun v H' => ∃ (l9 : Sl), v = sv l9 ∧ K l9 H') := by
  unfold journal_Journal_All.wp at h
  refine SCalls.body Tryd.func33 rfl (Nat.le_of_ble_eq_true rfl) ?_
  refine SW.seq ?_
  refine SW.region ?_
  refine SOps.val (v := sv Sl.nil) rfl (wantN rfl) (fun _ => by kernel_rfl) ?_
  refine SOps.nil ?_
  refine SW.seq ?_
  refine SW.seq ?_
  refine SW.region ?_
  refine SOps.val (v := pv p1) rfl (wantN rfl) (fun _ => by kernel_rfl) ?_
  rcases p1 with _ | ⟨b2, o3⟩
  · replace h := h.1 rfl
    refine SOps.val (v := .bool true) rfl (wantN rfl) (fun _ => by kernel_rfl) ?_
    refine SOps.nil ?_
    refine SW.cond_t (t := true) rfl rfl ?_
    refine SW.seq ?_
    refine SW.region ?_
    refine SOps.val (v := sv Sl.nil) rfl (wantN rfl) (fun _ => by kernel_rfl) ?_
    refine SOps.nil ?_
    obtain ⟨Hr, hr, h⟩ := h
    exact SW.ret (retQ.mk (sv Sl.nil) (res1 rfl rfl) hr ⟨Sl.nil, rfl, h⟩)
  · replace h := h.2 b2 o3 rfl
    refine SOps.val (v := .bool false) rfl (wantN rfl) (fun _ => by kernel_rfl) ?_
    refine SOps.nil ?_
    refine SW.cond_f (t := false) rfl rfl ?_
    refine SW.skip ?_
    refine SW.seq ?_
    refine SW.region ?_
    refine SOps.val (v := pv (some (b2, o3))) rfl (wantN rfl) (fun _ => by kernel_rfl) ?_
    refine SOps.val (v := pv (some (b2, o3))) rfl (wantN rfl) (fun _ => by kernel_rfl) ?_
    refine SOps.val (v := pv (some (b2, (o3 + 1)))) rfl (wantN rfl) (fun _ => by kernel_rfl) ?_
    obtain ⟨l4, c5, h⟩ := h
    refine SOps.rd (v := sv l4) rfl (wantN rfl) (fun w hw => ev_load1 rfl (fun _ => by kernel_rfl) (p := (b2, (o3 + 1))) rfl c5 w hw) ?_
    refine SOps.enter rfl (wantN rfl) (fun _ => by kernel_rfl) (slices_Clone_string_string.sound F l4 H _ h) ?_
    clear h
    rintro v H7 ⟨l6, rfl, h⟩
    refine SOps.val (v := sv l6) rfl (wantN rfl) (fun _ => by kernel_rfl) ?_
    refine SOps.nil ?_
    obtain ⟨Hr, hr, h⟩ := h
    exact SW.ret (retQ.mk (sv l6) (res1 rfl rfl) hr ⟨l6, rfl, h⟩)

/-! ### (*lading/journal.Journal).Len: function 38 -/
def journal_Journal_Len.wp (F : Nat) (p1 : Option (Nat × Nat)) (H : SH) (K : Int → SH → Prop) : Prop :=
  (p1 = none →
    ∃ Hr, SH.le Hr H ∧ K 0 Hr
  ) ∧ (∀ b2 o3, p1 = some (b2, o3) →
    ∃ (l4 : Sl),
    SH.has H (b2, (o3 + 1)) (sv l4) ∧
    ∃ Hr, SH.le Hr H ∧ K (l4.len : Int) Hr
  )
set_option maxHeartbeats 8000000 in
theorem journal_Journal_Len.sound (F : Nat) (p1 : Option (Nat × Nat)) (H : SH) (K : Int → SH → Prop) (h : journal_Journal_Len.wp F p1 H K) : SCalls Tryd.prog 38 #[pv p1] H (fun v H' => ∃ (x7 : Int), v = .int .i64 x7 ∧ K x7 H') := by
  unfold journal_Journal_Len.wp at h
  refine SCalls.body Tryd.func38 rfl (Nat.le_of_ble_eq_true rfl) ?_
  refine SW.seq ?_
  refine SW.region ?_
  refine SOps.val (v := .int .i64 0) rfl (wantN rfl) (fun _ => by kernel_rfl) ?_
  refine SOps.nil ?_
  refine SW.seq ?_
  refine SW.seq ?_
  refine SW.region ?_
  refine SOps.val (v := pv p1) rfl (wantN rfl) (fun _ => by kernel_rfl) ?_
  rcases p1 with _ | ⟨b2, o3⟩
  · replace h := h.1 rfl
    refine SOps.val (v := .bool true) rfl (wantN rfl) (fun _ => by kernel_rfl) ?_
    refine SOps.nil ?_
    refine SW.cond_t (t := true) rfl rfl ?_
    refine SW.seq ?_
    refine SW.region ?_
    refine SOps.val (v := .int .i64 0) rfl (wantN rfl) (fun _ => by kernel_rfl) ?_
    refine SOps.nil ?_
    obtain ⟨Hr, hr, h⟩ := h
    exact SW.ret (retQ.mk (.int .i64 0) (res1 rfl rfl) hr ⟨0, rfl, h⟩)
  · replace h := h.2 b2 o3 rfl
    refine SOps.val (v := .bool false) rfl (wantN rfl) (fun _ => by kernel_rfl) ?_
    refine SOps.nil ?_
    refine SW.cond_f (t := false) rfl rfl ?_
    refine SW.skip ?_
    refine SW.seq ?_
    refine SW.region ?_
    refine SOps.val (v := pv (some (b2, o3))) rfl (wantN rfl) (fun _ => by kernel_rfl) ?_
    refine SOps.val (v := pv (some (b2, o3))) rfl (wantN rfl) (fun _ => by kernel_rfl) ?_
    refine SOps.val (v := pv (some (b2, (o3 + 1)))) rfl (wantN rfl) (fun _ => by kernel_rfl) ?_
    obtain ⟨l4, c5, h⟩ := h
    refine SOps.rd (v := sv l4) rfl (wantN rfl) (fun w hw => ev_load1 rfl (fun _ => by kernel_rfl) (p := (b2, (o3 + 1))) rfl c5 w hw) ?_
    refine SOps.val (v := .int .i64 (l4.len : Int)) rfl (wantN rfl) (fun _ => by kernel_rfl) ?_
    refine SOps.val (v := .int .i64 (l4.len : Int)) rfl (wantN rfl) (fun _ => by kernel_rfl) ?_
    refine SOps.nil ?_
    obtain ⟨Hr, hr, h⟩ := h
    exact SW.ret (retQ.mk (.int .i64 (l4.len : Int)) (res1 rfl rfl) hr ⟨(l4.len : Int), rfl, h⟩)

/-! ### (*lading/journal.Journal).Bytes: function 39 -/
def journal_Journal_Bytes.wp (F : Nat) (p1 : Option (Nat × Nat)) (H : SH) (K : Int → SH → Prop) : Prop :=
  (p1 = none →
    ∃ Hr, SH.le Hr H ∧ K 0 Hr
  ) ∧ (∀ b2 o3, p1 = some (b2, o3) →
    ∃ (x4 : Int),
    SH.has H (b2, (o3 + 2)) (.int .i64 x4) ∧
    ∃ Hr, SH.le Hr H ∧ K x4 Hr
  )
set_option maxHeartbeats 8000000 in
theorem journal_Journal_Bytes.sound (F : Nat) (p1 : Option (Nat × Nat)) (H : SH) (K : Int → SH → Prop) (h : journal_Journal_Bytes.wp F p1 H K) : SCalls Tryd.prog 39 #[pv p1] H (fun v H' => ∃ (x7 : Int), v = .int .i64 x7 ∧ K x7 H') := by
  unfold journal_Journal_Bytes.wp at h
  refine SCalls.body Tryd.func39 rfl (Nat.le_of_ble_eq_true rfl) ?_
  refine SW.seq ?_
  refine SW.region ?_
  refine SOps.val (v := .int .i64 0) rfl (wantN rfl) (fun _ => by kernel_rfl) ?_
  refine SOps.nil ?_
  refine SW.seq ?_
  refine SW.seq ?_
  refine SW.region ?_
  refine SOps.val (v := pv p1) rfl (wantN rfl) (fun _ => by kernel_rfl) ?_
  rcases p1 with _ | ⟨b2, o3⟩
  · replace h := h.1 rfl
    refine SOps.val (v := .bool true) rfl (wantN rfl) (fun _ => by kernel_rfl) ?_
    refine SOps.nil ?_
    refine SW.cond_t (t := true) rfl rfl ?_
    refine SW.seq ?_
    refine SW.region ?_
    refine SOps.val (v := .int .i64 0) rfl (wantN rfl) (fun _ => by kernel_rfl) ?_
    refine SOps.nil ?_
    obtain ⟨Hr, hr, h⟩ := h
    exact SW.ret (retQ.mk (.int .i64 0) (res1 rfl rfl) hr ⟨0, rfl, h⟩)
  · replace h := h.2 b2 o3 rfl
    refine SOps.val (v := .bool false) rfl (wantN rfl) (fun _ => by kernel_rfl) ?_
    refine SOps.nil ?_
    refine SW.cond_f (t := false) rfl rfl ?_
    refine SW.skip ?_
    refine SW.seq ?_
    refine SW.region ?_
    refine SOps.val (v := pv (some (b2, o3))) rfl (wantN rfl) (fun _ => by kernel_rfl) ?_
    refine SOps.val (v := pv (some (b2, o3))) rfl (wantN rfl) (fun _ => by kernel_rfl) ?_
    refine SOps.val (v := pv (some (b2, (o3 + 2)))) rfl (wantN rfl) (fun _ => by kernel_rfl) ?_
    obtain ⟨x4, c5, h⟩ := h
    refine SOps.rd (v := .int .i64 x4) rfl (wantN rfl) (fun w hw => ev_load1 rfl (fun _ => by kernel_rfl) (p := (b2, (o3 + 2))) rfl c5 w hw) ?_
    refine SOps.val (v := .int .i64 x4) rfl (wantN rfl) (fun _ => by kernel_rfl) ?_
    refine SOps.nil ?_
    obtain ⟨Hr, hr, h⟩ := h
    exact SW.ret (retQ.mk (.int .i64 x4) (res1 rfl rfl) hr ⟨x4, rfl, h⟩)

end Go.Proofs.YtknhlipealekoaaDoor.K
