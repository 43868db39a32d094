import Derived.Test.YtknhlipealekoaaGladingref01
import Derived.Test.YtknhlipealekoaaSatWrit
set_option linter.unusedVariables false
set_option linter.unusedSimpArgs false
set_option maxRecDepth 100000
namespace Go.Proofs.Ytknhlipealekoaa.K
open Go
attribute [local irreducible] SW SOps SQ SCalls retQ

/-! ### lading/ladingref03.Sum: function 46 -/
def ladingref03_Sum.j1 (F : Nat) (K : Int → SH → Prop) (R1 : ByteArray → Int → Int → SH → Prop) (R2 : ByteArray → Int → Int → Int → SH → Prop) (s18 : ByteArray) (x19 : Int) (x20 : Int) (x21 : Int) (H : SH) : Prop :=
  R2 s18 x19 x20 (w64 (x21 + 1)) H
def ladingref03_Sum.j2 (F : Nat) (K : Int → SH → Prop) (R1 : ByteArray → Int → Int → SH → Prop) (R2 : ByteArray → Int → Int → Int → SH → Prop) (s14 : ByteArray) (x15 : Int) (x16 : Int) (x17 : Int) (H : SH) : Prop :=
  ladingref03_Sum.j1 F K R1 R2 s14 x15 x16 x17 H
def ladingref03_Sum.r2 (F : Nat) (K : Int → SH → Prop) (R1 : ByteArray → Int → Int → SH → Prop) (R2 : ByteArray → Int → Int → Int → SH → Prop) (s8 : ByteArray) (x9 : Int) (x10 : Int) (x11 : Int) (H : SH) : Prop :=
  (x11 < 8 →
    ((x9.tmod 2) = 1 →
      ladingref03_Sum.j2 F K R1 R2 s8 (ibits .xor .i64 (w64 (x9.tdiv 2)) 2197175160) x10 x11 H
    ) ∧ (¬ ((x9.tmod 2) = 1) →
      ladingref03_Sum.j2 F K R1 R2 s8 (w64 (x9.tdiv 2)) x10 x11 H
    )
  ) ∧ (¬ (x11 < 8) →
    R1 s8 x9 (w64 (x10 + 1)) H
  )
def ladingref03_Sum.l2 (F : Nat) (K : Int → SH → Prop) (R1 : ByteArray → Int → Int → SH → Prop) : Nat → ByteArray → Int → Int → Int → SH → Prop
  | 0, _, _, _, _, _ => False
  | k + 1, s8, x9, x10, x11, H => ladingref03_Sum.r2 F K R1 (ladingref03_Sum.l2 F K R1 k) s8 x9 x10 x11 H
def ladingref03_Sum.r1 (F : Nat) (K : Int → SH → Prop) (R1 : ByteArray → Int → Int → SH → Prop) (s2 : ByteArray) (x3 : Int) (x4 : Int) (H : SH) : Prop :=
  (x4 < (s2.size : Int) →
    0 ≤ x4 ∧
    x4 < (s2.size : Int) ∧
    ladingref03_Sum.l2 F K R1 F s2 (ibits .xor .i64 x3 (w64 (bt s2 x4))) x4 0 H
  ) ∧ (¬ (x4 < (s2.size : Int)) →
    ∃ Hr, SH.le Hr H ∧ K (w64 (4294967295 - x3)) Hr
  )
def ladingref03_Sum.l1 (F : Nat) (K : Int → SH → Prop) : Nat → ByteArray → Int → Int → SH → Prop
  | 0, _, _, _, _ => False
  | k + 1, s2, x3, x4, H => ladingref03_Sum.r1 F K (ladingref03_Sum.l1 F K k) s2 x3 x4 H
def ladingref03_Sum.wp (F : Nat) (s1 : ByteArray) (H : SH) (K : Int → SH → Prop) : Prop :=
  ladingref03_Sum.l1 F K F s1 4294967295 0 H
set_option maxHeartbeats 8000000 in
theorem ladingref03_Sum.sound (F : Nat) (s1 : ByteArray) (H : SH) (K : Int → SH → Prop) (h : ladingref03_Sum.wp F s1 H K) : SCalls Try.prog 46 #[.string s1] H (fun v H' => ∃ (x29 : Int), v = .int .i64 x29 ∧ K x29 H') := by
  unfold ladingref03_Sum.wp at h
  refine SCalls.body Try.func46 rfl (Nat.le_of_ble_eq_true rfl) ?_
  refine SW.seq ?_
  refine SW.region ?_
  refine SOps.val (v := .int .i64 0) rfl (wantN rfl) (fun _ => by kernel_rfl) ?_
  refine SOps.nil ?_
  refine SW.seq ?_
  refine SW.region ?_
  refine SOps.val (v := .int .i64 4294967295) rfl (wantN rfl) (fun _ => by kernel_rfl) ?_
  refine SOps.nil ?_
  refine SW.seq ?_
  refine SW.seq ?_
  refine SW.region ?_
  refine SOps.val (v := .int .i64 0) rfl (wantN rfl) (fun _ => by kernel_rfl) ?_
  refine SOps.nil ?_
  refine SW.block ?_
  refine SW.loop (fun k1 fr H => ∃ (g : Fr) (s2 : ByteArray) (x3 : Int) (x4 : Int), fr = g.upds [(0, (.string s2 : Value)), (3, (.int .i64 x3 : Value)), (4, (.int .i64 x4 : Value))] ∧ ladingref03_Sum.l1 F K k1 s2 x3 x4 H) F ⟨_, s1, 4294967295, 0, (Fr.upds_self _ _ ⟨rfl, rfl, rfl, trivial⟩), h⟩ ?_
  clear h
  rintro k1 fr H ⟨g, s2, x3, x4, rfl, h⟩
  cases k1 with
  | zero => exact h.elim
  | succ k1 =>
    replace h : ladingref03_Sum.r1 F K (ladingref03_Sum.l1 F K k1) s2 x3 x4 H := h
    unfold ladingref03_Sum.r1 at h
    refine SW.seq ?_
    refine SW.seq ?_
    refine SW.region ?_
    refine SOps.val (v := .int .i64 x4) rfl (wantN rfl) (fun _ => by kernel_rfl) ?_
    refine SOps.val (v := .string s2) rfl (wantN rfl) (fun _ => by kernel_rfl) ?_
    refine SOps.val (v := .int .i64 (s2.size : Int)) rfl (wantN rfl) (fun _ => by kernel_rfl) ?_
    refine SOps.val (v := .bool (decide (x4 < (s2.size : Int)))) rfl (wantN rfl) (fun _ => by kernel_rfl) ?_
    refine SOps.nil ?_
    by_cases c5 : x4 < (s2.size : Int)
    · replace h := h.1 c5
      have dc5 : (decide (x4 < (s2.size : Int))) = true := (decide_eq_true c5)
      refine SW.cond_t (t := decide (x4 < (s2.size : Int))) rfl dc5 ?_
      refine SW.skip ?_
      refine SW.seq ?_
      refine SW.block ?_
      refine SW.seq ?_
      refine SW.region ?_
      refine SOps.val (v := .int .i64 x3) rfl (wantN rfl) (fun _ => by kernel_rfl) ?_
      refine SOps.val (v := .string s2) rfl (wantN rfl) (fun _ => by kernel_rfl) ?_
      refine SOps.val (v := .int .i64 x4) rfl (wantN rfl) (fun _ => by kernel_rfl) ?_
      obtain ⟨c6, c7, h⟩ := h
      refine SOps.val (v := .int .u8 (bt s2 x4)) rfl (wantN rfl) (fun w => ev_idxB rfl Try.underlying9 rfl rfl c6 c7 w) ?_
      refine SOps.val (v := .int .i64 (w64 (bt s2 x4))) rfl (wantN rfl) (fun _ => by kernel_rfl) ?_
      refine SOps.val (v := .int .i64 (ibits .xor .i64 x3 (w64 (bt s2 x4)))) rfl (wantN rfl) (fun _ => by kernel_rfl) ?_
      refine SOps.val (v := .int .i64 (ibits .xor .i64 x3 (w64 (bt s2 x4)))) rfl (wantN rfl) (fun _ => by kernel_rfl) ?_
      refine SOps.nil ?_
      refine SW.seq ?_
      refine SW.region ?_
      refine SOps.val (v := .int .i64 0) rfl (wantN rfl) (fun _ => by kernel_rfl) ?_
      refine SOps.nil ?_
      refine SW.block ?_
      refine SW.loop (fun k2 fr H => ∃ (g : Fr) (s8 : ByteArray) (x9 : Int) (x10 : Int) (x11 : Int), fr = g.upds [(0, (.string s8 : Value)), (3, (.int .i64 x9 : Value)), (4, (.int .i64 x10 : Value)), (5, (.int .i64 x11 : Value))] ∧ ladingref03_Sum.l2 F K (ladingref03_Sum.l1 F K k1) k2 s8 x9 x10 x11 H) F ⟨_, s2, ibits .xor .i64 x3 (w64 (bt s2 x4)), x4, 0, (Fr.upds_self _ _ ⟨rfl, rfl, rfl, rfl, trivial⟩), h⟩ ?_
      clear h
      rintro k2 fr H ⟨g, s8, x9, x10, x11, rfl, h⟩
      cases k2 with
      | zero => exact h.elim
      | succ k2 =>
        replace h : ladingref03_Sum.r2 F K (ladingref03_Sum.l1 F K k1) (ladingref03_Sum.l2 F K (ladingref03_Sum.l1 F K k1) k2) s8 x9 x10 x11 H := h
        unfold ladingref03_Sum.r2 at h
        refine SW.seq ?_
        refine SW.seq ?_
        refine SW.region ?_
        refine SOps.val (v := .int .i64 x11) rfl (wantN rfl) (fun _ => by kernel_rfl) ?_
        refine SOps.val (v := .bool (decide (x11 < 8))) rfl (wantN rfl) (fun _ => by kernel_rfl) ?_
        refine SOps.nil ?_
        by_cases c12 : x11 < 8
        · replace h := h.1 c12
          have dc12 : (decide (x11 < 8)) = true := (decide_eq_true c12)
          refine SW.cond_t (t := decide (x11 < 8)) rfl dc12 ?_
          refine SW.skip ?_
          refine SW.seqJ (fun fr H => ∃ (g : Fr) (s18 : ByteArray) (x19 : Int) (x20 : Int) (x21 : Int), fr = g.upds [(0, (.string s18 : Value)), (3, (.int .i64 x19 : Value)), (4, (.int .i64 x20 : Value)), (5, (.int .i64 x21 : Value))] ∧ ladingref03_Sum.j1 F K (ladingref03_Sum.l1 F K k1) (ladingref03_Sum.l2 F K (ladingref03_Sum.l1 F K k1) k2) s18 x19 x20 x21 H) ?_ ?_
          · clear h
            rintro fr H ⟨g, s18, x19, x20, x21, rfl, h⟩
            unfold ladingref03_Sum.j1 at h
            refine SW.region ?_
            refine SOps.val (v := .int .i64 x21) rfl (wantN rfl) (fun _ => by kernel_rfl) ?_
            refine SOps.val (v := .int .i64 (w64 (x21 + 1))) rfl (wantN rfl) (fun _ => by kernel_rfl) ?_
            refine SOps.val (v := .int .i64 (w64 (x21 + 1))) rfl (wantN rfl) (fun _ => by kernel_rfl) ?_
            refine SOps.nil ?_
            exact ⟨k2, Nat.lt_succ_self k2, _, s18, x19, x20, w64 (x21 + 1), (Fr.upds_self _ _ ⟨rfl, rfl, rfl, rfl, trivial⟩), h⟩
          · skip
            refine SW.blockJ (fun fr H => ∃ (g : Fr) (s14 : ByteArray) (x15 : Int) (x16 : Int) (x17 : Int), fr = g.upds [(0, (.string s14 : Value)), (3, (.int .i64 x15 : Value)), (4, (.int .i64 x16 : Value)), (5, (.int .i64 x17 : Value))] ∧ ladingref03_Sum.j2 F K (ladingref03_Sum.l1 F K k1) (ladingref03_Sum.l2 F K (ladingref03_Sum.l1 F K k1) k2) s14 x15 x16 x17 H) ?_ ?_
            · clear h
              rintro fr H ⟨g, s14, x15, x16, x17, rfl, h⟩
              unfold ladingref03_Sum.j2 at h
              exact ⟨_, s14, x15, x16, x17, Fr.upds_self _ _ ⟨rfl, rfl, rfl, rfl, trivial⟩, h⟩
            · skip
              refine SW.seq ?_
              refine SW.region ?_
              refine SOps.val (v := .int .i64 x9) rfl (wantN rfl) (fun _ => by kernel_rfl) ?_
              refine SOps.val (v := .int .i64 (x9.tmod 2)) rfl (wantN rfl) (fun w => ev_rem rfl rfl rfl (by decide) w) ?_
              refine SOps.val (v := .bool ((x9.tmod 2) == 1)) rfl (wantN rfl) (fun _ => by kernel_rfl) ?_
              refine SOps.nil ?_
              by_cases c13 : (x9.tmod 2) = 1
              · replace h := h.1 c13
                have dc13 : ((x9.tmod 2) == 1) = true := (beq_iff_eq.mpr c13)
                refine SW.cond_t (t := ((x9.tmod 2) == 1)) rfl dc13 ?_
                refine SW.region ?_
                refine SOps.val (v := .int .i64 x9) rfl (wantN rfl) (fun _ => by kernel_rfl) ?_
                refine SOps.val (v := .int .i64 (w64 (x9.tdiv 2))) rfl (wantN rfl) (fun w => ev_quo rfl rfl rfl (by decide) w) ?_
                refine SOps.val (v := .int .i64 (ibits .xor .i64 (w64 (x9.tdiv 2)) 2197175160)) rfl (wantN rfl) (fun _ => by kernel_rfl) ?_
                refine SOps.val (v := .int .i64 (ibits .xor .i64 (w64 (x9.tdiv 2)) 2197175160)) rfl (wantN rfl) (fun _ => by kernel_rfl) ?_
                refine SOps.nil ?_
                exact ⟨_, s8, ibits .xor .i64 (w64 (x9.tdiv 2)) 2197175160, x10, x11, Fr.upds_self _ _ ⟨rfl, rfl, rfl, rfl, trivial⟩, h⟩
              · replace h := h.2 c13
                have dc13 : ((x9.tmod 2) == 1) = false := (beq_eq_false_iff_ne.mpr c13)
                refine SW.cond_f (t := ((x9.tmod 2) == 1)) rfl dc13 ?_
                refine SW.region ?_
                refine SOps.val (v := .int .i64 x9) rfl (wantN rfl) (fun _ => by kernel_rfl) ?_
                refine SOps.val (v := .int .i64 (w64 (x9.tdiv 2))) rfl (wantN rfl) (fun w => ev_quo rfl rfl rfl (by decide) w) ?_
                refine SOps.val (v := .int .i64 (w64 (x9.tdiv 2))) rfl (wantN rfl) (fun _ => by kernel_rfl) ?_
                refine SOps.nil ?_
                exact ⟨_, s8, w64 (x9.tdiv 2), x10, x11, Fr.upds_self _ _ ⟨rfl, rfl, rfl, rfl, trivial⟩, h⟩
        · replace h := h.2 c12
          have dc12 : (decide (x11 < 8)) = false := (decide_eq_false c12)
          refine SW.cond_f (t := decide (x11 < 8)) rfl dc12 ?_
          refine SW.exit ?_
          refine SW.region ?_
          refine SOps.val (v := .int .i64 x10) rfl (wantN rfl) (fun _ => by kernel_rfl) ?_
          refine SOps.val (v := .int .i64 (w64 (x10 + 1))) rfl (wantN rfl) (fun _ => by kernel_rfl) ?_
          refine SOps.val (v := .int .i64 (w64 (x10 + 1))) rfl (wantN rfl) (fun _ => by kernel_rfl) ?_
          refine SOps.nil ?_
          exact ⟨k1, Nat.lt_succ_self k1, _, s8, x9, w64 (x10 + 1), (Fr.upds_self _ _ ⟨rfl, rfl, rfl, trivial⟩), h⟩
    · replace h := h.2 c5
      have dc5 : (decide (x4 < (s2.size : Int))) = false := (decide_eq_false c5)
      refine SW.cond_f (t := decide (x4 < (s2.size : Int))) rfl dc5 ?_
      refine SW.exit ?_
      refine SW.seq ?_
      refine SW.region ?_
      refine SOps.val (v := .int .i64 x3) rfl (wantN rfl) (fun _ => by kernel_rfl) ?_
      refine SOps.val (v := .int .i64 (w64 (4294967295 - x3))) rfl (wantN rfl) (fun _ => by kernel_rfl) ?_
      refine SOps.val (v := .int .i64 (w64 (4294967295 - x3))) rfl (wantN rfl) (fun _ => by kernel_rfl) ?_
      refine SOps.nil ?_
      obtain ⟨Hr, hr, h⟩ := h
      exact SW.ret (retQ.mk (.int .i64 (w64 (4294967295 - x3))) (res1 rfl rfl) hr ⟨w64 (4294967295 - x3), rfl, h⟩)

/-! ### lading/ladingref03.Seal: function 38 -/
def ladingref03_Seal.wp (F : Nat) (s1 : ByteArray) (H : SH) (K : ByteArray → SH → Prop) : Prop :=
  ladingref01_Fixed.wp F 2 (s1.size : Int) H (fun s2 H3 =>
    s2.size + s1.size ≤ 9223372036854775807 ∧
    ladingref03_Sum.wp F (s2 ++ s1) H3 (fun x5 H6 =>
      ladingref01_Fixed.wp F 4 x5 H6 (fun s7 H8 =>
        s7.size + (s2 ++ s1).size ≤ 9223372036854775807 ∧
        ∃ Hr, SH.le Hr H8 ∧ K (s7 ++ (s2 ++ s1)) Hr
      )
    )
  )
set_option maxHeartbeats 8000000 in
theorem ladingref03_Seal.sound (F : Nat) (s1 : ByteArray) (H : SH) (K : ByteArray → SH → Prop) (h : ladingref03_Seal.wp F s1 H K) : SCalls Try.prog 38 #[.string s1] H (fun v H' => ∃ (s11 : ByteArray), v = .string s11 ∧ K s11 H') := by
  unfold ladingref03_Seal.wp at h
  refine SCalls.body Try.func38 rfl (Nat.le_of_ble_eq_true rfl) ?_
  refine SW.seq ?_
  refine SW.region ?_
  refine SOps.val (v := .string ByteArray.empty) rfl (wantN rfl) (fun _ => by kernel_rfl) ?_
  refine SOps.nil ?_
  refine SW.seq ?_
  refine SW.region ?_
  refine SOps.val (v := .string s1) rfl (wantN rfl) (fun _ => by kernel_rfl) ?_
  refine SOps.val (v := .int .i64 (s1.size : Int)) rfl (wantN rfl) (fun _ => by kernel_rfl) ?_
  refine SOps.enter rfl (wantN rfl) (fun _ => by kernel_rfl) (ladingref01_Fixed.sound F 2 (s1.size : Int) H _ h) ?_
  clear h
  rintro v H3 ⟨s2, rfl, h⟩
  refine SOps.val (v := .string s1) rfl (wantN rfl) (fun _ => by kernel_rfl) ?_
  obtain ⟨c4, h⟩ := h
  refine SOps.val (v := .string (s2 ++ s1)) rfl (wantN rfl) (fun w => ev_cat rfl rfl rfl c4 w) ?_
  refine SOps.val (v := .string (s2 ++ s1)) rfl (wantN rfl) (fun _ => by kernel_rfl) ?_
  refine SOps.nil ?_
  refine SW.seq ?_
  refine SW.region ?_
  refine SOps.val (v := .string (s2 ++ s1)) rfl (wantN rfl) (fun _ => by kernel_rfl) ?_
  refine SOps.enter rfl (wantN rfl) (fun _ => by kernel_rfl) (ladingref03_Sum.sound F (s2 ++ s1) H3 _ h) ?_
  clear h
  rintro v H6 ⟨x5, rfl, h⟩
  refine SOps.enter rfl (wantN rfl) (fun _ => by kernel_rfl) (ladingref01_Fixed.sound F 4 x5 H6 _ h) ?_
  clear h
  rintro v H8 ⟨s7, rfl, h⟩
  refine SOps.val (v := .string (s2 ++ s1)) rfl (wantN rfl) (fun _ => by kernel_rfl) ?_
  obtain ⟨c9, h⟩ := h
  refine SOps.val (v := .string (s7 ++ (s2 ++ s1))) rfl (wantN rfl) (fun w => ev_cat rfl rfl rfl c9 w) ?_
  refine SOps.val (v := .string (s7 ++ (s2 ++ s1))) rfl (wantN rfl) (fun _ => by kernel_rfl) ?_
  refine SOps.nil ?_
  obtain ⟨Hr, hr, h⟩ := h
  exact SW.ret (retQ.mk (.string (s7 ++ (s2 ++ s1))) (res1 rfl rfl) hr ⟨s7 ++ (s2 ++ s1), rfl, h⟩)

/-! ### lading/ladingref03.Next: function 15 -/
def ladingref03_Next.wp (F : Nat) (s1 : ByteArray) (x2 : Int) (H : SH) (K : ByteArray → Int → Int → SH → Prop) : Prop :=
  ∀ b3, H b3 = none →
  (x2 < 0 →
    SH.wrs (SH.upd H b3 ⟨[.string ByteArray.empty, .int .i64 0, .int .i64 0], 43, false, 3⟩) (b3, 0) 3 ∧
    ∃ (s7 : ByteArray) (x8 : Int) (x9 : Int),
    SH.row (SH.setl (SH.upd H b3 ⟨[.string ByteArray.empty, .int .i64 0, .int .i64 0], 43, false, 3⟩) (b3, 0) [.string ByteArray.empty, .int .i64 x2, .int .i64 1]) (some (b3, 0)) [.string s7, .int .i64 x8, .int .i64 x9] ∧
    ∃ Hr, SH.le Hr (SH.setl (SH.upd H b3 ⟨[.string ByteArray.empty, .int .i64 0, .int .i64 0], 43, false, 3⟩) (b3, 0) [.string ByteArray.empty, .int .i64 x2, .int .i64 1]) ∧ K s7 x8 x9 Hr
  ) ∧ (¬ (x2 < 0) →
    (x2 > (s1.size : Int) →
      SH.wrs (SH.upd H b3 ⟨[.string ByteArray.empty, .int .i64 0, .int .i64 0], 43, false, 3⟩) (b3, 0) 3 ∧
      ∃ (s13 : ByteArray) (x14 : Int) (x15 : Int),
      SH.row (SH.setl (SH.upd H b3 ⟨[.string ByteArray.empty, .int .i64 0, .int .i64 0], 43, false, 3⟩) (b3, 0) [.string ByteArray.empty, .int .i64 x2, .int .i64 1]) (some (b3, 0)) [.string s13, .int .i64 x14, .int .i64 x15] ∧
      ∃ Hr, SH.le Hr (SH.setl (SH.upd H b3 ⟨[.string ByteArray.empty, .int .i64 0, .int .i64 0], 43, false, 3⟩) (b3, 0) [.string ByteArray.empty, .int .i64 x2, .int .i64 1]) ∧ K s13 x14 x15 Hr
    ) ∧ (¬ (x2 > (s1.size : Int)) →
      ((s1.size : Int) < (w64 (x2 + 6)) →
        SH.wrs (SH.upd H b3 ⟨[.string ByteArray.empty, .int .i64 0, .int .i64 0], 43, false, 3⟩) (b3, 0) 3 ∧
        ∃ (s19 : ByteArray) (x20 : Int) (x21 : Int),
        SH.row (SH.setl (SH.upd H b3 ⟨[.string ByteArray.empty, .int .i64 0, .int .i64 0], 43, false, 3⟩) (b3, 0) [.string ByteArray.empty, .int .i64 x2, .int .i64 3]) (some (b3, 0)) [.string s19, .int .i64 x20, .int .i64 x21] ∧
        ∃ Hr, SH.le Hr (SH.setl (SH.upd H b3 ⟨[.string ByteArray.empty, .int .i64 0, .int .i64 0], 43, false, 3⟩) (b3, 0) [.string ByteArray.empty, .int .i64 x2, .int .i64 3]) ∧ K s19 x20 x21 Hr
      ) ∧ (¬ ((s1.size : Int) < (w64 (x2 + 6))) →
        0 ≤ (w64 (x2 + 4)) ∧
        (w64 (x2 + 4)) < (s1.size : Int) ∧
        0 ≤ (w64 (x2 + 5)) ∧
        (w64 (x2 + 5)) < (s1.size : Int) ∧
        ((w64 ((w64 (bt s1 (w64 (x2 + 4)))) + (w64 (256 * (w64 (bt s1 (w64 (x2 + 5)))))))) > 60000 →
          SH.wrs (SH.upd H b3 ⟨[.string ByteArray.empty, .int .i64 0, .int .i64 0], 43, false, 3⟩) (b3, 0) 3 ∧
          ∃ (s29 : ByteArray) (x30 : Int) (x31 : Int),
          SH.row (SH.setl (SH.upd H b3 ⟨[.string ByteArray.empty, .int .i64 0, .int .i64 0], 43, false, 3⟩) (b3, 0) [.string ByteArray.empty, .int .i64 x2, .int .i64 6]) (some (b3, 0)) [.string s29, .int .i64 x30, .int .i64 x31] ∧
          ∃ Hr, SH.le Hr (SH.setl (SH.upd H b3 ⟨[.string ByteArray.empty, .int .i64 0, .int .i64 0], 43, false, 3⟩) (b3, 0) [.string ByteArray.empty, .int .i64 x2, .int .i64 6]) ∧ K s29 x30 x31 Hr
        ) ∧ (¬ ((w64 ((w64 (bt s1 (w64 (x2 + 4)))) + (w64 (256 * (w64 (bt s1 (w64 (x2 + 5)))))))) > 60000) →
          ((s1.size : Int) < (w64 ((w64 (x2 + 6)) + (w64 ((w64 (bt s1 (w64 (x2 + 4)))) + (w64 (256 * (w64 (bt s1 (w64 (x2 + 5)))))))))) →
            SH.wrs (SH.upd H b3 ⟨[.string ByteArray.empty, .int .i64 0, .int .i64 0], 43, false, 3⟩) (b3, 0) 3 ∧
            ∃ (s35 : ByteArray) (x36 : Int) (x37 : Int),
            SH.row (SH.setl (SH.upd H b3 ⟨[.string ByteArray.empty, .int .i64 0, .int .i64 0], 43, false, 3⟩) (b3, 0) [.string ByteArray.empty, .int .i64 x2, .int .i64 3]) (some (b3, 0)) [.string s35, .int .i64 x36, .int .i64 x37] ∧
            ∃ Hr, SH.le Hr (SH.setl (SH.upd H b3 ⟨[.string ByteArray.empty, .int .i64 0, .int .i64 0], 43, false, 3⟩) (b3, 0) [.string ByteArray.empty, .int .i64 x2, .int .i64 3]) ∧ K s35 x36 x37 Hr
          ) ∧ (¬ ((s1.size : Int) < (w64 ((w64 (x2 + 6)) + (w64 ((w64 (bt s1 (w64 (x2 + 4)))) + (w64 (256 * (w64 (bt s1 (w64 (x2 + 5))))))))))) →
            0 ≤ (w64 (x2 + 6)) ∧
            (w64 (x2 + 6)) ≤ (w64 ((w64 (x2 + 6)) + (w64 ((w64 (bt s1 (w64 (x2 + 4)))) + (w64 (256 * (w64 (bt s1 (w64 (x2 + 5)))))))))) ∧
            (w64 ((w64 (x2 + 6)) + (w64 ((w64 (bt s1 (w64 (x2 + 4)))) + (w64 (256 * (w64 (bt s1 (w64 (x2 + 5)))))))))) ≤ (s1.size : Int) ∧
            0 ≤ x2 ∧
            x2 ≤ (w64 ((w64 (x2 + 6)) + (w64 ((w64 (bt s1 (w64 (x2 + 4)))) + (w64 (256 * (w64 (bt s1 (w64 (x2 + 5)))))))))) ∧
            (w64 ((w64 (x2 + 6)) + (w64 ((w64 (bt s1 (w64 (x2 + 4)))) + (w64 (256 * (w64 (bt s1 (w64 (x2 + 5)))))))))) ≤ (s1.size : Int) ∧
            ∃ (s45 : ByteArray),
            ladingref03_Seal.wp F (s1.extract (w64 (x2 + 6)).toNat (w64 ((w64 (x2 + 6)) + (w64 ((w64 (bt s1 (w64 (x2 + 4)))) + (w64 (256 * (w64 (bt s1 (w64 (x2 + 5)))))))))).toNat) (SH.upd H b3 ⟨[.string ByteArray.empty, .int .i64 0, .int .i64 0], 43, false, 3⟩) (fun s45' H' => s45' = s45 ∧ H' = (SH.upd H b3 ⟨[.string ByteArray.empty, .int .i64 0, .int .i64 0], 43, false, 3⟩)) ∧
            (((s1.extract x2.toNat (w64 ((w64 (x2 + 6)) + (w64 ((w64 (bt s1 (w64 (x2 + 4)))) + (w64 (256 * (w64 (bt s1 (w64 (x2 + 5)))))))))).toNat) = s45) →
              SH.wrs (SH.upd H b3 ⟨[.string ByteArray.empty, .int .i64 0, .int .i64 0], 43, false, 3⟩) (b3, 0) 3 ∧
              ∃ (s49 : ByteArray) (x50 : Int) (x51 : Int),
              SH.row (SH.setl (SH.upd H b3 ⟨[.string ByteArray.empty, .int .i64 0, .int .i64 0], 43, false, 3⟩) (b3, 0) [.string (s1.extract (w64 (x2 + 6)).toNat (w64 ((w64 (x2 + 6)) + (w64 ((w64 (bt s1 (w64 (x2 + 4)))) + (w64 (256 * (w64 (bt s1 (w64 (x2 + 5)))))))))).toNat), .int .i64 (w64 ((w64 (x2 + 6)) + (w64 ((w64 (bt s1 (w64 (x2 + 4)))) + (w64 (256 * (w64 (bt s1 (w64 (x2 + 5)))))))))), .int .i64 0]) (some (b3, 0)) [.string s49, .int .i64 x50, .int .i64 x51] ∧
              ∃ Hr, SH.le Hr (SH.setl (SH.upd H b3 ⟨[.string ByteArray.empty, .int .i64 0, .int .i64 0], 43, false, 3⟩) (b3, 0) [.string (s1.extract (w64 (x2 + 6)).toNat (w64 ((w64 (x2 + 6)) + (w64 ((w64 (bt s1 (w64 (x2 + 4)))) + (w64 (256 * (w64 (bt s1 (w64 (x2 + 5)))))))))).toNat), .int .i64 (w64 ((w64 (x2 + 6)) + (w64 ((w64 (bt s1 (w64 (x2 + 4)))) + (w64 (256 * (w64 (bt s1 (w64 (x2 + 5)))))))))), .int .i64 0]) ∧ K s49 x50 x51 Hr
            ) ∧ (¬ (((s1.extract x2.toNat (w64 ((w64 (x2 + 6)) + (w64 ((w64 (bt s1 (w64 (x2 + 4)))) + (w64 (256 * (w64 (bt s1 (w64 (x2 + 5)))))))))).toNat) = s45)) →
              SH.wrs (SH.upd H b3 ⟨[.string ByteArray.empty, .int .i64 0, .int .i64 0], 43, false, 3⟩) (b3, 0) 3 ∧
              ∃ (s54 : ByteArray) (x55 : Int) (x56 : Int),
              SH.row (SH.setl (SH.upd H b3 ⟨[.string ByteArray.empty, .int .i64 0, .int .i64 0], 43, false, 3⟩) (b3, 0) [.string ByteArray.empty, .int .i64 x2, .int .i64 5]) (some (b3, 0)) [.string s54, .int .i64 x55, .int .i64 x56] ∧
              ∃ Hr, SH.le Hr (SH.setl (SH.upd H b3 ⟨[.string ByteArray.empty, .int .i64 0, .int .i64 0], 43, false, 3⟩) (b3, 0) [.string ByteArray.empty, .int .i64 x2, .int .i64 5]) ∧ K s54 x55 x56 Hr
            )
          )
        )
      )
    )
  )
set_option maxHeartbeats 8000000 in
theorem ladingref03_Next.sound (F : Nat) (s1 : ByteArray) (x2 : Int) (H : SH) (K : ByteArray → Int → Int → SH → Prop) (h : ladingref03_Next.wp F s1 x2 H K) : SCalls Try.prog 15 #[.string s1, .int .i64 x2] H (fun v H' => ∃ (s61 : ByteArray) (x62 : Int) (x63 : Int), v = .agg #[.string s61, .int .i64 x62, .int .i64 x63] ∧ K s61 x62 x63 H') := by
  unfold ladingref03_Next.wp at h
  refine SCalls.body Try.func15 rfl (Nat.le_of_ble_eq_true rfl) ?_
  refine SW.seq ?_
  refine SW.region ?_
  refine SOps.alloc rfl rfl (wantN rfl) (z := .agg #[.string ByteArray.empty, .int .i64 0, .int .i64 0]) (by kernel_rfl) (fun b3 c4 => ?_)
  replace h := h b3 c4
  refine SOps.nil ?_
  refine SW.seq ?_
  refine SW.seq ?_
  refine SW.region ?_
  refine SOps.val (v := .int .i64 x2) rfl (wantN rfl) (fun _ => by kernel_rfl) ?_
  refine SOps.val (v := .bool (decide (x2 < 0))) rfl (wantN rfl) (fun _ => by kernel_rfl) ?_
  refine SOps.val (v := .bool (decide (x2 < 0))) rfl (wantN rfl) (fun _ => by kernel_rfl) ?_
  by_cases c5 : x2 < 0
  · replace h := h.1 c5
    have dc5 : (decide (x2 < 0)) = true := (decide_eq_true c5)
    refine SOps.off rfl (wantX (c := decide (x2 < 0)) rfl rfl rfl dc5) ?_
    refine SOps.off rfl (wantX (c := decide (x2 < 0)) rfl rfl rfl dc5) ?_
    refine SOps.off rfl (wantX (c := decide (x2 < 0)) rfl rfl rfl dc5) ?_
    refine SOps.off rfl (wantX (c := decide (x2 < 0)) rfl rfl rfl dc5) ?_
    refine SOps.val (v := .bool true) rfl (wantN rfl) (fun w => ev_pickT (v := .bool true) rfl (t := decide (x2 < 0)) rfl dc5 rfl w) ?_
    refine SOps.nil ?_
    refine SW.cond_t (t := true) rfl rfl ?_
    refine SW.seq ?_
    refine SW.region ?_
    refine SOps.val (v := .int .i64 x2) rfl (wantN rfl) (fun _ => by kernel_rfl) ?_
    refine SOps.val (v := .agg #[.string ByteArray.empty, .int .i64 x2, .int .i64 1]) rfl (wantN rfl) (fun _ => by kernel_rfl) ?_
    obtain ⟨c6, h⟩ := h
    refine SOps.storeL (p := (b3, 0)) (v := .agg #[.string ByteArray.empty, .int .i64 x2, .int .i64 1]) (cs := [.string ByteArray.empty, .int .i64 x2, .int .i64 1]) rfl rfl (wantN rfl) (size := 3) (by kernel_rfl) rfl rfl rfl rfl (by simp [Value.oneCell', errV_one, pv, sv]) c6 ?_
    refine SOps.nil ?_
    obtain ⟨s7, x8, x9, c10, Hr, hr, h⟩ := h
    exact SW.ret (retQ.mkM (.agg #[.string s7, .int .i64 x8, .int .i64 x9]) (resCN (size := 3) (p := (b3, 0)) (T := 43) rfl rfl (fun _ => by kernel_rfl) (by kernel_rfl) rfl c10) hr ⟨s7, x8, x9, rfl, h⟩)
  · replace h := h.2 c5
    have dc5 : (decide (x2 < 0)) = false := (decide_eq_false c5)
    refine SOps.val (v := .int .i64 x2) rfl (wantY (c := decide (x2 < 0)) rfl rfl rfl dc5) (fun _ => by kernel_rfl) ?_
    refine SOps.val (v := .string s1) rfl (wantY (c := decide (x2 < 0)) rfl rfl rfl dc5) (fun _ => by kernel_rfl) ?_
    refine SOps.val (v := .int .i64 (s1.size : Int)) rfl (wantY (c := decide (x2 < 0)) rfl rfl rfl dc5) (fun _ => by kernel_rfl) ?_
    refine SOps.val (v := .bool (decide (x2 > (s1.size : Int)))) rfl (wantY (c := decide (x2 < 0)) rfl rfl rfl dc5) (fun _ => by kernel_rfl) ?_
    refine SOps.val (v := .bool (decide (x2 > (s1.size : Int)))) rfl (wantN rfl) (fun w => ev_pickF (v := .bool (decide (x2 > (s1.size : Int)))) rfl (t := decide (x2 < 0)) rfl dc5 rfl w) ?_
    refine SOps.nil ?_
    by_cases c11 : x2 > (s1.size : Int)
    · replace h := h.1 c11
      have dc11 : (decide (x2 > (s1.size : Int))) = true := (decide_eq_true c11)
      refine SW.cond_t (t := decide (x2 > (s1.size : Int))) rfl dc11 ?_
      refine SW.seq ?_
      refine SW.region ?_
      refine SOps.val (v := .int .i64 x2) rfl (wantN rfl) (fun _ => by kernel_rfl) ?_
      refine SOps.val (v := .agg #[.string ByteArray.empty, .int .i64 x2, .int .i64 1]) rfl (wantN rfl) (fun _ => by kernel_rfl) ?_
      obtain ⟨c12, h⟩ := h
      refine SOps.storeL (p := (b3, 0)) (v := .agg #[.string ByteArray.empty, .int .i64 x2, .int .i64 1]) (cs := [.string ByteArray.empty, .int .i64 x2, .int .i64 1]) rfl rfl (wantN rfl) (size := 3) (by kernel_rfl) rfl rfl rfl rfl (by simp [Value.oneCell', errV_one, pv, sv]) c12 ?_
      refine SOps.nil ?_
      obtain ⟨s13, x14, x15, c16, Hr, hr, h⟩ := h
      exact SW.ret (retQ.mkM (.agg #[.string s13, .int .i64 x14, .int .i64 x15]) (resCN (size := 3) (p := (b3, 0)) (T := 43) rfl rfl (fun _ => by kernel_rfl) (by kernel_rfl) rfl c16) hr ⟨s13, x14, x15, rfl, h⟩)
    · replace h := h.2 c11
      have dc11 : (decide (x2 > (s1.size : Int))) = false := (decide_eq_false c11)
      refine SW.cond_f (t := decide (x2 > (s1.size : Int))) rfl dc11 ?_
      refine SW.skip ?_
      refine SW.seq ?_
      refine SW.seq ?_
      refine SW.region ?_
      refine SOps.val (v := .string s1) rfl (wantN rfl) (fun _ => by kernel_rfl) ?_
      refine SOps.val (v := .int .i64 (s1.size : Int)) rfl (wantN rfl) (fun _ => by kernel_rfl) ?_
      refine SOps.val (v := .int .i64 x2) rfl (wantN rfl) (fun _ => by kernel_rfl) ?_
      refine SOps.val (v := .int .i64 (w64 (x2 + 6))) rfl (wantN rfl) (fun _ => by kernel_rfl) ?_
      refine SOps.val (v := .bool (decide ((s1.size : Int) < (w64 (x2 + 6))))) rfl (wantN rfl) (fun _ => by kernel_rfl) ?_
      refine SOps.nil ?_
      by_cases c17 : (s1.size : Int) < (w64 (x2 + 6))
      · replace h := h.1 c17
        have dc17 : (decide ((s1.size : Int) < (w64 (x2 + 6)))) = true := (decide_eq_true c17)
        refine SW.cond_t (t := decide ((s1.size : Int) < (w64 (x2 + 6)))) rfl dc17 ?_
        refine SW.seq ?_
        refine SW.region ?_
        refine SOps.val (v := .int .i64 x2) rfl (wantN rfl) (fun _ => by kernel_rfl) ?_
        refine SOps.val (v := .agg #[.string ByteArray.empty, .int .i64 x2, .int .i64 3]) rfl (wantN rfl) (fun _ => by kernel_rfl) ?_
        obtain ⟨c18, h⟩ := h
        refine SOps.storeL (p := (b3, 0)) (v := .agg #[.string ByteArray.empty, .int .i64 x2, .int .i64 3]) (cs := [.string ByteArray.empty, .int .i64 x2, .int .i64 3]) rfl rfl (wantN rfl) (size := 3) (by kernel_rfl) rfl rfl rfl rfl (by simp [Value.oneCell', errV_one, pv, sv]) c18 ?_
        refine SOps.nil ?_
        obtain ⟨s19, x20, x21, c22, Hr, hr, h⟩ := h
        exact SW.ret (retQ.mkM (.agg #[.string s19, .int .i64 x20, .int .i64 x21]) (resCN (size := 3) (p := (b3, 0)) (T := 43) rfl rfl (fun _ => by kernel_rfl) (by kernel_rfl) rfl c22) hr ⟨s19, x20, x21, rfl, h⟩)
      · replace h := h.2 c17
        have dc17 : (decide ((s1.size : Int) < (w64 (x2 + 6)))) = false := (decide_eq_false c17)
        refine SW.cond_f (t := decide ((s1.size : Int) < (w64 (x2 + 6)))) rfl dc17 ?_
        refine SW.skip ?_
        refine SW.seq ?_
        refine SW.draw (by kernel_rfl) (by kernel_rfl) ?_
        refine SQ.val (v := .string s1) rfl (wantN rfl) (fun _ => by kernel_rfl) ?_
        refine SQ.val (v := .int .i64 x2) rfl (wantN rfl) (fun _ => by kernel_rfl) ?_
        refine SQ.val (v := .int .i64 (w64 (x2 + 4))) rfl (wantN rfl) (fun _ => by kernel_rfl) ?_
        obtain ⟨c23, c24, h⟩ := h
        refine SQ.val (v := .int .u8 (bt s1 (w64 (x2 + 4)))) rfl (wantN rfl) (fun w => ev_idxB rfl Try.underlying9 rfl rfl c23 c24 w) ?_
        refine SQ.val (v := .int .i64 (w64 (bt s1 (w64 (x2 + 4))))) rfl (wantN rfl) (fun _ => by kernel_rfl) ?_
        refine SQ.val (v := .string s1) rfl (wantN rfl) (fun _ => by kernel_rfl) ?_
        refine SQ.val (v := .int .i64 x2) rfl (wantN rfl) (fun _ => by kernel_rfl) ?_
        refine SQ.val (v := .int .i64 (w64 (x2 + 5))) rfl (wantN rfl) (fun _ => by kernel_rfl) ?_
        obtain ⟨c25, c26, h⟩ := h
        refine SQ.val (v := .int .u8 (bt s1 (w64 (x2 + 5)))) rfl (wantN rfl) (fun w => ev_idxB rfl Try.underlying9 rfl rfl c25 c26 w) ?_
        refine SQ.val (v := .int .i64 (w64 (bt s1 (w64 (x2 + 5))))) rfl (wantN rfl) (fun _ => by kernel_rfl) ?_
        refine SQ.val (v := .int .i64 (w64 (256 * (w64 (bt s1 (w64 (x2 + 5))))))) rfl (wantN rfl) (fun _ => by kernel_rfl) ?_
        refine SQ.val (v := .int .i64 (w64 ((w64 (bt s1 (w64 (x2 + 4)))) + (w64 (256 * (w64 (bt s1 (w64 (x2 + 5))))))))) rfl (wantN rfl) (fun _ => by kernel_rfl) ?_
        refine SQ.val (v := .int .i64 (w64 ((w64 (bt s1 (w64 (x2 + 4)))) + (w64 (256 * (w64 (bt s1 (w64 (x2 + 5))))))))) rfl (wantN rfl) (fun _ => by kernel_rfl) ?_
        refine SQ.nil ?_
        refine SW.seq ?_
        refine SW.seq ?_
        refine SW.region ?_
        refine SOps.val (v := .int .i64 (w64 ((w64 (bt s1 (w64 (x2 + 4)))) + (w64 (256 * (w64 (bt s1 (w64 (x2 + 5))))))))) rfl (wantN rfl) (fun _ => by kernel_rfl) ?_
        refine SOps.val (v := .bool (decide ((w64 ((w64 (bt s1 (w64 (x2 + 4)))) + (w64 (256 * (w64 (bt s1 (w64 (x2 + 5)))))))) > 60000))) rfl (wantN rfl) (fun _ => by kernel_rfl) ?_
        refine SOps.nil ?_
        by_cases c27 : (w64 ((w64 (bt s1 (w64 (x2 + 4)))) + (w64 (256 * (w64 (bt s1 (w64 (x2 + 5)))))))) > 60000
        · replace h := h.1 c27
          have dc27 : (decide ((w64 ((w64 (bt s1 (w64 (x2 + 4)))) + (w64 (256 * (w64 (bt s1 (w64 (x2 + 5)))))))) > 60000)) = true := (decide_eq_true c27)
          refine SW.cond_t (t := decide ((w64 ((w64 (bt s1 (w64 (x2 + 4)))) + (w64 (256 * (w64 (bt s1 (w64 (x2 + 5)))))))) > 60000)) rfl dc27 ?_
          refine SW.seq ?_
          refine SW.region ?_
          refine SOps.val (v := .int .i64 x2) rfl (wantN rfl) (fun _ => by kernel_rfl) ?_
          refine SOps.val (v := .agg #[.string ByteArray.empty, .int .i64 x2, .int .i64 6]) rfl (wantN rfl) (fun _ => by kernel_rfl) ?_
          obtain ⟨c28, h⟩ := h
          refine SOps.storeL (p := (b3, 0)) (v := .agg #[.string ByteArray.empty, .int .i64 x2, .int .i64 6]) (cs := [.string ByteArray.empty, .int .i64 x2, .int .i64 6]) rfl rfl (wantN rfl) (size := 3) (by kernel_rfl) rfl rfl rfl rfl (by simp [Value.oneCell', errV_one, pv, sv]) c28 ?_
          refine SOps.nil ?_
          obtain ⟨s29, x30, x31, c32, Hr, hr, h⟩ := h
          exact SW.ret (retQ.mkM (.agg #[.string s29, .int .i64 x30, .int .i64 x31]) (resCN (size := 3) (p := (b3, 0)) (T := 43) rfl rfl (fun _ => by kernel_rfl) (by kernel_rfl) rfl c32) hr ⟨s29, x30, x31, rfl, h⟩)
        · replace h := h.2 c27
          have dc27 : (decide ((w64 ((w64 (bt s1 (w64 (x2 + 4)))) + (w64 (256 * (w64 (bt s1 (w64 (x2 + 5)))))))) > 60000)) = false := (decide_eq_false c27)
          refine SW.cond_f (t := decide ((w64 ((w64 (bt s1 (w64 (x2 + 4)))) + (w64 (256 * (w64 (bt s1 (w64 (x2 + 5)))))))) > 60000)) rfl dc27 ?_
          refine SW.skip ?_
          refine SW.seq ?_
          refine SW.seq ?_
          refine SW.region ?_
          refine SOps.val (v := .string s1) rfl (wantN rfl) (fun _ => by kernel_rfl) ?_
          refine SOps.val (v := .int .i64 (s1.size : Int)) rfl (wantN rfl) (fun _ => by kernel_rfl) ?_
          refine SOps.val (v := .int .i64 x2) rfl (wantN rfl) (fun _ => by kernel_rfl) ?_
          refine SOps.val (v := .int .i64 (w64 (x2 + 6))) rfl (wantN rfl) (fun _ => by kernel_rfl) ?_
          refine SOps.val (v := .int .i64 (w64 ((w64 (bt s1 (w64 (x2 + 4)))) + (w64 (256 * (w64 (bt s1 (w64 (x2 + 5))))))))) rfl (wantN rfl) (fun _ => by kernel_rfl) ?_
          refine SOps.val (v := .int .i64 (w64 ((w64 (x2 + 6)) + (w64 ((w64 (bt s1 (w64 (x2 + 4)))) + (w64 (256 * (w64 (bt s1 (w64 (x2 + 5))))))))))) rfl (wantN rfl) (fun _ => by kernel_rfl) ?_
          refine SOps.val (v := .bool (decide ((s1.size : Int) < (w64 ((w64 (x2 + 6)) + (w64 ((w64 (bt s1 (w64 (x2 + 4)))) + (w64 (256 * (w64 (bt s1 (w64 (x2 + 5))))))))))))) rfl (wantN rfl) (fun _ => by kernel_rfl) ?_
          refine SOps.nil ?_
          by_cases c33 : (s1.size : Int) < (w64 ((w64 (x2 + 6)) + (w64 ((w64 (bt s1 (w64 (x2 + 4)))) + (w64 (256 * (w64 (bt s1 (w64 (x2 + 5))))))))))
          · replace h := h.1 c33
            have dc33 : (decide ((s1.size : Int) < (w64 ((w64 (x2 + 6)) + (w64 ((w64 (bt s1 (w64 (x2 + 4)))) + (w64 (256 * (w64 (bt s1 (w64 (x2 + 5)))))))))))) = true := (decide_eq_true c33)
            refine SW.cond_t (t := decide ((s1.size : Int) < (w64 ((w64 (x2 + 6)) + (w64 ((w64 (bt s1 (w64 (x2 + 4)))) + (w64 (256 * (w64 (bt s1 (w64 (x2 + 5)))))))))))) rfl dc33 ?_
            refine SW.seq ?_
            refine SW.region ?_
            refine SOps.val (v := .int .i64 x2) rfl (wantN rfl) (fun _ => by kernel_rfl) ?_
            refine SOps.val (v := .agg #[.string ByteArray.empty, .int .i64 x2, .int .i64 3]) rfl (wantN rfl) (fun _ => by kernel_rfl) ?_
            obtain ⟨c34, h⟩ := h
            refine SOps.storeL (p := (b3, 0)) (v := .agg #[.string ByteArray.empty, .int .i64 x2, .int .i64 3]) (cs := [.string ByteArray.empty, .int .i64 x2, .int .i64 3]) rfl rfl (wantN rfl) (size := 3) (by kernel_rfl) rfl rfl rfl rfl (by simp [Value.oneCell', errV_one, pv, sv]) c34 ?_
            refine SOps.nil ?_
            obtain ⟨s35, x36, x37, c38, Hr, hr, h⟩ := h
            exact SW.ret (retQ.mkM (.agg #[.string s35, .int .i64 x36, .int .i64 x37]) (resCN (size := 3) (p := (b3, 0)) (T := 43) rfl rfl (fun _ => by kernel_rfl) (by kernel_rfl) rfl c38) hr ⟨s35, x36, x37, rfl, h⟩)
          · replace h := h.2 c33
            have dc33 : (decide ((s1.size : Int) < (w64 ((w64 (x2 + 6)) + (w64 ((w64 (bt s1 (w64 (x2 + 4)))) + (w64 (256 * (w64 (bt s1 (w64 (x2 + 5)))))))))))) = false := (decide_eq_false c33)
            refine SW.cond_f (t := decide ((s1.size : Int) < (w64 ((w64 (x2 + 6)) + (w64 ((w64 (bt s1 (w64 (x2 + 4)))) + (w64 (256 * (w64 (bt s1 (w64 (x2 + 5)))))))))))) rfl dc33 ?_
            refine SW.skip ?_
            refine SW.seq ?_
            refine SW.region ?_
            refine SOps.val (v := .string s1) rfl (wantN rfl) (fun _ => by kernel_rfl) ?_
            refine SOps.val (v := .int .i64 x2) rfl (wantN rfl) (fun _ => by kernel_rfl) ?_
            refine SOps.val (v := .int .i64 (w64 (x2 + 6))) rfl (wantN rfl) (fun _ => by kernel_rfl) ?_
            refine SOps.val (v := .int .i64 x2) rfl (wantN rfl) (fun _ => by kernel_rfl) ?_
            refine SOps.val (v := .int .i64 (w64 (x2 + 6))) rfl (wantN rfl) (fun _ => by kernel_rfl) ?_
            refine SOps.val (v := .int .i64 (w64 ((w64 (bt s1 (w64 (x2 + 4)))) + (w64 (256 * (w64 (bt s1 (w64 (x2 + 5))))))))) rfl (wantN rfl) (fun _ => by kernel_rfl) ?_
            refine SOps.val (v := .int .i64 (w64 ((w64 (x2 + 6)) + (w64 ((w64 (bt s1 (w64 (x2 + 4)))) + (w64 (256 * (w64 (bt s1 (w64 (x2 + 5))))))))))) rfl (wantN rfl) (fun _ => by kernel_rfl) ?_
            obtain ⟨c39, c40, c41, h⟩ := h
            refine SOps.val (v := .string (s1.extract (w64 (x2 + 6)).toNat (w64 ((w64 (x2 + 6)) + (w64 ((w64 (bt s1 (w64 (x2 + 4)))) + (w64 (256 * (w64 (bt s1 (w64 (x2 + 5)))))))))).toNat)) rfl (wantN rfl) (fun w => ev_subS (a := (w64 (x2 + 6))) (b := (w64 ((w64 (x2 + 6)) + (w64 ((w64 (bt s1 (w64 (x2 + 4)))) + (w64 (256 * (w64 (bt s1 (w64 (x2 + 5))))))))))) rfl Try.underlying9 rfl (Or.inr ⟨_, rfl⟩) (Or.inr ⟨_, rfl⟩) c39 c40 c41 w) ?_
            refine SOps.val (v := .string (s1.extract (w64 (x2 + 6)).toNat (w64 ((w64 (x2 + 6)) + (w64 ((w64 (bt s1 (w64 (x2 + 4)))) + (w64 (256 * (w64 (bt s1 (w64 (x2 + 5)))))))))).toNat)) rfl (wantN rfl) (fun _ => by kernel_rfl) ?_
            refine SOps.nil ?_
            refine SW.seq ?_
            refine SW.seq ?_
            refine SW.draw (by kernel_rfl) (by kernel_rfl) ?_
            refine SQ.val (v := .string s1) rfl (wantN rfl) (fun _ => by kernel_rfl) ?_
            refine SQ.val (v := .int .i64 x2) rfl (wantN rfl) (fun _ => by kernel_rfl) ?_
            refine SQ.val (v := .int .i64 x2) rfl (wantN rfl) (fun _ => by kernel_rfl) ?_
            refine SQ.val (v := .int .i64 (w64 (x2 + 6))) rfl (wantN rfl) (fun _ => by kernel_rfl) ?_
            refine SQ.val (v := .int .i64 (w64 ((w64 (bt s1 (w64 (x2 + 4)))) + (w64 (256 * (w64 (bt s1 (w64 (x2 + 5))))))))) rfl (wantN rfl) (fun _ => by kernel_rfl) ?_
            refine SQ.val (v := .int .i64 (w64 ((w64 (x2 + 6)) + (w64 ((w64 (bt s1 (w64 (x2 + 4)))) + (w64 (256 * (w64 (bt s1 (w64 (x2 + 5))))))))))) rfl (wantN rfl) (fun _ => by kernel_rfl) ?_
            obtain ⟨c42, c43, c44, h⟩ := h
            refine SQ.val (v := .string (s1.extract x2.toNat (w64 ((w64 (x2 + 6)) + (w64 ((w64 (bt s1 (w64 (x2 + 4)))) + (w64 (256 * (w64 (bt s1 (w64 (x2 + 5)))))))))).toNat)) rfl (wantN rfl) (fun w => ev_subS (a := x2) (b := (w64 ((w64 (x2 + 6)) + (w64 ((w64 (bt s1 (w64 (x2 + 4)))) + (w64 (256 * (w64 (bt s1 (w64 (x2 + 5))))))))))) rfl Try.underlying9 rfl (Or.inr ⟨_, rfl⟩) (Or.inr ⟨_, rfl⟩) c42 c43 c44 w) ?_
            refine SQ.val (v := .string (s1.extract (w64 (x2 + 6)).toNat (w64 ((w64 (x2 + 6)) + (w64 ((w64 (bt s1 (w64 (x2 + 4)))) + (w64 (256 * (w64 (bt s1 (w64 (x2 + 5)))))))))).toNat)) rfl (wantN rfl) (fun _ => by kernel_rfl) ?_
            obtain ⟨s45, c46, h⟩ := h
            refine SQ.enter (v := .string s45) rfl (wantN rfl) (fun _ => by kernel_rfl) ((ladingref03_Seal.sound F (s1.extract (w64 (x2 + 6)).toNat (w64 ((w64 (x2 + 6)) + (w64 ((w64 (bt s1 (w64 (x2 + 4)))) + (w64 (256 * (w64 (bt s1 (w64 (x2 + 5)))))))))).toNat) (SH.upd H b3 ⟨[.string ByteArray.empty, .int .i64 0, .int .i64 0], 43, false, 3⟩) _ c46).mono (by rintro v H' ⟨_, rfl, rfl, rfl⟩; exact ⟨rfl, rfl⟩)) ?_
            refine SQ.val (v := .bool (!decide ((s1.extract x2.toNat (w64 ((w64 (x2 + 6)) + (w64 ((w64 (bt s1 (w64 (x2 + 4)))) + (w64 (256 * (w64 (bt s1 (w64 (x2 + 5)))))))))).toNat) = s45))) rfl (wantN rfl) (fun w => ev_neS rfl rfl rfl w) ?_
            refine SQ.nil ?_
            by_cases c47 : ((s1.extract x2.toNat (w64 ((w64 (x2 + 6)) + (w64 ((w64 (bt s1 (w64 (x2 + 4)))) + (w64 (256 * (w64 (bt s1 (w64 (x2 + 5)))))))))).toNat) = s45)
            · replace h := h.1 c47
              have dc47 : (decide ((s1.extract x2.toNat (w64 ((w64 (x2 + 6)) + (w64 ((w64 (bt s1 (w64 (x2 + 4)))) + (w64 (256 * (w64 (bt s1 (w64 (x2 + 5)))))))))).toNat) = s45)) = true := (decide_eq_true c47)
              refine SW.cond_f (t := !decide ((s1.extract x2.toNat (w64 ((w64 (x2 + 6)) + (w64 ((w64 (bt s1 (w64 (x2 + 4)))) + (w64 (256 * (w64 (bt s1 (w64 (x2 + 5)))))))))).toNat) = s45)) rfl (not_t dc47) ?_
              refine SW.skip ?_
              refine SW.seq ?_
              refine SW.region ?_
              refine SOps.val (v := .string (s1.extract (w64 (x2 + 6)).toNat (w64 ((w64 (x2 + 6)) + (w64 ((w64 (bt s1 (w64 (x2 + 4)))) + (w64 (256 * (w64 (bt s1 (w64 (x2 + 5)))))))))).toNat)) rfl (wantN rfl) (fun _ => by kernel_rfl) ?_
              refine SOps.val (v := .int .i64 x2) rfl (wantN rfl) (fun _ => by kernel_rfl) ?_
              refine SOps.val (v := .int .i64 (w64 (x2 + 6))) rfl (wantN rfl) (fun _ => by kernel_rfl) ?_
              refine SOps.val (v := .int .i64 (w64 ((w64 (bt s1 (w64 (x2 + 4)))) + (w64 (256 * (w64 (bt s1 (w64 (x2 + 5))))))))) rfl (wantN rfl) (fun _ => by kernel_rfl) ?_
              refine SOps.val (v := .int .i64 (w64 ((w64 (x2 + 6)) + (w64 ((w64 (bt s1 (w64 (x2 + 4)))) + (w64 (256 * (w64 (bt s1 (w64 (x2 + 5))))))))))) rfl (wantN rfl) (fun _ => by kernel_rfl) ?_
              refine SOps.val (v := .agg #[.string (s1.extract (w64 (x2 + 6)).toNat (w64 ((w64 (x2 + 6)) + (w64 ((w64 (bt s1 (w64 (x2 + 4)))) + (w64 (256 * (w64 (bt s1 (w64 (x2 + 5)))))))))).toNat), .int .i64 (w64 ((w64 (x2 + 6)) + (w64 ((w64 (bt s1 (w64 (x2 + 4)))) + (w64 (256 * (w64 (bt s1 (w64 (x2 + 5)))))))))), .int .i64 0]) rfl (wantN rfl) (fun _ => by kernel_rfl) ?_
              obtain ⟨c48, h⟩ := h
              refine SOps.storeL (p := (b3, 0)) (v := .agg #[.string (s1.extract (w64 (x2 + 6)).toNat (w64 ((w64 (x2 + 6)) + (w64 ((w64 (bt s1 (w64 (x2 + 4)))) + (w64 (256 * (w64 (bt s1 (w64 (x2 + 5)))))))))).toNat), .int .i64 (w64 ((w64 (x2 + 6)) + (w64 ((w64 (bt s1 (w64 (x2 + 4)))) + (w64 (256 * (w64 (bt s1 (w64 (x2 + 5)))))))))), .int .i64 0]) (cs := [.string (s1.extract (w64 (x2 + 6)).toNat (w64 ((w64 (x2 + 6)) + (w64 ((w64 (bt s1 (w64 (x2 + 4)))) + (w64 (256 * (w64 (bt s1 (w64 (x2 + 5)))))))))).toNat), .int .i64 (w64 ((w64 (x2 + 6)) + (w64 ((w64 (bt s1 (w64 (x2 + 4)))) + (w64 (256 * (w64 (bt s1 (w64 (x2 + 5)))))))))), .int .i64 0]) rfl rfl (wantN rfl) (size := 3) (by kernel_rfl) rfl rfl rfl rfl (by simp [Value.oneCell', errV_one, pv, sv]) c48 ?_
              refine SOps.nil ?_
              obtain ⟨s49, x50, x51, c52, Hr, hr, h⟩ := h
              exact SW.ret (retQ.mkM (.agg #[.string s49, .int .i64 x50, .int .i64 x51]) (resCN (size := 3) (p := (b3, 0)) (T := 43) rfl rfl (fun _ => by kernel_rfl) (by kernel_rfl) rfl c52) hr ⟨s49, x50, x51, rfl, h⟩)
            · replace h := h.2 c47
              have dc47 : (decide ((s1.extract x2.toNat (w64 ((w64 (x2 + 6)) + (w64 ((w64 (bt s1 (w64 (x2 + 4)))) + (w64 (256 * (w64 (bt s1 (w64 (x2 + 5)))))))))).toNat) = s45)) = false := (decide_eq_false c47)
              refine SW.cond_t (t := !decide ((s1.extract x2.toNat (w64 ((w64 (x2 + 6)) + (w64 ((w64 (bt s1 (w64 (x2 + 4)))) + (w64 (256 * (w64 (bt s1 (w64 (x2 + 5)))))))))).toNat) = s45)) rfl (not_f dc47) ?_
              refine SW.seq ?_
              refine SW.region ?_
              refine SOps.val (v := .int .i64 x2) rfl (wantN rfl) (fun _ => by kernel_rfl) ?_
              refine SOps.val (v := .agg #[.string ByteArray.empty, .int .i64 x2, .int .i64 5]) rfl (wantN rfl) (fun _ => by kernel_rfl) ?_
              obtain ⟨c53, h⟩ := h
              refine SOps.storeL (p := (b3, 0)) (v := .agg #[.string ByteArray.empty, .int .i64 x2, .int .i64 5]) (cs := [.string ByteArray.empty, .int .i64 x2, .int .i64 5]) rfl rfl (wantN rfl) (size := 3) (by kernel_rfl) rfl rfl rfl rfl (by simp [Value.oneCell', errV_one, pv, sv]) c53 ?_
              refine SOps.nil ?_
              obtain ⟨s54, x55, x56, c57, Hr, hr, h⟩ := h
              exact SW.ret (retQ.mkM (.agg #[.string s54, .int .i64 x55, .int .i64 x56]) (resCN (size := 3) (p := (b3, 0)) (T := 43) rfl rfl (fun _ => by kernel_rfl) (by kernel_rfl) rfl c57) hr ⟨s54, x55, x56, rfl, h⟩)

end Go.Proofs.Ytknhlipealekoaa.K
