import Derived.Test.YtknhlipealekoaaDoorGladingref01
import Derived.Test.YtknhlipealekoaaDoorSatWrit
set_option linter.unusedVariables false
set_option linter.unusedSimpArgs false
set_option maxRecDepth 100000
namespace Go.Proofs.YtknhlipealekoaaDoor.K
open Go
attribute [local irreducible] SW SOps SQ SCalls retQ

/-! ### lading/ladingref03.Sum: function 65 -/
def ladingref03_Sum.j1 (F : Nat) (K : Int → SH → Prop) (R1 : ByteArray → Int → Int → SH → Prop) (R2 : ByteArray → Int → Int → Int → SH → Prop) (s18 : ByteArray) (x19 : Int) (x20 : Int) (x21 : Int) (H : SH) : Prop :=
  R2 s18 x19 x20 (w64 (x21 + 1)) H
def ladingref03_Sum.j2 (F : Nat) (K : Int → SH → Prop) (R1 : ByteArray → Int → Int → SH → Prop) (R2 : ByteArray → Int → Int → Int → SH → Prop) (s14 : ByteArray) (x15 : Int) (x16 : Int) (x17 : Int) (H : SH) : Prop :=
  ladingref03_Sum.j1 F K R1 R2 s14 x15 x16 x17 H
def ladingref03_Sum.r2 (F : Nat) (K : Int → SH → Prop) (R1 : ByteArray → Int → Int → SH → Prop) (R2 : ByteArray → Int → Int → Int → SH → Prop) (s8 : ByteArray) (x9 : Int) (x10 : Int) (x11 : Int) (H : SH) : Prop :=
  (x11 < 8 →
    ((x9.tmod 2) = 1 →
      ladingref03_Sum.j2 F K R1 R2 s8 (ibits .xor .i64 (w64 (x9.tdiv 2)) 2197175160) x10 x11 H
    ) ∧ (¬ ((x9.tmod 2) = 1) →
      ladingref03_Sum.j2 F K R1 R2 s8 (w64 (x9.tdiv 2)) x10 x11 H
    )
  ) ∧ (¬ (x11 < 8) →
    R1 s8 x9 (w64 (x10 + 1)) H
  )
def ladingref03_Sum.l2 (F : Nat) (K : Int → SH → Prop) (R1 : ByteArray → Int → Int → SH → Prop) : Nat → ByteArray → Int → Int → Int → SH → Prop
  | 0, _, _, _, _, _ => False
  | k + 1, s8, x9, x10, x11, H => ladingref03_Sum.r2 F K R1 (ladingref03_Sum.l2 F K R1 k) s8 x9 x10 x11 H
def ladingref03_Sum.r1 (F : Nat) (K : Int → SH → Prop) (R1 : ByteArray → Int → Int → SH → Prop) (s2 : ByteArray) (x3 : Int) (x4 : Int) (H : SH) : Prop :=
  (x4 < (s2.size : Int) →
    0 ≤ x4 ∧
    x4 < (s2.size : Int) ∧
    ladingref03_Sum.l2 F K R1 F s2 (ibits .xor .i64 x3 (w64 (bt s2 x4))) x4 0 H
  ) ∧ (¬ (x4 < (s2.size : Int)) →
    ∃ Hr, SH.le Hr H ∧ K (w64 (4294967295 - x3)) Hr
  )
def ladingref03_Sum.l1 (F : Nat) (K : Int → SH → Prop) : Nat → ByteArray → Int → Int → SH → Prop
  | 0, _, _, _, _ => False
  | k + 1, s2, x3, x4, H => ladingref03_Sum.r1 F K (ladingref03_Sum.l1 F K k) s2 x3 x4 H
def ladingref03_Sum.wp (F : Nat) (s1 : ByteArray) (H : SH) (K : Int → SH → Prop) : Prop :=
  ladingref03_Sum.l1 F K F s1 4294967295 0 H
set_option maxHeartbeats 8000000 in
theorem ladingref03_Sum.sound (F : Nat) (s1 : ByteArray) (H : SH) (K : Int → SH → Prop) (h : ladingref03_Sum.wp F s1 H K) : SCalls Tryd.prog 65 #[.string s1] H (fun v H' => ∃ (x29 : Int), v = .int .i64 x29 ∧ K x29 H') := by
  unfold ladingref03_Sum.wp at h
  refine SCalls.body Tryd.func65 rfl (Nat.le_of_ble_eq_true rfl) ?_
  refine SW.seq ?_
  refine SW.region ?_
  refine SOps.val (v := .int .i64 0) rfl (wantN rfl) (fun _ => by kernel_rfl) ?_
  refine SOps.nil ?_
  refine SW.seq ?_
  refine SW.region ?_
  refine SOps.val (v := .int .i64 4294967295) rfl (wantN rfl) (fun _ => by kernel_rfl) ?_
  refine SOps.nil ?_
  refine SW.seq ?_
  refine SW.seq ?_
  refine SW.region ?_
  refine SOps.val (v := .int .i64 0) rfl (wantN rfl) (fun _ => by kernel_rfl) ?_
  refine SOps.nil ?_
  refine SW.block ?_
  refine SW.loop (fun k1 fr H => ∃ (g : Fr) (s2 : ByteArray) (x3 : Int) (x4 : Int), fr = g.upds [(0, (.string s2 : Value)), (3, (.int .i64 x3 : Value)), (4, (.int .i64 x4 : Value))] ∧ ladingref03_Sum.l1 F K k1 s2 x3 x4 H) F ⟨_, s1, 4294967295, 0, (Fr.upds_self _ _ ⟨rfl, rfl, rfl, trivial⟩), h⟩ ?_
  clear h
  rintro k1 fr H ⟨g, s2, x3, x4, rfl, h⟩
  cases k1 with
  | zero => exact h.elim
  | succ k1 =>
    replace h : ladingref03_Sum.r1 F K (ladingref03_Sum.l1 F K k1) s2 x3 x4 H := h
    unfold ladingref03_Sum.r1 at h
    refine SW.seq ?_
    refine SW.seq ?_
    refine SW.region ?_
    refine SOps.val (v := .int .i64 x4) rfl (wantN rfl) (fun _ => by kernel_rfl) ?_
    refine SOps.val (v := .string s2) rfl (wantN rfl) (fun _ => by kernel_rfl) ?_
    refine SOps.val (v := .int .i64 (s2.size : Int)) rfl (wantN rfl) (fun _ => by kernel_rfl) ?_
    refine SOps.val (v := .bool (decide (x4 < (s2.size : Int)))) rfl (wantN rfl) (fun _ => by kernel_rfl) ?_
    refine SOps.nil ?_
    by_cases c5 : x4 < (s2.size : Int)
    · replace h := h.1 c5
      have dc5 : (decide (x4 < (s2.size : Int))) = true := (decide_eq_true c5)
      refine SW.cond_t (t := decide (x4 < (s2.size : Int))) rfl dc5 ?_
      refine SW.skip ?_
      refine SW.seq ?_
      refine SW.block ?_
      refine SW.seq ?_
      refine SW.region ?_
      refine SOps.val (v := .int .i64 x3) rfl (wantN rfl) (fun _ => by kernel_rfl) ?_
      refine SOps.val (v := .string s2) rfl (wantN rfl) (fun _ => by kernel_rfl) ?_
      refine SOps.val (v := .int .i64 x4) rfl (wantN rfl) (fun _ => by kernel_rfl) ?_
      obtain ⟨c6, c7, h⟩ := h
      refine SOps.val (v := .int .u8 (bt s2 x4)) rfl (wantN rfl) (fun w => ev_idxB rfl Tryd.underlying9 rfl rfl c6 c7 w) ?_
      refine SOps.val (v := .int .i64 (w64 (bt s2 x4))) rfl (wantN rfl) (fun _ => by kernel_rfl) ?_
      refine SOps.val (v := .int .i64 (ibits .xor .i64 x3 (w64 (bt s2 x4)))) rfl (wantN rfl) (fun _ => by kernel_rfl) ?_
      refine SOps.val (v := .int .i64 (ibits .xor .i64 x3 (w64 (bt s2 x4)))) rfl (wantN rfl) (fun _ => by kernel_rfl) ?_
      refine SOps.nil ?_
      refine SW.seq ?_
      refine SW.region ?_
      refine SOps.val (v := .int .i64 0) rfl (wantN rfl) (fun _ => by kernel_rfl) ?_
      refine SOps.nil ?_
      refine SW.block ?_
      refine SW.loop (fun k2 fr H => ∃ (g : Fr) (s8 : ByteArray) (x9 : Int) (x10 : Int) (x11 : Int), fr = g.upds [(0, (.string s8 : Value)), (3, (.int .i64 x9 : Value)), (4, (.int .i64 x10 : Value)), (5, (.int .i64 x11 : Value))] ∧ ladingref03_Sum.l2 F K (ladingref03_Sum.l1 F K k1) k2 s8 x9 x10 x11 H) F ⟨_, s2, ibits .xor .i64 x3 (w64 (bt s2 x4)), x4, 0, (Fr.upds_self _ _ ⟨rfl, rfl, rfl, rfl, trivial⟩), h⟩ ?_
      clear h
      rintro k2 fr H ⟨g, s8, x9, x10, x11, rfl, h⟩
      cases k2 with
      | zero => exact h.elim
      | succ k2 =>
        replace h : ladingref03_Sum.r2 F K (ladingref03_Sum.l1 F K k1) (ladingref03_Sum.l2 F K (ladingref03_Sum.l1 F K k1) k2) s8 x9 x10 x11 H := h
        unfold ladingref03_Sum.r2 at h
        refine SW.seq ?_
        refine SW.seq ?_
        refine SW.region ?_
        refine SOps.val (v := .int .i64 x11) rfl (wantN rfl) (fun _ => by kernel_rfl) ?_
        refine SOps.val (v := .bool (decide (x11 < 8))) rfl (wantN rfl) (fun _ => by kernel_rfl) ?_
        refine SOps.nil ?_
        by_cases c12 : x11 < 8
        · replace h := h.1 c12
          have dc12 : (decide (x11 < 8)) = true := (decide_eq_true c12)
          refine SW.cond_t (t := decide (x11 < 8)) rfl dc12 ?_
          refine SW.skip ?_
          refine SW.seqJ (fun fr H => ∃ (g : Fr) (s18 : ByteArray) (x19 : Int) (x20 : Int) (x21 : Int), fr = g.upds [(0, (.string s18 : Value)), (3, (.int .i64 x19 : Value)), (4, (.int .i64 x20 : Value)), (5, (.int .i64 x21 : Value))] ∧ ladingref03_Sum.j1 F K (ladingref03_Sum.l1 F K k1) (ladingref03_Sum.l2 F K (ladingref03_Sum.l1 F K k1) k2) s18 x19 x20 x21 H) ?_ ?_
          · clear h
            rintro fr H ⟨g, s18, x19, x20, x21, rfl, h⟩
            unfold ladingref03_Sum.j1 at h
            refine SW.region ?_
            refine SOps.val (v := .int .i64 x21) rfl (wantN rfl) (fun _ => by kernel_rfl) ?_
            refine SOps.val (v := .int .i64 (w64 (x21 + 1))) rfl (wantN rfl) (fun _ => by kernel_rfl) ?_
            refine SOps.val (v := .int .i64 (w64 (x21 + 1))) rfl (wantN rfl) (fun _ => by kernel_rfl) ?_
            refine SOps.nil ?_
            exact ⟨k2, Nat.lt_succ_self k2, _, s18, x19, x20, w64 (x21 + 1), (Fr.upds_self _ _ ⟨rfl, rfl, rfl, rfl, trivial⟩), h⟩
          · skip
            refine SW.blockJ (fun fr H => ∃ (g : Fr) (s14 : ByteArray) (x15 : Int) (x16 : Int) (x17 : Int), fr = g.upds [(0, (.string s14 : Value)), (3, (.int .i64 x15 : Value)), (4, (.int .i64 x16 : Value)), (5, (.int .i64 x17 : Value))] ∧ ladingref03_Sum.j2 F K (ladingref03_Sum.l1 F K k1) (ladingref03_Sum.l2 F K (ladingref03_Sum.l1 F K k1) k2) s14 x15 x16 x17 H) ?_ ?_
            · clear h
              rintro fr H ⟨g, s14, x15, x16, x17, rfl, h⟩
              unfold ladingref03_Sum.j2 at h
              exact ⟨_, s14, x15, x16, x17, Fr.upds_self _ _ ⟨rfl, rfl, rfl, rfl, trivial⟩, h⟩
            · skip
              refine SW.seq ?_
              refine SW.region ?_
              refine SOps.val (v := .int .i64 x9) rfl (wantN rfl) (fun _ => by kernel_rfl) ?_
              refine SOps.val (v := .int .i64 (x9.tmod 2)) rfl (wantN rfl) (fun w => ev_rem rfl rfl rfl (by decide) w) ?_
              refine SOps.val (v := .bool ((x9.tmod 2) == 1)) rfl (wantN rfl) (fun _ => by kernel_rfl) ?_
              refine SOps.nil ?_
              by_cases c13 : (x9.tmod 2) = 1
              · replace h := h.1 c13
                have dc13 : ((x9.tmod 2) == 1) = true := (beq_iff_eq.mpr c13)
                refine SW.cond_t (t := ((x9.tmod 2) == 1)) rfl dc13 ?_
                refine SW.region ?_
                refine SOps.val (v := .int .i64 x9) rfl (wantN rfl) (fun _ => by kernel_rfl) ?_
                refine SOps.val (v := .int .i64 (w64 (x9.tdiv 2))) rfl (wantN rfl) (fun w => ev_quo rfl rfl rfl (by decide) w) ?_
                refine SOps.val (v := .int .i64 (ibits .xor .i64 (w64 (x9.tdiv 2)) 2197175160)) rfl (wantN rfl) (fun _ => by kernel_rfl) ?_
                refine SOps.val (v := .int .i64 (ibits .xor .i64 (w64 (x9.tdiv 2)) 2197175160)) rfl (wantN rfl) (fun _ => by kernel_rfl) ?_
                refine SOps.nil ?_
                exact ⟨_, s8, ibits .xor .i64 (w64 (x9.tdiv 2)) 2197175160, x10, x11, Fr.upds_self _ _ ⟨rfl, rfl, rfl, rfl, trivial⟩, h⟩
              · replace h := h.2 c13
                have dc13 : ((x9.tmod 2) == 1) = false := (beq_eq_false_iff_ne.mpr c13)
                refine SW.cond_f (t := ((x9.tmod 2) == 1)) rfl dc13 ?_
                refine SW.region ?_
                refine SOps.val (v := .int .i64 x9) rfl (wantN rfl) (fun _ => by kernel_rfl) ?_
                refine SOps.val (v := .int .i64 (w64 (x9.tdiv 2))) rfl (wantN rfl) (fun w => ev_quo rfl rfl rfl (by decide) w) ?_
                refine SOps.val (v := .int .i64 (w64 (x9.tdiv 2))) rfl (wantN rfl) (fun _ => by kernel_rfl) ?_
                refine SOps.nil ?_
                exact ⟨_, s8, w64 (x9.tdiv 2), x10, x11, Fr.upds_self _ _ ⟨rfl, rfl, rfl, rfl, trivial⟩, h⟩
        · replace h := h.2 c12
          have dc12 : (decide (x11 < 8)) = false := (decide_eq_false c12)
          refine SW.cond_f (t := decide (x11 < 8)) rfl dc12 ?_
          refine SW.exit ?_
          refine SW.region ?_
          refine SOps.val (v := .int .i64 x10) rfl (wantN rfl) (fun _ => by kernel_rfl) ?_
          refine SOps.val (v := .int .i64 (w64 (x10 + 1))) rfl (wantN rfl) (fun _ => by kernel_rfl) ?_
          refine SOps.val (v := .int .i64 (w64 (x10 + 1))) rfl (wantN rfl) (fun _ => by kernel_rfl) ?_
          refine SOps.nil ?_
          exact ⟨k1, Nat.lt_succ_self k1, _, s8, x9, w64 (x10 + 1), (Fr.upds_self _ _ ⟨rfl, rfl, rfl, trivial⟩), h⟩
    · replace h := h.2 c5
      have dc5 : (decide (x4 < (s2.size : Int))) = false := (decide_eq_false c5)
      refine SW.cond_f (t := decide (x4 < (s2.size : Int))) rfl dc5 ?_
      refine SW.exit ?_
      refine SW.seq ?_
      refine SW.region ?_
      refine SOps.val (v := .int .i64 x3) rfl (wantN rfl) (fun _ => by kernel_rfl) ?_
      refine SOps.val (v := .int .i64 (w64 (4294967295 - x3))) rfl (wantN rfl) (fun _ => by kernel_rfl) ?_
      refine SOps.val (v := .int .i64 (w64 (4294967295 - x3))) rfl (wantN rfl) (fun _ => by kernel_rfl) ?_
      refine SOps.nil ?_
      obtain ⟨Hr, hr, h⟩ := h
      exact SW.ret (retQ.mk (.int .i64 (w64 (4294967295 - x3))) (res1 rfl rfl) hr ⟨w64 (4294967295 - x3), rfl, h⟩)

/-! ### lading/ladingref03.Seal: function 55 -/
def ladingref03_Seal.wp (F : Nat) (s1 : ByteArray) (H : SH) (K : ByteArray → SH → Prop) : Prop :=
  ladingref01_Fixed.wp F 2 (s1.size : Int) H (fun s2 H3 =>
    s2.size + s1.size ≤ 9223372036854775807 ∧
    ladingref03_Sum.wp F (s2 ++ s1) H3 (fun x5 H6 =>
      ladingref01_Fixed.wp F 4 x5 H6 (fun s7 H8 =>
        s7.size + (s2 ++ s1).size ≤ 9223372036854775807 ∧
        ∃ Hr, SH.le Hr H8 ∧ K (s7 ++ (s2 ++ s1)) Hr
      )
    )
  )
set_option maxHeartbeats 8000000 in
theorem ladingref03_Seal.sound (F : Nat) (s1 : ByteArray) (H : SH) (K : ByteArray → SH → Prop) (h : ladingref03_Seal.wp F s1 H K) : SCalls Tryd.prog 55 #[.string s1] H (fun v H' => ∃ (s11 : ByteArray), v = .string s11 ∧ K s11 H') := by
  unfold ladingref03_Seal.wp at h
  refine SCalls.body Tryd.func55 rfl (Nat.le_of_ble_eq_true rfl) ?_
  refine SW.seq ?_
  refine SW.region ?_
  refine SOps.val (v := .string ByteArray.empty) rfl (wantN rfl) (fun _ => by kernel_rfl) ?_
  refine SOps.nil ?_
  refine SW.seq ?_
  refine SW.region ?_
  refine SOps.val (v := .string s1) rfl (wantN rfl) (fun _ => by kernel_rfl) ?_
  refine SOps.val (v := .int .i64 (s1.size : Int)) rfl (wantN rfl) (fun _ => by kernel_rfl) ?_
  refine SOps.enter rfl (wantN rfl) (fun _ => by kernel_rfl) (ladingref01_Fixed.sound F 2 (s1.size : Int) H _ h) ?_
  clear h
  rintro v H3 ⟨s2, rfl, h⟩
  refine SOps.val (v := .string s1) rfl (wantN rfl) (fun _ => by kernel_rfl) ?_
  obtain ⟨c4, h⟩ := h
  refine SOps.val (v := .string (s2 ++ s1)) rfl (wantN rfl) (fun w => ev_cat rfl rfl rfl c4 w) ?_
  refine SOps.val (v := .string (s2 ++ s1)) rfl (wantN rfl) (fun _ => by kernel_rfl) ?_
  refine SOps.nil ?_
  refine SW.seq ?_
  refine SW.region ?_
  refine SOps.val (v := .string (s2 ++ s1)) rfl (wantN rfl) (fun _ => by kernel_rfl) ?_
  refine SOps.enter rfl (wantN rfl) (fun _ => by kernel_rfl) (ladingref03_Sum.sound F (s2 ++ s1) H3 _ h) ?_
  clear h
  rintro v H6 ⟨x5, rfl, h⟩
  refine SOps.enter rfl (wantN rfl) (fun _ => by kernel_rfl) (ladingref01_Fixed.sound F 4 x5 H6 _ h) ?_
  clear h
  rintro v H8 ⟨s7, rfl, h⟩
  refine SOps.val (v := .string (s2 ++ s1)) rfl (wantN rfl) (fun _ => by kernel_rfl) ?_
  obtain ⟨c9, h⟩ := h
  refine SOps.val (v := .string (s7 ++ (s2 ++ s1))) rfl (wantN rfl) (fun w => ev_cat rfl rfl rfl c9 w) ?_
  refine SOps.val (v := .string (s7 ++ (s2 ++ s1))) rfl (wantN rfl) (fun _ => by kernel_rfl) ?_
  refine SOps.nil ?_
  obtain ⟨Hr, hr, h⟩ := h
  exact SW.ret (retQ.mk (.string (s7 ++ (s2 ++ s1))) (res1 rfl rfl) hr ⟨s7 ++ (s2 ++ s1), rfl, h⟩)

end Go.Proofs.YtknhlipealekoaaDoor.K
