import Derived.Test.YtkfbmoekghbgbaaSatPkt
import Derived.Test.YtkfbmoekghbgbaaGslices
set_option linter.unusedVariables false
set_option linter.unusedSimpArgs false
set_option maxRecDepth 100000
namespace Go.Proofs.Ytkfbmoekghbgbaa.K
open Go
attribute [local irreducible] SW SOps SQ SCalls retQ

/-! ### slices.Grow[[]lading/net.flying,lading/net.flying]: function 58 -/
def slices_Grow_net_flying_net_flying.j1 (F : Nat) (K : Sl → SH → Prop) (l4 : Sl) (x5 : Int) (H : SH) : Prop :=
  ((w64 (x5 - (w64 ((l4.cap : Int) - (l4.len : Int))))) > 0 →
    0 ≤ (0 : Int) ∧
    (0 : Int) ≤ (l4.cap : Int) ∧
    (l4.cap : Int) ≤ (l4.cap : Int) ∧
    0 ≤ (w64 (x5 - (w64 ((l4.cap : Int) - (l4.len : Int))))) ∧ AppendQ H 74 4 40 (Sl.sub 4 l4 (0 : Int).toNat (l4.cap : Int).toNat l4.cap) (w64 (x5 - (w64 ((l4.cap : Int) - (l4.len : Int))))).toNat (Builtin.zeroCells (Value.cells (.agg #[.int .i64 0, .int .i64 0, .string ByteArray.empty, .bool false] : Value)) (w64 (x5 - (w64 ((l4.cap : Int) - (l4.len : Int))))).toNat).toList (fun l10 H11 =>
      0 ≤ (0 : Int) ∧
      (0 : Int) ≤ (l4.len : Int) ∧
      (l4.len : Int) ≤ (l10.cap : Int) ∧
      ∃ Hr, SH.le Hr H11 ∧ K (Sl.sub 4 l10 (0 : Int).toNat (l4.len : Int).toNat l10.cap) Hr
    )
  ) ∧ (¬ ((w64 (x5 - (w64 ((l4.cap : Int) - (l4.len : Int))))) > 0) →
    ∃ Hr, SH.le Hr H ∧ K l4 Hr
  )
def slices_Grow_net_flying_net_flying.wp (F : Nat) (l1 : Sl) (x2 : Int) (H : SH) (K : Sl → SH → Prop) : Prop :=
  (x2 < 0 →
    False
  ) ∧ (¬ (x2 < 0) →
    slices_Grow_net_flying_net_flying.j1 F K l1 x2 H
  )
set_option maxHeartbeats 8000000 in
theorem slices_Grow_net_flying_net_flying.sound (F : Nat) (l1 : Sl) (x2 : Int) (H : SH) (K : Sl → SH → Prop) (h : slices_Grow_net_flying_net_flying.wp F l1 x2 H K) : SCalls Try.prog 58 #[sv l1, .int .i64 x2] H (fun v H' => ∃ (l18 : Sl), v = sv l18 ∧ K l18 H') := by
  unfold slices_Grow_net_flying_net_flying.wp at h
  refine SCalls.body Try.func58 rfl (Nat.le_of_ble_eq_true rfl) ?_
  refine SW.seq ?_
  refine SW.region ?_
  refine SOps.val (v := sv Sl.nil) rfl (wantN rfl) (fun _ => by kernel_rfl) ?_
  refine SOps.nil ?_
  refine SW.seqJ (fun fr H => ∃ (g : Fr) (l4 : Sl) (x5 : Int), fr = g.upds [(0, sv l4), (1, (.int .i64 x5 : Value))] ∧ slices_Grow_net_flying_net_flying.j1 F K l4 x5 H) ?_ ?_
  · clear h
    rintro fr H ⟨g, l4, x5, rfl, h⟩
    unfold slices_Grow_net_flying_net_flying.j1 at h
    refine SW.seq ?_
    refine SW.seq ?_
    refine SW.region ?_
    refine SOps.val (v := .int .i64 x5) rfl (wantN rfl) (fun _ => by kernel_rfl) ?_
    refine SOps.val (v := sv l4) rfl (wantN rfl) (fun _ => by kernel_rfl) ?_
    refine SOps.val (v := .int .i64 (l4.cap : Int)) rfl (wantN rfl) (fun _ => by kernel_rfl) ?_
    refine SOps.val (v := sv l4) rfl (wantN rfl) (fun _ => by kernel_rfl) ?_
    refine SOps.val (v := .int .i64 (l4.len : Int)) rfl (wantN rfl) (fun _ => by kernel_rfl) ?_
    refine SOps.val (v := .int .i64 (w64 ((l4.cap : Int) - (l4.len : Int)))) rfl (wantN rfl) (fun _ => by kernel_rfl) ?_
    refine SOps.val (v := .int .i64 (w64 (x5 - (w64 ((l4.cap : Int) - (l4.len : Int)))))) rfl (wantN rfl) (fun _ => by kernel_rfl) ?_
    refine SOps.val (v := .int .i64 (w64 (x5 - (w64 ((l4.cap : Int) - (l4.len : Int)))))) rfl (wantN rfl) (fun _ => by kernel_rfl) ?_
    refine SOps.nil ?_
    refine SW.seq ?_
    refine SW.region ?_
    refine SOps.val (v := .int .i64 (w64 (x5 - (w64 ((l4.cap : Int) - (l4.len : Int)))))) rfl (wantN rfl) (fun _ => by kernel_rfl) ?_
    refine SOps.val (v := .bool (decide ((w64 (x5 - (w64 ((l4.cap : Int) - (l4.len : Int))))) > 0))) rfl (wantN rfl) (fun _ => by kernel_rfl) ?_
    refine SOps.nil ?_
    by_cases c6 : (w64 (x5 - (w64 ((l4.cap : Int) - (l4.len : Int))))) > 0
    · replace h := h.1 c6
      have dc6 : (decide ((w64 (x5 - (w64 ((l4.cap : Int) - (l4.len : Int))))) > 0)) = true := (decide_eq_true c6)
      refine SW.cond_t (t := decide ((w64 (x5 - (w64 ((l4.cap : Int) - (l4.len : Int))))) > 0)) rfl dc6 ?_
      refine SW.region ?_
      refine SOps.val (v := sv l4) rfl (wantN rfl) (fun _ => by kernel_rfl) ?_
      refine SOps.val (v := sv l4) rfl (wantN rfl) (fun _ => by kernel_rfl) ?_
      refine SOps.val (v := .int .i64 (l4.cap : Int)) rfl (wantN rfl) (fun _ => by kernel_rfl) ?_
      obtain ⟨c7, c8, c9, h⟩ := h
      refine SOps.val (v := sv (Sl.sub 4 l4 (0 : Int).toNat (l4.cap : Int).toNat l4.cap)) rfl (wantN rfl) (fun w => ev_sub (a := (0 : Int)) (b := (l4.cap : Int)) rfl Try.underlying68 (size := 4) (by kernel_rfl) rfl (Or.inl ⟨rfl, rfl⟩) (Or.inr ⟨_, rfl⟩) c7 c8 c9 w) ?_
      refine SOps.val (v := .int .i64 (w64 (x5 - (w64 ((l4.cap : Int) - (l4.len : Int)))))) rfl (wantN rfl) (fun _ => by kernel_rfl) ?_
      obtain ⟨c12, h⟩ := h
      refine SOps.appendZ (z := .agg #[.int .i64 0, .int .i64 0, .string ByteArray.empty, .bool false]) (size := 4) (bytes := 40) rfl rfl (wantN rfl) Try.underlying68 Try.underlying3 (by kernel_rfl) rfl (by decide) (by decide) rfl rfl c12 (AppendQ.mono h ?_)
      clear h
      intro l10 H11 h
      refine SOps.val (v := sv l4) rfl (wantN rfl) (fun _ => by kernel_rfl) ?_
      refine SOps.val (v := .int .i64 (l4.len : Int)) rfl (wantN rfl) (fun _ => by kernel_rfl) ?_
      obtain ⟨c13, c14, c15, h⟩ := h
      refine SOps.val (v := sv (Sl.sub 4 l10 (0 : Int).toNat (l4.len : Int).toNat l10.cap)) rfl (wantN rfl) (fun w => ev_sub (a := (0 : Int)) (b := (l4.len : Int)) rfl Try.underlying68 (size := 4) (by kernel_rfl) rfl (Or.inl ⟨rfl, rfl⟩) (Or.inr ⟨_, rfl⟩) c13 c14 c15 w) ?_
      refine SOps.val (v := sv (Sl.sub 4 l10 (0 : Int).toNat (l4.len : Int).toNat l10.cap)) rfl (wantN rfl) (fun _ => by kernel_rfl) ?_
      refine SOps.nil ?_
      refine SW.seq ?_
      refine SW.region ?_
      refine SOps.val (v := sv (Sl.sub 4 l10 (0 : Int).toNat (l4.len : Int).toNat l10.cap)) rfl (wantN rfl) (fun _ => by kernel_rfl) ?_
      refine SOps.val (v := sv (Sl.sub 4 l10 (0 : Int).toNat (l4.len : Int).toNat l10.cap)) rfl (wantN rfl) (fun _ => by kernel_rfl) ?_
      refine SOps.nil ?_
      obtain ⟨Hr, hr, h⟩ := h
      exact SW.ret (retQ.mk (sv (Sl.sub 4 l10 (0 : Int).toNat (l4.len : Int).toNat l10.cap)) (res1 rfl rfl) hr ⟨Sl.sub 4 l10 (0 : Int).toNat (l4.len : Int).toNat l10.cap, rfl, h⟩)
    · replace h := h.2 c6
      have dc6 : (decide ((w64 (x5 - (w64 ((l4.cap : Int) - (l4.len : Int))))) > 0)) = false := (decide_eq_false c6)
      refine SW.cond_f (t := decide ((w64 (x5 - (w64 ((l4.cap : Int) - (l4.len : Int))))) > 0)) rfl dc6 ?_
      refine SW.skip ?_
      refine SW.seq ?_
      refine SW.region ?_
      refine SOps.val (v := sv l4) rfl (wantN rfl) (fun _ => by kernel_rfl) ?_
      refine SOps.val (v := sv l4) rfl (wantN rfl) (fun _ => by kernel_rfl) ?_
      refine SOps.nil ?_
      obtain ⟨Hr, hr, h⟩ := h
      exact SW.ret (retQ.mk (sv l4) (res1 rfl rfl) hr ⟨l4, rfl, h⟩)
  · skip
    refine SW.seq ?_
    refine SW.region ?_
    refine SOps.val (v := .int .i64 x2) rfl (wantN rfl) (fun _ => by kernel_rfl) ?_
    refine SOps.val (v := .bool (decide (x2 < 0))) rfl (wantN rfl) (fun _ => by kernel_rfl) ?_
    refine SOps.nil ?_
    by_cases c3 : x2 < 0
    · replace h := h.1 c3
      have dc3 : (decide (x2 < 0)) = true := (decide_eq_true c3)
      refine SW.cond_t (t := decide (x2 < 0)) rfl dc3 ?_
      refine SW.region ?_
      exact h.elim
    · replace h := h.2 c3
      have dc3 : (decide (x2 < 0)) = false := (decide_eq_false c3)
      refine SW.cond_f (t := decide (x2 < 0)) rfl dc3 ?_
      refine SW.skip ?_
      exact ⟨_, l1, x2, Fr.upds_self _ _ ⟨rfl, rfl, trivial⟩, h⟩

/-! ### slices.Concat[[]lading/net.flying,lading/net.flying]: function 47 -/
def slices_Concat_net_flying_net_flying.j1 (F : Nat) (K : Sl → SH → Prop) (R1 : Sl → Int → Sl → Int → Int → SH → Prop) (l20 : Sl) (x21 : Int) (l22 : Sl) (x23 : Int) (x24 : Int) (H : SH) : Prop :=
  R1 l20 x21 l22 x23 (w64 (x24 + 1)) H
def slices_Concat_net_flying_net_flying.j2 (F : Nat) (K : Sl → SH → Prop) (R1 : Sl → Int → Sl → Int → Int → SH → Prop) (l15 : Sl) (x16 : Int) (l17 : Sl) (x18 : Int) (x19 : Int) (H : SH) : Prop :=
  slices_Concat_net_flying_net_flying.j1 F K R1 l15 x16 l17 x18 x19 H
def slices_Concat_net_flying_net_flying.r2 (F : Nat) (K : Sl → SH → Prop) (R2 : Sl → Sl → Int → Int → SH → Prop) (l29 : Sl) (l30 : Sl) (x31 : Int) (x32 : Int) (H : SH) : Prop :=
  (x32 < x31 →
    ∃ p34, l30.a = some p34 ∧ 0 ≤ x32 ∧ x32 < (l30.len : Int) ∧
    ∃ (l38 : Sl),
    SH.has H (p34.1, (p34.2 + x32.toNat * 1)) (sv l38) ∧
    ∃ w42, SH.row H l38.a w42 ∧
    AppendQ H 74 4 40 l29 l38.len w42 (fun l40 H41 =>
      R2 l40 l30 x31 (w64 (x32 + 1)) H41
    )
  ) ∧ (¬ (x32 < x31) →
    ∃ Hr, SH.le Hr H ∧ K l29 Hr
  )
def slices_Concat_net_flying_net_flying.l2 (F : Nat) (K : Sl → SH → Prop) : Nat → Sl → Sl → Int → Int → SH → Prop
  | 0, _, _, _, _, _ => False
  | k + 1, l29, l30, x31, x32, H => slices_Concat_net_flying_net_flying.r2 F K (slices_Concat_net_flying_net_flying.l2 F K k) l29 l30 x31 x32 H
def slices_Concat_net_flying_net_flying.r1 (F : Nat) (K : Sl → SH → Prop) (R1 : Sl → Int → Sl → Int → Int → SH → Prop) (l2 : Sl) (x3 : Int) (l4 : Sl) (x5 : Int) (x6 : Int) (H : SH) : Prop :=
  (x6 < x5 →
    ∃ p8, l4.a = some p8 ∧ 0 ≤ x6 ∧ x6 < (l4.len : Int) ∧
    ∃ (l12 : Sl),
    SH.has H (p8.1, (p8.2 + x6.toNat * 1)) (sv l12) ∧
    ((w64 (x3 + (l12.len : Int))) < 0 →
      False
    ) ∧ (¬ ((w64 (x3 + (l12.len : Int))) < 0) →
      slices_Concat_net_flying_net_flying.j2 F K R1 l2 (w64 (x3 + (l12.len : Int))) l4 x5 x6 H
    )
  ) ∧ (¬ (x6 < x5) →
    slices_Grow_net_flying_net_flying.wp F Sl.nil x3 H (fun l27 H28 =>
      slices_Concat_net_flying_net_flying.l2 F K F l27 l2 (l2.len : Int) 0 H28
    )
  )
def slices_Concat_net_flying_net_flying.l1 (F : Nat) (K : Sl → SH → Prop) : Nat → Sl → Int → Sl → Int → Int → SH → Prop
  | 0, _, _, _, _, _, _ => False
  | k + 1, l2, x3, l4, x5, x6, H => slices_Concat_net_flying_net_flying.r1 F K (slices_Concat_net_flying_net_flying.l1 F K k) l2 x3 l4 x5 x6 H
def slices_Concat_net_flying_net_flying.wp (F : Nat) (l1 : Sl) (H : SH) (K : Sl → SH → Prop) : Prop :=
  slices_Concat_net_flying_net_flying.l1 F K F l1 0 l1 (l1.len : Int) 0 H
set_option maxHeartbeats 8000000 in
theorem slices_Concat_net_flying_net_flying.sound (F : Nat) (l1 : Sl) (H : SH) (K : Sl → SH → Prop) (h : slices_Concat_net_flying_net_flying.wp F l1 H K) : SCalls Try.prog 47 #[sv l1] H (fun v H' => ∃ (l49 : Sl), v = sv l49 ∧ K l49 H') := by
  unfold slices_Concat_net_flying_net_flying.wp at h
  refine SCalls.body Try.func47 rfl (Nat.le_of_ble_eq_true rfl) ?_
  refine SW.seq ?_
  refine SW.region ?_
  refine SOps.val (v := sv Sl.nil) rfl (wantN rfl) (fun _ => by kernel_rfl) ?_
  refine SOps.nil ?_
  refine SW.seq ?_
  refine SW.region ?_
  refine SOps.val (v := .int .i64 0) rfl (wantN rfl) (fun _ => by kernel_rfl) ?_
  refine SOps.nil ?_
  refine SW.seq ?_
  refine SW.seq ?_
  refine SW.region ?_
  refine SOps.val (v := sv l1) rfl (wantN rfl) (fun _ => by kernel_rfl) ?_
  refine SOps.val (v := .int .i64 (l1.len : Int)) rfl (wantN rfl) (fun _ => by kernel_rfl) ?_
  refine SOps.val (v := .int .i64 0) rfl (wantN rfl) (fun _ => by kernel_rfl) ?_
  refine SOps.nil ?_
  refine SW.block ?_
  refine SW.loop (fun k1 fr H => ∃ (g : Fr) (l2 : Sl) (x3 : Int) (l4 : Sl) (x5 : Int) (x6 : Int), fr = g.upds [(0, sv l2), (3, (.int .i64 x3 : Value)), (9, sv l4), (10, (.int .i64 x5 : Value)), (11, (.int .i64 x6 : Value))] ∧ slices_Concat_net_flying_net_flying.l1 F K k1 l2 x3 l4 x5 x6 H) F ⟨_, l1, 0, l1, (l1.len : Int), 0, (Fr.upds_self _ _ ⟨rfl, rfl, rfl, rfl, rfl, trivial⟩), h⟩ ?_
  clear h
  rintro k1 fr H ⟨g, l2, x3, l4, x5, x6, rfl, h⟩
  cases k1 with
  | zero => exact h.elim
  | succ k1 =>
    replace h : slices_Concat_net_flying_net_flying.r1 F K (slices_Concat_net_flying_net_flying.l1 F K k1) l2 x3 l4 x5 x6 H := h
    unfold slices_Concat_net_flying_net_flying.r1 at h
    refine SW.seq ?_
    refine SW.region ?_
    refine SOps.val (v := .bool (decide (x6 < x5))) rfl (wantN rfl) (fun _ => by kernel_rfl) ?_
    refine SOps.nil ?_
    refine SW.seq ?_
    by_cases c7 : x6 < x5
    · replace h := h.1 c7
      have dc7 : (decide (x6 < x5)) = true := (decide_eq_true c7)
      refine SW.cond_t (t := decide (x6 < x5)) rfl dc7 ?_
      refine SW.skip ?_
      refine SW.seqJ (fun fr H => ∃ (g : Fr) (l20 : Sl) (x21 : Int) (l22 : Sl) (x23 : Int) (x24 : Int), fr = g.upds [(0, sv l20), (3, (.int .i64 x21 : Value)), (9, sv l22), (10, (.int .i64 x23 : Value)), (11, (.int .i64 x24 : Value))] ∧ slices_Concat_net_flying_net_flying.j1 F K (slices_Concat_net_flying_net_flying.l1 F K k1) l20 x21 l22 x23 x24 H) ?_ ?_
      · clear h
        rintro fr H ⟨g, l20, x21, l22, x23, x24, rfl, h⟩
        unfold slices_Concat_net_flying_net_flying.j1 at h
        refine SW.region ?_
        refine SOps.val (v := .int .i64 (w64 (x24 + 1))) rfl (wantN rfl) (fun _ => by kernel_rfl) ?_
        refine SOps.val (v := .int .i64 (w64 (x24 + 1))) rfl (wantN rfl) (fun _ => by kernel_rfl) ?_
        refine SOps.nil ?_
        exact ⟨k1, Nat.lt_succ_self k1, _, l20, x21, l22, x23, w64 (x24 + 1), (Fr.upds_self _ _ ⟨rfl, rfl, rfl, rfl, rfl, trivial⟩), h⟩
      · skip
        refine SW.blockJ (fun fr H => ∃ (g : Fr) (l15 : Sl) (x16 : Int) (l17 : Sl) (x18 : Int) (x19 : Int), fr = g.upds [(0, sv l15), (3, (.int .i64 x16 : Value)), (9, sv l17), (10, (.int .i64 x18 : Value)), (11, (.int .i64 x19 : Value))] ∧ slices_Concat_net_flying_net_flying.j2 F K (slices_Concat_net_flying_net_flying.l1 F K k1) l15 x16 l17 x18 x19 H) ?_ ?_
        · clear h
          rintro fr H ⟨g, l15, x16, l17, x18, x19, rfl, h⟩
          unfold slices_Concat_net_flying_net_flying.j2 at h
          exact ⟨_, l15, x16, l17, x18, x19, Fr.upds_self _ _ ⟨rfl, rfl, rfl, rfl, rfl, trivial⟩, h⟩
        · skip
          refine SW.seq ?_
          refine SW.region ?_
          obtain ⟨p8, c9, c10, c11, h⟩ := h
          refine SOps.val (v := pv (some (p8.1, (p8.2 + x6.toNat * 1)))) rfl (wantN rfl) (fun w => ev_iaddr rfl Try.underlying109 (size := 1) (by kernel_rfl) rfl rfl c9 c10 c11 w) ?_
          obtain ⟨l12, c13, h⟩ := h
          refine SOps.rd (v := sv l12) rfl (wantN rfl) (fun w hw => ev_load1 rfl (fun _ => by kernel_rfl) (p := (p8.1, (p8.2 + x6.toNat * 1))) rfl c13 w hw) ?_
          refine SOps.val (v := sv l12) rfl (wantN rfl) (fun _ => by kernel_rfl) ?_
          refine SOps.nil ?_
          refine SW.seq ?_
          refine SW.region ?_
          refine SOps.val (v := .int .i64 x3) rfl (wantN rfl) (fun _ => by kernel_rfl) ?_
          refine SOps.val (v := sv l12) rfl (wantN rfl) (fun _ => by kernel_rfl) ?_
          refine SOps.val (v := .int .i64 (l12.len : Int)) rfl (wantN rfl) (fun _ => by kernel_rfl) ?_
          refine SOps.val (v := .int .i64 (w64 (x3 + (l12.len : Int)))) rfl (wantN rfl) (fun _ => by kernel_rfl) ?_
          refine SOps.val (v := .int .i64 (w64 (x3 + (l12.len : Int)))) rfl (wantN rfl) (fun _ => by kernel_rfl) ?_
          refine SOps.nil ?_
          refine SW.seq ?_
          refine SW.region ?_
          refine SOps.val (v := .int .i64 (w64 (x3 + (l12.len : Int)))) rfl (wantN rfl) (fun _ => by kernel_rfl) ?_
          refine SOps.val (v := .bool (decide ((w64 (x3 + (l12.len : Int))) < 0))) rfl (wantN rfl) (fun _ => by kernel_rfl) ?_
          refine SOps.nil ?_
          by_cases c14 : (w64 (x3 + (l12.len : Int))) < 0
          · replace h := h.1 c14
            have dc14 : (decide ((w64 (x3 + (l12.len : Int))) < 0)) = true := (decide_eq_true c14)
            refine SW.cond_t (t := decide ((w64 (x3 + (l12.len : Int))) < 0)) rfl dc14 ?_
            refine SW.region ?_
            exact h.elim
          · replace h := h.2 c14
            have dc14 : (decide ((w64 (x3 + (l12.len : Int))) < 0)) = false := (decide_eq_false c14)
            refine SW.cond_f (t := decide ((w64 (x3 + (l12.len : Int))) < 0)) rfl dc14 ?_
            refine SW.skip ?_
            exact ⟨_, l2, w64 (x3 + (l12.len : Int)), l4, x5, x6, Fr.upds_self _ _ ⟨rfl, rfl, rfl, rfl, rfl, trivial⟩, h⟩
    · replace h := h.2 c7
      have dc7 : (decide (x6 < x5)) = false := (decide_eq_false c7)
      refine SW.cond_f (t := decide (x6 < x5)) rfl dc7 ?_
      refine SW.exit ?_
      refine SW.seq ?_
      refine SW.region ?_
      refine SOps.val (v := .int .i64 x3) rfl (wantN rfl) (fun _ => by kernel_rfl) ?_
      refine SOps.enter rfl (wantN rfl) (fun _ => by kernel_rfl) (slices_Grow_net_flying_net_flying.sound F Sl.nil x3 H _ h) ?_
      clear h
      rintro v H28 ⟨l27, rfl, h⟩
      refine SOps.val (v := sv l27) rfl (wantN rfl) (fun _ => by kernel_rfl) ?_
      refine SOps.nil ?_
      refine SW.seq ?_
      refine SW.seq ?_
      refine SW.region ?_
      refine SOps.val (v := sv l2) rfl (wantN rfl) (fun _ => by kernel_rfl) ?_
      refine SOps.val (v := .int .i64 (l2.len : Int)) rfl (wantN rfl) (fun _ => by kernel_rfl) ?_
      refine SOps.val (v := .int .i64 0) rfl (wantN rfl) (fun _ => by kernel_rfl) ?_
      refine SOps.nil ?_
      refine SW.block ?_
      refine SW.loop (fun k2 fr H => ∃ (g : Fr) (l29 : Sl) (l30 : Sl) (x31 : Int) (x32 : Int), fr = g.upds [(6, sv l29), (25, sv l30), (26, (.int .i64 x31 : Value)), (27, (.int .i64 x32 : Value))] ∧ slices_Concat_net_flying_net_flying.l2 F K k2 l29 l30 x31 x32 H) F ⟨_, l27, l2, (l2.len : Int), 0, (Fr.upds_self _ _ ⟨rfl, rfl, rfl, rfl, trivial⟩), h⟩ ?_
      clear h
      rintro k2 fr H ⟨g, l29, l30, x31, x32, rfl, h⟩
      cases k2 with
      | zero => exact h.elim
      | succ k2 =>
        replace h : slices_Concat_net_flying_net_flying.r2 F K (slices_Concat_net_flying_net_flying.l2 F K k2) l29 l30 x31 x32 H := h
        unfold slices_Concat_net_flying_net_flying.r2 at h
        refine SW.seq ?_
        refine SW.region ?_
        refine SOps.val (v := .bool (decide (x32 < x31))) rfl (wantN rfl) (fun _ => by kernel_rfl) ?_
        refine SOps.nil ?_
        refine SW.seq ?_
        by_cases c33 : x32 < x31
        · replace h := h.1 c33
          have dc33 : (decide (x32 < x31)) = true := (decide_eq_true c33)
          refine SW.cond_t (t := decide (x32 < x31)) rfl dc33 ?_
          refine SW.skip ?_
          refine SW.seq ?_
          refine SW.block ?_
          refine SW.seq ?_
          refine SW.region ?_
          obtain ⟨p34, c35, c36, c37, h⟩ := h
          refine SOps.val (v := pv (some (p34.1, (p34.2 + x32.toNat * 1)))) rfl (wantN rfl) (fun w => ev_iaddr rfl Try.underlying109 (size := 1) (by kernel_rfl) rfl rfl c35 c36 c37 w) ?_
          obtain ⟨l38, c39, h⟩ := h
          refine SOps.rd (v := sv l38) rfl (wantN rfl) (fun w hw => ev_load1 rfl (fun _ => by kernel_rfl) (p := (p34.1, (p34.2 + x32.toNat * 1))) rfl c39 w hw) ?_
          refine SOps.val (v := sv l38) rfl (wantN rfl) (fun _ => by kernel_rfl) ?_
          refine SOps.nil ?_
          refine SW.region ?_
          refine SOps.val (v := sv l29) rfl (wantN rfl) (fun _ => by kernel_rfl) ?_
          refine SOps.val (v := sv l38) rfl (wantN rfl) (fun _ => by kernel_rfl) ?_
          obtain ⟨w42, c43, h⟩ := h
          refine SOps.append (z := .agg #[.int .i64 0, .int .i64 0, .string ByteArray.empty, .bool false]) (size := 4) (bytes := 40) rfl rfl (wantN rfl) Try.underlying68 (by kernel_rfl) rfl rfl rfl (.inl ⟨⟨_, Try.underlying68⟩, _, rfl, rfl, c43⟩) (AppendQ.mono h ?_)
          clear h
          intro l40 H41 h
          refine SOps.val (v := sv l40) rfl (wantN rfl) (fun _ => by kernel_rfl) ?_
          refine SOps.nil ?_
          refine SW.region ?_
          refine SOps.val (v := .int .i64 (w64 (x32 + 1))) rfl (wantN rfl) (fun _ => by kernel_rfl) ?_
          refine SOps.val (v := .int .i64 (w64 (x32 + 1))) rfl (wantN rfl) (fun _ => by kernel_rfl) ?_
          refine SOps.nil ?_
          exact ⟨k2, Nat.lt_succ_self k2, _, l40, l30, x31, w64 (x32 + 1), (Fr.upds_self _ _ ⟨rfl, rfl, rfl, rfl, trivial⟩), h⟩
        · replace h := h.2 c33
          have dc33 : (decide (x32 < x31)) = false := (decide_eq_false c33)
          refine SW.cond_f (t := decide (x32 < x31)) rfl dc33 ?_
          refine SW.exit ?_
          refine SW.seq ?_
          refine SW.region ?_
          refine SOps.val (v := sv l29) rfl (wantN rfl) (fun _ => by kernel_rfl) ?_
          refine SOps.val (v := sv l29) rfl (wantN rfl) (fun _ => by kernel_rfl) ?_
          refine SOps.nil ?_
          obtain ⟨Hr, hr, h⟩ := h
          exact SW.ret (retQ.mk (sv l29) (res1 rfl rfl) hr ⟨l29, rfl, h⟩)

/-! ### slices.Reverse[[]lading/net.flying,lading/net.flying]: function 62 -/
def slices_Reverse_net_flying_net_flying.r1 (F : Nat) (K : SH → Prop) (R1 : Sl → Int → Int → SH → Prop) (l2 : Sl) (x3 : Int) (x4 : Int) (H : SH) : Prop :=
  (x3 < x4 →
    ∃ p6, l2.a = some p6 ∧ 0 ≤ x4 ∧ x4 < (l2.len : Int) ∧
    ∃ (x10 : Int) (x11 : Int) (s12 : ByteArray) (q13 : Bool),
    SH.row H (some (p6.1, (p6.2 + x4.toNat * 4))) [.int .i64 x10, .int .i64 x11, .string s12, .bool q13] ∧
    ∃ p15, l2.a = some p15 ∧ 0 ≤ x3 ∧ x3 < (l2.len : Int) ∧
    ∃ (x19 : Int) (x20 : Int) (s21 : ByteArray) (q22 : Bool),
    SH.row H (some (p15.1, (p15.2 + x3.toNat * 4))) [.int .i64 x19, .int .i64 x20, .string s21, .bool q22] ∧
    ∃ p24, l2.a = some p24 ∧ 0 ≤ x3 ∧ x3 < (l2.len : Int) ∧
    SH.wrs H (p24.1, (p24.2 + x3.toNat * 4)) 4 ∧
    ∃ p30, l2.a = some p30 ∧ 0 ≤ x4 ∧ x4 < (l2.len : Int) ∧
    SH.wrs (SH.setl H (p24.1, (p24.2 + x3.toNat * 4)) [.int .i64 x10, .int .i64 x11, .string s12, .bool q13]) (p30.1, (p30.2 + x4.toNat * 4)) 4 ∧
    R1 l2 (w64 (x3 + 1)) (w64 (x4 - 1)) (SH.setl (SH.setl H (p24.1, (p24.2 + x3.toNat * 4)) [.int .i64 x10, .int .i64 x11, .string s12, .bool q13]) (p30.1, (p30.2 + x4.toNat * 4)) [.int .i64 x19, .int .i64 x20, .string s21, .bool q22])
  ) ∧ (¬ (x3 < x4) →
    ∃ Hr, SH.le Hr H ∧ K Hr
  )
def slices_Reverse_net_flying_net_flying.l1 (F : Nat) (K : SH → Prop) : Nat → Sl → Int → Int → SH → Prop
  | 0, _, _, _, _ => False
  | k + 1, l2, x3, x4, H => slices_Reverse_net_flying_net_flying.r1 F K (slices_Reverse_net_flying_net_flying.l1 F K k) l2 x3 x4 H
def slices_Reverse_net_flying_net_flying.wp (F : Nat) (l1 : Sl) (H : SH) (K : SH → Prop) : Prop :=
  slices_Reverse_net_flying_net_flying.l1 F K F l1 0 (w64 ((l1.len : Int) - 1)) H
set_option maxHeartbeats 8000000 in
theorem slices_Reverse_net_flying_net_flying.sound (F : Nat) (l1 : Sl) (H : SH) (K : SH → Prop) (h : slices_Reverse_net_flying_net_flying.wp F l1 H K) : SCalls Try.prog 62 #[sv l1] H (fun v H' => v = .tuple #[] ∧ K H') := by
  unfold slices_Reverse_net_flying_net_flying.wp at h
  refine SCalls.body Try.func62 rfl (Nat.le_of_ble_eq_true rfl) ?_
  refine SW.seq ?_
  refine SW.region ?_
  refine SOps.val (v := sv l1) rfl (wantN rfl) (fun _ => by kernel_rfl) ?_
  refine SOps.val (v := .int .i64 (l1.len : Int)) rfl (wantN rfl) (fun _ => by kernel_rfl) ?_
  refine SOps.val (v := .int .i64 (w64 ((l1.len : Int) - 1))) rfl (wantN rfl) (fun _ => by kernel_rfl) ?_
  refine SOps.val (v := .int .i64 0) rfl (wantN rfl) (fun _ => by kernel_rfl) ?_
  refine SOps.val (v := .int .i64 (w64 ((l1.len : Int) - 1))) rfl (wantN rfl) (fun _ => by kernel_rfl) ?_
  refine SOps.nil ?_
  refine SW.block ?_
  refine SW.loop (fun k1 fr H => ∃ (g : Fr) (l2 : Sl) (x3 : Int) (x4 : Int), fr = g.upds [(0, sv l2), (2, (.int .i64 x3 : Value)), (3, (.int .i64 x4 : Value))] ∧ slices_Reverse_net_flying_net_flying.l1 F K k1 l2 x3 x4 H) F ⟨_, l1, 0, w64 ((l1.len : Int) - 1), (Fr.upds_self _ _ ⟨rfl, rfl, rfl, trivial⟩), h⟩ ?_
  clear h
  rintro k1 fr H ⟨g, l2, x3, x4, rfl, h⟩
  cases k1 with
  | zero => exact h.elim
  | succ k1 =>
    replace h : slices_Reverse_net_flying_net_flying.r1 F K (slices_Reverse_net_flying_net_flying.l1 F K k1) l2 x3 x4 H := h
    unfold slices_Reverse_net_flying_net_flying.r1 at h
    refine SW.seq ?_
    refine SW.seq ?_
    refine SW.region ?_
    refine SOps.val (v := .int .i64 x3) rfl (wantN rfl) (fun _ => by kernel_rfl) ?_
    refine SOps.val (v := .int .i64 x4) rfl (wantN rfl) (fun _ => by kernel_rfl) ?_
    refine SOps.val (v := .bool (decide (x3 < x4))) rfl (wantN rfl) (fun _ => by kernel_rfl) ?_
    refine SOps.nil ?_
    by_cases c5 : x3 < x4
    · replace h := h.1 c5
      have dc5 : (decide (x3 < x4)) = true := (decide_eq_true c5)
      refine SW.cond_t (t := decide (x3 < x4)) rfl dc5 ?_
      refine SW.skip ?_
      refine SW.seq ?_
      refine SW.block ?_
      obtain ⟨p6, c7, c8, c9, h⟩ := h
      obtain ⟨x10, x11, s12, q13, c14, h⟩ := h
      obtain ⟨p15, c16, c17, c18, h⟩ := h
      obtain ⟨x19, x20, s21, q22, c23, h⟩ := h
      obtain ⟨p24, c25, c26, c27, h⟩ := h
      refine SW.drawE [2, 3] [.val (sv l2), .val (.int .i64 x3), .val (sv l2), .val (.int .i64 x4), .val (sv l2), .val (.int .i64 x4), .val (pv (some (p6.1, (p6.2 + x4.toNat * 4)))), .val (.agg #[.int .i64 x10, .int .i64 x11, .string s12, .bool q13]), .val (sv l2), .val (.int .i64 x3), .val (pv (some (p15.1, (p15.2 + x3.toNat * 4)))), .val (.agg #[.int .i64 x19, .int .i64 x20, .string s21, .bool q22]), .val (pv (some (p24.1, (p24.2 + x3.toNat * 4))))] (by kernel_rfl) (by kernel_rfl) (by kernel_rfl) ⟨⟨_, _, rfl, rfl, by kernel_rfl, ?_⟩, ⟨_, _, rfl, rfl, by kernel_rfl, ?_⟩, trivial⟩ (And.intro ?_ (And.intro ?_ (And.intro ?_ (And.intro ?_ (And.intro ?_ (And.intro ?_ (And.intro ?_ (And.intro ?_ (And.intro ?_ (And.intro ?_ (And.intro ?_ (And.intro ?_ (And.intro ?_ (trivial)))))))))))))) ?_
      · clear h
        intro fr' T' H' hle hs hA
        have a0 : fr' 0 = sv l2 := hs 0 (by kernel_rfl)
        obtain ⟨g', hg'⟩ : ∃ g' : Fr, fr' = g'.upds [(0, sv l2)] := ⟨_, Fr.upds_self _ _ ⟨a0, trivial⟩⟩
        subst hg'
        exact ⟨wantN rfl, (fun _ => by kernel_rfl)⟩
      · clear h
        intro fr' T' H' hle hs hA
        have a3 : fr' 3 = (.int .i64 x4 : Value) := hs 3 (by kernel_rfl)
        obtain ⟨g', hg'⟩ : ∃ g' : Fr, fr' = g'.upds [(3, (.int .i64 x4 : Value))] := ⟨_, Fr.upds_self _ _ ⟨a3, trivial⟩⟩
        subst hg'
        exact ⟨wantN rfl, (fun _ => by kernel_rfl)⟩
      · clear h
        intro fr' T' H' hle hs hA
        have a0 : fr' 0 = sv l2 := hs 0 (by kernel_rfl)
        obtain ⟨g', hg'⟩ : ∃ g' : Fr, fr' = g'.upds [(0, sv l2)] := ⟨_, Fr.upds_self _ _ ⟨a0, trivial⟩⟩
        subst hg'
        exact SA.val (v := sv l2) rfl (wantN rfl) (fun _ => by kernel_rfl)
      · clear h
        intro fr' T' H' hle hs hA
        have a2 : fr' 2 = (.int .i64 x3 : Value) := hs 2 (by kernel_rfl)
        obtain ⟨g', hg'⟩ : ∃ g' : Fr, fr' = g'.upds [(2, (.int .i64 x3 : Value))] := ⟨_, Fr.upds_self _ _ ⟨a2, trivial⟩⟩
        subst hg'
        exact SA.val (v := .int .i64 x3) rfl (wantN rfl) (fun _ => by kernel_rfl)
      · clear h
        intro fr' T' H' hle hs hA
        have a0 : fr' 0 = sv l2 := hs 0 (by kernel_rfl)
        obtain ⟨g', hg'⟩ : ∃ g' : Fr, fr' = g'.upds [(0, sv l2)] := ⟨_, Fr.upds_self _ _ ⟨a0, trivial⟩⟩
        subst hg'
        exact SA.val (v := sv l2) rfl (wantN rfl) (fun _ => by kernel_rfl)
      · clear h
        intro fr' T' H' hle hs hA
        have a3 : fr' 3 = (.int .i64 x4 : Value) := hs 3 (by kernel_rfl)
        obtain ⟨g', hg'⟩ : ∃ g' : Fr, fr' = g'.upds [(3, (.int .i64 x4 : Value))] := ⟨_, Fr.upds_self _ _ ⟨a3, trivial⟩⟩
        subst hg'
        exact SA.val (v := .int .i64 x4) rfl (wantN rfl) (fun _ => by kernel_rfl)
      · clear h
        intro fr' T' H' hle hs hA
        have a0 : fr' 0 = sv l2 := hs 0 (by kernel_rfl)
        obtain ⟨g', hg'⟩ : ∃ g' : Fr, fr' = g'.upds [(0, sv l2)] := ⟨_, Fr.upds_self _ _ ⟨a0, trivial⟩⟩
        subst hg'
        exact SA.val (v := sv l2) rfl (wantN rfl) (fun _ => by kernel_rfl)
      · clear h
        intro fr' T' H' hle hs hA
        have a3 : fr' 3 = (.int .i64 x4 : Value) := hs 3 (by kernel_rfl)
        obtain ⟨g', hg'⟩ : ∃ g' : Fr, fr' = g'.upds [(3, (.int .i64 x4 : Value))] := ⟨_, Fr.upds_self _ _ ⟨a3, trivial⟩⟩
        subst hg'
        exact SA.val (v := .int .i64 x4) rfl (wantN rfl) (fun _ => by kernel_rfl)
      · clear h
        intro fr' T' H' hle hs hA
        have a18 : fr' 18 = sv l2 := hA 4 (by kernel_rfl)
        have a19 : fr' 19 = (.int .i64 x4 : Value) := hA 5 (by kernel_rfl)
        obtain ⟨g', hg'⟩ : ∃ g' : Fr, fr' = g'.upds [(18, sv l2), (19, (.int .i64 x4 : Value))] := ⟨_, Fr.upds_self _ _ ⟨a18, a19, trivial⟩⟩
        subst hg'
        exact SA.val (v := pv (some (p6.1, (p6.2 + x4.toNat * 4)))) rfl (wantN rfl) (fun w => ev_iaddr rfl Try.underlying68 (size := 4) (by kernel_rfl) rfl rfl c7 c8 c9 w)
      · clear h
        intro fr' T' H' hle hs hA
        have a20 : fr' 20 = pv (some (p6.1, (p6.2 + x4.toNat * 4))) := hA 6 (by kernel_rfl)
        obtain ⟨g', hg'⟩ : ∃ g' : Fr, fr' = g'.upds [(20, pv (some (p6.1, (p6.2 + x4.toNat * 4))))] := ⟨_, Fr.upds_self _ _ ⟨a20, trivial⟩⟩
        subst hg'
        exact SA.rd hle (v := .agg #[.int .i64 x10, .int .i64 x11, .string s12, .bool q13]) rfl (wantN rfl) (fun w hw => ev_loadN rfl (fun _ => by kernel_rfl) (size := 4) (by kernel_rfl) (p := (p6.1, (p6.2 + x4.toNat * 4))) rfl rfl c14 w hw)
      · clear h
        intro fr' T' H' hle hs hA
        have a0 : fr' 0 = sv l2 := hs 0 (by kernel_rfl)
        obtain ⟨g', hg'⟩ : ∃ g' : Fr, fr' = g'.upds [(0, sv l2)] := ⟨_, Fr.upds_self _ _ ⟨a0, trivial⟩⟩
        subst hg'
        exact SA.val (v := sv l2) rfl (wantN rfl) (fun _ => by kernel_rfl)
      · clear h
        intro fr' T' H' hle hs hA
        have a2 : fr' 2 = (.int .i64 x3 : Value) := hs 2 (by kernel_rfl)
        obtain ⟨g', hg'⟩ : ∃ g' : Fr, fr' = g'.upds [(2, (.int .i64 x3 : Value))] := ⟨_, Fr.upds_self _ _ ⟨a2, trivial⟩⟩
        subst hg'
        exact SA.val (v := .int .i64 x3) rfl (wantN rfl) (fun _ => by kernel_rfl)
      · clear h
        intro fr' T' H' hle hs hA
        have a22 : fr' 22 = sv l2 := hA 8 (by kernel_rfl)
        have a23 : fr' 23 = (.int .i64 x3 : Value) := hA 9 (by kernel_rfl)
        obtain ⟨g', hg'⟩ : ∃ g' : Fr, fr' = g'.upds [(22, sv l2), (23, (.int .i64 x3 : Value))] := ⟨_, Fr.upds_self _ _ ⟨a22, a23, trivial⟩⟩
        subst hg'
        exact SA.val (v := pv (some (p15.1, (p15.2 + x3.toNat * 4)))) rfl (wantN rfl) (fun w => ev_iaddr rfl Try.underlying68 (size := 4) (by kernel_rfl) rfl rfl c16 c17 c18 w)
      · clear h
        intro fr' T' H' hle hs hA
        have a24 : fr' 24 = pv (some (p15.1, (p15.2 + x3.toNat * 4))) := hA 10 (by kernel_rfl)
        obtain ⟨g', hg'⟩ : ∃ g' : Fr, fr' = g'.upds [(24, pv (some (p15.1, (p15.2 + x3.toNat * 4))))] := ⟨_, Fr.upds_self _ _ ⟨a24, trivial⟩⟩
        subst hg'
        exact SA.rd hle (v := .agg #[.int .i64 x19, .int .i64 x20, .string s21, .bool q22]) rfl (wantN rfl) (fun w hw => ev_loadN rfl (fun _ => by kernel_rfl) (size := 4) (by kernel_rfl) (p := (p15.1, (p15.2 + x3.toNat * 4))) rfl rfl c23 w hw)
      · clear h
        intro fr' T' H' hle hs hA
        have a14 : fr' 14 = sv l2 := hA 0 (by kernel_rfl)
        have a15 : fr' 15 = (.int .i64 x3 : Value) := hA 1 (by kernel_rfl)
        obtain ⟨g', hg'⟩ : ∃ g' : Fr, fr' = g'.upds [(14, sv l2), (15, (.int .i64 x3 : Value))] := ⟨_, Fr.upds_self _ _ ⟨a14, a15, trivial⟩⟩
        subst hg'
        exact SA.val (v := pv (some (p24.1, (p24.2 + x3.toNat * 4)))) rfl (wantN rfl) (fun w => ev_iaddr rfl Try.underlying68 (size := 4) (by kernel_rfl) rfl rfl c25 c26 c27 w)
      · intro fr' T' H' hle hs hA
        have a0 : fr' 0 = sv l2 := hs 0 (by kernel_rfl)
        have a2 : fr' 2 = (.int .i64 x3 : Value) := hs 2 (by kernel_rfl)
        have a3 : fr' 3 = (.int .i64 x4 : Value) := hs 3 (by kernel_rfl)
        have a16 : fr' 16 = sv l2 := hA 2 (Nat.le_of_ble_eq_true rfl)
        have a17 : fr' 17 = (.int .i64 x4 : Value) := hA 3 (Nat.le_of_ble_eq_true rfl)
        have a21 : fr' 21 = (.agg #[.int .i64 x10, .int .i64 x11, .string s12, .bool q13] : Value) := hA 7 (Nat.le_of_ble_eq_true rfl)
        have a25 : fr' 25 = (.agg #[.int .i64 x19, .int .i64 x20, .string s21, .bool q22] : Value) := hA 11 (Nat.le_of_ble_eq_true rfl)
        have a26 : fr' 26 = pv (some (p24.1, (p24.2 + x3.toNat * 4))) := hA 12 (Nat.le_of_ble_eq_true rfl)
        obtain ⟨g', hg'⟩ : ∃ g' : Fr, fr' = g'.upds [(0, sv l2), (2, (.int .i64 x3 : Value)), (3, (.int .i64 x4 : Value)), (16, sv l2), (17, (.int .i64 x4 : Value)), (21, (.agg #[.int .i64 x10, .int .i64 x11, .string s12, .bool q13] : Value)), (25, (.agg #[.int .i64 x19, .int .i64 x20, .string s21, .bool q22] : Value)), (26, pv (some (p24.1, (p24.2 + x3.toNat * 4))))] := ⟨_, Fr.upds_self _ _ ⟨a0, a2, a3, a16, a17, a21, a25, a26, trivial⟩⟩
        subst hg'
        refine SOps.forget (H) hle ?_
        clear hle hs hA
        obtain ⟨c29, h⟩ := h
        refine SOps.storeL (p := (p24.1, (p24.2 + x3.toNat * 4))) (v := .agg #[.int .i64 x10, .int .i64 x11, .string s12, .bool q13]) (cs := [.int .i64 x10, .int .i64 x11, .string s12, .bool q13]) rfl rfl (wantN rfl) (size := 4) (by kernel_rfl) rfl rfl rfl rfl (by simp [Value.oneCell', errV_one, pv, sv]) c29 ?_
        obtain ⟨p30, c31, c32, c33, h⟩ := h
        refine SOps.val (v := pv (some (p30.1, (p30.2 + x4.toNat * 4)))) rfl (wantN rfl) (fun w => ev_iaddr rfl Try.underlying68 (size := 4) (by kernel_rfl) rfl rfl c31 c32 c33 w) ?_
        obtain ⟨c34, h⟩ := h
        refine SOps.storeL (p := (p30.1, (p30.2 + x4.toNat * 4))) (v := .agg #[.int .i64 x19, .int .i64 x20, .string s21, .bool q22]) (cs := [.int .i64 x19, .int .i64 x20, .string s21, .bool q22]) rfl rfl (wantN rfl) (size := 4) (by kernel_rfl) rfl rfl rfl rfl (by simp [Value.oneCell', errV_one, pv, sv]) c34 ?_
        refine SOps.nil ?_
        refine SW.region ?_
        refine SOps.val (v := .int .i64 x3) rfl (wantN rfl) (fun _ => by kernel_rfl) ?_
        refine SOps.val (v := .int .i64 (w64 (x3 + 1))) rfl (wantN rfl) (fun _ => by kernel_rfl) ?_
        refine SOps.val (v := .int .i64 x4) rfl (wantN rfl) (fun _ => by kernel_rfl) ?_
        refine SOps.val (v := .int .i64 (w64 (x4 - 1))) rfl (wantN rfl) (fun _ => by kernel_rfl) ?_
        refine SOps.val (v := .int .i64 (w64 (x3 + 1))) rfl (wantN rfl) (fun _ => by kernel_rfl) ?_
        refine SOps.val (v := .int .i64 (w64 (x4 - 1))) rfl (wantN rfl) (fun _ => by kernel_rfl) ?_
        refine SOps.nil ?_
        exact ⟨k1, Nat.lt_succ_self k1, _, l2, w64 (x3 + 1), w64 (x4 - 1), (Fr.upds_self _ _ ⟨rfl, rfl, rfl, trivial⟩), h⟩
    · replace h := h.2 c5
      have dc5 : (decide (x3 < x4)) = false := (decide_eq_false c5)
      refine SW.cond_f (t := decide (x3 < x4)) rfl dc5 ?_
      refine SW.exit ?_
      obtain ⟨Hr, hr, h⟩ := h
      exact retQ.mkN (.tuple #[]) (res0 rfl) hr ⟨rfl, h⟩

/-! ### slices.rotateLeft[lading/net.flying]: function 59 -/
def slices_rotateLeft_net_flying.wp (F : Nat) (l1 : Sl) (x2 : Int) (H : SH) (K : SH → Prop) : Prop :=
  0 ≤ (0 : Int) ∧
  (0 : Int) ≤ x2 ∧
  x2 ≤ (l1.cap : Int) ∧
  slices_Reverse_net_flying_net_flying.wp F (Sl.sub 4 l1 (0 : Int).toNat x2.toNat l1.cap) H (fun H6 =>
    0 ≤ x2 ∧
    x2 ≤ (l1.len : Int) ∧
    (l1.len : Int) ≤ (l1.cap : Int) ∧
    slices_Reverse_net_flying_net_flying.wp F (Sl.sub 4 l1 x2.toNat (l1.len : Int).toNat l1.cap) H6 (fun H10 =>
      slices_Reverse_net_flying_net_flying.wp F l1 H10 (fun H11 =>
        ∃ Hr, SH.le Hr H11 ∧ K Hr
      )
    )
  )
set_option maxHeartbeats 8000000 in
theorem slices_rotateLeft_net_flying.sound (F : Nat) (l1 : Sl) (x2 : Int) (H : SH) (K : SH → Prop) (h : slices_rotateLeft_net_flying.wp F l1 x2 H K) : SCalls Try.prog 59 #[sv l1, .int .i64 x2] H (fun v H' => v = .tuple #[] ∧ K H') := by
  unfold slices_rotateLeft_net_flying.wp at h
  refine SCalls.body Try.func59 rfl (Nat.le_of_ble_eq_true rfl) ?_
  refine SW.seq ?_
  refine SW.region ?_
  refine SOps.val (v := sv l1) rfl (wantN rfl) (fun _ => by kernel_rfl) ?_
  refine SOps.val (v := .int .i64 x2) rfl (wantN rfl) (fun _ => by kernel_rfl) ?_
  obtain ⟨c3, c4, c5, h⟩ := h
  refine SOps.val (v := sv (Sl.sub 4 l1 (0 : Int).toNat x2.toNat l1.cap)) rfl (wantN rfl) (fun w => ev_sub (a := (0 : Int)) (b := x2) rfl Try.underlying68 (size := 4) (by kernel_rfl) rfl (Or.inl ⟨rfl, rfl⟩) (Or.inr ⟨_, rfl⟩) c3 c4 c5 w) ?_
  refine SOps.enter rfl (wantN rfl) (fun _ => by kernel_rfl) (slices_Reverse_net_flying_net_flying.sound F (Sl.sub 4 l1 (0 : Int).toNat x2.toNat l1.cap) H _ h) ?_
  clear h
  rintro v H6 ⟨rfl, h⟩
  refine SOps.nil ?_
  refine SW.seq ?_
  refine SW.region ?_
  refine SOps.val (v := sv l1) rfl (wantN rfl) (fun _ => by kernel_rfl) ?_
  refine SOps.val (v := .int .i64 x2) rfl (wantN rfl) (fun _ => by kernel_rfl) ?_
  obtain ⟨c7, c8, c9, h⟩ := h
  refine SOps.val (v := sv (Sl.sub 4 l1 x2.toNat (l1.len : Int).toNat l1.cap)) rfl (wantN rfl) (fun w => ev_sub (a := x2) (b := (l1.len : Int)) rfl Try.underlying68 (size := 4) (by kernel_rfl) rfl (Or.inr ⟨_, rfl⟩) (Or.inl ⟨rfl, rfl⟩) c7 c8 c9 w) ?_
  refine SOps.enter rfl (wantN rfl) (fun _ => by kernel_rfl) (slices_Reverse_net_flying_net_flying.sound F (Sl.sub 4 l1 x2.toNat (l1.len : Int).toNat l1.cap) H6 _ h) ?_
  clear h
  rintro v H10 ⟨rfl, h⟩
  refine SOps.nil ?_
  refine SW.region ?_
  refine SOps.val (v := sv l1) rfl (wantN rfl) (fun _ => by kernel_rfl) ?_
  refine SOps.enter rfl (wantN rfl) (fun _ => by kernel_rfl) (slices_Reverse_net_flying_net_flying.sound F l1 H10 _ h) ?_
  clear h
  rintro v H11 ⟨rfl, h⟩
  refine SOps.nil ?_
  obtain ⟨Hr, hr, h⟩ := h
  exact retQ.mkN (.tuple #[]) (res0 rfl) hr ⟨rfl, h⟩

/-! ### slices.rotateRight[lading/net.flying]: function 49 -/
def slices_rotateRight_net_flying.wp (F : Nat) (l1 : Sl) (x2 : Int) (H : SH) (K : SH → Prop) : Prop :=
  slices_rotateLeft_net_flying.wp F l1 (w64 ((l1.len : Int) - x2)) H (fun H3 =>
    ∃ Hr, SH.le Hr H3 ∧ K Hr
  )
set_option maxHeartbeats 8000000 in
theorem slices_rotateRight_net_flying.sound (F : Nat) (l1 : Sl) (x2 : Int) (H : SH) (K : SH → Prop) (h : slices_rotateRight_net_flying.wp F l1 x2 H K) : SCalls Try.prog 49 #[sv l1, .int .i64 x2] H (fun v H' => v = .tuple #[] ∧ K H') := by
  unfold slices_rotateRight_net_flying.wp at h
  refine SCalls.body Try.func49 rfl (Nat.le_of_ble_eq_true rfl) ?_
  refine SW.region ?_
  refine SOps.val (v := sv l1) rfl (wantN rfl) (fun _ => by kernel_rfl) ?_
  refine SOps.val (v := sv l1) rfl (wantN rfl) (fun _ => by kernel_rfl) ?_
  refine SOps.val (v := .int .i64 (l1.len : Int)) rfl (wantN rfl) (fun _ => by kernel_rfl) ?_
  refine SOps.val (v := .int .i64 x2) rfl (wantN rfl) (fun _ => by kernel_rfl) ?_
  refine SOps.val (v := .int .i64 (w64 ((l1.len : Int) - x2))) rfl (wantN rfl) (fun _ => by kernel_rfl) ?_
  refine SOps.enter rfl (wantN rfl) (fun _ => by kernel_rfl) (slices_rotateLeft_net_flying.sound F l1 (w64 ((l1.len : Int) - x2)) H _ h) ?_
  clear h
  rintro v H3 ⟨rfl, h⟩
  refine SOps.nil ?_
  obtain ⟨Hr, hr, h⟩ := h
  exact retQ.mkN (.tuple #[]) (res0 rfl) hr ⟨rfl, h⟩

/-! ### slices.Insert[[]lading/net.flying,lading/net.flying]: function 32 -/
def slices_Insert_net_flying_net_flying.wp (F : Nat) (l1 : Sl) (x2 : Int) (l3 : Sl) (H : SH) (K : Sl → SH → Prop) : Prop :=
  0 ≤ x2 ∧
  x2 ≤ (l1.len : Int) ∧
  (l1.len : Int) ≤ (l1.cap : Int) ∧
  ((l3.len : Int) = 0 →
    ∃ Hr, SH.le Hr H ∧ K l1 Hr
  ) ∧ (¬ ((l3.len : Int) = 0) →
    (x2 = (l1.len : Int) →
      ∃ w11, SH.row H l3.a w11 ∧
      AppendQ H 74 4 40 l1 l3.len w11 (fun l9 H10 =>
        ∃ Hr, SH.le Hr H10 ∧ K l9 Hr
      )
    ) ∧ (¬ (x2 = (l1.len : Int)) →
      ((w64 ((l1.len : Int) + (l3.len : Int))) > (l1.cap : Int) →
        0 ≤ (0 : Int) ∧
        (0 : Int) ≤ x2 ∧
        x2 ≤ (l1.cap : Int) ∧
        0 ≤ (w64 ((w64 ((l1.len : Int) + (l3.len : Int))) - x2)) ∧ AppendQ H 74 4 40 (Sl.sub 4 l1 (0 : Int).toNat x2.toNat l1.cap) (w64 ((w64 ((l1.len : Int) + (l3.len : Int))) - x2)).toNat (Builtin.zeroCells (Value.cells (.agg #[.int .i64 0, .int .i64 0, .string ByteArray.empty, .bool false] : Value)) (w64 ((w64 ((l1.len : Int) + (l3.len : Int))) - x2)).toNat).toList (fun l17 H18 =>
          0 ≤ x2 ∧
          x2 ≤ (l17.len : Int) ∧
          (l17.len : Int) ≤ (l17.cap : Int) ∧
          ∃ w23, SH.row H18 l3.a w23 ∧ w23.length = Nat.min l3.len (Sl.sub 4 l17 x2.toNat (l17.len : Int).toNat l17.cap).len * 4 ∧ (∀ u ∈ w23, u.oneCell' = true) ∧ (∀ p, (Sl.sub 4 l17 x2.toNat (l17.len : Int).toNat l17.cap).a = some p → SH.wrx H18 p w23.length) ∧
          0 ≤ (w64 (x2 + (l3.len : Int))) ∧
          (w64 (x2 + (l3.len : Int))) ≤ (l17.len : Int) ∧
          (l17.len : Int) ≤ (l17.cap : Int) ∧
          0 ≤ x2 ∧
          x2 ≤ (l1.len : Int) ∧
          (l1.len : Int) ≤ (l1.cap : Int) ∧
          ∃ w35, SH.row (SH.cpy H18 (Sl.sub 4 l17 x2.toNat (l17.len : Int).toNat l17.cap).a w23) (Sl.sub 4 l1 x2.toNat (l1.len : Int).toNat l1.cap).a w35 ∧ w35.length = Nat.min (Sl.sub 4 l1 x2.toNat (l1.len : Int).toNat l1.cap).len (Sl.sub 4 l17 (w64 (x2 + (l3.len : Int))).toNat (l17.len : Int).toNat l17.cap).len * 4 ∧ (∀ u ∈ w35, u.oneCell' = true) ∧ (∀ p, (Sl.sub 4 l17 (w64 (x2 + (l3.len : Int))).toNat (l17.len : Int).toNat l17.cap).a = some p → SH.wrx (SH.cpy H18 (Sl.sub 4 l17 x2.toNat (l17.len : Int).toNat l17.cap).a w23) p w35.length) ∧
          ∃ Hr, SH.le Hr (SH.cpy (SH.cpy H18 (Sl.sub 4 l17 x2.toNat (l17.len : Int).toNat l17.cap).a w23) (Sl.sub 4 l17 (w64 (x2 + (l3.len : Int))).toNat (l17.len : Int).toNat l17.cap).a w35) ∧ K l17 Hr
        )
      ) ∧ (¬ ((w64 ((l1.len : Int) + (l3.len : Int))) > (l1.cap : Int)) →
        0 ≤ (0 : Int) ∧
        (0 : Int) ≤ (w64 ((l1.len : Int) + (l3.len : Int))) ∧
        (w64 ((l1.len : Int) + (l3.len : Int))) ≤ (l1.cap : Int) ∧
        0 ≤ (w64 (x2 + (l3.len : Int))) ∧
        (w64 (x2 + (l3.len : Int))) ≤ ((Sl.sub 4 l1 (0 : Int).toNat (w64 ((l1.len : Int) + (l3.len : Int))).toNat l1.cap).len : Int) ∧
        ((Sl.sub 4 l1 (0 : Int).toNat (w64 ((l1.len : Int) + (l3.len : Int))).toNat l1.cap).len : Int) ≤ ((Sl.sub 4 l1 (0 : Int).toNat (w64 ((l1.len : Int) + (l3.len : Int))).toNat l1.cap).cap : Int) ∧
        Apart H l3.a (Sl.sub 4 (Sl.sub 4 l1 (0 : Int).toNat (w64 ((l1.len : Int) + (l3.len : Int))).toNat l1.cap) (w64 (x2 + (l3.len : Int))).toNat ((Sl.sub 4 l1 (0 : Int).toNat (w64 ((l1.len : Int) + (l3.len : Int))).toNat l1.cap).len : Int).toNat (Sl.sub 4 l1 (0 : Int).toNat (w64 ((l1.len : Int) + (l3.len : Int))).toNat l1.cap).cap).a ∧
        0 ≤ (w64 (x2 + (l3.len : Int))) ∧
        (w64 (x2 + (l3.len : Int))) ≤ ((Sl.sub 4 l1 (0 : Int).toNat (w64 ((l1.len : Int) + (l3.len : Int))).toNat l1.cap).len : Int) ∧
        ((Sl.sub 4 l1 (0 : Int).toNat (w64 ((l1.len : Int) + (l3.len : Int))).toNat l1.cap).len : Int) ≤ ((Sl.sub 4 l1 (0 : Int).toNat (w64 ((l1.len : Int) + (l3.len : Int))).toNat l1.cap).cap : Int) ∧
        0 ≤ x2 ∧
        x2 ≤ ((Sl.sub 4 l1 (0 : Int).toNat (w64 ((l1.len : Int) + (l3.len : Int))).toNat l1.cap).len : Int) ∧
        ((Sl.sub 4 l1 (0 : Int).toNat (w64 ((l1.len : Int) + (l3.len : Int))).toNat l1.cap).len : Int) ≤ ((Sl.sub 4 l1 (0 : Int).toNat (w64 ((l1.len : Int) + (l3.len : Int))).toNat l1.cap).cap : Int) ∧
        ∃ w54, SH.row H (Sl.sub 4 (Sl.sub 4 l1 (0 : Int).toNat (w64 ((l1.len : Int) + (l3.len : Int))).toNat l1.cap) x2.toNat ((Sl.sub 4 l1 (0 : Int).toNat (w64 ((l1.len : Int) + (l3.len : Int))).toNat l1.cap).len : Int).toNat (Sl.sub 4 l1 (0 : Int).toNat (w64 ((l1.len : Int) + (l3.len : Int))).toNat l1.cap).cap).a w54 ∧ w54.length = Nat.min (Sl.sub 4 (Sl.sub 4 l1 (0 : Int).toNat (w64 ((l1.len : Int) + (l3.len : Int))).toNat l1.cap) x2.toNat ((Sl.sub 4 l1 (0 : Int).toNat (w64 ((l1.len : Int) + (l3.len : Int))).toNat l1.cap).len : Int).toNat (Sl.sub 4 l1 (0 : Int).toNat (w64 ((l1.len : Int) + (l3.len : Int))).toNat l1.cap).cap).len (Sl.sub 4 (Sl.sub 4 l1 (0 : Int).toNat (w64 ((l1.len : Int) + (l3.len : Int))).toNat l1.cap) (w64 (x2 + (l3.len : Int))).toNat ((Sl.sub 4 l1 (0 : Int).toNat (w64 ((l1.len : Int) + (l3.len : Int))).toNat l1.cap).len : Int).toNat (Sl.sub 4 l1 (0 : Int).toNat (w64 ((l1.len : Int) + (l3.len : Int))).toNat l1.cap).cap).len * 4 ∧ (∀ u ∈ w54, u.oneCell' = true) ∧ (∀ p, (Sl.sub 4 (Sl.sub 4 l1 (0 : Int).toNat (w64 ((l1.len : Int) + (l3.len : Int))).toNat l1.cap) (w64 (x2 + (l3.len : Int))).toNat ((Sl.sub 4 l1 (0 : Int).toNat (w64 ((l1.len : Int) + (l3.len : Int))).toNat l1.cap).len : Int).toNat (Sl.sub 4 l1 (0 : Int).toNat (w64 ((l1.len : Int) + (l3.len : Int))).toNat l1.cap).cap).a = some p → SH.wrx H p w54.length) ∧
        0 ≤ x2 ∧
        x2 ≤ ((Sl.sub 4 l1 (0 : Int).toNat (w64 ((l1.len : Int) + (l3.len : Int))).toNat l1.cap).len : Int) ∧
        ((Sl.sub 4 l1 (0 : Int).toNat (w64 ((l1.len : Int) + (l3.len : Int))).toNat l1.cap).len : Int) ≤ ((Sl.sub 4 l1 (0 : Int).toNat (w64 ((l1.len : Int) + (l3.len : Int))).toNat l1.cap).cap : Int) ∧
        ∃ w62, SH.row (SH.cpy H (Sl.sub 4 (Sl.sub 4 l1 (0 : Int).toNat (w64 ((l1.len : Int) + (l3.len : Int))).toNat l1.cap) (w64 (x2 + (l3.len : Int))).toNat ((Sl.sub 4 l1 (0 : Int).toNat (w64 ((l1.len : Int) + (l3.len : Int))).toNat l1.cap).len : Int).toNat (Sl.sub 4 l1 (0 : Int).toNat (w64 ((l1.len : Int) + (l3.len : Int))).toNat l1.cap).cap).a w54) l3.a w62 ∧ w62.length = Nat.min l3.len (Sl.sub 4 (Sl.sub 4 l1 (0 : Int).toNat (w64 ((l1.len : Int) + (l3.len : Int))).toNat l1.cap) x2.toNat ((Sl.sub 4 l1 (0 : Int).toNat (w64 ((l1.len : Int) + (l3.len : Int))).toNat l1.cap).len : Int).toNat (Sl.sub 4 l1 (0 : Int).toNat (w64 ((l1.len : Int) + (l3.len : Int))).toNat l1.cap).cap).len * 4 ∧ (∀ u ∈ w62, u.oneCell' = true) ∧ (∀ p, (Sl.sub 4 (Sl.sub 4 l1 (0 : Int).toNat (w64 ((l1.len : Int) + (l3.len : Int))).toNat l1.cap) x2.toNat ((Sl.sub 4 l1 (0 : Int).toNat (w64 ((l1.len : Int) + (l3.len : Int))).toNat l1.cap).len : Int).toNat (Sl.sub 4 l1 (0 : Int).toNat (w64 ((l1.len : Int) + (l3.len : Int))).toNat l1.cap).cap).a = some p → SH.wrx (SH.cpy H (Sl.sub 4 (Sl.sub 4 l1 (0 : Int).toNat (w64 ((l1.len : Int) + (l3.len : Int))).toNat l1.cap) (w64 (x2 + (l3.len : Int))).toNat ((Sl.sub 4 l1 (0 : Int).toNat (w64 ((l1.len : Int) + (l3.len : Int))).toNat l1.cap).len : Int).toNat (Sl.sub 4 l1 (0 : Int).toNat (w64 ((l1.len : Int) + (l3.len : Int))).toNat l1.cap).cap).a w54) p w62.length) ∧
        ∃ Hr, SH.le Hr (SH.cpy (SH.cpy H (Sl.sub 4 (Sl.sub 4 l1 (0 : Int).toNat (w64 ((l1.len : Int) + (l3.len : Int))).toNat l1.cap) (w64 (x2 + (l3.len : Int))).toNat ((Sl.sub 4 l1 (0 : Int).toNat (w64 ((l1.len : Int) + (l3.len : Int))).toNat l1.cap).len : Int).toNat (Sl.sub 4 l1 (0 : Int).toNat (w64 ((l1.len : Int) + (l3.len : Int))).toNat l1.cap).cap).a w54) (Sl.sub 4 (Sl.sub 4 l1 (0 : Int).toNat (w64 ((l1.len : Int) + (l3.len : Int))).toNat l1.cap) x2.toNat ((Sl.sub 4 l1 (0 : Int).toNat (w64 ((l1.len : Int) + (l3.len : Int))).toNat l1.cap).len : Int).toNat (Sl.sub 4 l1 (0 : Int).toNat (w64 ((l1.len : Int) + (l3.len : Int))).toNat l1.cap).cap).a w62) ∧ K (Sl.sub 4 l1 (0 : Int).toNat (w64 ((l1.len : Int) + (l3.len : Int))).toNat l1.cap) Hr
      )
    )
  )
set_option maxHeartbeats 8000000 in
theorem slices_Insert_net_flying_net_flying.sound (F : Nat) (l1 : Sl) (x2 : Int) (l3 : Sl) (H : SH) (K : Sl → SH → Prop) (h : slices_Insert_net_flying_net_flying.wp F l1 x2 l3 H K) : SCalls Try.prog 32 #[sv l1, .int .i64 x2, sv l3] H (fun v H' => ∃ (l68 : Sl), v = sv l68 ∧ K l68 H') := by
  unfold slices_Insert_net_flying_net_flying.wp at h
  refine SCalls.body Try.func32 rfl (Nat.le_of_ble_eq_true rfl) ?_
  refine SW.seq ?_
  refine SW.region ?_
  refine SOps.val (v := sv Sl.nil) rfl (wantN rfl) (fun _ => by kernel_rfl) ?_
  refine SOps.nil ?_
  refine SW.seq ?_
  refine SW.region ?_
  refine SOps.val (v := sv l1) rfl (wantN rfl) (fun _ => by kernel_rfl) ?_
  refine SOps.val (v := .int .i64 x2) rfl (wantN rfl) (fun _ => by kernel_rfl) ?_
  obtain ⟨c4, c5, c6, h⟩ := h
  refine SOps.val (v := sv (Sl.sub 4 l1 x2.toNat (l1.len : Int).toNat l1.cap)) rfl (wantN rfl) (fun w => ev_sub (a := x2) (b := (l1.len : Int)) rfl Try.underlying68 (size := 4) (by kernel_rfl) rfl (Or.inr ⟨_, rfl⟩) (Or.inl ⟨rfl, rfl⟩) c4 c5 c6 w) ?_
  refine SOps.nil ?_
  refine SW.seq ?_
  refine SW.region ?_
  refine SOps.val (v := sv l3) rfl (wantN rfl) (fun _ => by kernel_rfl) ?_
  refine SOps.val (v := .int .i64 (l3.len : Int)) rfl (wantN rfl) (fun _ => by kernel_rfl) ?_
  refine SOps.val (v := .int .i64 (l3.len : Int)) rfl (wantN rfl) (fun _ => by kernel_rfl) ?_
  refine SOps.nil ?_
  refine SW.seq ?_
  refine SW.seq ?_
  refine SW.region ?_
  refine SOps.val (v := .int .i64 (l3.len : Int)) rfl (wantN rfl) (fun _ => by kernel_rfl) ?_
  refine SOps.val (v := .bool ((l3.len : Int) == 0)) rfl (wantN rfl) (fun _ => by kernel_rfl) ?_
  refine SOps.nil ?_
  by_cases c7 : (l3.len : Int) = 0
  · replace h := h.1 c7
    have dc7 : ((l3.len : Int) == 0) = true := (beq_iff_eq.mpr c7)
    refine SW.cond_t (t := ((l3.len : Int) == 0)) rfl dc7 ?_
    refine SW.seq ?_
    refine SW.region ?_
    refine SOps.val (v := sv l1) rfl (wantN rfl) (fun _ => by kernel_rfl) ?_
    refine SOps.val (v := sv l1) rfl (wantN rfl) (fun _ => by kernel_rfl) ?_
    refine SOps.nil ?_
    obtain ⟨Hr, hr, h⟩ := h
    exact SW.ret (retQ.mk (sv l1) (res1 rfl rfl) hr ⟨l1, rfl, h⟩)
  · replace h := h.2 c7
    have dc7 : ((l3.len : Int) == 0) = false := (beq_eq_false_iff_ne.mpr c7)
    refine SW.cond_f (t := ((l3.len : Int) == 0)) rfl dc7 ?_
    refine SW.skip ?_
    refine SW.seq ?_
    refine SW.region ?_
    refine SOps.val (v := sv l1) rfl (wantN rfl) (fun _ => by kernel_rfl) ?_
    refine SOps.val (v := .int .i64 (l1.len : Int)) rfl (wantN rfl) (fun _ => by kernel_rfl) ?_
    refine SOps.val (v := .int .i64 (l1.len : Int)) rfl (wantN rfl) (fun _ => by kernel_rfl) ?_
    refine SOps.nil ?_
    refine SW.seq ?_
    refine SW.seq ?_
    refine SW.region ?_
    refine SOps.val (v := .int .i64 x2) rfl (wantN rfl) (fun _ => by kernel_rfl) ?_
    refine SOps.val (v := .int .i64 (l1.len : Int)) rfl (wantN rfl) (fun _ => by kernel_rfl) ?_
    refine SOps.val (v := .bool (x2 == (l1.len : Int))) rfl (wantN rfl) (fun _ => by kernel_rfl) ?_
    refine SOps.nil ?_
    by_cases c8 : x2 = (l1.len : Int)
    · replace h := h.1 c8
      have dc8 : (x2 == (l1.len : Int)) = true := (beq_iff_eq.mpr c8)
      refine SW.cond_t (t := (x2 == (l1.len : Int))) rfl dc8 ?_
      refine SW.seq ?_
      refine SW.region ?_
      refine SOps.val (v := sv l1) rfl (wantN rfl) (fun _ => by kernel_rfl) ?_
      refine SOps.val (v := sv l3) rfl (wantN rfl) (fun _ => by kernel_rfl) ?_
      obtain ⟨w11, c12, h⟩ := h
      refine SOps.append (z := .agg #[.int .i64 0, .int .i64 0, .string ByteArray.empty, .bool false]) (size := 4) (bytes := 40) rfl rfl (wantN rfl) Try.underlying68 (by kernel_rfl) rfl rfl rfl (.inl ⟨⟨_, Try.underlying68⟩, _, rfl, rfl, c12⟩) (AppendQ.mono h ?_)
      clear h
      intro l9 H10 h
      refine SOps.val (v := sv l9) rfl (wantN rfl) (fun _ => by kernel_rfl) ?_
      refine SOps.nil ?_
      obtain ⟨Hr, hr, h⟩ := h
      exact SW.ret (retQ.mk (sv l9) (res1 rfl rfl) hr ⟨l9, rfl, h⟩)
    · replace h := h.2 c8
      have dc8 : (x2 == (l1.len : Int)) = false := (beq_eq_false_iff_ne.mpr c8)
      refine SW.cond_f (t := (x2 == (l1.len : Int))) rfl dc8 ?_
      refine SW.skip ?_
      refine SW.seq ?_
      refine SW.seq ?_
      refine SW.region ?_
      refine SOps.val (v := .int .i64 (l1.len : Int)) rfl (wantN rfl) (fun _ => by kernel_rfl) ?_
      refine SOps.val (v := .int .i64 (l3.len : Int)) rfl (wantN rfl) (fun _ => by kernel_rfl) ?_
      refine SOps.val (v := .int .i64 (w64 ((l1.len : Int) + (l3.len : Int)))) rfl (wantN rfl) (fun _ => by kernel_rfl) ?_
      refine SOps.val (v := sv l1) rfl (wantN rfl) (fun _ => by kernel_rfl) ?_
      refine SOps.val (v := .int .i64 (l1.cap : Int)) rfl (wantN rfl) (fun _ => by kernel_rfl) ?_
      refine SOps.val (v := .bool (decide ((w64 ((l1.len : Int) + (l3.len : Int))) > (l1.cap : Int)))) rfl (wantN rfl) (fun _ => by kernel_rfl) ?_
      refine SOps.nil ?_
      by_cases c13 : (w64 ((l1.len : Int) + (l3.len : Int))) > (l1.cap : Int)
      · replace h := h.1 c13
        have dc13 : (decide ((w64 ((l1.len : Int) + (l3.len : Int))) > (l1.cap : Int))) = true := (decide_eq_true c13)
        refine SW.cond_t (t := decide ((w64 ((l1.len : Int) + (l3.len : Int))) > (l1.cap : Int))) rfl dc13 ?_
        refine SW.seq ?_
        refine SW.region ?_
        refine SOps.val (v := sv l1) rfl (wantN rfl) (fun _ => by kernel_rfl) ?_
        refine SOps.val (v := .int .i64 x2) rfl (wantN rfl) (fun _ => by kernel_rfl) ?_
        obtain ⟨c14, c15, c16, h⟩ := h
        refine SOps.val (v := sv (Sl.sub 4 l1 (0 : Int).toNat x2.toNat l1.cap)) rfl (wantN rfl) (fun w => ev_sub (a := (0 : Int)) (b := x2) rfl Try.underlying68 (size := 4) (by kernel_rfl) rfl (Or.inl ⟨rfl, rfl⟩) (Or.inr ⟨_, rfl⟩) c14 c15 c16 w) ?_
        refine SOps.val (v := .int .i64 (l1.len : Int)) rfl (wantN rfl) (fun _ => by kernel_rfl) ?_
        refine SOps.val (v := .int .i64 (l3.len : Int)) rfl (wantN rfl) (fun _ => by kernel_rfl) ?_
        refine SOps.val (v := .int .i64 (w64 ((l1.len : Int) + (l3.len : Int)))) rfl (wantN rfl) (fun _ => by kernel_rfl) ?_
        refine SOps.val (v := .int .i64 x2) rfl (wantN rfl) (fun _ => by kernel_rfl) ?_
        refine SOps.val (v := .int .i64 (w64 ((w64 ((l1.len : Int) + (l3.len : Int))) - x2))) rfl (wantN rfl) (fun _ => by kernel_rfl) ?_
        obtain ⟨c19, h⟩ := h
        refine SOps.appendZ (z := .agg #[.int .i64 0, .int .i64 0, .string ByteArray.empty, .bool false]) (size := 4) (bytes := 40) rfl rfl (wantN rfl) Try.underlying68 Try.underlying3 (by kernel_rfl) rfl (by decide) (by decide) rfl rfl c19 (AppendQ.mono h ?_)
        clear h
        intro l17 H18 h
        refine SOps.val (v := sv l17) rfl (wantN rfl) (fun _ => by kernel_rfl) ?_
        refine SOps.nil ?_
        refine SW.seq ?_
        refine SW.region ?_
        refine SOps.val (v := sv l17) rfl (wantN rfl) (fun _ => by kernel_rfl) ?_
        refine SOps.val (v := .int .i64 x2) rfl (wantN rfl) (fun _ => by kernel_rfl) ?_
        obtain ⟨c20, c21, c22, h⟩ := h
        refine SOps.val (v := sv (Sl.sub 4 l17 x2.toNat (l17.len : Int).toNat l17.cap)) rfl (wantN rfl) (fun w => ev_sub (a := x2) (b := (l17.len : Int)) rfl Try.underlying68 (size := 4) (by kernel_rfl) rfl (Or.inr ⟨_, rfl⟩) (Or.inl ⟨rfl, rfl⟩) c20 c21 c22 w) ?_
        refine SOps.val (v := sv l3) rfl (wantN rfl) (fun _ => by kernel_rfl) ?_
        obtain ⟨w23, c24, c25, c26, c27, h⟩ := h
        refine SOps.copyJ (size := 4) rfl rfl (wantN rfl) Try.underlying68 (by kernel_rfl) rfl rfl c24 c25 c26 c27 ?_
        refine SOps.nil ?_
        refine SW.seq ?_
        obtain ⟨c28, c29, c30, h⟩ := h
        obtain ⟨c31, c32, c33, h⟩ := h
        refine SW.drawA [.val (sv l17), .val (.int .i64 x2), .val (.int .i64 (l3.len : Int)), .val (.int .i64 (w64 (x2 + (l3.len : Int)))), .val (sv (Sl.sub 4 l17 (w64 (x2 + (l3.len : Int))).toNat (l17.len : Int).toNat l17.cap)), .val (sv l1), .val (.int .i64 x2), .val (sv (Sl.sub 4 l1 x2.toNat (l1.len : Int).toNat l1.cap))] (by kernel_rfl) (by kernel_rfl) (And.intro ?_ (And.intro ?_ (And.intro ?_ (And.intro ?_ (And.intro ?_ (And.intro ?_ (And.intro ?_ (And.intro ?_ (trivial))))))))) ?_
        · clear h
          intro fr' T' H' hle hs hA
          have a9 : fr' 9 = sv l17 := hs 9 (by kernel_rfl)
          obtain ⟨g', hg'⟩ : ∃ g' : Fr, fr' = g'.upds [(9, sv l17)] := ⟨_, Fr.upds_self _ _ ⟨a9, trivial⟩⟩
          subst hg'
          exact SA.val (v := sv l17) rfl (wantN rfl) (fun _ => by kernel_rfl)
        · clear h
          intro fr' T' H' hle hs hA
          have a1 : fr' 1 = (.int .i64 x2 : Value) := hs 1 (by kernel_rfl)
          obtain ⟨g', hg'⟩ : ∃ g' : Fr, fr' = g'.upds [(1, (.int .i64 x2 : Value))] := ⟨_, Fr.upds_self _ _ ⟨a1, trivial⟩⟩
          subst hg'
          exact SA.val (v := .int .i64 x2) rfl (wantN rfl) (fun _ => by kernel_rfl)
        · clear h
          intro fr' T' H' hle hs hA
          have a7 : fr' 7 = (.int .i64 (l3.len : Int) : Value) := hs 7 (by kernel_rfl)
          obtain ⟨g', hg'⟩ : ∃ g' : Fr, fr' = g'.upds [(7, (.int .i64 (l3.len : Int) : Value))] := ⟨_, Fr.upds_self _ _ ⟨a7, trivial⟩⟩
          subst hg'
          exact SA.val (v := .int .i64 (l3.len : Int)) rfl (wantN rfl) (fun _ => by kernel_rfl)
        · clear h
          intro fr' T' H' hle hs hA
          have a47 : fr' 47 = (.int .i64 x2 : Value) := hA 1 (by kernel_rfl)
          have a48 : fr' 48 = (.int .i64 (l3.len : Int) : Value) := hA 2 (by kernel_rfl)
          obtain ⟨g', hg'⟩ : ∃ g' : Fr, fr' = g'.upds [(47, (.int .i64 x2 : Value)), (48, (.int .i64 (l3.len : Int) : Value))] := ⟨_, Fr.upds_self _ _ ⟨a47, a48, trivial⟩⟩
          subst hg'
          exact SA.val (v := .int .i64 (w64 (x2 + (l3.len : Int)))) rfl (wantN rfl) (fun _ => by kernel_rfl)
        · clear h
          intro fr' T' H' hle hs hA
          have a46 : fr' 46 = sv l17 := hA 0 (by kernel_rfl)
          have a49 : fr' 49 = (.int .i64 (w64 (x2 + (l3.len : Int))) : Value) := hA 3 (by kernel_rfl)
          obtain ⟨g', hg'⟩ : ∃ g' : Fr, fr' = g'.upds [(46, sv l17), (49, (.int .i64 (w64 (x2 + (l3.len : Int))) : Value))] := ⟨_, Fr.upds_self _ _ ⟨a46, a49, trivial⟩⟩
          subst hg'
          exact SA.val (v := sv (Sl.sub 4 l17 (w64 (x2 + (l3.len : Int))).toNat (l17.len : Int).toNat l17.cap)) rfl (wantN rfl) (fun w => ev_sub (a := (w64 (x2 + (l3.len : Int)))) (b := (l17.len : Int)) rfl Try.underlying68 (size := 4) (by kernel_rfl) rfl (Or.inr ⟨_, rfl⟩) (Or.inl ⟨rfl, rfl⟩) c28 c29 c30 w)
        · clear h
          intro fr' T' H' hle hs hA
          have a0 : fr' 0 = sv l1 := hs 0 (by kernel_rfl)
          obtain ⟨g', hg'⟩ : ∃ g' : Fr, fr' = g'.upds [(0, sv l1)] := ⟨_, Fr.upds_self _ _ ⟨a0, trivial⟩⟩
          subst hg'
          exact SA.val (v := sv l1) rfl (wantN rfl) (fun _ => by kernel_rfl)
        · clear h
          intro fr' T' H' hle hs hA
          have a1 : fr' 1 = (.int .i64 x2 : Value) := hs 1 (by kernel_rfl)
          obtain ⟨g', hg'⟩ : ∃ g' : Fr, fr' = g'.upds [(1, (.int .i64 x2 : Value))] := ⟨_, Fr.upds_self _ _ ⟨a1, trivial⟩⟩
          subst hg'
          exact SA.val (v := .int .i64 x2) rfl (wantN rfl) (fun _ => by kernel_rfl)
        · clear h
          intro fr' T' H' hle hs hA
          have a51 : fr' 51 = sv l1 := hA 5 (by kernel_rfl)
          have a52 : fr' 52 = (.int .i64 x2 : Value) := hA 6 (by kernel_rfl)
          obtain ⟨g', hg'⟩ : ∃ g' : Fr, fr' = g'.upds [(51, sv l1), (52, (.int .i64 x2 : Value))] := ⟨_, Fr.upds_self _ _ ⟨a51, a52, trivial⟩⟩
          subst hg'
          exact SA.val (v := sv (Sl.sub 4 l1 x2.toNat (l1.len : Int).toNat l1.cap)) rfl (wantN rfl) (fun w => ev_sub (a := x2) (b := (l1.len : Int)) rfl Try.underlying68 (size := 4) (by kernel_rfl) rfl (Or.inr ⟨_, rfl⟩) (Or.inl ⟨rfl, rfl⟩) c31 c32 c33 w)
        · intro fr' T' H' hle hs hA
          have a9 : fr' 9 = sv l17 := hs 9 (by kernel_rfl)
          have a50 : fr' 50 = sv (Sl.sub 4 l17 (w64 (x2 + (l3.len : Int))).toNat (l17.len : Int).toNat l17.cap) := hA 4 (Nat.le_of_ble_eq_true rfl)
          have a53 : fr' 53 = sv (Sl.sub 4 l1 x2.toNat (l1.len : Int).toNat l1.cap) := hA 7 (Nat.le_of_ble_eq_true rfl)
          obtain ⟨g', hg'⟩ : ∃ g' : Fr, fr' = g'.upds [(9, sv l17), (50, sv (Sl.sub 4 l17 (w64 (x2 + (l3.len : Int))).toNat (l17.len : Int).toNat l17.cap)), (53, sv (Sl.sub 4 l1 x2.toNat (l1.len : Int).toNat l1.cap))] := ⟨_, Fr.upds_self _ _ ⟨a9, a50, a53, trivial⟩⟩
          subst hg'
          refine SOps.forget (SH.cpy H18 (Sl.sub 4 l17 x2.toNat (l17.len : Int).toNat l17.cap).a w23) hle ?_
          clear hle hs hA
          obtain ⟨w35, c36, c37, c38, c39, h⟩ := h
          refine SOps.copyJ (size := 4) rfl rfl (wantN rfl) Try.underlying68 (by kernel_rfl) rfl rfl c36 c37 c38 c39 ?_
          refine SOps.nil ?_
          refine SW.seq ?_
          refine SW.region ?_
          refine SOps.val (v := sv l17) rfl (wantN rfl) (fun _ => by kernel_rfl) ?_
          refine SOps.val (v := sv l17) rfl (wantN rfl) (fun _ => by kernel_rfl) ?_
          refine SOps.nil ?_
          obtain ⟨Hr, hr, h⟩ := h
          exact SW.ret (retQ.mk (sv l17) (res1 rfl rfl) hr ⟨l17, rfl, h⟩)
      · replace h := h.2 c13
        have dc13 : (decide ((w64 ((l1.len : Int) + (l3.len : Int))) > (l1.cap : Int))) = false := (decide_eq_false c13)
        refine SW.cond_f (t := decide ((w64 ((l1.len : Int) + (l3.len : Int))) > (l1.cap : Int))) rfl dc13 ?_
        refine SW.skip ?_
        refine SW.seq ?_
        refine SW.region ?_
        refine SOps.val (v := sv l1) rfl (wantN rfl) (fun _ => by kernel_rfl) ?_
        refine SOps.val (v := .int .i64 (l1.len : Int)) rfl (wantN rfl) (fun _ => by kernel_rfl) ?_
        refine SOps.val (v := .int .i64 (l3.len : Int)) rfl (wantN rfl) (fun _ => by kernel_rfl) ?_
        refine SOps.val (v := .int .i64 (w64 ((l1.len : Int) + (l3.len : Int)))) rfl (wantN rfl) (fun _ => by kernel_rfl) ?_
        obtain ⟨c40, c41, c42, h⟩ := h
        refine SOps.val (v := sv (Sl.sub 4 l1 (0 : Int).toNat (w64 ((l1.len : Int) + (l3.len : Int))).toNat l1.cap)) rfl (wantN rfl) (fun w => ev_sub (a := (0 : Int)) (b := (w64 ((l1.len : Int) + (l3.len : Int)))) rfl Try.underlying68 (size := 4) (by kernel_rfl) rfl (Or.inl ⟨rfl, rfl⟩) (Or.inr ⟨_, rfl⟩) c40 c41 c42 w) ?_
        refine SOps.val (v := sv (Sl.sub 4 l1 (0 : Int).toNat (w64 ((l1.len : Int) + (l3.len : Int))).toNat l1.cap)) rfl (wantN rfl) (fun _ => by kernel_rfl) ?_
        refine SOps.nil ?_
        refine SW.seq ?_
        refine SW.seq ?_
        refine SW.region ?_
        refine SOps.val (v := sv l3) rfl (wantN rfl) (fun _ => by kernel_rfl) ?_
        refine SOps.val (v := sv (Sl.sub 4 l1 (0 : Int).toNat (w64 ((l1.len : Int) + (l3.len : Int))).toNat l1.cap)) rfl (wantN rfl) (fun _ => by kernel_rfl) ?_
        refine SOps.val (v := .int .i64 x2) rfl (wantN rfl) (fun _ => by kernel_rfl) ?_
        refine SOps.val (v := .int .i64 (l3.len : Int)) rfl (wantN rfl) (fun _ => by kernel_rfl) ?_
        refine SOps.val (v := .int .i64 (w64 (x2 + (l3.len : Int)))) rfl (wantN rfl) (fun _ => by kernel_rfl) ?_
        obtain ⟨c43, c44, c45, h⟩ := h
        refine SOps.val (v := sv (Sl.sub 4 (Sl.sub 4 l1 (0 : Int).toNat (w64 ((l1.len : Int) + (l3.len : Int))).toNat l1.cap) (w64 (x2 + (l3.len : Int))).toNat ((Sl.sub 4 l1 (0 : Int).toNat (w64 ((l1.len : Int) + (l3.len : Int))).toNat l1.cap).len : Int).toNat (Sl.sub 4 l1 (0 : Int).toNat (w64 ((l1.len : Int) + (l3.len : Int))).toNat l1.cap).cap)) rfl (wantN rfl) (fun w => ev_sub (a := (w64 (x2 + (l3.len : Int)))) (b := ((Sl.sub 4 l1 (0 : Int).toNat (w64 ((l1.len : Int) + (l3.len : Int))).toNat l1.cap).len : Int)) rfl Try.underlying68 (size := 4) (by kernel_rfl) rfl (Or.inr ⟨_, rfl⟩) (Or.inl ⟨rfl, rfl⟩) c43 c44 c45 w) ?_
        obtain ⟨c46, h⟩ := h
        refine SOps.rd (v := .bool false) rfl (wantN rfl) (fun w hw => ev_ovl (x := l3) (y := Sl.sub 4 (Sl.sub 4 l1 (0 : Int).toNat (w64 ((l1.len : Int) + (l3.len : Int))).toNat l1.cap) (w64 (x2 + (l3.len : Int))).toNat ((Sl.sub 4 l1 (0 : Int).toNat (w64 ((l1.len : Int) + (l3.len : Int))).toNat l1.cap).len : Int).toNat (Sl.sub 4 l1 (0 : Int).toNat (w64 ((l1.len : Int) + (l3.len : Int))).toNat l1.cap).cap) (tS := 68) (tR := 4) (size := 4) (fun _ => by kernel_rfl) Try.func48 (by kernel_rfl) (by kernel_rfl) (by kernel_rfl) (by kernel_rfl) Try.underlying68 (by kernel_rfl) c46 w hw) ?_
        refine SOps.val (v := .bool true) rfl (wantN rfl) (fun _ => by kernel_rfl) ?_
        refine SOps.nil ?_
        refine SW.cond_t (t := true) rfl rfl ?_
        refine SW.seq ?_
        obtain ⟨c47, c48, c49, h⟩ := h
        obtain ⟨c50, c51, c52, h⟩ := h
        refine SW.drawA [.val (sv (Sl.sub 4 l1 (0 : Int).toNat (w64 ((l1.len : Int) + (l3.len : Int))).toNat l1.cap)), .val (.int .i64 x2), .val (.int .i64 (l3.len : Int)), .val (.int .i64 (w64 (x2 + (l3.len : Int)))), .val (sv (Sl.sub 4 (Sl.sub 4 l1 (0 : Int).toNat (w64 ((l1.len : Int) + (l3.len : Int))).toNat l1.cap) (w64 (x2 + (l3.len : Int))).toNat ((Sl.sub 4 l1 (0 : Int).toNat (w64 ((l1.len : Int) + (l3.len : Int))).toNat l1.cap).len : Int).toNat (Sl.sub 4 l1 (0 : Int).toNat (w64 ((l1.len : Int) + (l3.len : Int))).toNat l1.cap).cap)), .val (sv (Sl.sub 4 l1 (0 : Int).toNat (w64 ((l1.len : Int) + (l3.len : Int))).toNat l1.cap)), .val (.int .i64 x2), .val (sv (Sl.sub 4 (Sl.sub 4 l1 (0 : Int).toNat (w64 ((l1.len : Int) + (l3.len : Int))).toNat l1.cap) x2.toNat ((Sl.sub 4 l1 (0 : Int).toNat (w64 ((l1.len : Int) + (l3.len : Int))).toNat l1.cap).len : Int).toNat (Sl.sub 4 l1 (0 : Int).toNat (w64 ((l1.len : Int) + (l3.len : Int))).toNat l1.cap).cap))] (by kernel_rfl) (by kernel_rfl) (And.intro ?_ (And.intro ?_ (And.intro ?_ (And.intro ?_ (And.intro ?_ (And.intro ?_ (And.intro ?_ (And.intro ?_ (trivial))))))))) ?_
        · clear h
          intro fr' T' H' hle hs hA
          have a0 : fr' 0 = sv (Sl.sub 4 l1 (0 : Int).toNat (w64 ((l1.len : Int) + (l3.len : Int))).toNat l1.cap) := hs 0 (by kernel_rfl)
          obtain ⟨g', hg'⟩ : ∃ g' : Fr, fr' = g'.upds [(0, sv (Sl.sub 4 l1 (0 : Int).toNat (w64 ((l1.len : Int) + (l3.len : Int))).toNat l1.cap))] := ⟨_, Fr.upds_self _ _ ⟨a0, trivial⟩⟩
          subst hg'
          exact SA.val (v := sv (Sl.sub 4 l1 (0 : Int).toNat (w64 ((l1.len : Int) + (l3.len : Int))).toNat l1.cap)) rfl (wantN rfl) (fun _ => by kernel_rfl)
        · clear h
          intro fr' T' H' hle hs hA
          have a1 : fr' 1 = (.int .i64 x2 : Value) := hs 1 (by kernel_rfl)
          obtain ⟨g', hg'⟩ : ∃ g' : Fr, fr' = g'.upds [(1, (.int .i64 x2 : Value))] := ⟨_, Fr.upds_self _ _ ⟨a1, trivial⟩⟩
          subst hg'
          exact SA.val (v := .int .i64 x2) rfl (wantN rfl) (fun _ => by kernel_rfl)
        · clear h
          intro fr' T' H' hle hs hA
          have a7 : fr' 7 = (.int .i64 (l3.len : Int) : Value) := hs 7 (by kernel_rfl)
          obtain ⟨g', hg'⟩ : ∃ g' : Fr, fr' = g'.upds [(7, (.int .i64 (l3.len : Int) : Value))] := ⟨_, Fr.upds_self _ _ ⟨a7, trivial⟩⟩
          subst hg'
          exact SA.val (v := .int .i64 (l3.len : Int)) rfl (wantN rfl) (fun _ => by kernel_rfl)
        · clear h
          intro fr' T' H' hle hs hA
          have a70 : fr' 70 = (.int .i64 x2 : Value) := hA 1 (by kernel_rfl)
          have a71 : fr' 71 = (.int .i64 (l3.len : Int) : Value) := hA 2 (by kernel_rfl)
          obtain ⟨g', hg'⟩ : ∃ g' : Fr, fr' = g'.upds [(70, (.int .i64 x2 : Value)), (71, (.int .i64 (l3.len : Int) : Value))] := ⟨_, Fr.upds_self _ _ ⟨a70, a71, trivial⟩⟩
          subst hg'
          exact SA.val (v := .int .i64 (w64 (x2 + (l3.len : Int)))) rfl (wantN rfl) (fun _ => by kernel_rfl)
        · clear h
          intro fr' T' H' hle hs hA
          have a69 : fr' 69 = sv (Sl.sub 4 l1 (0 : Int).toNat (w64 ((l1.len : Int) + (l3.len : Int))).toNat l1.cap) := hA 0 (by kernel_rfl)
          have a72 : fr' 72 = (.int .i64 (w64 (x2 + (l3.len : Int))) : Value) := hA 3 (by kernel_rfl)
          obtain ⟨g', hg'⟩ : ∃ g' : Fr, fr' = g'.upds [(69, sv (Sl.sub 4 l1 (0 : Int).toNat (w64 ((l1.len : Int) + (l3.len : Int))).toNat l1.cap)), (72, (.int .i64 (w64 (x2 + (l3.len : Int))) : Value))] := ⟨_, Fr.upds_self _ _ ⟨a69, a72, trivial⟩⟩
          subst hg'
          exact SA.val (v := sv (Sl.sub 4 (Sl.sub 4 l1 (0 : Int).toNat (w64 ((l1.len : Int) + (l3.len : Int))).toNat l1.cap) (w64 (x2 + (l3.len : Int))).toNat ((Sl.sub 4 l1 (0 : Int).toNat (w64 ((l1.len : Int) + (l3.len : Int))).toNat l1.cap).len : Int).toNat (Sl.sub 4 l1 (0 : Int).toNat (w64 ((l1.len : Int) + (l3.len : Int))).toNat l1.cap).cap)) rfl (wantN rfl) (fun w => ev_sub (a := (w64 (x2 + (l3.len : Int)))) (b := ((Sl.sub 4 l1 (0 : Int).toNat (w64 ((l1.len : Int) + (l3.len : Int))).toNat l1.cap).len : Int)) rfl Try.underlying68 (size := 4) (by kernel_rfl) rfl (Or.inr ⟨_, rfl⟩) (Or.inl ⟨rfl, rfl⟩) c47 c48 c49 w)
        · clear h
          intro fr' T' H' hle hs hA
          have a0 : fr' 0 = sv (Sl.sub 4 l1 (0 : Int).toNat (w64 ((l1.len : Int) + (l3.len : Int))).toNat l1.cap) := hs 0 (by kernel_rfl)
          obtain ⟨g', hg'⟩ : ∃ g' : Fr, fr' = g'.upds [(0, sv (Sl.sub 4 l1 (0 : Int).toNat (w64 ((l1.len : Int) + (l3.len : Int))).toNat l1.cap))] := ⟨_, Fr.upds_self _ _ ⟨a0, trivial⟩⟩
          subst hg'
          exact SA.val (v := sv (Sl.sub 4 l1 (0 : Int).toNat (w64 ((l1.len : Int) + (l3.len : Int))).toNat l1.cap)) rfl (wantN rfl) (fun _ => by kernel_rfl)
        · clear h
          intro fr' T' H' hle hs hA
          have a1 : fr' 1 = (.int .i64 x2 : Value) := hs 1 (by kernel_rfl)
          obtain ⟨g', hg'⟩ : ∃ g' : Fr, fr' = g'.upds [(1, (.int .i64 x2 : Value))] := ⟨_, Fr.upds_self _ _ ⟨a1, trivial⟩⟩
          subst hg'
          exact SA.val (v := .int .i64 x2) rfl (wantN rfl) (fun _ => by kernel_rfl)
        · clear h
          intro fr' T' H' hle hs hA
          have a74 : fr' 74 = sv (Sl.sub 4 l1 (0 : Int).toNat (w64 ((l1.len : Int) + (l3.len : Int))).toNat l1.cap) := hA 5 (by kernel_rfl)
          have a75 : fr' 75 = (.int .i64 x2 : Value) := hA 6 (by kernel_rfl)
          obtain ⟨g', hg'⟩ : ∃ g' : Fr, fr' = g'.upds [(74, sv (Sl.sub 4 l1 (0 : Int).toNat (w64 ((l1.len : Int) + (l3.len : Int))).toNat l1.cap)), (75, (.int .i64 x2 : Value))] := ⟨_, Fr.upds_self _ _ ⟨a74, a75, trivial⟩⟩
          subst hg'
          exact SA.val (v := sv (Sl.sub 4 (Sl.sub 4 l1 (0 : Int).toNat (w64 ((l1.len : Int) + (l3.len : Int))).toNat l1.cap) x2.toNat ((Sl.sub 4 l1 (0 : Int).toNat (w64 ((l1.len : Int) + (l3.len : Int))).toNat l1.cap).len : Int).toNat (Sl.sub 4 l1 (0 : Int).toNat (w64 ((l1.len : Int) + (l3.len : Int))).toNat l1.cap).cap)) rfl (wantN rfl) (fun w => ev_sub (a := x2) (b := ((Sl.sub 4 l1 (0 : Int).toNat (w64 ((l1.len : Int) + (l3.len : Int))).toNat l1.cap).len : Int)) rfl Try.underlying68 (size := 4) (by kernel_rfl) rfl (Or.inr ⟨_, rfl⟩) (Or.inl ⟨rfl, rfl⟩) c50 c51 c52 w)
        · intro fr' T' H' hle hs hA
          have a0 : fr' 0 = sv (Sl.sub 4 l1 (0 : Int).toNat (w64 ((l1.len : Int) + (l3.len : Int))).toNat l1.cap) := hs 0 (by kernel_rfl)
          have a1 : fr' 1 = (.int .i64 x2 : Value) := hs 1 (by kernel_rfl)
          have a2 : fr' 2 = sv l3 := hs 2 (by kernel_rfl)
          have a73 : fr' 73 = sv (Sl.sub 4 (Sl.sub 4 l1 (0 : Int).toNat (w64 ((l1.len : Int) + (l3.len : Int))).toNat l1.cap) (w64 (x2 + (l3.len : Int))).toNat ((Sl.sub 4 l1 (0 : Int).toNat (w64 ((l1.len : Int) + (l3.len : Int))).toNat l1.cap).len : Int).toNat (Sl.sub 4 l1 (0 : Int).toNat (w64 ((l1.len : Int) + (l3.len : Int))).toNat l1.cap).cap) := hA 4 (Nat.le_of_ble_eq_true rfl)
          have a76 : fr' 76 = sv (Sl.sub 4 (Sl.sub 4 l1 (0 : Int).toNat (w64 ((l1.len : Int) + (l3.len : Int))).toNat l1.cap) x2.toNat ((Sl.sub 4 l1 (0 : Int).toNat (w64 ((l1.len : Int) + (l3.len : Int))).toNat l1.cap).len : Int).toNat (Sl.sub 4 l1 (0 : Int).toNat (w64 ((l1.len : Int) + (l3.len : Int))).toNat l1.cap).cap) := hA 7 (Nat.le_of_ble_eq_true rfl)
          obtain ⟨g', hg'⟩ : ∃ g' : Fr, fr' = g'.upds [(0, sv (Sl.sub 4 l1 (0 : Int).toNat (w64 ((l1.len : Int) + (l3.len : Int))).toNat l1.cap)), (1, (.int .i64 x2 : Value)), (2, sv l3), (73, sv (Sl.sub 4 (Sl.sub 4 l1 (0 : Int).toNat (w64 ((l1.len : Int) + (l3.len : Int))).toNat l1.cap) (w64 (x2 + (l3.len : Int))).toNat ((Sl.sub 4 l1 (0 : Int).toNat (w64 ((l1.len : Int) + (l3.len : Int))).toNat l1.cap).len : Int).toNat (Sl.sub 4 l1 (0 : Int).toNat (w64 ((l1.len : Int) + (l3.len : Int))).toNat l1.cap).cap)), (76, sv (Sl.sub 4 (Sl.sub 4 l1 (0 : Int).toNat (w64 ((l1.len : Int) + (l3.len : Int))).toNat l1.cap) x2.toNat ((Sl.sub 4 l1 (0 : Int).toNat (w64 ((l1.len : Int) + (l3.len : Int))).toNat l1.cap).len : Int).toNat (Sl.sub 4 l1 (0 : Int).toNat (w64 ((l1.len : Int) + (l3.len : Int))).toNat l1.cap).cap))] := ⟨_, Fr.upds_self _ _ ⟨a0, a1, a2, a73, a76, trivial⟩⟩
          subst hg'
          refine SOps.forget (H) hle ?_
          clear hle hs hA
          obtain ⟨w54, c55, c56, c57, c58, h⟩ := h
          refine SOps.copyJ (size := 4) rfl rfl (wantN rfl) Try.underlying68 (by kernel_rfl) rfl rfl c55 c56 c57 c58 ?_
          refine SOps.nil ?_
          refine SW.seq ?_
          refine SW.region ?_
          refine SOps.val (v := sv (Sl.sub 4 l1 (0 : Int).toNat (w64 ((l1.len : Int) + (l3.len : Int))).toNat l1.cap)) rfl (wantN rfl) (fun _ => by kernel_rfl) ?_
          refine SOps.val (v := .int .i64 x2) rfl (wantN rfl) (fun _ => by kernel_rfl) ?_
          obtain ⟨c59, c60, c61, h⟩ := h
          refine SOps.val (v := sv (Sl.sub 4 (Sl.sub 4 l1 (0 : Int).toNat (w64 ((l1.len : Int) + (l3.len : Int))).toNat l1.cap) x2.toNat ((Sl.sub 4 l1 (0 : Int).toNat (w64 ((l1.len : Int) + (l3.len : Int))).toNat l1.cap).len : Int).toNat (Sl.sub 4 l1 (0 : Int).toNat (w64 ((l1.len : Int) + (l3.len : Int))).toNat l1.cap).cap)) rfl (wantN rfl) (fun w => ev_sub (a := x2) (b := ((Sl.sub 4 l1 (0 : Int).toNat (w64 ((l1.len : Int) + (l3.len : Int))).toNat l1.cap).len : Int)) rfl Try.underlying68 (size := 4) (by kernel_rfl) rfl (Or.inr ⟨_, rfl⟩) (Or.inl ⟨rfl, rfl⟩) c59 c60 c61 w) ?_
          refine SOps.val (v := sv l3) rfl (wantN rfl) (fun _ => by kernel_rfl) ?_
          obtain ⟨w62, c63, c64, c65, c66, h⟩ := h
          refine SOps.copyJ (size := 4) rfl rfl (wantN rfl) Try.underlying68 (by kernel_rfl) rfl rfl c63 c64 c65 c66 ?_
          refine SOps.nil ?_
          refine SW.seq ?_
          refine SW.region ?_
          refine SOps.val (v := sv (Sl.sub 4 l1 (0 : Int).toNat (w64 ((l1.len : Int) + (l3.len : Int))).toNat l1.cap)) rfl (wantN rfl) (fun _ => by kernel_rfl) ?_
          refine SOps.val (v := sv (Sl.sub 4 l1 (0 : Int).toNat (w64 ((l1.len : Int) + (l3.len : Int))).toNat l1.cap)) rfl (wantN rfl) (fun _ => by kernel_rfl) ?_
          refine SOps.nil ?_
          obtain ⟨Hr, hr, h⟩ := h
          exact SW.ret (retQ.mk (sv (Sl.sub 4 l1 (0 : Int).toNat (w64 ((l1.len : Int) + (l3.len : Int))).toNat l1.cap)) (res1 rfl rfl) hr ⟨Sl.sub 4 l1 (0 : Int).toNat (w64 ((l1.len : Int) + (l3.len : Int))).toNat l1.cap, rfl, h⟩)

end Go.Proofs.Ytkfbmoekghbgbaa.K
