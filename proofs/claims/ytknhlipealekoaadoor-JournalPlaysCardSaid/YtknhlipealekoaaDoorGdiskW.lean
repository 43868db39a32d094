import Derived.Test.YtknhlipealekoaaDoorGdisk
set_option linter.unusedVariables false
set_option linter.unusedSimpArgs false
set_option maxRecDepth 100000
namespace Go.Proofs.YtknhlipealekoaaDoor.K
open Go
attribute [local irreducible] SW SOps SQ SCalls retQ

/-! ### slices.Index[[]bool,bool]: function 60 -/
def slices_Index_bool_bool__w0.r1 (F : Nat) (K : Int → SH → Prop) (R1 : SlW → Bool → Int → Int → SH → Prop) (l3 : SlW) (q4 : Bool) (x5 : Int) (x6 : Int) (H : SH) : Prop :=
  (x6 < x5 →
    ∃ p8, l3.a = some (ad p8) ∧ 0 ≤ x6 ∧ x6 < (l3.len : Int) ∧
    ∃ (q12 : Bool),
    SH.has H (p8.1, (p8.2 + x6.toNat * 1)) (.bool q12) ∧
    (q4 = q12 →
      ∃ Hr, SH.le Hr H ∧ K x6 Hr
    ) ∧ (¬ (q4 = q12) →
      R1 l3 q4 x5 (w64 (x6 + 1)) H
    )
  ) ∧ (¬ (x6 < x5) →
    ∃ Hr, SH.le Hr H ∧ K (-1) Hr
  )
def slices_Index_bool_bool__w0.l1 (F : Nat) (K : Int → SH → Prop) : Nat → SlW → Bool → Int → Int → SH → Prop
  | 0, _, _, _, _, _ => False
  | k + 1, l3, q4, x5, x6, H => slices_Index_bool_bool__w0.r1 F K (slices_Index_bool_bool__w0.l1 F K k) l3 q4 x5 x6 H
def slices_Index_bool_bool__w0.wp (F : Nat) (l1 : SlW) (q2 : Bool) (H : SH) (K : Int → SH → Prop) : Prop :=
  slices_Index_bool_bool__w0.l1 F K F l1 q2 (l1.len : Int) 0 H
set_option maxHeartbeats 8000000 in
theorem slices_Index_bool_bool__w0.sound (F : Nat) (l1 : SlW) (q2 : Bool) (H : SH) (K : Int → SH → Prop) (h : slices_Index_bool_bool__w0.wp F l1 q2 H K) : SCalls Tryd.prog 60 #[swv l1, .bool q2] H (fun v H' => ∃ (x18 : Int), v = .int .i64 x18 ∧ K x18 H') := by
  unfold slices_Index_bool_bool__w0.wp at h
  refine SCalls.body Tryd.func60 rfl (Nat.le_of_ble_eq_true rfl) ?_
  refine SW.seq ?_
  refine SW.region ?_
  refine SOps.val (v := .int .i64 0) rfl (wantN rfl) (fun _ => by kernel_rfl) ?_
  refine SOps.nil ?_
  refine SW.seq ?_
  refine SW.seq ?_
  refine SW.region ?_
  refine SOps.val (v := swv l1) rfl (wantN rfl) (fun _ => by kernel_rfl) ?_
  refine SOps.val (v := .int .i64 (l1.len : Int)) rfl (wantN rfl) (fun _ => by kernel_rfl) ?_
  refine SOps.val (v := .int .i64 0) rfl (wantN rfl) (fun _ => by kernel_rfl) ?_
  refine SOps.nil ?_
  refine SW.block ?_
  refine SW.loop (fun k1 fr H => ∃ (g : Fr) (l3 : SlW) (q4 : Bool) (x5 : Int) (x6 : Int), fr = g.upds [(0, swv l3), (1, (.bool q4 : Value)), (7, (.int .i64 x5 : Value)), (8, (.int .i64 x6 : Value))] ∧ slices_Index_bool_bool__w0.l1 F K k1 l3 q4 x5 x6 H) F ⟨_, l1, q2, (l1.len : Int), 0, (Fr.upds_self _ _ ⟨rfl, rfl, rfl, rfl, trivial⟩), h⟩ ?_
  clear h
  rintro k1 fr H ⟨g, l3, q4, x5, x6, rfl, h⟩
  cases k1 with
  | zero => exact h.elim
  | succ k1 =>
    replace h : slices_Index_bool_bool__w0.r1 F K (slices_Index_bool_bool__w0.l1 F K k1) l3 q4 x5 x6 H := h
    unfold slices_Index_bool_bool__w0.r1 at h
    refine SW.seq ?_
    refine SW.region ?_
    refine SOps.val (v := .bool (decide (x6 < x5))) rfl (wantN rfl) (fun _ => by kernel_rfl) ?_
    refine SOps.nil ?_
    refine SW.seq ?_
    by_cases c7 : x6 < x5
    · replace h := h.1 c7
      have dc7 : (decide (x6 < x5)) = true := (decide_eq_true c7)
      refine SW.cond_t (t := decide (x6 < x5)) rfl dc7 ?_
      refine SW.skip ?_
      refine SW.seq ?_
      refine SW.block ?_
      refine SW.seq ?_
      refine SW.region ?_
      refine SOps.val (v := .int .i64 x6) rfl (wantN rfl) (fun _ => by kernel_rfl) ?_
      refine SOps.val (v := .int .i64 x6) rfl (wantN rfl) (fun _ => by kernel_rfl) ?_
      refine SOps.nil ?_
      refine SW.seq ?_
      refine SW.region ?_
      refine SOps.val (v := .bool q4) rfl (wantN rfl) (fun _ => by kernel_rfl) ?_
      refine SOps.val (v := swv l3) rfl (wantN rfl) (fun _ => by kernel_rfl) ?_
      refine SOps.val (v := .int .i64 x6) rfl (wantN rfl) (fun _ => by kernel_rfl) ?_
      obtain ⟨p8, c9, c10, c11, h⟩ := h
      refine SOps.val (v := pv (some (p8.1, (p8.2 + x6.toNat * 1)))) rfl (wantN rfl) (fun w => ev_iaddrW rfl Tryd.underlying22 (size := 1) (by kernel_rfl) rfl rfl c9 c10 c11 w) ?_
      obtain ⟨q12, c13, h⟩ := h
      refine SOps.rd (v := .bool q12) rfl (wantN rfl) (fun w hw => ev_load1 rfl (fun _ => by kernel_rfl) (p := (p8.1, (p8.2 + x6.toNat * 1))) rfl c13 w hw) ?_
      refine SOps.val (v := .bool (q4 == q12)) rfl (wantN rfl) (fun _ => by kernel_rfl) ?_
      refine SOps.nil ?_
      by_cases c14 : q4 = q12
      · replace h := h.1 c14
        have dc14 : (q4 == q12) = true := (beq_iff_eq.mpr c14)
        refine SW.cond_t (t := (q4 == q12)) rfl dc14 ?_
        refine SW.seq ?_
        refine SW.region ?_
        refine SOps.val (v := .int .i64 x6) rfl (wantN rfl) (fun _ => by kernel_rfl) ?_
        refine SOps.val (v := .int .i64 x6) rfl (wantN rfl) (fun _ => by kernel_rfl) ?_
        refine SOps.nil ?_
        obtain ⟨Hr, hr, h⟩ := h
        exact SW.ret (retQ.mk (.int .i64 x6) (res1 rfl rfl) hr ⟨x6, rfl, h⟩)
      · replace h := h.2 c14
        have dc14 : (q4 == q12) = false := (beq_eq_false_iff_ne.mpr c14)
        refine SW.cond_f (t := (q4 == q12)) rfl dc14 ?_
        refine SW.skip ?_
        refine SW.region ?_
        refine SOps.val (v := .int .i64 (w64 (x6 + 1))) rfl (wantN rfl) (fun _ => by kernel_rfl) ?_
        refine SOps.val (v := .int .i64 (w64 (x6 + 1))) rfl (wantN rfl) (fun _ => by kernel_rfl) ?_
        refine SOps.nil ?_
        exact ⟨k1, Nat.lt_succ_self k1, _, l3, q4, x5, w64 (x6 + 1), (Fr.upds_self _ _ ⟨rfl, rfl, rfl, rfl, trivial⟩), h⟩
    · replace h := h.2 c7
      have dc7 : (decide (x6 < x5)) = false := (decide_eq_false c7)
      refine SW.cond_f (t := decide (x6 < x5)) rfl dc7 ?_
      refine SW.exit ?_
      refine SW.seq ?_
      refine SW.region ?_
      refine SOps.val (v := .int .i64 (-1)) rfl (wantN rfl) (fun _ => by kernel_rfl) ?_
      refine SOps.nil ?_
      obtain ⟨Hr, hr, h⟩ := h
      exact SW.ret (retQ.mk (.int .i64 (-1)) (res1 rfl rfl) hr ⟨(-1), rfl, h⟩)
/-! ### slices.Contains[[]bool,bool]: function 45 -/
def slices_Contains_bool_bool__w0.wp (F : Nat) (l1 : SlW) (q2 : Bool) (H : SH) (K : Bool → SH → Prop) : Prop :=
  slices_Index_bool_bool__w0.wp F l1 q2 H (fun x3 H4 =>
    ∃ Hr, SH.le Hr H4 ∧ K (decide (x3 ≥ 0)) Hr
  )
set_option maxHeartbeats 8000000 in
theorem slices_Contains_bool_bool__w0.sound (F : Nat) (l1 : SlW) (q2 : Bool) (H : SH) (K : Bool → SH → Prop) (h : slices_Contains_bool_bool__w0.wp F l1 q2 H K) : SCalls Tryd.prog 45 #[swv l1, .bool q2] H (fun v H' => ∃ (q6 : Bool), v = .bool q6 ∧ K q6 H') := by
  unfold slices_Contains_bool_bool__w0.wp at h
  refine SCalls.body Tryd.func45 rfl (Nat.le_of_ble_eq_true rfl) ?_
  refine SW.seq ?_
  refine SW.region ?_
  refine SOps.val (v := .bool false) rfl (wantN rfl) (fun _ => by kernel_rfl) ?_
  refine SOps.nil ?_
  refine SW.seq ?_
  refine SW.region ?_
  refine SOps.val (v := swv l1) rfl (wantN rfl) (fun _ => by kernel_rfl) ?_
  refine SOps.val (v := .bool q2) rfl (wantN rfl) (fun _ => by kernel_rfl) ?_
  refine SOps.enter rfl (wantN rfl) (fun _ => by kernel_rfl) (slices_Index_bool_bool__w0.sound F l1 q2 H _ h) ?_
  clear h
  rintro v H4 ⟨x3, rfl, h⟩
  refine SOps.val (v := .bool (decide (x3 ≥ 0))) rfl (wantN rfl) (fun _ => by kernel_rfl) ?_
  refine SOps.val (v := .bool (decide (x3 ≥ 0))) rfl (wantN rfl) (fun _ => by kernel_rfl) ?_
  refine SOps.nil ?_
  obtain ⟨Hr, hr, h⟩ := h
  exact SW.ret (retQ.mk (.bool (decide (x3 ≥ 0))) (res1 rfl rfl) hr ⟨decide (x3 ≥ 0), rfl, h⟩)
/-! ### (*lading/disk.Disk).Crash: function 17 -/
def disk_Disk_Crash__w1.j1 (F : Nat) (K : SH → Prop) (R1 : Nat → Nat → Nat → SlW → ByteArray → SlW → Int → Int → SH → Prop) (b132 : Nat) (o133 : Nat) (b134 : Nat) (l135 : SlW) (s136 : ByteArray) (l137 : SlW) (x138 : Int) (x139 : Int) (H : SH) : Prop :=
  R1 b132 o133 b134 l135 s136 l137 x138 (w64 (x139 + 1)) H
def disk_Disk_Crash__w1.j2 (F : Nat) (K : SH → Prop) (R1 : Nat → Nat → Nat → SlW → ByteArray → SlW → Int → Int → SH → Prop) (b124 : Nat) (o125 : Nat) (b126 : Nat) (l127 : SlW) (s128 : ByteArray) (l129 : SlW) (x130 : Int) (x131 : Int) (H : SH) : Prop :=
  disk_Disk_Crash__w1.j1 F K R1 b124 o125 b126 l127 s128 l129 x130 x131 H
def disk_Disk_Crash__w1.j3 (F : Nat) (K : SH → Prop) (R1 : Nat → Nat → Nat → SlW → ByteArray → SlW → Int → Int → SH → Prop) (b69 : Nat) (o70 : Nat) (b71 : Nat) (l72 : SlW) (s73 : ByteArray) (l74 : SlW) (x75 : Int) (x76 : Int) (H : SH) : Prop :=
  disk_Disk_Crash__w1.j2 F K R1 b69 o70 b71 l72 s73 l74 x75 x76 H
def disk_Disk_Crash__w1.j6 (F : Nat) (K : SH → Prop) (R1 : Nat → Nat → Nat → SlW → ByteArray → SlW → Int → Int → SH → Prop) (b110 : Nat) (o111 : Nat) (b112 : Nat) (l113 : SlW) (s114 : ByteArray) (b115 : Nat) (l116 : SlW) (x117 : Int) (x118 : Int) (H : SH) : Prop :=
  ∃ (x119 : Int) (s120 : ByteArray),
  SH.row H (some (b115, 0)) [.int .i64 x119, .string s120] ∧
  disk_content_put.wp F (some (b110, (o111 + 4))) x119 s120 H (fun H123 =>
    disk_Disk_Crash__w1.j2 F K R1 b110 o111 b112 l113 s114 l116 x117 x118 H123
  )
def disk_Disk_Crash__w1.j5 (F : Nat) (K : SH → Prop) (R1 : Nat → Nat → Nat → SlW → ByteArray → SlW → Int → Int → SH → Prop) (b84 : Nat) (o85 : Nat) (b86 : Nat) (l87 : SlW) (s88 : ByteArray) (b89 : Nat) (l90 : SlW) (x91 : Int) (x92 : Int) (H : SH) : Prop :=
  ∃ (x103 : Int),
  SH.has H (b89, 0) (.int .i64 x103) ∧
  (x103 = (-1) →
    ∃ (s106 : ByteArray),
    SH.has H (b89, 1) (.string s106) ∧
    s88.size + s106.size ≤ 9223372036854775807 ∧
    SH.wrs H (b89, 1) 1 ∧
    disk_Disk_Crash__w1.j6 F K R1 b84 o85 b86 l87 ByteArray.empty b89 l90 x91 x92 (SH.setl H (b89, 1) [.string (s88 ++ s106)])
  ) ∧ (¬ (x103 = (-1)) →
    disk_Disk_Crash__w1.j6 F K R1 b84 o85 b86 l87 s88 b89 l90 x91 x92 H
  )
def disk_Disk_Crash__w1.j4 (F : Nat) (K : SH → Prop) (R1 : Nat → Nat → Nat → SlW → ByteArray → SlW → Int → Int → SH → Prop) (b45 : Nat) (o46 : Nat) (b47 : Nat) (l48 : SlW) (s49 : ByteArray) (x50 : Int) (q51 : Bool) (b52 : Nat) (l53 : SlW) (x54 : Int) (x55 : Int) (H : SH) : Prop :=
  (q51 = true →
    0 ≤ (w64 (x50 + 1)) ∧
    (w64 (x50 + 1)) ≤ (l48.len : Int) ∧
    (l48.len : Int) ≤ (l48.cap : Int) ∧
    slices_Contains_bool_bool__w0.wp F (SlW.sub 1 l48 (w64 (x50 + 1)).toNat (l48.len : Int).toNat l48.cap) true H (fun q81 H82 =>
      (q81 = true →
        disk_Disk_Crash__w1.j5 F K R1 b45 o46 b47 l48 s49 b52 l53 x54 x55 H82
      ) ∧ (¬ (q81 = true) →
        ∃ (x93 : Int) (s94 : ByteArray),
        SH.row H82 (some (b52, 0)) [.int .i64 x93, .string s94] ∧
        ∃ (x96 : Int),
        SH.has H82 (b47, 1) (.int .i64 x96) ∧
        disk_content_torn.wp F (some (b45, (o46 + 4))) x93 s94 x96 H82 (fun x99 s100 H101 =>
          SH.wrs H101 (b52, 0) 2 ∧
          disk_Disk_Crash__w1.j5 F K R1 b45 o46 b47 l48 s49 b52 l53 x54 x55 (SH.setl H101 (b52, 0) [.int .i64 x99, .string s100])
        )
      )
    )
  ) ∧ (¬ (q51 = true) →
    disk_Disk_Crash__w1.j3 F K R1 b45 o46 b47 l48 s49 l53 x54 x55 H
  )
def disk_Disk_Crash__w1.r1 (F : Nat) (K : SH → Prop) (R1 : Nat → Nat → Nat → SlW → ByteArray → SlW → Int → Int → SH → Prop) (b17 : Nat) (o18 : Nat) (b19 : Nat) (l20 : SlW) (s21 : ByteArray) (l22 : SlW) (x23 : Int) (x24 : Int) (H : SH) : Prop :=
  (x24 < x23 →
    ∃ p26, l22.a = some (ad p26) ∧ 0 ≤ x24 ∧ x24 < (l22.len : Int) ∧
    ∃ (q30 : Bool),
    SH.has H (p26.1, (p26.2 + x24.toNat * 1)) (.bool q30) ∧
    ∃ (l32 : Sl),
    SH.has H (b17, (o18 + 6)) (sv l32) ∧
    ∃ p34, l32.a = some p34 ∧ 0 ≤ x24 ∧ x24 < (l32.len : Int) ∧
    ∃ (x38 : Int) (s39 : ByteArray),
    SH.row H (some (p34.1, (p34.2 + x24.toNat * 2))) [.int .i64 x38, .string s39] ∧
    ∀ b41, H b41 = none →
    SH.wrs (SH.upd H b41 ⟨[.int .i64 0, .string ByteArray.empty], 78, false, 2⟩) (b41, 0) 2 ∧
    (q30 = true →
      disk_Disk_Crash__w1.j4 F K R1 b17 o18 b19 l20 s21 x24 q30 b41 l22 x23 x24 (SH.setl (SH.upd H b41 ⟨[.int .i64 0, .string ByteArray.empty], 78, false, 2⟩) (b41, 0) [.int .i64 x38, .string s39])
    ) ∧ (¬ (q30 = true) →
      ∃ (x56 : Int),
      SH.has (SH.setl (SH.upd H b41 ⟨[.int .i64 0, .string ByteArray.empty], 78, false, 2⟩) (b41, 0) [.int .i64 x38, .string s39]) (b41, 0) (.int .i64 x56) ∧
      (x56 = (-1) →
        ∃ (s59 : ByteArray),
        SH.has (SH.setl (SH.upd H b41 ⟨[.int .i64 0, .string ByteArray.empty], 78, false, 2⟩) (b41, 0) [.int .i64 x38, .string s39]) (b41, 1) (.string s59) ∧
        0 ≤ (s59.size : Int) ∧ (s59.size : Int).toNat * 1 ≤ 281474976710656 ∧
        ∀ b61, (SH.setl (SH.upd H b41 ⟨[.int .i64 0, .string ByteArray.empty], 78, false, 2⟩) (b41, 0) [.int .i64 x38, .string s39]) b61 = none →
        ∃ bs65 : List UInt8,
        (⟨some (b61, 0), (s59.size : Int).toNat, (s59.size : Int).toNat⟩ : Sl).len = bs65.length ∧
        SH.row (SH.upd (SH.setl (SH.upd H b41 ⟨[.int .i64 0, .string ByteArray.empty], 78, false, 2⟩) (b41, 0) [.int .i64 x38, .string s39]) b61 ⟨(Builtin.zeroCells (Value.cells (.int .u8 0 : Value)) (s59.size : Int).toNat).toList, 5, false, (s59.size : Int).toNat * 1⟩) (⟨some (b61, 0), (s59.size : Int).toNat, (s59.size : Int).toNat⟩ : Sl).a (byteCells bs65) ∧
        s21.size + (⟨bs65.toArray⟩ : ByteArray).size ≤ 9223372036854775807 ∧
        disk_Disk_Crash__w1.j3 F K R1 b17 o18 b19 l20 (s21 ++ (⟨bs65.toArray⟩ : ByteArray)) l22 x23 x24 (SH.upd (SH.setl (SH.upd H b41 ⟨[.int .i64 0, .string ByteArray.empty], 78, false, 2⟩) (b41, 0) [.int .i64 x38, .string s39]) b61 ⟨(Builtin.zeroCells (Value.cells (.int .u8 0 : Value)) (s59.size : Int).toNat).toList, 5, false, (s59.size : Int).toNat * 1⟩)
      ) ∧ (¬ (x56 = (-1)) →
        disk_Disk_Crash__w1.j4 F K R1 b17 o18 b19 l20 s21 x24 q30 b41 l22 x23 x24 (SH.setl (SH.upd H b41 ⟨[.int .i64 0, .string ByteArray.empty], 78, false, 2⟩) (b41, 0) [.int .i64 x38, .string s39])
      )
    )
  ) ∧ (¬ (x24 < x23) →
    ∃ (s140 : ByteArray) (l141 : Sl),
    SH.row H (some (b17, (o18 + 4))) [.string s140, sv l141] ∧
    disk_content_copied.wp F s140 l141 H (fun s143 l144 H145 =>
      SH.wrs H145 (b17, (o18 + 2)) 2 ∧
      SH.wrs (SH.setl H145 (b17, (o18 + 2)) [.string s143, sv l144]) (b17, (o18 + 6)) 1 ∧
      SH.wrs (SH.setl (SH.setl H145 (b17, (o18 + 2)) [.string s143, sv l144]) (b17, (o18 + 6)) [sv Sl.nil]) (b17, o18) 2 ∧
      ∃ Hr, SH.le Hr (SH.setl (SH.setl (SH.setl H145 (b17, (o18 + 2)) [.string s143, sv l144]) (b17, (o18 + 6)) [sv Sl.nil]) (b17, o18) [.int .i64 (-1), .bool false]) ∧ K Hr
    )
  )
def disk_Disk_Crash__w1.l1 (F : Nat) (K : SH → Prop) : Nat → Nat → Nat → Nat → SlW → ByteArray → SlW → Int → Int → SH → Prop
  | 0, _, _, _, _, _, _, _, _, _ => False
  | k + 1, b17, o18, b19, l20, s21, l22, x23, x24, H => disk_Disk_Crash__w1.r1 F K (disk_Disk_Crash__w1.l1 F K k) b17 o18 b19 l20 s21 l22 x23 x24 H
def disk_Disk_Crash__w1.wp (F : Nat) (p1 : Option (Nat × Nat)) (l2 : SlW) (x3 : Int) (H : SH) (K : SH → Prop) : Prop :=
  ∀ b4, H b4 = none →
  (p1 = none →
    ∃ Hr, SH.le Hr (SH.upd H b4 ⟨[swv l2, .int .i64 x3], 36, false, 2⟩) ∧ K Hr
  ) ∧ (∀ b6 o7, p1 = some (b6, o7) →
    ∃ (l8 : SlW),
    SH.has (SH.upd H b4 ⟨[swv l2, .int .i64 x3], 36, false, 2⟩) (b4, 0) (swv l8) ∧
    ∃ (l10 : SlW),
    SH.has (SH.upd H b4 ⟨[swv l2, .int .i64 x3], 36, false, 2⟩) (b4, 0) (swv l10) ∧
    ∃ (l12 : Sl),
    SH.has (SH.upd H b4 ⟨[swv l2, .int .i64 x3], 36, false, 2⟩) (b6, (o7 + 6)) (sv l12) ∧
    0 ≤ (0 : Int) ∧
    (0 : Int) ≤ (imin (l10.len : Int) (l12.len : Int)) ∧
    (imin (l10.len : Int) (l12.len : Int)) ≤ (l8.cap : Int) ∧
    disk_Disk_Crash__w1.l1 F K F b6 o7 b4 (SlW.sub 1 l8 (0 : Int).toNat (imin (l10.len : Int) (l12.len : Int)).toNat l8.cap) ByteArray.empty (SlW.sub 1 l8 (0 : Int).toNat (imin (l10.len : Int) (l12.len : Int)).toNat l8.cap) ((SlW.sub 1 l8 (0 : Int).toNat (imin (l10.len : Int) (l12.len : Int)).toNat l8.cap).len : Int) 0 (SH.upd H b4 ⟨[swv l2, .int .i64 x3], 36, false, 2⟩)
  )
set_option maxHeartbeats 8000000 in
theorem disk_Disk_Crash__w1.sound (F : Nat) (p1 : Option (Nat × Nat)) (l2 : SlW) (x3 : Int) (H : SH) (K : SH → Prop) (h : disk_Disk_Crash__w1.wp F p1 l2 x3 H K) : SCalls Tryd.prog 17 #[pv p1, .agg #[swv l2, .int .i64 x3]] H (fun v H' => v = .tuple #[] ∧ K H') := by
  unfold disk_Disk_Crash__w1.wp at h
  refine SCalls.body Tryd.func17 rfl (Nat.le_of_ble_eq_true rfl) ?_
  refine SW.seq ?_
  refine SW.region ?_
  refine SOps.box rfl rfl (wantN rfl) (v := .agg #[swv l2, .int .i64 x3]) rfl (fun b4 c5 => ?_)
  replace h := h b4 c5
  refine SOps.nil ?_
  refine SW.seq ?_
  refine SW.seq ?_
  refine SW.region ?_
  refine SOps.val (v := pv p1) rfl (wantN rfl) (fun _ => by kernel_rfl) ?_
  rcases p1 with _ | ⟨b6, o7⟩
  · replace h := h.1 rfl
    refine SOps.val (v := .bool true) rfl (wantN rfl) (fun _ => by kernel_rfl) ?_
    refine SOps.nil ?_
    refine SW.cond_t (t := true) rfl rfl ?_
    obtain ⟨Hr, hr, h⟩ := h
    exact SW.ret (retQ.mk (.tuple #[]) (res0 rfl) hr ⟨rfl, h⟩)
  · replace h := h.2 b6 o7 rfl
    refine SOps.val (v := .bool false) rfl (wantN rfl) (fun _ => by kernel_rfl) ?_
    refine SOps.nil ?_
    refine SW.cond_f (t := false) rfl rfl ?_
    refine SW.skip ?_
    refine SW.seq ?_
    refine SW.draw (by kernel_rfl) (by kernel_rfl) ?_
    refine SQ.val (v := pv (some (b4, 0))) rfl (wantN rfl) (fun _ => by kernel_rfl) ?_
    obtain ⟨l8, c9, h⟩ := h
    refine SQ.rd (v := swv l8) rfl (wantN rfl) (fun w hw => ev_load1 rfl (fun _ => by kernel_rfl) (p := (b4, 0)) rfl c9 w hw) ?_
    refine SQ.val (v := pv (some (b4, 0))) rfl (wantN rfl) (fun _ => by kernel_rfl) ?_
    obtain ⟨l10, c11, h⟩ := h
    refine SQ.rd (v := swv l10) rfl (wantN rfl) (fun w hw => ev_load1 rfl (fun _ => by kernel_rfl) (p := (b4, 0)) rfl c11 w hw) ?_
    refine SQ.val (v := .int .i64 (l10.len : Int)) rfl (wantN rfl) (fun _ => by kernel_rfl) ?_
    refine SQ.val (v := pv (some (b6, o7))) rfl (wantN rfl) (fun _ => by kernel_rfl) ?_
    refine SQ.val (v := pv (some (b6, o7))) rfl (wantN rfl) (fun _ => by kernel_rfl) ?_
    refine SQ.val (v := pv (some (b6, (o7 + 6)))) rfl (wantN rfl) (fun _ => by kernel_rfl) ?_
    obtain ⟨l12, c13, h⟩ := h
    refine SQ.rd (v := sv l12) rfl (wantN rfl) (fun w hw => ev_load1 rfl (fun _ => by kernel_rfl) (p := (b6, (o7 + 6))) rfl c13 w hw) ?_
    refine SQ.val (v := .int .i64 (l12.len : Int)) rfl (wantN rfl) (fun _ => by kernel_rfl) ?_
    refine SQ.val (v := .int .i64 (imin (l10.len : Int) (l12.len : Int))) rfl (wantN rfl) (fun _ => by kernel_rfl) ?_
    obtain ⟨c14, c15, c16, h⟩ := h
    refine SQ.val (v := swv (SlW.sub 1 l8 (0 : Int).toNat (imin (l10.len : Int) (l12.len : Int)).toNat l8.cap)) rfl (wantN rfl) (fun w => ev_subW (a := (0 : Int)) (b := (imin (l10.len : Int) (l12.len : Int))) rfl Tryd.underlying22 (size := 1) (by kernel_rfl) rfl (Or.inl ⟨rfl, rfl⟩) (Or.inr ⟨_, rfl⟩) c14 c15 c16 w) ?_
    refine SQ.val (v := swv (SlW.sub 1 l8 (0 : Int).toNat (imin (l10.len : Int) (l12.len : Int)).toNat l8.cap)) rfl (wantN rfl) (fun _ => by kernel_rfl) ?_
    refine SQ.nil ?_
    refine SW.seq ?_
    refine SW.region ?_
    refine SOps.val (v := .string ByteArray.empty) rfl (wantN rfl) (fun _ => by kernel_rfl) ?_
    refine SOps.nil ?_
    refine SW.seq ?_
    refine SW.seq ?_
    refine SW.region ?_
    refine SOps.val (v := swv (SlW.sub 1 l8 (0 : Int).toNat (imin (l10.len : Int) (l12.len : Int)).toNat l8.cap)) rfl (wantN rfl) (fun _ => by kernel_rfl) ?_
    refine SOps.val (v := .int .i64 ((SlW.sub 1 l8 (0 : Int).toNat (imin (l10.len : Int) (l12.len : Int)).toNat l8.cap).len : Int)) rfl (wantN rfl) (fun _ => by kernel_rfl) ?_
    refine SOps.val (v := .int .i64 0) rfl (wantN rfl) (fun _ => by kernel_rfl) ?_
    refine SOps.nil ?_
    refine SW.block ?_
    refine SW.loop (fun k1 fr H => ∃ (g : Fr) (b17 : Nat) (o18 : Nat) (b19 : Nat) (l20 : SlW) (s21 : ByteArray) (l22 : SlW) (x23 : Int) (x24 : Int), fr = g.upds [(0, pv (some (b17, o18))), (3, pv (some (b19, 0))), (4, swv l20), (5, (.string s21 : Value)), (23, swv l22), (24, (.int .i64 x23 : Value)), (25, (.int .i64 x24 : Value))] ∧ disk_Disk_Crash__w1.l1 F K k1 b17 o18 b19 l20 s21 l22 x23 x24 H) F ⟨_, b6, o7, b4, SlW.sub 1 l8 (0 : Int).toNat (imin (l10.len : Int) (l12.len : Int)).toNat l8.cap, ByteArray.empty, SlW.sub 1 l8 (0 : Int).toNat (imin (l10.len : Int) (l12.len : Int)).toNat l8.cap, ((SlW.sub 1 l8 (0 : Int).toNat (imin (l10.len : Int) (l12.len : Int)).toNat l8.cap).len : Int), 0, (Fr.upds_self _ _ ⟨rfl, rfl, rfl, rfl, rfl, rfl, rfl, trivial⟩), h⟩ ?_
    clear h
    rintro k1 fr H ⟨g, b17, o18, b19, l20, s21, l22, x23, x24, rfl, h⟩
    cases k1 with
    | zero => exact h.elim
    | succ k1 =>
      replace h : disk_Disk_Crash__w1.r1 F K (disk_Disk_Crash__w1.l1 F K k1) b17 o18 b19 l20 s21 l22 x23 x24 H := h
      unfold disk_Disk_Crash__w1.r1 at h
      refine SW.seq ?_
      refine SW.region ?_
      refine SOps.val (v := .bool (decide (x24 < x23))) rfl (wantN rfl) (fun _ => by kernel_rfl) ?_
      refine SOps.nil ?_
      refine SW.seq ?_
      by_cases c25 : x24 < x23
      · replace h := h.1 c25
        have dc25 : (decide (x24 < x23)) = true := (decide_eq_true c25)
        refine SW.cond_t (t := decide (x24 < x23)) rfl dc25 ?_
        refine SW.skip ?_
        refine SW.seqJ (fun fr H => ∃ (g : Fr) (b132 : Nat) (o133 : Nat) (b134 : Nat) (l135 : SlW) (s136 : ByteArray) (l137 : SlW) (x138 : Int) (x139 : Int), fr = g.upds [(0, pv (some (b132, o133))), (3, pv (some (b134, 0))), (4, swv l135), (5, (.string s136 : Value)), (23, swv l137), (24, (.int .i64 x138 : Value)), (25, (.int .i64 x139 : Value))] ∧ disk_Disk_Crash__w1.j1 F K (disk_Disk_Crash__w1.l1 F K k1) b132 o133 b134 l135 s136 l137 x138 x139 H) ?_ ?_
        · clear h
          rintro fr H ⟨g, b132, o133, b134, l135, s136, l137, x138, x139, rfl, h⟩
          unfold disk_Disk_Crash__w1.j1 at h
          refine SW.region ?_
          refine SOps.val (v := .int .i64 (w64 (x139 + 1))) rfl (wantN rfl) (fun _ => by kernel_rfl) ?_
          refine SOps.val (v := .int .i64 (w64 (x139 + 1))) rfl (wantN rfl) (fun _ => by kernel_rfl) ?_
          refine SOps.nil ?_
          exact ⟨k1, Nat.lt_succ_self k1, _, b132, o133, b134, l135, s136, l137, x138, w64 (x139 + 1), (Fr.upds_self _ _ ⟨rfl, rfl, rfl, rfl, rfl, rfl, rfl, trivial⟩), h⟩
        · skip
          refine SW.blockJ (fun fr H => ∃ (g : Fr) (b124 : Nat) (o125 : Nat) (b126 : Nat) (l127 : SlW) (s128 : ByteArray) (l129 : SlW) (x130 : Int) (x131 : Int), fr = g.upds [(0, pv (some (b124, o125))), (3, pv (some (b126, 0))), (4, swv l127), (5, (.string s128 : Value)), (23, swv l129), (24, (.int .i64 x130 : Value)), (25, (.int .i64 x131 : Value))] ∧ disk_Disk_Crash__w1.j2 F K (disk_Disk_Crash__w1.l1 F K k1) b124 o125 b126 l127 s128 l129 x130 x131 H) ?_ ?_
          · clear h
            rintro fr H ⟨g, b124, o125, b126, l127, s128, l129, x130, x131, rfl, h⟩
            unfold disk_Disk_Crash__w1.j2 at h
            exact ⟨_, b124, o125, b126, l127, s128, l129, x130, x131, Fr.upds_self _ _ ⟨rfl, rfl, rfl, rfl, rfl, rfl, rfl, trivial⟩, h⟩
          · skip
            refine SW.seq ?_
            refine SW.region ?_
            refine SOps.val (v := .int .i64 x24) rfl (wantN rfl) (fun _ => by kernel_rfl) ?_
            obtain ⟨p26, c27, c28, c29, h⟩ := h
            refine SOps.val (v := pv (some (p26.1, (p26.2 + x24.toNat * 1)))) rfl (wantN rfl) (fun w => ev_iaddrW rfl Tryd.underlying22 (size := 1) (by kernel_rfl) rfl rfl c27 c28 c29 w) ?_
            obtain ⟨q30, c31, h⟩ := h
            refine SOps.rd (v := .bool q30) rfl (wantN rfl) (fun w hw => ev_load1 rfl (fun _ => by kernel_rfl) (p := (p26.1, (p26.2 + x24.toNat * 1))) rfl c31 w hw) ?_
            refine SOps.val (v := .int .i64 x24) rfl (wantN rfl) (fun _ => by kernel_rfl) ?_
            refine SOps.val (v := .bool q30) rfl (wantN rfl) (fun _ => by kernel_rfl) ?_
            refine SOps.nil ?_
            refine SW.seq ?_
            refine SW.region ?_
            refine SOps.val (v := pv (some (b17, o18))) rfl (wantN rfl) (fun _ => by kernel_rfl) ?_
            refine SOps.val (v := pv (some (b17, o18))) rfl (wantN rfl) (fun _ => by kernel_rfl) ?_
            refine SOps.val (v := pv (some (b17, (o18 + 6)))) rfl (wantN rfl) (fun _ => by kernel_rfl) ?_
            obtain ⟨l32, c33, h⟩ := h
            refine SOps.rd (v := sv l32) rfl (wantN rfl) (fun w hw => ev_load1 rfl (fun _ => by kernel_rfl) (p := (b17, (o18 + 6))) rfl c33 w hw) ?_
            refine SOps.val (v := .int .i64 x24) rfl (wantN rfl) (fun _ => by kernel_rfl) ?_
            obtain ⟨p34, c35, c36, c37, h⟩ := h
            refine SOps.val (v := pv (some (p34.1, (p34.2 + x24.toNat * 2)))) rfl (wantN rfl) (fun w => ev_iaddr rfl Tryd.underlying73 (size := 2) (by kernel_rfl) rfl rfl c35 c36 c37 w) ?_
            obtain ⟨x38, s39, c40, h⟩ := h
            refine SOps.rd (v := .agg #[.int .i64 x38, .string s39]) rfl (wantN rfl) (fun w hw => ev_loadN rfl (fun _ => by kernel_rfl) (size := 2) (by kernel_rfl) (p := (p34.1, (p34.2 + x24.toNat * 2))) rfl rfl c40 w hw) ?_
            refine SOps.alloc rfl rfl (wantN rfl) (z := .agg #[.int .i64 0, .string ByteArray.empty]) (by kernel_rfl) (fun b41 c42 => ?_)
            replace h := h b41 c42
            obtain ⟨c43, h⟩ := h
            refine SOps.storeL (p := (b41, 0)) (v := .agg #[.int .i64 x38, .string s39]) (cs := [.int .i64 x38, .string s39]) rfl rfl (wantN rfl) (size := 2) (by kernel_rfl) rfl rfl rfl rfl (by simp [Value.oneCell', errV_one, pv, sv]) c43 ?_
            refine SOps.nil ?_
            refine SW.seq ?_
            refine SW.block ?_
            refine SW.seq ?_
            refine SW.blockJ (fun fr H => ∃ (g : Fr) (b69 : Nat) (o70 : Nat) (b71 : Nat) (l72 : SlW) (s73 : ByteArray) (l74 : SlW) (x75 : Int) (x76 : Int), fr = g.upds [(0, pv (some (b69, o70))), (3, pv (some (b71, 0))), (4, swv l72), (5, (.string s73 : Value)), (23, swv l74), (24, (.int .i64 x75 : Value)), (25, (.int .i64 x76 : Value))] ∧ disk_Disk_Crash__w1.j3 F K (disk_Disk_Crash__w1.l1 F K k1) b69 o70 b71 l72 s73 l74 x75 x76 H) ?_ ?_
            · clear h
              rintro fr H ⟨g, b69, o70, b71, l72, s73, l74, x75, x76, rfl, h⟩
              unfold disk_Disk_Crash__w1.j3 at h
              refine SW.seq ?_
              refine SW.exit ?_
              exact ⟨_, b69, o70, b71, l72, s73, l74, x75, x76, Fr.upds_self _ _ ⟨rfl, rfl, rfl, rfl, rfl, rfl, rfl, trivial⟩, h⟩
            · skip
              refine SW.seq ?_
              refine SW.block ?_
              refine SW.seq ?_
              refine SW.seqJ (fun fr H => ∃ (g : Fr) (b45 : Nat) (o46 : Nat) (b47 : Nat) (l48 : SlW) (s49 : ByteArray) (x50 : Int) (q51 : Bool) (b52 : Nat) (l53 : SlW) (x54 : Int) (x55 : Int), fr = g.upds [(0, pv (some (b45, o46))), (3, pv (some (b47, 0))), (4, swv l48), (5, (.string s49 : Value)), (6, (.int .i64 x50 : Value)), (7, (.bool q51 : Value)), (8, pv (some (b52, 0))), (23, swv l53), (24, (.int .i64 x54 : Value)), (25, (.int .i64 x55 : Value))] ∧ disk_Disk_Crash__w1.j4 F K (disk_Disk_Crash__w1.l1 F K k1) b45 o46 b47 l48 s49 x50 q51 b52 l53 x54 x55 H) ?_ ?_
              · clear h
                rintro fr H ⟨g, b45, o46, b47, l48, s49, x50, q51, b52, l53, x54, x55, rfl, h⟩
                unfold disk_Disk_Crash__w1.j4 at h
                refine SW.seq ?_
                refine SW.region ?_
                refine SOps.val (v := .bool q51) rfl (wantN rfl) (fun _ => by kernel_rfl) ?_
                refine SOps.val (v := .bool (!q51)) rfl (wantN rfl) (fun _ => by kernel_rfl) ?_
                refine SOps.val (v := .bool (!q51)) rfl (wantN rfl) (fun _ => by kernel_rfl) ?_
                refine SOps.nil ?_
                by_cases c77 : q51 = true
                · replace h := h.1 c77
                  have dc77 : q51 = true := c77
                  refine SW.cond_f (t := !q51) rfl (not_t dc77) ?_
                  refine SW.skip ?_
                  refine SW.exit ?_
                  refine SW.seqJ (fun fr H => ∃ (g : Fr) (b84 : Nat) (o85 : Nat) (b86 : Nat) (l87 : SlW) (s88 : ByteArray) (b89 : Nat) (l90 : SlW) (x91 : Int) (x92 : Int), fr = g.upds [(0, pv (some (b84, o85))), (3, pv (some (b86, 0))), (4, swv l87), (5, (.string s88 : Value)), (8, pv (some (b89, 0))), (23, swv l90), (24, (.int .i64 x91 : Value)), (25, (.int .i64 x92 : Value))] ∧ disk_Disk_Crash__w1.j5 F K (disk_Disk_Crash__w1.l1 F K k1) b84 o85 b86 l87 s88 b89 l90 x91 x92 H) ?_ ?_
                  · clear h
                    rintro fr H ⟨g, b84, o85, b86, l87, s88, b89, l90, x91, x92, rfl, h⟩
                    unfold disk_Disk_Crash__w1.j5 at h
                    refine SW.seqJ (fun fr H => ∃ (g : Fr) (b110 : Nat) (o111 : Nat) (b112 : Nat) (l113 : SlW) (s114 : ByteArray) (b115 : Nat) (l116 : SlW) (x117 : Int) (x118 : Int), fr = g.upds [(0, pv (some (b110, o111))), (3, pv (some (b112, 0))), (4, swv l113), (5, (.string s114 : Value)), (8, pv (some (b115, 0))), (23, swv l116), (24, (.int .i64 x117 : Value)), (25, (.int .i64 x118 : Value))] ∧ disk_Disk_Crash__w1.j6 F K (disk_Disk_Crash__w1.l1 F K k1) b110 o111 b112 l113 s114 b115 l116 x117 x118 H) ?_ ?_
                    · clear h
                      rintro fr H ⟨g, b110, o111, b112, l113, s114, b115, l116, x117, x118, rfl, h⟩
                      unfold disk_Disk_Crash__w1.j6 at h
                      obtain ⟨x119, s120, c121, h⟩ := h
                      refine SW.drawA [.val (pv (some (b110, o111))), .val (pv (some (b110, o111))), .val (pv (some (b110, (o111 + 4)))), .val (.agg #[.int .i64 x119, .string s120])] (by kernel_rfl) (by kernel_rfl) (And.intro ?_ (And.intro ?_ (And.intro ?_ (And.intro ?_ (trivial))))) ?_
                      · clear h
                        intro fr' T' H' hle hs hA
                        have a0 : fr' 0 = pv (some (b110, o111)) := hs 0 (by kernel_rfl)
                        obtain ⟨g', hg'⟩ : ∃ g' : Fr, fr' = g'.upds [(0, pv (some (b110, o111)))] := ⟨_, Fr.upds_self _ _ ⟨a0, trivial⟩⟩
                        subst hg'
                        exact SA.val (v := pv (some (b110, o111))) rfl (wantN rfl) (fun _ => by kernel_rfl)
                      · clear h
                        intro fr' T' H' hle hs hA
                        have a76 : fr' 76 = pv (some (b110, o111)) := hA 0 (by kernel_rfl)
                        obtain ⟨g', hg'⟩ : ∃ g' : Fr, fr' = g'.upds [(76, pv (some (b110, o111)))] := ⟨_, Fr.upds_self _ _ ⟨a76, trivial⟩⟩
                        subst hg'
                        exact SA.val (v := pv (some (b110, o111))) rfl (wantN rfl) (fun _ => by kernel_rfl)
                      · clear h
                        intro fr' T' H' hle hs hA
                        have a77 : fr' 77 = pv (some (b110, o111)) := hA 1 (by kernel_rfl)
                        obtain ⟨g', hg'⟩ : ∃ g' : Fr, fr' = g'.upds [(77, pv (some (b110, o111)))] := ⟨_, Fr.upds_self _ _ ⟨a77, trivial⟩⟩
                        subst hg'
                        exact SA.val (v := pv (some (b110, (o111 + 4)))) rfl (wantN rfl) (fun _ => by kernel_rfl)
                      · clear h
                        intro fr' T' H' hle hs hA
                        have a8 : fr' 8 = pv (some (b115, 0)) := hs 8 (by kernel_rfl)
                        obtain ⟨g', hg'⟩ : ∃ g' : Fr, fr' = g'.upds [(8, pv (some (b115, 0)))] := ⟨_, Fr.upds_self _ _ ⟨a8, trivial⟩⟩
                        subst hg'
                        exact SA.rd hle (v := .agg #[.int .i64 x119, .string s120]) rfl (wantN rfl) (fun w hw => ev_loadN rfl (fun _ => by kernel_rfl) (size := 2) (by kernel_rfl) (p := (b115, 0)) rfl rfl c121 w hw)
                      · intro fr' T' H' hle hs hA
                        have a0 : fr' 0 = pv (some (b110, o111)) := hs 0 (by kernel_rfl)
                        have a3 : fr' 3 = pv (some (b112, 0)) := hs 3 (by kernel_rfl)
                        have a4 : fr' 4 = swv l113 := hs 4 (by kernel_rfl)
                        have a5 : fr' 5 = (.string s114 : Value) := hs 5 (by kernel_rfl)
                        have a23 : fr' 23 = swv l116 := hs 23 (by kernel_rfl)
                        have a24 : fr' 24 = (.int .i64 x117 : Value) := hs 24 (by kernel_rfl)
                        have a25 : fr' 25 = (.int .i64 x118 : Value) := hs 25 (by kernel_rfl)
                        have a78 : fr' 78 = pv (some (b110, (o111 + 4))) := hA 2 (Nat.le_of_ble_eq_true rfl)
                        have a79 : fr' 79 = (.agg #[.int .i64 x119, .string s120] : Value) := hA 3 (Nat.le_of_ble_eq_true rfl)
                        obtain ⟨g', hg'⟩ : ∃ g' : Fr, fr' = g'.upds [(0, pv (some (b110, o111))), (3, pv (some (b112, 0))), (4, swv l113), (5, (.string s114 : Value)), (23, swv l116), (24, (.int .i64 x117 : Value)), (25, (.int .i64 x118 : Value)), (78, pv (some (b110, (o111 + 4)))), (79, (.agg #[.int .i64 x119, .string s120] : Value))] := ⟨_, Fr.upds_self _ _ ⟨a0, a3, a4, a5, a23, a24, a25, a78, a79, trivial⟩⟩
                        subst hg'
                        refine SOps.forget (H) hle ?_
                        clear hle hs hA
                        refine SOps.enter rfl (wantN rfl) (fun _ => by kernel_rfl) (disk_content_put.sound F (some (b110, (o111 + 4))) x119 s120 H _ h) ?_
                        clear h
                        rintro v H123 ⟨rfl, h⟩
                        refine SOps.nil ?_
                        exact ⟨_, b110, o111, b112, l113, s114, l116, x117, x118, Fr.upds_self _ _ ⟨rfl, rfl, rfl, rfl, rfl, rfl, rfl, trivial⟩, h⟩
                    · skip
                      refine SW.seq ?_
                      refine SW.region ?_
                      refine SOps.val (v := pv (some (b89, 0))) rfl (wantN rfl) (fun _ => by kernel_rfl) ?_
                      obtain ⟨x103, c104, h⟩ := h
                      refine SOps.rd (v := .int .i64 x103) rfl (wantN rfl) (fun w hw => ev_load1 rfl (fun _ => by kernel_rfl) (p := (b89, 0)) rfl c104 w hw) ?_
                      refine SOps.val (v := .bool (x103 == (-1))) rfl (wantN rfl) (fun _ => by kernel_rfl) ?_
                      refine SOps.nil ?_
                      by_cases c105 : x103 = (-1)
                      · replace h := h.1 c105
                        have dc105 : (x103 == (-1)) = true := (beq_iff_eq.mpr c105)
                        refine SW.cond_t (t := (x103 == (-1))) rfl dc105 ?_
                        refine SW.region ?_
                        refine SOps.val (v := .string s88) rfl (wantN rfl) (fun _ => by kernel_rfl) ?_
                        refine SOps.val (v := pv (some (b89, 1))) rfl (wantN rfl) (fun _ => by kernel_rfl) ?_
                        obtain ⟨s106, c107, h⟩ := h
                        refine SOps.rd (v := .string s106) rfl (wantN rfl) (fun w hw => ev_load1 rfl (fun _ => by kernel_rfl) (p := (b89, 1)) rfl c107 w hw) ?_
                        obtain ⟨c108, h⟩ := h
                        refine SOps.val (v := .string (s88 ++ s106)) rfl (wantN rfl) (fun w => ev_cat rfl rfl rfl c108 w) ?_
                        refine SOps.val (v := pv (some (b89, 1))) rfl (wantN rfl) (fun _ => by kernel_rfl) ?_
                        obtain ⟨c109, h⟩ := h
                        refine SOps.storeL (p := (b89, 1)) (v := .string (s88 ++ s106)) (cs := [.string (s88 ++ s106)]) rfl rfl (wantN rfl) (size := 1) (by kernel_rfl) rfl rfl rfl rfl (by simp [Value.oneCell', errV_one, pv, sv]) c109 ?_
                        refine SOps.val (v := .string ByteArray.empty) rfl (wantN rfl) (fun _ => by kernel_rfl) ?_
                        refine SOps.nil ?_
                        exact ⟨_, b84, o85, b86, l87, ByteArray.empty, b89, l90, x91, x92, Fr.upds_self _ _ ⟨rfl, rfl, rfl, rfl, rfl, rfl, rfl, rfl, trivial⟩, h⟩
                      · replace h := h.2 c105
                        have dc105 : (x103 == (-1)) = false := (beq_eq_false_iff_ne.mpr c105)
                        refine SW.cond_f (t := (x103 == (-1))) rfl dc105 ?_
                        refine SW.skip ?_
                        exact ⟨_, b84, o85, b86, l87, s88, b89, l90, x91, x92, Fr.upds_self _ _ ⟨rfl, rfl, rfl, rfl, rfl, rfl, rfl, rfl, trivial⟩, h⟩
                  · skip
                    refine SW.seq ?_
                    refine SW.region ?_
                    refine SOps.val (v := swv l48) rfl (wantN rfl) (fun _ => by kernel_rfl) ?_
                    refine SOps.val (v := .int .i64 x50) rfl (wantN rfl) (fun _ => by kernel_rfl) ?_
                    refine SOps.val (v := .int .i64 (w64 (x50 + 1))) rfl (wantN rfl) (fun _ => by kernel_rfl) ?_
                    obtain ⟨c78, c79, c80, h⟩ := h
                    refine SOps.val (v := swv (SlW.sub 1 l48 (w64 (x50 + 1)).toNat (l48.len : Int).toNat l48.cap)) rfl (wantN rfl) (fun w => ev_subW (a := (w64 (x50 + 1))) (b := (l48.len : Int)) rfl Tryd.underlying22 (size := 1) (by kernel_rfl) rfl (Or.inr ⟨_, rfl⟩) (Or.inl ⟨rfl, rfl⟩) c78 c79 c80 w) ?_
                    refine SOps.enter rfl (wantN rfl) (fun _ => by kernel_rfl) (slices_Contains_bool_bool__w0.sound F (SlW.sub 1 l48 (w64 (x50 + 1)).toNat (l48.len : Int).toNat l48.cap) true H _ h) ?_
                    clear h
                    rintro v H82 ⟨q81, rfl, h⟩
                    refine SOps.val (v := .bool (!q81)) rfl (wantN rfl) (fun _ => by kernel_rfl) ?_
                    refine SOps.nil ?_
                    by_cases c83 : q81 = true
                    · replace h := h.1 c83
                      have dc83 : q81 = true := c83
                      refine SW.cond_f (t := !q81) rfl (not_t dc83) ?_
                      refine SW.skip ?_
                      exact ⟨_, b45, o46, b47, l48, s49, b52, l53, x54, x55, Fr.upds_self _ _ ⟨rfl, rfl, rfl, rfl, rfl, rfl, rfl, rfl, trivial⟩, h⟩
                    · replace h := h.2 c83
                      have dc83 : q81 = false := (Bool.eq_false_iff.mpr c83)
                      refine SW.cond_t (t := !q81) rfl (not_f dc83) ?_
                      obtain ⟨x93, s94, c95, h⟩ := h
                      obtain ⟨x96, c97, h⟩ := h
                      refine SW.drawA [.val (pv (some (b45, o46))), .val (pv (some (b45, o46))), .val (pv (some (b45, (o46 + 4)))), .val (.agg #[.int .i64 x93, .string s94]), .val (pv (some (b47, 1))), .val (.int .i64 x96)] (by kernel_rfl) (by kernel_rfl) (And.intro ?_ (And.intro ?_ (And.intro ?_ (And.intro ?_ (And.intro ?_ (And.intro ?_ (trivial))))))) ?_
                      · clear h
                        intro fr' T' H' hle hs hA
                        have a0 : fr' 0 = pv (some (b45, o46)) := hs 0 (by kernel_rfl)
                        obtain ⟨g', hg'⟩ : ∃ g' : Fr, fr' = g'.upds [(0, pv (some (b45, o46)))] := ⟨_, Fr.upds_self _ _ ⟨a0, trivial⟩⟩
                        subst hg'
                        exact SA.val (v := pv (some (b45, o46))) rfl (wantN rfl) (fun _ => by kernel_rfl)
                      · clear h
                        intro fr' T' H' hle hs hA
                        have a61 : fr' 61 = pv (some (b45, o46)) := hA 0 (by kernel_rfl)
                        obtain ⟨g', hg'⟩ : ∃ g' : Fr, fr' = g'.upds [(61, pv (some (b45, o46)))] := ⟨_, Fr.upds_self _ _ ⟨a61, trivial⟩⟩
                        subst hg'
                        exact SA.val (v := pv (some (b45, o46))) rfl (wantN rfl) (fun _ => by kernel_rfl)
                      · clear h
                        intro fr' T' H' hle hs hA
                        have a62 : fr' 62 = pv (some (b45, o46)) := hA 1 (by kernel_rfl)
                        obtain ⟨g', hg'⟩ : ∃ g' : Fr, fr' = g'.upds [(62, pv (some (b45, o46)))] := ⟨_, Fr.upds_self _ _ ⟨a62, trivial⟩⟩
                        subst hg'
                        exact SA.val (v := pv (some (b45, (o46 + 4)))) rfl (wantN rfl) (fun _ => by kernel_rfl)
                      · clear h
                        intro fr' T' H' hle hs hA
                        have a8 : fr' 8 = pv (some (b52, 0)) := hs 8 (by kernel_rfl)
                        obtain ⟨g', hg'⟩ : ∃ g' : Fr, fr' = g'.upds [(8, pv (some (b52, 0)))] := ⟨_, Fr.upds_self _ _ ⟨a8, trivial⟩⟩
                        subst hg'
                        exact SA.rd hle (v := .agg #[.int .i64 x93, .string s94]) rfl (wantN rfl) (fun w hw => ev_loadN rfl (fun _ => by kernel_rfl) (size := 2) (by kernel_rfl) (p := (b52, 0)) rfl rfl c95 w hw)
                      · clear h
                        intro fr' T' H' hle hs hA
                        have a3 : fr' 3 = pv (some (b47, 0)) := hs 3 (by kernel_rfl)
                        obtain ⟨g', hg'⟩ : ∃ g' : Fr, fr' = g'.upds [(3, pv (some (b47, 0)))] := ⟨_, Fr.upds_self _ _ ⟨a3, trivial⟩⟩
                        subst hg'
                        exact SA.val (v := pv (some (b47, 1))) rfl (wantN rfl) (fun _ => by kernel_rfl)
                      · clear h
                        intro fr' T' H' hle hs hA
                        have a65 : fr' 65 = pv (some (b47, 1)) := hA 4 (by kernel_rfl)
                        obtain ⟨g', hg'⟩ : ∃ g' : Fr, fr' = g'.upds [(65, pv (some (b47, 1)))] := ⟨_, Fr.upds_self _ _ ⟨a65, trivial⟩⟩
                        subst hg'
                        exact SA.rd hle (v := .int .i64 x96) rfl (wantN rfl) (fun w hw => ev_load1 rfl (fun _ => by kernel_rfl) (p := (b47, 1)) rfl c97 w hw)
                      · intro fr' T' H' hle hs hA
                        have a0 : fr' 0 = pv (some (b45, o46)) := hs 0 (by kernel_rfl)
                        have a3 : fr' 3 = pv (some (b47, 0)) := hs 3 (by kernel_rfl)
                        have a4 : fr' 4 = swv l48 := hs 4 (by kernel_rfl)
                        have a5 : fr' 5 = (.string s49 : Value) := hs 5 (by kernel_rfl)
                        have a8 : fr' 8 = pv (some (b52, 0)) := hs 8 (by kernel_rfl)
                        have a23 : fr' 23 = swv l53 := hs 23 (by kernel_rfl)
                        have a24 : fr' 24 = (.int .i64 x54 : Value) := hs 24 (by kernel_rfl)
                        have a25 : fr' 25 = (.int .i64 x55 : Value) := hs 25 (by kernel_rfl)
                        have a63 : fr' 63 = pv (some (b45, (o46 + 4))) := hA 2 (Nat.le_of_ble_eq_true rfl)
                        have a64 : fr' 64 = (.agg #[.int .i64 x93, .string s94] : Value) := hA 3 (Nat.le_of_ble_eq_true rfl)
                        have a66 : fr' 66 = (.int .i64 x96 : Value) := hA 5 (Nat.le_of_ble_eq_true rfl)
                        obtain ⟨g', hg'⟩ : ∃ g' : Fr, fr' = g'.upds [(0, pv (some (b45, o46))), (3, pv (some (b47, 0))), (4, swv l48), (5, (.string s49 : Value)), (8, pv (some (b52, 0))), (23, swv l53), (24, (.int .i64 x54 : Value)), (25, (.int .i64 x55 : Value)), (63, pv (some (b45, (o46 + 4)))), (64, (.agg #[.int .i64 x93, .string s94] : Value)), (66, (.int .i64 x96 : Value))] := ⟨_, Fr.upds_self _ _ ⟨a0, a3, a4, a5, a8, a23, a24, a25, a63, a64, a66, trivial⟩⟩
                        subst hg'
                        refine SOps.forget (H82) hle ?_
                        clear hle hs hA
                        refine SOps.enter rfl (wantN rfl) (fun _ => by kernel_rfl) (disk_content_torn.sound F (some (b45, (o46 + 4))) x93 s94 x96 H82 _ h) ?_
                        clear h
                        rintro v H101 ⟨x99, s100, rfl, h⟩
                        obtain ⟨c102, h⟩ := h
                        refine SOps.storeL (p := (b52, 0)) (v := .agg #[.int .i64 x99, .string s100]) (cs := [.int .i64 x99, .string s100]) rfl rfl (wantN rfl) (size := 2) (by kernel_rfl) rfl rfl rfl rfl (by simp [Value.oneCell', errV_one, pv, sv]) c102 ?_
                        refine SOps.nil ?_
                        exact ⟨_, b45, o46, b47, l48, s49, b52, l53, x54, x55, Fr.upds_self _ _ ⟨rfl, rfl, rfl, rfl, rfl, rfl, rfl, rfl, trivial⟩, h⟩
                · replace h := h.2 c77
                  have dc77 : q51 = false := (Bool.eq_false_iff.mpr c77)
                  refine SW.cond_t (t := !q51) rfl (not_f dc77) ?_
                  refine SW.exit ?_
                  exact ⟨_, b45, o46, b47, l48, s49, l53, x54, x55, Fr.upds_self _ _ ⟨rfl, rfl, rfl, rfl, rfl, rfl, rfl, trivial⟩, h⟩
              · skip
                refine SW.seq ?_
                refine SW.region ?_
                refine SOps.val (v := .bool q30) rfl (wantN rfl) (fun _ => by kernel_rfl) ?_
                refine SOps.val (v := .bool (!q30)) rfl (wantN rfl) (fun _ => by kernel_rfl) ?_
                refine SOps.val (v := .bool (!q30)) rfl (wantN rfl) (fun _ => by kernel_rfl) ?_
                by_cases c44 : q30 = true
                · replace h := h.1 c44
                  have dc44 : q30 = true := c44
                  refine SOps.off rfl (wantX (c := !q30) rfl rfl rfl (not_t dc44)) ?_
                  refine SOps.off rfl (wantX (c := !q30) rfl rfl rfl (not_t dc44)) ?_
                  refine SOps.off rfl (wantX (c := !q30) rfl rfl rfl (not_t dc44)) ?_
                  refine SOps.val (v := .bool false) rfl (wantN rfl) (fun w => ev_pickF (v := .bool false) rfl (t := !q30) rfl (not_t dc44) rfl w) ?_
                  refine SOps.val (v := .bool false) rfl (wantN rfl) (fun _ => by kernel_rfl) ?_
                  refine SOps.nil ?_
                  refine SW.cond_f (t := false) rfl rfl ?_
                  refine SW.skip ?_
                  exact ⟨_, b17, o18, b19, l20, s21, x24, q30, b41, l22, x23, x24, Fr.upds_self _ _ ⟨rfl, rfl, rfl, rfl, rfl, rfl, rfl, rfl, rfl, rfl, trivial⟩, h⟩
                · replace h := h.2 c44
                  have dc44 : q30 = false := (Bool.eq_false_iff.mpr c44)
                  refine SOps.val (v := pv (some (b41, 0))) rfl (wantY (c := !q30) rfl rfl rfl (not_f dc44)) (fun _ => by kernel_rfl) ?_
                  obtain ⟨x56, c57, h⟩ := h
                  refine SOps.rd (v := .int .i64 x56) rfl (wantY (c := !q30) rfl rfl rfl (not_f dc44)) (fun w hw => ev_load1 rfl (fun _ => by kernel_rfl) (p := (b41, 0)) rfl c57 w hw) ?_
                  refine SOps.val (v := .bool (x56 == (-1))) rfl (wantY (c := !q30) rfl rfl rfl (not_f dc44)) (fun _ => by kernel_rfl) ?_
                  refine SOps.val (v := .bool (x56 == (-1))) rfl (wantN rfl) (fun w => ev_pickT (v := .bool (x56 == (-1))) rfl (t := !q30) rfl (not_f dc44) rfl w) ?_
                  refine SOps.val (v := .bool (x56 == (-1))) rfl (wantN rfl) (fun _ => by kernel_rfl) ?_
                  refine SOps.nil ?_
                  by_cases c58 : x56 = (-1)
                  · replace h := h.1 c58
                    have dc58 : (x56 == (-1)) = true := (beq_iff_eq.mpr c58)
                    refine SW.cond_t (t := (x56 == (-1))) rfl dc58 ?_
                    refine SW.exit ?_
                    refine SW.region ?_
                    refine SOps.val (v := .string s21) rfl (wantN rfl) (fun _ => by kernel_rfl) ?_
                    refine SOps.val (v := pv (some (b41, 1))) rfl (wantN rfl) (fun _ => by kernel_rfl) ?_
                    obtain ⟨s59, c60, h⟩ := h
                    refine SOps.rd (v := .string s59) rfl (wantN rfl) (fun w hw => ev_load1 rfl (fun _ => by kernel_rfl) (p := (b41, 1)) rfl c60 w hw) ?_
                    refine SOps.val (v := .int .i64 (s59.size : Int)) rfl (wantN rfl) (fun _ => by kernel_rfl) ?_
                    obtain ⟨c63, c64, h⟩ := h
                    refine SOps.make (z := .int .u8 0) (size := 1) (bytes := 1) rfl rfl (wantN rfl) Tryd.underlying67 (by kernel_rfl) rfl (by decide) (by decide) rfl rfl c63 c64 (fun b61 c62 => ?_)
                    replace h := h b61 c62
                    obtain ⟨bs65, c66, c67, h⟩ := h
                    refine SOps.rd (v := .string (⟨bs65.toArray⟩ : ByteArray)) rfl (wantN rfl) (fun w hw => ev_str rfl Tryd.underlying67 Tryd.underlying5 Tryd.underlying9 rfl c66 c67 w hw) ?_
                    obtain ⟨c68, h⟩ := h
                    refine SOps.val (v := .string (s21 ++ (⟨bs65.toArray⟩ : ByteArray))) rfl (wantN rfl) (fun w => ev_cat rfl rfl rfl c68 w) ?_
                    refine SOps.val (v := .string (s21 ++ (⟨bs65.toArray⟩ : ByteArray))) rfl (wantN rfl) (fun _ => by kernel_rfl) ?_
                    refine SOps.nil ?_
                    exact ⟨_, b17, o18, b19, l20, s21 ++ (⟨bs65.toArray⟩ : ByteArray), l22, x23, x24, Fr.upds_self _ _ ⟨rfl, rfl, rfl, rfl, rfl, rfl, rfl, trivial⟩, h⟩
                  · replace h := h.2 c58
                    have dc58 : (x56 == (-1)) = false := (beq_eq_false_iff_ne.mpr c58)
                    refine SW.cond_f (t := (x56 == (-1))) rfl dc58 ?_
                    refine SW.skip ?_
                    exact ⟨_, b17, o18, b19, l20, s21, x24, q30, b41, l22, x23, x24, Fr.upds_self _ _ ⟨rfl, rfl, rfl, rfl, rfl, rfl, rfl, rfl, rfl, rfl, trivial⟩, h⟩
      · replace h := h.2 c25
        have dc25 : (decide (x24 < x23)) = false := (decide_eq_false c25)
        refine SW.cond_f (t := decide (x24 < x23)) rfl dc25 ?_
        refine SW.exit ?_
        refine SW.region ?_
        refine SOps.val (v := pv (some (b17, o18))) rfl (wantN rfl) (fun _ => by kernel_rfl) ?_
        refine SOps.val (v := pv (some (b17, o18))) rfl (wantN rfl) (fun _ => by kernel_rfl) ?_
        refine SOps.val (v := pv (some (b17, o18))) rfl (wantN rfl) (fun _ => by kernel_rfl) ?_
        refine SOps.val (v := pv (some (b17, o18))) rfl (wantN rfl) (fun _ => by kernel_rfl) ?_
        refine SOps.val (v := pv (some (b17, o18))) rfl (wantN rfl) (fun _ => by kernel_rfl) ?_
        refine SOps.val (v := pv (some (b17, (o18 + 4)))) rfl (wantN rfl) (fun _ => by kernel_rfl) ?_
        obtain ⟨s140, l141, c142, h⟩ := h
        refine SOps.rd (v := .agg #[.string s140, sv l141]) rfl (wantN rfl) (fun w hw => ev_loadN rfl (fun _ => by kernel_rfl) (size := 2) (by kernel_rfl) (p := (b17, (o18 + 4))) rfl rfl c142 w hw) ?_
        refine SOps.enter rfl (wantN rfl) (fun _ => by kernel_rfl) (disk_content_copied.sound F s140 l141 H _ h) ?_
        clear h
        rintro v H145 ⟨s143, l144, rfl, h⟩
        refine SOps.val (v := .agg #[.int .i64 (-1), .bool false]) rfl (wantN rfl) (fun _ => by kernel_rfl) ?_
        refine SOps.val (v := pv (some (b17, o18))) rfl (wantN rfl) (fun _ => by kernel_rfl) ?_
        refine SOps.val (v := pv (some (b17, (o18 + 2)))) rfl (wantN rfl) (fun _ => by kernel_rfl) ?_
        obtain ⟨c146, h⟩ := h
        refine SOps.storeL (p := (b17, (o18 + 2))) (v := .agg #[.string s143, sv l144]) (cs := [.string s143, sv l144]) rfl rfl (wantN rfl) (size := 2) (by kernel_rfl) rfl rfl rfl rfl (by simp [Value.oneCell', errV_one, pv, sv]) c146 ?_
        refine SOps.val (v := pv (some (b17, o18))) rfl (wantN rfl) (fun _ => by kernel_rfl) ?_
        refine SOps.val (v := pv (some (b17, (o18 + 6)))) rfl (wantN rfl) (fun _ => by kernel_rfl) ?_
        obtain ⟨c147, h⟩ := h
        refine SOps.storeL (p := (b17, (o18 + 6))) (v := sv Sl.nil) (cs := [sv Sl.nil]) rfl rfl (wantN rfl) (size := 1) (by kernel_rfl) rfl rfl rfl rfl (by simp [Value.oneCell', errV_one, pv, sv]) c147 ?_
        refine SOps.val (v := pv (some (b17, o18))) rfl (wantN rfl) (fun _ => by kernel_rfl) ?_
        refine SOps.val (v := pv (some (b17, o18))) rfl (wantN rfl) (fun _ => by kernel_rfl) ?_
        obtain ⟨c148, h⟩ := h
        refine SOps.storeL (p := (b17, o18)) (v := .agg #[.int .i64 (-1), .bool false]) (cs := [.int .i64 (-1), .bool false]) rfl rfl (wantN rfl) (size := 2) (by kernel_rfl) rfl rfl rfl rfl (by simp [Value.oneCell', errV_one, pv, sv]) c148 ?_
        refine SOps.nil ?_
        obtain ⟨Hr, hr, h⟩ := h
        exact retQ.mkN (.tuple #[]) (res0 rfl) hr ⟨rfl, h⟩

end Go.Proofs.YtknhlipealekoaaDoor.K
