import Derived.Test.YtpnbehgkbfhacaaErr
set_option linter.unusedVariables false
set_option linter.unusedSimpArgs false
set_option maxRecDepth 100000
namespace Go.Proofs.Ytpnbehgkbfhacaa.K
open Go
attribute [local irreducible] SW SOps SQ SCalls retQ

/-! ### lading/octet.there: function 22 -/
def octet_there.wp (F : Nat) (s1 : ByteArray) (x2 : Int) (H : SH) (K : Bool → SH → Prop) : Prop :=
  (x2 ≥ 0 →
    ∃ Hr, SH.le Hr H ∧ K (decide (x2 ≤ (s1.size : Int))) Hr
  ) ∧ (¬ (x2 ≥ 0) →
    ∃ Hr, SH.le Hr H ∧ K false Hr
  )
set_option maxHeartbeats 8000000 in
theorem octet_there.sound (F : Nat) (s1 : ByteArray) (x2 : Int) (H : SH) (K : Bool → SH → Prop) (h : octet_there.wp F s1 x2 H K) : SCalls Try.prog 22 #[.string s1, .int .i64 x2] H (fun v H' => ∃ (q5 : Bool), v = .bool q5 ∧ K q5 H') := by
  unfold octet_there.wp at h
  refine SCalls.body Try.func22 rfl (Nat.le_of_ble_eq_true rfl) ?_
  refine SW.seq ?_
  refine SW.region ?_
  refine SOps.val (v := .bool false) rfl (wantN rfl) (fun _ => by kernel_rfl) ?_
  refine SOps.nil ?_
  refine SW.seq ?_
  refine SW.region ?_
  refine SOps.val (v := .int .i64 x2) rfl (wantN rfl) (fun _ => by kernel_rfl) ?_
  refine SOps.val (v := .bool (decide (x2 ≥ 0))) rfl (wantN rfl) (fun _ => by kernel_rfl) ?_
  refine SOps.val (v := .bool (decide (x2 ≥ 0))) rfl (wantN rfl) (fun _ => by kernel_rfl) ?_
  by_cases c3 : x2 ≥ 0
  · replace h := h.1 c3
    have dc3 : (decide (x2 ≥ 0)) = true := (decide_eq_true c3)
    refine SOps.val (v := .int .i64 x2) rfl (wantY (c := decide (x2 ≥ 0)) rfl rfl rfl dc3) (fun _ => by kernel_rfl) ?_
    refine SOps.val (v := .string s1) rfl (wantY (c := decide (x2 ≥ 0)) rfl rfl rfl dc3) (fun _ => by kernel_rfl) ?_
    refine SOps.val (v := .int .i64 (s1.size : Int)) rfl (wantY (c := decide (x2 ≥ 0)) rfl rfl rfl dc3) (fun _ => by kernel_rfl) ?_
    refine SOps.val (v := .bool (decide (x2 ≤ (s1.size : Int)))) rfl (wantY (c := decide (x2 ≥ 0)) rfl rfl rfl dc3) (fun _ => by kernel_rfl) ?_
    refine SOps.val (v := .bool (decide (x2 ≤ (s1.size : Int)))) rfl (wantN rfl) (fun w => ev_pickT (v := .bool (decide (x2 ≤ (s1.size : Int)))) rfl (t := decide (x2 ≥ 0)) rfl dc3 rfl w) ?_
    refine SOps.val (v := .bool (decide (x2 ≤ (s1.size : Int)))) rfl (wantN rfl) (fun _ => by kernel_rfl) ?_
    refine SOps.nil ?_
    obtain ⟨Hr, hr, h⟩ := h
    exact SW.ret (retQ.mk (.bool (decide (x2 ≤ (s1.size : Int)))) (res1 rfl rfl) hr ⟨decide (x2 ≤ (s1.size : Int)), rfl, h⟩)
  · replace h := h.2 c3
    have dc3 : (decide (x2 ≥ 0)) = false := (decide_eq_false c3)
    refine SOps.off rfl (wantX (c := decide (x2 ≥ 0)) rfl rfl rfl dc3) ?_
    refine SOps.off rfl (wantX (c := decide (x2 ≥ 0)) rfl rfl rfl dc3) ?_
    refine SOps.off rfl (wantX (c := decide (x2 ≥ 0)) rfl rfl rfl dc3) ?_
    refine SOps.off rfl (wantX (c := decide (x2 ≥ 0)) rfl rfl rfl dc3) ?_
    refine SOps.val (v := .bool false) rfl (wantN rfl) (fun w => ev_pickF (v := .bool false) rfl (t := decide (x2 ≥ 0)) rfl dc3 rfl w) ?_
    refine SOps.val (v := .bool false) rfl (wantN rfl) (fun _ => by kernel_rfl) ?_
    refine SOps.nil ?_
    obtain ⟨Hr, hr, h⟩ := h
    exact SW.ret (retQ.mk (.bool false) (res1 rfl rfl) hr ⟨false, rfl, h⟩)

/-! ### lading/octet.fault: function 23 -/
def octet_fault.wp (F : Nat) (x1 : Int) (e2 : Option EV) (H : SH) (K : Option EV → SH → Prop) : Prop :=
  ∃ Hr, SH.le Hr H ∧ K (some (EV.mk x1 e2)) Hr
set_option maxHeartbeats 8000000 in
theorem octet_fault.sound (F : Nat) (x1 : Int) (e2 : Option EV) (H : SH) (K : Option EV → SH → Prop) (h : octet_fault.wp F x1 e2 H K) : SCalls Try.prog 23 #[.int .i64 x1, errV e2] H (fun v H' => ∃ (e4 : Option EV), v = errV e4 ∧ K e4 H') := by
  unfold octet_fault.wp at h
  refine SCalls.body Try.func23 rfl (Nat.le_of_ble_eq_true rfl) ?_
  refine SW.seq ?_
  refine SW.region ?_
  refine SOps.val (v := errV none) rfl (wantN rfl) (fun _ => by kernel_rfl) ?_
  refine SOps.nil ?_
  refine SW.seq ?_
  refine SW.region ?_
  refine SOps.val (v := .int .i64 x1) rfl (wantN rfl) (fun _ => by kernel_rfl) ?_
  refine SOps.val (v := errV e2) rfl (wantN rfl) (fun _ => by kernel_rfl) ?_
  refine SOps.val (v := .agg #[.int .i64 x1, errV e2]) rfl (wantN rfl) (fun w => ev_buildF rfl rfl rfl w) ?_
  refine SOps.val (v := errV (some (EV.mk x1 e2))) rfl (wantN rfl) (fun w => ev_fault rfl rfl w) ?_
  refine SOps.val (v := errV (some (EV.mk x1 e2))) rfl (wantN rfl) (fun _ => by kernel_rfl) ?_
  refine SOps.nil ?_
  obtain ⟨Hr, hr, h⟩ := h
  exact SW.ret (retQ.mk (errV (some (EV.mk x1 e2))) (res1 rfl rfl) hr ⟨some (EV.mk x1 e2), rfl, h⟩)

/-! ### lading/octet.short: function 24 -/
def octet_short.r1 (F : Nat) (K : ByteArray → SH → Prop) (R1 : Int → Sl → SH → Prop) (x2 : Int) (l3 : Sl) (H : SH) : Prop :=
  (x2 ≥ 128 →
    AppendQ H 5 1 1 l3 1 [.int .u8 (IntKind.u8.wrap (ibits .or .i64 (ibits .and .i64 x2 127) 128))] (fun l5 H6 =>
      R1 (ishr .i64 x2 7) l5 H6
    )
  ) ∧ (¬ (x2 ≥ 128) →
    AppendQ H 5 1 1 l3 1 [.int .u8 (IntKind.u8.wrap x2)] (fun l8 H9 =>
      ∃ bs11 : List UInt8,
      l8.len = bs11.length ∧
      SH.row H9 l8.a (byteCells bs11) ∧
      ∃ Hr, SH.le Hr H9 ∧ K (⟨bs11.toArray⟩ : ByteArray) Hr
    )
  )
def octet_short.l1 (F : Nat) (K : ByteArray → SH → Prop) : Nat → Int → Sl → SH → Prop
  | 0, _, _, _ => False
  | k + 1, x2, l3, H => octet_short.r1 F K (octet_short.l1 F K k) x2 l3 H
def octet_short.wp (F : Nat) (x1 : Int) (H : SH) (K : ByteArray → SH → Prop) : Prop :=
  octet_short.l1 F K F x1 Sl.nil H
set_option maxHeartbeats 8000000 in
theorem octet_short.sound (F : Nat) (x1 : Int) (H : SH) (K : ByteArray → SH → Prop) (h : octet_short.wp F x1 H K) : SCalls Try.prog 24 #[.int .i64 x1] H (fun v H' => ∃ (s17 : ByteArray), v = .string s17 ∧ K s17 H') := by
  unfold octet_short.wp at h
  refine SCalls.body Try.func24 rfl (Nat.le_of_ble_eq_true rfl) ?_
  refine SW.seq ?_
  refine SW.region ?_
  refine SOps.val (v := .string ByteArray.empty) rfl (wantN rfl) (fun _ => by kernel_rfl) ?_
  refine SOps.nil ?_
  refine SW.seq ?_
  refine SW.region ?_
  refine SOps.val (v := sv Sl.nil) rfl (wantN rfl) (fun _ => by kernel_rfl) ?_
  refine SOps.nil ?_
  refine SW.seq ?_
  refine SW.block ?_
  refine SW.loop (fun k1 fr H => ∃ (g : Fr) (x2 : Int) (l3 : Sl), fr = g.upds [(0, (.int .i64 x2 : Value)), (3, sv l3)] ∧ octet_short.l1 F K k1 x2 l3 H) F ⟨_, x1, Sl.nil, (Fr.upds_self _ _ ⟨rfl, rfl, trivial⟩), h⟩ ?_
  clear h
  rintro k1 fr H ⟨g, x2, l3, rfl, h⟩
  cases k1 with
  | zero => exact h.elim
  | succ k1 =>
    replace h : octet_short.r1 F K (octet_short.l1 F K k1) x2 l3 H := h
    unfold octet_short.r1 at h
    refine SW.seq ?_
    refine SW.seq ?_
    refine SW.region ?_
    refine SOps.val (v := .int .i64 x2) rfl (wantN rfl) (fun _ => by kernel_rfl) ?_
    refine SOps.val (v := .bool (decide (x2 ≥ 128))) rfl (wantN rfl) (fun _ => by kernel_rfl) ?_
    refine SOps.nil ?_
    by_cases c4 : x2 ≥ 128
    · replace h := h.1 c4
      have dc4 : (decide (x2 ≥ 128)) = true := (decide_eq_true c4)
      refine SW.cond_t (t := decide (x2 ≥ 128)) rfl dc4 ?_
      refine SW.skip ?_
      refine SW.seq ?_
      refine SW.block ?_
      refine SW.region ?_
      refine SOps.val (v := sv l3) rfl (wantN rfl) (fun _ => by kernel_rfl) ?_
      refine SOps.val (v := .int .i64 x2) rfl (wantN rfl) (fun _ => by kernel_rfl) ?_
      refine SOps.val (v := .int .i64 (ibits .and .i64 x2 127)) rfl (wantN rfl) (fun _ => by kernel_rfl) ?_
      refine SOps.val (v := .int .i64 (ibits .or .i64 (ibits .and .i64 x2 127) 128)) rfl (wantN rfl) (fun _ => by kernel_rfl) ?_
      refine SOps.val (v := .int .u8 (IntKind.u8.wrap (ibits .or .i64 (ibits .and .i64 x2 127) 128))) rfl (wantN rfl) (fun _ => by kernel_rfl) ?_
      refine SOps.litAppend (E := 5) (z := .int .u8 0) (size := 1) (bytes := 1) (cs := #[.int .u8 (IntKind.u8.wrap (ibits .or .i64 (ibits .and .i64 x2 127) 128))]) rfl rfl (wantN rfl) (fun _ => by kernel_rfl) rfl rfl (fun _ => wantN rfl) Try.underlying32 Try.underlying32 (by kernel_rfl) rfl rfl (fun _ => rfl) (AppendQ.mono h ?_)
      clear h
      intro l5 H6 h b7
      refine SOps.val (v := sv l5) rfl (wantN rfl) (fun _ => by kernel_rfl) ?_
      refine SOps.nil ?_
      refine SW.region ?_
      refine SOps.val (v := .int .i64 x2) rfl (wantN rfl) (fun _ => by kernel_rfl) ?_
      refine SOps.val (v := .int .i64 (ishr .i64 x2 7)) rfl (wantN rfl) (fun w => ev_shr rfl rfl rfl (by decide) w) ?_
      refine SOps.val (v := .int .i64 (ishr .i64 x2 7)) rfl (wantN rfl) (fun _ => by kernel_rfl) ?_
      refine SOps.nil ?_
      exact ⟨k1, Nat.lt_succ_self k1, _, ishr .i64 x2 7, l5, (Fr.upds_self _ _ ⟨rfl, rfl, trivial⟩), h⟩
    · replace h := h.2 c4
      have dc4 : (decide (x2 ≥ 128)) = false := (decide_eq_false c4)
      refine SW.cond_f (t := decide (x2 ≥ 128)) rfl dc4 ?_
      refine SW.exit ?_
      refine SW.seq ?_
      refine SW.region ?_
      refine SOps.val (v := sv l3) rfl (wantN rfl) (fun _ => by kernel_rfl) ?_
      refine SOps.val (v := .int .i64 x2) rfl (wantN rfl) (fun _ => by kernel_rfl) ?_
      refine SOps.val (v := .int .u8 (IntKind.u8.wrap x2)) rfl (wantN rfl) (fun _ => by kernel_rfl) ?_
      refine SOps.litAppend (E := 5) (z := .int .u8 0) (size := 1) (bytes := 1) (cs := #[.int .u8 (IntKind.u8.wrap x2)]) rfl rfl (wantN rfl) (fun _ => by kernel_rfl) rfl rfl (fun _ => wantN rfl) Try.underlying32 Try.underlying32 (by kernel_rfl) rfl rfl (fun _ => rfl) (AppendQ.mono h ?_)
      clear h
      intro l8 H9 h b10
      obtain ⟨bs11, c12, c13, h⟩ := h
      refine SOps.rd (v := .string (⟨bs11.toArray⟩ : ByteArray)) rfl (wantN rfl) (fun w hw => ev_str rfl Try.underlying32 Try.underlying5 Try.underlying9 rfl c12 c13 w hw) ?_
      refine SOps.val (v := .string (⟨bs11.toArray⟩ : ByteArray)) rfl (wantN rfl) (fun _ => by kernel_rfl) ?_
      refine SOps.nil ?_
      obtain ⟨Hr, hr, h⟩ := h
      exact SW.ret (retQ.mk (.string (⟨bs11.toArray⟩ : ByteArray)) (res1 rfl rfl) hr ⟨(⟨bs11.toArray⟩ : ByteArray), rfl, h⟩)

/-! ### lading/octet.PutShort: function 10 -/
def octet_PutShort.wp (F : Nat) (x1 : Int) (H : SH) (K : ByteArray → Option EV → SH → Prop) : Prop :=
  (x1 < 0 →
    ∃ Hr, SH.le Hr H ∧ K ByteArray.empty (some (EV.no 2)) Hr
  ) ∧ (¬ (x1 < 0) →
    (x1 > 72057594037927935 →
      ∃ Hr, SH.le Hr H ∧ K ByteArray.empty (some (EV.no 2)) Hr
    ) ∧ (¬ (x1 > 72057594037927935) →
      octet_short.wp F x1 H (fun s4 H5 =>
        ∃ Hr, SH.le Hr H5 ∧ K s4 none Hr
      )
    )
  )
set_option maxHeartbeats 8000000 in
theorem octet_PutShort.sound (F : Nat) (x1 : Int) (H : SH) (K : ByteArray → Option EV → SH → Prop) (h : octet_PutShort.wp F x1 H K) : SCalls Try.prog 10 #[.int .i64 x1] H (fun v H' => ∃ (s8 : ByteArray) (e9 : Option EV), v = .tuple #[.string s8, errV e9] ∧ K s8 e9 H') := by
  unfold octet_PutShort.wp at h
  refine SCalls.body Try.func10 rfl (Nat.le_of_ble_eq_true rfl) ?_
  refine SW.seq ?_
  refine SW.region ?_
  refine SOps.val (v := .string ByteArray.empty) rfl (wantN rfl) (fun _ => by kernel_rfl) ?_
  refine SOps.val (v := errV none) rfl (wantN rfl) (fun _ => by kernel_rfl) ?_
  refine SOps.nil ?_
  refine SW.seq ?_
  refine SW.seq ?_
  refine SW.region ?_
  refine SOps.val (v := .int .i64 x1) rfl (wantN rfl) (fun _ => by kernel_rfl) ?_
  refine SOps.val (v := .bool (decide (x1 < 0))) rfl (wantN rfl) (fun _ => by kernel_rfl) ?_
  refine SOps.val (v := .bool (decide (x1 < 0))) rfl (wantN rfl) (fun _ => by kernel_rfl) ?_
  by_cases c2 : x1 < 0
  · replace h := h.1 c2
    have dc2 : (decide (x1 < 0)) = true := (decide_eq_true c2)
    refine SOps.off rfl (wantX (c := decide (x1 < 0)) rfl rfl rfl dc2) ?_
    refine SOps.off rfl (wantX (c := decide (x1 < 0)) rfl rfl rfl dc2) ?_
    refine SOps.val (v := .bool true) rfl (wantN rfl) (fun w => ev_pickT (v := .bool true) rfl (t := decide (x1 < 0)) rfl dc2 rfl w) ?_
    refine SOps.nil ?_
    refine SW.cond_t (t := true) rfl rfl ?_
    refine SW.seq ?_
    refine SW.region ?_
    refine SOps.val (v := errV (some (EV.no 2))) rfl (wantN rfl) (fun _ => by kernel_rfl) ?_
    refine SOps.val (v := .string ByteArray.empty) rfl (wantN rfl) (fun _ => by kernel_rfl) ?_
    refine SOps.val (v := errV (some (EV.no 2))) rfl (wantN rfl) (fun _ => by kernel_rfl) ?_
    refine SOps.nil ?_
    obtain ⟨Hr, hr, h⟩ := h
    exact SW.ret (retQ.mk (.tuple #[.string ByteArray.empty, errV (some (EV.no 2))]) (res2 rfl rfl rfl) hr ⟨ByteArray.empty, some (EV.no 2), rfl, h⟩)
  · replace h := h.2 c2
    have dc2 : (decide (x1 < 0)) = false := (decide_eq_false c2)
    refine SOps.val (v := .int .i64 x1) rfl (wantY (c := decide (x1 < 0)) rfl rfl rfl dc2) (fun _ => by kernel_rfl) ?_
    refine SOps.val (v := .bool (decide (x1 > 72057594037927935))) rfl (wantY (c := decide (x1 < 0)) rfl rfl rfl dc2) (fun _ => by kernel_rfl) ?_
    refine SOps.val (v := .bool (decide (x1 > 72057594037927935))) rfl (wantN rfl) (fun w => ev_pickF (v := .bool (decide (x1 > 72057594037927935))) rfl (t := decide (x1 < 0)) rfl dc2 rfl w) ?_
    refine SOps.nil ?_
    by_cases c3 : x1 > 72057594037927935
    · replace h := h.1 c3
      have dc3 : (decide (x1 > 72057594037927935)) = true := (decide_eq_true c3)
      refine SW.cond_t (t := decide (x1 > 72057594037927935)) rfl dc3 ?_
      refine SW.seq ?_
      refine SW.region ?_
      refine SOps.val (v := errV (some (EV.no 2))) rfl (wantN rfl) (fun _ => by kernel_rfl) ?_
      refine SOps.val (v := .string ByteArray.empty) rfl (wantN rfl) (fun _ => by kernel_rfl) ?_
      refine SOps.val (v := errV (some (EV.no 2))) rfl (wantN rfl) (fun _ => by kernel_rfl) ?_
      refine SOps.nil ?_
      obtain ⟨Hr, hr, h⟩ := h
      exact SW.ret (retQ.mk (.tuple #[.string ByteArray.empty, errV (some (EV.no 2))]) (res2 rfl rfl rfl) hr ⟨ByteArray.empty, some (EV.no 2), rfl, h⟩)
    · replace h := h.2 c3
      have dc3 : (decide (x1 > 72057594037927935)) = false := (decide_eq_false c3)
      refine SW.cond_f (t := decide (x1 > 72057594037927935)) rfl dc3 ?_
      refine SW.skip ?_
      refine SW.seq ?_
      refine SW.region ?_
      refine SOps.val (v := .int .i64 x1) rfl (wantN rfl) (fun _ => by kernel_rfl) ?_
      refine SOps.enter rfl (wantN rfl) (fun _ => by kernel_rfl) (octet_short.sound F x1 H _ h) ?_
      clear h
      rintro v H5 ⟨s4, rfl, h⟩
      refine SOps.val (v := .string s4) rfl (wantN rfl) (fun _ => by kernel_rfl) ?_
      refine SOps.val (v := errV none) rfl (wantN rfl) (fun _ => by kernel_rfl) ?_
      refine SOps.nil ?_
      obtain ⟨Hr, hr, h⟩ := h
      exact SW.ret (retQ.mk (.tuple #[.string s4, errV none]) (res2 rfl rfl rfl) hr ⟨s4, none, rfl, h⟩)

/-! ### lading/octet.Turn: function 21 -/
def octet_Turn.wp (F : Nat) (x1 : Int) (H : SH) (K : Int → SH → Prop) : Prop :=
  (x1 < (-36028797018963968) →
    ∃ Hr, SH.le Hr H ∧ K 0 Hr
  ) ∧ (¬ (x1 < (-36028797018963968)) →
    (x1 ≥ 36028797018963968 →
      ∃ Hr, SH.le Hr H ∧ K 0 Hr
    ) ∧ (¬ (x1 ≥ 36028797018963968) →
      (x1 < 0 →
        ∃ Hr, SH.le Hr H ∧ K (w64 ((w64 ((-2) * x1)) - 1)) Hr
      ) ∧ (¬ (x1 < 0) →
        ∃ Hr, SH.le Hr H ∧ K (w64 (2 * x1)) Hr
      )
    )
  )
set_option maxHeartbeats 8000000 in
theorem octet_Turn.sound (F : Nat) (x1 : Int) (H : SH) (K : Int → SH → Prop) (h : octet_Turn.wp F x1 H K) : SCalls Try.prog 21 #[.int .i64 x1] H (fun v H' => ∃ (x6 : Int), v = .int .i64 x6 ∧ K x6 H') := by
  unfold octet_Turn.wp at h
  refine SCalls.body Try.func21 rfl (Nat.le_of_ble_eq_true rfl) ?_
  refine SW.seq ?_
  refine SW.region ?_
  refine SOps.val (v := .int .i64 0) rfl (wantN rfl) (fun _ => by kernel_rfl) ?_
  refine SOps.nil ?_
  refine SW.seq ?_
  refine SW.block ?_
  refine SW.seq ?_
  refine SW.region ?_
  refine SOps.val (v := .int .i64 x1) rfl (wantN rfl) (fun _ => by kernel_rfl) ?_
  refine SOps.val (v := .bool (decide (x1 < (-36028797018963968)))) rfl (wantN rfl) (fun _ => by kernel_rfl) ?_
  refine SOps.val (v := .bool (decide (x1 < (-36028797018963968)))) rfl (wantN rfl) (fun _ => by kernel_rfl) ?_
  by_cases c2 : x1 < (-36028797018963968)
  · replace h := h.1 c2
    have dc2 : (decide (x1 < (-36028797018963968))) = true := (decide_eq_true c2)
    refine SOps.off rfl (wantX (c := decide (x1 < (-36028797018963968))) rfl rfl rfl dc2) ?_
    refine SOps.off rfl (wantX (c := decide (x1 < (-36028797018963968))) rfl rfl rfl dc2) ?_
    refine SOps.val (v := .bool true) rfl (wantN rfl) (fun w => ev_pickT (v := .bool true) rfl (t := decide (x1 < (-36028797018963968))) rfl dc2 rfl w) ?_
    refine SOps.val (v := .bool true) rfl (wantN rfl) (fun _ => by kernel_rfl) ?_
    refine SOps.nil ?_
    refine SW.cond_t (t := true) rfl rfl ?_
    refine SW.seq ?_
    refine SW.region ?_
    refine SOps.val (v := .int .i64 0) rfl (wantN rfl) (fun _ => by kernel_rfl) ?_
    refine SOps.nil ?_
    obtain ⟨Hr, hr, h⟩ := h
    exact SW.ret (retQ.mk (.int .i64 0) (res1 rfl rfl) hr ⟨0, rfl, h⟩)
  · replace h := h.2 c2
    have dc2 : (decide (x1 < (-36028797018963968))) = false := (decide_eq_false c2)
    refine SOps.val (v := .int .i64 x1) rfl (wantY (c := decide (x1 < (-36028797018963968))) rfl rfl rfl dc2) (fun _ => by kernel_rfl) ?_
    refine SOps.val (v := .bool (decide (x1 ≥ 36028797018963968))) rfl (wantY (c := decide (x1 < (-36028797018963968))) rfl rfl rfl dc2) (fun _ => by kernel_rfl) ?_
    refine SOps.val (v := .bool (decide (x1 ≥ 36028797018963968))) rfl (wantN rfl) (fun w => ev_pickF (v := .bool (decide (x1 ≥ 36028797018963968))) rfl (t := decide (x1 < (-36028797018963968))) rfl dc2 rfl w) ?_
    refine SOps.val (v := .bool (decide (x1 ≥ 36028797018963968))) rfl (wantN rfl) (fun _ => by kernel_rfl) ?_
    refine SOps.nil ?_
    by_cases c3 : x1 ≥ 36028797018963968
    · replace h := h.1 c3
      have dc3 : (decide (x1 ≥ 36028797018963968)) = true := (decide_eq_true c3)
      refine SW.cond_t (t := decide (x1 ≥ 36028797018963968)) rfl dc3 ?_
      refine SW.seq ?_
      refine SW.region ?_
      refine SOps.val (v := .int .i64 0) rfl (wantN rfl) (fun _ => by kernel_rfl) ?_
      refine SOps.nil ?_
      obtain ⟨Hr, hr, h⟩ := h
      exact SW.ret (retQ.mk (.int .i64 0) (res1 rfl rfl) hr ⟨0, rfl, h⟩)
    · replace h := h.2 c3
      have dc3 : (decide (x1 ≥ 36028797018963968)) = false := (decide_eq_false c3)
      refine SW.cond_f (t := decide (x1 ≥ 36028797018963968)) rfl dc3 ?_
      refine SW.seq ?_
      refine SW.region ?_
      refine SOps.val (v := .int .i64 x1) rfl (wantN rfl) (fun _ => by kernel_rfl) ?_
      refine SOps.val (v := .bool (decide (x1 < 0))) rfl (wantN rfl) (fun _ => by kernel_rfl) ?_
      refine SOps.val (v := .bool (decide (x1 < 0))) rfl (wantN rfl) (fun _ => by kernel_rfl) ?_
      refine SOps.nil ?_
      by_cases c4 : x1 < 0
      · replace h := h.1 c4
        have dc4 : (decide (x1 < 0)) = true := (decide_eq_true c4)
        refine SW.cond_t (t := decide (x1 < 0)) rfl dc4 ?_
        refine SW.seq ?_
        refine SW.region ?_
        refine SOps.val (v := .int .i64 x1) rfl (wantN rfl) (fun _ => by kernel_rfl) ?_
        refine SOps.val (v := .int .i64 (w64 ((-2) * x1))) rfl (wantN rfl) (fun _ => by kernel_rfl) ?_
        refine SOps.val (v := .int .i64 (w64 ((w64 ((-2) * x1)) - 1))) rfl (wantN rfl) (fun _ => by kernel_rfl) ?_
        refine SOps.val (v := .int .i64 (w64 ((w64 ((-2) * x1)) - 1))) rfl (wantN rfl) (fun _ => by kernel_rfl) ?_
        refine SOps.nil ?_
        obtain ⟨Hr, hr, h⟩ := h
        exact SW.ret (retQ.mk (.int .i64 (w64 ((w64 ((-2) * x1)) - 1))) (res1 rfl rfl) hr ⟨w64 ((w64 ((-2) * x1)) - 1), rfl, h⟩)
      · replace h := h.2 c4
        have dc4 : (decide (x1 < 0)) = false := (decide_eq_false c4)
        refine SW.cond_f (t := decide (x1 < 0)) rfl dc4 ?_
        refine SW.skip ?_
        refine SW.seq ?_
        refine SW.region ?_
        refine SOps.val (v := .int .i64 x1) rfl (wantN rfl) (fun _ => by kernel_rfl) ?_
        refine SOps.val (v := .int .i64 (w64 (2 * x1))) rfl (wantN rfl) (fun _ => by kernel_rfl) ?_
        refine SOps.val (v := .int .i64 (w64 (2 * x1))) rfl (wantN rfl) (fun _ => by kernel_rfl) ?_
        refine SOps.nil ?_
        obtain ⟨Hr, hr, h⟩ := h
        exact SW.ret (retQ.mk (.int .i64 (w64 (2 * x1))) (res1 rfl rfl) hr ⟨w64 (2 * x1), rfl, h⟩)

/-! ### lading/octet.Back: function 38 -/
def octet_Back.wp (F : Nat) (x1 : Int) (H : SH) (K : Int → SH → Prop) : Prop :=
  (x1 < 0 →
    ∃ Hr, SH.le Hr H ∧ K 0 Hr
  ) ∧ (¬ (x1 < 0) →
    ((x1.tmod 2) = 1 →
      ∃ Hr, SH.le Hr H ∧ K (w64 ((w64 (0 - (w64 (x1.tdiv 2)))) - 1)) Hr
    ) ∧ (¬ ((x1.tmod 2) = 1) →
      ∃ Hr, SH.le Hr H ∧ K (w64 (x1.tdiv 2)) Hr
    )
  )
set_option maxHeartbeats 8000000 in
theorem octet_Back.sound (F : Nat) (x1 : Int) (H : SH) (K : Int → SH → Prop) (h : octet_Back.wp F x1 H K) : SCalls Try.prog 38 #[.int .i64 x1] H (fun v H' => ∃ (x5 : Int), v = .int .i64 x5 ∧ K x5 H') := by
  unfold octet_Back.wp at h
  refine SCalls.body Try.func38 rfl (Nat.le_of_ble_eq_true rfl) ?_
  refine SW.seq ?_
  refine SW.region ?_
  refine SOps.val (v := .int .i64 0) rfl (wantN rfl) (fun _ => by kernel_rfl) ?_
  refine SOps.nil ?_
  refine SW.seq ?_
  refine SW.block ?_
  refine SW.seq ?_
  refine SW.region ?_
  refine SOps.val (v := .int .i64 x1) rfl (wantN rfl) (fun _ => by kernel_rfl) ?_
  refine SOps.val (v := .bool (decide (x1 < 0))) rfl (wantN rfl) (fun _ => by kernel_rfl) ?_
  refine SOps.val (v := .bool (decide (x1 < 0))) rfl (wantN rfl) (fun _ => by kernel_rfl) ?_
  refine SOps.nil ?_
  by_cases c2 : x1 < 0
  · replace h := h.1 c2
    have dc2 : (decide (x1 < 0)) = true := (decide_eq_true c2)
    refine SW.cond_t (t := decide (x1 < 0)) rfl dc2 ?_
    refine SW.seq ?_
    refine SW.region ?_
    refine SOps.val (v := .int .i64 0) rfl (wantN rfl) (fun _ => by kernel_rfl) ?_
    refine SOps.nil ?_
    obtain ⟨Hr, hr, h⟩ := h
    exact SW.ret (retQ.mk (.int .i64 0) (res1 rfl rfl) hr ⟨0, rfl, h⟩)
  · replace h := h.2 c2
    have dc2 : (decide (x1 < 0)) = false := (decide_eq_false c2)
    refine SW.cond_f (t := decide (x1 < 0)) rfl dc2 ?_
    refine SW.seq ?_
    refine SW.region ?_
    refine SOps.val (v := .int .i64 x1) rfl (wantN rfl) (fun _ => by kernel_rfl) ?_
    refine SOps.val (v := .int .i64 (x1.tmod 2)) rfl (wantN rfl) (fun w => ev_rem rfl rfl rfl (by decide) w) ?_
    refine SOps.val (v := .bool ((x1.tmod 2) == 1)) rfl (wantN rfl) (fun _ => by kernel_rfl) ?_
    refine SOps.val (v := .bool ((x1.tmod 2) == 1)) rfl (wantN rfl) (fun _ => by kernel_rfl) ?_
    refine SOps.nil ?_
    by_cases c3 : (x1.tmod 2) = 1
    · replace h := h.1 c3
      have dc3 : ((x1.tmod 2) == 1) = true := (beq_iff_eq.mpr c3)
      refine SW.cond_t (t := ((x1.tmod 2) == 1)) rfl dc3 ?_
      refine SW.seq ?_
      refine SW.region ?_
      refine SOps.val (v := .int .i64 x1) rfl (wantN rfl) (fun _ => by kernel_rfl) ?_
      refine SOps.val (v := .int .i64 (w64 (x1.tdiv 2))) rfl (wantN rfl) (fun w => ev_quo rfl rfl rfl (by decide) w) ?_
      refine SOps.val (v := .int .i64 (w64 (0 - (w64 (x1.tdiv 2))))) rfl (wantN rfl) (fun _ => by kernel_rfl) ?_
      refine SOps.val (v := .int .i64 (w64 ((w64 (0 - (w64 (x1.tdiv 2)))) - 1))) rfl (wantN rfl) (fun _ => by kernel_rfl) ?_
      refine SOps.val (v := .int .i64 (w64 ((w64 (0 - (w64 (x1.tdiv 2)))) - 1))) rfl (wantN rfl) (fun _ => by kernel_rfl) ?_
      refine SOps.nil ?_
      obtain ⟨Hr, hr, h⟩ := h
      exact SW.ret (retQ.mk (.int .i64 (w64 ((w64 (0 - (w64 (x1.tdiv 2)))) - 1))) (res1 rfl rfl) hr ⟨w64 ((w64 (0 - (w64 (x1.tdiv 2)))) - 1), rfl, h⟩)
    · replace h := h.2 c3
      have dc3 : ((x1.tmod 2) == 1) = false := (beq_eq_false_iff_ne.mpr c3)
      refine SW.cond_f (t := ((x1.tmod 2) == 1)) rfl dc3 ?_
      refine SW.skip ?_
      refine SW.seq ?_
      refine SW.region ?_
      refine SOps.val (v := .int .i64 x1) rfl (wantN rfl) (fun _ => by kernel_rfl) ?_
      refine SOps.val (v := .int .i64 (w64 (x1.tdiv 2))) rfl (wantN rfl) (fun w => ev_quo rfl rfl rfl (by decide) w) ?_
      refine SOps.val (v := .int .i64 (w64 (x1.tdiv 2))) rfl (wantN rfl) (fun _ => by kernel_rfl) ?_
      refine SOps.nil ?_
      obtain ⟨Hr, hr, h⟩ := h
      exact SW.ret (retQ.mk (.int .i64 (w64 (x1.tdiv 2))) (res1 rfl rfl) hr ⟨w64 (x1.tdiv 2), rfl, h⟩)

/-! ### lading/octet.PutTurned: function 33 -/
def octet_PutTurned.wp (F : Nat) (x1 : Int) (H : SH) (K : ByteArray → Option EV → SH → Prop) : Prop :=
  (x1 < (-36028797018963968) →
    ∃ Hr, SH.le Hr H ∧ K ByteArray.empty (some (EV.no 2)) Hr
  ) ∧ (¬ (x1 < (-36028797018963968)) →
    (x1 ≥ 36028797018963968 →
      ∃ Hr, SH.le Hr H ∧ K ByteArray.empty (some (EV.no 2)) Hr
    ) ∧ (¬ (x1 ≥ 36028797018963968) →
      octet_Turn.wp F x1 H (fun x4 H5 =>
        octet_short.wp F x4 H5 (fun s6 H7 =>
          ∃ Hr, SH.le Hr H7 ∧ K s6 none Hr
        )
      )
    )
  )
set_option maxHeartbeats 8000000 in
theorem octet_PutTurned.sound (F : Nat) (x1 : Int) (H : SH) (K : ByteArray → Option EV → SH → Prop) (h : octet_PutTurned.wp F x1 H K) : SCalls Try.prog 33 #[.int .i64 x1] H (fun v H' => ∃ (s10 : ByteArray) (e11 : Option EV), v = .tuple #[.string s10, errV e11] ∧ K s10 e11 H') := by
  unfold octet_PutTurned.wp at h
  refine SCalls.body Try.func33 rfl (Nat.le_of_ble_eq_true rfl) ?_
  refine SW.seq ?_
  refine SW.region ?_
  refine SOps.val (v := .string ByteArray.empty) rfl (wantN rfl) (fun _ => by kernel_rfl) ?_
  refine SOps.val (v := errV none) rfl (wantN rfl) (fun _ => by kernel_rfl) ?_
  refine SOps.nil ?_
  refine SW.seq ?_
  refine SW.seq ?_
  refine SW.region ?_
  refine SOps.val (v := .int .i64 x1) rfl (wantN rfl) (fun _ => by kernel_rfl) ?_
  refine SOps.val (v := .bool (decide (x1 < (-36028797018963968)))) rfl (wantN rfl) (fun _ => by kernel_rfl) ?_
  refine SOps.val (v := .bool (decide (x1 < (-36028797018963968)))) rfl (wantN rfl) (fun _ => by kernel_rfl) ?_
  by_cases c2 : x1 < (-36028797018963968)
  · replace h := h.1 c2
    have dc2 : (decide (x1 < (-36028797018963968))) = true := (decide_eq_true c2)
    refine SOps.off rfl (wantX (c := decide (x1 < (-36028797018963968))) rfl rfl rfl dc2) ?_
    refine SOps.off rfl (wantX (c := decide (x1 < (-36028797018963968))) rfl rfl rfl dc2) ?_
    refine SOps.val (v := .bool true) rfl (wantN rfl) (fun w => ev_pickT (v := .bool true) rfl (t := decide (x1 < (-36028797018963968))) rfl dc2 rfl w) ?_
    refine SOps.nil ?_
    refine SW.cond_t (t := true) rfl rfl ?_
    refine SW.seq ?_
    refine SW.region ?_
    refine SOps.val (v := errV (some (EV.no 2))) rfl (wantN rfl) (fun _ => by kernel_rfl) ?_
    refine SOps.val (v := .string ByteArray.empty) rfl (wantN rfl) (fun _ => by kernel_rfl) ?_
    refine SOps.val (v := errV (some (EV.no 2))) rfl (wantN rfl) (fun _ => by kernel_rfl) ?_
    refine SOps.nil ?_
    obtain ⟨Hr, hr, h⟩ := h
    exact SW.ret (retQ.mk (.tuple #[.string ByteArray.empty, errV (some (EV.no 2))]) (res2 rfl rfl rfl) hr ⟨ByteArray.empty, some (EV.no 2), rfl, h⟩)
  · replace h := h.2 c2
    have dc2 : (decide (x1 < (-36028797018963968))) = false := (decide_eq_false c2)
    refine SOps.val (v := .int .i64 x1) rfl (wantY (c := decide (x1 < (-36028797018963968))) rfl rfl rfl dc2) (fun _ => by kernel_rfl) ?_
    refine SOps.val (v := .bool (decide (x1 ≥ 36028797018963968))) rfl (wantY (c := decide (x1 < (-36028797018963968))) rfl rfl rfl dc2) (fun _ => by kernel_rfl) ?_
    refine SOps.val (v := .bool (decide (x1 ≥ 36028797018963968))) rfl (wantN rfl) (fun w => ev_pickF (v := .bool (decide (x1 ≥ 36028797018963968))) rfl (t := decide (x1 < (-36028797018963968))) rfl dc2 rfl w) ?_
    refine SOps.nil ?_
    by_cases c3 : x1 ≥ 36028797018963968
    · replace h := h.1 c3
      have dc3 : (decide (x1 ≥ 36028797018963968)) = true := (decide_eq_true c3)
      refine SW.cond_t (t := decide (x1 ≥ 36028797018963968)) rfl dc3 ?_
      refine SW.seq ?_
      refine SW.region ?_
      refine SOps.val (v := errV (some (EV.no 2))) rfl (wantN rfl) (fun _ => by kernel_rfl) ?_
      refine SOps.val (v := .string ByteArray.empty) rfl (wantN rfl) (fun _ => by kernel_rfl) ?_
      refine SOps.val (v := errV (some (EV.no 2))) rfl (wantN rfl) (fun _ => by kernel_rfl) ?_
      refine SOps.nil ?_
      obtain ⟨Hr, hr, h⟩ := h
      exact SW.ret (retQ.mk (.tuple #[.string ByteArray.empty, errV (some (EV.no 2))]) (res2 rfl rfl rfl) hr ⟨ByteArray.empty, some (EV.no 2), rfl, h⟩)
    · replace h := h.2 c3
      have dc3 : (decide (x1 ≥ 36028797018963968)) = false := (decide_eq_false c3)
      refine SW.cond_f (t := decide (x1 ≥ 36028797018963968)) rfl dc3 ?_
      refine SW.skip ?_
      refine SW.seq ?_
      refine SW.region ?_
      refine SOps.val (v := .int .i64 x1) rfl (wantN rfl) (fun _ => by kernel_rfl) ?_
      refine SOps.enter rfl (wantN rfl) (fun _ => by kernel_rfl) (octet_Turn.sound F x1 H _ h) ?_
      clear h
      rintro v H5 ⟨x4, rfl, h⟩
      refine SOps.enter rfl (wantN rfl) (fun _ => by kernel_rfl) (octet_short.sound F x4 H5 _ h) ?_
      clear h
      rintro v H7 ⟨s6, rfl, h⟩
      refine SOps.val (v := .string s6) rfl (wantN rfl) (fun _ => by kernel_rfl) ?_
      refine SOps.val (v := errV none) rfl (wantN rfl) (fun _ => by kernel_rfl) ?_
      refine SOps.nil ?_
      obtain ⟨Hr, hr, h⟩ := h
      exact SW.ret (retQ.mk (.tuple #[.string s6, errV none]) (res2 rfl rfl rfl) hr ⟨s6, none, rfl, h⟩)

/-! ### lading/octet.PutFixed: function 27 -/
def octet_PutFixed.r1 (F : Nat) (K : ByteArray → Option EV → SH → Prop) (R1 : Int → Sl → Int → Int → SH → Prop) (x12 : Int) (l13 : Sl) (x14 : Int) (x15 : Int) (H : SH) : Prop :=
  (x15 < x14 →
    0 ≤ (w64 (8 * x15)) ∧
    ∃ p18, l13.a = some p18 ∧ 0 ≤ x15 ∧ x15 < (l13.len : Int) ∧
    SH.wrs H (p18.1, (p18.2 + x15.toNat * 1)) 1 ∧
    R1 x12 l13 x14 (w64 (x15 + 1)) (SH.setl H (p18.1, (p18.2 + x15.toNat * 1)) [.int .u8 (IntKind.u8.wrap (ishr .i64 x12 (w64 (8 * x15))))])
  ) ∧ (¬ (x15 < x14) →
    ∃ bs23 : List UInt8,
    l13.len = bs23.length ∧
    SH.row H l13.a (byteCells bs23) ∧
    ∃ Hr, SH.le Hr H ∧ K (⟨bs23.toArray⟩ : ByteArray) none Hr
  )
def octet_PutFixed.l1 (F : Nat) (K : ByteArray → Option EV → SH → Prop) : Nat → Int → Sl → Int → Int → SH → Prop
  | 0, _, _, _, _, _ => False
  | k + 1, x12, l13, x14, x15, H => octet_PutFixed.r1 F K (octet_PutFixed.l1 F K k) x12 l13 x14 x15 H
def octet_PutFixed.wp (F : Nat) (x1 : Int) (x2 : Int) (H : SH) (K : ByteArray → Option EV → SH → Prop) : Prop :=
  (x1 < 1 →
    ∃ Hr, SH.le Hr H ∧ K ByteArray.empty (some (EV.no 1)) Hr
  ) ∧ (¬ (x1 < 1) →
    (x1 > 7 →
      ∃ Hr, SH.le Hr H ∧ K ByteArray.empty (some (EV.no 1)) Hr
    ) ∧ (¬ (x1 > 7) →
      (x2 < 0 →
        ∃ Hr, SH.le Hr H ∧ K ByteArray.empty (some (EV.no 2)) Hr
      ) ∧ (¬ (x2 < 0) →
        0 ≤ (w64 (8 * x1)) ∧
        ((ishr .i64 x2 (w64 (8 * x1))) ≠ 0 →
          ∃ Hr, SH.le Hr H ∧ K ByteArray.empty (some (EV.no 2)) Hr
        ) ∧ (¬ ((ishr .i64 x2 (w64 (8 * x1))) ≠ 0) →
          0 ≤ x1 ∧ x1.toNat * 1 ≤ 281474976710656 ∧
          ∀ b8, H b8 = none →
          octet_PutFixed.l1 F K F x2 (⟨some (b8, 0), x1.toNat, x1.toNat⟩ : Sl) ((⟨some (b8, 0), x1.toNat, x1.toNat⟩ : Sl).len : Int) 0 (SH.upd H b8 ⟨(Builtin.zeroCells (Value.cells (.int .u8 0 : Value)) x1.toNat).toList, 5, false, x1.toNat * 1⟩)
        )
      )
    )
  )
set_option maxHeartbeats 8000000 in
theorem octet_PutFixed.sound (F : Nat) (x1 : Int) (x2 : Int) (H : SH) (K : ByteArray → Option EV → SH → Prop) (h : octet_PutFixed.wp F x1 x2 H K) : SCalls Try.prog 27 #[.int .i64 x1, .int .i64 x2] H (fun v H' => ∃ (s32 : ByteArray) (e33 : Option EV), v = .tuple #[.string s32, errV e33] ∧ K s32 e33 H') := by
  unfold octet_PutFixed.wp at h
  refine SCalls.body Try.func27 rfl (Nat.le_of_ble_eq_true rfl) ?_
  refine SW.seq ?_
  refine SW.region ?_
  refine SOps.val (v := .string ByteArray.empty) rfl (wantN rfl) (fun _ => by kernel_rfl) ?_
  refine SOps.val (v := errV none) rfl (wantN rfl) (fun _ => by kernel_rfl) ?_
  refine SOps.nil ?_
  refine SW.seq ?_
  refine SW.block ?_
  refine SW.seq ?_
  refine SW.region ?_
  refine SOps.val (v := .int .i64 x1) rfl (wantN rfl) (fun _ => by kernel_rfl) ?_
  refine SOps.val (v := .bool (decide (x1 < 1))) rfl (wantN rfl) (fun _ => by kernel_rfl) ?_
  refine SOps.val (v := .bool (decide (x1 < 1))) rfl (wantN rfl) (fun _ => by kernel_rfl) ?_
  by_cases c3 : x1 < 1
  · replace h := h.1 c3
    have dc3 : (decide (x1 < 1)) = true := (decide_eq_true c3)
    refine SOps.off rfl (wantX (c := decide (x1 < 1)) rfl rfl rfl dc3) ?_
    refine SOps.off rfl (wantX (c := decide (x1 < 1)) rfl rfl rfl dc3) ?_
    refine SOps.val (v := .bool true) rfl (wantN rfl) (fun w => ev_pickT (v := .bool true) rfl (t := decide (x1 < 1)) rfl dc3 rfl w) ?_
    refine SOps.val (v := .bool true) rfl (wantN rfl) (fun _ => by kernel_rfl) ?_
    refine SOps.nil ?_
    refine SW.cond_t (t := true) rfl rfl ?_
    refine SW.seq ?_
    refine SW.region ?_
    refine SOps.val (v := errV (some (EV.no 1))) rfl (wantN rfl) (fun _ => by kernel_rfl) ?_
    refine SOps.val (v := .string ByteArray.empty) rfl (wantN rfl) (fun _ => by kernel_rfl) ?_
    refine SOps.val (v := errV (some (EV.no 1))) rfl (wantN rfl) (fun _ => by kernel_rfl) ?_
    refine SOps.nil ?_
    obtain ⟨Hr, hr, h⟩ := h
    exact SW.ret (retQ.mk (.tuple #[.string ByteArray.empty, errV (some (EV.no 1))]) (res2 rfl rfl rfl) hr ⟨ByteArray.empty, some (EV.no 1), rfl, h⟩)
  · replace h := h.2 c3
    have dc3 : (decide (x1 < 1)) = false := (decide_eq_false c3)
    refine SOps.val (v := .int .i64 x1) rfl (wantY (c := decide (x1 < 1)) rfl rfl rfl dc3) (fun _ => by kernel_rfl) ?_
    refine SOps.val (v := .bool (decide (x1 > 7))) rfl (wantY (c := decide (x1 < 1)) rfl rfl rfl dc3) (fun _ => by kernel_rfl) ?_
    refine SOps.val (v := .bool (decide (x1 > 7))) rfl (wantN rfl) (fun w => ev_pickF (v := .bool (decide (x1 > 7))) rfl (t := decide (x1 < 1)) rfl dc3 rfl w) ?_
    refine SOps.val (v := .bool (decide (x1 > 7))) rfl (wantN rfl) (fun _ => by kernel_rfl) ?_
    refine SOps.nil ?_
    by_cases c4 : x1 > 7
    · replace h := h.1 c4
      have dc4 : (decide (x1 > 7)) = true := (decide_eq_true c4)
      refine SW.cond_t (t := decide (x1 > 7)) rfl dc4 ?_
      refine SW.seq ?_
      refine SW.region ?_
      refine SOps.val (v := errV (some (EV.no 1))) rfl (wantN rfl) (fun _ => by kernel_rfl) ?_
      refine SOps.val (v := .string ByteArray.empty) rfl (wantN rfl) (fun _ => by kernel_rfl) ?_
      refine SOps.val (v := errV (some (EV.no 1))) rfl (wantN rfl) (fun _ => by kernel_rfl) ?_
      refine SOps.nil ?_
      obtain ⟨Hr, hr, h⟩ := h
      exact SW.ret (retQ.mk (.tuple #[.string ByteArray.empty, errV (some (EV.no 1))]) (res2 rfl rfl rfl) hr ⟨ByteArray.empty, some (EV.no 1), rfl, h⟩)
    · replace h := h.2 c4
      have dc4 : (decide (x1 > 7)) = false := (decide_eq_false c4)
      refine SW.cond_f (t := decide (x1 > 7)) rfl dc4 ?_
      refine SW.seq ?_
      refine SW.region ?_
      refine SOps.val (v := .int .i64 x2) rfl (wantN rfl) (fun _ => by kernel_rfl) ?_
      refine SOps.val (v := .bool (decide (x2 < 0))) rfl (wantN rfl) (fun _ => by kernel_rfl) ?_
      refine SOps.val (v := .bool (decide (x2 < 0))) rfl (wantN rfl) (fun _ => by kernel_rfl) ?_
      by_cases c5 : x2 < 0
      · replace h := h.1 c5
        have dc5 : (decide (x2 < 0)) = true := (decide_eq_true c5)
        refine SOps.off rfl (wantX (c := decide (x2 < 0)) rfl rfl rfl dc5) ?_
        refine SOps.off rfl (wantX (c := decide (x2 < 0)) rfl rfl rfl dc5) ?_
        refine SOps.off rfl (wantX (c := decide (x2 < 0)) rfl rfl rfl dc5) ?_
        refine SOps.off rfl (wantX (c := decide (x2 < 0)) rfl rfl rfl dc5) ?_
        refine SOps.off rfl (wantX (c := decide (x2 < 0)) rfl rfl rfl dc5) ?_
        refine SOps.val (v := .bool true) rfl (wantN rfl) (fun w => ev_pickT (v := .bool true) rfl (t := decide (x2 < 0)) rfl dc5 rfl w) ?_
        refine SOps.val (v := .bool true) rfl (wantN rfl) (fun _ => by kernel_rfl) ?_
        refine SOps.nil ?_
        refine SW.cond_t (t := true) rfl rfl ?_
        refine SW.seq ?_
        refine SW.region ?_
        refine SOps.val (v := errV (some (EV.no 2))) rfl (wantN rfl) (fun _ => by kernel_rfl) ?_
        refine SOps.val (v := .string ByteArray.empty) rfl (wantN rfl) (fun _ => by kernel_rfl) ?_
        refine SOps.val (v := errV (some (EV.no 2))) rfl (wantN rfl) (fun _ => by kernel_rfl) ?_
        refine SOps.nil ?_
        obtain ⟨Hr, hr, h⟩ := h
        exact SW.ret (retQ.mk (.tuple #[.string ByteArray.empty, errV (some (EV.no 2))]) (res2 rfl rfl rfl) hr ⟨ByteArray.empty, some (EV.no 2), rfl, h⟩)
      · replace h := h.2 c5
        have dc5 : (decide (x2 < 0)) = false := (decide_eq_false c5)
        refine SOps.val (v := .int .i64 x2) rfl (wantY (c := decide (x2 < 0)) rfl rfl rfl dc5) (fun _ => by kernel_rfl) ?_
        refine SOps.val (v := .int .i64 x1) rfl (wantY (c := decide (x2 < 0)) rfl rfl rfl dc5) (fun _ => by kernel_rfl) ?_
        refine SOps.val (v := .int .i64 (w64 (8 * x1))) rfl (wantY (c := decide (x2 < 0)) rfl rfl rfl dc5) (fun _ => by kernel_rfl) ?_
        obtain ⟨c6, h⟩ := h
        refine SOps.val (v := .int .i64 (ishr .i64 x2 (w64 (8 * x1)))) rfl (wantY (c := decide (x2 < 0)) rfl rfl rfl dc5) (fun w => ev_shr rfl rfl rfl c6 w) ?_
        refine SOps.val (v := .bool ((ishr .i64 x2 (w64 (8 * x1))) != 0)) rfl (wantY (c := decide (x2 < 0)) rfl rfl rfl dc5) (fun _ => by kernel_rfl) ?_
        refine SOps.val (v := .bool ((ishr .i64 x2 (w64 (8 * x1))) != 0)) rfl (wantN rfl) (fun w => ev_pickF (v := .bool ((ishr .i64 x2 (w64 (8 * x1))) != 0)) rfl (t := decide (x2 < 0)) rfl dc5 rfl w) ?_
        refine SOps.val (v := .bool ((ishr .i64 x2 (w64 (8 * x1))) != 0)) rfl (wantN rfl) (fun _ => by kernel_rfl) ?_
        refine SOps.nil ?_
        by_cases c7 : (ishr .i64 x2 (w64 (8 * x1))) ≠ 0
        · replace h := h.1 c7
          have dc7 : ((ishr .i64 x2 (w64 (8 * x1))) != 0) = true := (bne_iff_ne.mpr c7)
          refine SW.cond_t (t := ((ishr .i64 x2 (w64 (8 * x1))) != 0)) rfl dc7 ?_
          refine SW.seq ?_
          refine SW.region ?_
          refine SOps.val (v := errV (some (EV.no 2))) rfl (wantN rfl) (fun _ => by kernel_rfl) ?_
          refine SOps.val (v := .string ByteArray.empty) rfl (wantN rfl) (fun _ => by kernel_rfl) ?_
          refine SOps.val (v := errV (some (EV.no 2))) rfl (wantN rfl) (fun _ => by kernel_rfl) ?_
          refine SOps.nil ?_
          obtain ⟨Hr, hr, h⟩ := h
          exact SW.ret (retQ.mk (.tuple #[.string ByteArray.empty, errV (some (EV.no 2))]) (res2 rfl rfl rfl) hr ⟨ByteArray.empty, some (EV.no 2), rfl, h⟩)
        · replace h := h.2 c7
          have dc7 : ((ishr .i64 x2 (w64 (8 * x1))) != 0) = false := (by simpa using c7)
          refine SW.cond_f (t := ((ishr .i64 x2 (w64 (8 * x1))) != 0)) rfl dc7 ?_
          refine SW.skip ?_
          refine SW.seq ?_
          refine SW.region ?_
          refine SOps.val (v := .int .i64 x1) rfl (wantN rfl) (fun _ => by kernel_rfl) ?_
          obtain ⟨c10, c11, h⟩ := h
          refine SOps.make (z := .int .u8 0) (size := 1) (bytes := 1) rfl rfl (wantN rfl) Try.underlying32 (by kernel_rfl) rfl (by decide) (by decide) rfl rfl c10 c11 (fun b8 c9 => ?_)
          replace h := h b8 c9
          refine SOps.val (v := sv (⟨some (b8, 0), x1.toNat, x1.toNat⟩ : Sl)) rfl (wantN rfl) (fun _ => by kernel_rfl) ?_
          refine SOps.nil ?_
          refine SW.seq ?_
          refine SW.seq ?_
          refine SW.region ?_
          refine SOps.val (v := sv (⟨some (b8, 0), x1.toNat, x1.toNat⟩ : Sl)) rfl (wantN rfl) (fun _ => by kernel_rfl) ?_
          refine SOps.val (v := .int .i64 ((⟨some (b8, 0), x1.toNat, x1.toNat⟩ : Sl).len : Int)) rfl (wantN rfl) (fun _ => by kernel_rfl) ?_
          refine SOps.val (v := .int .i64 0) rfl (wantN rfl) (fun _ => by kernel_rfl) ?_
          refine SOps.nil ?_
          refine SW.block ?_
          refine SW.loop (fun k1 fr H => ∃ (g : Fr) (x12 : Int) (l13 : Sl) (x14 : Int) (x15 : Int), fr = g.upds [(1, (.int .i64 x12 : Value)), (6, sv l13), (30, (.int .i64 x14 : Value)), (31, (.int .i64 x15 : Value))] ∧ octet_PutFixed.l1 F K k1 x12 l13 x14 x15 H) F ⟨_, x2, (⟨some (b8, 0), x1.toNat, x1.toNat⟩ : Sl), ((⟨some (b8, 0), x1.toNat, x1.toNat⟩ : Sl).len : Int), 0, (Fr.upds_self _ _ ⟨rfl, rfl, rfl, rfl, trivial⟩), h⟩ ?_
          clear h
          rintro k1 fr H ⟨g, x12, l13, x14, x15, rfl, h⟩
          cases k1 with
          | zero => exact h.elim
          | succ k1 =>
            replace h : octet_PutFixed.r1 F K (octet_PutFixed.l1 F K k1) x12 l13 x14 x15 H := h
            unfold octet_PutFixed.r1 at h
            refine SW.seq ?_
            refine SW.region ?_
            refine SOps.val (v := .bool (decide (x15 < x14))) rfl (wantN rfl) (fun _ => by kernel_rfl) ?_
            refine SOps.nil ?_
            refine SW.seq ?_
            by_cases c16 : x15 < x14
            · replace h := h.1 c16
              have dc16 : (decide (x15 < x14)) = true := (decide_eq_true c16)
              refine SW.cond_t (t := decide (x15 < x14)) rfl dc16 ?_
              refine SW.skip ?_
              refine SW.seq ?_
              refine SW.block ?_
              refine SW.seq ?_
              refine SW.region ?_
              refine SOps.val (v := .int .i64 x15) rfl (wantN rfl) (fun _ => by kernel_rfl) ?_
              refine SOps.val (v := .int .i64 x15) rfl (wantN rfl) (fun _ => by kernel_rfl) ?_
              refine SOps.nil ?_
              refine SW.region ?_
              refine SOps.val (v := sv l13) rfl (wantN rfl) (fun _ => by kernel_rfl) ?_
              refine SOps.val (v := .int .i64 x15) rfl (wantN rfl) (fun _ => by kernel_rfl) ?_
              refine SOps.val (v := .int .i64 x12) rfl (wantN rfl) (fun _ => by kernel_rfl) ?_
              refine SOps.val (v := .int .i64 x15) rfl (wantN rfl) (fun _ => by kernel_rfl) ?_
              refine SOps.val (v := .int .i64 (w64 (8 * x15))) rfl (wantN rfl) (fun _ => by kernel_rfl) ?_
              obtain ⟨c17, h⟩ := h
              refine SOps.val (v := .int .i64 (ishr .i64 x12 (w64 (8 * x15)))) rfl (wantN rfl) (fun w => ev_shr rfl rfl rfl c17 w) ?_
              refine SOps.val (v := .int .u8 (IntKind.u8.wrap (ishr .i64 x12 (w64 (8 * x15))))) rfl (wantN rfl) (fun _ => by kernel_rfl) ?_
              obtain ⟨p18, c19, c20, c21, h⟩ := h
              refine SOps.val (v := pv (some (p18.1, (p18.2 + x15.toNat * 1)))) rfl (wantN rfl) (fun w => ev_iaddr rfl Try.underlying32 (size := 1) (by kernel_rfl) rfl rfl c19 c20 c21 w) ?_
              obtain ⟨c22, h⟩ := h
              refine SOps.storeL (p := (p18.1, (p18.2 + x15.toNat * 1))) (v := .int .u8 (IntKind.u8.wrap (ishr .i64 x12 (w64 (8 * x15))))) (cs := [.int .u8 (IntKind.u8.wrap (ishr .i64 x12 (w64 (8 * x15))))]) rfl rfl (wantN rfl) (size := 1) (by kernel_rfl) rfl rfl rfl rfl (by simp [Value.oneCell', errV_one, pv, sv]) c22 ?_
              refine SOps.nil ?_
              refine SW.region ?_
              refine SOps.val (v := .int .i64 (w64 (x15 + 1))) rfl (wantN rfl) (fun _ => by kernel_rfl) ?_
              refine SOps.val (v := .int .i64 (w64 (x15 + 1))) rfl (wantN rfl) (fun _ => by kernel_rfl) ?_
              refine SOps.nil ?_
              exact ⟨k1, Nat.lt_succ_self k1, _, x12, l13, x14, w64 (x15 + 1), (Fr.upds_self _ _ ⟨rfl, rfl, rfl, rfl, trivial⟩), h⟩
            · replace h := h.2 c16
              have dc16 : (decide (x15 < x14)) = false := (decide_eq_false c16)
              refine SW.cond_f (t := decide (x15 < x14)) rfl dc16 ?_
              refine SW.exit ?_
              refine SW.seq ?_
              refine SW.region ?_
              refine SOps.val (v := sv l13) rfl (wantN rfl) (fun _ => by kernel_rfl) ?_
              obtain ⟨bs23, c24, c25, h⟩ := h
              refine SOps.rd (v := .string (⟨bs23.toArray⟩ : ByteArray)) rfl (wantN rfl) (fun w hw => ev_str rfl Try.underlying32 Try.underlying5 Try.underlying9 rfl c24 c25 w hw) ?_
              refine SOps.val (v := .string (⟨bs23.toArray⟩ : ByteArray)) rfl (wantN rfl) (fun _ => by kernel_rfl) ?_
              refine SOps.val (v := errV none) rfl (wantN rfl) (fun _ => by kernel_rfl) ?_
              refine SOps.nil ?_
              obtain ⟨Hr, hr, h⟩ := h
              exact SW.ret (retQ.mk (.tuple #[.string (⟨bs23.toArray⟩ : ByteArray), errV none]) (res2 rfl rfl rfl) hr ⟨(⟨bs23.toArray⟩ : ByteArray), none, rfl, h⟩)

/-! ### lading/octet.Fixed: function 36 -/
def octet_Fixed.r1 (F : Nat) (K : Int → Int → Option EV → SH → Prop) (R1 : ByteArray → Int → Int → Int → Int → Int → SH → Prop) (s16 : ByteArray) (x17 : Int) (x18 : Int) (x19 : Int) (x20 : Int) (x21 : Int) (H : SH) : Prop :=
  (x21 < x20 →
    0 ≤ (w64 (x17 + x21)) ∧
    (w64 (x17 + x21)) < (s16.size : Int) ∧
    0 ≤ (w64 (8 * x21)) ∧
    R1 s16 x17 x18 (ibits .or .i64 x19 (ishl .i64 (w64 (bt s16 (w64 (x17 + x21)))) (w64 (8 * x21)))) x20 (w64 (x21 + 1)) H
  ) ∧ (¬ (x21 < x20) →
    ∃ Hr, SH.le Hr H ∧ K x19 (w64 (x17 + x18)) none Hr
  )
def octet_Fixed.l1 (F : Nat) (K : Int → Int → Option EV → SH → Prop) : Nat → ByteArray → Int → Int → Int → Int → Int → SH → Prop
  | 0, _, _, _, _, _, _, _ => False
  | k + 1, s16, x17, x18, x19, x20, x21, H => octet_Fixed.r1 F K (octet_Fixed.l1 F K k) s16 x17 x18 x19 x20 x21 H
def octet_Fixed.wp (F : Nat) (s1 : ByteArray) (x2 : Int) (x3 : Int) (H : SH) (K : Int → Int → Option EV → SH → Prop) : Prop :=
  octet_there.wp F s1 x2 H (fun q4 H5 =>
    (q4 = true →
      (x3 < 1 →
        octet_fault.wp F x2 (some (EV.no 1)) H5 (fun e8 H9 =>
          ∃ Hr, SH.le Hr H9 ∧ K 0 x2 e8 Hr
        )
      ) ∧ (¬ (x3 < 1) →
        (x3 > 7 →
          octet_fault.wp F x2 (some (EV.no 1)) H5 (fun e11 H12 =>
            ∃ Hr, SH.le Hr H12 ∧ K 0 x2 e11 Hr
          )
        ) ∧ (¬ (x3 > 7) →
          ((w64 ((s1.size : Int) - x2)) < x3 →
            octet_fault.wp F (s1.size : Int) (some (EV.no 3)) H5 (fun e14 H15 =>
              ∃ Hr, SH.le Hr H15 ∧ K 0 x2 e14 Hr
            )
          ) ∧ (¬ ((w64 ((s1.size : Int) - x2)) < x3) →
            octet_Fixed.l1 F K F s1 x2 x3 0 x3 0 H5
          )
        )
      )
    ) ∧ (¬ (q4 = true) →
      octet_fault.wp F x2 (some (EV.no 1)) H5 (fun e32 H33 =>
        ∃ Hr, SH.le Hr H33 ∧ K 0 x2 e32 Hr
      )
    )
  )
set_option maxHeartbeats 8000000 in
theorem octet_Fixed.sound (F : Nat) (s1 : ByteArray) (x2 : Int) (x3 : Int) (H : SH) (K : Int → Int → Option EV → SH → Prop) (h : octet_Fixed.wp F s1 x2 x3 H K) : SCalls Try.prog 36 #[.string s1, .int .i64 x2, .int .i64 x3] H (fun v H' => ∃ (x37 : Int) (x38 : Int) (e39 : Option EV), v = .tuple #[.int .i64 x37, .int .i64 x38, errV e39] ∧ K x37 x38 e39 H') := by
  unfold octet_Fixed.wp at h
  refine SCalls.body Try.func36 rfl (Nat.le_of_ble_eq_true rfl) ?_
  refine SW.seq ?_
  refine SW.region ?_
  refine SOps.val (v := .int .i64 0) rfl (wantN rfl) (fun _ => by kernel_rfl) ?_
  refine SOps.val (v := .int .i64 0) rfl (wantN rfl) (fun _ => by kernel_rfl) ?_
  refine SOps.val (v := errV none) rfl (wantN rfl) (fun _ => by kernel_rfl) ?_
  refine SOps.nil ?_
  refine SW.seq ?_
  refine SW.block ?_
  refine SW.seq ?_
  refine SW.region ?_
  refine SOps.val (v := .string s1) rfl (wantN rfl) (fun _ => by kernel_rfl) ?_
  refine SOps.val (v := .int .i64 x2) rfl (wantN rfl) (fun _ => by kernel_rfl) ?_
  refine SOps.enter rfl (wantN rfl) (fun _ => by kernel_rfl) (octet_there.sound F s1 x2 H _ h) ?_
  clear h
  rintro v H5 ⟨q4, rfl, h⟩
  refine SOps.val (v := .bool (!q4)) rfl (wantN rfl) (fun _ => by kernel_rfl) ?_
  refine SOps.val (v := .bool (!q4)) rfl (wantN rfl) (fun _ => by kernel_rfl) ?_
  by_cases c6 : q4 = true
  · replace h := h.1 c6
    have dc6 : q4 = true := c6
    refine SOps.val (v := .int .i64 x3) rfl (wantY (c := !q4) rfl rfl rfl (not_t dc6)) (fun _ => by kernel_rfl) ?_
    refine SOps.val (v := .bool (decide (x3 < 1))) rfl (wantY (c := !q4) rfl rfl rfl (not_t dc6)) (fun _ => by kernel_rfl) ?_
    refine SOps.val (v := .bool (decide (x3 < 1))) rfl (wantN rfl) (fun w => ev_pickF (v := .bool (decide (x3 < 1))) rfl (t := !q4) rfl (not_t dc6) rfl w) ?_
    refine SOps.val (v := .bool (decide (x3 < 1))) rfl (wantN rfl) (fun _ => by kernel_rfl) ?_
    by_cases c7 : x3 < 1
    · replace h := h.1 c7
      have dc7 : (decide (x3 < 1)) = true := (decide_eq_true c7)
      refine SOps.off rfl (wantX (c := decide (x3 < 1)) rfl rfl rfl dc7) ?_
      refine SOps.off rfl (wantX (c := decide (x3 < 1)) rfl rfl rfl dc7) ?_
      refine SOps.val (v := .bool true) rfl (wantN rfl) (fun w => ev_pickT (v := .bool true) rfl (t := decide (x3 < 1)) rfl dc7 rfl w) ?_
      refine SOps.val (v := .bool true) rfl (wantN rfl) (fun _ => by kernel_rfl) ?_
      refine SOps.nil ?_
      refine SW.cond_t (t := true) rfl rfl ?_
      refine SW.seq ?_
      refine SW.region ?_
      refine SOps.val (v := .int .i64 x2) rfl (wantN rfl) (fun _ => by kernel_rfl) ?_
      refine SOps.val (v := .int .i64 x2) rfl (wantN rfl) (fun _ => by kernel_rfl) ?_
      refine SOps.val (v := errV (some (EV.no 1))) rfl (wantN rfl) (fun _ => by kernel_rfl) ?_
      refine SOps.enter rfl (wantN rfl) (fun _ => by kernel_rfl) (octet_fault.sound F x2 (some (EV.no 1)) H5 _ h) ?_
      clear h
      rintro v H9 ⟨e8, rfl, h⟩
      refine SOps.val (v := .int .i64 0) rfl (wantN rfl) (fun _ => by kernel_rfl) ?_
      refine SOps.val (v := .int .i64 x2) rfl (wantN rfl) (fun _ => by kernel_rfl) ?_
      refine SOps.val (v := errV e8) rfl (wantN rfl) (fun _ => by kernel_rfl) ?_
      refine SOps.nil ?_
      obtain ⟨Hr, hr, h⟩ := h
      exact SW.ret (retQ.mk (.tuple #[.int .i64 0, .int .i64 x2, errV e8]) (res3 rfl rfl rfl rfl) hr ⟨0, x2, e8, rfl, h⟩)
    · replace h := h.2 c7
      have dc7 : (decide (x3 < 1)) = false := (decide_eq_false c7)
      refine SOps.val (v := .int .i64 x3) rfl (wantY (c := decide (x3 < 1)) rfl rfl rfl dc7) (fun _ => by kernel_rfl) ?_
      refine SOps.val (v := .bool (decide (x3 > 7))) rfl (wantY (c := decide (x3 < 1)) rfl rfl rfl dc7) (fun _ => by kernel_rfl) ?_
      refine SOps.val (v := .bool (decide (x3 > 7))) rfl (wantN rfl) (fun w => ev_pickF (v := .bool (decide (x3 > 7))) rfl (t := decide (x3 < 1)) rfl dc7 rfl w) ?_
      refine SOps.val (v := .bool (decide (x3 > 7))) rfl (wantN rfl) (fun _ => by kernel_rfl) ?_
      refine SOps.nil ?_
      by_cases c10 : x3 > 7
      · replace h := h.1 c10
        have dc10 : (decide (x3 > 7)) = true := (decide_eq_true c10)
        refine SW.cond_t (t := decide (x3 > 7)) rfl dc10 ?_
        refine SW.seq ?_
        refine SW.region ?_
        refine SOps.val (v := .int .i64 x2) rfl (wantN rfl) (fun _ => by kernel_rfl) ?_
        refine SOps.val (v := .int .i64 x2) rfl (wantN rfl) (fun _ => by kernel_rfl) ?_
        refine SOps.val (v := errV (some (EV.no 1))) rfl (wantN rfl) (fun _ => by kernel_rfl) ?_
        refine SOps.enter rfl (wantN rfl) (fun _ => by kernel_rfl) (octet_fault.sound F x2 (some (EV.no 1)) H5 _ h) ?_
        clear h
        rintro v H12 ⟨e11, rfl, h⟩
        refine SOps.val (v := .int .i64 0) rfl (wantN rfl) (fun _ => by kernel_rfl) ?_
        refine SOps.val (v := .int .i64 x2) rfl (wantN rfl) (fun _ => by kernel_rfl) ?_
        refine SOps.val (v := errV e11) rfl (wantN rfl) (fun _ => by kernel_rfl) ?_
        refine SOps.nil ?_
        obtain ⟨Hr, hr, h⟩ := h
        exact SW.ret (retQ.mk (.tuple #[.int .i64 0, .int .i64 x2, errV e11]) (res3 rfl rfl rfl rfl) hr ⟨0, x2, e11, rfl, h⟩)
      · replace h := h.2 c10
        have dc10 : (decide (x3 > 7)) = false := (decide_eq_false c10)
        refine SW.cond_f (t := decide (x3 > 7)) rfl dc10 ?_
        refine SW.seq ?_
        refine SW.region ?_
        refine SOps.val (v := .string s1) rfl (wantN rfl) (fun _ => by kernel_rfl) ?_
        refine SOps.val (v := .int .i64 (s1.size : Int)) rfl (wantN rfl) (fun _ => by kernel_rfl) ?_
        refine SOps.val (v := .int .i64 x2) rfl (wantN rfl) (fun _ => by kernel_rfl) ?_
        refine SOps.val (v := .int .i64 (w64 ((s1.size : Int) - x2))) rfl (wantN rfl) (fun _ => by kernel_rfl) ?_
        refine SOps.val (v := .int .i64 x3) rfl (wantN rfl) (fun _ => by kernel_rfl) ?_
        refine SOps.val (v := .bool (decide ((w64 ((s1.size : Int) - x2)) < x3))) rfl (wantN rfl) (fun _ => by kernel_rfl) ?_
        refine SOps.val (v := .bool (decide ((w64 ((s1.size : Int) - x2)) < x3))) rfl (wantN rfl) (fun _ => by kernel_rfl) ?_
        refine SOps.nil ?_
        by_cases c13 : (w64 ((s1.size : Int) - x2)) < x3
        · replace h := h.1 c13
          have dc13 : (decide ((w64 ((s1.size : Int) - x2)) < x3)) = true := (decide_eq_true c13)
          refine SW.cond_t (t := decide ((w64 ((s1.size : Int) - x2)) < x3)) rfl dc13 ?_
          refine SW.seq ?_
          refine SW.region ?_
          refine SOps.val (v := .int .i64 x2) rfl (wantN rfl) (fun _ => by kernel_rfl) ?_
          refine SOps.val (v := .string s1) rfl (wantN rfl) (fun _ => by kernel_rfl) ?_
          refine SOps.val (v := .int .i64 (s1.size : Int)) rfl (wantN rfl) (fun _ => by kernel_rfl) ?_
          refine SOps.val (v := errV (some (EV.no 3))) rfl (wantN rfl) (fun _ => by kernel_rfl) ?_
          refine SOps.enter rfl (wantN rfl) (fun _ => by kernel_rfl) (octet_fault.sound F (s1.size : Int) (some (EV.no 3)) H5 _ h) ?_
          clear h
          rintro v H15 ⟨e14, rfl, h⟩
          refine SOps.val (v := .int .i64 0) rfl (wantN rfl) (fun _ => by kernel_rfl) ?_
          refine SOps.val (v := .int .i64 x2) rfl (wantN rfl) (fun _ => by kernel_rfl) ?_
          refine SOps.val (v := errV e14) rfl (wantN rfl) (fun _ => by kernel_rfl) ?_
          refine SOps.nil ?_
          obtain ⟨Hr, hr, h⟩ := h
          exact SW.ret (retQ.mk (.tuple #[.int .i64 0, .int .i64 x2, errV e14]) (res3 rfl rfl rfl rfl) hr ⟨0, x2, e14, rfl, h⟩)
        · replace h := h.2 c13
          have dc13 : (decide ((w64 ((s1.size : Int) - x2)) < x3)) = false := (decide_eq_false c13)
          refine SW.cond_f (t := decide ((w64 ((s1.size : Int) - x2)) < x3)) rfl dc13 ?_
          refine SW.skip ?_
          refine SW.seq ?_
          refine SW.region ?_
          refine SOps.val (v := .int .i64 0) rfl (wantN rfl) (fun _ => by kernel_rfl) ?_
          refine SOps.nil ?_
          refine SW.seq ?_
          refine SW.seq ?_
          refine SW.region ?_
          refine SOps.val (v := .int .i64 x3) rfl (wantN rfl) (fun _ => by kernel_rfl) ?_
          refine SOps.val (v := .int .i64 0) rfl (wantN rfl) (fun _ => by kernel_rfl) ?_
          refine SOps.nil ?_
          refine SW.block ?_
          refine SW.loop (fun k1 fr H => ∃ (g : Fr) (s16 : ByteArray) (x17 : Int) (x18 : Int) (x19 : Int) (x20 : Int) (x21 : Int), fr = g.upds [(0, (.string s16 : Value)), (1, (.int .i64 x17 : Value)), (2, (.int .i64 x18 : Value)), (9, (.int .i64 x19 : Value)), (40, (.int .i64 x20 : Value)), (41, (.int .i64 x21 : Value))] ∧ octet_Fixed.l1 F K k1 s16 x17 x18 x19 x20 x21 H) F ⟨_, s1, x2, x3, 0, x3, 0, (Fr.upds_self _ _ ⟨rfl, rfl, rfl, rfl, rfl, rfl, trivial⟩), h⟩ ?_
          clear h
          rintro k1 fr H ⟨g, s16, x17, x18, x19, x20, x21, rfl, h⟩
          cases k1 with
          | zero => exact h.elim
          | succ k1 =>
            replace h : octet_Fixed.r1 F K (octet_Fixed.l1 F K k1) s16 x17 x18 x19 x20 x21 H := h
            unfold octet_Fixed.r1 at h
            refine SW.seq ?_
            refine SW.region ?_
            refine SOps.val (v := .bool (decide (x21 < x20))) rfl (wantN rfl) (fun _ => by kernel_rfl) ?_
            refine SOps.nil ?_
            refine SW.seq ?_
            by_cases c22 : x21 < x20
            · replace h := h.1 c22
              have dc22 : (decide (x21 < x20)) = true := (decide_eq_true c22)
              refine SW.cond_t (t := decide (x21 < x20)) rfl dc22 ?_
              refine SW.skip ?_
              refine SW.seq ?_
              refine SW.block ?_
              refine SW.seq ?_
              refine SW.region ?_
              refine SOps.val (v := .int .i64 x21) rfl (wantN rfl) (fun _ => by kernel_rfl) ?_
              refine SOps.val (v := .int .i64 x21) rfl (wantN rfl) (fun _ => by kernel_rfl) ?_
              refine SOps.nil ?_
              refine SW.region ?_
              refine SOps.val (v := .int .i64 x19) rfl (wantN rfl) (fun _ => by kernel_rfl) ?_
              refine SOps.val (v := .string s16) rfl (wantN rfl) (fun _ => by kernel_rfl) ?_
              refine SOps.val (v := .int .i64 x17) rfl (wantN rfl) (fun _ => by kernel_rfl) ?_
              refine SOps.val (v := .int .i64 x21) rfl (wantN rfl) (fun _ => by kernel_rfl) ?_
              refine SOps.val (v := .int .i64 (w64 (x17 + x21))) rfl (wantN rfl) (fun _ => by kernel_rfl) ?_
              obtain ⟨c23, c24, h⟩ := h
              refine SOps.val (v := .int .u8 (bt s16 (w64 (x17 + x21)))) rfl (wantN rfl) (fun w => ev_idxB rfl Try.underlying9 rfl rfl c23 c24 w) ?_
              refine SOps.val (v := .int .i64 (w64 (bt s16 (w64 (x17 + x21))))) rfl (wantN rfl) (fun _ => by kernel_rfl) ?_
              refine SOps.val (v := .int .i64 x21) rfl (wantN rfl) (fun _ => by kernel_rfl) ?_
              refine SOps.val (v := .int .i64 (w64 (8 * x21))) rfl (wantN rfl) (fun _ => by kernel_rfl) ?_
              obtain ⟨c25, h⟩ := h
              refine SOps.val (v := .int .i64 (ishl .i64 (w64 (bt s16 (w64 (x17 + x21)))) (w64 (8 * x21)))) rfl (wantN rfl) (fun w => ev_shl rfl rfl rfl c25 w) ?_
              refine SOps.val (v := .int .i64 (ibits .or .i64 x19 (ishl .i64 (w64 (bt s16 (w64 (x17 + x21)))) (w64 (8 * x21))))) rfl (wantN rfl) (fun _ => by kernel_rfl) ?_
              refine SOps.val (v := .int .i64 (ibits .or .i64 x19 (ishl .i64 (w64 (bt s16 (w64 (x17 + x21)))) (w64 (8 * x21))))) rfl (wantN rfl) (fun _ => by kernel_rfl) ?_
              refine SOps.nil ?_
              refine SW.region ?_
              refine SOps.val (v := .int .i64 (w64 (x21 + 1))) rfl (wantN rfl) (fun _ => by kernel_rfl) ?_
              refine SOps.val (v := .int .i64 (w64 (x21 + 1))) rfl (wantN rfl) (fun _ => by kernel_rfl) ?_
              refine SOps.nil ?_
              exact ⟨k1, Nat.lt_succ_self k1, _, s16, x17, x18, ibits .or .i64 x19 (ishl .i64 (w64 (bt s16 (w64 (x17 + x21)))) (w64 (8 * x21))), x20, w64 (x21 + 1), (Fr.upds_self _ _ ⟨rfl, rfl, rfl, rfl, rfl, rfl, trivial⟩), h⟩
            · replace h := h.2 c22
              have dc22 : (decide (x21 < x20)) = false := (decide_eq_false c22)
              refine SW.cond_f (t := decide (x21 < x20)) rfl dc22 ?_
              refine SW.exit ?_
              refine SW.seq ?_
              refine SW.region ?_
              refine SOps.val (v := .int .i64 x19) rfl (wantN rfl) (fun _ => by kernel_rfl) ?_
              refine SOps.val (v := .int .i64 x17) rfl (wantN rfl) (fun _ => by kernel_rfl) ?_
              refine SOps.val (v := .int .i64 x18) rfl (wantN rfl) (fun _ => by kernel_rfl) ?_
              refine SOps.val (v := .int .i64 (w64 (x17 + x18))) rfl (wantN rfl) (fun _ => by kernel_rfl) ?_
              refine SOps.val (v := .int .i64 x19) rfl (wantN rfl) (fun _ => by kernel_rfl) ?_
              refine SOps.val (v := .int .i64 (w64 (x17 + x18))) rfl (wantN rfl) (fun _ => by kernel_rfl) ?_
              refine SOps.val (v := errV none) rfl (wantN rfl) (fun _ => by kernel_rfl) ?_
              refine SOps.nil ?_
              obtain ⟨Hr, hr, h⟩ := h
              exact SW.ret (retQ.mk (.tuple #[.int .i64 x19, .int .i64 (w64 (x17 + x18)), errV none]) (res3 rfl rfl rfl rfl) hr ⟨x19, w64 (x17 + x18), none, rfl, h⟩)
  · replace h := h.2 c6
    have dc6 : q4 = false := (Bool.eq_false_iff.mpr c6)
    refine SOps.off rfl (wantX (c := !q4) rfl rfl rfl (not_f dc6)) ?_
    refine SOps.off rfl (wantX (c := !q4) rfl rfl rfl (not_f dc6)) ?_
    refine SOps.val (v := .bool true) rfl (wantN rfl) (fun w => ev_pickT (v := .bool true) rfl (t := !q4) rfl (not_f dc6) rfl w) ?_
    refine SOps.val (v := .bool true) rfl (wantN rfl) (fun _ => by kernel_rfl) ?_
    refine SOps.off rfl (wantX (c := true) rfl rfl rfl rfl) ?_
    refine SOps.off rfl (wantX (c := true) rfl rfl rfl rfl) ?_
    refine SOps.val (v := .bool true) rfl (wantN rfl) (fun w => ev_pickT (v := .bool true) rfl (t := true) rfl rfl rfl w) ?_
    refine SOps.val (v := .bool true) rfl (wantN rfl) (fun _ => by kernel_rfl) ?_
    refine SOps.nil ?_
    refine SW.cond_t (t := true) rfl rfl ?_
    refine SW.seq ?_
    refine SW.region ?_
    refine SOps.val (v := .int .i64 x2) rfl (wantN rfl) (fun _ => by kernel_rfl) ?_
    refine SOps.val (v := .int .i64 x2) rfl (wantN rfl) (fun _ => by kernel_rfl) ?_
    refine SOps.val (v := errV (some (EV.no 1))) rfl (wantN rfl) (fun _ => by kernel_rfl) ?_
    refine SOps.enter rfl (wantN rfl) (fun _ => by kernel_rfl) (octet_fault.sound F x2 (some (EV.no 1)) H5 _ h) ?_
    clear h
    rintro v H33 ⟨e32, rfl, h⟩
    refine SOps.val (v := .int .i64 0) rfl (wantN rfl) (fun _ => by kernel_rfl) ?_
    refine SOps.val (v := .int .i64 x2) rfl (wantN rfl) (fun _ => by kernel_rfl) ?_
    refine SOps.val (v := errV e32) rfl (wantN rfl) (fun _ => by kernel_rfl) ?_
    refine SOps.nil ?_
    obtain ⟨Hr, hr, h⟩ := h
    exact SW.ret (retQ.mk (.tuple #[.int .i64 0, .int .i64 x2, errV e32]) (res3 rfl rfl rfl rfl) hr ⟨0, x2, e32, rfl, h⟩)

/-! ### lading/octet.Short: function 9 -/
def octet_Short.r1 (F : Nat) (K : Int → Int → Option EV → SH → Prop) (R1 : ByteArray → Int → Int → Int → Int → SH → Prop) (s6 : ByteArray) (x7 : Int) (x8 : Int) (x9 : Int) (x10 : Int) (H : SH) : Prop :=
  (x10 < x9 →
    0 ≤ (w64 (x7 + x10)) ∧
    (w64 (x7 + x10)) < (s6.size : Int) ∧
    0 ≤ (w64 (7 * x10)) ∧
    ((bt s6 (w64 (x7 + x10))) ≥ 128 →
      (x10 = 7 →
        octet_fault.wp F x7 (some (EV.no 4)) H (fun e17 H18 =>
          ∃ Hr, SH.le Hr H18 ∧ K 0 x7 e17 Hr
        )
      ) ∧ (¬ (x10 = 7) →
        R1 s6 x7 (ibits .or .i64 x8 (ishl .i64 (w64 (ibits .and .u8 (bt s6 (w64 (x7 + x10))) 127)) (w64 (7 * x10)))) x9 (w64 (x10 + 1)) H
      )
    ) ∧ (¬ ((bt s6 (w64 (x7 + x10))) ≥ 128) →
      ((bt s6 (w64 (x7 + x10))) = 0 →
        (x10 > 0 →
          octet_fault.wp F x7 (some (EV.no 4)) H (fun e21 H22 =>
            ∃ Hr, SH.le Hr H22 ∧ K 0 x7 e21 Hr
          )
        ) ∧ (¬ (x10 > 0) →
          ∃ Hr, SH.le Hr H ∧ K (ibits .or .i64 x8 (ishl .i64 (w64 (ibits .and .u8 (bt s6 (w64 (x7 + x10))) 127)) (w64 (7 * x10)))) (w64 ((w64 (x7 + x10)) + 1)) none Hr
        )
      ) ∧ (¬ ((bt s6 (w64 (x7 + x10))) = 0) →
        ∃ Hr, SH.le Hr H ∧ K (ibits .or .i64 x8 (ishl .i64 (w64 (ibits .and .u8 (bt s6 (w64 (x7 + x10))) 127)) (w64 (7 * x10)))) (w64 ((w64 (x7 + x10)) + 1)) none Hr
      )
    )
  ) ∧ (¬ (x10 < x9) →
    octet_fault.wp F (s6.size : Int) (some (EV.no 3)) H (fun e23 H24 =>
      ∃ Hr, SH.le Hr H24 ∧ K 0 x7 e23 Hr
    )
  )
def octet_Short.l1 (F : Nat) (K : Int → Int → Option EV → SH → Prop) : Nat → ByteArray → Int → Int → Int → Int → SH → Prop
  | 0, _, _, _, _, _, _ => False
  | k + 1, s6, x7, x8, x9, x10, H => octet_Short.r1 F K (octet_Short.l1 F K k) s6 x7 x8 x9 x10 H
def octet_Short.wp (F : Nat) (s1 : ByteArray) (x2 : Int) (H : SH) (K : Int → Int → Option EV → SH → Prop) : Prop :=
  octet_there.wp F s1 x2 H (fun q3 H4 =>
    (q3 = true →
      octet_Short.l1 F K F s1 x2 0 (w64 ((s1.size : Int) - x2)) 0 H4
    ) ∧ (¬ (q3 = true) →
      octet_fault.wp F x2 (some (EV.no 1)) H4 (fun e31 H32 =>
        ∃ Hr, SH.le Hr H32 ∧ K 0 x2 e31 Hr
      )
    )
  )
set_option maxHeartbeats 8000000 in
theorem octet_Short.sound (F : Nat) (s1 : ByteArray) (x2 : Int) (H : SH) (K : Int → Int → Option EV → SH → Prop) (h : octet_Short.wp F s1 x2 H K) : SCalls Try.prog 9 #[.string s1, .int .i64 x2] H (fun v H' => ∃ (x36 : Int) (x37 : Int) (e38 : Option EV), v = .tuple #[.int .i64 x36, .int .i64 x37, errV e38] ∧ K x36 x37 e38 H') := by
  unfold octet_Short.wp at h
  refine SCalls.body Try.func9 rfl (Nat.le_of_ble_eq_true rfl) ?_
  refine SW.seq ?_
  refine SW.region ?_
  refine SOps.val (v := .int .i64 0) rfl (wantN rfl) (fun _ => by kernel_rfl) ?_
  refine SOps.val (v := .int .i64 0) rfl (wantN rfl) (fun _ => by kernel_rfl) ?_
  refine SOps.val (v := errV none) rfl (wantN rfl) (fun _ => by kernel_rfl) ?_
  refine SOps.nil ?_
  refine SW.seq ?_
  refine SW.seq ?_
  refine SW.region ?_
  refine SOps.val (v := .string s1) rfl (wantN rfl) (fun _ => by kernel_rfl) ?_
  refine SOps.val (v := .int .i64 x2) rfl (wantN rfl) (fun _ => by kernel_rfl) ?_
  refine SOps.enter rfl (wantN rfl) (fun _ => by kernel_rfl) (octet_there.sound F s1 x2 H _ h) ?_
  clear h
  rintro v H4 ⟨q3, rfl, h⟩
  refine SOps.val (v := .bool (!q3)) rfl (wantN rfl) (fun _ => by kernel_rfl) ?_
  refine SOps.nil ?_
  by_cases c5 : q3 = true
  · replace h := h.1 c5
    have dc5 : q3 = true := c5
    refine SW.cond_f (t := !q3) rfl (not_t dc5) ?_
    refine SW.skip ?_
    refine SW.seq ?_
    refine SW.region ?_
    refine SOps.val (v := .int .i64 0) rfl (wantN rfl) (fun _ => by kernel_rfl) ?_
    refine SOps.nil ?_
    refine SW.seq ?_
    refine SW.seq ?_
    refine SW.region ?_
    refine SOps.val (v := .string s1) rfl (wantN rfl) (fun _ => by kernel_rfl) ?_
    refine SOps.val (v := .int .i64 (s1.size : Int)) rfl (wantN rfl) (fun _ => by kernel_rfl) ?_
    refine SOps.val (v := .int .i64 x2) rfl (wantN rfl) (fun _ => by kernel_rfl) ?_
    refine SOps.val (v := .int .i64 (w64 ((s1.size : Int) - x2))) rfl (wantN rfl) (fun _ => by kernel_rfl) ?_
    refine SOps.val (v := .int .i64 0) rfl (wantN rfl) (fun _ => by kernel_rfl) ?_
    refine SOps.nil ?_
    refine SW.block ?_
    refine SW.loop (fun k1 fr H => ∃ (g : Fr) (s6 : ByteArray) (x7 : Int) (x8 : Int) (x9 : Int) (x10 : Int), fr = g.upds [(0, (.string s6 : Value)), (1, (.int .i64 x7 : Value)), (7, (.int .i64 x8 : Value)), (21, (.int .i64 x9 : Value)), (22, (.int .i64 x10 : Value))] ∧ octet_Short.l1 F K k1 s6 x7 x8 x9 x10 H) F ⟨_, s1, x2, 0, w64 ((s1.size : Int) - x2), 0, (Fr.upds_self _ _ ⟨rfl, rfl, rfl, rfl, rfl, trivial⟩), h⟩ ?_
    clear h
    rintro k1 fr H ⟨g, s6, x7, x8, x9, x10, rfl, h⟩
    cases k1 with
    | zero => exact h.elim
    | succ k1 =>
      replace h : octet_Short.r1 F K (octet_Short.l1 F K k1) s6 x7 x8 x9 x10 H := h
      unfold octet_Short.r1 at h
      refine SW.seq ?_
      refine SW.region ?_
      refine SOps.val (v := .bool (decide (x10 < x9))) rfl (wantN rfl) (fun _ => by kernel_rfl) ?_
      refine SOps.nil ?_
      refine SW.seq ?_
      by_cases c11 : x10 < x9
      · replace h := h.1 c11
        have dc11 : (decide (x10 < x9)) = true := (decide_eq_true c11)
        refine SW.cond_t (t := decide (x10 < x9)) rfl dc11 ?_
        refine SW.skip ?_
        refine SW.seq ?_
        refine SW.block ?_
        refine SW.seq ?_
        refine SW.region ?_
        refine SOps.val (v := .int .i64 x10) rfl (wantN rfl) (fun _ => by kernel_rfl) ?_
        refine SOps.val (v := .int .i64 x10) rfl (wantN rfl) (fun _ => by kernel_rfl) ?_
        refine SOps.nil ?_
        refine SW.seq ?_
        refine SW.region ?_
        refine SOps.val (v := .string s6) rfl (wantN rfl) (fun _ => by kernel_rfl) ?_
        refine SOps.val (v := .int .i64 x7) rfl (wantN rfl) (fun _ => by kernel_rfl) ?_
        refine SOps.val (v := .int .i64 x10) rfl (wantN rfl) (fun _ => by kernel_rfl) ?_
        refine SOps.val (v := .int .i64 (w64 (x7 + x10))) rfl (wantN rfl) (fun _ => by kernel_rfl) ?_
        obtain ⟨c12, c13, h⟩ := h
        refine SOps.val (v := .int .u8 (bt s6 (w64 (x7 + x10)))) rfl (wantN rfl) (fun w => ev_idxB rfl Try.underlying9 rfl rfl c12 c13 w) ?_
        refine SOps.val (v := .int .u8 (bt s6 (w64 (x7 + x10)))) rfl (wantN rfl) (fun _ => by kernel_rfl) ?_
        refine SOps.nil ?_
        refine SW.seq ?_
        refine SW.region ?_
        refine SOps.val (v := .int .i64 x8) rfl (wantN rfl) (fun _ => by kernel_rfl) ?_
        refine SOps.val (v := .int .u8 (bt s6 (w64 (x7 + x10)))) rfl (wantN rfl) (fun _ => by kernel_rfl) ?_
        refine SOps.val (v := .int .u8 (ibits .and .u8 (bt s6 (w64 (x7 + x10))) 127)) rfl (wantN rfl) (fun _ => by kernel_rfl) ?_
        refine SOps.val (v := .int .i64 (w64 (ibits .and .u8 (bt s6 (w64 (x7 + x10))) 127))) rfl (wantN rfl) (fun _ => by kernel_rfl) ?_
        refine SOps.val (v := .int .i64 x10) rfl (wantN rfl) (fun _ => by kernel_rfl) ?_
        refine SOps.val (v := .int .i64 (w64 (7 * x10))) rfl (wantN rfl) (fun _ => by kernel_rfl) ?_
        obtain ⟨c14, h⟩ := h
        refine SOps.val (v := .int .i64 (ishl .i64 (w64 (ibits .and .u8 (bt s6 (w64 (x7 + x10))) 127)) (w64 (7 * x10)))) rfl (wantN rfl) (fun w => ev_shl rfl rfl rfl c14 w) ?_
        refine SOps.val (v := .int .i64 (ibits .or .i64 x8 (ishl .i64 (w64 (ibits .and .u8 (bt s6 (w64 (x7 + x10))) 127)) (w64 (7 * x10))))) rfl (wantN rfl) (fun _ => by kernel_rfl) ?_
        refine SOps.val (v := .int .i64 (ibits .or .i64 x8 (ishl .i64 (w64 (ibits .and .u8 (bt s6 (w64 (x7 + x10))) 127)) (w64 (7 * x10))))) rfl (wantN rfl) (fun _ => by kernel_rfl) ?_
        refine SOps.nil ?_
        refine SW.seq ?_
        refine SW.block ?_
        refine SW.seq ?_
        refine SW.region ?_
        refine SOps.val (v := .int .u8 (bt s6 (w64 (x7 + x10)))) rfl (wantN rfl) (fun _ => by kernel_rfl) ?_
        refine SOps.val (v := .bool (decide ((bt s6 (w64 (x7 + x10))) ≥ 128))) rfl (wantN rfl) (fun _ => by kernel_rfl) ?_
        refine SOps.val (v := .bool (decide ((bt s6 (w64 (x7 + x10))) ≥ 128))) rfl (wantN rfl) (fun _ => by kernel_rfl) ?_
        by_cases c15 : (bt s6 (w64 (x7 + x10))) ≥ 128
        · replace h := h.1 c15
          have dc15 : (decide ((bt s6 (w64 (x7 + x10))) ≥ 128)) = true := (decide_eq_true c15)
          refine SOps.val (v := .int .i64 x10) rfl (wantY (c := decide ((bt s6 (w64 (x7 + x10))) ≥ 128)) rfl rfl rfl dc15) (fun _ => by kernel_rfl) ?_
          refine SOps.val (v := .bool (x10 == 7)) rfl (wantY (c := decide ((bt s6 (w64 (x7 + x10))) ≥ 128)) rfl rfl rfl dc15) (fun _ => by kernel_rfl) ?_
          refine SOps.val (v := .bool (x10 == 7)) rfl (wantN rfl) (fun w => ev_pickT (v := .bool (x10 == 7)) rfl (t := decide ((bt s6 (w64 (x7 + x10))) ≥ 128)) rfl dc15 rfl w) ?_
          refine SOps.val (v := .bool (x10 == 7)) rfl (wantN rfl) (fun _ => by kernel_rfl) ?_
          refine SOps.nil ?_
          by_cases c16 : x10 = 7
          · replace h := h.1 c16
            have dc16 : (x10 == 7) = true := (beq_iff_eq.mpr c16)
            refine SW.cond_t (t := (x10 == 7)) rfl dc16 ?_
            refine SW.seq ?_
            refine SW.region ?_
            refine SOps.val (v := .int .i64 x7) rfl (wantN rfl) (fun _ => by kernel_rfl) ?_
            refine SOps.val (v := .int .i64 x7) rfl (wantN rfl) (fun _ => by kernel_rfl) ?_
            refine SOps.val (v := errV (some (EV.no 4))) rfl (wantN rfl) (fun _ => by kernel_rfl) ?_
            refine SOps.enter rfl (wantN rfl) (fun _ => by kernel_rfl) (octet_fault.sound F x7 (some (EV.no 4)) H _ h) ?_
            clear h
            rintro v H18 ⟨e17, rfl, h⟩
            refine SOps.val (v := .int .i64 0) rfl (wantN rfl) (fun _ => by kernel_rfl) ?_
            refine SOps.val (v := .int .i64 x7) rfl (wantN rfl) (fun _ => by kernel_rfl) ?_
            refine SOps.val (v := errV e17) rfl (wantN rfl) (fun _ => by kernel_rfl) ?_
            refine SOps.nil ?_
            obtain ⟨Hr, hr, h⟩ := h
            exact SW.ret (retQ.mk (.tuple #[.int .i64 0, .int .i64 x7, errV e17]) (res3 rfl rfl rfl rfl) hr ⟨0, x7, e17, rfl, h⟩)
          · replace h := h.2 c16
            have dc16 : (x10 == 7) = false := (beq_eq_false_iff_ne.mpr c16)
            refine SW.cond_f (t := (x10 == 7)) rfl dc16 ?_
            refine SW.seq ?_
            refine SW.region ?_
            refine SOps.val (v := .int .u8 (bt s6 (w64 (x7 + x10)))) rfl (wantN rfl) (fun _ => by kernel_rfl) ?_
            refine SOps.val (v := .bool (decide ((bt s6 (w64 (x7 + x10))) ≥ 128))) rfl (wantN rfl) (fun _ => by kernel_rfl) ?_
            refine SOps.val (v := .bool (decide ((bt s6 (w64 (x7 + x10))) ≥ 128))) rfl (wantN rfl) (fun _ => by kernel_rfl) ?_
            refine SOps.nil ?_
            refine SW.cond_t (t := decide ((bt s6 (w64 (x7 + x10))) ≥ 128)) rfl dc15 ?_
            refine SW.exit ?_
            refine SW.region ?_
            refine SOps.val (v := .int .i64 (w64 (x10 + 1))) rfl (wantN rfl) (fun _ => by kernel_rfl) ?_
            refine SOps.val (v := .int .i64 (w64 (x10 + 1))) rfl (wantN rfl) (fun _ => by kernel_rfl) ?_
            refine SOps.nil ?_
            exact ⟨k1, Nat.lt_succ_self k1, _, s6, x7, ibits .or .i64 x8 (ishl .i64 (w64 (ibits .and .u8 (bt s6 (w64 (x7 + x10))) 127)) (w64 (7 * x10))), x9, w64 (x10 + 1), (Fr.upds_self _ _ ⟨rfl, rfl, rfl, rfl, rfl, trivial⟩), h⟩
        · replace h := h.2 c15
          have dc15 : (decide ((bt s6 (w64 (x7 + x10))) ≥ 128)) = false := (decide_eq_false c15)
          refine SOps.off rfl (wantX (c := decide ((bt s6 (w64 (x7 + x10))) ≥ 128)) rfl rfl rfl dc15) ?_
          refine SOps.off rfl (wantX (c := decide ((bt s6 (w64 (x7 + x10))) ≥ 128)) rfl rfl rfl dc15) ?_
          refine SOps.val (v := .bool false) rfl (wantN rfl) (fun w => ev_pickF (v := .bool false) rfl (t := decide ((bt s6 (w64 (x7 + x10))) ≥ 128)) rfl dc15 rfl w) ?_
          refine SOps.val (v := .bool false) rfl (wantN rfl) (fun _ => by kernel_rfl) ?_
          refine SOps.nil ?_
          refine SW.cond_f (t := false) rfl rfl ?_
          refine SW.seq ?_
          refine SW.region ?_
          refine SOps.val (v := .int .u8 (bt s6 (w64 (x7 + x10)))) rfl (wantN rfl) (fun _ => by kernel_rfl) ?_
          refine SOps.val (v := .bool (decide ((bt s6 (w64 (x7 + x10))) ≥ 128))) rfl (wantN rfl) (fun _ => by kernel_rfl) ?_
          refine SOps.val (v := .bool (decide ((bt s6 (w64 (x7 + x10))) ≥ 128))) rfl (wantN rfl) (fun _ => by kernel_rfl) ?_
          refine SOps.nil ?_
          refine SW.cond_f (t := decide ((bt s6 (w64 (x7 + x10))) ≥ 128)) rfl dc15 ?_
          refine SW.seq ?_
          refine SW.region ?_
          refine SOps.val (v := .int .u8 (bt s6 (w64 (x7 + x10)))) rfl (wantN rfl) (fun _ => by kernel_rfl) ?_
          refine SOps.val (v := .bool ((bt s6 (w64 (x7 + x10))) == 0)) rfl (wantN rfl) (fun _ => by kernel_rfl) ?_
          refine SOps.val (v := .bool ((bt s6 (w64 (x7 + x10))) == 0)) rfl (wantN rfl) (fun _ => by kernel_rfl) ?_
          by_cases c19 : (bt s6 (w64 (x7 + x10))) = 0
          · replace h := h.1 c19
            have dc19 : ((bt s6 (w64 (x7 + x10))) == 0) = true := (beq_iff_eq.mpr c19)
            refine SOps.val (v := .int .i64 x10) rfl (wantY (c := ((bt s6 (w64 (x7 + x10))) == 0)) rfl rfl rfl dc19) (fun _ => by kernel_rfl) ?_
            refine SOps.val (v := .bool (decide (x10 > 0))) rfl (wantY (c := ((bt s6 (w64 (x7 + x10))) == 0)) rfl rfl rfl dc19) (fun _ => by kernel_rfl) ?_
            refine SOps.val (v := .bool (decide (x10 > 0))) rfl (wantN rfl) (fun w => ev_pickT (v := .bool (decide (x10 > 0))) rfl (t := ((bt s6 (w64 (x7 + x10))) == 0)) rfl dc19 rfl w) ?_
            refine SOps.val (v := .bool (decide (x10 > 0))) rfl (wantN rfl) (fun _ => by kernel_rfl) ?_
            refine SOps.nil ?_
            by_cases c20 : x10 > 0
            · replace h := h.1 c20
              have dc20 : (decide (x10 > 0)) = true := (decide_eq_true c20)
              refine SW.cond_t (t := decide (x10 > 0)) rfl dc20 ?_
              refine SW.seq ?_
              refine SW.region ?_
              refine SOps.val (v := .int .i64 x7) rfl (wantN rfl) (fun _ => by kernel_rfl) ?_
              refine SOps.val (v := .int .i64 x7) rfl (wantN rfl) (fun _ => by kernel_rfl) ?_
              refine SOps.val (v := errV (some (EV.no 4))) rfl (wantN rfl) (fun _ => by kernel_rfl) ?_
              refine SOps.enter rfl (wantN rfl) (fun _ => by kernel_rfl) (octet_fault.sound F x7 (some (EV.no 4)) H _ h) ?_
              clear h
              rintro v H22 ⟨e21, rfl, h⟩
              refine SOps.val (v := .int .i64 0) rfl (wantN rfl) (fun _ => by kernel_rfl) ?_
              refine SOps.val (v := .int .i64 x7) rfl (wantN rfl) (fun _ => by kernel_rfl) ?_
              refine SOps.val (v := errV e21) rfl (wantN rfl) (fun _ => by kernel_rfl) ?_
              refine SOps.nil ?_
              obtain ⟨Hr, hr, h⟩ := h
              exact SW.ret (retQ.mk (.tuple #[.int .i64 0, .int .i64 x7, errV e21]) (res3 rfl rfl rfl rfl) hr ⟨0, x7, e21, rfl, h⟩)
            · replace h := h.2 c20
              have dc20 : (decide (x10 > 0)) = false := (decide_eq_false c20)
              refine SW.cond_f (t := decide (x10 > 0)) rfl dc20 ?_
              refine SW.skip ?_
              refine SW.seq ?_
              refine SW.region ?_
              refine SOps.val (v := .int .i64 (ibits .or .i64 x8 (ishl .i64 (w64 (ibits .and .u8 (bt s6 (w64 (x7 + x10))) 127)) (w64 (7 * x10))))) rfl (wantN rfl) (fun _ => by kernel_rfl) ?_
              refine SOps.val (v := .int .i64 x7) rfl (wantN rfl) (fun _ => by kernel_rfl) ?_
              refine SOps.val (v := .int .i64 x10) rfl (wantN rfl) (fun _ => by kernel_rfl) ?_
              refine SOps.val (v := .int .i64 (w64 (x7 + x10))) rfl (wantN rfl) (fun _ => by kernel_rfl) ?_
              refine SOps.val (v := .int .i64 (w64 ((w64 (x7 + x10)) + 1))) rfl (wantN rfl) (fun _ => by kernel_rfl) ?_
              refine SOps.val (v := .int .i64 (ibits .or .i64 x8 (ishl .i64 (w64 (ibits .and .u8 (bt s6 (w64 (x7 + x10))) 127)) (w64 (7 * x10))))) rfl (wantN rfl) (fun _ => by kernel_rfl) ?_
              refine SOps.val (v := .int .i64 (w64 ((w64 (x7 + x10)) + 1))) rfl (wantN rfl) (fun _ => by kernel_rfl) ?_
              refine SOps.val (v := errV none) rfl (wantN rfl) (fun _ => by kernel_rfl) ?_
              refine SOps.nil ?_
              obtain ⟨Hr, hr, h⟩ := h
              exact SW.ret (retQ.mk (.tuple #[.int .i64 (ibits .or .i64 x8 (ishl .i64 (w64 (ibits .and .u8 (bt s6 (w64 (x7 + x10))) 127)) (w64 (7 * x10)))), .int .i64 (w64 ((w64 (x7 + x10)) + 1)), errV none]) (res3 rfl rfl rfl rfl) hr ⟨ibits .or .i64 x8 (ishl .i64 (w64 (ibits .and .u8 (bt s6 (w64 (x7 + x10))) 127)) (w64 (7 * x10))), w64 ((w64 (x7 + x10)) + 1), none, rfl, h⟩)
          · replace h := h.2 c19
            have dc19 : ((bt s6 (w64 (x7 + x10))) == 0) = false := (beq_eq_false_iff_ne.mpr c19)
            refine SOps.off rfl (wantX (c := ((bt s6 (w64 (x7 + x10))) == 0)) rfl rfl rfl dc19) ?_
            refine SOps.off rfl (wantX (c := ((bt s6 (w64 (x7 + x10))) == 0)) rfl rfl rfl dc19) ?_
            refine SOps.val (v := .bool false) rfl (wantN rfl) (fun w => ev_pickF (v := .bool false) rfl (t := ((bt s6 (w64 (x7 + x10))) == 0)) rfl dc19 rfl w) ?_
            refine SOps.val (v := .bool false) rfl (wantN rfl) (fun _ => by kernel_rfl) ?_
            refine SOps.nil ?_
            refine SW.cond_f (t := false) rfl rfl ?_
            refine SW.skip ?_
            refine SW.seq ?_
            refine SW.region ?_
            refine SOps.val (v := .int .i64 (ibits .or .i64 x8 (ishl .i64 (w64 (ibits .and .u8 (bt s6 (w64 (x7 + x10))) 127)) (w64 (7 * x10))))) rfl (wantN rfl) (fun _ => by kernel_rfl) ?_
            refine SOps.val (v := .int .i64 x7) rfl (wantN rfl) (fun _ => by kernel_rfl) ?_
            refine SOps.val (v := .int .i64 x10) rfl (wantN rfl) (fun _ => by kernel_rfl) ?_
            refine SOps.val (v := .int .i64 (w64 (x7 + x10))) rfl (wantN rfl) (fun _ => by kernel_rfl) ?_
            refine SOps.val (v := .int .i64 (w64 ((w64 (x7 + x10)) + 1))) rfl (wantN rfl) (fun _ => by kernel_rfl) ?_
            refine SOps.val (v := .int .i64 (ibits .or .i64 x8 (ishl .i64 (w64 (ibits .and .u8 (bt s6 (w64 (x7 + x10))) 127)) (w64 (7 * x10))))) rfl (wantN rfl) (fun _ => by kernel_rfl) ?_
            refine SOps.val (v := .int .i64 (w64 ((w64 (x7 + x10)) + 1))) rfl (wantN rfl) (fun _ => by kernel_rfl) ?_
            refine SOps.val (v := errV none) rfl (wantN rfl) (fun _ => by kernel_rfl) ?_
            refine SOps.nil ?_
            obtain ⟨Hr, hr, h⟩ := h
            exact SW.ret (retQ.mk (.tuple #[.int .i64 (ibits .or .i64 x8 (ishl .i64 (w64 (ibits .and .u8 (bt s6 (w64 (x7 + x10))) 127)) (w64 (7 * x10)))), .int .i64 (w64 ((w64 (x7 + x10)) + 1)), errV none]) (res3 rfl rfl rfl rfl) hr ⟨ibits .or .i64 x8 (ishl .i64 (w64 (ibits .and .u8 (bt s6 (w64 (x7 + x10))) 127)) (w64 (7 * x10))), w64 ((w64 (x7 + x10)) + 1), none, rfl, h⟩)
      · replace h := h.2 c11
        have dc11 : (decide (x10 < x9)) = false := (decide_eq_false c11)
        refine SW.cond_f (t := decide (x10 < x9)) rfl dc11 ?_
        refine SW.exit ?_
        refine SW.seq ?_
        refine SW.region ?_
        refine SOps.val (v := .int .i64 x7) rfl (wantN rfl) (fun _ => by kernel_rfl) ?_
        refine SOps.val (v := .string s6) rfl (wantN rfl) (fun _ => by kernel_rfl) ?_
        refine SOps.val (v := .int .i64 (s6.size : Int)) rfl (wantN rfl) (fun _ => by kernel_rfl) ?_
        refine SOps.val (v := errV (some (EV.no 3))) rfl (wantN rfl) (fun _ => by kernel_rfl) ?_
        refine SOps.enter rfl (wantN rfl) (fun _ => by kernel_rfl) (octet_fault.sound F (s6.size : Int) (some (EV.no 3)) H _ h) ?_
        clear h
        rintro v H24 ⟨e23, rfl, h⟩
        refine SOps.val (v := .int .i64 0) rfl (wantN rfl) (fun _ => by kernel_rfl) ?_
        refine SOps.val (v := .int .i64 x7) rfl (wantN rfl) (fun _ => by kernel_rfl) ?_
        refine SOps.val (v := errV e23) rfl (wantN rfl) (fun _ => by kernel_rfl) ?_
        refine SOps.nil ?_
        obtain ⟨Hr, hr, h⟩ := h
        exact SW.ret (retQ.mk (.tuple #[.int .i64 0, .int .i64 x7, errV e23]) (res3 rfl rfl rfl rfl) hr ⟨0, x7, e23, rfl, h⟩)
  · replace h := h.2 c5
    have dc5 : q3 = false := (Bool.eq_false_iff.mpr c5)
    refine SW.cond_t (t := !q3) rfl (not_f dc5) ?_
    refine SW.seq ?_
    refine SW.region ?_
    refine SOps.val (v := .int .i64 x2) rfl (wantN rfl) (fun _ => by kernel_rfl) ?_
    refine SOps.val (v := .int .i64 x2) rfl (wantN rfl) (fun _ => by kernel_rfl) ?_
    refine SOps.val (v := errV (some (EV.no 1))) rfl (wantN rfl) (fun _ => by kernel_rfl) ?_
    refine SOps.enter rfl (wantN rfl) (fun _ => by kernel_rfl) (octet_fault.sound F x2 (some (EV.no 1)) H4 _ h) ?_
    clear h
    rintro v H32 ⟨e31, rfl, h⟩
    refine SOps.val (v := .int .i64 0) rfl (wantN rfl) (fun _ => by kernel_rfl) ?_
    refine SOps.val (v := .int .i64 x2) rfl (wantN rfl) (fun _ => by kernel_rfl) ?_
    refine SOps.val (v := errV e31) rfl (wantN rfl) (fun _ => by kernel_rfl) ?_
    refine SOps.nil ?_
    obtain ⟨Hr, hr, h⟩ := h
    exact SW.ret (retQ.mk (.tuple #[.int .i64 0, .int .i64 x2, errV e31]) (res3 rfl rfl rfl rfl) hr ⟨0, x2, e31, rfl, h⟩)

/-! ### lading/octet.Turned: function 37 -/
def octet_Turned.wp (F : Nat) (s1 : ByteArray) (x2 : Int) (H : SH) (K : Int → Int → Option EV → SH → Prop) : Prop :=
  octet_Short.wp F s1 x2 H (fun x3 x4 e5 H6 =>
    (e5 = none →
      octet_Back.wp F x3 H6 (fun x8 H9 =>
        ∃ Hr, SH.le Hr H9 ∧ K x8 x4 none Hr
      )
    ) ∧ (∀ v7, e5 = some v7 →
      ∃ Hr, SH.le Hr H6 ∧ K 0 x2 (some v7) Hr
    )
  )
set_option maxHeartbeats 8000000 in
theorem octet_Turned.sound (F : Nat) (s1 : ByteArray) (x2 : Int) (H : SH) (K : Int → Int → Option EV → SH → Prop) (h : octet_Turned.wp F s1 x2 H K) : SCalls Try.prog 37 #[.string s1, .int .i64 x2] H (fun v H' => ∃ (x13 : Int) (x14 : Int) (e15 : Option EV), v = .tuple #[.int .i64 x13, .int .i64 x14, errV e15] ∧ K x13 x14 e15 H') := by
  unfold octet_Turned.wp at h
  refine SCalls.body Try.func37 rfl (Nat.le_of_ble_eq_true rfl) ?_
  refine SW.seq ?_
  refine SW.region ?_
  refine SOps.val (v := .int .i64 0) rfl (wantN rfl) (fun _ => by kernel_rfl) ?_
  refine SOps.val (v := .int .i64 0) rfl (wantN rfl) (fun _ => by kernel_rfl) ?_
  refine SOps.val (v := errV none) rfl (wantN rfl) (fun _ => by kernel_rfl) ?_
  refine SOps.nil ?_
  refine SW.seq ?_
  refine SW.region ?_
  refine SOps.val (v := .string s1) rfl (wantN rfl) (fun _ => by kernel_rfl) ?_
  refine SOps.val (v := .int .i64 x2) rfl (wantN rfl) (fun _ => by kernel_rfl) ?_
  refine SOps.enter rfl (wantN rfl) (fun _ => by kernel_rfl) (octet_Short.sound F s1 x2 H _ h) ?_
  clear h
  rintro v H6 ⟨x3, x4, e5, rfl, h⟩
  refine SOps.val (v := .tuple #[.int .i64 x3, .int .i64 x4, errV e5]) rfl (wantN rfl) (fun _ => by kernel_rfl) ?_
  refine SOps.val (v := .int .i64 x3) rfl (wantN rfl) (fun _ => by kernel_rfl) ?_
  refine SOps.val (v := .int .i64 x4) rfl (wantN rfl) (fun _ => by kernel_rfl) ?_
  refine SOps.val (v := errV e5) rfl (wantN rfl) (fun _ => by kernel_rfl) ?_
  refine SOps.val (v := .int .i64 x3) rfl (wantN rfl) (fun _ => by kernel_rfl) ?_
  refine SOps.val (v := .int .i64 x4) rfl (wantN rfl) (fun _ => by kernel_rfl) ?_
  refine SOps.val (v := errV e5) rfl (wantN rfl) (fun _ => by kernel_rfl) ?_
  refine SOps.nil ?_
  refine SW.seq ?_
  refine SW.seq ?_
  refine SW.region ?_
  refine SOps.val (v := errV e5) rfl (wantN rfl) (fun _ => by kernel_rfl) ?_
  rcases e5 with _ | v7
  · replace h := h.1 rfl
    refine SOps.val (v := .bool false) rfl (wantN rfl) (fun w => ev_errNe (e := none) rfl Try.underlying24 rfl rfl w) ?_
    refine SOps.nil ?_
    refine SW.cond_f (t := false) rfl rfl ?_
    refine SW.skip ?_
    refine SW.seq ?_
    refine SW.region ?_
    refine SOps.val (v := .int .i64 x3) rfl (wantN rfl) (fun _ => by kernel_rfl) ?_
    refine SOps.enter rfl (wantN rfl) (fun _ => by kernel_rfl) (octet_Back.sound F x3 H6 _ h) ?_
    clear h
    rintro v H9 ⟨x8, rfl, h⟩
    refine SOps.val (v := .int .i64 x4) rfl (wantN rfl) (fun _ => by kernel_rfl) ?_
    refine SOps.val (v := .int .i64 x8) rfl (wantN rfl) (fun _ => by kernel_rfl) ?_
    refine SOps.val (v := .int .i64 x4) rfl (wantN rfl) (fun _ => by kernel_rfl) ?_
    refine SOps.val (v := errV none) rfl (wantN rfl) (fun _ => by kernel_rfl) ?_
    refine SOps.nil ?_
    obtain ⟨Hr, hr, h⟩ := h
    exact SW.ret (retQ.mk (.tuple #[.int .i64 x8, .int .i64 x4, errV none]) (res3 rfl rfl rfl rfl) hr ⟨x8, x4, none, rfl, h⟩)
  · replace h := h.2 v7 rfl
    refine SOps.val (v := .bool true) rfl (wantN rfl) (fun w => ev_errNe (e := some v7) rfl Try.underlying24 rfl rfl w) ?_
    refine SOps.nil ?_
    refine SW.cond_t (t := true) rfl rfl ?_
    refine SW.seq ?_
    refine SW.region ?_
    refine SOps.val (v := .int .i64 x2) rfl (wantN rfl) (fun _ => by kernel_rfl) ?_
    refine SOps.val (v := errV (some v7)) rfl (wantN rfl) (fun _ => by kernel_rfl) ?_
    refine SOps.val (v := .int .i64 0) rfl (wantN rfl) (fun _ => by kernel_rfl) ?_
    refine SOps.val (v := .int .i64 x2) rfl (wantN rfl) (fun _ => by kernel_rfl) ?_
    refine SOps.val (v := errV (some v7)) rfl (wantN rfl) (fun _ => by kernel_rfl) ?_
    refine SOps.nil ?_
    obtain ⟨Hr, hr, h⟩ := h
    exact SW.ret (retQ.mk (.tuple #[.int .i64 0, .int .i64 x2, errV (some v7)]) (res3 rfl rfl rfl rfl) hr ⟨0, x2, some v7, rfl, h⟩)

end Go.Proofs.Ytpnbehgkbfhacaa.K
