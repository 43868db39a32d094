import Derived.Test.YtpnbehgkbfhacaaDoorGoctet
set_option linter.unusedVariables false
set_option linter.unusedSimpArgs false
set_option maxRecDepth 100000
namespace Go.Proofs.YtpnbehgkbfhacaaDoor.K
open Go
attribute [local irreducible] SW SOps SQ SCalls retQ

/-! ### lading/octet.Text: function 30 -/
def octet_Text.wp (F : Nat) (s1 : ByteArray) (x2 : Int) (x3 : Int) (H : SH) (K : ByteArray → Int → Option EV → SH → Prop) : Prop :=
  octet_Short.wp F s1 x2 H (fun x4 x5 e6 H7 =>
    (e6 = none →
      (x4 > x3 →
        octet_fault.wp F x2 (some (EV.no 6)) H7 (fun e10 H11 =>
          ∃ Hr, SH.le Hr H11 ∧ K ByteArray.empty x2 e10 Hr
        )
      ) ∧ (¬ (x4 > x3) →
        (x4 > (w64 ((s1.size : Int) - x5)) →
          octet_fault.wp F (s1.size : Int) (some (EV.no 3)) H7 (fun e13 H14 =>
            ∃ Hr, SH.le Hr H14 ∧ K ByteArray.empty x2 e13 Hr
          )
        ) ∧ (¬ (x4 > (w64 ((s1.size : Int) - x5))) →
          0 ≤ x5 ∧
          x5 ≤ (w64 (x5 + x4)) ∧
          (w64 (x5 + x4)) ≤ (s1.size : Int) ∧
          ∃ Hr, SH.le Hr H7 ∧ K (s1.extract x5.toNat (w64 (x5 + x4)).toNat) (w64 (x5 + x4)) none Hr
        )
      )
    ) ∧ (∀ v8, e6 = some v8 →
      ∃ Hr, SH.le Hr H7 ∧ K ByteArray.empty x2 (some v8) Hr
    )
  )
set_option maxHeartbeats 8000000 in
theorem octet_Text.sound (F : Nat) (s1 : ByteArray) (x2 : Int) (x3 : Int) (H : SH) (K : ByteArray → Int → Option EV → SH → Prop) (h : octet_Text.wp F s1 x2 x3 H K) : SCalls Tryd.prog 30 #[.string s1, .int .i64 x2, .int .i64 x3] H (fun v H' => ∃ (s21 : ByteArray) (x22 : Int) (e23 : Option EV), v = .tuple #[.string s21, .int .i64 x22, errV e23] ∧ K s21 x22 e23 H') := by
  unfold octet_Text.wp at h
  refine SCalls.body Tryd.func30 rfl (Nat.le_of_ble_eq_true rfl) ?_
  refine SW.seq ?_
  refine SW.region ?_
  refine SOps.val (v := .string ByteArray.empty) rfl (wantN rfl) (fun _ => by kernel_rfl) ?_
  refine SOps.val (v := .int .i64 0) rfl (wantN rfl) (fun _ => by kernel_rfl) ?_
  refine SOps.val (v := errV none) rfl (wantN rfl) (fun _ => by kernel_rfl) ?_
  refine SOps.nil ?_
  refine SW.seq ?_
  refine SW.region ?_
  refine SOps.val (v := .string s1) rfl (wantN rfl) (fun _ => by kernel_rfl) ?_
  refine SOps.val (v := .int .i64 x2) rfl (wantN rfl) (fun _ => by kernel_rfl) ?_
  refine SOps.enter rfl (wantN rfl) (fun _ => by kernel_rfl) (octet_Short.sound F s1 x2 H _ h) ?_
  clear h
  rintro v H7 ⟨x4, x5, e6, rfl, h⟩
  refine SOps.val (v := .tuple #[.int .i64 x4, .int .i64 x5, errV e6]) rfl (wantN rfl) (fun _ => by kernel_rfl) ?_
  refine SOps.val (v := .int .i64 x4) rfl (wantN rfl) (fun _ => by kernel_rfl) ?_
  refine SOps.val (v := .int .i64 x5) rfl (wantN rfl) (fun _ => by kernel_rfl) ?_
  refine SOps.val (v := errV e6) rfl (wantN rfl) (fun _ => by kernel_rfl) ?_
  refine SOps.val (v := .int .i64 x4) rfl (wantN rfl) (fun _ => by kernel_rfl) ?_
  refine SOps.val (v := .int .i64 x5) rfl (wantN rfl) (fun _ => by kernel_rfl) ?_
  refine SOps.val (v := errV e6) rfl (wantN rfl) (fun _ => by kernel_rfl) ?_
  refine SOps.nil ?_
  refine SW.seq ?_
  refine SW.block ?_
  refine SW.seq ?_
  refine SW.region ?_
  refine SOps.val (v := errV e6) rfl (wantN rfl) (fun _ => by kernel_rfl) ?_
  rcases e6 with _ | v8
  · replace h := h.1 rfl
    refine SOps.val (v := .bool false) rfl (wantN rfl) (fun w => ev_errNe (e := none) rfl Tryd.underlying24 rfl rfl w) ?_
    refine SOps.val (v := .bool false) rfl (wantN rfl) (fun _ => by kernel_rfl) ?_
    refine SOps.nil ?_
    refine SW.cond_f (t := false) rfl rfl ?_
    refine SW.seq ?_
    refine SW.region ?_
    refine SOps.val (v := .int .i64 x4) rfl (wantN rfl) (fun _ => by kernel_rfl) ?_
    refine SOps.val (v := .int .i64 x3) rfl (wantN rfl) (fun _ => by kernel_rfl) ?_
    refine SOps.val (v := .bool (decide (x4 > x3))) rfl (wantN rfl) (fun _ => by kernel_rfl) ?_
    refine SOps.val (v := .bool (decide (x4 > x3))) rfl (wantN rfl) (fun _ => by kernel_rfl) ?_
    refine SOps.nil ?_
    by_cases c9 : x4 > x3
    · replace h := h.1 c9
      have dc9 : (decide (x4 > x3)) = true := (decide_eq_true c9)
      refine SW.cond_t (t := decide (x4 > x3)) rfl dc9 ?_
      refine SW.seq ?_
      refine SW.region ?_
      refine SOps.val (v := .int .i64 x2) rfl (wantN rfl) (fun _ => by kernel_rfl) ?_
      refine SOps.val (v := .int .i64 x2) rfl (wantN rfl) (fun _ => by kernel_rfl) ?_
      refine SOps.val (v := errV (some (EV.no 6))) rfl (wantN rfl) (fun _ => by kernel_rfl) ?_
      refine SOps.enter rfl (wantN rfl) (fun _ => by kernel_rfl) (octet_fault.sound F x2 (some (EV.no 6)) H7 _ h) ?_
      clear h
      rintro v H11 ⟨e10, rfl, h⟩
      refine SOps.val (v := .string ByteArray.empty) rfl (wantN rfl) (fun _ => by kernel_rfl) ?_
      refine SOps.val (v := .int .i64 x2) rfl (wantN rfl) (fun _ => by kernel_rfl) ?_
      refine SOps.val (v := errV e10) rfl (wantN rfl) (fun _ => by kernel_rfl) ?_
      refine SOps.nil ?_
      obtain ⟨Hr, hr, h⟩ := h
      exact SW.ret (retQ.mk (.tuple #[.string ByteArray.empty, .int .i64 x2, errV e10]) (res3 rfl rfl rfl rfl) hr ⟨ByteArray.empty, x2, e10, rfl, h⟩)
    · replace h := h.2 c9
      have dc9 : (decide (x4 > x3)) = false := (decide_eq_false c9)
      refine SW.cond_f (t := decide (x4 > x3)) rfl dc9 ?_
      refine SW.seq ?_
      refine SW.region ?_
      refine SOps.val (v := .int .i64 x4) rfl (wantN rfl) (fun _ => by kernel_rfl) ?_
      refine SOps.val (v := .string s1) rfl (wantN rfl) (fun _ => by kernel_rfl) ?_
      refine SOps.val (v := .int .i64 (s1.size : Int)) rfl (wantN rfl) (fun _ => by kernel_rfl) ?_
      refine SOps.val (v := .int .i64 x5) rfl (wantN rfl) (fun _ => by kernel_rfl) ?_
      refine SOps.val (v := .int .i64 (w64 ((s1.size : Int) - x5))) rfl (wantN rfl) (fun _ => by kernel_rfl) ?_
      refine SOps.val (v := .bool (decide (x4 > (w64 ((s1.size : Int) - x5))))) rfl (wantN rfl) (fun _ => by kernel_rfl) ?_
      refine SOps.val (v := .bool (decide (x4 > (w64 ((s1.size : Int) - x5))))) rfl (wantN rfl) (fun _ => by kernel_rfl) ?_
      refine SOps.nil ?_
      by_cases c12 : x4 > (w64 ((s1.size : Int) - x5))
      · replace h := h.1 c12
        have dc12 : (decide (x4 > (w64 ((s1.size : Int) - x5)))) = true := (decide_eq_true c12)
        refine SW.cond_t (t := decide (x4 > (w64 ((s1.size : Int) - x5)))) rfl dc12 ?_
        refine SW.seq ?_
        refine SW.region ?_
        refine SOps.val (v := .int .i64 x2) rfl (wantN rfl) (fun _ => by kernel_rfl) ?_
        refine SOps.val (v := .string s1) rfl (wantN rfl) (fun _ => by kernel_rfl) ?_
        refine SOps.val (v := .int .i64 (s1.size : Int)) rfl (wantN rfl) (fun _ => by kernel_rfl) ?_
        refine SOps.val (v := errV (some (EV.no 3))) rfl (wantN rfl) (fun _ => by kernel_rfl) ?_
        refine SOps.enter rfl (wantN rfl) (fun _ => by kernel_rfl) (octet_fault.sound F (s1.size : Int) (some (EV.no 3)) H7 _ h) ?_
        clear h
        rintro v H14 ⟨e13, rfl, h⟩
        refine SOps.val (v := .string ByteArray.empty) rfl (wantN rfl) (fun _ => by kernel_rfl) ?_
        refine SOps.val (v := .int .i64 x2) rfl (wantN rfl) (fun _ => by kernel_rfl) ?_
        refine SOps.val (v := errV e13) rfl (wantN rfl) (fun _ => by kernel_rfl) ?_
        refine SOps.nil ?_
        obtain ⟨Hr, hr, h⟩ := h
        exact SW.ret (retQ.mk (.tuple #[.string ByteArray.empty, .int .i64 x2, errV e13]) (res3 rfl rfl rfl rfl) hr ⟨ByteArray.empty, x2, e13, rfl, h⟩)
      · replace h := h.2 c12
        have dc12 : (decide (x4 > (w64 ((s1.size : Int) - x5)))) = false := (decide_eq_false c12)
        refine SW.cond_f (t := decide (x4 > (w64 ((s1.size : Int) - x5)))) rfl dc12 ?_
        refine SW.skip ?_
        refine SW.seq ?_
        refine SW.region ?_
        refine SOps.val (v := .string s1) rfl (wantN rfl) (fun _ => by kernel_rfl) ?_
        refine SOps.val (v := .int .i64 x5) rfl (wantN rfl) (fun _ => by kernel_rfl) ?_
        refine SOps.val (v := .int .i64 x5) rfl (wantN rfl) (fun _ => by kernel_rfl) ?_
        refine SOps.val (v := .int .i64 x4) rfl (wantN rfl) (fun _ => by kernel_rfl) ?_
        refine SOps.val (v := .int .i64 (w64 (x5 + x4))) rfl (wantN rfl) (fun _ => by kernel_rfl) ?_
        obtain ⟨c15, c16, c17, h⟩ := h
        refine SOps.val (v := .string (s1.extract x5.toNat (w64 (x5 + x4)).toNat)) rfl (wantN rfl) (fun w => ev_subS (a := x5) (b := (w64 (x5 + x4))) rfl Tryd.underlying9 rfl (Or.inr ⟨_, rfl⟩) (Or.inr ⟨_, rfl⟩) c15 c16 c17 w) ?_
        refine SOps.val (v := .int .i64 x5) rfl (wantN rfl) (fun _ => by kernel_rfl) ?_
        refine SOps.val (v := .int .i64 x4) rfl (wantN rfl) (fun _ => by kernel_rfl) ?_
        refine SOps.val (v := .int .i64 (w64 (x5 + x4))) rfl (wantN rfl) (fun _ => by kernel_rfl) ?_
        refine SOps.val (v := .string (s1.extract x5.toNat (w64 (x5 + x4)).toNat)) rfl (wantN rfl) (fun _ => by kernel_rfl) ?_
        refine SOps.val (v := .int .i64 (w64 (x5 + x4))) rfl (wantN rfl) (fun _ => by kernel_rfl) ?_
        refine SOps.val (v := errV none) rfl (wantN rfl) (fun _ => by kernel_rfl) ?_
        refine SOps.nil ?_
        obtain ⟨Hr, hr, h⟩ := h
        exact SW.ret (retQ.mk (.tuple #[.string (s1.extract x5.toNat (w64 (x5 + x4)).toNat), .int .i64 (w64 (x5 + x4)), errV none]) (res3 rfl rfl rfl rfl) hr ⟨s1.extract x5.toNat (w64 (x5 + x4)).toNat, w64 (x5 + x4), none, rfl, h⟩)
  · replace h := h.2 v8 rfl
    refine SOps.val (v := .bool true) rfl (wantN rfl) (fun w => ev_errNe (e := some v8) rfl Tryd.underlying24 rfl rfl w) ?_
    refine SOps.val (v := .bool true) rfl (wantN rfl) (fun _ => by kernel_rfl) ?_
    refine SOps.nil ?_
    refine SW.cond_t (t := true) rfl rfl ?_
    refine SW.seq ?_
    refine SW.region ?_
    refine SOps.val (v := .int .i64 x2) rfl (wantN rfl) (fun _ => by kernel_rfl) ?_
    refine SOps.val (v := errV (some v8)) rfl (wantN rfl) (fun _ => by kernel_rfl) ?_
    refine SOps.val (v := .string ByteArray.empty) rfl (wantN rfl) (fun _ => by kernel_rfl) ?_
    refine SOps.val (v := .int .i64 x2) rfl (wantN rfl) (fun _ => by kernel_rfl) ?_
    refine SOps.val (v := errV (some v8)) rfl (wantN rfl) (fun _ => by kernel_rfl) ?_
    refine SOps.nil ?_
    obtain ⟨Hr, hr, h⟩ := h
    exact SW.ret (retQ.mk (.tuple #[.string ByteArray.empty, .int .i64 x2, errV (some v8)]) (res3 rfl rfl rfl rfl) hr ⟨ByteArray.empty, x2, some v8, rfl, h⟩)

end Go.Proofs.YtpnbehgkbfhacaaDoor.K
