import Derived.Test.YtkfbmoekghbgbaaSatMap
import Derived.Test.YtkfbmoekghbgbaaGnet
set_option linter.unusedVariables false
set_option linter.unusedSimpArgs false
set_option maxRecDepth 100000
namespace Go.Proofs.Ytkfbmoekghbgbaa.K
open Go
attribute [local irreducible] SW SOps SQ SCalls retQ

/-! ### lading/ladinglaw19.NetMoves: function 4 -/
def ladinglaw19_NetMoves.j1 (F : Nat) (K : Bool → SH → Prop) (R2 : Option (Nat × Nat) → Int → Sl → Int → Int → SH → Prop) (p55 : Option (Nat × Nat)) (x56 : Int) (l57 : Sl) (x58 : Int) (x59 : Int) (H : SH) : Prop :=
  R2 p55 x56 l57 x58 (w64 (x59 + 1)) H
def ladinglaw19_NetMoves.j2 (F : Nat) (K : Bool → SH → Prop) (R2 : Option (Nat × Nat) → Int → Sl → Int → Int → SH → Prop) (p49 : Option (Nat × Nat)) (x50 : Int) (l51 : Sl) (x52 : Int) (x53 : Int) (H : SH) : Prop :=
  ladinglaw19_NetMoves.j1 F K R2 p49 x50 l51 x52 x53 H
def ladinglaw19_NetMoves.r3 (F : Nat) (K : Bool → SH → Prop) (R3 : Option (Nat × Nat) → Int → Nat → Sl → Int → Int → SH → Prop) (p66 : Option (Nat × Nat)) (x67 : Int) (b68 : Nat) (l69 : Sl) (x70 : Int) (x71 : Int) (H : SH) : Prop :=
  (x71 < x70 →
    ∃ p73, l69.a = some p73 ∧ 0 ≤ x71 ∧ x71 < (l69.len : Int) ∧
    ∃ (x77 : Int) (x78 : Int) (s79 : ByteArray),
    SH.row H (some (p73.1, (p73.2 + x71.toNat * 3))) [.int .i64 x77, .int .i64 x78, .string s79] ∧
    ∀ b81, H b81 = none →
    SH.wrs (SH.upd H b81 ⟨[.int .i64 0, .int .i64 0, .string ByteArray.empty], 45, false, 3⟩) (b81, 0) 3 ∧
    net_Net_Take.wp F p66 0 (SH.setl (SH.upd H b81 ⟨[.int .i64 0, .int .i64 0, .string ByteArray.empty], 45, false, 3⟩) (b81, 0) [.int .i64 x77, .int .i64 x78, .string s79]) (fun x84 x85 s86 e87 H88 =>
      ∀ b89, H88 b89 = none →
      SH.wrs (SH.upd H88 b89 ⟨[.int .i64 0, .int .i64 0, .string ByteArray.empty], 45, false, 3⟩) (b89, 0) 3 ∧
      (e87 = none →
        ∃ (x93 : Int) (x94 : Int) (s95 : ByteArray),
        SH.row (SH.setl (SH.upd H88 b89 ⟨[.int .i64 0, .int .i64 0, .string ByteArray.empty], 45, false, 3⟩) (b89, 0) [.int .i64 x84, .int .i64 x85, .string s86]) (some (b89, 0)) [.int .i64 x93, .int .i64 x94, .string s95] ∧
        ∃ (x97 : Int) (x98 : Int) (s99 : ByteArray),
        SH.row (SH.setl (SH.upd H88 b89 ⟨[.int .i64 0, .int .i64 0, .string ByteArray.empty], 45, false, 3⟩) (b89, 0) [.int .i64 x84, .int .i64 x85, .string s86]) (some (b81, 0)) [.int .i64 x97, .int .i64 x98, .string s99] ∧
        ((x93 = x97 ∧ x94 = x98 ∧ s95 = s99) →
          ∃ (s102 : ByteArray),
          SH.has (SH.setl (SH.upd H88 b89 ⟨[.int .i64 0, .int .i64 0, .string ByteArray.empty], 45, false, 3⟩) (b89, 0) [.int .i64 x84, .int .i64 x85, .string s86]) (b89, 2) (.string s102) ∧
          ∃ es104 : List (Value × Value), (SH.setl (SH.upd H88 b89 ⟨[.int .i64 0, .int .i64 0, .string ByteArray.empty], 45, false, 3⟩) (b89, 0) [.int .i64 x84, .int .i64 x85, .string s86]) b68 = some (AO.map es104) ∧ MKeys (.string) (.string s102) es104 ∧
          ∃ (q108 : Bool), (mfind (.string s102) es104).getD (.bool false) = .bool q108 ∧
          (q108 = true →
            ∃ Hr, SH.le Hr (SH.setl (SH.upd H88 b89 ⟨[.int .i64 0, .int .i64 0, .string ByteArray.empty], 45, false, 3⟩) (b89, 0) [.int .i64 x84, .int .i64 x85, .string s86]) ∧ K false Hr
          ) ∧ (¬ (q108 = true) →
            ∃ (x110 : Int),
            SH.has (SH.setl (SH.upd H88 b89 ⟨[.int .i64 0, .int .i64 0, .string ByteArray.empty], 45, false, 3⟩) (b89, 0) [.int .i64 x84, .int .i64 x85, .string s86]) (b89, 0) (.int .i64 x110) ∧
            ∃ (s112 : ByteArray),
            SH.has (SH.setl (SH.upd H88 b89 ⟨[.int .i64 0, .int .i64 0, .string ByteArray.empty], 45, false, 3⟩) (b89, 0) [.int .i64 x84, .int .i64 x85, .string s86]) (b89, 2) (.string s112) ∧
            0 ≤ (0 : Int) ∧
            (0 : Int) < (s112.size : Int) ∧
            (x110 ≠ ((w64 (bt s112 0)).tmod 5) →
              ∃ Hr, SH.le Hr (SH.setl (SH.upd H88 b89 ⟨[.int .i64 0, .int .i64 0, .string ByteArray.empty], 45, false, 3⟩) (b89, 0) [.int .i64 x84, .int .i64 x85, .string s86]) ∧ K false Hr
            ) ∧ (¬ (x110 ≠ ((w64 (bt s112 0)).tmod 5)) →
              ∃ (s117 : ByteArray),
              SH.has (SH.setl (SH.upd H88 b89 ⟨[.int .i64 0, .int .i64 0, .string ByteArray.empty], 45, false, 3⟩) (b89, 0) [.int .i64 x84, .int .i64 x85, .string s86]) (b89, 2) (.string s117) ∧
              ∃ es119 : List (Value × Value), (SH.setl (SH.upd H88 b89 ⟨[.int .i64 0, .int .i64 0, .string ByteArray.empty], 45, false, 3⟩) (b89, 0) [.int .i64 x84, .int .i64 x85, .string s86]) b68 = some (AO.map es119) ∧ MKeys (.string) (.string s117) es119 ∧
              R3 p66 x67 b68 l69 x70 (w64 (x71 + 1)) (SH.upd (SH.setl (SH.upd H88 b89 ⟨[.int .i64 0, .int .i64 0, .string ByteArray.empty], 45, false, 3⟩) (b89, 0) [.int .i64 x84, .int .i64 x85, .string s86]) b68 (AO.map (mput (.string s117) (.bool true) es119)))
            )
          )
        ) ∧ (¬ ((x93 = x97 ∧ x94 = x98 ∧ s95 = s99)) →
          ∃ Hr, SH.le Hr (SH.setl (SH.upd H88 b89 ⟨[.int .i64 0, .int .i64 0, .string ByteArray.empty], 45, false, 3⟩) (b89, 0) [.int .i64 x84, .int .i64 x85, .string s86]) ∧ K false Hr
        )
      ) ∧ (∀ v92, e87 = some v92 →
        ∃ Hr, SH.le Hr (SH.setl (SH.upd H88 b89 ⟨[.int .i64 0, .int .i64 0, .string ByteArray.empty], 45, false, 3⟩) (b89, 0) [.int .i64 x84, .int .i64 x85, .string s86]) ∧ K false Hr
      )
    )
  ) ∧ (¬ (x71 < x70) →
    ∃ es123 : List (Value × Value), H b68 = some (AO.map es123) ∧
    ((es123.length : Int) = x67 →
      net_Net_Len.wp F p66 H (fun x126 H127 =>
        ∃ Hr, SH.le Hr H127 ∧ K (x126 == 0) Hr
      )
    ) ∧ (¬ ((es123.length : Int) = x67) →
      ∃ Hr, SH.le Hr H ∧ K false Hr
    )
  )
def ladinglaw19_NetMoves.l3 (F : Nat) (K : Bool → SH → Prop) : Nat → Option (Nat × Nat) → Int → Nat → Sl → Int → Int → SH → Prop
  | 0, _, _, _, _, _, _, _ => False
  | k + 1, p66, x67, b68, l69, x70, x71, H => ladinglaw19_NetMoves.r3 F K (ladinglaw19_NetMoves.l3 F K k) p66 x67 b68 l69 x70 x71 H
def ladinglaw19_NetMoves.r2 (F : Nat) (K : Bool → SH → Prop) (R2 : Option (Nat × Nat) → Int → Sl → Int → Int → SH → Prop) (p22 : Option (Nat × Nat)) (x23 : Int) (l24 : Sl) (x25 : Int) (x26 : Int) (H : SH) : Prop :=
  (x26 < x25 →
    ∃ p28, l24.a = some p28 ∧ 0 ≤ x26 ∧ x26 < (l24.len : Int) ∧
    ∃ (x32 : Int) (x33 : Int),
    SH.row H (some (p28.1, (p28.2 + x26.toNat * 2))) [.int .u8 x32, .int .u8 x33] ∧
    ∀ b35, H b35 = none →
    SH.wrs (SH.upd H b35 ⟨[.int .u8 0, .int .u8 0], 39, false, 2⟩) (b35, 0) 2 ∧
    (x23 > 0 →
      ∃ (x39 : Int),
      SH.has (SH.setl (SH.upd H b35 ⟨[.int .u8 0, .int .u8 0], 39, false, 2⟩) (b35, 0) [.int .u8 x32, .int .u8 x33]) (b35, 0) (.int .u8 x39) ∧
      x23 ≠ 0 ∧
      ∃ (x42 : Int),
      SH.has (SH.setl (SH.upd H b35 ⟨[.int .u8 0, .int .u8 0], 39, false, 2⟩) (b35, 0) [.int .u8 x32, .int .u8 x33]) (b35, 1) (.int .u8 x42) ∧
      x23 ≠ 0 ∧
      net_Net_Turn.wp F p22 ((w64 x39).tmod x23) ((w64 x42).tmod x23) (SH.setl (SH.upd H b35 ⟨[.int .u8 0, .int .u8 0], 39, false, 2⟩) (b35, 0) [.int .u8 x32, .int .u8 x33]) (fun e46 H47 =>
        (e46 = none →
          ladinglaw19_NetMoves.j2 F K R2 p22 x23 l24 x25 x26 H47
        ) ∧ (∀ v48, e46 = some v48 →
          ∃ Hr, SH.le Hr H47 ∧ K false Hr
        )
      )
    ) ∧ (¬ (x23 > 0) →
      ladinglaw19_NetMoves.j2 F K R2 p22 x23 l24 x25 x26 (SH.setl (SH.upd H b35 ⟨[.int .u8 0, .int .u8 0], 39, false, 2⟩) (b35, 0) [.int .u8 x32, .int .u8 x33])
    )
  ) ∧ (¬ (x26 < x25) →
    net_Net_All.wp F p22 H (fun l62 H63 =>
      ∀ b64, H63 b64 = none →
      ladinglaw19_NetMoves.l3 F K F p22 x23 b64 l62 (l62.len : Int) 0 (SH.upd H63 b64 (AO.map []))
    )
  )
def ladinglaw19_NetMoves.l2 (F : Nat) (K : Bool → SH → Prop) : Nat → Option (Nat × Nat) → Int → Sl → Int → Int → SH → Prop
  | 0, _, _, _, _, _, _ => False
  | k + 1, p22, x23, l24, x25, x26, H => ladinglaw19_NetMoves.r2 F K (ladinglaw19_NetMoves.l2 F K k) p22 x23 l24 x25 x26 H
def ladinglaw19_NetMoves.r1 (F : Nat) (K : Bool → SH → Prop) (R1 : Sl → Option (Nat × Nat) → Int → Int → SH → Prop) (l9 : Sl) (p10 : Option (Nat × Nat)) (x11 : Int) (x12 : Int) (H : SH) : Prop :=
  (x12 < x11 →
    ∀ b14, H b14 = none →
    ∃ bs16 : List UInt8,
    (⟨some (b14, 0), 1, 1⟩ : Sl).len = bs16.length ∧
    SH.row (SH.upd H b14 ⟨[.int .u8 (IntKind.u8.wrap x12)], 5, false, 1⟩) (⟨some (b14, 0), 1, 1⟩ : Sl).a (byteCells bs16) ∧
    net_Net_Send.wp F p10 (x12.tmod 5) ((w64 (x12 + 2)).tmod 5) (⟨bs16.toArray⟩ : ByteArray) (SH.upd H b14 ⟨[.int .u8 (IntKind.u8.wrap x12)], 5, false, 1⟩) (fun e19 H20 =>
      (e19 = none →
        R1 l9 p10 x11 (w64 (x12 + 1)) H20
      ) ∧ (∀ v21, e19 = some v21 →
        ∃ Hr, SH.le Hr H20 ∧ K false Hr
      )
    )
  ) ∧ (¬ (x12 < x11) →
    ladinglaw19_NetMoves.l2 F K F p10 x11 l9 (l9.len : Int) 0 H
  )
def ladinglaw19_NetMoves.l1 (F : Nat) (K : Bool → SH → Prop) : Nat → Sl → Option (Nat × Nat) → Int → Int → SH → Prop
  | 0, _, _, _, _, _ => False
  | k + 1, l9, p10, x11, x12, H => ladinglaw19_NetMoves.r1 F K (ladinglaw19_NetMoves.l1 F K k) l9 p10 x11 x12 H
def ladinglaw19_NetMoves.wp (F : Nat) (x1 : Int) (l2 : Sl) (H : SH) (K : Bool → SH → Prop) : Prop :=
  ladinglaw19_awake.wp F  H (fun q3 H4 =>
    (q3 = true →
      ((l2.len : Int) > 60 →
        ∃ Hr, SH.le Hr H4 ∧ K true Hr
      ) ∧ (¬ ((l2.len : Int) > 60) →
        net_New.wp F  H4 (fun p7 H8 =>
          ladinglaw19_NetMoves.l1 F K F l2 p7 ((w64 x1).tmod 60) 0 H8
        )
      )
    ) ∧ (¬ (q3 = true) →
      ∃ Hr, SH.le Hr H4 ∧ K false Hr
    )
  )
set_option maxHeartbeats 8000000 in
theorem ladinglaw19_NetMoves.sound (F : Nat) (x1 : Int) (l2 : Sl) (H : SH) (K : Bool → SH → Prop) (h : ladinglaw19_NetMoves.wp F x1 l2 H K) : SCalls Try.prog 4 #[.int .u8 x1, sv l2] H (fun v H' => ∃ (q135 : Bool), v = .bool q135 ∧ K q135 H') := by
  unfold ladinglaw19_NetMoves.wp at h
  refine SCalls.body Try.func4 rfl (Nat.le_of_ble_eq_true rfl) ?_
  refine SW.seq ?_
  refine SW.region ?_
  refine SOps.val (v := .bool false) rfl (wantN rfl) (fun _ => by kernel_rfl) ?_
  refine SOps.nil ?_
  refine SW.seq ?_
  refine SW.seq ?_
  refine SW.region ?_
  refine SOps.enter rfl (wantN rfl) (fun _ => by kernel_rfl) (ladinglaw19_awake.sound F  H _ h) ?_
  clear h
  rintro v H4 ⟨q3, rfl, h⟩
  refine SOps.val (v := .bool (!q3)) rfl (wantN rfl) (fun _ => by kernel_rfl) ?_
  refine SOps.nil ?_
  by_cases c5 : q3 = true
  · replace h := h.1 c5
    have dc5 : q3 = true := c5
    refine SW.cond_f (t := !q3) rfl (not_t dc5) ?_
    refine SW.skip ?_
    refine SW.seq ?_
    refine SW.seq ?_
    refine SW.region ?_
    refine SOps.val (v := sv l2) rfl (wantN rfl) (fun _ => by kernel_rfl) ?_
    refine SOps.val (v := .int .i64 (l2.len : Int)) rfl (wantN rfl) (fun _ => by kernel_rfl) ?_
    refine SOps.val (v := .bool (decide ((l2.len : Int) > 60))) rfl (wantN rfl) (fun _ => by kernel_rfl) ?_
    refine SOps.nil ?_
    by_cases c6 : (l2.len : Int) > 60
    · replace h := h.1 c6
      have dc6 : (decide ((l2.len : Int) > 60)) = true := (decide_eq_true c6)
      refine SW.cond_t (t := decide ((l2.len : Int) > 60)) rfl dc6 ?_
      refine SW.seq ?_
      refine SW.region ?_
      refine SOps.val (v := .bool true) rfl (wantN rfl) (fun _ => by kernel_rfl) ?_
      refine SOps.nil ?_
      obtain ⟨Hr, hr, h⟩ := h
      exact SW.ret (retQ.mk (.bool true) (res1 rfl rfl) hr ⟨true, rfl, h⟩)
    · replace h := h.2 c6
      have dc6 : (decide ((l2.len : Int) > 60)) = false := (decide_eq_false c6)
      refine SW.cond_f (t := decide ((l2.len : Int) > 60)) rfl dc6 ?_
      refine SW.skip ?_
      refine SW.seq ?_
      refine SW.region ?_
      refine SOps.enter rfl (wantN rfl) (fun _ => by kernel_rfl) (net_New.sound F  H4 _ h) ?_
      clear h
      rintro v H8 ⟨p7, rfl, h⟩
      refine SOps.val (v := pv p7) rfl (wantN rfl) (fun _ => by kernel_rfl) ?_
      refine SOps.nil ?_
      refine SW.seq ?_
      refine SW.region ?_
      refine SOps.val (v := .int .u8 x1) rfl (wantN rfl) (fun _ => by kernel_rfl) ?_
      refine SOps.val (v := .int .i64 (w64 x1)) rfl (wantN rfl) (fun _ => by kernel_rfl) ?_
      refine SOps.val (v := .int .i64 ((w64 x1).tmod 60)) rfl (wantN rfl) (fun w => ev_rem rfl rfl rfl (by decide) w) ?_
      refine SOps.val (v := .int .i64 ((w64 x1).tmod 60)) rfl (wantN rfl) (fun _ => by kernel_rfl) ?_
      refine SOps.nil ?_
      refine SW.seq ?_
      refine SW.seq ?_
      refine SW.region ?_
      refine SOps.val (v := .int .i64 0) rfl (wantN rfl) (fun _ => by kernel_rfl) ?_
      refine SOps.nil ?_
      refine SW.block ?_
      refine SW.loop (fun k1 fr H => ∃ (g : Fr) (l9 : Sl) (p10 : Option (Nat × Nat)) (x11 : Int) (x12 : Int), fr = g.upds [(1, sv l9), (5, pv p10), (6, (.int .i64 x11 : Value)), (7, (.int .i64 x12 : Value))] ∧ ladinglaw19_NetMoves.l1 F K k1 l9 p10 x11 x12 H) F ⟨_, l2, p7, (w64 x1).tmod 60, 0, (Fr.upds_self _ _ ⟨rfl, rfl, rfl, rfl, trivial⟩), h⟩ ?_
      clear h
      rintro k1 fr H ⟨g, l9, p10, x11, x12, rfl, h⟩
      cases k1 with
      | zero => exact h.elim
      | succ k1 =>
        replace h : ladinglaw19_NetMoves.r1 F K (ladinglaw19_NetMoves.l1 F K k1) l9 p10 x11 x12 H := h
        unfold ladinglaw19_NetMoves.r1 at h
        refine SW.seq ?_
        refine SW.seq ?_
        refine SW.region ?_
        refine SOps.val (v := .int .i64 x12) rfl (wantN rfl) (fun _ => by kernel_rfl) ?_
        refine SOps.val (v := .int .i64 x11) rfl (wantN rfl) (fun _ => by kernel_rfl) ?_
        refine SOps.val (v := .bool (decide (x12 < x11))) rfl (wantN rfl) (fun _ => by kernel_rfl) ?_
        refine SOps.nil ?_
        by_cases c13 : x12 < x11
        · replace h := h.1 c13
          have dc13 : (decide (x12 < x11)) = true := (decide_eq_true c13)
          refine SW.cond_t (t := decide (x12 < x11)) rfl dc13 ?_
          refine SW.skip ?_
          refine SW.seq ?_
          refine SW.block ?_
          refine SW.seq ?_
          refine SW.region ?_
          refine SOps.val (v := pv p10) rfl (wantN rfl) (fun _ => by kernel_rfl) ?_
          refine SOps.val (v := .int .i64 x12) rfl (wantN rfl) (fun _ => by kernel_rfl) ?_
          refine SOps.val (v := .int .i64 (x12.tmod 5)) rfl (wantN rfl) (fun w => ev_rem rfl rfl rfl (by decide) w) ?_
          refine SOps.val (v := .int .i64 x12) rfl (wantN rfl) (fun _ => by kernel_rfl) ?_
          refine SOps.val (v := .int .i64 (w64 (x12 + 2))) rfl (wantN rfl) (fun _ => by kernel_rfl) ?_
          refine SOps.val (v := .int .i64 ((w64 (x12 + 2)).tmod 5)) rfl (wantN rfl) (fun w => ev_rem rfl rfl rfl (by decide) w) ?_
          refine SOps.val (v := .int .i64 x12) rfl (wantN rfl) (fun _ => by kernel_rfl) ?_
          refine SOps.val (v := .int .u8 (IntKind.u8.wrap x12)) rfl (wantN rfl) (fun _ => by kernel_rfl) ?_
          refine SOps.lit (E := 5) (cs := #[.int .u8 (IntKind.u8.wrap x12)]) rfl rfl (wantN rfl) (fun _ => by kernel_rfl) (fun b14 c15 => ?_)
          replace h := h b14 c15
          obtain ⟨bs16, c17, c18, h⟩ := h
          refine SOps.rd (v := .string (⟨bs16.toArray⟩ : ByteArray)) rfl (wantN rfl) (fun w hw => ev_str rfl Try.underlying38 Try.underlying5 Try.underlying9 rfl c17 c18 w hw) ?_
          refine SOps.enter rfl (wantN rfl) (fun _ => by kernel_rfl) (net_Net_Send.sound F p10 (x12.tmod 5) ((w64 (x12 + 2)).tmod 5) (⟨bs16.toArray⟩ : ByteArray) (SH.upd H b14 ⟨[.int .u8 (IntKind.u8.wrap x12)], 5, false, 1⟩) _ h) ?_
          clear h
          rintro v H20 ⟨e19, rfl, h⟩
          rcases e19 with _ | v21
          · replace h := h.1 rfl
            refine SOps.val (v := .bool false) rfl (wantN rfl) (fun w => ev_errNe (e := none) rfl Try.underlying30 rfl rfl w) ?_
            refine SOps.nil ?_
            refine SW.cond_f (t := false) rfl rfl ?_
            refine SW.skip ?_
            refine SW.region ?_
            refine SOps.val (v := .int .i64 x12) rfl (wantN rfl) (fun _ => by kernel_rfl) ?_
            refine SOps.val (v := .int .i64 (w64 (x12 + 1))) rfl (wantN rfl) (fun _ => by kernel_rfl) ?_
            refine SOps.val (v := .int .i64 (w64 (x12 + 1))) rfl (wantN rfl) (fun _ => by kernel_rfl) ?_
            refine SOps.nil ?_
            exact ⟨k1, Nat.lt_succ_self k1, _, l9, p10, x11, w64 (x12 + 1), (Fr.upds_self _ _ ⟨rfl, rfl, rfl, rfl, trivial⟩), h⟩
          · replace h := h.2 v21 rfl
            refine SOps.val (v := .bool true) rfl (wantN rfl) (fun w => ev_errNe (e := some v21) rfl Try.underlying30 rfl rfl w) ?_
            refine SOps.nil ?_
            refine SW.cond_t (t := true) rfl rfl ?_
            refine SW.seq ?_
            refine SW.region ?_
            refine SOps.val (v := .bool false) rfl (wantN rfl) (fun _ => by kernel_rfl) ?_
            refine SOps.nil ?_
            obtain ⟨Hr, hr, h⟩ := h
            exact SW.ret (retQ.mk (.bool false) (res1 rfl rfl) hr ⟨false, rfl, h⟩)
        · replace h := h.2 c13
          have dc13 : (decide (x12 < x11)) = false := (decide_eq_false c13)
          refine SW.cond_f (t := decide (x12 < x11)) rfl dc13 ?_
          refine SW.exit ?_
          refine SW.seq ?_
          refine SW.seq ?_
          refine SW.region ?_
          refine SOps.val (v := sv l9) rfl (wantN rfl) (fun _ => by kernel_rfl) ?_
          refine SOps.val (v := .int .i64 (l9.len : Int)) rfl (wantN rfl) (fun _ => by kernel_rfl) ?_
          refine SOps.val (v := .int .i64 0) rfl (wantN rfl) (fun _ => by kernel_rfl) ?_
          refine SOps.nil ?_
          refine SW.block ?_
          refine SW.loop (fun k2 fr H => ∃ (g : Fr) (p22 : Option (Nat × Nat)) (x23 : Int) (l24 : Sl) (x25 : Int) (x26 : Int), fr = g.upds [(5, pv p22), (6, (.int .i64 x23 : Value)), (42, sv l24), (43, (.int .i64 x25 : Value)), (44, (.int .i64 x26 : Value))] ∧ ladinglaw19_NetMoves.l2 F K k2 p22 x23 l24 x25 x26 H) F ⟨_, p10, x11, l9, (l9.len : Int), 0, (Fr.upds_self _ _ ⟨rfl, rfl, rfl, rfl, rfl, trivial⟩), h⟩ ?_
          clear h
          rintro k2 fr H ⟨g, p22, x23, l24, x25, x26, rfl, h⟩
          cases k2 with
          | zero => exact h.elim
          | succ k2 =>
            replace h : ladinglaw19_NetMoves.r2 F K (ladinglaw19_NetMoves.l2 F K k2) p22 x23 l24 x25 x26 H := h
            unfold ladinglaw19_NetMoves.r2 at h
            refine SW.seq ?_
            refine SW.region ?_
            refine SOps.val (v := .bool (decide (x26 < x25))) rfl (wantN rfl) (fun _ => by kernel_rfl) ?_
            refine SOps.nil ?_
            refine SW.seq ?_
            by_cases c27 : x26 < x25
            · replace h := h.1 c27
              have dc27 : (decide (x26 < x25)) = true := (decide_eq_true c27)
              refine SW.cond_t (t := decide (x26 < x25)) rfl dc27 ?_
              refine SW.skip ?_
              refine SW.seqJ (fun fr H => ∃ (g : Fr) (p55 : Option (Nat × Nat)) (x56 : Int) (l57 : Sl) (x58 : Int) (x59 : Int), fr = g.upds [(5, pv p55), (6, (.int .i64 x56 : Value)), (42, sv l57), (43, (.int .i64 x58 : Value)), (44, (.int .i64 x59 : Value))] ∧ ladinglaw19_NetMoves.j1 F K (ladinglaw19_NetMoves.l2 F K k2) p55 x56 l57 x58 x59 H) ?_ ?_
              · clear h
                rintro fr H ⟨g, p55, x56, l57, x58, x59, rfl, h⟩
                unfold ladinglaw19_NetMoves.j1 at h
                refine SW.region ?_
                refine SOps.val (v := .int .i64 (w64 (x59 + 1))) rfl (wantN rfl) (fun _ => by kernel_rfl) ?_
                refine SOps.val (v := .int .i64 (w64 (x59 + 1))) rfl (wantN rfl) (fun _ => by kernel_rfl) ?_
                refine SOps.nil ?_
                exact ⟨k2, Nat.lt_succ_self k2, _, p55, x56, l57, x58, w64 (x59 + 1), (Fr.upds_self _ _ ⟨rfl, rfl, rfl, rfl, rfl, trivial⟩), h⟩
              · skip
                refine SW.blockJ (fun fr H => ∃ (g : Fr) (p49 : Option (Nat × Nat)) (x50 : Int) (l51 : Sl) (x52 : Int) (x53 : Int), fr = g.upds [(5, pv p49), (6, (.int .i64 x50 : Value)), (42, sv l51), (43, (.int .i64 x52 : Value)), (44, (.int .i64 x53 : Value))] ∧ ladinglaw19_NetMoves.j2 F K (ladinglaw19_NetMoves.l2 F K k2) p49 x50 l51 x52 x53 H) ?_ ?_
                · clear h
                  rintro fr H ⟨g, p49, x50, l51, x52, x53, rfl, h⟩
                  unfold ladinglaw19_NetMoves.j2 at h
                  exact ⟨_, p49, x50, l51, x52, x53, Fr.upds_self _ _ ⟨rfl, rfl, rfl, rfl, rfl, trivial⟩, h⟩
                · skip
                  refine SW.seq ?_
                  refine SW.region ?_
                  obtain ⟨p28, c29, c30, c31, h⟩ := h
                  refine SOps.val (v := pv (some (p28.1, (p28.2 + x26.toNat * 2)))) rfl (wantN rfl) (fun w => ev_iaddr rfl Try.underlying34 (size := 2) (by kernel_rfl) rfl rfl c29 c30 c31 w) ?_
                  obtain ⟨x32, x33, c34, h⟩ := h
                  refine SOps.rd (v := .agg #[.int .u8 x32, .int .u8 x33]) rfl (wantN rfl) (fun w hw => ev_loadN rfl (fun _ => by kernel_rfl) (size := 2) (by kernel_rfl) (p := (p28.1, (p28.2 + x26.toNat * 2))) rfl rfl c34 w hw) ?_
                  refine SOps.alloc rfl rfl (wantN rfl) (z := .agg #[.int .u8 0, .int .u8 0]) (by kernel_rfl) (fun b35 c36 => ?_)
                  replace h := h b35 c36
                  obtain ⟨c37, h⟩ := h
                  refine SOps.storeL (p := (b35, 0)) (v := .agg #[.int .u8 x32, .int .u8 x33]) (cs := [.int .u8 x32, .int .u8 x33]) rfl rfl (wantN rfl) (size := 2) (by kernel_rfl) rfl rfl rfl rfl (by simp [Value.oneCell', errV_one, pv, sv]) c37 ?_
                  refine SOps.nil ?_
                  refine SW.seq ?_
                  by_cases c38 : x23 > 0
                  · replace h := h.1 c38
                    have dc38 : (decide (x23 > 0)) = true := (decide_eq_true c38)
                    obtain ⟨x39, c40, h⟩ := h
                    obtain ⟨c41, h⟩ := h
                    obtain ⟨x42, c43, h⟩ := h
                    obtain ⟨c44, h⟩ := h
                    refine SW.drawA [.val (.int .i64 x23), .val (.bool (decide (x23 > 0))), .val (.bool (decide (x23 > 0))), .val (pv p22), .val (pv (some (b35, 0))), .val (.int .u8 x39), .val (.int .i64 (w64 x39)), .val (.int .i64 x23), .val (.int .i64 ((w64 x39).tmod x23)), .val (pv (some (b35, 1))), .val (.int .u8 x42), .val (.int .i64 (w64 x42)), .val (.int .i64 x23), .val (.int .i64 ((w64 x42).tmod x23))] (by kernel_rfl) (by kernel_rfl) (And.intro ?_ (And.intro ?_ (And.intro ?_ (And.intro ?_ (And.intro ?_ (And.intro ?_ (And.intro ?_ (And.intro ?_ (And.intro ?_ (And.intro ?_ (And.intro ?_ (And.intro ?_ (And.intro ?_ (And.intro ?_ (trivial))))))))))))))) ?_
                    · clear h
                      intro fr' T' H' hle hs hA
                      have a6 : fr' 6 = (.int .i64 x23 : Value) := hs 6 (by kernel_rfl)
                      obtain ⟨g', hg'⟩ : ∃ g' : Fr, fr' = g'.upds [(6, (.int .i64 x23 : Value))] := ⟨_, Fr.upds_self _ _ ⟨a6, trivial⟩⟩
                      subst hg'
                      exact SA.val (v := .int .i64 x23) rfl (wantN rfl) (fun _ => by kernel_rfl)
                    · clear h
                      intro fr' T' H' hle hs hA
                      have a48 : fr' 48 = (.int .i64 x23 : Value) := hA 0 (by kernel_rfl)
                      obtain ⟨g', hg'⟩ : ∃ g' : Fr, fr' = g'.upds [(48, (.int .i64 x23 : Value))] := ⟨_, Fr.upds_self _ _ ⟨a48, trivial⟩⟩
                      subst hg'
                      exact SA.val (v := .bool (decide (x23 > 0))) rfl (wantN rfl) (fun _ => by kernel_rfl)
                    · clear h
                      intro fr' T' H' hle hs hA
                      have a49 : fr' 49 = (.bool (decide (x23 > 0)) : Value) := hA 1 (by kernel_rfl)
                      obtain ⟨g', hg'⟩ : ∃ g' : Fr, fr' = g'.upds [(49, (.bool (decide (x23 > 0)) : Value))] := ⟨_, Fr.upds_self _ _ ⟨a49, trivial⟩⟩
                      subst hg'
                      exact SA.val (v := .bool (decide (x23 > 0))) rfl (wantN rfl) (fun _ => by kernel_rfl)
                    · clear h
                      intro fr' T' H' hle hs hA
                      have a5 : fr' 5 = pv p22 := hs 5 (by kernel_rfl)
                      have a50 : fr' 50 = (.bool (decide (x23 > 0)) : Value) := hA 2 (by kernel_rfl)
                      obtain ⟨g', hg'⟩ : ∃ g' : Fr, fr' = g'.upds [(5, pv p22), (50, (.bool (decide (x23 > 0)) : Value))] := ⟨_, Fr.upds_self _ _ ⟨a5, a50, trivial⟩⟩
                      subst hg'
                      exact SA.val (v := pv p22) rfl (wantY (c := decide (x23 > 0)) rfl rfl rfl dc38) (fun _ => by kernel_rfl)
                    · clear h
                      intro fr' T' H' hle hs hA
                      have a9 : fr' 9 = pv (some (b35, 0)) := hs 9 (by kernel_rfl)
                      have a50 : fr' 50 = (.bool (decide (x23 > 0)) : Value) := hA 2 (by kernel_rfl)
                      obtain ⟨g', hg'⟩ : ∃ g' : Fr, fr' = g'.upds [(9, pv (some (b35, 0))), (50, (.bool (decide (x23 > 0)) : Value))] := ⟨_, Fr.upds_self _ _ ⟨a9, a50, trivial⟩⟩
                      subst hg'
                      exact SA.val (v := pv (some (b35, 0))) rfl (wantY (c := decide (x23 > 0)) rfl rfl rfl dc38) (fun _ => by kernel_rfl)
                    · clear h
                      intro fr' T' H' hle hs hA
                      have a50 : fr' 50 = (.bool (decide (x23 > 0)) : Value) := hA 2 (by kernel_rfl)
                      have a52 : fr' 52 = pv (some (b35, 0)) := hA 4 (by kernel_rfl)
                      obtain ⟨g', hg'⟩ : ∃ g' : Fr, fr' = g'.upds [(50, (.bool (decide (x23 > 0)) : Value)), (52, pv (some (b35, 0)))] := ⟨_, Fr.upds_self _ _ ⟨a50, a52, trivial⟩⟩
                      subst hg'
                      exact SA.rd hle (v := .int .u8 x39) rfl (wantY (c := decide (x23 > 0)) rfl rfl rfl dc38) (fun w hw => ev_load1 rfl (fun _ => by kernel_rfl) (p := (b35, 0)) rfl c40 w hw)
                    · clear h
                      intro fr' T' H' hle hs hA
                      have a50 : fr' 50 = (.bool (decide (x23 > 0)) : Value) := hA 2 (by kernel_rfl)
                      have a53 : fr' 53 = (.int .u8 x39 : Value) := hA 5 (by kernel_rfl)
                      obtain ⟨g', hg'⟩ : ∃ g' : Fr, fr' = g'.upds [(50, (.bool (decide (x23 > 0)) : Value)), (53, (.int .u8 x39 : Value))] := ⟨_, Fr.upds_self _ _ ⟨a50, a53, trivial⟩⟩
                      subst hg'
                      exact SA.val (v := .int .i64 (w64 x39)) rfl (wantY (c := decide (x23 > 0)) rfl rfl rfl dc38) (fun _ => by kernel_rfl)
                    · clear h
                      intro fr' T' H' hle hs hA
                      have a6 : fr' 6 = (.int .i64 x23 : Value) := hs 6 (by kernel_rfl)
                      have a50 : fr' 50 = (.bool (decide (x23 > 0)) : Value) := hA 2 (by kernel_rfl)
                      obtain ⟨g', hg'⟩ : ∃ g' : Fr, fr' = g'.upds [(6, (.int .i64 x23 : Value)), (50, (.bool (decide (x23 > 0)) : Value))] := ⟨_, Fr.upds_self _ _ ⟨a6, a50, trivial⟩⟩
                      subst hg'
                      exact SA.val (v := .int .i64 x23) rfl (wantY (c := decide (x23 > 0)) rfl rfl rfl dc38) (fun _ => by kernel_rfl)
                    · clear h
                      intro fr' T' H' hle hs hA
                      have a50 : fr' 50 = (.bool (decide (x23 > 0)) : Value) := hA 2 (by kernel_rfl)
                      have a54 : fr' 54 = (.int .i64 (w64 x39) : Value) := hA 6 (by kernel_rfl)
                      have a55 : fr' 55 = (.int .i64 x23 : Value) := hA 7 (by kernel_rfl)
                      obtain ⟨g', hg'⟩ : ∃ g' : Fr, fr' = g'.upds [(50, (.bool (decide (x23 > 0)) : Value)), (54, (.int .i64 (w64 x39) : Value)), (55, (.int .i64 x23 : Value))] := ⟨_, Fr.upds_self _ _ ⟨a50, a54, a55, trivial⟩⟩
                      subst hg'
                      exact SA.val (v := .int .i64 ((w64 x39).tmod x23)) rfl (wantY (c := decide (x23 > 0)) rfl rfl rfl dc38) (fun w => ev_rem rfl rfl rfl c41 w)
                    · clear h
                      intro fr' T' H' hle hs hA
                      have a9 : fr' 9 = pv (some (b35, 0)) := hs 9 (by kernel_rfl)
                      have a50 : fr' 50 = (.bool (decide (x23 > 0)) : Value) := hA 2 (by kernel_rfl)
                      obtain ⟨g', hg'⟩ : ∃ g' : Fr, fr' = g'.upds [(9, pv (some (b35, 0))), (50, (.bool (decide (x23 > 0)) : Value))] := ⟨_, Fr.upds_self _ _ ⟨a9, a50, trivial⟩⟩
                      subst hg'
                      exact SA.val (v := pv (some (b35, 1))) rfl (wantY (c := decide (x23 > 0)) rfl rfl rfl dc38) (fun _ => by kernel_rfl)
                    · clear h
                      intro fr' T' H' hle hs hA
                      have a50 : fr' 50 = (.bool (decide (x23 > 0)) : Value) := hA 2 (by kernel_rfl)
                      have a57 : fr' 57 = pv (some (b35, 1)) := hA 9 (by kernel_rfl)
                      obtain ⟨g', hg'⟩ : ∃ g' : Fr, fr' = g'.upds [(50, (.bool (decide (x23 > 0)) : Value)), (57, pv (some (b35, 1)))] := ⟨_, Fr.upds_self _ _ ⟨a50, a57, trivial⟩⟩
                      subst hg'
                      exact SA.rd hle (v := .int .u8 x42) rfl (wantY (c := decide (x23 > 0)) rfl rfl rfl dc38) (fun w hw => ev_load1 rfl (fun _ => by kernel_rfl) (p := (b35, 1)) rfl c43 w hw)
                    · clear h
                      intro fr' T' H' hle hs hA
                      have a50 : fr' 50 = (.bool (decide (x23 > 0)) : Value) := hA 2 (by kernel_rfl)
                      have a58 : fr' 58 = (.int .u8 x42 : Value) := hA 10 (by kernel_rfl)
                      obtain ⟨g', hg'⟩ : ∃ g' : Fr, fr' = g'.upds [(50, (.bool (decide (x23 > 0)) : Value)), (58, (.int .u8 x42 : Value))] := ⟨_, Fr.upds_self _ _ ⟨a50, a58, trivial⟩⟩
                      subst hg'
                      exact SA.val (v := .int .i64 (w64 x42)) rfl (wantY (c := decide (x23 > 0)) rfl rfl rfl dc38) (fun _ => by kernel_rfl)
                    · clear h
                      intro fr' T' H' hle hs hA
                      have a6 : fr' 6 = (.int .i64 x23 : Value) := hs 6 (by kernel_rfl)
                      have a50 : fr' 50 = (.bool (decide (x23 > 0)) : Value) := hA 2 (by kernel_rfl)
                      obtain ⟨g', hg'⟩ : ∃ g' : Fr, fr' = g'.upds [(6, (.int .i64 x23 : Value)), (50, (.bool (decide (x23 > 0)) : Value))] := ⟨_, Fr.upds_self _ _ ⟨a6, a50, trivial⟩⟩
                      subst hg'
                      exact SA.val (v := .int .i64 x23) rfl (wantY (c := decide (x23 > 0)) rfl rfl rfl dc38) (fun _ => by kernel_rfl)
                    · clear h
                      intro fr' T' H' hle hs hA
                      have a50 : fr' 50 = (.bool (decide (x23 > 0)) : Value) := hA 2 (by kernel_rfl)
                      have a59 : fr' 59 = (.int .i64 (w64 x42) : Value) := hA 11 (by kernel_rfl)
                      have a60 : fr' 60 = (.int .i64 x23 : Value) := hA 12 (by kernel_rfl)
                      obtain ⟨g', hg'⟩ : ∃ g' : Fr, fr' = g'.upds [(50, (.bool (decide (x23 > 0)) : Value)), (59, (.int .i64 (w64 x42) : Value)), (60, (.int .i64 x23 : Value))] := ⟨_, Fr.upds_self _ _ ⟨a50, a59, a60, trivial⟩⟩
                      subst hg'
                      exact SA.val (v := .int .i64 ((w64 x42).tmod x23)) rfl (wantY (c := decide (x23 > 0)) rfl rfl rfl dc38) (fun w => ev_rem rfl rfl rfl c44 w)
                    · intro fr' T' H' hle hs hA
                      have a5 : fr' 5 = pv p22 := hs 5 (by kernel_rfl)
                      have a6 : fr' 6 = (.int .i64 x23 : Value) := hs 6 (by kernel_rfl)
                      have a42 : fr' 42 = sv l24 := hs 42 (by kernel_rfl)
                      have a43 : fr' 43 = (.int .i64 x25 : Value) := hs 43 (by kernel_rfl)
                      have a44 : fr' 44 = (.int .i64 x26 : Value) := hs 44 (by kernel_rfl)
                      have a50 : fr' 50 = (.bool (decide (x23 > 0)) : Value) := hA 2 (Nat.le_of_ble_eq_true rfl)
                      have a51 : fr' 51 = pv p22 := hA 3 (Nat.le_of_ble_eq_true rfl)
                      have a56 : fr' 56 = (.int .i64 ((w64 x39).tmod x23) : Value) := hA 8 (Nat.le_of_ble_eq_true rfl)
                      have a61 : fr' 61 = (.int .i64 ((w64 x42).tmod x23) : Value) := hA 13 (Nat.le_of_ble_eq_true rfl)
                      obtain ⟨g', hg'⟩ : ∃ g' : Fr, fr' = g'.upds [(5, pv p22), (6, (.int .i64 x23 : Value)), (42, sv l24), (43, (.int .i64 x25 : Value)), (44, (.int .i64 x26 : Value)), (50, (.bool (decide (x23 > 0)) : Value)), (51, pv p22), (56, (.int .i64 ((w64 x39).tmod x23) : Value)), (61, (.int .i64 ((w64 x42).tmod x23) : Value))] := ⟨_, Fr.upds_self _ _ ⟨a5, a6, a42, a43, a44, a50, a51, a56, a61, trivial⟩⟩
                      subst hg'
                      refine SOps.forget (SH.setl (SH.upd H b35 ⟨[.int .u8 0, .int .u8 0], 39, false, 2⟩) (b35, 0) [.int .u8 x32, .int .u8 x33]) hle ?_
                      clear hle hs hA
                      refine SOps.enter rfl (wantY (c := decide (x23 > 0)) rfl rfl rfl dc38) (fun _ => by kernel_rfl) (net_Net_Turn.sound F p22 ((w64 x39).tmod x23) ((w64 x42).tmod x23) (SH.setl (SH.upd H b35 ⟨[.int .u8 0, .int .u8 0], 39, false, 2⟩) (b35, 0) [.int .u8 x32, .int .u8 x33]) _ h) ?_
                      clear h
                      rintro v H47 ⟨e46, rfl, h⟩
                      rcases e46 with _ | v48
                      · replace h := h.1 rfl
                        refine SOps.val (v := .bool false) rfl (wantY (c := decide (x23 > 0)) rfl rfl rfl dc38) (fun w => ev_errNe (e := none) rfl Try.underlying30 rfl rfl w) ?_
                        refine SOps.val (v := .bool false) rfl (wantN rfl) (fun w => ev_pickT (v := .bool false) rfl (t := decide (x23 > 0)) rfl dc38 rfl w) ?_
                        refine SOps.nil ?_
                        refine SW.cond_f (t := false) rfl rfl ?_
                        refine SW.skip ?_
                        exact ⟨_, p22, x23, l24, x25, x26, Fr.upds_self _ _ ⟨rfl, rfl, rfl, rfl, rfl, trivial⟩, h⟩
                      · replace h := h.2 v48 rfl
                        refine SOps.val (v := .bool true) rfl (wantY (c := decide (x23 > 0)) rfl rfl rfl dc38) (fun w => ev_errNe (e := some v48) rfl Try.underlying30 rfl rfl w) ?_
                        refine SOps.val (v := .bool true) rfl (wantN rfl) (fun w => ev_pickT (v := .bool true) rfl (t := decide (x23 > 0)) rfl dc38 rfl w) ?_
                        refine SOps.nil ?_
                        refine SW.cond_t (t := true) rfl rfl ?_
                        refine SW.seq ?_
                        refine SW.region ?_
                        refine SOps.val (v := .bool false) rfl (wantN rfl) (fun _ => by kernel_rfl) ?_
                        refine SOps.nil ?_
                        obtain ⟨Hr, hr, h⟩ := h
                        exact SW.ret (retQ.mk (.bool false) (res1 rfl rfl) hr ⟨false, rfl, h⟩)
                  · replace h := h.2 c38
                    have dc38 : (decide (x23 > 0)) = false := (decide_eq_false c38)
                    refine SW.drawA [.val (.int .i64 x23), .val (.bool (decide (x23 > 0))), .val (.bool (decide (x23 > 0))), .val (undef), .val (undef), .val (undef), .val (undef), .val (undef), .val (undef), .val (undef), .val (undef), .val (undef), .val (undef), .val (undef)] (by kernel_rfl) (by kernel_rfl) (And.intro ?_ (And.intro ?_ (And.intro ?_ (And.intro ?_ (And.intro ?_ (And.intro ?_ (And.intro ?_ (And.intro ?_ (And.intro ?_ (And.intro ?_ (And.intro ?_ (And.intro ?_ (And.intro ?_ (And.intro ?_ (trivial))))))))))))))) ?_
                    · clear h
                      intro fr' T' H' hle hs hA
                      have a6 : fr' 6 = (.int .i64 x23 : Value) := hs 6 (by kernel_rfl)
                      obtain ⟨g', hg'⟩ : ∃ g' : Fr, fr' = g'.upds [(6, (.int .i64 x23 : Value))] := ⟨_, Fr.upds_self _ _ ⟨a6, trivial⟩⟩
                      subst hg'
                      exact SA.val (v := .int .i64 x23) rfl (wantN rfl) (fun _ => by kernel_rfl)
                    · clear h
                      intro fr' T' H' hle hs hA
                      have a48 : fr' 48 = (.int .i64 x23 : Value) := hA 0 (by kernel_rfl)
                      obtain ⟨g', hg'⟩ : ∃ g' : Fr, fr' = g'.upds [(48, (.int .i64 x23 : Value))] := ⟨_, Fr.upds_self _ _ ⟨a48, trivial⟩⟩
                      subst hg'
                      exact SA.val (v := .bool (decide (x23 > 0))) rfl (wantN rfl) (fun _ => by kernel_rfl)
                    · clear h
                      intro fr' T' H' hle hs hA
                      have a49 : fr' 49 = (.bool (decide (x23 > 0)) : Value) := hA 1 (by kernel_rfl)
                      obtain ⟨g', hg'⟩ : ∃ g' : Fr, fr' = g'.upds [(49, (.bool (decide (x23 > 0)) : Value))] := ⟨_, Fr.upds_self _ _ ⟨a49, trivial⟩⟩
                      subst hg'
                      exact SA.val (v := .bool (decide (x23 > 0))) rfl (wantN rfl) (fun _ => by kernel_rfl)
                    · clear h
                      intro fr' T' H' hle hs hA
                      have a5 : fr' 5 = pv p22 := hs 5 (by kernel_rfl)
                      have a50 : fr' 50 = (.bool (decide (x23 > 0)) : Value) := hA 2 (by kernel_rfl)
                      obtain ⟨g', hg'⟩ : ∃ g' : Fr, fr' = g'.upds [(5, pv p22), (50, (.bool (decide (x23 > 0)) : Value))] := ⟨_, Fr.upds_self _ _ ⟨a5, a50, trivial⟩⟩
                      subst hg'
                      exact SA.off rfl (wantX (c := decide (x23 > 0)) rfl rfl rfl dc38)
                    · clear h
                      intro fr' T' H' hle hs hA
                      have a9 : fr' 9 = pv (some (b35, 0)) := hs 9 (by kernel_rfl)
                      have a50 : fr' 50 = (.bool (decide (x23 > 0)) : Value) := hA 2 (by kernel_rfl)
                      obtain ⟨g', hg'⟩ : ∃ g' : Fr, fr' = g'.upds [(9, pv (some (b35, 0))), (50, (.bool (decide (x23 > 0)) : Value))] := ⟨_, Fr.upds_self _ _ ⟨a9, a50, trivial⟩⟩
                      subst hg'
                      exact SA.off rfl (wantX (c := decide (x23 > 0)) rfl rfl rfl dc38)
                    · clear h
                      intro fr' T' H' hle hs hA
                      have a50 : fr' 50 = (.bool (decide (x23 > 0)) : Value) := hA 2 (by kernel_rfl)
                      have a52 : fr' 52 = undef := hA 4 (by kernel_rfl)
                      obtain ⟨g', hg'⟩ : ∃ g' : Fr, fr' = g'.upds [(50, (.bool (decide (x23 > 0)) : Value)), (52, undef)] := ⟨_, Fr.upds_self _ _ ⟨a50, a52, trivial⟩⟩
                      subst hg'
                      exact SA.off rfl (wantX (c := decide (x23 > 0)) rfl rfl rfl dc38)
                    · clear h
                      intro fr' T' H' hle hs hA
                      have a50 : fr' 50 = (.bool (decide (x23 > 0)) : Value) := hA 2 (by kernel_rfl)
                      have a53 : fr' 53 = undef := hA 5 (by kernel_rfl)
                      obtain ⟨g', hg'⟩ : ∃ g' : Fr, fr' = g'.upds [(50, (.bool (decide (x23 > 0)) : Value)), (53, undef)] := ⟨_, Fr.upds_self _ _ ⟨a50, a53, trivial⟩⟩
                      subst hg'
                      exact SA.off rfl (wantX (c := decide (x23 > 0)) rfl rfl rfl dc38)
                    · clear h
                      intro fr' T' H' hle hs hA
                      have a6 : fr' 6 = (.int .i64 x23 : Value) := hs 6 (by kernel_rfl)
                      have a50 : fr' 50 = (.bool (decide (x23 > 0)) : Value) := hA 2 (by kernel_rfl)
                      obtain ⟨g', hg'⟩ : ∃ g' : Fr, fr' = g'.upds [(6, (.int .i64 x23 : Value)), (50, (.bool (decide (x23 > 0)) : Value))] := ⟨_, Fr.upds_self _ _ ⟨a6, a50, trivial⟩⟩
                      subst hg'
                      exact SA.off rfl (wantX (c := decide (x23 > 0)) rfl rfl rfl dc38)
                    · clear h
                      intro fr' T' H' hle hs hA
                      have a50 : fr' 50 = (.bool (decide (x23 > 0)) : Value) := hA 2 (by kernel_rfl)
                      have a54 : fr' 54 = undef := hA 6 (by kernel_rfl)
                      have a55 : fr' 55 = undef := hA 7 (by kernel_rfl)
                      obtain ⟨g', hg'⟩ : ∃ g' : Fr, fr' = g'.upds [(50, (.bool (decide (x23 > 0)) : Value)), (54, undef), (55, undef)] := ⟨_, Fr.upds_self _ _ ⟨a50, a54, a55, trivial⟩⟩
                      subst hg'
                      exact SA.off rfl (wantX (c := decide (x23 > 0)) rfl rfl rfl dc38)
                    · clear h
                      intro fr' T' H' hle hs hA
                      have a9 : fr' 9 = pv (some (b35, 0)) := hs 9 (by kernel_rfl)
                      have a50 : fr' 50 = (.bool (decide (x23 > 0)) : Value) := hA 2 (by kernel_rfl)
                      obtain ⟨g', hg'⟩ : ∃ g' : Fr, fr' = g'.upds [(9, pv (some (b35, 0))), (50, (.bool (decide (x23 > 0)) : Value))] := ⟨_, Fr.upds_self _ _ ⟨a9, a50, trivial⟩⟩
                      subst hg'
                      exact SA.off rfl (wantX (c := decide (x23 > 0)) rfl rfl rfl dc38)
                    · clear h
                      intro fr' T' H' hle hs hA
                      have a50 : fr' 50 = (.bool (decide (x23 > 0)) : Value) := hA 2 (by kernel_rfl)
                      have a57 : fr' 57 = undef := hA 9 (by kernel_rfl)
                      obtain ⟨g', hg'⟩ : ∃ g' : Fr, fr' = g'.upds [(50, (.bool (decide (x23 > 0)) : Value)), (57, undef)] := ⟨_, Fr.upds_self _ _ ⟨a50, a57, trivial⟩⟩
                      subst hg'
                      exact SA.off rfl (wantX (c := decide (x23 > 0)) rfl rfl rfl dc38)
                    · clear h
                      intro fr' T' H' hle hs hA
                      have a50 : fr' 50 = (.bool (decide (x23 > 0)) : Value) := hA 2 (by kernel_rfl)
                      have a58 : fr' 58 = undef := hA 10 (by kernel_rfl)
                      obtain ⟨g', hg'⟩ : ∃ g' : Fr, fr' = g'.upds [(50, (.bool (decide (x23 > 0)) : Value)), (58, undef)] := ⟨_, Fr.upds_self _ _ ⟨a50, a58, trivial⟩⟩
                      subst hg'
                      exact SA.off rfl (wantX (c := decide (x23 > 0)) rfl rfl rfl dc38)
                    · clear h
                      intro fr' T' H' hle hs hA
                      have a6 : fr' 6 = (.int .i64 x23 : Value) := hs 6 (by kernel_rfl)
                      have a50 : fr' 50 = (.bool (decide (x23 > 0)) : Value) := hA 2 (by kernel_rfl)
                      obtain ⟨g', hg'⟩ : ∃ g' : Fr, fr' = g'.upds [(6, (.int .i64 x23 : Value)), (50, (.bool (decide (x23 > 0)) : Value))] := ⟨_, Fr.upds_self _ _ ⟨a6, a50, trivial⟩⟩
                      subst hg'
                      exact SA.off rfl (wantX (c := decide (x23 > 0)) rfl rfl rfl dc38)
                    · clear h
                      intro fr' T' H' hle hs hA
                      have a50 : fr' 50 = (.bool (decide (x23 > 0)) : Value) := hA 2 (by kernel_rfl)
                      have a59 : fr' 59 = undef := hA 11 (by kernel_rfl)
                      have a60 : fr' 60 = undef := hA 12 (by kernel_rfl)
                      obtain ⟨g', hg'⟩ : ∃ g' : Fr, fr' = g'.upds [(50, (.bool (decide (x23 > 0)) : Value)), (59, undef), (60, undef)] := ⟨_, Fr.upds_self _ _ ⟨a50, a59, a60, trivial⟩⟩
                      subst hg'
                      exact SA.off rfl (wantX (c := decide (x23 > 0)) rfl rfl rfl dc38)
                    · intro fr' T' H' hle hs hA
                      have a5 : fr' 5 = pv p22 := hs 5 (by kernel_rfl)
                      have a6 : fr' 6 = (.int .i64 x23 : Value) := hs 6 (by kernel_rfl)
                      have a42 : fr' 42 = sv l24 := hs 42 (by kernel_rfl)
                      have a43 : fr' 43 = (.int .i64 x25 : Value) := hs 43 (by kernel_rfl)
                      have a44 : fr' 44 = (.int .i64 x26 : Value) := hs 44 (by kernel_rfl)
                      have a50 : fr' 50 = (.bool (decide (x23 > 0)) : Value) := hA 2 (Nat.le_of_ble_eq_true rfl)
                      have a51 : fr' 51 = undef := hA 3 (Nat.le_of_ble_eq_true rfl)
                      have a56 : fr' 56 = undef := hA 8 (Nat.le_of_ble_eq_true rfl)
                      have a61 : fr' 61 = undef := hA 13 (Nat.le_of_ble_eq_true rfl)
                      obtain ⟨g', hg'⟩ : ∃ g' : Fr, fr' = g'.upds [(5, pv p22), (6, (.int .i64 x23 : Value)), (42, sv l24), (43, (.int .i64 x25 : Value)), (44, (.int .i64 x26 : Value)), (50, (.bool (decide (x23 > 0)) : Value)), (51, undef), (56, undef), (61, undef)] := ⟨_, Fr.upds_self _ _ ⟨a5, a6, a42, a43, a44, a50, a51, a56, a61, trivial⟩⟩
                      subst hg'
                      refine SOps.forget (SH.setl (SH.upd H b35 ⟨[.int .u8 0, .int .u8 0], 39, false, 2⟩) (b35, 0) [.int .u8 x32, .int .u8 x33]) hle ?_
                      clear hle hs hA
                      refine SOps.off rfl (wantX (c := decide (x23 > 0)) rfl rfl rfl dc38) ?_
                      refine SOps.off rfl (wantX (c := decide (x23 > 0)) rfl rfl rfl dc38) ?_
                      refine SOps.val (v := .bool false) rfl (wantN rfl) (fun w => ev_pickF (v := .bool false) rfl (t := decide (x23 > 0)) rfl dc38 rfl w) ?_
                      refine SOps.nil ?_
                      refine SW.cond_f (t := false) rfl rfl ?_
                      refine SW.skip ?_
                      exact ⟨_, p22, x23, l24, x25, x26, Fr.upds_self _ _ ⟨rfl, rfl, rfl, rfl, rfl, trivial⟩, h⟩
            · replace h := h.2 c27
              have dc27 : (decide (x26 < x25)) = false := (decide_eq_false c27)
              refine SW.cond_f (t := decide (x26 < x25)) rfl dc27 ?_
              refine SW.exit ?_
              refine SW.seq ?_
              refine SW.region ?_
              refine SOps.val (v := pv p22) rfl (wantN rfl) (fun _ => by kernel_rfl) ?_
              refine SOps.enter rfl (wantN rfl) (fun _ => by kernel_rfl) (net_Net_All.sound F p22 H _ h) ?_
              clear h
              rintro v H63 ⟨l62, rfl, h⟩
              refine SOps.val (v := sv l62) rfl (wantN rfl) (fun _ => by kernel_rfl) ?_
              refine SOps.nil ?_
              refine SW.seq ?_
              refine SW.region ?_
              refine SOps.makeMap rfl rfl (wantN rfl) (fun b64 c65 => ?_)
              replace h := h b64 c65
              refine SOps.val (v := .map (some b64)) rfl (wantN rfl) (fun _ => by kernel_rfl) ?_
              refine SOps.nil ?_
              refine SW.seq ?_
              refine SW.seq ?_
              refine SW.region ?_
              refine SOps.val (v := sv l62) rfl (wantN rfl) (fun _ => by kernel_rfl) ?_
              refine SOps.val (v := .int .i64 (l62.len : Int)) rfl (wantN rfl) (fun _ => by kernel_rfl) ?_
              refine SOps.val (v := .int .i64 0) rfl (wantN rfl) (fun _ => by kernel_rfl) ?_
              refine SOps.nil ?_
              refine SW.block ?_
              refine SW.loop (fun k3 fr H => ∃ (g : Fr) (p66 : Option (Nat × Nat)) (x67 : Int) (b68 : Nat) (l69 : Sl) (x70 : Int) (x71 : Int), fr = g.upds [(5, pv p66), (6, (.int .i64 x67 : Value)), (11, (.map (some b68) : Value)), (69, sv l69), (70, (.int .i64 x70 : Value)), (71, (.int .i64 x71 : Value))] ∧ ladinglaw19_NetMoves.l3 F K k3 p66 x67 b68 l69 x70 x71 H) F ⟨_, p22, x23, b64, l62, (l62.len : Int), 0, (Fr.upds_self _ _ ⟨rfl, rfl, rfl, rfl, rfl, rfl, trivial⟩), h⟩ ?_
              clear h
              rintro k3 fr H ⟨g, p66, x67, b68, l69, x70, x71, rfl, h⟩
              cases k3 with
              | zero => exact h.elim
              | succ k3 =>
                replace h : ladinglaw19_NetMoves.r3 F K (ladinglaw19_NetMoves.l3 F K k3) p66 x67 b68 l69 x70 x71 H := h
                unfold ladinglaw19_NetMoves.r3 at h
                refine SW.seq ?_
                refine SW.region ?_
                refine SOps.val (v := .bool (decide (x71 < x70))) rfl (wantN rfl) (fun _ => by kernel_rfl) ?_
                refine SOps.nil ?_
                refine SW.seq ?_
                by_cases c72 : x71 < x70
                · replace h := h.1 c72
                  have dc72 : (decide (x71 < x70)) = true := (decide_eq_true c72)
                  refine SW.cond_t (t := decide (x71 < x70)) rfl dc72 ?_
                  refine SW.skip ?_
                  refine SW.seq ?_
                  refine SW.block ?_
                  refine SW.seq ?_
                  refine SW.region ?_
                  obtain ⟨p73, c74, c75, c76, h⟩ := h
                  refine SOps.val (v := pv (some (p73.1, (p73.2 + x71.toNat * 3)))) rfl (wantN rfl) (fun w => ev_iaddr rfl Try.underlying41 (size := 3) (by kernel_rfl) rfl rfl c74 c75 c76 w) ?_
                  obtain ⟨x77, x78, s79, c80, h⟩ := h
                  refine SOps.rd (v := .agg #[.int .i64 x77, .int .i64 x78, .string s79]) rfl (wantN rfl) (fun w hw => ev_loadN rfl (fun _ => by kernel_rfl) (size := 3) (by kernel_rfl) (p := (p73.1, (p73.2 + x71.toNat * 3))) rfl rfl c80 w hw) ?_
                  refine SOps.alloc rfl rfl (wantN rfl) (z := .agg #[.int .i64 0, .int .i64 0, .string ByteArray.empty]) (by kernel_rfl) (fun b81 c82 => ?_)
                  replace h := h b81 c82
                  obtain ⟨c83, h⟩ := h
                  refine SOps.storeL (p := (b81, 0)) (v := .agg #[.int .i64 x77, .int .i64 x78, .string s79]) (cs := [.int .i64 x77, .int .i64 x78, .string s79]) rfl rfl (wantN rfl) (size := 3) (by kernel_rfl) rfl rfl rfl rfl (by simp [Value.oneCell', errV_one, pv, sv]) c83 ?_
                  refine SOps.nil ?_
                  refine SW.seq ?_
                  refine SW.region ?_
                  refine SOps.val (v := pv p66) rfl (wantN rfl) (fun _ => by kernel_rfl) ?_
                  refine SOps.enter rfl (wantN rfl) (fun _ => by kernel_rfl) (net_Net_Take.sound F p66 0 (SH.setl (SH.upd H b81 ⟨[.int .i64 0, .int .i64 0, .string ByteArray.empty], 45, false, 3⟩) (b81, 0) [.int .i64 x77, .int .i64 x78, .string s79]) _ h) ?_
                  clear h
                  rintro v H88 ⟨x84, x85, s86, e87, rfl, h⟩
                  refine SOps.val (v := .tuple #[.agg #[.int .i64 x84, .int .i64 x85, .string s86], errV e87]) rfl (wantN rfl) (fun _ => by kernel_rfl) ?_
                  refine SOps.val (v := .agg #[.int .i64 x84, .int .i64 x85, .string s86]) rfl (wantN rfl) (fun _ => by kernel_rfl) ?_
                  refine SOps.val (v := errV e87) rfl (wantN rfl) (fun _ => by kernel_rfl) ?_
                  refine SOps.alloc rfl rfl (wantN rfl) (z := .agg #[.int .i64 0, .int .i64 0, .string ByteArray.empty]) (by kernel_rfl) (fun b89 c90 => ?_)
                  replace h := h b89 c90
                  obtain ⟨c91, h⟩ := h
                  refine SOps.storeL (p := (b89, 0)) (v := .agg #[.int .i64 x84, .int .i64 x85, .string s86]) (cs := [.int .i64 x84, .int .i64 x85, .string s86]) rfl rfl (wantN rfl) (size := 3) (by kernel_rfl) rfl rfl rfl rfl (by simp [Value.oneCell', errV_one, pv, sv]) c91 ?_
                  refine SOps.val (v := errV e87) rfl (wantN rfl) (fun _ => by kernel_rfl) ?_
                  refine SOps.nil ?_
                  refine SW.seq ?_
                  refine SW.seq ?_
                  refine SW.draw (by kernel_rfl) (by kernel_rfl) ?_
                  refine SQ.val (v := errV e87) rfl (wantN rfl) (fun _ => by kernel_rfl) ?_
                  rcases e87 with _ | v92
                  · replace h := h.1 rfl
                    refine SQ.val (v := .bool false) rfl (wantN rfl) (fun w => ev_errNe (e := none) rfl Try.underlying30 rfl rfl w) ?_
                    refine SQ.val (v := .bool false) rfl (wantN rfl) (fun _ => by kernel_rfl) ?_
                    obtain ⟨x93, x94, s95, c96, h⟩ := h
                    refine SQ.rd (v := .agg #[.int .i64 x93, .int .i64 x94, .string s95]) rfl (wantY (c := false) rfl rfl rfl rfl) (fun w hw => ev_loadN rfl (fun _ => by kernel_rfl) (size := 3) (by kernel_rfl) (p := (b89, 0)) rfl rfl c96 w hw) ?_
                    obtain ⟨x97, x98, s99, c100, h⟩ := h
                    refine SQ.rd (v := .agg #[.int .i64 x97, .int .i64 x98, .string s99]) rfl (wantY (c := false) rfl rfl rfl rfl) (fun w hw => ev_loadN rfl (fun _ => by kernel_rfl) (size := 3) (by kernel_rfl) (p := (b81, 0)) rfl rfl c100 w hw) ?_
                    refine SQ.val (v := .bool (!decide (x93 = x97 ∧ x94 = x98 ∧ s95 = s99))) rfl (wantY (c := false) rfl rfl rfl rfl) (fun w => ev_pktNe rfl rfl rfl w) ?_
                    refine SQ.val (v := .bool (!decide (x93 = x97 ∧ x94 = x98 ∧ s95 = s99))) rfl (wantN rfl) (fun w => ev_pickF (v := .bool (!decide (x93 = x97 ∧ x94 = x98 ∧ s95 = s99))) rfl (t := false) rfl rfl rfl w) ?_
                    refine SQ.val (v := .bool (!decide (x93 = x97 ∧ x94 = x98 ∧ s95 = s99))) rfl (wantN rfl) (fun _ => by kernel_rfl) ?_
                    by_cases c101 : (x93 = x97 ∧ x94 = x98 ∧ s95 = s99)
                    · replace h := h.1 c101
                      have dc101 : (decide (x93 = x97 ∧ x94 = x98 ∧ s95 = s99)) = true := (decide_eq_true c101)
                      refine SQ.val (v := .map (some b68)) rfl (wantY (c := !decide (x93 = x97 ∧ x94 = x98 ∧ s95 = s99)) rfl rfl rfl (not_t dc101)) (fun _ => by kernel_rfl) ?_
                      refine SQ.val (v := pv (some (b89, 2))) rfl (wantY (c := !decide (x93 = x97 ∧ x94 = x98 ∧ s95 = s99)) rfl rfl rfl (not_t dc101)) (fun _ => by kernel_rfl) ?_
                      obtain ⟨s102, c103, h⟩ := h
                      refine SQ.rd (v := .string s102) rfl (wantY (c := !decide (x93 = x97 ∧ x94 = x98 ∧ s95 = s99)) rfl rfl rfl (not_t dc101)) (fun w hw => ev_load1 rfl (fun _ => by kernel_rfl) (p := (b89, 2)) rfl c103 w hw) ?_
                      obtain ⟨es104, c105, c106, q108, c107, h⟩ := h
                      refine SQ.rd (v := .bool q108) rfl (wantY (c := !decide (x93 = x97 ∧ x94 = x98 ∧ s95 = s99)) rfl rfl rfl (not_t dc101)) (fun w hw => ev_lookup (d := .string) rfl Try.underlying43 Try.underlying9 rfl rfl (by kernel_rfl) c105 c106 c107 w hw) ?_
                      refine SQ.val (v := .bool q108) rfl (wantN rfl) (fun w => ev_pickF (v := .bool q108) rfl (t := !decide (x93 = x97 ∧ x94 = x98 ∧ s95 = s99)) rfl (not_t dc101) rfl w) ?_
                      refine SQ.val (v := .bool q108) rfl (wantN rfl) (fun _ => by kernel_rfl) ?_
                      by_cases c109 : q108 = true
                      · replace h := h.1 c109
                        have dc109 : q108 = true := c109
                        refine SQ.off rfl (wantX (c := q108) rfl rfl rfl dc109) ?_
                        refine SQ.off rfl (wantX (c := q108) rfl rfl rfl dc109) ?_
                        refine SQ.off rfl (wantX (c := q108) rfl rfl rfl dc109) ?_
                        refine SQ.off rfl (wantX (c := q108) rfl rfl rfl dc109) ?_
                        refine SQ.off rfl (wantX (c := q108) rfl rfl rfl dc109) ?_
                        refine SQ.off rfl (wantX (c := q108) rfl rfl rfl dc109) ?_
                        refine SQ.off rfl (wantX (c := q108) rfl rfl rfl dc109) ?_
                        refine SQ.off rfl (wantX (c := q108) rfl rfl rfl dc109) ?_
                        refine SQ.val (v := .bool true) rfl (wantN rfl) (fun w => ev_pickT (v := .bool true) rfl (t := q108) rfl dc109 rfl w) ?_
                        refine SQ.nil ?_
                        refine SW.cond_t (t := true) rfl rfl ?_
                        refine SW.seq ?_
                        refine SW.region ?_
                        refine SOps.val (v := .bool false) rfl (wantN rfl) (fun _ => by kernel_rfl) ?_
                        refine SOps.nil ?_
                        obtain ⟨Hr, hr, h⟩ := h
                        exact SW.ret (retQ.mk (.bool false) (res1 rfl rfl) hr ⟨false, rfl, h⟩)
                      · replace h := h.2 c109
                        have dc109 : q108 = false := (Bool.eq_false_iff.mpr c109)
                        refine SQ.val (v := pv (some (b89, 0))) rfl (wantY (c := q108) rfl rfl rfl dc109) (fun _ => by kernel_rfl) ?_
                        obtain ⟨x110, c111, h⟩ := h
                        refine SQ.rd (v := .int .i64 x110) rfl (wantY (c := q108) rfl rfl rfl dc109) (fun w hw => ev_load1 rfl (fun _ => by kernel_rfl) (p := (b89, 0)) rfl c111 w hw) ?_
                        refine SQ.val (v := pv (some (b89, 2))) rfl (wantY (c := q108) rfl rfl rfl dc109) (fun _ => by kernel_rfl) ?_
                        obtain ⟨s112, c113, h⟩ := h
                        refine SQ.rd (v := .string s112) rfl (wantY (c := q108) rfl rfl rfl dc109) (fun w hw => ev_load1 rfl (fun _ => by kernel_rfl) (p := (b89, 2)) rfl c113 w hw) ?_
                        obtain ⟨c114, c115, h⟩ := h
                        refine SQ.val (v := .int .u8 (bt s112 0)) rfl (wantY (c := q108) rfl rfl rfl dc109) (fun w => ev_idxB rfl Try.underlying9 rfl rfl c114 c115 w) ?_
                        refine SQ.val (v := .int .i64 (w64 (bt s112 0))) rfl (wantY (c := q108) rfl rfl rfl dc109) (fun _ => by kernel_rfl) ?_
                        refine SQ.val (v := .int .i64 ((w64 (bt s112 0)).tmod 5)) rfl (wantY (c := q108) rfl rfl rfl dc109) (fun w => ev_rem rfl rfl rfl (by decide) w) ?_
                        refine SQ.val (v := .bool (x110 != ((w64 (bt s112 0)).tmod 5))) rfl (wantY (c := q108) rfl rfl rfl dc109) (fun _ => by kernel_rfl) ?_
                        refine SQ.val (v := .bool (x110 != ((w64 (bt s112 0)).tmod 5))) rfl (wantN rfl) (fun w => ev_pickF (v := .bool (x110 != ((w64 (bt s112 0)).tmod 5))) rfl (t := q108) rfl dc109 rfl w) ?_
                        refine SQ.nil ?_
                        by_cases c116 : x110 ≠ ((w64 (bt s112 0)).tmod 5)
                        · replace h := h.1 c116
                          have dc116 : (x110 != ((w64 (bt s112 0)).tmod 5)) = true := (bne_iff_ne.mpr c116)
                          refine SW.cond_t (t := (x110 != ((w64 (bt s112 0)).tmod 5))) rfl dc116 ?_
                          refine SW.seq ?_
                          refine SW.region ?_
                          refine SOps.val (v := .bool false) rfl (wantN rfl) (fun _ => by kernel_rfl) ?_
                          refine SOps.nil ?_
                          obtain ⟨Hr, hr, h⟩ := h
                          exact SW.ret (retQ.mk (.bool false) (res1 rfl rfl) hr ⟨false, rfl, h⟩)
                        · replace h := h.2 c116
                          have dc116 : (x110 != ((w64 (bt s112 0)).tmod 5)) = false := (by simpa using c116)
                          refine SW.cond_f (t := (x110 != ((w64 (bt s112 0)).tmod 5))) rfl dc116 ?_
                          refine SW.skip ?_
                          refine SW.region ?_
                          refine SOps.val (v := .map (some b68)) rfl (wantN rfl) (fun _ => by kernel_rfl) ?_
                          refine SOps.val (v := pv (some (b89, 2))) rfl (wantN rfl) (fun _ => by kernel_rfl) ?_
                          obtain ⟨s117, c118, h⟩ := h
                          refine SOps.rd (v := .string s117) rfl (wantN rfl) (fun w hw => ev_load1 rfl (fun _ => by kernel_rfl) (p := (b89, 2)) rfl c118 w hw) ?_
                          obtain ⟨es119, c120, c121, h⟩ := h
                          refine SOps.mapUpdate (d := .string) (key := .string s117) (v := .bool true) rfl rfl (wantN rfl) Try.underlying43 Try.underlying9 rfl rfl rfl c120 c121 ?_
                          refine SOps.nil ?_
                          refine SW.region ?_
                          refine SOps.val (v := .int .i64 (w64 (x71 + 1))) rfl (wantN rfl) (fun _ => by kernel_rfl) ?_
                          refine SOps.val (v := .int .i64 (w64 (x71 + 1))) rfl (wantN rfl) (fun _ => by kernel_rfl) ?_
                          refine SOps.nil ?_
                          exact ⟨k3, Nat.lt_succ_self k3, _, p66, x67, b68, l69, x70, w64 (x71 + 1), (Fr.upds_self _ _ ⟨rfl, rfl, rfl, rfl, rfl, rfl, trivial⟩), h⟩
                    · replace h := h.2 c101
                      have dc101 : (decide (x93 = x97 ∧ x94 = x98 ∧ s95 = s99)) = false := (decide_eq_false c101)
                      refine SQ.off rfl (wantX (c := !decide (x93 = x97 ∧ x94 = x98 ∧ s95 = s99)) rfl rfl rfl (not_f dc101)) ?_
                      refine SQ.off rfl (wantX (c := !decide (x93 = x97 ∧ x94 = x98 ∧ s95 = s99)) rfl rfl rfl (not_f dc101)) ?_
                      refine SQ.off rfl (wantX (c := !decide (x93 = x97 ∧ x94 = x98 ∧ s95 = s99)) rfl rfl rfl (not_f dc101)) ?_
                      refine SQ.off rfl (wantX (c := !decide (x93 = x97 ∧ x94 = x98 ∧ s95 = s99)) rfl rfl rfl (not_f dc101)) ?_
                      refine SQ.val (v := .bool true) rfl (wantN rfl) (fun w => ev_pickT (v := .bool true) rfl (t := !decide (x93 = x97 ∧ x94 = x98 ∧ s95 = s99)) rfl (not_f dc101) rfl w) ?_
                      refine SQ.val (v := .bool true) rfl (wantN rfl) (fun _ => by kernel_rfl) ?_
                      refine SQ.off rfl (wantX (c := true) rfl rfl rfl rfl) ?_
                      refine SQ.off rfl (wantX (c := true) rfl rfl rfl rfl) ?_
                      refine SQ.off rfl (wantX (c := true) rfl rfl rfl rfl) ?_
                      refine SQ.off rfl (wantX (c := true) rfl rfl rfl rfl) ?_
                      refine SQ.off rfl (wantX (c := true) rfl rfl rfl rfl) ?_
                      refine SQ.off rfl (wantX (c := true) rfl rfl rfl rfl) ?_
                      refine SQ.off rfl (wantX (c := true) rfl rfl rfl rfl) ?_
                      refine SQ.off rfl (wantX (c := true) rfl rfl rfl rfl) ?_
                      refine SQ.val (v := .bool true) rfl (wantN rfl) (fun w => ev_pickT (v := .bool true) rfl (t := true) rfl rfl rfl w) ?_
                      refine SQ.nil ?_
                      refine SW.cond_t (t := true) rfl rfl ?_
                      refine SW.seq ?_
                      refine SW.region ?_
                      refine SOps.val (v := .bool false) rfl (wantN rfl) (fun _ => by kernel_rfl) ?_
                      refine SOps.nil ?_
                      obtain ⟨Hr, hr, h⟩ := h
                      exact SW.ret (retQ.mk (.bool false) (res1 rfl rfl) hr ⟨false, rfl, h⟩)
                  · replace h := h.2 v92 rfl
                    refine SQ.val (v := .bool true) rfl (wantN rfl) (fun w => ev_errNe (e := some v92) rfl Try.underlying30 rfl rfl w) ?_
                    refine SQ.val (v := .bool true) rfl (wantN rfl) (fun _ => by kernel_rfl) ?_
                    refine SQ.off rfl (wantX (c := true) rfl rfl rfl rfl) ?_
                    refine SQ.off rfl (wantX (c := true) rfl rfl rfl rfl) ?_
                    refine SQ.off rfl (wantX (c := true) rfl rfl rfl rfl) ?_
                    refine SQ.val (v := .bool true) rfl (wantN rfl) (fun w => ev_pickT (v := .bool true) rfl (t := true) rfl rfl rfl w) ?_
                    refine SQ.val (v := .bool true) rfl (wantN rfl) (fun _ => by kernel_rfl) ?_
                    refine SQ.off rfl (wantX (c := true) rfl rfl rfl rfl) ?_
                    refine SQ.off rfl (wantX (c := true) rfl rfl rfl rfl) ?_
                    refine SQ.off rfl (wantX (c := true) rfl rfl rfl rfl) ?_
                    refine SQ.off rfl (wantX (c := true) rfl rfl rfl rfl) ?_
                    refine SQ.val (v := .bool true) rfl (wantN rfl) (fun w => ev_pickT (v := .bool true) rfl (t := true) rfl rfl rfl w) ?_
                    refine SQ.val (v := .bool true) rfl (wantN rfl) (fun _ => by kernel_rfl) ?_
                    refine SQ.off rfl (wantX (c := true) rfl rfl rfl rfl) ?_
                    refine SQ.off rfl (wantX (c := true) rfl rfl rfl rfl) ?_
                    refine SQ.off rfl (wantX (c := true) rfl rfl rfl rfl) ?_
                    refine SQ.off rfl (wantX (c := true) rfl rfl rfl rfl) ?_
                    refine SQ.off rfl (wantX (c := true) rfl rfl rfl rfl) ?_
                    refine SQ.off rfl (wantX (c := true) rfl rfl rfl rfl) ?_
                    refine SQ.off rfl (wantX (c := true) rfl rfl rfl rfl) ?_
                    refine SQ.off rfl (wantX (c := true) rfl rfl rfl rfl) ?_
                    refine SQ.val (v := .bool true) rfl (wantN rfl) (fun w => ev_pickT (v := .bool true) rfl (t := true) rfl rfl rfl w) ?_
                    refine SQ.nil ?_
                    refine SW.cond_t (t := true) rfl rfl ?_
                    refine SW.seq ?_
                    refine SW.region ?_
                    refine SOps.val (v := .bool false) rfl (wantN rfl) (fun _ => by kernel_rfl) ?_
                    refine SOps.nil ?_
                    obtain ⟨Hr, hr, h⟩ := h
                    exact SW.ret (retQ.mk (.bool false) (res1 rfl rfl) hr ⟨false, rfl, h⟩)
                · replace h := h.2 c72
                  have dc72 : (decide (x71 < x70)) = false := (decide_eq_false c72)
                  refine SW.cond_f (t := decide (x71 < x70)) rfl dc72 ?_
                  refine SW.exit ?_
                  refine SW.seq ?_
                  refine SW.region ?_
                  refine SOps.val (v := .map (some b68)) rfl (wantN rfl) (fun _ => by kernel_rfl) ?_
                  obtain ⟨es123, c124, h⟩ := h
                  refine SOps.rd (v := .int .i64 (es123.length : Int)) rfl (wantN rfl) (fun w hw => ev_mlen Try.underlying43 rfl rfl c124 w hw) ?_
                  refine SOps.val (v := .int .i64 x67) rfl (wantN rfl) (fun _ => by kernel_rfl) ?_
                  refine SOps.val (v := .bool ((es123.length : Int) == x67)) rfl (wantN rfl) (fun _ => by kernel_rfl) ?_
                  refine SOps.val (v := .bool ((es123.length : Int) == x67)) rfl (wantN rfl) (fun _ => by kernel_rfl) ?_
                  by_cases c125 : (es123.length : Int) = x67
                  · replace h := h.1 c125
                    have dc125 : ((es123.length : Int) == x67) = true := (beq_iff_eq.mpr c125)
                    refine SOps.val (v := pv p66) rfl (wantY (c := ((es123.length : Int) == x67)) rfl rfl rfl dc125) (fun _ => by kernel_rfl) ?_
                    refine SOps.enter rfl (wantY (c := ((es123.length : Int) == x67)) rfl rfl rfl dc125) (fun _ => by kernel_rfl) (net_Net_Len.sound F p66 H _ h) ?_
                    clear h
                    rintro v H127 ⟨x126, rfl, h⟩
                    refine SOps.val (v := .bool (x126 == 0)) rfl (wantY (c := ((es123.length : Int) == x67)) rfl rfl rfl dc125) (fun _ => by kernel_rfl) ?_
                    refine SOps.val (v := .bool (x126 == 0)) rfl (wantN rfl) (fun w => ev_pickT (v := .bool (x126 == 0)) rfl (t := ((es123.length : Int) == x67)) rfl dc125 rfl w) ?_
                    refine SOps.val (v := .bool (x126 == 0)) rfl (wantN rfl) (fun _ => by kernel_rfl) ?_
                    refine SOps.nil ?_
                    obtain ⟨Hr, hr, h⟩ := h
                    exact SW.ret (retQ.mk (.bool (x126 == 0)) (res1 rfl rfl) hr ⟨(x126 == 0), rfl, h⟩)
                  · replace h := h.2 c125
                    have dc125 : ((es123.length : Int) == x67) = false := (beq_eq_false_iff_ne.mpr c125)
                    refine SOps.off rfl (wantX (c := ((es123.length : Int) == x67)) rfl rfl rfl dc125) ?_
                    refine SOps.off rfl (wantX (c := ((es123.length : Int) == x67)) rfl rfl rfl dc125) ?_
                    refine SOps.off rfl (wantX (c := ((es123.length : Int) == x67)) rfl rfl rfl dc125) ?_
                    refine SOps.val (v := .bool false) rfl (wantN rfl) (fun w => ev_pickF (v := .bool false) rfl (t := ((es123.length : Int) == x67)) rfl dc125 rfl w) ?_
                    refine SOps.val (v := .bool false) rfl (wantN rfl) (fun _ => by kernel_rfl) ?_
                    refine SOps.nil ?_
                    obtain ⟨Hr, hr, h⟩ := h
                    exact SW.ret (retQ.mk (.bool false) (res1 rfl rfl) hr ⟨false, rfl, h⟩)
  · replace h := h.2 c5
    have dc5 : q3 = false := (Bool.eq_false_iff.mpr c5)
    refine SW.cond_t (t := !q3) rfl (not_f dc5) ?_
    refine SW.seq ?_
    refine SW.region ?_
    refine SOps.val (v := .bool false) rfl (wantN rfl) (fun _ => by kernel_rfl) ?_
    refine SOps.nil ?_
    obtain ⟨Hr, hr, h⟩ := h
    exact SW.ret (retQ.mk (.bool false) (res1 rfl rfl) hr ⟨false, rfl, h⟩)

end Go.Proofs.Ytkfbmoekghbgbaa.K
