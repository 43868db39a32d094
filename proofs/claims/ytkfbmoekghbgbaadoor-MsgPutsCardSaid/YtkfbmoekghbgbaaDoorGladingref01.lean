import Derived.Test.YtkfbmoekghbgbaaDoorErr
import Derived.Test.YtkfbmoekghbgbaaDoorSatWrit
set_option linter.unusedVariables false
set_option linter.unusedSimpArgs false
set_option maxRecDepth 100000
namespace Go.Proofs.YtkfbmoekghbgbaaDoor.K
open Go
attribute [local irreducible] SW SOps SQ SCalls retQ

/-! ### lading/ladingref01.Short: function 45 -/
def ladingref01_Short.wp : Nat → Int → SH → (ByteArray → SH → Prop) → Prop
  | 0, _, _, _ => False
  | F + 1, x1, H, K =>
    (x1 < 128 →
      ∀ b3, H b3 = none →
      ∃ bs5 : List UInt8,
      (⟨some (b3, 0), 1, 1⟩ : Sl).len = bs5.length ∧
      SH.row (SH.upd H b3 ⟨[.int .u8 (IntKind.u8.wrap x1)], 5, false, 1⟩) (⟨some (b3, 0), 1, 1⟩ : Sl).a (byteCells bs5) ∧
      ∃ Hr, SH.le Hr (SH.upd H b3 ⟨[.int .u8 (IntKind.u8.wrap x1)], 5, false, 1⟩) ∧ K (⟨bs5.toArray⟩ : ByteArray) Hr
    ) ∧ (¬ (x1 < 128) →
      ∃ bs10 : List UInt8,
      ([.int .u8 (IntKind.u8.wrap (w64 ((x1.tmod 128) + 128)))] : List Value) = byteCells bs10 ∧
      ∃ (s12 : ByteArray),
      ( ladingref01_Short.wp F (w64 (x1.tdiv 128)) H (fun s12' H' => s12' = s12 ∧ SH.le H H')) ∧
      (⟨bs10.toArray⟩ : ByteArray).size + s12.size ≤ 9223372036854775807 ∧
      ∃ Hr, SH.le Hr H ∧ K ((⟨bs10.toArray⟩ : ByteArray) ++ s12) Hr
    )
set_option maxHeartbeats 8000000 in
theorem ladingref01_Short.sound (F : Nat) : ∀ (x1 : Int) (H : SH) (K : ByteArray → SH → Prop), ladingref01_Short.wp F x1 H K → SCalls Tryd.prog 45 #[.int .i64 x1] H (fun v H' => ∃ (s17 : ByteArray), v = .string s17 ∧ K s17 H') := by
  induction F with
  | zero => intro x1 H K h; exact h.elim
  | succ F ih =>
    intro x1 H K h
    unfold ladingref01_Short.wp at h
    refine SCalls.body Tryd.func45 rfl (Nat.le_of_ble_eq_true rfl) ?_
    refine SW.seq ?_
    refine SW.region ?_
    refine SOps.val (v := .string ByteArray.empty) rfl (wantN rfl) (fun _ => by kernel_rfl) ?_
    refine SOps.nil ?_
    refine SW.seq ?_
    refine SW.seq ?_
    refine SW.region ?_
    refine SOps.val (v := .int .i64 x1) rfl (wantN rfl) (fun _ => by kernel_rfl) ?_
    refine SOps.val (v := .bool (decide (x1 < 128))) rfl (wantN rfl) (fun _ => by kernel_rfl) ?_
    refine SOps.nil ?_
    by_cases c2 : x1 < 128
    · replace h := h.1 c2
      have dc2 : (decide (x1 < 128)) = true := (decide_eq_true c2)
      refine SW.cond_t (t := decide (x1 < 128)) rfl dc2 ?_
      refine SW.seq ?_
      refine SW.region ?_
      refine SOps.val (v := .int .i64 x1) rfl (wantN rfl) (fun _ => by kernel_rfl) ?_
      refine SOps.val (v := .int .u8 (IntKind.u8.wrap x1)) rfl (wantN rfl) (fun _ => by kernel_rfl) ?_
      refine SOps.lit (E := 5) (cs := #[.int .u8 (IntKind.u8.wrap x1)]) rfl rfl (wantN rfl) (fun _ => by kernel_rfl) (fun b3 c4 => ?_)
      replace h := h b3 c4
      obtain ⟨bs5, c6, c7, h⟩ := h
      refine SOps.rd (v := .string (⟨bs5.toArray⟩ : ByteArray)) rfl (wantN rfl) (fun w hw => ev_str rfl Tryd.underlying42 Tryd.underlying5 Tryd.underlying9 rfl c6 c7 w hw) ?_
      refine SOps.val (v := .string (⟨bs5.toArray⟩ : ByteArray)) rfl (wantN rfl) (fun _ => by kernel_rfl) ?_
      refine SOps.nil ?_
      obtain ⟨Hr, hr, h⟩ := h
      exact SW.ret (retQ.mk (.string (⟨bs5.toArray⟩ : ByteArray)) (res1 rfl rfl) hr ⟨(⟨bs5.toArray⟩ : ByteArray), rfl, h⟩)
    · replace h := h.2 c2
      have dc2 : (decide (x1 < 128)) = false := (decide_eq_false c2)
      refine SW.cond_f (t := decide (x1 < 128)) rfl dc2 ?_
      refine SW.skip ?_
      refine SW.seq ?_
      obtain ⟨bs10, c11, h⟩ := h
      obtain ⟨s12, c13, h⟩ := h
      obtain ⟨c14, h⟩ := h
      refine SW.drawA [.val (.int .i64 x1), .val (.int .i64 (x1.tmod 128)), .val (.int .i64 (w64 ((x1.tmod 128) + 128))), .val (.int .u8 (IntKind.u8.wrap (w64 ((x1.tmod 128) + 128)))), .fresh 4 (fun b c => sv ⟨some (b, 0), 1, 1⟩) (fun c => (⟨[.int .u8 (IntKind.u8.wrap (w64 ((x1.tmod 128) + 128)))], 5, false, 1⟩ : AO)) (fun _ => True), .val (.string (⟨bs10.toArray⟩ : ByteArray)), .val (.int .i64 x1), .val (.int .i64 (w64 (x1.tdiv 128))), .val (.string s12), .val (.string ((⟨bs10.toArray⟩ : ByteArray) ++ s12)), .val (.string ((⟨bs10.toArray⟩ : ByteArray) ++ s12))] (by kernel_rfl) (by kernel_rfl) (And.intro ?_ (And.intro ?_ (And.intro ?_ (And.intro ?_ (And.intro ?_ (And.intro ?_ (And.intro ?_ (And.intro ?_ (And.intro ?_ (And.intro ?_ (And.intro ?_ (trivial)))))))))))) ?_
      · clear h
        intro fr' T' H' hle hs hA
        have a0 : fr' 0 = (.int .i64 x1 : Value) := hs 0 (by kernel_rfl)
        obtain ⟨g', hg'⟩ : ∃ g' : Fr, fr' = g'.upds [(0, (.int .i64 x1 : Value))] := ⟨_, Fr.upds_self _ _ ⟨a0, trivial⟩⟩
        subst hg'
        exact SA.val (v := .int .i64 x1) rfl (wantN rfl) (fun _ => by kernel_rfl)
      · clear h
        intro fr' T' H' hle hs hA
        have a9 : fr' 9 = (.int .i64 x1 : Value) := hA 0 (by kernel_rfl)
        obtain ⟨g', hg'⟩ : ∃ g' : Fr, fr' = g'.upds [(9, (.int .i64 x1 : Value))] := ⟨_, Fr.upds_self _ _ ⟨a9, trivial⟩⟩
        subst hg'
        exact SA.val (v := .int .i64 (x1.tmod 128)) rfl (wantN rfl) (fun w => ev_rem rfl rfl rfl (by decide) w)
      · clear h
        intro fr' T' H' hle hs hA
        have a10 : fr' 10 = (.int .i64 (x1.tmod 128) : Value) := hA 1 (by kernel_rfl)
        obtain ⟨g', hg'⟩ : ∃ g' : Fr, fr' = g'.upds [(10, (.int .i64 (x1.tmod 128) : Value))] := ⟨_, Fr.upds_self _ _ ⟨a10, trivial⟩⟩
        subst hg'
        exact SA.val (v := .int .i64 (w64 ((x1.tmod 128) + 128))) rfl (wantN rfl) (fun _ => by kernel_rfl)
      · clear h
        intro fr' T' H' hle hs hA
        have a11 : fr' 11 = (.int .i64 (w64 ((x1.tmod 128) + 128)) : Value) := hA 2 (by kernel_rfl)
        obtain ⟨g', hg'⟩ : ∃ g' : Fr, fr' = g'.upds [(11, (.int .i64 (w64 ((x1.tmod 128) + 128)) : Value))] := ⟨_, Fr.upds_self _ _ ⟨a11, trivial⟩⟩
        subst hg'
        exact SA.val (v := .int .u8 (IntKind.u8.wrap (w64 ((x1.tmod 128) + 128)))) rfl (wantN rfl) (fun _ => by kernel_rfl)
      · clear h
        intro fr' T' H' hle hs hA
        have a12 : fr' 12 = (.int .u8 (IntKind.u8.wrap (w64 ((x1.tmod 128) + 128))) : Value) := hA 3 (by kernel_rfl)
        obtain ⟨g', hg'⟩ : ∃ g' : Fr, fr' = g'.upds [(12, (.int .u8 (IntKind.u8.wrap (w64 ((x1.tmod 128) + 128))) : Value))] := ⟨_, Fr.upds_self _ _ ⟨a12, trivial⟩⟩
        subst hg'
        exact SA.fresh hle (fun h => SOps.lit (E := 5) (cs := #[.int .u8 (IntKind.u8.wrap (w64 ((x1.tmod 128) + 128)))]) rfl rfl (wantN rfl) (fun _ => by kernel_rfl) (fun b c => h b 0 c trivial))
      · clear h
        intro fr' T' H' hle hs hA
        obtain ⟨b8, n9, a13, nb8, kb8, tb8, ob8⟩ := hA 4 (by kernel_rfl)
        obtain ⟨g', hg'⟩ : ∃ g' : Fr, fr' = g'.upds [(13, sv (⟨some (b8, 0), 1, 1⟩ : Sl))] := ⟨_, Fr.upds_self _ _ ⟨a13, trivial⟩⟩
        subst hg'
        exact SA.rdH (Hc := SH.upd H b8 (⟨[.int .u8 (IntKind.u8.wrap (w64 ((x1.tmod 128) + 128)))], 5, false, 1⟩ : AO)) (v := .string (⟨bs10.toArray⟩ : ByteArray)) (SH.le.upd_in hle kb8) rfl (wantN rfl) (fun w hw => ev_str rfl Tryd.underlying42 Tryd.underlying5 Tryd.underlying9 rfl (cells_len c11) (row_updD c11) w hw)
      · clear h
        intro fr' T' H' hle hs hA
        have a0 : fr' 0 = (.int .i64 x1 : Value) := hs 0 (by kernel_rfl)
        obtain ⟨g', hg'⟩ : ∃ g' : Fr, fr' = g'.upds [(0, (.int .i64 x1 : Value))] := ⟨_, Fr.upds_self _ _ ⟨a0, trivial⟩⟩
        subst hg'
        exact SA.val (v := .int .i64 x1) rfl (wantN rfl) (fun _ => by kernel_rfl)
      · clear h
        intro fr' T' H' hle hs hA
        have a15 : fr' 15 = (.int .i64 x1 : Value) := hA 6 (by kernel_rfl)
        obtain ⟨g', hg'⟩ : ∃ g' : Fr, fr' = g'.upds [(15, (.int .i64 x1 : Value))] := ⟨_, Fr.upds_self _ _ ⟨a15, trivial⟩⟩
        subst hg'
        exact SA.val (v := .int .i64 (w64 (x1.tdiv 128))) rfl (wantN rfl) (fun w => ev_quo rfl rfl rfl (by decide) w)
      · clear h
        intro fr' T' H' hle hs hA
        have a16 : fr' 16 = (.int .i64 (w64 (x1.tdiv 128)) : Value) := hA 7 (by kernel_rfl)
        obtain ⟨g', hg'⟩ : ∃ g' : Fr, fr' = g'.upds [(16, (.int .i64 (w64 (x1.tdiv 128)) : Value))] := ⟨_, Fr.upds_self _ _ ⟨a16, trivial⟩⟩
        subst hg'
        exact SA.enter (Hc := H) (v := .string s12) hle rfl (wantN rfl) (fun _ => by kernel_rfl) ((ih (w64 (x1.tdiv 128)) H _ c13).mono (by rintro v H' ⟨_, rfl, rfl, h'⟩; exact ⟨rfl, h'⟩))
      · clear h
        intro fr' T' H' hle hs hA
        have a14 : fr' 14 = (.string (⟨bs10.toArray⟩ : ByteArray) : Value) := hA 5 (by kernel_rfl)
        have a17 : fr' 17 = (.string s12 : Value) := hA 8 (by kernel_rfl)
        obtain ⟨g', hg'⟩ : ∃ g' : Fr, fr' = g'.upds [(14, (.string (⟨bs10.toArray⟩ : ByteArray) : Value)), (17, (.string s12 : Value))] := ⟨_, Fr.upds_self _ _ ⟨a14, a17, trivial⟩⟩
        subst hg'
        exact SA.val (v := .string ((⟨bs10.toArray⟩ : ByteArray) ++ s12)) rfl (wantN rfl) (fun w => ev_cat rfl rfl rfl c14 w)
      · clear h
        intro fr' T' H' hle hs hA
        have a18 : fr' 18 = (.string ((⟨bs10.toArray⟩ : ByteArray) ++ s12) : Value) := hA 9 (by kernel_rfl)
        obtain ⟨g', hg'⟩ : ∃ g' : Fr, fr' = g'.upds [(18, (.string ((⟨bs10.toArray⟩ : ByteArray) ++ s12) : Value))] := ⟨_, Fr.upds_self _ _ ⟨a18, trivial⟩⟩
        subst hg'
        exact SA.val (v := .string ((⟨bs10.toArray⟩ : ByteArray) ++ s12)) rfl (wantN rfl) (fun _ => by kernel_rfl)
      · intro fr' T' H' hle hs hA
        have a2 : fr' 2 = (.string ((⟨bs10.toArray⟩ : ByteArray) ++ s12) : Value) := hA 10 (Nat.le_of_ble_eq_true rfl)
        obtain ⟨g', hg'⟩ : ∃ g' : Fr, fr' = g'.upds [(2, (.string ((⟨bs10.toArray⟩ : ByteArray) ++ s12) : Value))] := ⟨_, Fr.upds_self _ _ ⟨a2, trivial⟩⟩
        subst hg'
        refine SOps.forget (H) hle ?_
        clear hle hs hA
        refine SOps.nil ?_
        obtain ⟨Hr, hr, h⟩ := h
        exact SW.ret (retQ.mk (.string ((⟨bs10.toArray⟩ : ByteArray) ++ s12)) (res1 rfl rfl) hr ⟨(⟨bs10.toArray⟩ : ByteArray) ++ s12, rfl, h⟩)

/-! ### lading/ladingref01.Text: function 46 -/
def ladingref01_Text.wp (F : Nat) (s1 : ByteArray) (H : SH) (K : ByteArray → SH → Prop) : Prop :=
  ladingref01_Short.wp F (s1.size : Int) H (fun s2 H3 =>
    s2.size + s1.size ≤ 9223372036854775807 ∧
    ∃ Hr, SH.le Hr H3 ∧ K (s2 ++ s1) Hr
  )
set_option maxHeartbeats 8000000 in
theorem ladingref01_Text.sound (F : Nat) (s1 : ByteArray) (H : SH) (K : ByteArray → SH → Prop) (h : ladingref01_Text.wp F s1 H K) : SCalls Tryd.prog 46 #[.string s1] H (fun v H' => ∃ (s6 : ByteArray), v = .string s6 ∧ K s6 H') := by
  unfold ladingref01_Text.wp at h
  refine SCalls.body Tryd.func46 rfl (Nat.le_of_ble_eq_true rfl) ?_
  refine SW.seq ?_
  refine SW.region ?_
  refine SOps.val (v := .string ByteArray.empty) rfl (wantN rfl) (fun _ => by kernel_rfl) ?_
  refine SOps.nil ?_
  refine SW.seq ?_
  refine SW.region ?_
  refine SOps.val (v := .string s1) rfl (wantN rfl) (fun _ => by kernel_rfl) ?_
  refine SOps.val (v := .int .i64 (s1.size : Int)) rfl (wantN rfl) (fun _ => by kernel_rfl) ?_
  refine SOps.enter rfl (wantN rfl) (fun _ => by kernel_rfl) (ladingref01_Short.sound F (s1.size : Int) H _ h) ?_
  clear h
  rintro v H3 ⟨s2, rfl, h⟩
  refine SOps.val (v := .string s1) rfl (wantN rfl) (fun _ => by kernel_rfl) ?_
  obtain ⟨c4, h⟩ := h
  refine SOps.val (v := .string (s2 ++ s1)) rfl (wantN rfl) (fun w => ev_cat rfl rfl rfl c4 w) ?_
  refine SOps.val (v := .string (s2 ++ s1)) rfl (wantN rfl) (fun _ => by kernel_rfl) ?_
  refine SOps.nil ?_
  obtain ⟨Hr, hr, h⟩ := h
  exact SW.ret (retQ.mk (.string (s2 ++ s1)) (res1 rfl rfl) hr ⟨s2 ++ s1, rfl, h⟩)

/-! ### lading/ladingref01.Fixed: function 69 -/
def ladingref01_Fixed.r1 (F : Nat) (K : ByteArray → SH → Prop) (R1 : Int → Int → ByteArray → Int → SH → Prop) (x3 : Int) (x4 : Int) (s5 : ByteArray) (x6 : Int) (H : SH) : Prop :=
  (x6 < x3 →
    ∀ b8, H b8 = none →
    ∃ bs10 : List UInt8,
    (⟨some (b8, 0), 1, 1⟩ : Sl).len = bs10.length ∧
    SH.row (SH.upd H b8 ⟨[.int .u8 (IntKind.u8.wrap (x4.tmod 256))], 5, false, 1⟩) (⟨some (b8, 0), 1, 1⟩ : Sl).a (byteCells bs10) ∧
    s5.size + (⟨bs10.toArray⟩ : ByteArray).size ≤ 9223372036854775807 ∧
    R1 x3 (w64 (x4.tdiv 256)) (s5 ++ (⟨bs10.toArray⟩ : ByteArray)) (w64 (x6 + 1)) (SH.upd H b8 ⟨[.int .u8 (IntKind.u8.wrap (x4.tmod 256))], 5, false, 1⟩)
  ) ∧ (¬ (x6 < x3) →
    ∃ Hr, SH.le Hr H ∧ K s5 Hr
  )
def ladingref01_Fixed.l1 (F : Nat) (K : ByteArray → SH → Prop) : Nat → Int → Int → ByteArray → Int → SH → Prop
  | 0, _, _, _, _, _ => False
  | k + 1, x3, x4, s5, x6, H => ladingref01_Fixed.r1 F K (ladingref01_Fixed.l1 F K k) x3 x4 s5 x6 H
def ladingref01_Fixed.wp (F : Nat) (x1 : Int) (x2 : Int) (H : SH) (K : ByteArray → SH → Prop) : Prop :=
  ladingref01_Fixed.l1 F K F x1 x2 ByteArray.empty 0 H
set_option maxHeartbeats 8000000 in
theorem ladingref01_Fixed.sound (F : Nat) (x1 : Int) (x2 : Int) (H : SH) (K : ByteArray → SH → Prop) (h : ladingref01_Fixed.wp F x1 x2 H K) : SCalls Tryd.prog 69 #[.int .i64 x1, .int .i64 x2] H (fun v H' => ∃ (s17 : ByteArray), v = .string s17 ∧ K s17 H') := by
  unfold ladingref01_Fixed.wp at h
  refine SCalls.body Tryd.func69 rfl (Nat.le_of_ble_eq_true rfl) ?_
  refine SW.seq ?_
  refine SW.region ?_
  refine SOps.val (v := .string ByteArray.empty) rfl (wantN rfl) (fun _ => by kernel_rfl) ?_
  refine SOps.nil ?_
  refine SW.seq ?_
  refine SW.region ?_
  refine SOps.val (v := .string ByteArray.empty) rfl (wantN rfl) (fun _ => by kernel_rfl) ?_
  refine SOps.nil ?_
  refine SW.seq ?_
  refine SW.seq ?_
  refine SW.region ?_
  refine SOps.val (v := .int .i64 0) rfl (wantN rfl) (fun _ => by kernel_rfl) ?_
  refine SOps.nil ?_
  refine SW.block ?_
  refine SW.loop (fun k1 fr H => ∃ (g : Fr) (x3 : Int) (x4 : Int) (s5 : ByteArray) (x6 : Int), fr = g.upds [(0, (.int .i64 x3 : Value)), (1, (.int .i64 x4 : Value)), (5, (.string s5 : Value)), (6, (.int .i64 x6 : Value))] ∧ ladingref01_Fixed.l1 F K k1 x3 x4 s5 x6 H) F ⟨_, x1, x2, ByteArray.empty, 0, (Fr.upds_self _ _ ⟨rfl, rfl, rfl, rfl, trivial⟩), h⟩ ?_
  clear h
  rintro k1 fr H ⟨g, x3, x4, s5, x6, rfl, h⟩
  cases k1 with
  | zero => exact h.elim
  | succ k1 =>
    replace h : ladingref01_Fixed.r1 F K (ladingref01_Fixed.l1 F K k1) x3 x4 s5 x6 H := h
    unfold ladingref01_Fixed.r1 at h
    refine SW.seq ?_
    refine SW.seq ?_
    refine SW.region ?_
    refine SOps.val (v := .int .i64 x6) rfl (wantN rfl) (fun _ => by kernel_rfl) ?_
    refine SOps.val (v := .int .i64 x3) rfl (wantN rfl) (fun _ => by kernel_rfl) ?_
    refine SOps.val (v := .bool (decide (x6 < x3))) rfl (wantN rfl) (fun _ => by kernel_rfl) ?_
    refine SOps.nil ?_
    by_cases c7 : x6 < x3
    · replace h := h.1 c7
      have dc7 : (decide (x6 < x3)) = true := (decide_eq_true c7)
      refine SW.cond_t (t := decide (x6 < x3)) rfl dc7 ?_
      refine SW.skip ?_
      refine SW.seq ?_
      refine SW.block ?_
      refine SW.seq ?_
      refine SW.region ?_
      refine SOps.val (v := .string s5) rfl (wantN rfl) (fun _ => by kernel_rfl) ?_
      refine SOps.val (v := .int .i64 x4) rfl (wantN rfl) (fun _ => by kernel_rfl) ?_
      refine SOps.val (v := .int .i64 (x4.tmod 256)) rfl (wantN rfl) (fun w => ev_rem rfl rfl rfl (by decide) w) ?_
      refine SOps.val (v := .int .u8 (IntKind.u8.wrap (x4.tmod 256))) rfl (wantN rfl) (fun _ => by kernel_rfl) ?_
      refine SOps.lit (E := 5) (cs := #[.int .u8 (IntKind.u8.wrap (x4.tmod 256))]) rfl rfl (wantN rfl) (fun _ => by kernel_rfl) (fun b8 c9 => ?_)
      replace h := h b8 c9
      obtain ⟨bs10, c11, c12, h⟩ := h
      refine SOps.rd (v := .string (⟨bs10.toArray⟩ : ByteArray)) rfl (wantN rfl) (fun w hw => ev_str rfl Tryd.underlying42 Tryd.underlying5 Tryd.underlying9 rfl c11 c12 w hw) ?_
      obtain ⟨c13, h⟩ := h
      refine SOps.val (v := .string (s5 ++ (⟨bs10.toArray⟩ : ByteArray))) rfl (wantN rfl) (fun w => ev_cat rfl rfl rfl c13 w) ?_
      refine SOps.val (v := .string (s5 ++ (⟨bs10.toArray⟩ : ByteArray))) rfl (wantN rfl) (fun _ => by kernel_rfl) ?_
      refine SOps.nil ?_
      refine SW.region ?_
      refine SOps.val (v := .int .i64 x4) rfl (wantN rfl) (fun _ => by kernel_rfl) ?_
      refine SOps.val (v := .int .i64 (w64 (x4.tdiv 256))) rfl (wantN rfl) (fun w => ev_quo rfl rfl rfl (by decide) w) ?_
      refine SOps.val (v := .int .i64 (w64 (x4.tdiv 256))) rfl (wantN rfl) (fun _ => by kernel_rfl) ?_
      refine SOps.nil ?_
      refine SW.region ?_
      refine SOps.val (v := .int .i64 x6) rfl (wantN rfl) (fun _ => by kernel_rfl) ?_
      refine SOps.val (v := .int .i64 (w64 (x6 + 1))) rfl (wantN rfl) (fun _ => by kernel_rfl) ?_
      refine SOps.val (v := .int .i64 (w64 (x6 + 1))) rfl (wantN rfl) (fun _ => by kernel_rfl) ?_
      refine SOps.nil ?_
      exact ⟨k1, Nat.lt_succ_self k1, _, x3, w64 (x4.tdiv 256), s5 ++ (⟨bs10.toArray⟩ : ByteArray), w64 (x6 + 1), (Fr.upds_self _ _ ⟨rfl, rfl, rfl, rfl, trivial⟩), h⟩
    · replace h := h.2 c7
      have dc7 : (decide (x6 < x3)) = false := (decide_eq_false c7)
      refine SW.cond_f (t := decide (x6 < x3)) rfl dc7 ?_
      refine SW.exit ?_
      refine SW.seq ?_
      refine SW.region ?_
      refine SOps.val (v := .string s5) rfl (wantN rfl) (fun _ => by kernel_rfl) ?_
      refine SOps.val (v := .string s5) rfl (wantN rfl) (fun _ => by kernel_rfl) ?_
      refine SOps.nil ?_
      obtain ⟨Hr, hr, h⟩ := h
      exact SW.ret (retQ.mk (.string s5) (res1 rfl rfl) hr ⟨s5, rfl, h⟩)

end Go.Proofs.YtkfbmoekghbgbaaDoor.K
