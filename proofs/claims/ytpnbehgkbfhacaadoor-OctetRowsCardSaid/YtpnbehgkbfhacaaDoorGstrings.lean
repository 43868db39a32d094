import Derived.Test.YtpnbehgkbfhacaaDoorErr
import Derived.Test.YtpnbehgkbfhacaaDoorSatWrit
set_option linter.unusedVariables false
set_option linter.unusedSimpArgs false
set_option maxRecDepth 100000
namespace Go.Proofs.YtpnbehgkbfhacaaDoor.K
open Go
attribute [local irreducible] SW SOps SQ SCalls retQ

/-! ### (*strings.Builder).copyCheck: function 66 -/
def strings_Builder_copyCheck.wp (F : Nat) (p1 : Option (Nat × Nat)) (H : SH) (K : SH → Prop) : Prop :=
  (p1 = none →
    False
  ) ∧ (∀ b2 o3, p1 = some (b2, o3) →
    ∃ (p4 : Option (Nat × Nat)),
    SH.has H (b2, o3) (pv p4) ∧
    (p4 = none →
      Seen H (b2, o3) ∧
      Lies Tryd.prog H (b2, o3) 91 ∧
      SH.wrs H (b2, o3) 1 ∧
      ∃ Hr, SH.le Hr (SH.setl H (b2, o3) [pv (some (b2, o3))]) ∧ K Hr
    ) ∧ (∀ b6 o7, p4 = some (b6, o7) →
      ∃ (p11 : Option (Nat × Nat)),
      SH.has H (b2, o3) (pv p11) ∧
      (p11 = none →
        False
      ) ∧ (∀ b13 o14, p11 = some (b13, o14) →
        ((b13, o14) : Nat × Nat) = (b2, o3) ∧
        ∃ Hr, SH.le Hr H ∧ K Hr
      )
    )
  )
set_option maxHeartbeats 8000000 in
theorem strings_Builder_copyCheck.sound (F : Nat) (p1 : Option (Nat × Nat)) (H : SH) (K : SH → Prop) (h : strings_Builder_copyCheck.wp F p1 H K) : SCalls Tryd.prog 66 #[pv p1] H (fun v H' => v = .tuple #[] ∧ K H') := by
  unfold strings_Builder_copyCheck.wp at h
  refine SCalls.body Tryd.func66 rfl (Nat.le_of_ble_eq_true rfl) ?_
  refine SW.seq ?_
  refine SW.region ?_
  refine SOps.val (v := pv p1) rfl (wantN rfl) (fun _ => by kernel_rfl) ?_
  rcases p1 with _ | ⟨b2, o3⟩
  · replace h := h.1 rfl
    exact h.elim
  · replace h := h.2 b2 o3 rfl
    refine SOps.val (v := pv (some (b2, o3))) rfl (wantN rfl) (fun _ => by kernel_rfl) ?_
    refine SOps.val (v := pv (some (b2, o3))) rfl (wantN rfl) (fun _ => by kernel_rfl) ?_
    obtain ⟨p4, c5, h⟩ := h
    refine SOps.rd (v := pv p4) rfl (wantN rfl) (fun w hw => ev_load1 rfl (fun _ => by kernel_rfl) (p := (b2, o3)) rfl c5 w hw) ?_
    rcases p4 with _ | ⟨b6, o7⟩
    · replace h := h.1 rfl
      refine SOps.val (v := .bool true) rfl (wantN rfl) (fun _ => by kernel_rfl) ?_
      refine SOps.nil ?_
      refine SW.cond_t (t := true) rfl rfl ?_
      refine SW.region ?_
      refine SOps.val (v := pv (some (b2, o3))) rfl (wantN rfl) (fun _ => by kernel_rfl) ?_
      refine SOps.val (v := pv (some (b2, o3))) rfl (wantN rfl) (fun _ => by kernel_rfl) ?_
      obtain ⟨c8, h⟩ := h
      refine SOps.rd (v := pv (some (b2, o3))) rfl (wantN rfl) (fun w hw => ev_toUns (p := (b2, o3)) rfl Tryd.underlying89 Tryd.underlying100 (by kernel_rfl) rfl c8 w hw) ?_
      refine SOps.val (v := pv (some (b2, o3))) rfl (wantN rfl) (fun _ => by kernel_rfl) ?_
      obtain ⟨c9, h⟩ := h
      refine SOps.rd (v := pv (some (b2, o3))) rfl (wantN rfl) (fun w hw => ev_ofUns (p := (b2, o3)) rfl Tryd.underlying100 Tryd.underlying89 (by kernel_rfl) rfl c9 w hw) ?_
      refine SOps.val (v := pv (some (b2, o3))) rfl (wantN rfl) (fun _ => by kernel_rfl) ?_
      refine SOps.val (v := pv (some (b2, o3))) rfl (wantN rfl) (fun _ => by kernel_rfl) ?_
      obtain ⟨c10, h⟩ := h
      refine SOps.storeL (p := (b2, o3)) (v := pv (some (b2, o3))) (cs := [pv (some (b2, o3))]) rfl rfl (wantN rfl) (size := 1) (by kernel_rfl) rfl rfl rfl rfl (by simp [Value.oneCell', errV_one, pv, sv]) c10 ?_
      refine SOps.nil ?_
      obtain ⟨Hr, hr, h⟩ := h
      exact retQ.mkN (.tuple #[]) (res0 rfl) hr ⟨rfl, h⟩
    · replace h := h.2 b6 o7 rfl
      refine SOps.val (v := .bool false) rfl (wantN rfl) (fun _ => by kernel_rfl) ?_
      refine SOps.nil ?_
      refine SW.cond_f (t := false) rfl rfl ?_
      refine SW.seq ?_
      refine SW.region ?_
      refine SOps.val (v := pv (some (b2, o3))) rfl (wantN rfl) (fun _ => by kernel_rfl) ?_
      refine SOps.val (v := pv (some (b2, o3))) rfl (wantN rfl) (fun _ => by kernel_rfl) ?_
      refine SOps.val (v := pv (some (b2, o3))) rfl (wantN rfl) (fun _ => by kernel_rfl) ?_
      obtain ⟨p11, c12, h⟩ := h
      refine SOps.rd (v := pv p11) rfl (wantN rfl) (fun w hw => ev_load1 rfl (fun _ => by kernel_rfl) (p := (b2, o3)) rfl c12 w hw) ?_
      refine SOps.val (v := pv (some (b2, o3))) rfl (wantN rfl) (fun _ => by kernel_rfl) ?_
      rcases p11 with _ | ⟨b13, o14⟩
      · replace h := h.1 rfl
        refine SOps.val (v := .bool true) rfl (wantN rfl) (fun _ => by kernel_rfl) ?_
        refine SOps.nil ?_
        refine SW.cond_t (t := true) rfl rfl ?_
        exact h.elim
      · replace h := h.2 b13 o14 rfl
        obtain ⟨c15, h⟩ := h
        refine SOps.val (v := .bool false) rfl (wantN rfl) (fun w => ev_ptrSame (p := (b13, o14)) rfl Tryd.underlying89 (by kernel_rfl) rfl (by rw [c15]; rfl) w) ?_
        refine SOps.nil ?_
        refine SW.cond_f (t := false) rfl rfl ?_
        refine SW.skip ?_
        obtain ⟨Hr, hr, h⟩ := h
        exact retQ.mkN (.tuple #[]) (res0 rfl) hr ⟨rfl, h⟩

/-! ### (*strings.Builder).WriteString: function 52 -/
def strings_Builder_WriteString.wp (F : Nat) (p1 : Option (Nat × Nat)) (s2 : ByteArray) (H : SH) (K : Int → Option EV → SH → Prop) : Prop :=
  strings_Builder_copyCheck.wp F p1 H (fun H3 =>
    (p1 = none →
      False
    ) ∧ (∀ b4 o5, p1 = some (b4, o5) →
      ∃ (l6 : Sl),
      SH.has H3 (b4, (o5 + 1)) (sv l6) ∧
      AppendQ H3 5 1 1 l6 s2.size (byteCells s2.data.toList) (fun l8 H9 =>
        SH.wrs H9 (b4, (o5 + 1)) 1 ∧
        ∃ Hr, SH.le Hr (SH.setl H9 (b4, (o5 + 1)) [sv l8]) ∧ K (s2.size : Int) none Hr
      )
    )
  )
set_option maxHeartbeats 8000000 in
theorem strings_Builder_WriteString.sound (F : Nat) (p1 : Option (Nat × Nat)) (s2 : ByteArray) (H : SH) (K : Int → Option EV → SH → Prop) (h : strings_Builder_WriteString.wp F p1 s2 H K) : SCalls Tryd.prog 52 #[pv p1, .string s2] H (fun v H' => ∃ (x13 : Int) (e14 : Option EV), v = .tuple #[.int .i64 x13, errV e14] ∧ K x13 e14 H') := by
  unfold strings_Builder_WriteString.wp at h
  refine SCalls.body Tryd.func52 rfl (Nat.le_of_ble_eq_true rfl) ?_
  refine SW.seq ?_
  refine SW.region ?_
  refine SOps.val (v := .int .i64 0) rfl (wantN rfl) (fun _ => by kernel_rfl) ?_
  refine SOps.val (v := errV none) rfl (wantN rfl) (fun _ => by kernel_rfl) ?_
  refine SOps.nil ?_
  refine SW.seq ?_
  refine SW.region ?_
  refine SOps.val (v := pv p1) rfl (wantN rfl) (fun _ => by kernel_rfl) ?_
  refine SOps.enter rfl (wantN rfl) (fun _ => by kernel_rfl) (strings_Builder_copyCheck.sound F p1 H _ h) ?_
  clear h
  rintro v H3 ⟨rfl, h⟩
  refine SOps.nil ?_
  refine SW.seq ?_
  refine SW.region ?_
  refine SOps.val (v := pv p1) rfl (wantN rfl) (fun _ => by kernel_rfl) ?_
  refine SOps.val (v := pv p1) rfl (wantN rfl) (fun _ => by kernel_rfl) ?_
  rcases p1 with _ | ⟨b4, o5⟩
  · replace h := h.1 rfl
    exact h.elim
  · replace h := h.2 b4 o5 rfl
    refine SOps.val (v := pv (some (b4, o5))) rfl (wantN rfl) (fun _ => by kernel_rfl) ?_
    refine SOps.val (v := pv (some (b4, (o5 + 1)))) rfl (wantN rfl) (fun _ => by kernel_rfl) ?_
    obtain ⟨l6, c7, h⟩ := h
    refine SOps.rd (v := sv l6) rfl (wantN rfl) (fun w hw => ev_load1 rfl (fun _ => by kernel_rfl) (p := (b4, (o5 + 1))) rfl c7 w hw) ?_
    refine SOps.val (v := .string s2) rfl (wantN rfl) (fun _ => by kernel_rfl) ?_
    refine SOps.append (z := .int .u8 0) (size := 1) (bytes := 1) rfl rfl (wantN rfl) Tryd.underlying46 (by kernel_rfl) rfl rfl rfl (.inr ⟨Tryd.underlying9, rfl, _, rfl, rfl, rfl⟩) (AppendQ.mono h ?_)
    clear h
    intro l8 H9 h
    refine SOps.val (v := pv (some (b4, o5))) rfl (wantN rfl) (fun _ => by kernel_rfl) ?_
    refine SOps.val (v := pv (some (b4, (o5 + 1)))) rfl (wantN rfl) (fun _ => by kernel_rfl) ?_
    obtain ⟨c10, h⟩ := h
    refine SOps.storeL (p := (b4, (o5 + 1))) (v := sv l8) (cs := [sv l8]) rfl rfl (wantN rfl) (size := 1) (by kernel_rfl) rfl rfl rfl rfl (by simp [Value.oneCell', errV_one, pv, sv]) c10 ?_
    refine SOps.nil ?_
    refine SW.seq ?_
    refine SW.region ?_
    refine SOps.val (v := .string s2) rfl (wantN rfl) (fun _ => by kernel_rfl) ?_
    refine SOps.val (v := .int .i64 (s2.size : Int)) rfl (wantN rfl) (fun _ => by kernel_rfl) ?_
    refine SOps.val (v := .int .i64 (s2.size : Int)) rfl (wantN rfl) (fun _ => by kernel_rfl) ?_
    refine SOps.val (v := errV none) rfl (wantN rfl) (fun _ => by kernel_rfl) ?_
    refine SOps.nil ?_
    obtain ⟨Hr, hr, h⟩ := h
    exact SW.ret (retQ.mk (.tuple #[.int .i64 (s2.size : Int), errV none]) (res2 rfl rfl rfl) hr ⟨(s2.size : Int), none, rfl, h⟩)

/-! ### (*strings.Builder).String: function 53 -/
def strings_Builder_String.wp (F : Nat) (p1 : Option (Nat × Nat)) (H : SH) (K : ByteArray → SH → Prop) : Prop :=
  (p1 = none →
    False
  ) ∧ (∀ b2 o3, p1 = some (b2, o3) →
    ∃ (l4 : Sl),
    SH.has H (b2, (o3 + 1)) (sv l4) ∧
    (l4.a ≠ none → l4.cap ≠ 0) ∧
    ∃ (l7 : Sl),
    SH.has H (b2, (o3 + 1)) (sv l7) ∧
    ∃ bs10 : List UInt8,
    (l7.len : Int) = (bs10.length : Int) ∧ bs10.length ≤ 9223372036854775807 ∧ UStr H 5 l4.a bs10 ∧
    ∃ Hr, SH.le Hr (SH.fz H l4.a) ∧ K (⟨bs10.toArray⟩ : ByteArray) Hr
  )
set_option maxHeartbeats 8000000 in
theorem strings_Builder_String.sound (F : Nat) (p1 : Option (Nat × Nat)) (H : SH) (K : ByteArray → SH → Prop) (h : strings_Builder_String.wp F p1 H K) : SCalls Tryd.prog 53 #[pv p1] H (fun v H' => ∃ (s15 : ByteArray), v = .string s15 ∧ K s15 H') := by
  unfold strings_Builder_String.wp at h
  refine SCalls.body Tryd.func53 rfl (Nat.le_of_ble_eq_true rfl) ?_
  refine SW.seq ?_
  refine SW.region ?_
  refine SOps.val (v := .string ByteArray.empty) rfl (wantN rfl) (fun _ => by kernel_rfl) ?_
  refine SOps.nil ?_
  refine SW.seq ?_
  rcases p1 with _ | ⟨b2, o3⟩
  · replace h := h.1 rfl
    exact h.elim
  · replace h := h.2 b2 o3 rfl
    obtain ⟨l4, c5, h⟩ := h
    obtain ⟨c6, h⟩ := h
    obtain ⟨l7, c8, h⟩ := h
    refine SW.drawA [.val (pv (some (b2, o3))), .val (pv (some (b2, o3))), .val (pv (some (b2, (o3 + 1)))), .val (sv l4), .val (pv l4.a), .val (pv (some (b2, o3))), .val (pv (some (b2, o3))), .val (pv (some (b2, (o3 + 1)))), .val (sv l7), .val (.int .i64 (l7.len : Int))] (by kernel_rfl) (by kernel_rfl) (And.intro ?_ (And.intro ?_ (And.intro ?_ (And.intro ?_ (And.intro ?_ (And.intro ?_ (And.intro ?_ (And.intro ?_ (And.intro ?_ (And.intro ?_ (trivial))))))))))) ?_
    · clear h
      intro fr' T' H' hle hs hA
      have a0 : fr' 0 = pv (some (b2, o3)) := hs 0 (by kernel_rfl)
      obtain ⟨g', hg'⟩ : ∃ g' : Fr, fr' = g'.upds [(0, pv (some (b2, o3)))] := ⟨_, Fr.upds_self _ _ ⟨a0, trivial⟩⟩
      subst hg'
      exact SA.val (v := pv (some (b2, o3))) rfl (wantN rfl) (fun _ => by kernel_rfl)
    · clear h
      intro fr' T' H' hle hs hA
      have a3 : fr' 3 = pv (some (b2, o3)) := hA 0 (by kernel_rfl)
      obtain ⟨g', hg'⟩ : ∃ g' : Fr, fr' = g'.upds [(3, pv (some (b2, o3)))] := ⟨_, Fr.upds_self _ _ ⟨a3, trivial⟩⟩
      subst hg'
      exact SA.val (v := pv (some (b2, o3))) rfl (wantN rfl) (fun _ => by kernel_rfl)
    · clear h
      intro fr' T' H' hle hs hA
      have a4 : fr' 4 = pv (some (b2, o3)) := hA 1 (by kernel_rfl)
      obtain ⟨g', hg'⟩ : ∃ g' : Fr, fr' = g'.upds [(4, pv (some (b2, o3)))] := ⟨_, Fr.upds_self _ _ ⟨a4, trivial⟩⟩
      subst hg'
      exact SA.val (v := pv (some (b2, (o3 + 1)))) rfl (wantN rfl) (fun _ => by kernel_rfl)
    · clear h
      intro fr' T' H' hle hs hA
      have a5 : fr' 5 = pv (some (b2, (o3 + 1))) := hA 2 (by kernel_rfl)
      obtain ⟨g', hg'⟩ : ∃ g' : Fr, fr' = g'.upds [(5, pv (some (b2, (o3 + 1))))] := ⟨_, Fr.upds_self _ _ ⟨a5, trivial⟩⟩
      subst hg'
      exact SA.rd hle (v := sv l4) rfl (wantN rfl) (fun w hw => ev_load1 rfl (fun _ => by kernel_rfl) (p := (b2, (o3 + 1))) rfl c5 w hw)
    · clear h
      intro fr' T' H' hle hs hA
      have a6 : fr' 6 = sv l4 := hA 3 (by kernel_rfl)
      obtain ⟨g', hg'⟩ : ∃ g' : Fr, fr' = g'.upds [(6, sv l4)] := ⟨_, Fr.upds_self _ _ ⟨a6, trivial⟩⟩
      subst hg'
      exact SA.val (v := pv l4.a) rfl (wantN rfl) (fun w => ev_sdata rfl rfl c6 w)
    · clear h
      intro fr' T' H' hle hs hA
      have a0 : fr' 0 = pv (some (b2, o3)) := hs 0 (by kernel_rfl)
      obtain ⟨g', hg'⟩ : ∃ g' : Fr, fr' = g'.upds [(0, pv (some (b2, o3)))] := ⟨_, Fr.upds_self _ _ ⟨a0, trivial⟩⟩
      subst hg'
      exact SA.val (v := pv (some (b2, o3))) rfl (wantN rfl) (fun _ => by kernel_rfl)
    · clear h
      intro fr' T' H' hle hs hA
      have a8 : fr' 8 = pv (some (b2, o3)) := hA 5 (by kernel_rfl)
      obtain ⟨g', hg'⟩ : ∃ g' : Fr, fr' = g'.upds [(8, pv (some (b2, o3)))] := ⟨_, Fr.upds_self _ _ ⟨a8, trivial⟩⟩
      subst hg'
      exact SA.val (v := pv (some (b2, o3))) rfl (wantN rfl) (fun _ => by kernel_rfl)
    · clear h
      intro fr' T' H' hle hs hA
      have a9 : fr' 9 = pv (some (b2, o3)) := hA 6 (by kernel_rfl)
      obtain ⟨g', hg'⟩ : ∃ g' : Fr, fr' = g'.upds [(9, pv (some (b2, o3)))] := ⟨_, Fr.upds_self _ _ ⟨a9, trivial⟩⟩
      subst hg'
      exact SA.val (v := pv (some (b2, (o3 + 1)))) rfl (wantN rfl) (fun _ => by kernel_rfl)
    · clear h
      intro fr' T' H' hle hs hA
      have a10 : fr' 10 = pv (some (b2, (o3 + 1))) := hA 7 (by kernel_rfl)
      obtain ⟨g', hg'⟩ : ∃ g' : Fr, fr' = g'.upds [(10, pv (some (b2, (o3 + 1))))] := ⟨_, Fr.upds_self _ _ ⟨a10, trivial⟩⟩
      subst hg'
      exact SA.rd hle (v := sv l7) rfl (wantN rfl) (fun w hw => ev_load1 rfl (fun _ => by kernel_rfl) (p := (b2, (o3 + 1))) rfl c8 w hw)
    · clear h
      intro fr' T' H' hle hs hA
      have a11 : fr' 11 = sv l7 := hA 8 (by kernel_rfl)
      obtain ⟨g', hg'⟩ : ∃ g' : Fr, fr' = g'.upds [(11, sv l7)] := ⟨_, Fr.upds_self _ _ ⟨a11, trivial⟩⟩
      subst hg'
      exact SA.val (v := .int .i64 (l7.len : Int)) rfl (wantN rfl) (fun _ => by kernel_rfl)
    · intro fr' T' H' hle hs hA
      have a7 : fr' 7 = pv l4.a := hA 4 (Nat.le_of_ble_eq_true rfl)
      have a12 : fr' 12 = (.int .i64 (l7.len : Int) : Value) := hA 9 (Nat.le_of_ble_eq_true rfl)
      obtain ⟨g', hg'⟩ : ∃ g' : Fr, fr' = g'.upds [(7, pv l4.a), (12, (.int .i64 (l7.len : Int) : Value))] := ⟨_, Fr.upds_self _ _ ⟨a7, a12, trivial⟩⟩
      subst hg'
      refine SOps.forget (H) hle ?_
      clear hle hs hA
      obtain ⟨bs10, c11, c12, c13, h⟩ := h
      refine SOps.ustr (bs := bs10) (E := 5) rfl rfl (wantN rfl) Tryd.underlying114 (by kernel_rfl) rfl rfl c11 c12 c13 ?_
      refine SOps.val (v := .string (⟨bs10.toArray⟩ : ByteArray)) rfl (wantN rfl) (fun _ => by kernel_rfl) ?_
      refine SOps.nil ?_
      obtain ⟨Hr, hr, h⟩ := h
      exact SW.ret (retQ.mk (.string (⟨bs10.toArray⟩ : ByteArray)) (res1 rfl rfl) hr ⟨(⟨bs10.toArray⟩ : ByteArray), rfl, h⟩)

end Go.Proofs.YtpnbehgkbfhacaaDoor.K
