import Derived.Test.YtkfbmoekghbgbaaGslices2
set_option linter.unusedVariables false
set_option linter.unusedSimpArgs false
set_option maxRecDepth 100000
namespace Go.Proofs.Ytkfbmoekghbgbaa.K
open Go
attribute [local irreducible] SW SOps SQ SCalls retQ

/-! ### lading/net.New: function 14 -/
def net_New.wp (F : Nat) (H : SH) (K : Option (Nat × Nat) → SH → Prop) : Prop :=
  ∀ b1, H b1 = none →
  ∃ Hr, SH.le Hr (SH.upd H b1 ⟨[sv Sl.nil], 70, false, 1⟩) ∧ K (some (b1, 0)) Hr
set_option maxHeartbeats 8000000 in
theorem net_New.sound (F : Nat) (H : SH) (K : Option (Nat × Nat) → SH → Prop) (h : net_New.wp F H K) : SCalls Try.prog 14 #[] H (fun v H' => ∃ (p4 : Option (Nat × Nat)), v = pv p4 ∧ K p4 H') := by
  unfold net_New.wp at h
  refine SCalls.body Try.func14 rfl (Nat.le_of_ble_eq_true rfl) ?_
  refine SW.seq ?_
  refine SW.region ?_
  refine SOps.val (v := pv none) rfl (wantN rfl) (fun _ => by kernel_rfl) ?_
  refine SOps.nil ?_
  refine SW.seq ?_
  refine SW.region ?_
  refine SOps.val (v := .agg #[sv Sl.nil]) rfl (wantN rfl) (fun _ => by kernel_rfl) ?_
  refine SOps.box rfl rfl (wantN rfl) (v := .agg #[sv Sl.nil]) rfl (fun b1 c2 => ?_)
  replace h := h b1 c2
  refine SOps.val (v := pv (some (b1, 0))) rfl (wantN rfl) (fun _ => by kernel_rfl) ?_
  refine SOps.nil ?_
  obtain ⟨Hr, hr, h⟩ := h
  exact SW.ret (retQ.mk (pv (some (b1, 0))) (res1 rfl rfl) hr ⟨some (b1, 0), rfl, h⟩)

/-! ### (*lading/net.Net).push: function 30 -/
def net_Net_push.wp (F : Nat) (p1 : Option (Nat × Nat)) (x2 : Int) (x3 : Int) (s4 : ByteArray) (q5 : Bool) (H : SH) (K : SH → Prop) : Prop :=
  ∀ b6, H b6 = none →
  (p1 = none →
    False
  ) ∧ (∀ b8 o9, p1 = some (b8, o9) →
    ∃ (l10 : Sl),
    SH.has (SH.upd H b6 ⟨[.int .i64 x2, .int .i64 x3, .string s4, .bool q5], 74, false, 4⟩) (b8, o9) (sv l10) ∧
    ∃ (x12 : Int) (x13 : Int) (s14 : ByteArray) (q15 : Bool),
    SH.row (SH.upd H b6 ⟨[.int .i64 x2, .int .i64 x3, .string s4, .bool q5], 74, false, 4⟩) (some (b6, 0)) [.int .i64 x12, .int .i64 x13, .string s14, .bool q15] ∧
    ∀ b17, (SH.upd H b6 ⟨[.int .i64 x2, .int .i64 x3, .string s4, .bool q5], 74, false, 4⟩) b17 = none → 
    ∃ w32, SH.row (SH.upd (SH.upd H b6 ⟨[.int .i64 x2, .int .i64 x3, .string s4, .bool q5], 74, false, 4⟩) b17 (⟨[.int .i64 x12, .int .i64 x13, .string s14, .bool q15], 74, false, 4⟩ : AO)) (⟨some (b17, 0), 1, 1⟩ : Sl).a w32 ∧
    AppendQ (SH.upd (SH.upd H b6 ⟨[.int .i64 x2, .int .i64 x3, .string s4, .bool q5], 74, false, 4⟩) b17 (⟨[.int .i64 x12, .int .i64 x13, .string s14, .bool q15], 74, false, 4⟩ : AO)) 74 4 40 l10 (⟨some (b17, 0), 1, 1⟩ : Sl).len w32 (fun l20 H21 =>
      SH.wrs H21 (b8, o9) 1 ∧
      ∃ (l23 : Sl),
      SH.has (SH.setl H21 (b8, o9) [sv l20]) (b8, o9) (sv l23) ∧
      ∃ (l25 : Sl),
      SH.has (SH.setl H21 (b8, o9) [sv l20]) (b8, o9) (sv l25) ∧
      0 ≤ (imax (w64 ((l25.len : Int) - 300)) 0) ∧
      (imax (w64 ((l25.len : Int) - 300)) 0) ≤ (l23.len : Int) ∧
      (l23.len : Int) ≤ (l23.cap : Int) ∧
      SH.wrs (SH.setl H21 (b8, o9) [sv l20]) (b8, o9) 1 ∧
      ∃ Hr, SH.le Hr (SH.setl (SH.setl H21 (b8, o9) [sv l20]) (b8, o9) [sv (Sl.sub 4 l23 (imax (w64 ((l25.len : Int) - 300)) 0).toNat (l23.len : Int).toNat l23.cap)]) ∧ K Hr
    )
  )
set_option maxHeartbeats 8000000 in
theorem net_Net_push.sound (F : Nat) (p1 : Option (Nat × Nat)) (x2 : Int) (x3 : Int) (s4 : ByteArray) (q5 : Bool) (H : SH) (K : SH → Prop) (h : net_Net_push.wp F p1 x2 x3 s4 q5 H K) : SCalls Try.prog 30 #[pv p1, .agg #[.int .i64 x2, .int .i64 x3, .string s4, .bool q5]] H (fun v H' => v = .tuple #[] ∧ K H') := by
  unfold net_Net_push.wp at h
  refine SCalls.body Try.func30 rfl (Nat.le_of_ble_eq_true rfl) ?_
  refine SW.seq ?_
  refine SW.region ?_
  refine SOps.box rfl rfl (wantN rfl) (v := .agg #[.int .i64 x2, .int .i64 x3, .string s4, .bool q5]) rfl (fun b6 c7 => ?_)
  replace h := h b6 c7
  refine SOps.nil ?_
  refine SW.seq ?_
  rcases p1 with _ | ⟨b8, o9⟩
  · replace h := h.1 rfl
    exact h.elim
  · replace h := h.2 b8 o9 rfl
    obtain ⟨l10, c11, h⟩ := h
    obtain ⟨x12, x13, s14, q15, c16, h⟩ := h
    refine SW.drawE [0] [.val (pv (some (b8, o9))), .val (pv (some (b8, o9))), .val (pv (some (b8, o9))), .val (pv (some (b8, o9))), .val (sv l10), .val (.agg #[.int .i64 x12, .int .i64 x13, .string s14, .bool q15]), .fresh 6 (fun b c => sv ⟨some (b, 0), 1, 1⟩) (fun c => (⟨[.int .i64 x12, .int .i64 x13, .string s14, .bool q15], 74, false, 4⟩ : AO)) (fun _ => True)] (by kernel_rfl) (by kernel_rfl) (by kernel_rfl) ⟨⟨_, _, rfl, rfl, by kernel_rfl, ?_⟩, trivial⟩ (And.intro ?_ (And.intro ?_ (And.intro ?_ (And.intro ?_ (And.intro ?_ (And.intro ?_ (And.intro ?_ (trivial)))))))) ?_
    · clear h
      intro fr' T' H' hle hs hA
      have a0 : fr' 0 = pv (some (b8, o9)) := hs 0 (by kernel_rfl)
      obtain ⟨g', hg'⟩ : ∃ g' : Fr, fr' = g'.upds [(0, pv (some (b8, o9)))] := ⟨_, Fr.upds_self _ _ ⟨a0, trivial⟩⟩
      subst hg'
      exact ⟨wantN rfl, (fun _ => by kernel_rfl)⟩
    · clear h
      intro fr' T' H' hle hs hA
      have a0 : fr' 0 = pv (some (b8, o9)) := hs 0 (by kernel_rfl)
      obtain ⟨g', hg'⟩ : ∃ g' : Fr, fr' = g'.upds [(0, pv (some (b8, o9)))] := ⟨_, Fr.upds_self _ _ ⟨a0, trivial⟩⟩
      subst hg'
      exact SA.val (v := pv (some (b8, o9))) rfl (wantN rfl) (fun _ => by kernel_rfl)
    · clear h
      intro fr' T' H' hle hs hA
      have a0 : fr' 0 = pv (some (b8, o9)) := hs 0 (by kernel_rfl)
      obtain ⟨g', hg'⟩ : ∃ g' : Fr, fr' = g'.upds [(0, pv (some (b8, o9)))] := ⟨_, Fr.upds_self _ _ ⟨a0, trivial⟩⟩
      subst hg'
      exact SA.val (v := pv (some (b8, o9))) rfl (wantN rfl) (fun _ => by kernel_rfl)
    · clear h
      intro fr' T' H' hle hs hA
      have a5 : fr' 5 = pv (some (b8, o9)) := hA 1 (by kernel_rfl)
      obtain ⟨g', hg'⟩ : ∃ g' : Fr, fr' = g'.upds [(5, pv (some (b8, o9)))] := ⟨_, Fr.upds_self _ _ ⟨a5, trivial⟩⟩
      subst hg'
      exact SA.val (v := pv (some (b8, o9))) rfl (wantN rfl) (fun _ => by kernel_rfl)
    · clear h
      intro fr' T' H' hle hs hA
      have a6 : fr' 6 = pv (some (b8, o9)) := hA 2 (by kernel_rfl)
      obtain ⟨g', hg'⟩ : ∃ g' : Fr, fr' = g'.upds [(6, pv (some (b8, o9)))] := ⟨_, Fr.upds_self _ _ ⟨a6, trivial⟩⟩
      subst hg'
      exact SA.val (v := pv (some (b8, o9))) rfl (wantN rfl) (fun _ => by kernel_rfl)
    · clear h
      intro fr' T' H' hle hs hA
      have a7 : fr' 7 = pv (some (b8, o9)) := hA 3 (by kernel_rfl)
      obtain ⟨g', hg'⟩ : ∃ g' : Fr, fr' = g'.upds [(7, pv (some (b8, o9)))] := ⟨_, Fr.upds_self _ _ ⟨a7, trivial⟩⟩
      subst hg'
      exact SA.rd hle (v := sv l10) rfl (wantN rfl) (fun w hw => ev_load1 rfl (fun _ => by kernel_rfl) (p := (b8, o9)) rfl c11 w hw)
    · clear h
      intro fr' T' H' hle hs hA
      have a3 : fr' 3 = pv (some (b6, 0)) := hs 3 (by kernel_rfl)
      obtain ⟨g', hg'⟩ : ∃ g' : Fr, fr' = g'.upds [(3, pv (some (b6, 0)))] := ⟨_, Fr.upds_self _ _ ⟨a3, trivial⟩⟩
      subst hg'
      exact SA.rd hle (v := .agg #[.int .i64 x12, .int .i64 x13, .string s14, .bool q15]) rfl (wantN rfl) (fun w hw => ev_loadN rfl (fun _ => by kernel_rfl) (size := 4) (by kernel_rfl) (p := (b6, 0)) rfl rfl c16 w hw)
    · clear h
      intro fr' T' H' hle hs hA
      have a9 : fr' 9 = (.agg #[.int .i64 x12, .int .i64 x13, .string s14, .bool q15] : Value) := hA 5 (by kernel_rfl)
      obtain ⟨g', hg'⟩ : ∃ g' : Fr, fr' = g'.upds [(9, (.agg #[.int .i64 x12, .int .i64 x13, .string s14, .bool q15] : Value))] := ⟨_, Fr.upds_self _ _ ⟨a9, trivial⟩⟩
      subst hg'
      exact SA.fresh hle (fun h => SOps.lit (E := 74) (cs := #[.int .i64 x12, .int .i64 x13, .string s14, .bool q15]) rfl rfl (wantN rfl) (fun _ => by kernel_rfl) (fun b c => h b 0 c trivial))
    · intro fr' T' H' hle hs hA
      have a0 : fr' 0 = pv (some (b8, o9)) := hs 0 (by kernel_rfl)
      have a4 : fr' 4 = pv (some (b8, o9)) := hA 0 (Nat.le_of_ble_eq_true rfl)
      have a8 : fr' 8 = sv l10 := hA 4 (Nat.le_of_ble_eq_true rfl)
      obtain ⟨b17, n18, a10, nb17, kb17, tb17, ob17⟩ := hA 6 (Nat.le_of_ble_eq_true rfl)
      obtain ⟨g', hg'⟩ : ∃ g' : Fr, fr' = g'.upds [(0, pv (some (b8, o9))), (4, pv (some (b8, o9))), (8, sv l10), (10, sv (⟨some (b17, 0), 1, 1⟩ : Sl))] := ⟨_, Fr.upds_self _ _ ⟨a0, a4, a8, a10, trivial⟩⟩
      subst hg'
      refine SOps.forget (SH.upd (SH.upd H b6 ⟨[.int .i64 x2, .int .i64 x3, .string s4, .bool q5], 74, false, 4⟩) b17 (⟨[.int .i64 x12, .int .i64 x13, .string s14, .bool q15], 74, false, 4⟩ : AO)) (SH.le.upd_in hle kb17) ?_
      replace h := h b17 nb17
      clear hle hs hA
      obtain ⟨w32, c33, h⟩ := h
      refine SOps.append (z := .agg #[.int .i64 0, .int .i64 0, .string ByteArray.empty, .bool false]) (size := 4) (bytes := 40) rfl rfl (wantN rfl) Try.underlying68 (by kernel_rfl) rfl rfl rfl (.inl ⟨⟨_, Try.underlying68⟩, _, rfl, rfl, c33⟩) (AppendQ.mono h ?_)
      clear h
      intro l20 H21 h
      refine SOps.val (v := pv (some (b8, o9))) rfl (wantN rfl) (fun _ => by kernel_rfl) ?_
      refine SOps.val (v := pv (some (b8, o9))) rfl (wantN rfl) (fun _ => by kernel_rfl) ?_
      obtain ⟨c22, h⟩ := h
      refine SOps.storeL (p := (b8, o9)) (v := sv l20) (cs := [sv l20]) rfl rfl (wantN rfl) (size := 1) (by kernel_rfl) rfl rfl rfl rfl (by simp [Value.oneCell', errV_one, pv, sv]) c22 ?_
      refine SOps.nil ?_
      obtain ⟨l23, c24, h⟩ := h
      obtain ⟨l25, c26, h⟩ := h
      obtain ⟨c27, c28, c29, h⟩ := h
      refine SW.drawA [.val (pv (some (b8, o9))), .val (pv (some (b8, o9))), .val (pv (some (b8, o9))), .val (pv (some (b8, o9))), .val (sv l23), .val (pv (some (b8, o9))), .val (pv (some (b8, o9))), .val (pv (some (b8, o9))), .val (sv l25), .val (.int .i64 (l25.len : Int)), .val (.int .i64 (w64 ((l25.len : Int) - 300))), .val (.int .i64 (imax (w64 ((l25.len : Int) - 300)) 0)), .val (sv (Sl.sub 4 l23 (imax (w64 ((l25.len : Int) - 300)) 0).toNat (l23.len : Int).toNat l23.cap)), .val (pv (some (b8, o9))), .val (pv (some (b8, o9)))] (by kernel_rfl) (by kernel_rfl) (And.intro ?_ (And.intro ?_ (And.intro ?_ (And.intro ?_ (And.intro ?_ (And.intro ?_ (And.intro ?_ (And.intro ?_ (And.intro ?_ (And.intro ?_ (And.intro ?_ (And.intro ?_ (And.intro ?_ (And.intro ?_ (And.intro ?_ (trivial)))))))))))))))) ?_
      · clear h
        intro fr' T' H' hle hs hA
        have a0 : fr' 0 = pv (some (b8, o9)) := hs 0 (by kernel_rfl)
        obtain ⟨g', hg'⟩ : ∃ g' : Fr, fr' = g'.upds [(0, pv (some (b8, o9)))] := ⟨_, Fr.upds_self _ _ ⟨a0, trivial⟩⟩
        subst hg'
        exact SA.val (v := pv (some (b8, o9))) rfl (wantN rfl) (fun _ => by kernel_rfl)
      · clear h
        intro fr' T' H' hle hs hA
        have a0 : fr' 0 = pv (some (b8, o9)) := hs 0 (by kernel_rfl)
        obtain ⟨g', hg'⟩ : ∃ g' : Fr, fr' = g'.upds [(0, pv (some (b8, o9)))] := ⟨_, Fr.upds_self _ _ ⟨a0, trivial⟩⟩
        subst hg'
        exact SA.val (v := pv (some (b8, o9))) rfl (wantN rfl) (fun _ => by kernel_rfl)
      · clear h
        intro fr' T' H' hle hs hA
        have a15 : fr' 15 = pv (some (b8, o9)) := hA 1 (by kernel_rfl)
        obtain ⟨g', hg'⟩ : ∃ g' : Fr, fr' = g'.upds [(15, pv (some (b8, o9)))] := ⟨_, Fr.upds_self _ _ ⟨a15, trivial⟩⟩
        subst hg'
        exact SA.val (v := pv (some (b8, o9))) rfl (wantN rfl) (fun _ => by kernel_rfl)
      · clear h
        intro fr' T' H' hle hs hA
        have a16 : fr' 16 = pv (some (b8, o9)) := hA 2 (by kernel_rfl)
        obtain ⟨g', hg'⟩ : ∃ g' : Fr, fr' = g'.upds [(16, pv (some (b8, o9)))] := ⟨_, Fr.upds_self _ _ ⟨a16, trivial⟩⟩
        subst hg'
        exact SA.val (v := pv (some (b8, o9))) rfl (wantN rfl) (fun _ => by kernel_rfl)
      · clear h
        intro fr' T' H' hle hs hA
        have a17 : fr' 17 = pv (some (b8, o9)) := hA 3 (by kernel_rfl)
        obtain ⟨g', hg'⟩ : ∃ g' : Fr, fr' = g'.upds [(17, pv (some (b8, o9)))] := ⟨_, Fr.upds_self _ _ ⟨a17, trivial⟩⟩
        subst hg'
        exact SA.rd hle (v := sv l23) rfl (wantN rfl) (fun w hw => ev_load1 rfl (fun _ => by kernel_rfl) (p := (b8, o9)) rfl c24 w hw)
      · clear h
        intro fr' T' H' hle hs hA
        have a0 : fr' 0 = pv (some (b8, o9)) := hs 0 (by kernel_rfl)
        obtain ⟨g', hg'⟩ : ∃ g' : Fr, fr' = g'.upds [(0, pv (some (b8, o9)))] := ⟨_, Fr.upds_self _ _ ⟨a0, trivial⟩⟩
        subst hg'
        exact SA.val (v := pv (some (b8, o9))) rfl (wantN rfl) (fun _ => by kernel_rfl)
      · clear h
        intro fr' T' H' hle hs hA
        have a19 : fr' 19 = pv (some (b8, o9)) := hA 5 (by kernel_rfl)
        obtain ⟨g', hg'⟩ : ∃ g' : Fr, fr' = g'.upds [(19, pv (some (b8, o9)))] := ⟨_, Fr.upds_self _ _ ⟨a19, trivial⟩⟩
        subst hg'
        exact SA.val (v := pv (some (b8, o9))) rfl (wantN rfl) (fun _ => by kernel_rfl)
      · clear h
        intro fr' T' H' hle hs hA
        have a20 : fr' 20 = pv (some (b8, o9)) := hA 6 (by kernel_rfl)
        obtain ⟨g', hg'⟩ : ∃ g' : Fr, fr' = g'.upds [(20, pv (some (b8, o9)))] := ⟨_, Fr.upds_self _ _ ⟨a20, trivial⟩⟩
        subst hg'
        exact SA.val (v := pv (some (b8, o9))) rfl (wantN rfl) (fun _ => by kernel_rfl)
      · clear h
        intro fr' T' H' hle hs hA
        have a21 : fr' 21 = pv (some (b8, o9)) := hA 7 (by kernel_rfl)
        obtain ⟨g', hg'⟩ : ∃ g' : Fr, fr' = g'.upds [(21, pv (some (b8, o9)))] := ⟨_, Fr.upds_self _ _ ⟨a21, trivial⟩⟩
        subst hg'
        exact SA.rd hle (v := sv l25) rfl (wantN rfl) (fun w hw => ev_load1 rfl (fun _ => by kernel_rfl) (p := (b8, o9)) rfl c26 w hw)
      · clear h
        intro fr' T' H' hle hs hA
        have a22 : fr' 22 = sv l25 := hA 8 (by kernel_rfl)
        obtain ⟨g', hg'⟩ : ∃ g' : Fr, fr' = g'.upds [(22, sv l25)] := ⟨_, Fr.upds_self _ _ ⟨a22, trivial⟩⟩
        subst hg'
        exact SA.val (v := .int .i64 (l25.len : Int)) rfl (wantN rfl) (fun _ => by kernel_rfl)
      · clear h
        intro fr' T' H' hle hs hA
        have a23 : fr' 23 = (.int .i64 (l25.len : Int) : Value) := hA 9 (by kernel_rfl)
        obtain ⟨g', hg'⟩ : ∃ g' : Fr, fr' = g'.upds [(23, (.int .i64 (l25.len : Int) : Value))] := ⟨_, Fr.upds_self _ _ ⟨a23, trivial⟩⟩
        subst hg'
        exact SA.val (v := .int .i64 (w64 ((l25.len : Int) - 300))) rfl (wantN rfl) (fun _ => by kernel_rfl)
      · clear h
        intro fr' T' H' hle hs hA
        have a24 : fr' 24 = (.int .i64 (w64 ((l25.len : Int) - 300)) : Value) := hA 10 (by kernel_rfl)
        obtain ⟨g', hg'⟩ : ∃ g' : Fr, fr' = g'.upds [(24, (.int .i64 (w64 ((l25.len : Int) - 300)) : Value))] := ⟨_, Fr.upds_self _ _ ⟨a24, trivial⟩⟩
        subst hg'
        exact SA.val (v := .int .i64 (imax (w64 ((l25.len : Int) - 300)) 0)) rfl (wantN rfl) (fun _ => by kernel_rfl)
      · clear h
        intro fr' T' H' hle hs hA
        have a18 : fr' 18 = sv l23 := hA 4 (by kernel_rfl)
        have a25 : fr' 25 = (.int .i64 (imax (w64 ((l25.len : Int) - 300)) 0) : Value) := hA 11 (by kernel_rfl)
        obtain ⟨g', hg'⟩ : ∃ g' : Fr, fr' = g'.upds [(18, sv l23), (25, (.int .i64 (imax (w64 ((l25.len : Int) - 300)) 0) : Value))] := ⟨_, Fr.upds_self _ _ ⟨a18, a25, trivial⟩⟩
        subst hg'
        exact SA.val (v := sv (Sl.sub 4 l23 (imax (w64 ((l25.len : Int) - 300)) 0).toNat (l23.len : Int).toNat l23.cap)) rfl (wantN rfl) (fun w => ev_sub (a := (imax (w64 ((l25.len : Int) - 300)) 0)) (b := (l23.len : Int)) rfl Try.underlying68 (size := 4) (by kernel_rfl) rfl (Or.inr ⟨_, rfl⟩) (Or.inl ⟨rfl, rfl⟩) c27 c28 c29 w)
      · clear h
        intro fr' T' H' hle hs hA
        have a14 : fr' 14 = pv (some (b8, o9)) := hA 0 (by kernel_rfl)
        obtain ⟨g', hg'⟩ : ∃ g' : Fr, fr' = g'.upds [(14, pv (some (b8, o9)))] := ⟨_, Fr.upds_self _ _ ⟨a14, trivial⟩⟩
        subst hg'
        exact SA.val (v := pv (some (b8, o9))) rfl (wantN rfl) (fun _ => by kernel_rfl)
      · clear h
        intro fr' T' H' hle hs hA
        have a27 : fr' 27 = pv (some (b8, o9)) := hA 13 (by kernel_rfl)
        obtain ⟨g', hg'⟩ : ∃ g' : Fr, fr' = g'.upds [(27, pv (some (b8, o9)))] := ⟨_, Fr.upds_self _ _ ⟨a27, trivial⟩⟩
        subst hg'
        exact SA.val (v := pv (some (b8, o9))) rfl (wantN rfl) (fun _ => by kernel_rfl)
      · intro fr' T' H' hle hs hA
        have a26 : fr' 26 = sv (Sl.sub 4 l23 (imax (w64 ((l25.len : Int) - 300)) 0).toNat (l23.len : Int).toNat l23.cap) := hA 12 (Nat.le_of_ble_eq_true rfl)
        have a28 : fr' 28 = pv (some (b8, o9)) := hA 14 (Nat.le_of_ble_eq_true rfl)
        obtain ⟨g', hg'⟩ : ∃ g' : Fr, fr' = g'.upds [(26, sv (Sl.sub 4 l23 (imax (w64 ((l25.len : Int) - 300)) 0).toNat (l23.len : Int).toNat l23.cap)), (28, pv (some (b8, o9)))] := ⟨_, Fr.upds_self _ _ ⟨a26, a28, trivial⟩⟩
        subst hg'
        refine SOps.forget (SH.setl H21 (b8, o9) [sv l20]) hle ?_
        clear hle hs hA
        obtain ⟨c31, h⟩ := h
        refine SOps.storeL (p := (b8, o9)) (v := sv (Sl.sub 4 l23 (imax (w64 ((l25.len : Int) - 300)) 0).toNat (l23.len : Int).toNat l23.cap)) (cs := [sv (Sl.sub 4 l23 (imax (w64 ((l25.len : Int) - 300)) 0).toNat (l23.len : Int).toNat l23.cap)]) rfl rfl (wantN rfl) (size := 1) (by kernel_rfl) rfl rfl rfl rfl (by simp [Value.oneCell', errV_one, pv, sv]) c31 ?_
        refine SOps.nil ?_
        obtain ⟨Hr, hr, h⟩ := h
        exact retQ.mkN (.tuple #[]) (res0 rfl) hr ⟨rfl, h⟩

/-! ### (*lading/net.Net).Send: function 15 -/
def net_Net_Send.wp (F : Nat) (p1 : Option (Nat × Nat)) (x2 : Int) (x3 : Int) (s4 : ByteArray) (H : SH) (K : Option EV → SH → Prop) : Prop :=
  (p1 = none →
    ∃ Hr, SH.le Hr H ∧ K (some (EV.no 1)) Hr
  ) ∧ (∀ b5 o6, p1 = some (b5, o6) →
    (x2 < 0 →
      ∃ Hr, SH.le Hr H ∧ K (some (EV.no 1)) Hr
    ) ∧ (¬ (x2 < 0) →
      (x2 > 5 →
        ∃ Hr, SH.le Hr H ∧ K (some (EV.no 1)) Hr
      ) ∧ (¬ (x2 > 5) →
        (x3 < 0 →
          ∃ Hr, SH.le Hr H ∧ K (some (EV.no 1)) Hr
        ) ∧ (¬ (x3 < 0) →
          (x3 ≥ 5 →
            ∃ Hr, SH.le Hr H ∧ K (some (EV.no 1)) Hr
          ) ∧ (¬ (x3 ≥ 5) →
            (x2 = x3 →
              ∃ Hr, SH.le Hr H ∧ K (some (EV.no 1)) Hr
            ) ∧ (¬ (x2 = x3) →
              ((s4.size : Int) > 8000 →
                ∃ Hr, SH.le Hr H ∧ K (some (EV.no 6)) Hr
              ) ∧ (¬ ((s4.size : Int) > 8000) →
                net_Net_push.wp F (some (b5, o6)) x2 x3 s4 false H (fun H13 =>
                  ∃ Hr, SH.le Hr H13 ∧ K none Hr
                )
              )
            )
          )
        )
      )
    )
  )
set_option maxHeartbeats 8000000 in
theorem net_Net_Send.sound (F : Nat) (p1 : Option (Nat × Nat)) (x2 : Int) (x3 : Int) (s4 : ByteArray) (H : SH) (K : Option EV → SH → Prop) (h : net_Net_Send.wp F p1 x2 x3 s4 H K) : SCalls Try.prog 15 #[pv p1, .int .i64 x2, .int .i64 x3, .string s4] H (fun v H' => ∃ (e15 : Option EV), v = errV e15 ∧ K e15 H') := by
  unfold net_Net_Send.wp at h
  refine SCalls.body Try.func15 rfl (Nat.le_of_ble_eq_true rfl) ?_
  refine SW.seq ?_
  refine SW.region ?_
  refine SOps.val (v := errV none) rfl (wantN rfl) (fun _ => by kernel_rfl) ?_
  refine SOps.nil ?_
  refine SW.seq ?_
  refine SW.block ?_
  refine SW.seq ?_
  refine SW.region ?_
  refine SOps.val (v := pv p1) rfl (wantN rfl) (fun _ => by kernel_rfl) ?_
  rcases p1 with _ | ⟨b5, o6⟩
  · replace h := h.1 rfl
    refine SOps.val (v := .bool true) rfl (wantN rfl) (fun _ => by kernel_rfl) ?_
    refine SOps.val (v := .bool true) rfl (wantN rfl) (fun _ => by kernel_rfl) ?_
    refine SOps.off rfl (wantX (c := true) rfl rfl rfl rfl) ?_
    refine SOps.off rfl (wantX (c := true) rfl rfl rfl rfl) ?_
    refine SOps.val (v := .bool true) rfl (wantN rfl) (fun w => ev_pickT (v := .bool true) rfl (t := true) rfl rfl rfl w) ?_
    refine SOps.val (v := .bool true) rfl (wantN rfl) (fun _ => by kernel_rfl) ?_
    refine SOps.off rfl (wantX (c := true) rfl rfl rfl rfl) ?_
    refine SOps.off rfl (wantX (c := true) rfl rfl rfl rfl) ?_
    refine SOps.val (v := .bool true) rfl (wantN rfl) (fun w => ev_pickT (v := .bool true) rfl (t := true) rfl rfl rfl w) ?_
    refine SOps.val (v := .bool true) rfl (wantN rfl) (fun _ => by kernel_rfl) ?_
    refine SOps.off rfl (wantX (c := true) rfl rfl rfl rfl) ?_
    refine SOps.off rfl (wantX (c := true) rfl rfl rfl rfl) ?_
    refine SOps.val (v := .bool true) rfl (wantN rfl) (fun w => ev_pickT (v := .bool true) rfl (t := true) rfl rfl rfl w) ?_
    refine SOps.val (v := .bool true) rfl (wantN rfl) (fun _ => by kernel_rfl) ?_
    refine SOps.off rfl (wantX (c := true) rfl rfl rfl rfl) ?_
    refine SOps.off rfl (wantX (c := true) rfl rfl rfl rfl) ?_
    refine SOps.val (v := .bool true) rfl (wantN rfl) (fun w => ev_pickT (v := .bool true) rfl (t := true) rfl rfl rfl w) ?_
    refine SOps.val (v := .bool true) rfl (wantN rfl) (fun _ => by kernel_rfl) ?_
    refine SOps.off rfl (wantX (c := true) rfl rfl rfl rfl) ?_
    refine SOps.off rfl (wantX (c := true) rfl rfl rfl rfl) ?_
    refine SOps.off rfl (wantX (c := true) rfl rfl rfl rfl) ?_
    refine SOps.val (v := .bool true) rfl (wantN rfl) (fun w => ev_pickT (v := .bool true) rfl (t := true) rfl rfl rfl w) ?_
    refine SOps.val (v := .bool true) rfl (wantN rfl) (fun _ => by kernel_rfl) ?_
    refine SOps.nil ?_
    refine SW.cond_t (t := true) rfl rfl ?_
    refine SW.seq ?_
    refine SW.region ?_
    refine SOps.val (v := errV (some (EV.no 1))) rfl (wantN rfl) (fun _ => by kernel_rfl) ?_
    refine SOps.val (v := errV (some (EV.no 1))) rfl (wantN rfl) (fun _ => by kernel_rfl) ?_
    refine SOps.nil ?_
    obtain ⟨Hr, hr, h⟩ := h
    exact SW.ret (retQ.mk (errV (some (EV.no 1))) (res1 rfl rfl) hr ⟨some (EV.no 1), rfl, h⟩)
  · replace h := h.2 b5 o6 rfl
    refine SOps.val (v := .bool false) rfl (wantN rfl) (fun _ => by kernel_rfl) ?_
    refine SOps.val (v := .bool false) rfl (wantN rfl) (fun _ => by kernel_rfl) ?_
    refine SOps.val (v := .int .i64 x2) rfl (wantY (c := false) rfl rfl rfl rfl) (fun _ => by kernel_rfl) ?_
    refine SOps.val (v := .bool (decide (x2 < 0))) rfl (wantY (c := false) rfl rfl rfl rfl) (fun _ => by kernel_rfl) ?_
    refine SOps.val (v := .bool (decide (x2 < 0))) rfl (wantN rfl) (fun w => ev_pickF (v := .bool (decide (x2 < 0))) rfl (t := false) rfl rfl rfl w) ?_
    refine SOps.val (v := .bool (decide (x2 < 0))) rfl (wantN rfl) (fun _ => by kernel_rfl) ?_
    by_cases c7 : x2 < 0
    · replace h := h.1 c7
      have dc7 : (decide (x2 < 0)) = true := (decide_eq_true c7)
      refine SOps.off rfl (wantX (c := decide (x2 < 0)) rfl rfl rfl dc7) ?_
      refine SOps.off rfl (wantX (c := decide (x2 < 0)) rfl rfl rfl dc7) ?_
      refine SOps.val (v := .bool true) rfl (wantN rfl) (fun w => ev_pickT (v := .bool true) rfl (t := decide (x2 < 0)) rfl dc7 rfl w) ?_
      refine SOps.val (v := .bool true) rfl (wantN rfl) (fun _ => by kernel_rfl) ?_
      refine SOps.off rfl (wantX (c := true) rfl rfl rfl rfl) ?_
      refine SOps.off rfl (wantX (c := true) rfl rfl rfl rfl) ?_
      refine SOps.val (v := .bool true) rfl (wantN rfl) (fun w => ev_pickT (v := .bool true) rfl (t := true) rfl rfl rfl w) ?_
      refine SOps.val (v := .bool true) rfl (wantN rfl) (fun _ => by kernel_rfl) ?_
      refine SOps.off rfl (wantX (c := true) rfl rfl rfl rfl) ?_
      refine SOps.off rfl (wantX (c := true) rfl rfl rfl rfl) ?_
      refine SOps.val (v := .bool true) rfl (wantN rfl) (fun w => ev_pickT (v := .bool true) rfl (t := true) rfl rfl rfl w) ?_
      refine SOps.val (v := .bool true) rfl (wantN rfl) (fun _ => by kernel_rfl) ?_
      refine SOps.off rfl (wantX (c := true) rfl rfl rfl rfl) ?_
      refine SOps.off rfl (wantX (c := true) rfl rfl rfl rfl) ?_
      refine SOps.off rfl (wantX (c := true) rfl rfl rfl rfl) ?_
      refine SOps.val (v := .bool true) rfl (wantN rfl) (fun w => ev_pickT (v := .bool true) rfl (t := true) rfl rfl rfl w) ?_
      refine SOps.val (v := .bool true) rfl (wantN rfl) (fun _ => by kernel_rfl) ?_
      refine SOps.nil ?_
      refine SW.cond_t (t := true) rfl rfl ?_
      refine SW.seq ?_
      refine SW.region ?_
      refine SOps.val (v := errV (some (EV.no 1))) rfl (wantN rfl) (fun _ => by kernel_rfl) ?_
      refine SOps.val (v := errV (some (EV.no 1))) rfl (wantN rfl) (fun _ => by kernel_rfl) ?_
      refine SOps.nil ?_
      obtain ⟨Hr, hr, h⟩ := h
      exact SW.ret (retQ.mk (errV (some (EV.no 1))) (res1 rfl rfl) hr ⟨some (EV.no 1), rfl, h⟩)
    · replace h := h.2 c7
      have dc7 : (decide (x2 < 0)) = false := (decide_eq_false c7)
      refine SOps.val (v := .int .i64 x2) rfl (wantY (c := decide (x2 < 0)) rfl rfl rfl dc7) (fun _ => by kernel_rfl) ?_
      refine SOps.val (v := .bool (decide (x2 > 5))) rfl (wantY (c := decide (x2 < 0)) rfl rfl rfl dc7) (fun _ => by kernel_rfl) ?_
      refine SOps.val (v := .bool (decide (x2 > 5))) rfl (wantN rfl) (fun w => ev_pickF (v := .bool (decide (x2 > 5))) rfl (t := decide (x2 < 0)) rfl dc7 rfl w) ?_
      refine SOps.val (v := .bool (decide (x2 > 5))) rfl (wantN rfl) (fun _ => by kernel_rfl) ?_
      by_cases c8 : x2 > 5
      · replace h := h.1 c8
        have dc8 : (decide (x2 > 5)) = true := (decide_eq_true c8)
        refine SOps.off rfl (wantX (c := decide (x2 > 5)) rfl rfl rfl dc8) ?_
        refine SOps.off rfl (wantX (c := decide (x2 > 5)) rfl rfl rfl dc8) ?_
        refine SOps.val (v := .bool true) rfl (wantN rfl) (fun w => ev_pickT (v := .bool true) rfl (t := decide (x2 > 5)) rfl dc8 rfl w) ?_
        refine SOps.val (v := .bool true) rfl (wantN rfl) (fun _ => by kernel_rfl) ?_
        refine SOps.off rfl (wantX (c := true) rfl rfl rfl rfl) ?_
        refine SOps.off rfl (wantX (c := true) rfl rfl rfl rfl) ?_
        refine SOps.val (v := .bool true) rfl (wantN rfl) (fun w => ev_pickT (v := .bool true) rfl (t := true) rfl rfl rfl w) ?_
        refine SOps.val (v := .bool true) rfl (wantN rfl) (fun _ => by kernel_rfl) ?_
        refine SOps.off rfl (wantX (c := true) rfl rfl rfl rfl) ?_
        refine SOps.off rfl (wantX (c := true) rfl rfl rfl rfl) ?_
        refine SOps.off rfl (wantX (c := true) rfl rfl rfl rfl) ?_
        refine SOps.val (v := .bool true) rfl (wantN rfl) (fun w => ev_pickT (v := .bool true) rfl (t := true) rfl rfl rfl w) ?_
        refine SOps.val (v := .bool true) rfl (wantN rfl) (fun _ => by kernel_rfl) ?_
        refine SOps.nil ?_
        refine SW.cond_t (t := true) rfl rfl ?_
        refine SW.seq ?_
        refine SW.region ?_
        refine SOps.val (v := errV (some (EV.no 1))) rfl (wantN rfl) (fun _ => by kernel_rfl) ?_
        refine SOps.val (v := errV (some (EV.no 1))) rfl (wantN rfl) (fun _ => by kernel_rfl) ?_
        refine SOps.nil ?_
        obtain ⟨Hr, hr, h⟩ := h
        exact SW.ret (retQ.mk (errV (some (EV.no 1))) (res1 rfl rfl) hr ⟨some (EV.no 1), rfl, h⟩)
      · replace h := h.2 c8
        have dc8 : (decide (x2 > 5)) = false := (decide_eq_false c8)
        refine SOps.val (v := .int .i64 x3) rfl (wantY (c := decide (x2 > 5)) rfl rfl rfl dc8) (fun _ => by kernel_rfl) ?_
        refine SOps.val (v := .bool (decide (x3 < 0))) rfl (wantY (c := decide (x2 > 5)) rfl rfl rfl dc8) (fun _ => by kernel_rfl) ?_
        refine SOps.val (v := .bool (decide (x3 < 0))) rfl (wantN rfl) (fun w => ev_pickF (v := .bool (decide (x3 < 0))) rfl (t := decide (x2 > 5)) rfl dc8 rfl w) ?_
        refine SOps.val (v := .bool (decide (x3 < 0))) rfl (wantN rfl) (fun _ => by kernel_rfl) ?_
        by_cases c9 : x3 < 0
        · replace h := h.1 c9
          have dc9 : (decide (x3 < 0)) = true := (decide_eq_true c9)
          refine SOps.off rfl (wantX (c := decide (x3 < 0)) rfl rfl rfl dc9) ?_
          refine SOps.off rfl (wantX (c := decide (x3 < 0)) rfl rfl rfl dc9) ?_
          refine SOps.val (v := .bool true) rfl (wantN rfl) (fun w => ev_pickT (v := .bool true) rfl (t := decide (x3 < 0)) rfl dc9 rfl w) ?_
          refine SOps.val (v := .bool true) rfl (wantN rfl) (fun _ => by kernel_rfl) ?_
          refine SOps.off rfl (wantX (c := true) rfl rfl rfl rfl) ?_
          refine SOps.off rfl (wantX (c := true) rfl rfl rfl rfl) ?_
          refine SOps.off rfl (wantX (c := true) rfl rfl rfl rfl) ?_
          refine SOps.val (v := .bool true) rfl (wantN rfl) (fun w => ev_pickT (v := .bool true) rfl (t := true) rfl rfl rfl w) ?_
          refine SOps.val (v := .bool true) rfl (wantN rfl) (fun _ => by kernel_rfl) ?_
          refine SOps.nil ?_
          refine SW.cond_t (t := true) rfl rfl ?_
          refine SW.seq ?_
          refine SW.region ?_
          refine SOps.val (v := errV (some (EV.no 1))) rfl (wantN rfl) (fun _ => by kernel_rfl) ?_
          refine SOps.val (v := errV (some (EV.no 1))) rfl (wantN rfl) (fun _ => by kernel_rfl) ?_
          refine SOps.nil ?_
          obtain ⟨Hr, hr, h⟩ := h
          exact SW.ret (retQ.mk (errV (some (EV.no 1))) (res1 rfl rfl) hr ⟨some (EV.no 1), rfl, h⟩)
        · replace h := h.2 c9
          have dc9 : (decide (x3 < 0)) = false := (decide_eq_false c9)
          refine SOps.val (v := .int .i64 x3) rfl (wantY (c := decide (x3 < 0)) rfl rfl rfl dc9) (fun _ => by kernel_rfl) ?_
          refine SOps.val (v := .bool (decide (x3 ≥ 5))) rfl (wantY (c := decide (x3 < 0)) rfl rfl rfl dc9) (fun _ => by kernel_rfl) ?_
          refine SOps.val (v := .bool (decide (x3 ≥ 5))) rfl (wantN rfl) (fun w => ev_pickF (v := .bool (decide (x3 ≥ 5))) rfl (t := decide (x3 < 0)) rfl dc9 rfl w) ?_
          refine SOps.val (v := .bool (decide (x3 ≥ 5))) rfl (wantN rfl) (fun _ => by kernel_rfl) ?_
          by_cases c10 : x3 ≥ 5
          · replace h := h.1 c10
            have dc10 : (decide (x3 ≥ 5)) = true := (decide_eq_true c10)
            refine SOps.off rfl (wantX (c := decide (x3 ≥ 5)) rfl rfl rfl dc10) ?_
            refine SOps.off rfl (wantX (c := decide (x3 ≥ 5)) rfl rfl rfl dc10) ?_
            refine SOps.off rfl (wantX (c := decide (x3 ≥ 5)) rfl rfl rfl dc10) ?_
            refine SOps.val (v := .bool true) rfl (wantN rfl) (fun w => ev_pickT (v := .bool true) rfl (t := decide (x3 ≥ 5)) rfl dc10 rfl w) ?_
            refine SOps.val (v := .bool true) rfl (wantN rfl) (fun _ => by kernel_rfl) ?_
            refine SOps.nil ?_
            refine SW.cond_t (t := true) rfl rfl ?_
            refine SW.seq ?_
            refine SW.region ?_
            refine SOps.val (v := errV (some (EV.no 1))) rfl (wantN rfl) (fun _ => by kernel_rfl) ?_
            refine SOps.val (v := errV (some (EV.no 1))) rfl (wantN rfl) (fun _ => by kernel_rfl) ?_
            refine SOps.nil ?_
            obtain ⟨Hr, hr, h⟩ := h
            exact SW.ret (retQ.mk (errV (some (EV.no 1))) (res1 rfl rfl) hr ⟨some (EV.no 1), rfl, h⟩)
          · replace h := h.2 c10
            have dc10 : (decide (x3 ≥ 5)) = false := (decide_eq_false c10)
            refine SOps.val (v := .int .i64 x2) rfl (wantY (c := decide (x3 ≥ 5)) rfl rfl rfl dc10) (fun _ => by kernel_rfl) ?_
            refine SOps.val (v := .int .i64 x3) rfl (wantY (c := decide (x3 ≥ 5)) rfl rfl rfl dc10) (fun _ => by kernel_rfl) ?_
            refine SOps.val (v := .bool (x2 == x3)) rfl (wantY (c := decide (x3 ≥ 5)) rfl rfl rfl dc10) (fun _ => by kernel_rfl) ?_
            refine SOps.val (v := .bool (x2 == x3)) rfl (wantN rfl) (fun w => ev_pickF (v := .bool (x2 == x3)) rfl (t := decide (x3 ≥ 5)) rfl dc10 rfl w) ?_
            refine SOps.val (v := .bool (x2 == x3)) rfl (wantN rfl) (fun _ => by kernel_rfl) ?_
            refine SOps.nil ?_
            by_cases c11 : x2 = x3
            · replace h := h.1 c11
              have dc11 : (x2 == x3) = true := (beq_iff_eq.mpr c11)
              refine SW.cond_t (t := (x2 == x3)) rfl dc11 ?_
              refine SW.seq ?_
              refine SW.region ?_
              refine SOps.val (v := errV (some (EV.no 1))) rfl (wantN rfl) (fun _ => by kernel_rfl) ?_
              refine SOps.val (v := errV (some (EV.no 1))) rfl (wantN rfl) (fun _ => by kernel_rfl) ?_
              refine SOps.nil ?_
              obtain ⟨Hr, hr, h⟩ := h
              exact SW.ret (retQ.mk (errV (some (EV.no 1))) (res1 rfl rfl) hr ⟨some (EV.no 1), rfl, h⟩)
            · replace h := h.2 c11
              have dc11 : (x2 == x3) = false := (beq_eq_false_iff_ne.mpr c11)
              refine SW.cond_f (t := (x2 == x3)) rfl dc11 ?_
              refine SW.seq ?_
              refine SW.region ?_
              refine SOps.val (v := .string s4) rfl (wantN rfl) (fun _ => by kernel_rfl) ?_
              refine SOps.val (v := .int .i64 (s4.size : Int)) rfl (wantN rfl) (fun _ => by kernel_rfl) ?_
              refine SOps.val (v := .bool (decide ((s4.size : Int) > 8000))) rfl (wantN rfl) (fun _ => by kernel_rfl) ?_
              refine SOps.val (v := .bool (decide ((s4.size : Int) > 8000))) rfl (wantN rfl) (fun _ => by kernel_rfl) ?_
              refine SOps.nil ?_
              by_cases c12 : (s4.size : Int) > 8000
              · replace h := h.1 c12
                have dc12 : (decide ((s4.size : Int) > 8000)) = true := (decide_eq_true c12)
                refine SW.cond_t (t := decide ((s4.size : Int) > 8000)) rfl dc12 ?_
                refine SW.seq ?_
                refine SW.region ?_
                refine SOps.val (v := errV (some (EV.no 6))) rfl (wantN rfl) (fun _ => by kernel_rfl) ?_
                refine SOps.val (v := errV (some (EV.no 6))) rfl (wantN rfl) (fun _ => by kernel_rfl) ?_
                refine SOps.nil ?_
                obtain ⟨Hr, hr, h⟩ := h
                exact SW.ret (retQ.mk (errV (some (EV.no 6))) (res1 rfl rfl) hr ⟨some (EV.no 6), rfl, h⟩)
              · replace h := h.2 c12
                have dc12 : (decide ((s4.size : Int) > 8000)) = false := (decide_eq_false c12)
                refine SW.cond_f (t := decide ((s4.size : Int) > 8000)) rfl dc12 ?_
                refine SW.skip ?_
                refine SW.seq ?_
                refine SW.region ?_
                refine SOps.val (v := pv (some (b5, o6))) rfl (wantN rfl) (fun _ => by kernel_rfl) ?_
                refine SOps.val (v := .int .i64 x2) rfl (wantN rfl) (fun _ => by kernel_rfl) ?_
                refine SOps.val (v := .int .i64 x3) rfl (wantN rfl) (fun _ => by kernel_rfl) ?_
                refine SOps.val (v := .string s4) rfl (wantN rfl) (fun _ => by kernel_rfl) ?_
                refine SOps.val (v := .agg #[.int .i64 x2, .int .i64 x3, .string s4]) rfl (wantN rfl) (fun _ => by kernel_rfl) ?_
                refine SOps.val (v := .agg #[.int .i64 x2, .int .i64 x3, .string s4, .bool false]) rfl (wantN rfl) (fun _ => by kernel_rfl) ?_
                refine SOps.enter rfl (wantN rfl) (fun _ => by kernel_rfl) (net_Net_push.sound F (some (b5, o6)) x2 x3 s4 false H _ h) ?_
                clear h
                rintro v H13 ⟨rfl, h⟩
                refine SOps.nil ?_
                refine SW.seq ?_
                refine SW.region ?_
                refine SOps.val (v := errV none) rfl (wantN rfl) (fun _ => by kernel_rfl) ?_
                refine SOps.nil ?_
                obtain ⟨Hr, hr, h⟩ := h
                exact SW.ret (retQ.mk (errV none) (res1 rfl rfl) hr ⟨none, rfl, h⟩)

/-! ### (*lading/net.Net).at: function 33 -/
def net_Net_at.wp (F : Nat) (p1 : Option (Nat × Nat)) (x2 : Int) (H : SH) (K : Int → Int → ByteArray → Bool → Option EV → SH → Prop) : Prop :=
  ∀ b3, H b3 = none →
  (p1 = none →
    SH.wrs (SH.upd H b3 ⟨[.int .i64 0, .int .i64 0, .string ByteArray.empty, .bool false], 74, false, 4⟩) (b3, 0) 4 ∧
    ∃ (x8 : Int) (x9 : Int) (s10 : ByteArray) (q11 : Bool),
    SH.row (SH.setl (SH.upd H b3 ⟨[.int .i64 0, .int .i64 0, .string ByteArray.empty, .bool false], 74, false, 4⟩) (b3, 0) [.int .i64 0, .int .i64 0, .string ByteArray.empty, .bool false]) (some (b3, 0)) [.int .i64 x8, .int .i64 x9, .string s10, .bool q11] ∧
    ∃ Hr, SH.le Hr (SH.setl (SH.upd H b3 ⟨[.int .i64 0, .int .i64 0, .string ByteArray.empty, .bool false], 74, false, 4⟩) (b3, 0) [.int .i64 0, .int .i64 0, .string ByteArray.empty, .bool false]) ∧ K x8 x9 s10 q11 (some (EV.no 1)) Hr
  ) ∧ (∀ b5 o6, p1 = some (b5, o6) →
    (x2 < 0 →
      SH.wrs (SH.upd H b3 ⟨[.int .i64 0, .int .i64 0, .string ByteArray.empty, .bool false], 74, false, 4⟩) (b3, 0) 4 ∧
      ∃ (x15 : Int) (x16 : Int) (s17 : ByteArray) (q18 : Bool),
      SH.row (SH.setl (SH.upd H b3 ⟨[.int .i64 0, .int .i64 0, .string ByteArray.empty, .bool false], 74, false, 4⟩) (b3, 0) [.int .i64 0, .int .i64 0, .string ByteArray.empty, .bool false]) (some (b3, 0)) [.int .i64 x15, .int .i64 x16, .string s17, .bool q18] ∧
      ∃ Hr, SH.le Hr (SH.setl (SH.upd H b3 ⟨[.int .i64 0, .int .i64 0, .string ByteArray.empty, .bool false], 74, false, 4⟩) (b3, 0) [.int .i64 0, .int .i64 0, .string ByteArray.empty, .bool false]) ∧ K x15 x16 s17 q18 (some (EV.no 9)) Hr
    ) ∧ (¬ (x2 < 0) →
      ∃ (l20 : Sl),
      SH.has (SH.upd H b3 ⟨[.int .i64 0, .int .i64 0, .string ByteArray.empty, .bool false], 74, false, 4⟩) (b5, o6) (sv l20) ∧
      (x2 ≥ (l20.len : Int) →
        SH.wrs (SH.upd H b3 ⟨[.int .i64 0, .int .i64 0, .string ByteArray.empty, .bool false], 74, false, 4⟩) (b3, 0) 4 ∧
        ∃ (x24 : Int) (x25 : Int) (s26 : ByteArray) (q27 : Bool),
        SH.row (SH.setl (SH.upd H b3 ⟨[.int .i64 0, .int .i64 0, .string ByteArray.empty, .bool false], 74, false, 4⟩) (b3, 0) [.int .i64 0, .int .i64 0, .string ByteArray.empty, .bool false]) (some (b3, 0)) [.int .i64 x24, .int .i64 x25, .string s26, .bool q27] ∧
        ∃ Hr, SH.le Hr (SH.setl (SH.upd H b3 ⟨[.int .i64 0, .int .i64 0, .string ByteArray.empty, .bool false], 74, false, 4⟩) (b3, 0) [.int .i64 0, .int .i64 0, .string ByteArray.empty, .bool false]) ∧ K x24 x25 s26 q27 (some (EV.no 9)) Hr
      ) ∧ (¬ (x2 ≥ (l20.len : Int)) →
        ∃ (l29 : Sl),
        SH.has (SH.upd H b3 ⟨[.int .i64 0, .int .i64 0, .string ByteArray.empty, .bool false], 74, false, 4⟩) (b5, o6) (sv l29) ∧
        ∃ p31, l29.a = some p31 ∧ 0 ≤ x2 ∧ x2 < (l29.len : Int) ∧
        ∃ (x35 : Int) (x36 : Int) (s37 : ByteArray) (q38 : Bool),
        SH.row (SH.upd H b3 ⟨[.int .i64 0, .int .i64 0, .string ByteArray.empty, .bool false], 74, false, 4⟩) (some (p31.1, (p31.2 + x2.toNat * 4))) [.int .i64 x35, .int .i64 x36, .string s37, .bool q38] ∧
        SH.wrs (SH.upd H b3 ⟨[.int .i64 0, .int .i64 0, .string ByteArray.empty, .bool false], 74, false, 4⟩) (b3, 0) 4 ∧
        ∃ (x41 : Int) (x42 : Int) (s43 : ByteArray) (q44 : Bool),
        SH.row (SH.setl (SH.upd H b3 ⟨[.int .i64 0, .int .i64 0, .string ByteArray.empty, .bool false], 74, false, 4⟩) (b3, 0) [.int .i64 x35, .int .i64 x36, .string s37, .bool q38]) (some (b3, 0)) [.int .i64 x41, .int .i64 x42, .string s43, .bool q44] ∧
        ∃ Hr, SH.le Hr (SH.setl (SH.upd H b3 ⟨[.int .i64 0, .int .i64 0, .string ByteArray.empty, .bool false], 74, false, 4⟩) (b3, 0) [.int .i64 x35, .int .i64 x36, .string s37, .bool q38]) ∧ K x41 x42 s43 q44 none Hr
      )
    )
  )
set_option maxHeartbeats 8000000 in
theorem net_Net_at.sound (F : Nat) (p1 : Option (Nat × Nat)) (x2 : Int) (H : SH) (K : Int → Int → ByteArray → Bool → Option EV → SH → Prop) (h : net_Net_at.wp F p1 x2 H K) : SCalls Try.prog 33 #[pv p1, .int .i64 x2] H (fun v H' => ∃ (x51 : Int) (x52 : Int) (s53 : ByteArray) (q54 : Bool) (e55 : Option EV), v = .tuple #[.agg #[.int .i64 x51, .int .i64 x52, .string s53, .bool q54], errV e55] ∧ K x51 x52 s53 q54 e55 H') := by
  unfold net_Net_at.wp at h
  refine SCalls.body Try.func33 rfl (Nat.le_of_ble_eq_true rfl) ?_
  refine SW.seq ?_
  refine SW.region ?_
  refine SOps.alloc rfl rfl (wantN rfl) (z := .agg #[.int .i64 0, .int .i64 0, .string ByteArray.empty, .bool false]) (by kernel_rfl) (fun b3 c4 => ?_)
  replace h := h b3 c4
  refine SOps.val (v := errV none) rfl (wantN rfl) (fun _ => by kernel_rfl) ?_
  refine SOps.nil ?_
  refine SW.seq ?_
  refine SW.block ?_
  refine SW.seq ?_
  refine SW.region ?_
  refine SOps.val (v := pv p1) rfl (wantN rfl) (fun _ => by kernel_rfl) ?_
  rcases p1 with _ | ⟨b5, o6⟩
  · replace h := h.1 rfl
    refine SOps.val (v := .bool true) rfl (wantN rfl) (fun _ => by kernel_rfl) ?_
    refine SOps.val (v := .bool true) rfl (wantN rfl) (fun _ => by kernel_rfl) ?_
    refine SOps.nil ?_
    refine SW.cond_t (t := true) rfl rfl ?_
    refine SW.seq ?_
    refine SW.region ?_
    refine SOps.val (v := .agg #[.int .i64 0, .int .i64 0, .string ByteArray.empty, .bool false]) rfl (wantN rfl) (fun _ => by kernel_rfl) ?_
    refine SOps.val (v := errV (some (EV.no 1))) rfl (wantN rfl) (fun _ => by kernel_rfl) ?_
    obtain ⟨c7, h⟩ := h
    refine SOps.storeL (p := (b3, 0)) (v := .agg #[.int .i64 0, .int .i64 0, .string ByteArray.empty, .bool false]) (cs := [.int .i64 0, .int .i64 0, .string ByteArray.empty, .bool false]) rfl rfl (wantN rfl) (size := 4) (by kernel_rfl) rfl rfl rfl rfl (by simp [Value.oneCell', errV_one, pv, sv]) c7 ?_
    refine SOps.val (v := errV (some (EV.no 1))) rfl (wantN rfl) (fun _ => by kernel_rfl) ?_
    refine SOps.nil ?_
    obtain ⟨x8, x9, s10, q11, c12, Hr, hr, h⟩ := h
    exact SW.ret (retQ.mkM (.tuple #[.agg #[.int .i64 x8, .int .i64 x9, .string s10, .bool q11], errV (some (EV.no 1))]) (res2M rfl (RV.celN (size := 4) (p := (b3, 0)) (T := 74) rfl (fun _ => by kernel_rfl) (by kernel_rfl) rfl c12) (RV.tmp rfl)) hr ⟨x8, x9, s10, q11, some (EV.no 1), rfl, h⟩)
  · replace h := h.2 b5 o6 rfl
    refine SOps.val (v := .bool false) rfl (wantN rfl) (fun _ => by kernel_rfl) ?_
    refine SOps.val (v := .bool false) rfl (wantN rfl) (fun _ => by kernel_rfl) ?_
    refine SOps.nil ?_
    refine SW.cond_f (t := false) rfl rfl ?_
    refine SW.seq ?_
    refine SW.region ?_
    refine SOps.val (v := .int .i64 x2) rfl (wantN rfl) (fun _ => by kernel_rfl) ?_
    refine SOps.val (v := .bool (decide (x2 < 0))) rfl (wantN rfl) (fun _ => by kernel_rfl) ?_
    refine SOps.val (v := .bool (decide (x2 < 0))) rfl (wantN rfl) (fun _ => by kernel_rfl) ?_
    by_cases c13 : x2 < 0
    · replace h := h.1 c13
      have dc13 : (decide (x2 < 0)) = true := (decide_eq_true c13)
      refine SOps.off rfl (wantX (c := decide (x2 < 0)) rfl rfl rfl dc13) ?_
      refine SOps.off rfl (wantX (c := decide (x2 < 0)) rfl rfl rfl dc13) ?_
      refine SOps.off rfl (wantX (c := decide (x2 < 0)) rfl rfl rfl dc13) ?_
      refine SOps.off rfl (wantX (c := decide (x2 < 0)) rfl rfl rfl dc13) ?_
      refine SOps.off rfl (wantX (c := decide (x2 < 0)) rfl rfl rfl dc13) ?_
      refine SOps.off rfl (wantX (c := decide (x2 < 0)) rfl rfl rfl dc13) ?_
      refine SOps.off rfl (wantX (c := decide (x2 < 0)) rfl rfl rfl dc13) ?_
      refine SOps.val (v := .bool true) rfl (wantN rfl) (fun w => ev_pickT (v := .bool true) rfl (t := decide (x2 < 0)) rfl dc13 rfl w) ?_
      refine SOps.val (v := .bool true) rfl (wantN rfl) (fun _ => by kernel_rfl) ?_
      refine SOps.nil ?_
      refine SW.cond_t (t := true) rfl rfl ?_
      refine SW.seq ?_
      refine SW.region ?_
      refine SOps.val (v := .agg #[.int .i64 0, .int .i64 0, .string ByteArray.empty, .bool false]) rfl (wantN rfl) (fun _ => by kernel_rfl) ?_
      refine SOps.val (v := errV (some (EV.no 9))) rfl (wantN rfl) (fun _ => by kernel_rfl) ?_
      obtain ⟨c14, h⟩ := h
      refine SOps.storeL (p := (b3, 0)) (v := .agg #[.int .i64 0, .int .i64 0, .string ByteArray.empty, .bool false]) (cs := [.int .i64 0, .int .i64 0, .string ByteArray.empty, .bool false]) rfl rfl (wantN rfl) (size := 4) (by kernel_rfl) rfl rfl rfl rfl (by simp [Value.oneCell', errV_one, pv, sv]) c14 ?_
      refine SOps.val (v := errV (some (EV.no 9))) rfl (wantN rfl) (fun _ => by kernel_rfl) ?_
      refine SOps.nil ?_
      obtain ⟨x15, x16, s17, q18, c19, Hr, hr, h⟩ := h
      exact SW.ret (retQ.mkM (.tuple #[.agg #[.int .i64 x15, .int .i64 x16, .string s17, .bool q18], errV (some (EV.no 9))]) (res2M rfl (RV.celN (size := 4) (p := (b3, 0)) (T := 74) rfl (fun _ => by kernel_rfl) (by kernel_rfl) rfl c19) (RV.tmp rfl)) hr ⟨x15, x16, s17, q18, some (EV.no 9), rfl, h⟩)
    · replace h := h.2 c13
      have dc13 : (decide (x2 < 0)) = false := (decide_eq_false c13)
      refine SOps.val (v := .int .i64 x2) rfl (wantY (c := decide (x2 < 0)) rfl rfl rfl dc13) (fun _ => by kernel_rfl) ?_
      refine SOps.val (v := pv (some (b5, o6))) rfl (wantY (c := decide (x2 < 0)) rfl rfl rfl dc13) (fun _ => by kernel_rfl) ?_
      refine SOps.val (v := pv (some (b5, o6))) rfl (wantY (c := decide (x2 < 0)) rfl rfl rfl dc13) (fun _ => by kernel_rfl) ?_
      refine SOps.val (v := pv (some (b5, o6))) rfl (wantY (c := decide (x2 < 0)) rfl rfl rfl dc13) (fun _ => by kernel_rfl) ?_
      obtain ⟨l20, c21, h⟩ := h
      refine SOps.rd (v := sv l20) rfl (wantY (c := decide (x2 < 0)) rfl rfl rfl dc13) (fun w hw => ev_load1 rfl (fun _ => by kernel_rfl) (p := (b5, o6)) rfl c21 w hw) ?_
      refine SOps.val (v := .int .i64 (l20.len : Int)) rfl (wantY (c := decide (x2 < 0)) rfl rfl rfl dc13) (fun _ => by kernel_rfl) ?_
      refine SOps.val (v := .bool (decide (x2 ≥ (l20.len : Int)))) rfl (wantY (c := decide (x2 < 0)) rfl rfl rfl dc13) (fun _ => by kernel_rfl) ?_
      refine SOps.val (v := .bool (decide (x2 ≥ (l20.len : Int)))) rfl (wantN rfl) (fun w => ev_pickF (v := .bool (decide (x2 ≥ (l20.len : Int)))) rfl (t := decide (x2 < 0)) rfl dc13 rfl w) ?_
      refine SOps.val (v := .bool (decide (x2 ≥ (l20.len : Int)))) rfl (wantN rfl) (fun _ => by kernel_rfl) ?_
      refine SOps.nil ?_
      by_cases c22 : x2 ≥ (l20.len : Int)
      · replace h := h.1 c22
        have dc22 : (decide (x2 ≥ (l20.len : Int))) = true := (decide_eq_true c22)
        refine SW.cond_t (t := decide (x2 ≥ (l20.len : Int))) rfl dc22 ?_
        refine SW.seq ?_
        refine SW.region ?_
        refine SOps.val (v := .agg #[.int .i64 0, .int .i64 0, .string ByteArray.empty, .bool false]) rfl (wantN rfl) (fun _ => by kernel_rfl) ?_
        refine SOps.val (v := errV (some (EV.no 9))) rfl (wantN rfl) (fun _ => by kernel_rfl) ?_
        obtain ⟨c23, h⟩ := h
        refine SOps.storeL (p := (b3, 0)) (v := .agg #[.int .i64 0, .int .i64 0, .string ByteArray.empty, .bool false]) (cs := [.int .i64 0, .int .i64 0, .string ByteArray.empty, .bool false]) rfl rfl (wantN rfl) (size := 4) (by kernel_rfl) rfl rfl rfl rfl (by simp [Value.oneCell', errV_one, pv, sv]) c23 ?_
        refine SOps.val (v := errV (some (EV.no 9))) rfl (wantN rfl) (fun _ => by kernel_rfl) ?_
        refine SOps.nil ?_
        obtain ⟨x24, x25, s26, q27, c28, Hr, hr, h⟩ := h
        exact SW.ret (retQ.mkM (.tuple #[.agg #[.int .i64 x24, .int .i64 x25, .string s26, .bool q27], errV (some (EV.no 9))]) (res2M rfl (RV.celN (size := 4) (p := (b3, 0)) (T := 74) rfl (fun _ => by kernel_rfl) (by kernel_rfl) rfl c28) (RV.tmp rfl)) hr ⟨x24, x25, s26, q27, some (EV.no 9), rfl, h⟩)
      · replace h := h.2 c22
        have dc22 : (decide (x2 ≥ (l20.len : Int))) = false := (decide_eq_false c22)
        refine SW.cond_f (t := decide (x2 ≥ (l20.len : Int))) rfl dc22 ?_
        refine SW.skip ?_
        refine SW.seq ?_
        refine SW.region ?_
        refine SOps.val (v := pv (some (b5, o6))) rfl (wantN rfl) (fun _ => by kernel_rfl) ?_
        refine SOps.val (v := pv (some (b5, o6))) rfl (wantN rfl) (fun _ => by kernel_rfl) ?_
        refine SOps.val (v := pv (some (b5, o6))) rfl (wantN rfl) (fun _ => by kernel_rfl) ?_
        obtain ⟨l29, c30, h⟩ := h
        refine SOps.rd (v := sv l29) rfl (wantN rfl) (fun w hw => ev_load1 rfl (fun _ => by kernel_rfl) (p := (b5, o6)) rfl c30 w hw) ?_
        refine SOps.val (v := .int .i64 x2) rfl (wantN rfl) (fun _ => by kernel_rfl) ?_
        obtain ⟨p31, c32, c33, c34, h⟩ := h
        refine SOps.val (v := pv (some (p31.1, (p31.2 + x2.toNat * 4)))) rfl (wantN rfl) (fun w => ev_iaddr rfl Try.underlying68 (size := 4) (by kernel_rfl) rfl rfl c32 c33 c34 w) ?_
        obtain ⟨x35, x36, s37, q38, c39, h⟩ := h
        refine SOps.rd (v := .agg #[.int .i64 x35, .int .i64 x36, .string s37, .bool q38]) rfl (wantN rfl) (fun w hw => ev_loadN rfl (fun _ => by kernel_rfl) (size := 4) (by kernel_rfl) (p := (p31.1, (p31.2 + x2.toNat * 4))) rfl rfl c39 w hw) ?_
        obtain ⟨c40, h⟩ := h
        refine SOps.storeL (p := (b3, 0)) (v := .agg #[.int .i64 x35, .int .i64 x36, .string s37, .bool q38]) (cs := [.int .i64 x35, .int .i64 x36, .string s37, .bool q38]) rfl rfl (wantN rfl) (size := 4) (by kernel_rfl) rfl rfl rfl rfl (by simp [Value.oneCell', errV_one, pv, sv]) c40 ?_
        refine SOps.val (v := errV none) rfl (wantN rfl) (fun _ => by kernel_rfl) ?_
        refine SOps.nil ?_
        obtain ⟨x41, x42, s43, q44, c45, Hr, hr, h⟩ := h
        exact SW.ret (retQ.mkM (.tuple #[.agg #[.int .i64 x41, .int .i64 x42, .string s43, .bool q44], errV none]) (res2M rfl (RV.celN (size := 4) (p := (b3, 0)) (T := 74) rfl (fun _ => by kernel_rfl) (by kernel_rfl) rfl c45) (RV.tmp rfl)) hr ⟨x41, x42, s43, q44, none, rfl, h⟩)

/-! ### (*lading/net.Net).off: function 31 -/
def net_Net_off.j1 (F : Nat) (K : Int → Int → ByteArray → Bool → Option EV → SH → Prop) (b33 : Nat) (b34 : Nat) (e35 : Option EV) (H : SH) : Prop :=
  ∃ (x36 : Int) (x37 : Int) (s38 : ByteArray) (q39 : Bool),
  SH.row H (some (b34, 0)) [.int .i64 x36, .int .i64 x37, .string s38, .bool q39] ∧
  SH.wrs H (b33, 0) 4 ∧
  ∃ (x42 : Int) (x43 : Int) (s44 : ByteArray) (q45 : Bool),
  SH.row (SH.setl H (b33, 0) [.int .i64 x36, .int .i64 x37, .string s38, .bool q39]) (some (b33, 0)) [.int .i64 x42, .int .i64 x43, .string s44, .bool q45] ∧
  ∃ Hr, SH.le Hr (SH.setl H (b33, 0) [.int .i64 x36, .int .i64 x37, .string s38, .bool q39]) ∧ K x42 x43 s44 q45 e35 Hr
def net_Net_off.wp (F : Nat) (p1 : Option (Nat × Nat)) (x2 : Int) (H : SH) (K : Int → Int → ByteArray → Bool → Option EV → SH → Prop) : Prop :=
  ∀ b3, H b3 = none →
  net_Net_at.wp F p1 x2 (SH.upd H b3 ⟨[.int .i64 0, .int .i64 0, .string ByteArray.empty, .bool false], 74, false, 4⟩) (fun x5 x6 s7 q8 e9 H10 =>
    ∀ b11, H10 b11 = none →
    SH.wrs (SH.upd H10 b11 ⟨[.int .i64 0, .int .i64 0, .string ByteArray.empty, .bool false], 74, false, 4⟩) (b11, 0) 4 ∧
    (e9 = none →
      (p1 = none →
        False
      ) ∧ (∀ b15 o16, p1 = some (b15, o16) →
        ∃ (l17 : Sl),
        SH.has (SH.setl (SH.upd H10 b11 ⟨[.int .i64 0, .int .i64 0, .string ByteArray.empty, .bool false], 74, false, 4⟩) (b11, 0) [.int .i64 x5, .int .i64 x6, .string s7, .bool q8]) (b15, o16) (sv l17) ∧
        0 ≤ (0 : Int) ∧
        (0 : Int) ≤ x2 ∧
        x2 ≤ (l17.cap : Int) ∧
        ∃ (l22 : Sl),
        SH.has (SH.setl (SH.upd H10 b11 ⟨[.int .i64 0, .int .i64 0, .string ByteArray.empty, .bool false], 74, false, 4⟩) (b11, 0) [.int .i64 x5, .int .i64 x6, .string s7, .bool q8]) (b15, o16) (sv l22) ∧
        0 ≤ (w64 (x2 + 1)) ∧
        (w64 (x2 + 1)) ≤ (l22.len : Int) ∧
        (l22.len : Int) ≤ (l22.cap : Int) ∧
        ∀ b27, (SH.setl (SH.upd H10 b11 ⟨[.int .i64 0, .int .i64 0, .string ByteArray.empty, .bool false], 74, false, 4⟩) (b11, 0) [.int .i64 x5, .int .i64 x6, .string s7, .bool q8]) b27 = none → 
        slices_Concat_net_flying_net_flying.wp F (⟨some (b27, 0), 2, 2⟩ : Sl) (SH.upd (SH.setl (SH.upd H10 b11 ⟨[.int .i64 0, .int .i64 0, .string ByteArray.empty, .bool false], 74, false, 4⟩) (b11, 0) [.int .i64 x5, .int .i64 x6, .string s7, .bool q8]) b27 (⟨[sv (Sl.sub 4 l17 (0 : Int).toNat x2.toNat l17.cap), sv (Sl.sub 4 l22 (w64 (x2 + 1)).toNat (l22.len : Int).toNat l22.cap)], 68, false, 2⟩ : AO)) (fun l30 H31 =>
          SH.wrs H31 (b15, o16) 1 ∧
          net_Net_off.j1 F K b3 b11 none (SH.setl H31 (b15, o16) [sv l30])
        )
      )
    ) ∧ (∀ v14, e9 = some v14 →
      net_Net_off.j1 F K b3 b11 (some v14) (SH.setl (SH.upd H10 b11 ⟨[.int .i64 0, .int .i64 0, .string ByteArray.empty, .bool false], 74, false, 4⟩) (b11, 0) [.int .i64 x5, .int .i64 x6, .string s7, .bool q8])
    )
  )
set_option maxHeartbeats 8000000 in
theorem net_Net_off.sound (F : Nat) (p1 : Option (Nat × Nat)) (x2 : Int) (H : SH) (K : Int → Int → ByteArray → Bool → Option EV → SH → Prop) (h : net_Net_off.wp F p1 x2 H K) : SCalls Try.prog 31 #[pv p1, .int .i64 x2] H (fun v H' => ∃ (x57 : Int) (x58 : Int) (s59 : ByteArray) (q60 : Bool) (e61 : Option EV), v = .tuple #[.agg #[.int .i64 x57, .int .i64 x58, .string s59, .bool q60], errV e61] ∧ K x57 x58 s59 q60 e61 H') := by
  unfold net_Net_off.wp at h
  refine SCalls.body Try.func31 rfl (Nat.le_of_ble_eq_true rfl) ?_
  refine SW.seq ?_
  refine SW.region ?_
  refine SOps.alloc rfl rfl (wantN rfl) (z := .agg #[.int .i64 0, .int .i64 0, .string ByteArray.empty, .bool false]) (by kernel_rfl) (fun b3 c4 => ?_)
  replace h := h b3 c4
  refine SOps.val (v := errV none) rfl (wantN rfl) (fun _ => by kernel_rfl) ?_
  refine SOps.nil ?_
  refine SW.seq ?_
  refine SW.region ?_
  refine SOps.val (v := pv p1) rfl (wantN rfl) (fun _ => by kernel_rfl) ?_
  refine SOps.val (v := .int .i64 x2) rfl (wantN rfl) (fun _ => by kernel_rfl) ?_
  refine SOps.enter rfl (wantN rfl) (fun _ => by kernel_rfl) (net_Net_at.sound F p1 x2 (SH.upd H b3 ⟨[.int .i64 0, .int .i64 0, .string ByteArray.empty, .bool false], 74, false, 4⟩) _ h) ?_
  clear h
  rintro v H10 ⟨x5, x6, s7, q8, e9, rfl, h⟩
  refine SOps.val (v := .tuple #[.agg #[.int .i64 x5, .int .i64 x6, .string s7, .bool q8], errV e9]) rfl (wantN rfl) (fun _ => by kernel_rfl) ?_
  refine SOps.val (v := .agg #[.int .i64 x5, .int .i64 x6, .string s7, .bool q8]) rfl (wantN rfl) (fun _ => by kernel_rfl) ?_
  refine SOps.val (v := errV e9) rfl (wantN rfl) (fun _ => by kernel_rfl) ?_
  refine SOps.alloc rfl rfl (wantN rfl) (z := .agg #[.int .i64 0, .int .i64 0, .string ByteArray.empty, .bool false]) (by kernel_rfl) (fun b11 c12 => ?_)
  replace h := h b11 c12
  obtain ⟨c13, h⟩ := h
  refine SOps.storeL (p := (b11, 0)) (v := .agg #[.int .i64 x5, .int .i64 x6, .string s7, .bool q8]) (cs := [.int .i64 x5, .int .i64 x6, .string s7, .bool q8]) rfl rfl (wantN rfl) (size := 4) (by kernel_rfl) rfl rfl rfl rfl (by simp [Value.oneCell', errV_one, pv, sv]) c13 ?_
  refine SOps.val (v := errV e9) rfl (wantN rfl) (fun _ => by kernel_rfl) ?_
  refine SOps.nil ?_
  refine SW.seqJ (fun fr H => ∃ (g : Fr) (b33 : Nat) (b34 : Nat) (e35 : Option EV), fr = g.upds [(4, pv (some (b33, 0))), (6, pv (some (b34, 0))), (7, errV e35)] ∧ net_Net_off.j1 F K b33 b34 e35 H) ?_ ?_
  · clear h
    rintro fr H ⟨g, b33, b34, e35, rfl, h⟩
    unfold net_Net_off.j1 at h
    refine SW.seq ?_
    refine SW.region ?_
    obtain ⟨x36, x37, s38, q39, c40, h⟩ := h
    refine SOps.rd (v := .agg #[.int .i64 x36, .int .i64 x37, .string s38, .bool q39]) rfl (wantN rfl) (fun w hw => ev_loadN rfl (fun _ => by kernel_rfl) (size := 4) (by kernel_rfl) (p := (b34, 0)) rfl rfl c40 w hw) ?_
    refine SOps.val (v := errV e35) rfl (wantN rfl) (fun _ => by kernel_rfl) ?_
    obtain ⟨c41, h⟩ := h
    refine SOps.storeL (p := (b33, 0)) (v := .agg #[.int .i64 x36, .int .i64 x37, .string s38, .bool q39]) (cs := [.int .i64 x36, .int .i64 x37, .string s38, .bool q39]) rfl rfl (wantN rfl) (size := 4) (by kernel_rfl) rfl rfl rfl rfl (by simp [Value.oneCell', errV_one, pv, sv]) c41 ?_
    refine SOps.val (v := errV e35) rfl (wantN rfl) (fun _ => by kernel_rfl) ?_
    refine SOps.nil ?_
    obtain ⟨x42, x43, s44, q45, c46, Hr, hr, h⟩ := h
    exact SW.ret (retQ.mkM (.tuple #[.agg #[.int .i64 x42, .int .i64 x43, .string s44, .bool q45], errV e35]) (res2M rfl (RV.celN (size := 4) (p := (b33, 0)) (T := 74) rfl (fun _ => by kernel_rfl) (by kernel_rfl) rfl c46) (RV.tmp rfl)) hr ⟨x42, x43, s44, q45, e35, rfl, h⟩)
  · skip
    refine SW.seq ?_
    refine SW.region ?_
    refine SOps.val (v := errV e9) rfl (wantN rfl) (fun _ => by kernel_rfl) ?_
    rcases e9 with _ | v14
    · replace h := h.1 rfl
      refine SOps.val (v := .bool true) rfl (wantN rfl) (fun w => ev_errEq (e := none) rfl Try.underlying30 rfl rfl w) ?_
      refine SOps.nil ?_
      refine SW.cond_t (t := true) rfl rfl ?_
      rcases p1 with _ | ⟨b15, o16⟩
      · replace h := h.1 rfl
        exact h.elim
      · replace h := h.2 b15 o16 rfl
        obtain ⟨l17, c18, h⟩ := h
        obtain ⟨c19, c20, c21, h⟩ := h
        obtain ⟨l22, c23, h⟩ := h
        obtain ⟨c24, c25, c26, h⟩ := h
        refine SW.drawE [0] [.val (pv (some (b15, o16))), .val (pv (some (b15, o16))), .val (pv (some (b15, o16))), .val (pv (some (b15, o16))), .val (sv l17), .val (.int .i64 x2), .val (sv (Sl.sub 4 l17 (0 : Int).toNat x2.toNat l17.cap)), .val (pv (some (b15, o16))), .val (pv (some (b15, o16))), .val (pv (some (b15, o16))), .val (sv l22), .val (.int .i64 x2), .val (.int .i64 (w64 (x2 + 1))), .val (sv (Sl.sub 4 l22 (w64 (x2 + 1)).toNat (l22.len : Int).toNat l22.cap)), .fresh 14 (fun b c => sv ⟨some (b, 0), 2, 2⟩) (fun c => (⟨[sv (Sl.sub 4 l17 (0 : Int).toNat x2.toNat l17.cap), sv (Sl.sub 4 l22 (w64 (x2 + 1)).toNat (l22.len : Int).toNat l22.cap)], 68, false, 2⟩ : AO)) (fun _ => True)] (by kernel_rfl) (by kernel_rfl) (by kernel_rfl) ⟨⟨_, _, rfl, rfl, by kernel_rfl, ?_⟩, trivial⟩ (And.intro ?_ (And.intro ?_ (And.intro ?_ (And.intro ?_ (And.intro ?_ (And.intro ?_ (And.intro ?_ (And.intro ?_ (And.intro ?_ (And.intro ?_ (And.intro ?_ (And.intro ?_ (And.intro ?_ (And.intro ?_ (And.intro ?_ (trivial)))))))))))))))) ?_
        · clear h
          intro fr' T' H' hle hs hA
          have a0 : fr' 0 = pv (some (b15, o16)) := hs 0 (by kernel_rfl)
          obtain ⟨g', hg'⟩ : ∃ g' : Fr, fr' = g'.upds [(0, pv (some (b15, o16)))] := ⟨_, Fr.upds_self _ _ ⟨a0, trivial⟩⟩
          subst hg'
          exact ⟨wantN rfl, (fun _ => by kernel_rfl)⟩
        · clear h
          intro fr' T' H' hle hs hA
          have a0 : fr' 0 = pv (some (b15, o16)) := hs 0 (by kernel_rfl)
          obtain ⟨g', hg'⟩ : ∃ g' : Fr, fr' = g'.upds [(0, pv (some (b15, o16)))] := ⟨_, Fr.upds_self _ _ ⟨a0, trivial⟩⟩
          subst hg'
          exact SA.val (v := pv (some (b15, o16))) rfl (wantN rfl) (fun _ => by kernel_rfl)
        · clear h
          intro fr' T' H' hle hs hA
          have a0 : fr' 0 = pv (some (b15, o16)) := hs 0 (by kernel_rfl)
          obtain ⟨g', hg'⟩ : ∃ g' : Fr, fr' = g'.upds [(0, pv (some (b15, o16)))] := ⟨_, Fr.upds_self _ _ ⟨a0, trivial⟩⟩
          subst hg'
          exact SA.val (v := pv (some (b15, o16))) rfl (wantN rfl) (fun _ => by kernel_rfl)
        · clear h
          intro fr' T' H' hle hs hA
          have a17 : fr' 17 = pv (some (b15, o16)) := hA 1 (by kernel_rfl)
          obtain ⟨g', hg'⟩ : ∃ g' : Fr, fr' = g'.upds [(17, pv (some (b15, o16)))] := ⟨_, Fr.upds_self _ _ ⟨a17, trivial⟩⟩
          subst hg'
          exact SA.val (v := pv (some (b15, o16))) rfl (wantN rfl) (fun _ => by kernel_rfl)
        · clear h
          intro fr' T' H' hle hs hA
          have a18 : fr' 18 = pv (some (b15, o16)) := hA 2 (by kernel_rfl)
          obtain ⟨g', hg'⟩ : ∃ g' : Fr, fr' = g'.upds [(18, pv (some (b15, o16)))] := ⟨_, Fr.upds_self _ _ ⟨a18, trivial⟩⟩
          subst hg'
          exact SA.val (v := pv (some (b15, o16))) rfl (wantN rfl) (fun _ => by kernel_rfl)
        · clear h
          intro fr' T' H' hle hs hA
          have a19 : fr' 19 = pv (some (b15, o16)) := hA 3 (by kernel_rfl)
          obtain ⟨g', hg'⟩ : ∃ g' : Fr, fr' = g'.upds [(19, pv (some (b15, o16)))] := ⟨_, Fr.upds_self _ _ ⟨a19, trivial⟩⟩
          subst hg'
          exact SA.rd hle (v := sv l17) rfl (wantN rfl) (fun w hw => ev_load1 rfl (fun _ => by kernel_rfl) (p := (b15, o16)) rfl c18 w hw)
        · clear h
          intro fr' T' H' hle hs hA
          have a1 : fr' 1 = (.int .i64 x2 : Value) := hs 1 (by kernel_rfl)
          obtain ⟨g', hg'⟩ : ∃ g' : Fr, fr' = g'.upds [(1, (.int .i64 x2 : Value))] := ⟨_, Fr.upds_self _ _ ⟨a1, trivial⟩⟩
          subst hg'
          exact SA.val (v := .int .i64 x2) rfl (wantN rfl) (fun _ => by kernel_rfl)
        · clear h
          intro fr' T' H' hle hs hA
          have a20 : fr' 20 = sv l17 := hA 4 (by kernel_rfl)
          have a21 : fr' 21 = (.int .i64 x2 : Value) := hA 5 (by kernel_rfl)
          obtain ⟨g', hg'⟩ : ∃ g' : Fr, fr' = g'.upds [(20, sv l17), (21, (.int .i64 x2 : Value))] := ⟨_, Fr.upds_self _ _ ⟨a20, a21, trivial⟩⟩
          subst hg'
          exact SA.val (v := sv (Sl.sub 4 l17 (0 : Int).toNat x2.toNat l17.cap)) rfl (wantN rfl) (fun w => ev_sub (a := (0 : Int)) (b := x2) rfl Try.underlying68 (size := 4) (by kernel_rfl) rfl (Or.inl ⟨rfl, rfl⟩) (Or.inr ⟨_, rfl⟩) c19 c20 c21 w)
        · clear h
          intro fr' T' H' hle hs hA
          have a0 : fr' 0 = pv (some (b15, o16)) := hs 0 (by kernel_rfl)
          obtain ⟨g', hg'⟩ : ∃ g' : Fr, fr' = g'.upds [(0, pv (some (b15, o16)))] := ⟨_, Fr.upds_self _ _ ⟨a0, trivial⟩⟩
          subst hg'
          exact SA.val (v := pv (some (b15, o16))) rfl (wantN rfl) (fun _ => by kernel_rfl)
        · clear h
          intro fr' T' H' hle hs hA
          have a23 : fr' 23 = pv (some (b15, o16)) := hA 7 (by kernel_rfl)
          obtain ⟨g', hg'⟩ : ∃ g' : Fr, fr' = g'.upds [(23, pv (some (b15, o16)))] := ⟨_, Fr.upds_self _ _ ⟨a23, trivial⟩⟩
          subst hg'
          exact SA.val (v := pv (some (b15, o16))) rfl (wantN rfl) (fun _ => by kernel_rfl)
        · clear h
          intro fr' T' H' hle hs hA
          have a24 : fr' 24 = pv (some (b15, o16)) := hA 8 (by kernel_rfl)
          obtain ⟨g', hg'⟩ : ∃ g' : Fr, fr' = g'.upds [(24, pv (some (b15, o16)))] := ⟨_, Fr.upds_self _ _ ⟨a24, trivial⟩⟩
          subst hg'
          exact SA.val (v := pv (some (b15, o16))) rfl (wantN rfl) (fun _ => by kernel_rfl)
        · clear h
          intro fr' T' H' hle hs hA
          have a25 : fr' 25 = pv (some (b15, o16)) := hA 9 (by kernel_rfl)
          obtain ⟨g', hg'⟩ : ∃ g' : Fr, fr' = g'.upds [(25, pv (some (b15, o16)))] := ⟨_, Fr.upds_self _ _ ⟨a25, trivial⟩⟩
          subst hg'
          exact SA.rd hle (v := sv l22) rfl (wantN rfl) (fun w hw => ev_load1 rfl (fun _ => by kernel_rfl) (p := (b15, o16)) rfl c23 w hw)
        · clear h
          intro fr' T' H' hle hs hA
          have a1 : fr' 1 = (.int .i64 x2 : Value) := hs 1 (by kernel_rfl)
          obtain ⟨g', hg'⟩ : ∃ g' : Fr, fr' = g'.upds [(1, (.int .i64 x2 : Value))] := ⟨_, Fr.upds_self _ _ ⟨a1, trivial⟩⟩
          subst hg'
          exact SA.val (v := .int .i64 x2) rfl (wantN rfl) (fun _ => by kernel_rfl)
        · clear h
          intro fr' T' H' hle hs hA
          have a27 : fr' 27 = (.int .i64 x2 : Value) := hA 11 (by kernel_rfl)
          obtain ⟨g', hg'⟩ : ∃ g' : Fr, fr' = g'.upds [(27, (.int .i64 x2 : Value))] := ⟨_, Fr.upds_self _ _ ⟨a27, trivial⟩⟩
          subst hg'
          exact SA.val (v := .int .i64 (w64 (x2 + 1))) rfl (wantN rfl) (fun _ => by kernel_rfl)
        · clear h
          intro fr' T' H' hle hs hA
          have a26 : fr' 26 = sv l22 := hA 10 (by kernel_rfl)
          have a28 : fr' 28 = (.int .i64 (w64 (x2 + 1)) : Value) := hA 12 (by kernel_rfl)
          obtain ⟨g', hg'⟩ : ∃ g' : Fr, fr' = g'.upds [(26, sv l22), (28, (.int .i64 (w64 (x2 + 1)) : Value))] := ⟨_, Fr.upds_self _ _ ⟨a26, a28, trivial⟩⟩
          subst hg'
          exact SA.val (v := sv (Sl.sub 4 l22 (w64 (x2 + 1)).toNat (l22.len : Int).toNat l22.cap)) rfl (wantN rfl) (fun w => ev_sub (a := (w64 (x2 + 1))) (b := (l22.len : Int)) rfl Try.underlying68 (size := 4) (by kernel_rfl) rfl (Or.inr ⟨_, rfl⟩) (Or.inl ⟨rfl, rfl⟩) c24 c25 c26 w)
        · clear h
          intro fr' T' H' hle hs hA
          have a22 : fr' 22 = sv (Sl.sub 4 l17 (0 : Int).toNat x2.toNat l17.cap) := hA 6 (by kernel_rfl)
          have a29 : fr' 29 = sv (Sl.sub 4 l22 (w64 (x2 + 1)).toNat (l22.len : Int).toNat l22.cap) := hA 13 (by kernel_rfl)
          obtain ⟨g', hg'⟩ : ∃ g' : Fr, fr' = g'.upds [(22, sv (Sl.sub 4 l17 (0 : Int).toNat x2.toNat l17.cap)), (29, sv (Sl.sub 4 l22 (w64 (x2 + 1)).toNat (l22.len : Int).toNat l22.cap))] := ⟨_, Fr.upds_self _ _ ⟨a22, a29, trivial⟩⟩
          subst hg'
          exact SA.fresh hle (fun h => SOps.lit (E := 68) (cs := #[sv (Sl.sub 4 l17 (0 : Int).toNat x2.toNat l17.cap), sv (Sl.sub 4 l22 (w64 (x2 + 1)).toNat (l22.len : Int).toNat l22.cap)]) rfl rfl (wantN rfl) (fun _ => by kernel_rfl) (fun b c => h b 0 c trivial))
        · intro fr' T' H' hle hs hA
          have a4 : fr' 4 = pv (some (b3, 0)) := hs 4 (by kernel_rfl)
          have a6 : fr' 6 = pv (some (b11, 0)) := hs 6 (by kernel_rfl)
          have a7 : fr' 7 = errV none := hs 7 (by kernel_rfl)
          have a16 : fr' 16 = pv (some (b15, o16)) := hA 0 (Nat.le_of_ble_eq_true rfl)
          obtain ⟨b27, n28, a30, nb27, kb27, tb27, ob27⟩ := hA 14 (Nat.le_of_ble_eq_true rfl)
          obtain ⟨g', hg'⟩ : ∃ g' : Fr, fr' = g'.upds [(4, pv (some (b3, 0))), (6, pv (some (b11, 0))), (7, errV none), (16, pv (some (b15, o16))), (30, sv (⟨some (b27, 0), 2, 2⟩ : Sl))] := ⟨_, Fr.upds_self _ _ ⟨a4, a6, a7, a16, a30, trivial⟩⟩
          subst hg'
          refine SOps.forget (SH.upd (SH.setl (SH.upd H10 b11 ⟨[.int .i64 0, .int .i64 0, .string ByteArray.empty, .bool false], 74, false, 4⟩) (b11, 0) [.int .i64 x5, .int .i64 x6, .string s7, .bool q8]) b27 (⟨[sv (Sl.sub 4 l17 (0 : Int).toNat x2.toNat l17.cap), sv (Sl.sub 4 l22 (w64 (x2 + 1)).toNat (l22.len : Int).toNat l22.cap)], 68, false, 2⟩ : AO)) (SH.le.upd_in hle kb27) ?_
          replace h := h b27 nb27
          clear hle hs hA
          refine SOps.enter rfl (wantN rfl) (fun _ => by kernel_rfl) (slices_Concat_net_flying_net_flying.sound F (⟨some (b27, 0), 2, 2⟩ : Sl) (SH.upd (SH.setl (SH.upd H10 b11 ⟨[.int .i64 0, .int .i64 0, .string ByteArray.empty, .bool false], 74, false, 4⟩) (b11, 0) [.int .i64 x5, .int .i64 x6, .string s7, .bool q8]) b27 (⟨[sv (Sl.sub 4 l17 (0 : Int).toNat x2.toNat l17.cap), sv (Sl.sub 4 l22 (w64 (x2 + 1)).toNat (l22.len : Int).toNat l22.cap)], 68, false, 2⟩ : AO)) _ h) ?_
          clear h
          rintro v H31 ⟨l30, rfl, h⟩
          refine SOps.val (v := pv (some (b15, o16))) rfl (wantN rfl) (fun _ => by kernel_rfl) ?_
          refine SOps.val (v := pv (some (b15, o16))) rfl (wantN rfl) (fun _ => by kernel_rfl) ?_
          obtain ⟨c32, h⟩ := h
          refine SOps.storeL (p := (b15, o16)) (v := sv l30) (cs := [sv l30]) rfl rfl (wantN rfl) (size := 1) (by kernel_rfl) rfl rfl rfl rfl (by simp [Value.oneCell', errV_one, pv, sv]) c32 ?_
          refine SOps.nil ?_
          exact ⟨_, b3, b11, none, Fr.upds_self _ _ ⟨rfl, rfl, rfl, trivial⟩, h⟩
    · replace h := h.2 v14 rfl
      refine SOps.val (v := .bool false) rfl (wantN rfl) (fun w => ev_errEq (e := some v14) rfl Try.underlying30 rfl rfl w) ?_
      refine SOps.nil ?_
      refine SW.cond_f (t := false) rfl rfl ?_
      refine SW.skip ?_
      exact ⟨_, b3, b11, some v14, Fr.upds_self _ _ ⟨rfl, rfl, rfl, trivial⟩, h⟩

/-! ### (*lading/net.Net).Take: function 18 -/
def net_Net_Take.wp (F : Nat) (p1 : Option (Nat × Nat)) (x2 : Int) (H : SH) (K : Int → Int → ByteArray → Option EV → SH → Prop) : Prop :=
  ∀ b3, H b3 = none →
  net_Net_off.wp F p1 x2 (SH.upd H b3 ⟨[.int .i64 0, .int .i64 0, .string ByteArray.empty], 45, false, 3⟩) (fun x5 x6 s7 q8 e9 H10 =>
    ∀ b11, H10 b11 = none →
    SH.wrs (SH.upd H10 b11 ⟨[.int .i64 0, .int .i64 0, .string ByteArray.empty, .bool false], 74, false, 4⟩) (b11, 0) 4 ∧
    ∃ (x14 : Int) (x15 : Int) (s16 : ByteArray),
    SH.row (SH.setl (SH.upd H10 b11 ⟨[.int .i64 0, .int .i64 0, .string ByteArray.empty, .bool false], 74, false, 4⟩) (b11, 0) [.int .i64 x5, .int .i64 x6, .string s7, .bool q8]) (some (b11, 0)) [.int .i64 x14, .int .i64 x15, .string s16] ∧
    SH.wrs (SH.setl (SH.upd H10 b11 ⟨[.int .i64 0, .int .i64 0, .string ByteArray.empty, .bool false], 74, false, 4⟩) (b11, 0) [.int .i64 x5, .int .i64 x6, .string s7, .bool q8]) (b3, 0) 3 ∧
    ∃ (x19 : Int) (x20 : Int) (s21 : ByteArray),
    SH.row (SH.setl (SH.setl (SH.upd H10 b11 ⟨[.int .i64 0, .int .i64 0, .string ByteArray.empty, .bool false], 74, false, 4⟩) (b11, 0) [.int .i64 x5, .int .i64 x6, .string s7, .bool q8]) (b3, 0) [.int .i64 x14, .int .i64 x15, .string s16]) (some (b3, 0)) [.int .i64 x19, .int .i64 x20, .string s21] ∧
    ∃ Hr, SH.le Hr (SH.setl (SH.setl (SH.upd H10 b11 ⟨[.int .i64 0, .int .i64 0, .string ByteArray.empty, .bool false], 74, false, 4⟩) (b11, 0) [.int .i64 x5, .int .i64 x6, .string s7, .bool q8]) (b3, 0) [.int .i64 x14, .int .i64 x15, .string s16]) ∧ K x19 x20 s21 e9 Hr
  )
set_option maxHeartbeats 8000000 in
theorem net_Net_Take.sound (F : Nat) (p1 : Option (Nat × Nat)) (x2 : Int) (H : SH) (K : Int → Int → ByteArray → Option EV → SH → Prop) (h : net_Net_Take.wp F p1 x2 H K) : SCalls Try.prog 18 #[pv p1, .int .i64 x2] H (fun v H' => ∃ (x27 : Int) (x28 : Int) (s29 : ByteArray) (e30 : Option EV), v = .tuple #[.agg #[.int .i64 x27, .int .i64 x28, .string s29], errV e30] ∧ K x27 x28 s29 e30 H') := by
  unfold net_Net_Take.wp at h
  refine SCalls.body Try.func18 rfl (Nat.le_of_ble_eq_true rfl) ?_
  refine SW.seq ?_
  refine SW.region ?_
  refine SOps.alloc rfl rfl (wantN rfl) (z := .agg #[.int .i64 0, .int .i64 0, .string ByteArray.empty]) (by kernel_rfl) (fun b3 c4 => ?_)
  replace h := h b3 c4
  refine SOps.val (v := errV none) rfl (wantN rfl) (fun _ => by kernel_rfl) ?_
  refine SOps.nil ?_
  refine SW.seq ?_
  refine SW.region ?_
  refine SOps.val (v := pv p1) rfl (wantN rfl) (fun _ => by kernel_rfl) ?_
  refine SOps.val (v := .int .i64 x2) rfl (wantN rfl) (fun _ => by kernel_rfl) ?_
  refine SOps.enter rfl (wantN rfl) (fun _ => by kernel_rfl) (net_Net_off.sound F p1 x2 (SH.upd H b3 ⟨[.int .i64 0, .int .i64 0, .string ByteArray.empty], 45, false, 3⟩) _ h) ?_
  clear h
  rintro v H10 ⟨x5, x6, s7, q8, e9, rfl, h⟩
  refine SOps.val (v := .tuple #[.agg #[.int .i64 x5, .int .i64 x6, .string s7, .bool q8], errV e9]) rfl (wantN rfl) (fun _ => by kernel_rfl) ?_
  refine SOps.val (v := .agg #[.int .i64 x5, .int .i64 x6, .string s7, .bool q8]) rfl (wantN rfl) (fun _ => by kernel_rfl) ?_
  refine SOps.val (v := errV e9) rfl (wantN rfl) (fun _ => by kernel_rfl) ?_
  refine SOps.alloc rfl rfl (wantN rfl) (z := .agg #[.int .i64 0, .int .i64 0, .string ByteArray.empty, .bool false]) (by kernel_rfl) (fun b11 c12 => ?_)
  replace h := h b11 c12
  obtain ⟨c13, h⟩ := h
  refine SOps.storeL (p := (b11, 0)) (v := .agg #[.int .i64 x5, .int .i64 x6, .string s7, .bool q8]) (cs := [.int .i64 x5, .int .i64 x6, .string s7, .bool q8]) rfl rfl (wantN rfl) (size := 4) (by kernel_rfl) rfl rfl rfl rfl (by simp [Value.oneCell', errV_one, pv, sv]) c13 ?_
  refine SOps.val (v := errV e9) rfl (wantN rfl) (fun _ => by kernel_rfl) ?_
  refine SOps.nil ?_
  refine SW.seq ?_
  refine SW.region ?_
  refine SOps.val (v := pv (some (b11, 0))) rfl (wantN rfl) (fun _ => by kernel_rfl) ?_
  obtain ⟨x14, x15, s16, c17, h⟩ := h
  refine SOps.rd (v := .agg #[.int .i64 x14, .int .i64 x15, .string s16]) rfl (wantN rfl) (fun w hw => ev_loadN rfl (fun _ => by kernel_rfl) (size := 3) (by kernel_rfl) (p := (b11, 0)) rfl rfl c17 w hw) ?_
  refine SOps.val (v := errV e9) rfl (wantN rfl) (fun _ => by kernel_rfl) ?_
  obtain ⟨c18, h⟩ := h
  refine SOps.storeL (p := (b3, 0)) (v := .agg #[.int .i64 x14, .int .i64 x15, .string s16]) (cs := [.int .i64 x14, .int .i64 x15, .string s16]) rfl rfl (wantN rfl) (size := 3) (by kernel_rfl) rfl rfl rfl rfl (by simp [Value.oneCell', errV_one, pv, sv]) c18 ?_
  refine SOps.val (v := errV e9) rfl (wantN rfl) (fun _ => by kernel_rfl) ?_
  refine SOps.nil ?_
  obtain ⟨x19, x20, s21, c22, Hr, hr, h⟩ := h
  exact SW.ret (retQ.mkM (.tuple #[.agg #[.int .i64 x19, .int .i64 x20, .string s21], errV e9]) (res2M rfl (RV.celN (size := 3) (p := (b3, 0)) (T := 45) rfl (fun _ => by kernel_rfl) (by kernel_rfl) rfl c22) (RV.tmp rfl)) hr ⟨x19, x20, s21, e9, rfl, h⟩)

/-! ### (*lading/net.Net).Turn: function 16 -/
def net_Net_Turn.wp (F : Nat) (p1 : Option (Nat × Nat)) (x2 : Int) (x3 : Int) (H : SH) (K : Option EV → SH → Prop) : Prop :=
  net_Net_off.wp F p1 x2 H (fun x4 x5 s6 q7 e8 H9 =>
    ∀ b10, H9 b10 = none →
    SH.wrs (SH.upd H9 b10 ⟨[.int .i64 0, .int .i64 0, .string ByteArray.empty, .bool false], 74, false, 4⟩) (b10, 0) 4 ∧
    (e8 = none →
      (p1 = none →
        False
      ) ∧ (∀ b14 o15, p1 = some (b14, o15) →
        ∃ (l16 : Sl),
        SH.has (SH.setl (SH.upd H9 b10 ⟨[.int .i64 0, .int .i64 0, .string ByteArray.empty, .bool false], 74, false, 4⟩) (b10, 0) [.int .i64 x4, .int .i64 x5, .string s6, .bool q7]) (b14, o15) (sv l16) ∧
        ∃ (l18 : Sl),
        SH.has (SH.setl (SH.upd H9 b10 ⟨[.int .i64 0, .int .i64 0, .string ByteArray.empty, .bool false], 74, false, 4⟩) (b10, 0) [.int .i64 x4, .int .i64 x5, .string s6, .bool q7]) (b14, o15) (sv l18) ∧
        ∃ (x20 : Int) (x21 : Int) (s22 : ByteArray) (q23 : Bool),
        SH.row (SH.setl (SH.upd H9 b10 ⟨[.int .i64 0, .int .i64 0, .string ByteArray.empty, .bool false], 74, false, 4⟩) (b10, 0) [.int .i64 x4, .int .i64 x5, .string s6, .bool q7]) (some (b10, 0)) [.int .i64 x20, .int .i64 x21, .string s22, .bool q23] ∧
        ∀ b25, (SH.setl (SH.upd H9 b10 ⟨[.int .i64 0, .int .i64 0, .string ByteArray.empty, .bool false], 74, false, 4⟩) (b10, 0) [.int .i64 x4, .int .i64 x5, .string s6, .bool q7]) b25 = none → 
        slices_Insert_net_flying_net_flying.wp F l16 (imin (imax x3 0) (l18.len : Int)) (⟨some (b25, 0), 1, 1⟩ : Sl) (SH.upd (SH.setl (SH.upd H9 b10 ⟨[.int .i64 0, .int .i64 0, .string ByteArray.empty, .bool false], 74, false, 4⟩) (b10, 0) [.int .i64 x4, .int .i64 x5, .string s6, .bool q7]) b25 (⟨[.int .i64 x20, .int .i64 x21, .string s22, .bool q23], 74, false, 4⟩ : AO)) (fun l28 H29 =>
          SH.wrs H29 (b14, o15) 1 ∧
          ∃ Hr, SH.le Hr (SH.setl H29 (b14, o15) [sv l28]) ∧ K none Hr
        )
      )
    ) ∧ (∀ v13, e8 = some v13 →
      ∃ Hr, SH.le Hr (SH.setl (SH.upd H9 b10 ⟨[.int .i64 0, .int .i64 0, .string ByteArray.empty, .bool false], 74, false, 4⟩) (b10, 0) [.int .i64 x4, .int .i64 x5, .string s6, .bool q7]) ∧ K (some v13) Hr
    )
  )
set_option maxHeartbeats 8000000 in
theorem net_Net_Turn.sound (F : Nat) (p1 : Option (Nat × Nat)) (x2 : Int) (x3 : Int) (H : SH) (K : Option EV → SH → Prop) (h : net_Net_Turn.wp F p1 x2 x3 H K) : SCalls Try.prog 16 #[pv p1, .int .i64 x2, .int .i64 x3] H (fun v H' => ∃ (e32 : Option EV), v = errV e32 ∧ K e32 H') := by
  unfold net_Net_Turn.wp at h
  refine SCalls.body Try.func16 rfl (Nat.le_of_ble_eq_true rfl) ?_
  refine SW.seq ?_
  refine SW.region ?_
  refine SOps.val (v := errV none) rfl (wantN rfl) (fun _ => by kernel_rfl) ?_
  refine SOps.nil ?_
  refine SW.seq ?_
  refine SW.region ?_
  refine SOps.val (v := pv p1) rfl (wantN rfl) (fun _ => by kernel_rfl) ?_
  refine SOps.val (v := .int .i64 x2) rfl (wantN rfl) (fun _ => by kernel_rfl) ?_
  refine SOps.enter rfl (wantN rfl) (fun _ => by kernel_rfl) (net_Net_off.sound F p1 x2 H _ h) ?_
  clear h
  rintro v H9 ⟨x4, x5, s6, q7, e8, rfl, h⟩
  refine SOps.val (v := .tuple #[.agg #[.int .i64 x4, .int .i64 x5, .string s6, .bool q7], errV e8]) rfl (wantN rfl) (fun _ => by kernel_rfl) ?_
  refine SOps.val (v := .agg #[.int .i64 x4, .int .i64 x5, .string s6, .bool q7]) rfl (wantN rfl) (fun _ => by kernel_rfl) ?_
  refine SOps.val (v := errV e8) rfl (wantN rfl) (fun _ => by kernel_rfl) ?_
  refine SOps.alloc rfl rfl (wantN rfl) (z := .agg #[.int .i64 0, .int .i64 0, .string ByteArray.empty, .bool false]) (by kernel_rfl) (fun b10 c11 => ?_)
  replace h := h b10 c11
  obtain ⟨c12, h⟩ := h
  refine SOps.storeL (p := (b10, 0)) (v := .agg #[.int .i64 x4, .int .i64 x5, .string s6, .bool q7]) (cs := [.int .i64 x4, .int .i64 x5, .string s6, .bool q7]) rfl rfl (wantN rfl) (size := 4) (by kernel_rfl) rfl rfl rfl rfl (by simp [Value.oneCell', errV_one, pv, sv]) c12 ?_
  refine SOps.val (v := errV e8) rfl (wantN rfl) (fun _ => by kernel_rfl) ?_
  refine SOps.nil ?_
  refine SW.seq ?_
  refine SW.seq ?_
  refine SW.region ?_
  refine SOps.val (v := errV e8) rfl (wantN rfl) (fun _ => by kernel_rfl) ?_
  rcases e8 with _ | v13
  · replace h := h.1 rfl
    refine SOps.val (v := .bool false) rfl (wantN rfl) (fun w => ev_errNe (e := none) rfl Try.underlying30 rfl rfl w) ?_
    refine SOps.nil ?_
    refine SW.cond_f (t := false) rfl rfl ?_
    refine SW.skip ?_
    refine SW.seq ?_
    rcases p1 with _ | ⟨b14, o15⟩
    · replace h := h.1 rfl
      exact h.elim
    · replace h := h.2 b14 o15 rfl
      obtain ⟨l16, c17, h⟩ := h
      obtain ⟨l18, c19, h⟩ := h
      obtain ⟨x20, x21, s22, q23, c24, h⟩ := h
      refine SW.drawE [0] [.val (pv (some (b14, o15))), .val (pv (some (b14, o15))), .val (pv (some (b14, o15))), .val (pv (some (b14, o15))), .val (sv l16), .val (.int .i64 x3), .val (.int .i64 (imax x3 0)), .val (pv (some (b14, o15))), .val (pv (some (b14, o15))), .val (pv (some (b14, o15))), .val (sv l18), .val (.int .i64 (l18.len : Int)), .val (.int .i64 (imin (imax x3 0) (l18.len : Int))), .val (.agg #[.int .i64 x20, .int .i64 x21, .string s22, .bool q23]), .fresh 14 (fun b c => sv ⟨some (b, 0), 1, 1⟩) (fun c => (⟨[.int .i64 x20, .int .i64 x21, .string s22, .bool q23], 74, false, 4⟩ : AO)) (fun _ => True)] (by kernel_rfl) (by kernel_rfl) (by kernel_rfl) ⟨⟨_, _, rfl, rfl, by kernel_rfl, ?_⟩, trivial⟩ (And.intro ?_ (And.intro ?_ (And.intro ?_ (And.intro ?_ (And.intro ?_ (And.intro ?_ (And.intro ?_ (And.intro ?_ (And.intro ?_ (And.intro ?_ (And.intro ?_ (And.intro ?_ (And.intro ?_ (And.intro ?_ (And.intro ?_ (trivial)))))))))))))))) ?_
      · clear h
        intro fr' T' H' hle hs hA
        have a0 : fr' 0 = pv (some (b14, o15)) := hs 0 (by kernel_rfl)
        obtain ⟨g', hg'⟩ : ∃ g' : Fr, fr' = g'.upds [(0, pv (some (b14, o15)))] := ⟨_, Fr.upds_self _ _ ⟨a0, trivial⟩⟩
        subst hg'
        exact ⟨wantN rfl, (fun _ => by kernel_rfl)⟩
      · clear h
        intro fr' T' H' hle hs hA
        have a0 : fr' 0 = pv (some (b14, o15)) := hs 0 (by kernel_rfl)
        obtain ⟨g', hg'⟩ : ∃ g' : Fr, fr' = g'.upds [(0, pv (some (b14, o15)))] := ⟨_, Fr.upds_self _ _ ⟨a0, trivial⟩⟩
        subst hg'
        exact SA.val (v := pv (some (b14, o15))) rfl (wantN rfl) (fun _ => by kernel_rfl)
      · clear h
        intro fr' T' H' hle hs hA
        have a0 : fr' 0 = pv (some (b14, o15)) := hs 0 (by kernel_rfl)
        obtain ⟨g', hg'⟩ : ∃ g' : Fr, fr' = g'.upds [(0, pv (some (b14, o15)))] := ⟨_, Fr.upds_self _ _ ⟨a0, trivial⟩⟩
        subst hg'
        exact SA.val (v := pv (some (b14, o15))) rfl (wantN rfl) (fun _ => by kernel_rfl)
      · clear h
        intro fr' T' H' hle hs hA
        have a19 : fr' 19 = pv (some (b14, o15)) := hA 1 (by kernel_rfl)
        obtain ⟨g', hg'⟩ : ∃ g' : Fr, fr' = g'.upds [(19, pv (some (b14, o15)))] := ⟨_, Fr.upds_self _ _ ⟨a19, trivial⟩⟩
        subst hg'
        exact SA.val (v := pv (some (b14, o15))) rfl (wantN rfl) (fun _ => by kernel_rfl)
      · clear h
        intro fr' T' H' hle hs hA
        have a20 : fr' 20 = pv (some (b14, o15)) := hA 2 (by kernel_rfl)
        obtain ⟨g', hg'⟩ : ∃ g' : Fr, fr' = g'.upds [(20, pv (some (b14, o15)))] := ⟨_, Fr.upds_self _ _ ⟨a20, trivial⟩⟩
        subst hg'
        exact SA.val (v := pv (some (b14, o15))) rfl (wantN rfl) (fun _ => by kernel_rfl)
      · clear h
        intro fr' T' H' hle hs hA
        have a21 : fr' 21 = pv (some (b14, o15)) := hA 3 (by kernel_rfl)
        obtain ⟨g', hg'⟩ : ∃ g' : Fr, fr' = g'.upds [(21, pv (some (b14, o15)))] := ⟨_, Fr.upds_self _ _ ⟨a21, trivial⟩⟩
        subst hg'
        exact SA.rd hle (v := sv l16) rfl (wantN rfl) (fun w hw => ev_load1 rfl (fun _ => by kernel_rfl) (p := (b14, o15)) rfl c17 w hw)
      · clear h
        intro fr' T' H' hle hs hA
        have a2 : fr' 2 = (.int .i64 x3 : Value) := hs 2 (by kernel_rfl)
        obtain ⟨g', hg'⟩ : ∃ g' : Fr, fr' = g'.upds [(2, (.int .i64 x3 : Value))] := ⟨_, Fr.upds_self _ _ ⟨a2, trivial⟩⟩
        subst hg'
        exact SA.val (v := .int .i64 x3) rfl (wantN rfl) (fun _ => by kernel_rfl)
      · clear h
        intro fr' T' H' hle hs hA
        have a23 : fr' 23 = (.int .i64 x3 : Value) := hA 5 (by kernel_rfl)
        obtain ⟨g', hg'⟩ : ∃ g' : Fr, fr' = g'.upds [(23, (.int .i64 x3 : Value))] := ⟨_, Fr.upds_self _ _ ⟨a23, trivial⟩⟩
        subst hg'
        exact SA.val (v := .int .i64 (imax x3 0)) rfl (wantN rfl) (fun _ => by kernel_rfl)
      · clear h
        intro fr' T' H' hle hs hA
        have a0 : fr' 0 = pv (some (b14, o15)) := hs 0 (by kernel_rfl)
        obtain ⟨g', hg'⟩ : ∃ g' : Fr, fr' = g'.upds [(0, pv (some (b14, o15)))] := ⟨_, Fr.upds_self _ _ ⟨a0, trivial⟩⟩
        subst hg'
        exact SA.val (v := pv (some (b14, o15))) rfl (wantN rfl) (fun _ => by kernel_rfl)
      · clear h
        intro fr' T' H' hle hs hA
        have a25 : fr' 25 = pv (some (b14, o15)) := hA 7 (by kernel_rfl)
        obtain ⟨g', hg'⟩ : ∃ g' : Fr, fr' = g'.upds [(25, pv (some (b14, o15)))] := ⟨_, Fr.upds_self _ _ ⟨a25, trivial⟩⟩
        subst hg'
        exact SA.val (v := pv (some (b14, o15))) rfl (wantN rfl) (fun _ => by kernel_rfl)
      · clear h
        intro fr' T' H' hle hs hA
        have a26 : fr' 26 = pv (some (b14, o15)) := hA 8 (by kernel_rfl)
        obtain ⟨g', hg'⟩ : ∃ g' : Fr, fr' = g'.upds [(26, pv (some (b14, o15)))] := ⟨_, Fr.upds_self _ _ ⟨a26, trivial⟩⟩
        subst hg'
        exact SA.val (v := pv (some (b14, o15))) rfl (wantN rfl) (fun _ => by kernel_rfl)
      · clear h
        intro fr' T' H' hle hs hA
        have a27 : fr' 27 = pv (some (b14, o15)) := hA 9 (by kernel_rfl)
        obtain ⟨g', hg'⟩ : ∃ g' : Fr, fr' = g'.upds [(27, pv (some (b14, o15)))] := ⟨_, Fr.upds_self _ _ ⟨a27, trivial⟩⟩
        subst hg'
        exact SA.rd hle (v := sv l18) rfl (wantN rfl) (fun w hw => ev_load1 rfl (fun _ => by kernel_rfl) (p := (b14, o15)) rfl c19 w hw)
      · clear h
        intro fr' T' H' hle hs hA
        have a28 : fr' 28 = sv l18 := hA 10 (by kernel_rfl)
        obtain ⟨g', hg'⟩ : ∃ g' : Fr, fr' = g'.upds [(28, sv l18)] := ⟨_, Fr.upds_self _ _ ⟨a28, trivial⟩⟩
        subst hg'
        exact SA.val (v := .int .i64 (l18.len : Int)) rfl (wantN rfl) (fun _ => by kernel_rfl)
      · clear h
        intro fr' T' H' hle hs hA
        have a24 : fr' 24 = (.int .i64 (imax x3 0) : Value) := hA 6 (by kernel_rfl)
        have a29 : fr' 29 = (.int .i64 (l18.len : Int) : Value) := hA 11 (by kernel_rfl)
        obtain ⟨g', hg'⟩ : ∃ g' : Fr, fr' = g'.upds [(24, (.int .i64 (imax x3 0) : Value)), (29, (.int .i64 (l18.len : Int) : Value))] := ⟨_, Fr.upds_self _ _ ⟨a24, a29, trivial⟩⟩
        subst hg'
        exact SA.val (v := .int .i64 (imin (imax x3 0) (l18.len : Int))) rfl (wantN rfl) (fun _ => by kernel_rfl)
      · clear h
        intro fr' T' H' hle hs hA
        have a7 : fr' 7 = pv (some (b10, 0)) := hs 7 (by kernel_rfl)
        obtain ⟨g', hg'⟩ : ∃ g' : Fr, fr' = g'.upds [(7, pv (some (b10, 0)))] := ⟨_, Fr.upds_self _ _ ⟨a7, trivial⟩⟩
        subst hg'
        exact SA.rd hle (v := .agg #[.int .i64 x20, .int .i64 x21, .string s22, .bool q23]) rfl (wantN rfl) (fun w hw => ev_loadN rfl (fun _ => by kernel_rfl) (size := 4) (by kernel_rfl) (p := (b10, 0)) rfl rfl c24 w hw)
      · clear h
        intro fr' T' H' hle hs hA
        have a31 : fr' 31 = (.agg #[.int .i64 x20, .int .i64 x21, .string s22, .bool q23] : Value) := hA 13 (by kernel_rfl)
        obtain ⟨g', hg'⟩ : ∃ g' : Fr, fr' = g'.upds [(31, (.agg #[.int .i64 x20, .int .i64 x21, .string s22, .bool q23] : Value))] := ⟨_, Fr.upds_self _ _ ⟨a31, trivial⟩⟩
        subst hg'
        exact SA.fresh hle (fun h => SOps.lit (E := 74) (cs := #[.int .i64 x20, .int .i64 x21, .string s22, .bool q23]) rfl rfl (wantN rfl) (fun _ => by kernel_rfl) (fun b c => h b 0 c trivial))
      · intro fr' T' H' hle hs hA
        have a18 : fr' 18 = pv (some (b14, o15)) := hA 0 (Nat.le_of_ble_eq_true rfl)
        have a22 : fr' 22 = sv l16 := hA 4 (Nat.le_of_ble_eq_true rfl)
        have a30 : fr' 30 = (.int .i64 (imin (imax x3 0) (l18.len : Int)) : Value) := hA 12 (Nat.le_of_ble_eq_true rfl)
        obtain ⟨b25, n26, a32, nb25, kb25, tb25, ob25⟩ := hA 14 (Nat.le_of_ble_eq_true rfl)
        obtain ⟨g', hg'⟩ : ∃ g' : Fr, fr' = g'.upds [(18, pv (some (b14, o15))), (22, sv l16), (30, (.int .i64 (imin (imax x3 0) (l18.len : Int)) : Value)), (32, sv (⟨some (b25, 0), 1, 1⟩ : Sl))] := ⟨_, Fr.upds_self _ _ ⟨a18, a22, a30, a32, trivial⟩⟩
        subst hg'
        refine SOps.forget (SH.upd (SH.setl (SH.upd H9 b10 ⟨[.int .i64 0, .int .i64 0, .string ByteArray.empty, .bool false], 74, false, 4⟩) (b10, 0) [.int .i64 x4, .int .i64 x5, .string s6, .bool q7]) b25 (⟨[.int .i64 x20, .int .i64 x21, .string s22, .bool q23], 74, false, 4⟩ : AO)) (SH.le.upd_in hle kb25) ?_
        replace h := h b25 nb25
        clear hle hs hA
        refine SOps.enter rfl (wantN rfl) (fun _ => by kernel_rfl) (slices_Insert_net_flying_net_flying.sound F l16 (imin (imax x3 0) (l18.len : Int)) (⟨some (b25, 0), 1, 1⟩ : Sl) (SH.upd (SH.setl (SH.upd H9 b10 ⟨[.int .i64 0, .int .i64 0, .string ByteArray.empty, .bool false], 74, false, 4⟩) (b10, 0) [.int .i64 x4, .int .i64 x5, .string s6, .bool q7]) b25 (⟨[.int .i64 x20, .int .i64 x21, .string s22, .bool q23], 74, false, 4⟩ : AO)) _ h) ?_
        clear h
        rintro v H29 ⟨l28, rfl, h⟩
        refine SOps.val (v := pv (some (b14, o15))) rfl (wantN rfl) (fun _ => by kernel_rfl) ?_
        refine SOps.val (v := pv (some (b14, o15))) rfl (wantN rfl) (fun _ => by kernel_rfl) ?_
        obtain ⟨c30, h⟩ := h
        refine SOps.storeL (p := (b14, o15)) (v := sv l28) (cs := [sv l28]) rfl rfl (wantN rfl) (size := 1) (by kernel_rfl) rfl rfl rfl rfl (by simp [Value.oneCell', errV_one, pv, sv]) c30 ?_
        refine SOps.nil ?_
        refine SW.seq ?_
        refine SW.region ?_
        refine SOps.val (v := errV none) rfl (wantN rfl) (fun _ => by kernel_rfl) ?_
        refine SOps.nil ?_
        obtain ⟨Hr, hr, h⟩ := h
        exact SW.ret (retQ.mk (errV none) (res1 rfl rfl) hr ⟨none, rfl, h⟩)
  · replace h := h.2 v13 rfl
    refine SOps.val (v := .bool true) rfl (wantN rfl) (fun w => ev_errNe (e := some v13) rfl Try.underlying30 rfl rfl w) ?_
    refine SOps.nil ?_
    refine SW.cond_t (t := true) rfl rfl ?_
    refine SW.seq ?_
    refine SW.region ?_
    refine SOps.val (v := errV (some v13)) rfl (wantN rfl) (fun _ => by kernel_rfl) ?_
    refine SOps.val (v := errV (some v13)) rfl (wantN rfl) (fun _ => by kernel_rfl) ?_
    refine SOps.nil ?_
    obtain ⟨Hr, hr, h⟩ := h
    exact SW.ret (retQ.mk (errV (some v13)) (res1 rfl rfl) hr ⟨some v13, rfl, h⟩)

/-! ### (*lading/net.Net).Twice: function 20 -/
def net_Net_Twice.wp (F : Nat) (p1 : Option (Nat × Nat)) (x2 : Int) (H : SH) (K : Option EV → SH → Prop) : Prop :=
  net_Net_at.wp F p1 x2 H (fun x3 x4 s5 q6 e7 H8 =>
    ∀ b9, H8 b9 = none →
    SH.wrs (SH.upd H8 b9 ⟨[.int .i64 0, .int .i64 0, .string ByteArray.empty, .bool false], 74, false, 4⟩) (b9, 0) 4 ∧
    (e7 = none →
      ∃ (x13 : Int) (x14 : Int) (s15 : ByteArray) (q16 : Bool),
      SH.row (SH.setl (SH.upd H8 b9 ⟨[.int .i64 0, .int .i64 0, .string ByteArray.empty, .bool false], 74, false, 4⟩) (b9, 0) [.int .i64 x3, .int .i64 x4, .string s5, .bool q6]) (some (b9, 0)) [.int .i64 x13, .int .i64 x14, .string s15, .bool q16] ∧
      net_Net_push.wp F p1 x13 x14 s15 q16 (SH.setl (SH.upd H8 b9 ⟨[.int .i64 0, .int .i64 0, .string ByteArray.empty, .bool false], 74, false, 4⟩) (b9, 0) [.int .i64 x3, .int .i64 x4, .string s5, .bool q6]) (fun H18 =>
        ∃ Hr, SH.le Hr H18 ∧ K none Hr
      )
    ) ∧ (∀ v12, e7 = some v12 →
      ∃ Hr, SH.le Hr (SH.setl (SH.upd H8 b9 ⟨[.int .i64 0, .int .i64 0, .string ByteArray.empty, .bool false], 74, false, 4⟩) (b9, 0) [.int .i64 x3, .int .i64 x4, .string s5, .bool q6]) ∧ K (some v12) Hr
    )
  )
set_option maxHeartbeats 8000000 in
theorem net_Net_Twice.sound (F : Nat) (p1 : Option (Nat × Nat)) (x2 : Int) (H : SH) (K : Option EV → SH → Prop) (h : net_Net_Twice.wp F p1 x2 H K) : SCalls Try.prog 20 #[pv p1, .int .i64 x2] H (fun v H' => ∃ (e20 : Option EV), v = errV e20 ∧ K e20 H') := by
  unfold net_Net_Twice.wp at h
  refine SCalls.body Try.func20 rfl (Nat.le_of_ble_eq_true rfl) ?_
  refine SW.seq ?_
  refine SW.region ?_
  refine SOps.val (v := errV none) rfl (wantN rfl) (fun _ => by kernel_rfl) ?_
  refine SOps.nil ?_
  refine SW.seq ?_
  refine SW.region ?_
  refine SOps.val (v := pv p1) rfl (wantN rfl) (fun _ => by kernel_rfl) ?_
  refine SOps.val (v := .int .i64 x2) rfl (wantN rfl) (fun _ => by kernel_rfl) ?_
  refine SOps.enter rfl (wantN rfl) (fun _ => by kernel_rfl) (net_Net_at.sound F p1 x2 H _ h) ?_
  clear h
  rintro v H8 ⟨x3, x4, s5, q6, e7, rfl, h⟩
  refine SOps.val (v := .tuple #[.agg #[.int .i64 x3, .int .i64 x4, .string s5, .bool q6], errV e7]) rfl (wantN rfl) (fun _ => by kernel_rfl) ?_
  refine SOps.val (v := .agg #[.int .i64 x3, .int .i64 x4, .string s5, .bool q6]) rfl (wantN rfl) (fun _ => by kernel_rfl) ?_
  refine SOps.val (v := errV e7) rfl (wantN rfl) (fun _ => by kernel_rfl) ?_
  refine SOps.alloc rfl rfl (wantN rfl) (z := .agg #[.int .i64 0, .int .i64 0, .string ByteArray.empty, .bool false]) (by kernel_rfl) (fun b9 c10 => ?_)
  replace h := h b9 c10
  obtain ⟨c11, h⟩ := h
  refine SOps.storeL (p := (b9, 0)) (v := .agg #[.int .i64 x3, .int .i64 x4, .string s5, .bool q6]) (cs := [.int .i64 x3, .int .i64 x4, .string s5, .bool q6]) rfl rfl (wantN rfl) (size := 4) (by kernel_rfl) rfl rfl rfl rfl (by simp [Value.oneCell', errV_one, pv, sv]) c11 ?_
  refine SOps.val (v := errV e7) rfl (wantN rfl) (fun _ => by kernel_rfl) ?_
  refine SOps.nil ?_
  refine SW.seq ?_
  refine SW.seq ?_
  refine SW.region ?_
  refine SOps.val (v := errV e7) rfl (wantN rfl) (fun _ => by kernel_rfl) ?_
  rcases e7 with _ | v12
  · replace h := h.1 rfl
    refine SOps.val (v := .bool false) rfl (wantN rfl) (fun w => ev_errNe (e := none) rfl Try.underlying30 rfl rfl w) ?_
    refine SOps.nil ?_
    refine SW.cond_f (t := false) rfl rfl ?_
    refine SW.skip ?_
    refine SW.seq ?_
    refine SW.region ?_
    refine SOps.val (v := pv p1) rfl (wantN rfl) (fun _ => by kernel_rfl) ?_
    obtain ⟨x13, x14, s15, q16, c17, h⟩ := h
    refine SOps.rd (v := .agg #[.int .i64 x13, .int .i64 x14, .string s15, .bool q16]) rfl (wantN rfl) (fun w hw => ev_loadN rfl (fun _ => by kernel_rfl) (size := 4) (by kernel_rfl) (p := (b9, 0)) rfl rfl c17 w hw) ?_
    refine SOps.enter rfl (wantN rfl) (fun _ => by kernel_rfl) (net_Net_push.sound F p1 x13 x14 s15 q16 (SH.setl (SH.upd H8 b9 ⟨[.int .i64 0, .int .i64 0, .string ByteArray.empty, .bool false], 74, false, 4⟩) (b9, 0) [.int .i64 x3, .int .i64 x4, .string s5, .bool q6]) _ h) ?_
    clear h
    rintro v H18 ⟨rfl, h⟩
    refine SOps.nil ?_
    refine SW.seq ?_
    refine SW.region ?_
    refine SOps.val (v := errV none) rfl (wantN rfl) (fun _ => by kernel_rfl) ?_
    refine SOps.nil ?_
    obtain ⟨Hr, hr, h⟩ := h
    exact SW.ret (retQ.mk (errV none) (res1 rfl rfl) hr ⟨none, rfl, h⟩)
  · replace h := h.2 v12 rfl
    refine SOps.val (v := .bool true) rfl (wantN rfl) (fun w => ev_errNe (e := some v12) rfl Try.underlying30 rfl rfl w) ?_
    refine SOps.nil ?_
    refine SW.cond_t (t := true) rfl rfl ?_
    refine SW.seq ?_
    refine SW.region ?_
    refine SOps.val (v := errV (some v12)) rfl (wantN rfl) (fun _ => by kernel_rfl) ?_
    refine SOps.val (v := errV (some v12)) rfl (wantN rfl) (fun _ => by kernel_rfl) ?_
    refine SOps.nil ?_
    obtain ⟨Hr, hr, h⟩ := h
    exact SW.ret (retQ.mk (errV (some v12)) (res1 rfl rfl) hr ⟨some v12, rfl, h⟩)

/-! ### (*lading/net.Net).Spoil: function 21 -/
def net_Net_Spoil.wp (F : Nat) (p1 : Option (Nat × Nat)) (x2 : Int) (x3 : Int) (x4 : Int) (H : SH) (K : Option EV → SH → Prop) : Prop :=
  net_Net_at.wp F p1 x2 H (fun x5 x6 s7 q8 e9 H10 =>
    ∀ b11, H10 b11 = none →
    SH.wrs (SH.upd H10 b11 ⟨[.int .i64 0, .int .i64 0, .string ByteArray.empty, .bool false], 74, false, 4⟩) (b11, 0) 4 ∧
    (e9 = none →
      (x3 < 0 →
        ∃ Hr, SH.le Hr (SH.setl (SH.upd H10 b11 ⟨[.int .i64 0, .int .i64 0, .string ByteArray.empty, .bool false], 74, false, 4⟩) (b11, 0) [.int .i64 x5, .int .i64 x6, .string s7, .bool q8]) ∧ K (some (EV.no 2)) Hr
      ) ∧ (¬ (x3 < 0) →
        ∃ (s16 : ByteArray),
        SH.has (SH.setl (SH.upd H10 b11 ⟨[.int .i64 0, .int .i64 0, .string ByteArray.empty, .bool false], 74, false, 4⟩) (b11, 0) [.int .i64 x5, .int .i64 x6, .string s7, .bool q8]) (b11, 2) (.string s16) ∧
        (x3 ≥ (s16.size : Int) →
          ∃ Hr, SH.le Hr (SH.setl (SH.upd H10 b11 ⟨[.int .i64 0, .int .i64 0, .string ByteArray.empty, .bool false], 74, false, 4⟩) (b11, 0) [.int .i64 x5, .int .i64 x6, .string s7, .bool q8]) ∧ K (some (EV.no 2)) Hr
        ) ∧ (¬ (x3 ≥ (s16.size : Int)) →
          (x4 = 0 →
            ∃ Hr, SH.le Hr (SH.setl (SH.upd H10 b11 ⟨[.int .i64 0, .int .i64 0, .string ByteArray.empty, .bool false], 74, false, 4⟩) (b11, 0) [.int .i64 x5, .int .i64 x6, .string s7, .bool q8]) ∧ K (some (EV.no 1)) Hr
          ) ∧ (¬ (x4 = 0) →
            ∃ (q20 : Bool),
            SH.has (SH.setl (SH.upd H10 b11 ⟨[.int .i64 0, .int .i64 0, .string ByteArray.empty, .bool false], 74, false, 4⟩) (b11, 0) [.int .i64 x5, .int .i64 x6, .string s7, .bool q8]) (b11, 3) (.bool q20) ∧
            (q20 = true →
              ∃ Hr, SH.le Hr (SH.setl (SH.upd H10 b11 ⟨[.int .i64 0, .int .i64 0, .string ByteArray.empty, .bool false], 74, false, 4⟩) (b11, 0) [.int .i64 x5, .int .i64 x6, .string s7, .bool q8]) ∧ K (some (EV.no 12)) Hr
            ) ∧ (¬ (q20 = true) →
              ∃ (s23 : ByteArray),
              SH.has (SH.setl (SH.upd H10 b11 ⟨[.int .i64 0, .int .i64 0, .string ByteArray.empty, .bool false], 74, false, 4⟩) (b11, 0) [.int .i64 x5, .int .i64 x6, .string s7, .bool q8]) (b11, 2) (.string s23) ∧
              ∀ b25 n26, (SH.setl (SH.upd H10 b11 ⟨[.int .i64 0, .int .i64 0, .string ByteArray.empty, .bool false], 74, false, 4⟩) (b11, 0) [.int .i64 x5, .int .i64 x6, .string s7, .bool q8]) b25 = none → s23.size ≤ n26 →
              ∃ p29, (⟨some (b25, 0), s23.size, n26⟩ : Sl).a = some p29 ∧ 0 ≤ x3 ∧ x3 < ((⟨some (b25, 0), s23.size, n26⟩ : Sl).len : Int) ∧
              ∃ (x33 : Int),
              SH.has (SH.upd (SH.setl (SH.upd H10 b11 ⟨[.int .i64 0, .int .i64 0, .string ByteArray.empty, .bool false], 74, false, 4⟩) (b11, 0) [.int .i64 x5, .int .i64 x6, .string s7, .bool q8]) b25 ⟨byteCells s23.data.toList, 5, false, n26⟩) (p29.1, (p29.2 + x3.toNat * 1)) (.int .u8 x33) ∧
              ∃ p35, (⟨some (b25, 0), s23.size, n26⟩ : Sl).a = some p35 ∧ 0 ≤ x3 ∧ x3 < ((⟨some (b25, 0), s23.size, n26⟩ : Sl).len : Int) ∧
              SH.wrs (SH.upd (SH.setl (SH.upd H10 b11 ⟨[.int .i64 0, .int .i64 0, .string ByteArray.empty, .bool false], 74, false, 4⟩) (b11, 0) [.int .i64 x5, .int .i64 x6, .string s7, .bool q8]) b25 ⟨byteCells s23.data.toList, 5, false, n26⟩) (p35.1, (p35.2 + x3.toNat * 1)) 1 ∧
              (p1 = none →
                False
              ) ∧ (∀ b40 o41, p1 = some (b40, o41) →
                ∃ (l42 : Sl),
                SH.has (SH.setl (SH.upd (SH.setl (SH.upd H10 b11 ⟨[.int .i64 0, .int .i64 0, .string ByteArray.empty, .bool false], 74, false, 4⟩) (b11, 0) [.int .i64 x5, .int .i64 x6, .string s7, .bool q8]) b25 ⟨byteCells s23.data.toList, 5, false, n26⟩) (p35.1, (p35.2 + x3.toNat * 1)) [.int .u8 (ibits .xor .u8 x33 x4)]) (b40, o41) (sv l42) ∧
                ∃ (x44 : Int),
                SH.has (SH.setl (SH.upd (SH.setl (SH.upd H10 b11 ⟨[.int .i64 0, .int .i64 0, .string ByteArray.empty, .bool false], 74, false, 4⟩) (b11, 0) [.int .i64 x5, .int .i64 x6, .string s7, .bool q8]) b25 ⟨byteCells s23.data.toList, 5, false, n26⟩) (p35.1, (p35.2 + x3.toNat * 1)) [.int .u8 (ibits .xor .u8 x33 x4)]) (b11, 0) (.int .i64 x44) ∧
                ∃ (x46 : Int),
                SH.has (SH.setl (SH.upd (SH.setl (SH.upd H10 b11 ⟨[.int .i64 0, .int .i64 0, .string ByteArray.empty, .bool false], 74, false, 4⟩) (b11, 0) [.int .i64 x5, .int .i64 x6, .string s7, .bool q8]) b25 ⟨byteCells s23.data.toList, 5, false, n26⟩) (p35.1, (p35.2 + x3.toNat * 1)) [.int .u8 (ibits .xor .u8 x33 x4)]) (b11, 1) (.int .i64 x46) ∧
                ∃ bs48 : List UInt8,
                (⟨some (b25, 0), s23.size, n26⟩ : Sl).len = bs48.length ∧
                SH.row (SH.setl (SH.upd (SH.setl (SH.upd H10 b11 ⟨[.int .i64 0, .int .i64 0, .string ByteArray.empty, .bool false], 74, false, 4⟩) (b11, 0) [.int .i64 x5, .int .i64 x6, .string s7, .bool q8]) b25 ⟨byteCells s23.data.toList, 5, false, n26⟩) (p35.1, (p35.2 + x3.toNat * 1)) [.int .u8 (ibits .xor .u8 x33 x4)]) (⟨some (b25, 0), s23.size, n26⟩ : Sl).a (byteCells bs48) ∧
                ∃ p51, l42.a = some p51 ∧ 0 ≤ x2 ∧ x2 < (l42.len : Int) ∧
                SH.wrs (SH.setl (SH.upd (SH.setl (SH.upd H10 b11 ⟨[.int .i64 0, .int .i64 0, .string ByteArray.empty, .bool false], 74, false, 4⟩) (b11, 0) [.int .i64 x5, .int .i64 x6, .string s7, .bool q8]) b25 ⟨byteCells s23.data.toList, 5, false, n26⟩) (p35.1, (p35.2 + x3.toNat * 1)) [.int .u8 (ibits .xor .u8 x33 x4)]) (p51.1, (p51.2 + x2.toNat * 4)) 4 ∧
                ∃ Hr, SH.le Hr (SH.setl (SH.setl (SH.upd (SH.setl (SH.upd H10 b11 ⟨[.int .i64 0, .int .i64 0, .string ByteArray.empty, .bool false], 74, false, 4⟩) (b11, 0) [.int .i64 x5, .int .i64 x6, .string s7, .bool q8]) b25 ⟨byteCells s23.data.toList, 5, false, n26⟩) (p35.1, (p35.2 + x3.toNat * 1)) [.int .u8 (ibits .xor .u8 x33 x4)]) (p51.1, (p51.2 + x2.toNat * 4)) [.int .i64 x44, .int .i64 x46, .string (⟨bs48.toArray⟩ : ByteArray), .bool true]) ∧ K none Hr
              )
            )
          )
        )
      )
    ) ∧ (∀ v14, e9 = some v14 →
      ∃ Hr, SH.le Hr (SH.setl (SH.upd H10 b11 ⟨[.int .i64 0, .int .i64 0, .string ByteArray.empty, .bool false], 74, false, 4⟩) (b11, 0) [.int .i64 x5, .int .i64 x6, .string s7, .bool q8]) ∧ K (some v14) Hr
    )
  )
set_option maxHeartbeats 8000000 in
theorem net_Net_Spoil.sound (F : Nat) (p1 : Option (Nat × Nat)) (x2 : Int) (x3 : Int) (x4 : Int) (H : SH) (K : Option EV → SH → Prop) (h : net_Net_Spoil.wp F p1 x2 x3 x4 H K) : SCalls Try.prog 21 #[pv p1, .int .i64 x2, .int .i64 x3, .int .u8 x4] H (fun v H' => ∃ (e58 : Option EV), v = errV e58 ∧ K e58 H') := by
  unfold net_Net_Spoil.wp at h
  refine SCalls.body Try.func21 rfl (Nat.le_of_ble_eq_true rfl) ?_
  refine SW.seq ?_
  refine SW.region ?_
  refine SOps.val (v := errV none) rfl (wantN rfl) (fun _ => by kernel_rfl) ?_
  refine SOps.nil ?_
  refine SW.seq ?_
  refine SW.region ?_
  refine SOps.val (v := pv p1) rfl (wantN rfl) (fun _ => by kernel_rfl) ?_
  refine SOps.val (v := .int .i64 x2) rfl (wantN rfl) (fun _ => by kernel_rfl) ?_
  refine SOps.enter rfl (wantN rfl) (fun _ => by kernel_rfl) (net_Net_at.sound F p1 x2 H _ h) ?_
  clear h
  rintro v H10 ⟨x5, x6, s7, q8, e9, rfl, h⟩
  refine SOps.val (v := .tuple #[.agg #[.int .i64 x5, .int .i64 x6, .string s7, .bool q8], errV e9]) rfl (wantN rfl) (fun _ => by kernel_rfl) ?_
  refine SOps.val (v := .agg #[.int .i64 x5, .int .i64 x6, .string s7, .bool q8]) rfl (wantN rfl) (fun _ => by kernel_rfl) ?_
  refine SOps.val (v := errV e9) rfl (wantN rfl) (fun _ => by kernel_rfl) ?_
  refine SOps.alloc rfl rfl (wantN rfl) (z := .agg #[.int .i64 0, .int .i64 0, .string ByteArray.empty, .bool false]) (by kernel_rfl) (fun b11 c12 => ?_)
  replace h := h b11 c12
  obtain ⟨c13, h⟩ := h
  refine SOps.storeL (p := (b11, 0)) (v := .agg #[.int .i64 x5, .int .i64 x6, .string s7, .bool q8]) (cs := [.int .i64 x5, .int .i64 x6, .string s7, .bool q8]) rfl rfl (wantN rfl) (size := 4) (by kernel_rfl) rfl rfl rfl rfl (by simp [Value.oneCell', errV_one, pv, sv]) c13 ?_
  refine SOps.val (v := errV e9) rfl (wantN rfl) (fun _ => by kernel_rfl) ?_
  refine SOps.nil ?_
  refine SW.seq ?_
  refine SW.block ?_
  refine SW.seq ?_
  refine SW.region ?_
  refine SOps.val (v := errV e9) rfl (wantN rfl) (fun _ => by kernel_rfl) ?_
  rcases e9 with _ | v14
  · replace h := h.1 rfl
    refine SOps.val (v := .bool false) rfl (wantN rfl) (fun w => ev_errNe (e := none) rfl Try.underlying30 rfl rfl w) ?_
    refine SOps.val (v := .bool false) rfl (wantN rfl) (fun _ => by kernel_rfl) ?_
    refine SOps.nil ?_
    refine SW.cond_f (t := false) rfl rfl ?_
    refine SW.seq ?_
    refine SW.region ?_
    refine SOps.val (v := .int .i64 x3) rfl (wantN rfl) (fun _ => by kernel_rfl) ?_
    refine SOps.val (v := .bool (decide (x3 < 0))) rfl (wantN rfl) (fun _ => by kernel_rfl) ?_
    refine SOps.val (v := .bool (decide (x3 < 0))) rfl (wantN rfl) (fun _ => by kernel_rfl) ?_
    by_cases c15 : x3 < 0
    · replace h := h.1 c15
      have dc15 : (decide (x3 < 0)) = true := (decide_eq_true c15)
      refine SOps.off rfl (wantX (c := decide (x3 < 0)) rfl rfl rfl dc15) ?_
      refine SOps.off rfl (wantX (c := decide (x3 < 0)) rfl rfl rfl dc15) ?_
      refine SOps.off rfl (wantX (c := decide (x3 < 0)) rfl rfl rfl dc15) ?_
      refine SOps.off rfl (wantX (c := decide (x3 < 0)) rfl rfl rfl dc15) ?_
      refine SOps.off rfl (wantX (c := decide (x3 < 0)) rfl rfl rfl dc15) ?_
      refine SOps.off rfl (wantX (c := decide (x3 < 0)) rfl rfl rfl dc15) ?_
      refine SOps.val (v := .bool true) rfl (wantN rfl) (fun w => ev_pickT (v := .bool true) rfl (t := decide (x3 < 0)) rfl dc15 rfl w) ?_
      refine SOps.val (v := .bool true) rfl (wantN rfl) (fun _ => by kernel_rfl) ?_
      refine SOps.nil ?_
      refine SW.cond_t (t := true) rfl rfl ?_
      refine SW.seq ?_
      refine SW.region ?_
      refine SOps.val (v := errV (some (EV.no 2))) rfl (wantN rfl) (fun _ => by kernel_rfl) ?_
      refine SOps.val (v := errV (some (EV.no 2))) rfl (wantN rfl) (fun _ => by kernel_rfl) ?_
      refine SOps.nil ?_
      obtain ⟨Hr, hr, h⟩ := h
      exact SW.ret (retQ.mk (errV (some (EV.no 2))) (res1 rfl rfl) hr ⟨some (EV.no 2), rfl, h⟩)
    · replace h := h.2 c15
      have dc15 : (decide (x3 < 0)) = false := (decide_eq_false c15)
      refine SOps.val (v := .int .i64 x3) rfl (wantY (c := decide (x3 < 0)) rfl rfl rfl dc15) (fun _ => by kernel_rfl) ?_
      refine SOps.val (v := pv (some (b11, 0))) rfl (wantY (c := decide (x3 < 0)) rfl rfl rfl dc15) (fun _ => by kernel_rfl) ?_
      refine SOps.val (v := pv (some (b11, 2))) rfl (wantY (c := decide (x3 < 0)) rfl rfl rfl dc15) (fun _ => by kernel_rfl) ?_
      obtain ⟨s16, c17, h⟩ := h
      refine SOps.rd (v := .string s16) rfl (wantY (c := decide (x3 < 0)) rfl rfl rfl dc15) (fun w hw => ev_load1 rfl (fun _ => by kernel_rfl) (p := (b11, 2)) rfl c17 w hw) ?_
      refine SOps.val (v := .int .i64 (s16.size : Int)) rfl (wantY (c := decide (x3 < 0)) rfl rfl rfl dc15) (fun _ => by kernel_rfl) ?_
      refine SOps.val (v := .bool (decide (x3 ≥ (s16.size : Int)))) rfl (wantY (c := decide (x3 < 0)) rfl rfl rfl dc15) (fun _ => by kernel_rfl) ?_
      refine SOps.val (v := .bool (decide (x3 ≥ (s16.size : Int)))) rfl (wantN rfl) (fun w => ev_pickF (v := .bool (decide (x3 ≥ (s16.size : Int)))) rfl (t := decide (x3 < 0)) rfl dc15 rfl w) ?_
      refine SOps.val (v := .bool (decide (x3 ≥ (s16.size : Int)))) rfl (wantN rfl) (fun _ => by kernel_rfl) ?_
      refine SOps.nil ?_
      by_cases c18 : x3 ≥ (s16.size : Int)
      · replace h := h.1 c18
        have dc18 : (decide (x3 ≥ (s16.size : Int))) = true := (decide_eq_true c18)
        refine SW.cond_t (t := decide (x3 ≥ (s16.size : Int))) rfl dc18 ?_
        refine SW.seq ?_
        refine SW.region ?_
        refine SOps.val (v := errV (some (EV.no 2))) rfl (wantN rfl) (fun _ => by kernel_rfl) ?_
        refine SOps.val (v := errV (some (EV.no 2))) rfl (wantN rfl) (fun _ => by kernel_rfl) ?_
        refine SOps.nil ?_
        obtain ⟨Hr, hr, h⟩ := h
        exact SW.ret (retQ.mk (errV (some (EV.no 2))) (res1 rfl rfl) hr ⟨some (EV.no 2), rfl, h⟩)
      · replace h := h.2 c18
        have dc18 : (decide (x3 ≥ (s16.size : Int))) = false := (decide_eq_false c18)
        refine SW.cond_f (t := decide (x3 ≥ (s16.size : Int))) rfl dc18 ?_
        refine SW.seq ?_
        refine SW.region ?_
        refine SOps.val (v := .int .u8 x4) rfl (wantN rfl) (fun _ => by kernel_rfl) ?_
        refine SOps.val (v := .bool (x4 == 0)) rfl (wantN rfl) (fun _ => by kernel_rfl) ?_
        refine SOps.val (v := .bool (x4 == 0)) rfl (wantN rfl) (fun _ => by kernel_rfl) ?_
        refine SOps.nil ?_
        by_cases c19 : x4 = 0
        · replace h := h.1 c19
          have dc19 : (x4 == 0) = true := (beq_iff_eq.mpr c19)
          refine SW.cond_t (t := (x4 == 0)) rfl dc19 ?_
          refine SW.seq ?_
          refine SW.region ?_
          refine SOps.val (v := errV (some (EV.no 1))) rfl (wantN rfl) (fun _ => by kernel_rfl) ?_
          refine SOps.val (v := errV (some (EV.no 1))) rfl (wantN rfl) (fun _ => by kernel_rfl) ?_
          refine SOps.nil ?_
          obtain ⟨Hr, hr, h⟩ := h
          exact SW.ret (retQ.mk (errV (some (EV.no 1))) (res1 rfl rfl) hr ⟨some (EV.no 1), rfl, h⟩)
        · replace h := h.2 c19
          have dc19 : (x4 == 0) = false := (beq_eq_false_iff_ne.mpr c19)
          refine SW.cond_f (t := (x4 == 0)) rfl dc19 ?_
          refine SW.seq ?_
          refine SW.region ?_
          refine SOps.val (v := pv (some (b11, 3))) rfl (wantN rfl) (fun _ => by kernel_rfl) ?_
          obtain ⟨q20, c21, h⟩ := h
          refine SOps.rd (v := .bool q20) rfl (wantN rfl) (fun w hw => ev_load1 rfl (fun _ => by kernel_rfl) (p := (b11, 3)) rfl c21 w hw) ?_
          refine SOps.val (v := .bool q20) rfl (wantN rfl) (fun _ => by kernel_rfl) ?_
          refine SOps.nil ?_
          by_cases c22 : q20 = true
          · replace h := h.1 c22
            have dc22 : q20 = true := c22
            refine SW.cond_t (t := q20) rfl dc22 ?_
            refine SW.seq ?_
            refine SW.region ?_
            refine SOps.val (v := errV (some (EV.no 12))) rfl (wantN rfl) (fun _ => by kernel_rfl) ?_
            refine SOps.val (v := errV (some (EV.no 12))) rfl (wantN rfl) (fun _ => by kernel_rfl) ?_
            refine SOps.nil ?_
            obtain ⟨Hr, hr, h⟩ := h
            exact SW.ret (retQ.mk (errV (some (EV.no 12))) (res1 rfl rfl) hr ⟨some (EV.no 12), rfl, h⟩)
          · replace h := h.2 c22
            have dc22 : q20 = false := (Bool.eq_false_iff.mpr c22)
            refine SW.cond_f (t := q20) rfl dc22 ?_
            refine SW.skip ?_
            refine SW.seq ?_
            refine SW.region ?_
            refine SOps.val (v := pv (some (b11, 0))) rfl (wantN rfl) (fun _ => by kernel_rfl) ?_
            refine SOps.val (v := pv (some (b11, 2))) rfl (wantN rfl) (fun _ => by kernel_rfl) ?_
            obtain ⟨s23, c24, h⟩ := h
            refine SOps.rd (v := .string s23) rfl (wantN rfl) (fun w hw => ev_load1 rfl (fun _ => by kernel_rfl) (p := (b11, 2)) rfl c24 w hw) ?_
            refine SOps.bytes rfl rfl (wantN rfl) Try.underlying9 Try.underlying38 Try.underlying5 rfl rfl (fun b25 n26 c27 c28 => ?_)
            replace h := h b25 n26 c27 c28
            refine SOps.val (v := sv (⟨some (b25, 0), s23.size, n26⟩ : Sl)) rfl (wantN rfl) (fun _ => by kernel_rfl) ?_
            refine SOps.nil ?_
            refine SW.seq ?_
            refine SW.region ?_
            refine SOps.val (v := sv (⟨some (b25, 0), s23.size, n26⟩ : Sl)) rfl (wantN rfl) (fun _ => by kernel_rfl) ?_
            refine SOps.val (v := .int .i64 x3) rfl (wantN rfl) (fun _ => by kernel_rfl) ?_
            obtain ⟨p29, c30, c31, c32, h⟩ := h
            refine SOps.val (v := pv (some (p29.1, (p29.2 + x3.toNat * 1)))) rfl (wantN rfl) (fun w => ev_iaddr rfl Try.underlying38 (size := 1) (by kernel_rfl) rfl rfl c30 c31 c32 w) ?_
            obtain ⟨x33, c34, h⟩ := h
            refine SOps.rd (v := .int .u8 x33) rfl (wantN rfl) (fun w hw => ev_load1 rfl (fun _ => by kernel_rfl) (p := (p29.1, (p29.2 + x3.toNat * 1))) rfl c34 w hw) ?_
            refine SOps.val (v := .int .u8 x4) rfl (wantN rfl) (fun _ => by kernel_rfl) ?_
            refine SOps.val (v := .int .u8 (ibits .xor .u8 x33 x4)) rfl (wantN rfl) (fun _ => by kernel_rfl) ?_
            obtain ⟨p35, c36, c37, c38, h⟩ := h
            refine SOps.val (v := pv (some (p35.1, (p35.2 + x3.toNat * 1)))) rfl (wantN rfl) (fun w => ev_iaddr rfl Try.underlying38 (size := 1) (by kernel_rfl) rfl rfl c36 c37 c38 w) ?_
            obtain ⟨c39, h⟩ := h
            refine SOps.storeL (p := (p35.1, (p35.2 + x3.toNat * 1))) (v := .int .u8 (ibits .xor .u8 x33 x4)) (cs := [.int .u8 (ibits .xor .u8 x33 x4)]) rfl rfl (wantN rfl) (size := 1) (by kernel_rfl) rfl rfl rfl rfl (by simp [Value.oneCell', errV_one, pv, sv]) c39 ?_
            refine SOps.nil ?_
            refine SW.seq ?_
            rcases p1 with _ | ⟨b40, o41⟩
            · replace h := h.1 rfl
              exact h.elim
            · replace h := h.2 b40 o41 rfl
              obtain ⟨l42, c43, h⟩ := h
              obtain ⟨x44, c45, h⟩ := h
              obtain ⟨x46, c47, h⟩ := h
              obtain ⟨bs48, c49, c50, h⟩ := h
              obtain ⟨p51, c52, c53, c54, h⟩ := h
              refine SW.drawA [.val (pv (some (b40, o41))), .val (pv (some (b40, o41))), .val (pv (some (b40, o41))), .val (sv l42), .val (.int .i64 x2), .val (pv (some (b11, 0))), .val (pv (some (b11, 0))), .val (.int .i64 x44), .val (pv (some (b11, 0))), .val (pv (some (b11, 1))), .val (.int .i64 x46), .val (sv (⟨some (b25, 0), s23.size, n26⟩ : Sl)), .val (.string (⟨bs48.toArray⟩ : ByteArray)), .val (.agg #[.int .i64 x44, .int .i64 x46, .string (⟨bs48.toArray⟩ : ByteArray)]), .val (.agg #[.int .i64 x44, .int .i64 x46, .string (⟨bs48.toArray⟩ : ByteArray), .bool true]), .val (pv (some (p51.1, (p51.2 + x2.toNat * 4))))] (by kernel_rfl) (by kernel_rfl) (And.intro ?_ (And.intro ?_ (And.intro ?_ (And.intro ?_ (And.intro ?_ (And.intro ?_ (And.intro ?_ (And.intro ?_ (And.intro ?_ (And.intro ?_ (And.intro ?_ (And.intro ?_ (And.intro ?_ (And.intro ?_ (And.intro ?_ (And.intro ?_ (trivial))))))))))))))))) ?_
              · clear h
                intro fr' T' H' hle hs hA
                have a0 : fr' 0 = pv (some (b40, o41)) := hs 0 (by kernel_rfl)
                obtain ⟨g', hg'⟩ : ∃ g' : Fr, fr' = g'.upds [(0, pv (some (b40, o41)))] := ⟨_, Fr.upds_self _ _ ⟨a0, trivial⟩⟩
                subst hg'
                exact SA.val (v := pv (some (b40, o41))) rfl (wantN rfl) (fun _ => by kernel_rfl)
              · clear h
                intro fr' T' H' hle hs hA
                have a53 : fr' 53 = pv (some (b40, o41)) := hA 0 (by kernel_rfl)
                obtain ⟨g', hg'⟩ : ∃ g' : Fr, fr' = g'.upds [(53, pv (some (b40, o41)))] := ⟨_, Fr.upds_self _ _ ⟨a53, trivial⟩⟩
                subst hg'
                exact SA.val (v := pv (some (b40, o41))) rfl (wantN rfl) (fun _ => by kernel_rfl)
              · clear h
                intro fr' T' H' hle hs hA
                have a54 : fr' 54 = pv (some (b40, o41)) := hA 1 (by kernel_rfl)
                obtain ⟨g', hg'⟩ : ∃ g' : Fr, fr' = g'.upds [(54, pv (some (b40, o41)))] := ⟨_, Fr.upds_self _ _ ⟨a54, trivial⟩⟩
                subst hg'
                exact SA.val (v := pv (some (b40, o41))) rfl (wantN rfl) (fun _ => by kernel_rfl)
              · clear h
                intro fr' T' H' hle hs hA
                have a55 : fr' 55 = pv (some (b40, o41)) := hA 2 (by kernel_rfl)
                obtain ⟨g', hg'⟩ : ∃ g' : Fr, fr' = g'.upds [(55, pv (some (b40, o41)))] := ⟨_, Fr.upds_self _ _ ⟨a55, trivial⟩⟩
                subst hg'
                exact SA.rd hle (v := sv l42) rfl (wantN rfl) (fun w hw => ev_load1 rfl (fun _ => by kernel_rfl) (p := (b40, o41)) rfl c43 w hw)
              · clear h
                intro fr' T' H' hle hs hA
                have a1 : fr' 1 = (.int .i64 x2 : Value) := hs 1 (by kernel_rfl)
                obtain ⟨g', hg'⟩ : ∃ g' : Fr, fr' = g'.upds [(1, (.int .i64 x2 : Value))] := ⟨_, Fr.upds_self _ _ ⟨a1, trivial⟩⟩
                subst hg'
                exact SA.val (v := .int .i64 x2) rfl (wantN rfl) (fun _ => by kernel_rfl)
              · clear h
                intro fr' T' H' hle hs hA
                have a9 : fr' 9 = pv (some (b11, 0)) := hs 9 (by kernel_rfl)
                obtain ⟨g', hg'⟩ : ∃ g' : Fr, fr' = g'.upds [(9, pv (some (b11, 0)))] := ⟨_, Fr.upds_self _ _ ⟨a9, trivial⟩⟩
                subst hg'
                exact SA.val (v := pv (some (b11, 0))) rfl (wantN rfl) (fun _ => by kernel_rfl)
              · clear h
                intro fr' T' H' hle hs hA
                have a58 : fr' 58 = pv (some (b11, 0)) := hA 5 (by kernel_rfl)
                obtain ⟨g', hg'⟩ : ∃ g' : Fr, fr' = g'.upds [(58, pv (some (b11, 0)))] := ⟨_, Fr.upds_self _ _ ⟨a58, trivial⟩⟩
                subst hg'
                exact SA.val (v := pv (some (b11, 0))) rfl (wantN rfl) (fun _ => by kernel_rfl)
              · clear h
                intro fr' T' H' hle hs hA
                have a59 : fr' 59 = pv (some (b11, 0)) := hA 6 (by kernel_rfl)
                obtain ⟨g', hg'⟩ : ∃ g' : Fr, fr' = g'.upds [(59, pv (some (b11, 0)))] := ⟨_, Fr.upds_self _ _ ⟨a59, trivial⟩⟩
                subst hg'
                exact SA.rd hle (v := .int .i64 x44) rfl (wantN rfl) (fun w hw => ev_load1 rfl (fun _ => by kernel_rfl) (p := (b11, 0)) rfl c45 w hw)
              · clear h
                intro fr' T' H' hle hs hA
                have a9 : fr' 9 = pv (some (b11, 0)) := hs 9 (by kernel_rfl)
                obtain ⟨g', hg'⟩ : ∃ g' : Fr, fr' = g'.upds [(9, pv (some (b11, 0)))] := ⟨_, Fr.upds_self _ _ ⟨a9, trivial⟩⟩
                subst hg'
                exact SA.val (v := pv (some (b11, 0))) rfl (wantN rfl) (fun _ => by kernel_rfl)
              · clear h
                intro fr' T' H' hle hs hA
                have a61 : fr' 61 = pv (some (b11, 0)) := hA 8 (by kernel_rfl)
                obtain ⟨g', hg'⟩ : ∃ g' : Fr, fr' = g'.upds [(61, pv (some (b11, 0)))] := ⟨_, Fr.upds_self _ _ ⟨a61, trivial⟩⟩
                subst hg'
                exact SA.val (v := pv (some (b11, 1))) rfl (wantN rfl) (fun _ => by kernel_rfl)
              · clear h
                intro fr' T' H' hle hs hA
                have a62 : fr' 62 = pv (some (b11, 1)) := hA 9 (by kernel_rfl)
                obtain ⟨g', hg'⟩ : ∃ g' : Fr, fr' = g'.upds [(62, pv (some (b11, 1)))] := ⟨_, Fr.upds_self _ _ ⟨a62, trivial⟩⟩
                subst hg'
                exact SA.rd hle (v := .int .i64 x46) rfl (wantN rfl) (fun w hw => ev_load1 rfl (fun _ => by kernel_rfl) (p := (b11, 1)) rfl c47 w hw)
              · clear h
                intro fr' T' H' hle hs hA
                have a11 : fr' 11 = sv (⟨some (b25, 0), s23.size, n26⟩ : Sl) := hs 11 (by kernel_rfl)
                obtain ⟨g', hg'⟩ : ∃ g' : Fr, fr' = g'.upds [(11, sv (⟨some (b25, 0), s23.size, n26⟩ : Sl))] := ⟨_, Fr.upds_self _ _ ⟨a11, trivial⟩⟩
                subst hg'
                exact SA.val (v := sv (⟨some (b25, 0), s23.size, n26⟩ : Sl)) rfl (wantN rfl) (fun _ => by kernel_rfl)
              · clear h
                intro fr' T' H' hle hs hA
                have a64 : fr' 64 = sv (⟨some (b25, 0), s23.size, n26⟩ : Sl) := hA 11 (by kernel_rfl)
                obtain ⟨g', hg'⟩ : ∃ g' : Fr, fr' = g'.upds [(64, sv (⟨some (b25, 0), s23.size, n26⟩ : Sl))] := ⟨_, Fr.upds_self _ _ ⟨a64, trivial⟩⟩
                subst hg'
                exact SA.rd hle (v := .string (⟨bs48.toArray⟩ : ByteArray)) rfl (wantN rfl) (fun w hw => ev_str rfl Try.underlying38 Try.underlying5 Try.underlying9 rfl c49 c50 w hw)
              · clear h
                intro fr' T' H' hle hs hA
                have a60 : fr' 60 = (.int .i64 x44 : Value) := hA 7 (by kernel_rfl)
                have a63 : fr' 63 = (.int .i64 x46 : Value) := hA 10 (by kernel_rfl)
                have a65 : fr' 65 = (.string (⟨bs48.toArray⟩ : ByteArray) : Value) := hA 12 (by kernel_rfl)
                obtain ⟨g', hg'⟩ : ∃ g' : Fr, fr' = g'.upds [(60, (.int .i64 x44 : Value)), (63, (.int .i64 x46 : Value)), (65, (.string (⟨bs48.toArray⟩ : ByteArray) : Value))] := ⟨_, Fr.upds_self _ _ ⟨a60, a63, a65, trivial⟩⟩
                subst hg'
                exact SA.val (v := .agg #[.int .i64 x44, .int .i64 x46, .string (⟨bs48.toArray⟩ : ByteArray)]) rfl (wantN rfl) (fun _ => by kernel_rfl)
              · clear h
                intro fr' T' H' hle hs hA
                have a66 : fr' 66 = (.agg #[.int .i64 x44, .int .i64 x46, .string (⟨bs48.toArray⟩ : ByteArray)] : Value) := hA 13 (by kernel_rfl)
                obtain ⟨g', hg'⟩ : ∃ g' : Fr, fr' = g'.upds [(66, (.agg #[.int .i64 x44, .int .i64 x46, .string (⟨bs48.toArray⟩ : ByteArray)] : Value))] := ⟨_, Fr.upds_self _ _ ⟨a66, trivial⟩⟩
                subst hg'
                exact SA.val (v := .agg #[.int .i64 x44, .int .i64 x46, .string (⟨bs48.toArray⟩ : ByteArray), .bool true]) rfl (wantN rfl) (fun _ => by kernel_rfl)
              · clear h
                intro fr' T' H' hle hs hA
                have a56 : fr' 56 = sv l42 := hA 3 (by kernel_rfl)
                have a57 : fr' 57 = (.int .i64 x2 : Value) := hA 4 (by kernel_rfl)
                obtain ⟨g', hg'⟩ : ∃ g' : Fr, fr' = g'.upds [(56, sv l42), (57, (.int .i64 x2 : Value))] := ⟨_, Fr.upds_self _ _ ⟨a56, a57, trivial⟩⟩
                subst hg'
                exact SA.val (v := pv (some (p51.1, (p51.2 + x2.toNat * 4)))) rfl (wantN rfl) (fun w => ev_iaddr rfl Try.underlying68 (size := 4) (by kernel_rfl) rfl rfl c52 c53 c54 w)
              · intro fr' T' H' hle hs hA
                have a67 : fr' 67 = (.agg #[.int .i64 x44, .int .i64 x46, .string (⟨bs48.toArray⟩ : ByteArray), .bool true] : Value) := hA 14 (Nat.le_of_ble_eq_true rfl)
                have a68 : fr' 68 = pv (some (p51.1, (p51.2 + x2.toNat * 4))) := hA 15 (Nat.le_of_ble_eq_true rfl)
                obtain ⟨g', hg'⟩ : ∃ g' : Fr, fr' = g'.upds [(67, (.agg #[.int .i64 x44, .int .i64 x46, .string (⟨bs48.toArray⟩ : ByteArray), .bool true] : Value)), (68, pv (some (p51.1, (p51.2 + x2.toNat * 4))))] := ⟨_, Fr.upds_self _ _ ⟨a67, a68, trivial⟩⟩
                subst hg'
                refine SOps.forget (SH.setl (SH.upd (SH.setl (SH.upd H10 b11 ⟨[.int .i64 0, .int .i64 0, .string ByteArray.empty, .bool false], 74, false, 4⟩) (b11, 0) [.int .i64 x5, .int .i64 x6, .string s7, .bool q8]) b25 ⟨byteCells s23.data.toList, 5, false, n26⟩) (p35.1, (p35.2 + x3.toNat * 1)) [.int .u8 (ibits .xor .u8 x33 x4)]) hle ?_
                clear hle hs hA
                obtain ⟨c56, h⟩ := h
                refine SOps.storeL (p := (p51.1, (p51.2 + x2.toNat * 4))) (v := .agg #[.int .i64 x44, .int .i64 x46, .string (⟨bs48.toArray⟩ : ByteArray), .bool true]) (cs := [.int .i64 x44, .int .i64 x46, .string (⟨bs48.toArray⟩ : ByteArray), .bool true]) rfl rfl (wantN rfl) (size := 4) (by kernel_rfl) rfl rfl rfl rfl (by simp [Value.oneCell', errV_one, pv, sv]) c56 ?_
                refine SOps.nil ?_
                refine SW.seq ?_
                refine SW.region ?_
                refine SOps.val (v := errV none) rfl (wantN rfl) (fun _ => by kernel_rfl) ?_
                refine SOps.nil ?_
                obtain ⟨Hr, hr, h⟩ := h
                exact SW.ret (retQ.mk (errV none) (res1 rfl rfl) hr ⟨none, rfl, h⟩)
  · replace h := h.2 v14 rfl
    refine SOps.val (v := .bool true) rfl (wantN rfl) (fun w => ev_errNe (e := some v14) rfl Try.underlying30 rfl rfl w) ?_
    refine SOps.val (v := .bool true) rfl (wantN rfl) (fun _ => by kernel_rfl) ?_
    refine SOps.nil ?_
    refine SW.cond_t (t := true) rfl rfl ?_
    refine SW.seq ?_
    refine SW.region ?_
    refine SOps.val (v := errV (some v14)) rfl (wantN rfl) (fun _ => by kernel_rfl) ?_
    refine SOps.val (v := errV (some v14)) rfl (wantN rfl) (fun _ => by kernel_rfl) ?_
    refine SOps.nil ?_
    obtain ⟨Hr, hr, h⟩ := h
    exact SW.ret (retQ.mk (errV (some v14)) (res1 rfl rfl) hr ⟨some v14, rfl, h⟩)

/-! ### (*lading/net.Net).Len: function 19 -/
def net_Net_Len.wp (F : Nat) (p1 : Option (Nat × Nat)) (H : SH) (K : Int → SH → Prop) : Prop :=
  (p1 = none →
    ∃ Hr, SH.le Hr H ∧ K 0 Hr
  ) ∧ (∀ b2 o3, p1 = some (b2, o3) →
    ∃ (l4 : Sl),
    SH.has H (b2, o3) (sv l4) ∧
    ∃ Hr, SH.le Hr H ∧ K (l4.len : Int) Hr
  )
set_option maxHeartbeats 8000000 in
theorem net_Net_Len.sound (F : Nat) (p1 : Option (Nat × Nat)) (H : SH) (K : Int → SH → Prop) (h : net_Net_Len.wp F p1 H K) : SCalls Try.prog 19 #[pv p1] H (fun v H' => ∃ (x7 : Int), v = .int .i64 x7 ∧ K x7 H') := by
  unfold net_Net_Len.wp at h
  refine SCalls.body Try.func19 rfl (Nat.le_of_ble_eq_true rfl) ?_
  refine SW.seq ?_
  refine SW.region ?_
  refine SOps.val (v := .int .i64 0) rfl (wantN rfl) (fun _ => by kernel_rfl) ?_
  refine SOps.nil ?_
  refine SW.seq ?_
  refine SW.seq ?_
  refine SW.region ?_
  refine SOps.val (v := pv p1) rfl (wantN rfl) (fun _ => by kernel_rfl) ?_
  rcases p1 with _ | ⟨b2, o3⟩
  · replace h := h.1 rfl
    refine SOps.val (v := .bool true) rfl (wantN rfl) (fun _ => by kernel_rfl) ?_
    refine SOps.nil ?_
    refine SW.cond_t (t := true) rfl rfl ?_
    refine SW.seq ?_
    refine SW.region ?_
    refine SOps.val (v := .int .i64 0) rfl (wantN rfl) (fun _ => by kernel_rfl) ?_
    refine SOps.nil ?_
    obtain ⟨Hr, hr, h⟩ := h
    exact SW.ret (retQ.mk (.int .i64 0) (res1 rfl rfl) hr ⟨0, rfl, h⟩)
  · replace h := h.2 b2 o3 rfl
    refine SOps.val (v := .bool false) rfl (wantN rfl) (fun _ => by kernel_rfl) ?_
    refine SOps.nil ?_
    refine SW.cond_f (t := false) rfl rfl ?_
    refine SW.skip ?_
    refine SW.seq ?_
    refine SW.region ?_
    refine SOps.val (v := pv (some (b2, o3))) rfl (wantN rfl) (fun _ => by kernel_rfl) ?_
    refine SOps.val (v := pv (some (b2, o3))) rfl (wantN rfl) (fun _ => by kernel_rfl) ?_
    refine SOps.val (v := pv (some (b2, o3))) rfl (wantN rfl) (fun _ => by kernel_rfl) ?_
    obtain ⟨l4, c5, h⟩ := h
    refine SOps.rd (v := sv l4) rfl (wantN rfl) (fun w hw => ev_load1 rfl (fun _ => by kernel_rfl) (p := (b2, o3)) rfl c5 w hw) ?_
    refine SOps.val (v := .int .i64 (l4.len : Int)) rfl (wantN rfl) (fun _ => by kernel_rfl) ?_
    refine SOps.val (v := .int .i64 (l4.len : Int)) rfl (wantN rfl) (fun _ => by kernel_rfl) ?_
    refine SOps.nil ?_
    obtain ⟨Hr, hr, h⟩ := h
    exact SW.ret (retQ.mk (.int .i64 (l4.len : Int)) (res1 rfl rfl) hr ⟨(l4.len : Int), rfl, h⟩)

/-! ### (*lading/net.Net).All: function 17 -/
def net_Net_All.r1 (F : Nat) (K : Sl → SH → Prop) (R1 : Sl → Sl → Int → Int → SH → Prop) (l6 : Sl) (l7 : Sl) (x8 : Int) (x9 : Int) (H : SH) : Prop :=
  (x9 < x8 →
    ∃ p11, l7.a = some p11 ∧ 0 ≤ x9 ∧ x9 < (l7.len : Int) ∧
    ∃ (x15 : Int) (x16 : Int) (s17 : ByteArray) (q18 : Bool),
    SH.row H (some (p11.1, (p11.2 + x9.toNat * 4))) [.int .i64 x15, .int .i64 x16, .string s17, .bool q18] ∧
    ∀ b20, H b20 = none →
    SH.wrs (SH.upd H b20 ⟨[.int .i64 0, .int .i64 0, .string ByteArray.empty, .bool false], 74, false, 4⟩) (b20, 0) 4 ∧
    ∃ (x23 : Int) (x24 : Int) (s25 : ByteArray),
    SH.row (SH.setl (SH.upd H b20 ⟨[.int .i64 0, .int .i64 0, .string ByteArray.empty, .bool false], 74, false, 4⟩) (b20, 0) [.int .i64 x15, .int .i64 x16, .string s17, .bool q18]) (some (b20, 0)) [.int .i64 x23, .int .i64 x24, .string s25] ∧
    AppendQ (SH.setl (SH.upd H b20 ⟨[.int .i64 0, .int .i64 0, .string ByteArray.empty, .bool false], 74, false, 4⟩) (b20, 0) [.int .i64 x15, .int .i64 x16, .string s17, .bool q18]) 45 3 32 l6 1 [.int .i64 x23, .int .i64 x24, .string s25] (fun l27 H28 =>
      R1 l27 l7 x8 (w64 (x9 + 1)) H28
    )
  ) ∧ (¬ (x9 < x8) →
    ∃ Hr, SH.le Hr H ∧ K l6 Hr
  )
def net_Net_All.l1 (F : Nat) (K : Sl → SH → Prop) : Nat → Sl → Sl → Int → Int → SH → Prop
  | 0, _, _, _, _, _ => False
  | k + 1, l6, l7, x8, x9, H => net_Net_All.r1 F K (net_Net_All.l1 F K k) l6 l7 x8 x9 H
def net_Net_All.wp (F : Nat) (p1 : Option (Nat × Nat)) (H : SH) (K : Sl → SH → Prop) : Prop :=
  (p1 = none →
    ∃ Hr, SH.le Hr H ∧ K Sl.nil Hr
  ) ∧ (∀ b2 o3, p1 = some (b2, o3) →
    ∃ (l4 : Sl),
    SH.has H (b2, o3) (sv l4) ∧
    net_Net_All.l1 F K F Sl.nil l4 (l4.len : Int) 0 H
  )
set_option maxHeartbeats 8000000 in
theorem net_Net_All.sound (F : Nat) (p1 : Option (Nat × Nat)) (H : SH) (K : Sl → SH → Prop) (h : net_Net_All.wp F p1 H K) : SCalls Try.prog 17 #[pv p1] H (fun v H' => ∃ (l33 : Sl), v = sv l33 ∧ K l33 H') := by
  unfold net_Net_All.wp at h
  refine SCalls.body Try.func17 rfl (Nat.le_of_ble_eq_true rfl) ?_
  refine SW.seq ?_
  refine SW.region ?_
  refine SOps.val (v := sv Sl.nil) rfl (wantN rfl) (fun _ => by kernel_rfl) ?_
  refine SOps.nil ?_
  refine SW.seq ?_
  refine SW.seq ?_
  refine SW.region ?_
  refine SOps.val (v := pv p1) rfl (wantN rfl) (fun _ => by kernel_rfl) ?_
  rcases p1 with _ | ⟨b2, o3⟩
  · replace h := h.1 rfl
    refine SOps.val (v := .bool true) rfl (wantN rfl) (fun _ => by kernel_rfl) ?_
    refine SOps.nil ?_
    refine SW.cond_t (t := true) rfl rfl ?_
    refine SW.seq ?_
    refine SW.region ?_
    refine SOps.val (v := sv Sl.nil) rfl (wantN rfl) (fun _ => by kernel_rfl) ?_
    refine SOps.nil ?_
    obtain ⟨Hr, hr, h⟩ := h
    exact SW.ret (retQ.mk (sv Sl.nil) (res1 rfl rfl) hr ⟨Sl.nil, rfl, h⟩)
  · replace h := h.2 b2 o3 rfl
    refine SOps.val (v := .bool false) rfl (wantN rfl) (fun _ => by kernel_rfl) ?_
    refine SOps.nil ?_
    refine SW.cond_f (t := false) rfl rfl ?_
    refine SW.skip ?_
    refine SW.seq ?_
    refine SW.region ?_
    refine SOps.val (v := sv Sl.nil) rfl (wantN rfl) (fun _ => by kernel_rfl) ?_
    refine SOps.nil ?_
    refine SW.seq ?_
    refine SW.seq ?_
    refine SW.region ?_
    refine SOps.val (v := pv (some (b2, o3))) rfl (wantN rfl) (fun _ => by kernel_rfl) ?_
    refine SOps.val (v := pv (some (b2, o3))) rfl (wantN rfl) (fun _ => by kernel_rfl) ?_
    refine SOps.val (v := pv (some (b2, o3))) rfl (wantN rfl) (fun _ => by kernel_rfl) ?_
    obtain ⟨l4, c5, h⟩ := h
    refine SOps.rd (v := sv l4) rfl (wantN rfl) (fun w hw => ev_load1 rfl (fun _ => by kernel_rfl) (p := (b2, o3)) rfl c5 w hw) ?_
    refine SOps.val (v := .int .i64 (l4.len : Int)) rfl (wantN rfl) (fun _ => by kernel_rfl) ?_
    refine SOps.val (v := .int .i64 0) rfl (wantN rfl) (fun _ => by kernel_rfl) ?_
    refine SOps.nil ?_
    refine SW.block ?_
    refine SW.loop (fun k1 fr H => ∃ (g : Fr) (l6 : Sl) (l7 : Sl) (x8 : Int) (x9 : Int), fr = g.upds [(3, sv l6), (11, sv l7), (12, (.int .i64 x8 : Value)), (13, (.int .i64 x9 : Value))] ∧ net_Net_All.l1 F K k1 l6 l7 x8 x9 H) F ⟨_, Sl.nil, l4, (l4.len : Int), 0, (Fr.upds_self _ _ ⟨rfl, rfl, rfl, rfl, trivial⟩), h⟩ ?_
    clear h
    rintro k1 fr H ⟨g, l6, l7, x8, x9, rfl, h⟩
    cases k1 with
    | zero => exact h.elim
    | succ k1 =>
      replace h : net_Net_All.r1 F K (net_Net_All.l1 F K k1) l6 l7 x8 x9 H := h
      unfold net_Net_All.r1 at h
      refine SW.seq ?_
      refine SW.region ?_
      refine SOps.val (v := .bool (decide (x9 < x8))) rfl (wantN rfl) (fun _ => by kernel_rfl) ?_
      refine SOps.nil ?_
      refine SW.seq ?_
      by_cases c10 : x9 < x8
      · replace h := h.1 c10
        have dc10 : (decide (x9 < x8)) = true := (decide_eq_true c10)
        refine SW.cond_t (t := decide (x9 < x8)) rfl dc10 ?_
        refine SW.skip ?_
        refine SW.seq ?_
        refine SW.block ?_
        refine SW.seq ?_
        refine SW.region ?_
        obtain ⟨p11, c12, c13, c14, h⟩ := h
        refine SOps.val (v := pv (some (p11.1, (p11.2 + x9.toNat * 4)))) rfl (wantN rfl) (fun w => ev_iaddr rfl Try.underlying68 (size := 4) (by kernel_rfl) rfl rfl c12 c13 c14 w) ?_
        obtain ⟨x15, x16, s17, q18, c19, h⟩ := h
        refine SOps.rd (v := .agg #[.int .i64 x15, .int .i64 x16, .string s17, .bool q18]) rfl (wantN rfl) (fun w hw => ev_loadN rfl (fun _ => by kernel_rfl) (size := 4) (by kernel_rfl) (p := (p11.1, (p11.2 + x9.toNat * 4))) rfl rfl c19 w hw) ?_
        refine SOps.alloc rfl rfl (wantN rfl) (z := .agg #[.int .i64 0, .int .i64 0, .string ByteArray.empty, .bool false]) (by kernel_rfl) (fun b20 c21 => ?_)
        replace h := h b20 c21
        obtain ⟨c22, h⟩ := h
        refine SOps.storeL (p := (b20, 0)) (v := .agg #[.int .i64 x15, .int .i64 x16, .string s17, .bool q18]) (cs := [.int .i64 x15, .int .i64 x16, .string s17, .bool q18]) rfl rfl (wantN rfl) (size := 4) (by kernel_rfl) rfl rfl rfl rfl (by simp [Value.oneCell', errV_one, pv, sv]) c22 ?_
        refine SOps.nil ?_
        refine SW.region ?_
        refine SOps.val (v := sv l6) rfl (wantN rfl) (fun _ => by kernel_rfl) ?_
        refine SOps.val (v := pv (some (b20, 0))) rfl (wantN rfl) (fun _ => by kernel_rfl) ?_
        obtain ⟨x23, x24, s25, c26, h⟩ := h
        refine SOps.rd (v := .agg #[.int .i64 x23, .int .i64 x24, .string s25]) rfl (wantN rfl) (fun w hw => ev_loadN rfl (fun _ => by kernel_rfl) (size := 3) (by kernel_rfl) (p := (b20, 0)) rfl rfl c26 w hw) ?_
        refine SOps.litAppend (E := 45) (z := .agg #[.int .i64 0, .int .i64 0, .string ByteArray.empty]) (size := 3) (bytes := 32) (cs := #[.int .i64 x23, .int .i64 x24, .string s25]) rfl rfl (wantN rfl) (fun _ => by kernel_rfl) rfl rfl (fun _ => wantN rfl) Try.underlying41 Try.underlying41 (by kernel_rfl) rfl rfl (fun _ => rfl) (AppendQ.mono h ?_)
        clear h
        intro l27 H28 h b29
        refine SOps.val (v := sv l27) rfl (wantN rfl) (fun _ => by kernel_rfl) ?_
        refine SOps.nil ?_
        refine SW.region ?_
        refine SOps.val (v := .int .i64 (w64 (x9 + 1))) rfl (wantN rfl) (fun _ => by kernel_rfl) ?_
        refine SOps.val (v := .int .i64 (w64 (x9 + 1))) rfl (wantN rfl) (fun _ => by kernel_rfl) ?_
        refine SOps.nil ?_
        exact ⟨k1, Nat.lt_succ_self k1, _, l27, l7, x8, w64 (x9 + 1), (Fr.upds_self _ _ ⟨rfl, rfl, rfl, rfl, trivial⟩), h⟩
      · replace h := h.2 c10
        have dc10 : (decide (x9 < x8)) = false := (decide_eq_false c10)
        refine SW.cond_f (t := decide (x9 < x8)) rfl dc10 ?_
        refine SW.exit ?_
        refine SW.seq ?_
        refine SW.region ?_
        refine SOps.val (v := sv l6) rfl (wantN rfl) (fun _ => by kernel_rfl) ?_
        refine SOps.val (v := sv l6) rfl (wantN rfl) (fun _ => by kernel_rfl) ?_
        refine SOps.nil ?_
        obtain ⟨Hr, hr, h⟩ := h
        exact SW.ret (retQ.mk (sv l6) (res1 rfl rfl) hr ⟨l6, rfl, h⟩)

/-! ### lading/ladinglaw19.awake: function 13 -/
def ladinglaw19_awake.wp (F : Nat) (H : SH) (K : Bool → SH → Prop) : Prop :=
  net_New.wp F  H (fun p1 H2 =>
    net_Net_Send.wp F p1 0 1 (⟨#[120]⟩ : ByteArray) H2 (fun e3 H4 =>
      (e3 = none →
        net_Net_Twice.wp F p1 0 H4 (fun e6 H7 =>
          (e6 = none →
            net_Net_Len.wp F p1 H7 (fun x9 H10 =>
              ∃ Hr, SH.le Hr H10 ∧ K (x9 == 2) Hr
            )
          ) ∧ (∀ v8, e6 = some v8 →
            ∃ Hr, SH.le Hr H7 ∧ K false Hr
          )
        )
      ) ∧ (∀ v5, e3 = some v5 →
        ∃ Hr, SH.le Hr H4 ∧ K false Hr
      )
    )
  )
set_option maxHeartbeats 8000000 in
theorem ladinglaw19_awake.sound (F : Nat) (H : SH) (K : Bool → SH → Prop) (h : ladinglaw19_awake.wp F H K) : SCalls Try.prog 13 #[] H (fun v H' => ∃ (q12 : Bool), v = .bool q12 ∧ K q12 H') := by
  unfold ladinglaw19_awake.wp at h
  refine SCalls.body Try.func13 rfl (Nat.le_of_ble_eq_true rfl) ?_
  refine SW.seq ?_
  refine SW.region ?_
  refine SOps.val (v := .bool false) rfl (wantN rfl) (fun _ => by kernel_rfl) ?_
  refine SOps.nil ?_
  refine SW.seq ?_
  refine SW.region ?_
  refine SOps.enter rfl (wantN rfl) (fun _ => by kernel_rfl) (net_New.sound F  H _ h) ?_
  clear h
  rintro v H2 ⟨p1, rfl, h⟩
  refine SOps.val (v := pv p1) rfl (wantN rfl) (fun _ => by kernel_rfl) ?_
  refine SOps.nil ?_
  refine SW.seq ?_
  refine SW.region ?_
  refine SOps.val (v := pv p1) rfl (wantN rfl) (fun _ => by kernel_rfl) ?_
  refine SOps.enter rfl (wantN rfl) (fun _ => by kernel_rfl) (net_Net_Send.sound F p1 0 1 (⟨#[120]⟩ : ByteArray) H2 _ h) ?_
  clear h
  rintro v H4 ⟨e3, rfl, h⟩
  rcases e3 with _ | v5
  · replace h := h.1 rfl
    refine SOps.val (v := .bool true) rfl (wantN rfl) (fun w => ev_errEq (e := none) rfl Try.underlying30 rfl rfl w) ?_
    refine SOps.val (v := .bool true) rfl (wantN rfl) (fun _ => by kernel_rfl) ?_
    refine SOps.val (v := pv p1) rfl (wantY (c := true) rfl rfl rfl rfl) (fun _ => by kernel_rfl) ?_
    refine SOps.enter rfl (wantY (c := true) rfl rfl rfl rfl) (fun _ => by kernel_rfl) (net_Net_Twice.sound F p1 0 H4 _ h) ?_
    clear h
    rintro v H7 ⟨e6, rfl, h⟩
    rcases e6 with _ | v8
    · replace h := h.1 rfl
      refine SOps.val (v := .bool true) rfl (wantY (c := true) rfl rfl rfl rfl) (fun w => ev_errEq (e := none) rfl Try.underlying30 rfl rfl w) ?_
      refine SOps.val (v := .bool true) rfl (wantN rfl) (fun w => ev_pickT (v := .bool true) rfl (t := true) rfl rfl rfl w) ?_
      refine SOps.val (v := .bool true) rfl (wantN rfl) (fun _ => by kernel_rfl) ?_
      refine SOps.val (v := pv p1) rfl (wantY (c := true) rfl rfl rfl rfl) (fun _ => by kernel_rfl) ?_
      refine SOps.enter rfl (wantY (c := true) rfl rfl rfl rfl) (fun _ => by kernel_rfl) (net_Net_Len.sound F p1 H7 _ h) ?_
      clear h
      rintro v H10 ⟨x9, rfl, h⟩
      refine SOps.val (v := .bool (x9 == 2)) rfl (wantY (c := true) rfl rfl rfl rfl) (fun _ => by kernel_rfl) ?_
      refine SOps.val (v := .bool (x9 == 2)) rfl (wantN rfl) (fun w => ev_pickT (v := .bool (x9 == 2)) rfl (t := true) rfl rfl rfl w) ?_
      refine SOps.val (v := .bool (x9 == 2)) rfl (wantN rfl) (fun _ => by kernel_rfl) ?_
      refine SOps.nil ?_
      obtain ⟨Hr, hr, h⟩ := h
      exact SW.ret (retQ.mk (.bool (x9 == 2)) (res1 rfl rfl) hr ⟨(x9 == 2), rfl, h⟩)
    · replace h := h.2 v8 rfl
      refine SOps.val (v := .bool false) rfl (wantY (c := true) rfl rfl rfl rfl) (fun w => ev_errEq (e := some v8) rfl Try.underlying30 rfl rfl w) ?_
      refine SOps.val (v := .bool false) rfl (wantN rfl) (fun w => ev_pickT (v := .bool false) rfl (t := true) rfl rfl rfl w) ?_
      refine SOps.val (v := .bool false) rfl (wantN rfl) (fun _ => by kernel_rfl) ?_
      refine SOps.off rfl (wantX (c := false) rfl rfl rfl rfl) ?_
      refine SOps.off rfl (wantX (c := false) rfl rfl rfl rfl) ?_
      refine SOps.off rfl (wantX (c := false) rfl rfl rfl rfl) ?_
      refine SOps.val (v := .bool false) rfl (wantN rfl) (fun w => ev_pickF (v := .bool false) rfl (t := false) rfl rfl rfl w) ?_
      refine SOps.val (v := .bool false) rfl (wantN rfl) (fun _ => by kernel_rfl) ?_
      refine SOps.nil ?_
      obtain ⟨Hr, hr, h⟩ := h
      exact SW.ret (retQ.mk (.bool false) (res1 rfl rfl) hr ⟨false, rfl, h⟩)
  · replace h := h.2 v5 rfl
    refine SOps.val (v := .bool false) rfl (wantN rfl) (fun w => ev_errEq (e := some v5) rfl Try.underlying30 rfl rfl w) ?_
    refine SOps.val (v := .bool false) rfl (wantN rfl) (fun _ => by kernel_rfl) ?_
    refine SOps.off rfl (wantX (c := false) rfl rfl rfl rfl) ?_
    refine SOps.off rfl (wantX (c := false) rfl rfl rfl rfl) ?_
    refine SOps.off rfl (wantX (c := false) rfl rfl rfl rfl) ?_
    refine SOps.val (v := .bool false) rfl (wantN rfl) (fun w => ev_pickF (v := .bool false) rfl (t := false) rfl rfl rfl w) ?_
    refine SOps.val (v := .bool false) rfl (wantN rfl) (fun _ => by kernel_rfl) ?_
    refine SOps.off rfl (wantX (c := false) rfl rfl rfl rfl) ?_
    refine SOps.off rfl (wantX (c := false) rfl rfl rfl rfl) ?_
    refine SOps.off rfl (wantX (c := false) rfl rfl rfl rfl) ?_
    refine SOps.val (v := .bool false) rfl (wantN rfl) (fun w => ev_pickF (v := .bool false) rfl (t := false) rfl rfl rfl w) ?_
    refine SOps.val (v := .bool false) rfl (wantN rfl) (fun _ => by kernel_rfl) ?_
    refine SOps.nil ?_
    obtain ⟨Hr, hr, h⟩ := h
    exact SW.ret (retQ.mk (.bool false) (res1 rfl rfl) hr ⟨false, rfl, h⟩)

end Go.Proofs.Ytkfbmoekghbgbaa.K
