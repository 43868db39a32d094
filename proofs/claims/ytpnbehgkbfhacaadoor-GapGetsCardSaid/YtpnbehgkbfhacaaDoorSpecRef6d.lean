/- The document's Get of layer 6 (gap). -/
import Derived.Test.YtpnbehgkbfhacaaDoorSpecRef6c
set_option linter.unusedVariables false
set_option linter.unusedSimpArgs false
namespace Go.Proofs.YtpnbehgkbfhacaaDoor.K
open Go

theorem Own.alloc {H0 H : SH} {E : TypeId} {size : Nat} {l : Sl} {cs : List Value} (h : Own H0 H E size l cs) {b : Nat} {o : AO} (hb : H b = none) : Own H0 (H.upd b o) E size l cs := by
  refine ⟨h.le.trans (le_upd hb), h.len, ?_⟩
  rcases h.at_ with h1 | ⟨b', pre, ha, h0, hlc, sz, hH, hsz⟩
  · exact .inl h1
  · have hne : b' ≠ b := by rintro rfl; rw [hb] at hH; cases hH
    exact .inr ⟨b', pre, ha, h0, hlc, sz, by rw [SH.upd_ne _ _ hne]; exact hH, hsz⟩
/-- A result is written beside the list: the list stays. -/
theorem Own.out {H H2 H' : SH} {E : TypeId} {size : Nat} {l : Sl} {cs vs : List Value} {b : Nat} {o : AO} (hb : H b = none) (hle : SH.le (H.upd b o) H2) (h : Own H2 H' E size l cs) (hv : vs.length = o.cells.length) : Own H (SH.setl H' (b, 0) vs) E size l cs := by
  refine ⟨le_setl_at hb (hle.trans h.le) hv, h.len, ?_⟩
  have h2 := hle b o (SH.upd_same _ _ _)
  rcases h.at_ with h1 | ⟨b', pre, ha, h0, hlc, sz, hH, hsz⟩
  · exact .inl h1
  · have hne : b' ≠ b := by rintro rfl; rw [h2] at h0; cases h0
    refine .inr ⟨b', pre, ha, ?_, hlc, sz, ?_, hsz⟩
    · cases hc : H b' with
      | none => rfl
      | some x =>
        have := hle b' x (by rw [SH.upd_ne _ _ hne]; exact hc)
        rw [h0] at this; cases this
    · rw [setl_at (h.le b o h2) hv, SH.upd_ne _ _ hne]; exact hH
def GtR (K : Sl → Int → Int → Int → SH → Prop) (p : Int) (H : SH) (done : List Int) : Except (Nat × Int) (List Int × Nat) → Prop
  | .ok (l, q) => ∀ sl H', Own H H' 3 1 sl (intCells (done ++ l)) → K sl q 0 0 H'
  | .error (a, c) => K Sl.nil p c a H
theorem refGet_loop {F : Nat} (hF : 5000 ≤ F) {K : Sl → Int → Int → Int → SH → Prop} {s : ByteArray} (hs : s.size ≤ 4611686018427387904) {p nodes : Int} (hn1 : nodes ≤ 4096) {b5 b12 : Nat} {H H2 : SH} (hb5 : H b5 = none) (hle2 : SH.le (H.upd b5 rowO) H2) {n0 : Nat} (h12 : H2.has (b12, 0) (.int .i64 n0)) (hn0 : n0 ≤ 4096) :
    ∀ (m i k : Nat) (done : List Int) (l : Sl) (q : Nat) (now : Int) (H' : SH), i + m = n0 → m < k → Own H2 H' 3 1 l (intCells done) → done.length = i → q ≤ s.size → 0 ≤ now → now < nodes → GtR K p H done (getG (bs s) nodes m (decide (i = 0)) now q) → ladingref06_Get.l1 F K k s p nodes b5 b12 l now q i H' := by
  intro m
  induction m with
  | zero =>
    intro i k done l q now H' hm hk ho hd hq h0 h1 h
    obtain ⟨k, rfl⟩ : ∃ j, k = j + 1 := ⟨k - 1, by omega⟩
    have hat := ho.le _ _ (hle2 b5 _ (SH.upd_same _ _ _))
    refine ⟨n0, h12.le ho.le, br_f (by omega) ⟨⟨_, hat, rfl, by simp [rowO, rw4]⟩, l, q, 0, 0, ?_, _, .refl _, ?_⟩⟩
    · show SH.row (SH.setl H' (b5, 0) (rw4 l q 0 0)) (some (b5, 0)) (rw4 l q 0 0)
      rw [setl_at (vs := rw4 l q 0 0) hat rfl]; exact row_upd rfl
    · simp only [getG, GtR, List.append_nil] at h
      exact h l _ (ho.out hb5 hle2 (vs := rw4 l q 0 0) rfl)
  | succ m ih =>
    intro i k done l q now H' hm hk ho hd hq h0 h1 h
    obtain ⟨k, rfl⟩ : ∃ j, k = j + 1 := ⟨k - 1, by omega⟩
    have hlen : l.len = i := by have := ho.len; simp [intCells] at this; omega
    refine ⟨n0, h12.le ho.le, br_t (by omega) (ReadShort_spec (by omega) hs hq ?_)⟩
    unfold getG at h
    have hle' : ∀ {b43 : Nat} {o : AO}, H' b43 = none → SH.le (H.upd b5 rowO) (H'.upd b43 o) := fun hb => (hle2.trans ho.le).trans (le_upd hb)
    cases hr : readL ((bs s).drop q) 0 0 with
    | form =>
      rw [hr] at h
      intro b49 hb49
      refine ⟨wrs_upd rfl (by simp), 4, ?_, fun _ => ⟨4, ?_, q, ?_, ?_⟩, fun c => absurd (by omega) c⟩
      · rw [show SH.setl (SH.upd H' b49 ⟨[.int .i64 0, .int .i64 0, .int .i64 0, .int .i64 0], gotT, false, 4⟩) (b49, 0) [.int .i64 0, .int .i64 q, .int .i64 4, .int .i64 q] = H'.upd b49 ⟨go4 0 q 4 q, gotT, false, 4⟩ from up4 rfl]; exact has_upd rfl
      · rw [show SH.setl (SH.upd H' b49 ⟨[.int .i64 0, .int .i64 0, .int .i64 0, .int .i64 0], gotT, false, 4⟩) (b49, 0) [.int .i64 0, .int .i64 q, .int .i64 4, .int .i64 q] = H'.upd b49 ⟨go4 0 q 4 q, gotT, false, 4⟩ from up4 rfl]; exact has_upd rfl
      · rw [show SH.setl (SH.upd H' b49 ⟨[.int .i64 0, .int .i64 0, .int .i64 0, .int .i64 0], gotT, false, 4⟩) (b49, 0) [.int .i64 0, .int .i64 q, .int .i64 4, .int .i64 q] = H'.upd b49 ⟨go4 0 q 4 q, gotT, false, 4⟩ from up4 rfl]; exact has_upd rfl
      · rw [show SH.setl (SH.upd H' b49 ⟨[.int .i64 0, .int .i64 0, .int .i64 0, .int .i64 0], gotT, false, 4⟩) (b49, 0) [.int .i64 0, .int .i64 q, .int .i64 4, .int .i64 q] = H'.upd b49 ⟨go4 0 q 4 q, gotT, false, 4⟩ from up4 rfl]
        exact row_ret hb5 (hle' hb49) h
    | cut =>
      rw [hr] at h
      simp only [bs_len] at h
      intro b49 hb49
      refine ⟨wrs_upd rfl (by simp), 3, ?_, fun _ => ⟨3, ?_, s.size, ?_, ?_⟩, fun c => absurd (by omega) c⟩
      · rw [show SH.setl (SH.upd H' b49 ⟨[.int .i64 0, .int .i64 0, .int .i64 0, .int .i64 0], gotT, false, 4⟩) (b49, 0) [.int .i64 0, .int .i64 q, .int .i64 3, .int .i64 s.size] = H'.upd b49 ⟨go4 0 q 3 s.size, gotT, false, 4⟩ from up4 rfl]; exact has_upd rfl
      · rw [show SH.setl (SH.upd H' b49 ⟨[.int .i64 0, .int .i64 0, .int .i64 0, .int .i64 0], gotT, false, 4⟩) (b49, 0) [.int .i64 0, .int .i64 q, .int .i64 3, .int .i64 s.size] = H'.upd b49 ⟨go4 0 q 3 s.size, gotT, false, 4⟩ from up4 rfl]; exact has_upd rfl
      · rw [show SH.setl (SH.upd H' b49 ⟨[.int .i64 0, .int .i64 0, .int .i64 0, .int .i64 0], gotT, false, 4⟩) (b49, 0) [.int .i64 0, .int .i64 q, .int .i64 3, .int .i64 s.size] = H'.upd b49 ⟨go4 0 q 3 s.size, gotT, false, 4⟩ from up4 rfl]; exact has_upd rfl
      · rw [show SH.setl (SH.upd H' b49 ⟨[.int .i64 0, .int .i64 0, .int .i64 0, .int .i64 0], gotT, false, 4⟩) (b49, 0) [.int .i64 0, .int .i64 q, .int .i64 3, .int .i64 s.size] = H'.upd b49 ⟨go4 0 q 3 s.size, gotT, false, 4⟩ from up4 rfl]
        exact row_ret hb5 (hle' hb49) h
    | ok x n =>
      rw [hr] at h
      obtain ⟨g1, g2, g3, g4⟩ := shortL_read hr
      rw [List.length_drop, bs_len] at g3
      simp only at h
      intro b49 hb49
      have e4 : SH.setl (SH.upd H' b49 ⟨[.int .i64 0, .int .i64 0, .int .i64 0, .int .i64 0], gotT, false, 4⟩) (b49, 0) [.int .i64 x, .int .i64 ((q + n : Nat) : Int), .int .i64 0, .int .i64 0] = H'.upd b49 ⟨go4 x ((q + n : Nat) : Int) 0 0, gotT, false, 4⟩ := up4 rfl
      rw [e4]
      have jump : ∀ d : Int, (if (decide (i = 0)) = true then backZ (x : Int) else (x : Int) + 1) = d → ∀ w : Int, w = now + d → ladingref06_Get.j1 F K (ladingref06_Get.l1 F K k) s p nodes b5 b12 l w q i b49 (H'.upd b49 ⟨go4 x ((q + n : Nat) : Int) 0 0, gotT, false, 4⟩) := by
        intro d hd' w hw
        subst hw
        rw [hd'] at h
        by_cases c : d < -now ∨ d ≥ nodes - now
        · rw [if_pos c] at h
          exact ⟨fun _ => row_ret hb5 (hle' hb49) h, fun c2 => ⟨fun _ => row_ret hb5 (hle' hb49) h, fun c3 => absurd c (by omega)⟩⟩
        · rw [if_neg c] at h
          refine br_f (by omega) (br_f (by omega) (AppendQ.frame hb49 (ho.append (by rw [hlen]; omega) (by rw [hlen]; omega) rfl (by simp [Value.oneCell']) fun l' H'' ho' hl' hb49' => ⟨((q + n : Nat) : Int), has_upd rfl, ?_⟩)))
          rw [w64_id (by omega), show (i : Int) + 1 = ((i + 1 : Nat) : Int) by omega]
          refine ih (i + 1) k (done ++ [now + d]) l' (q + n) (now + d) _ (by omega) (by omega) (Own.alloc (by simpa [intCells] using ho') hb49') (by simp [hd]) (by omega) (by omega) (by omega) ?_
          rw [show decide (i + 1 = 0) = false by simp]
          cases hg : getG (bs s) nodes m false (now + d) (q + n) with
          | error e => rw [hg] at h; exact h
          | ok r => rw [hg] at h; simpa [GtR] using h
      refine ⟨wrs_upd rfl (by simp), 0, has_upd rfl, fun c => absurd rfl c, fun _ => ⟨fun c => ⟨x, has_upd rfl, refBack_spec (by omega) (by omega) ?_⟩, fun c => ⟨x, has_upd rfl, ?_⟩⟩⟩
      · have hb : backZ (x : Int) ≤ 72057594037927936 ∧ -72057594037927936 ≤ backZ (x : Int) := by unfold backZ; split <;> omega
        exact jump (backZ x) (by rw [if_pos (by simp; omega)]) _ (w64_id (by omega))
      · refine jump ((x : Int) + 1) (by rw [if_neg (by simp; omega)]) _ ?_
        rw [w64_id (x := now + (x : Int)) (by omega), w64_id (by omega)]; omega
def GetR (K : Sl → Int → Int → Int → SH → Prop) (s : ByteArray) (p : Nat) (nodes v : Int) (H : SH) : Prop :=
  match countG (bs s) p nodes with
  | .error (a, c) => K Sl.nil p c a H
  | .ok (n, q) => GtR K p H [] (getG (bs s) nodes n true v q)
theorem Own.empty {H : SH} {b : Nat} {E : TypeId} (hb : H b = none) : Own H (H.upd b ⟨[], E, false, 0⟩) E 1 ⟨some (b, 0), 0, 0⟩ [] :=
  ⟨le_upd hb, rfl, .inr ⟨b, [], rfl, hb, Nat.le_refl _, 0, SH.upd_same _ _ _, by simp⟩⟩
theorem refGet_mid {F : Nat} (hF : 5000 ≤ F) {K : Sl → Int → Int → Int → SH → Prop} {s : ByteArray} (hs : s.size ≤ 4611686018427387904) {p : Int} {b5 : Nat} {H : SH} (hb5 : H b5 = none) {a b c d nodes v : Int} (hn : nodes ≤ 4096) (hbad : c ≠ 0 → K Sl.nil p c d H)
    (hok : c = 0 → ∃ n q : Nat, a = n ∧ b = q ∧ n ≤ 4096 ∧ q ≤ s.size ∧ 0 ≤ v ∧ v < nodes ∧ GtR K p H [] (getG (bs s) nodes n true v q)) :
    ∀ b12, (H.upd b5 rowO) b12 = none →
    SH.wrs (SH.upd (H.upd b5 rowO) b12 ⟨go4 0 0 0 0, gotT, false, 4⟩) (b12, 0) 4 ∧
    ∃ (x15 : Int), SH.has (SH.setl (SH.upd (H.upd b5 rowO) b12 ⟨go4 0 0 0 0, gotT, false, 4⟩) (b12, 0) (go4 a b c d)) (b12, 2) (.int .i64 x15) ∧
    (x15 ≠ 0 → ∃ (x18 : Int), SH.has (SH.setl (SH.upd (H.upd b5 rowO) b12 ⟨go4 0 0 0 0, gotT, false, 4⟩) (b12, 0) (go4 a b c d)) (b12, 2) (.int .i64 x18) ∧
      ∃ (x20 : Int), SH.has (SH.setl (SH.upd (H.upd b5 rowO) b12 ⟨go4 0 0 0 0, gotT, false, 4⟩) (b12, 0) (go4 a b c d)) (b12, 3) (.int .i64 x20) ∧
      SH.wrs (SH.setl (SH.upd (H.upd b5 rowO) b12 ⟨go4 0 0 0 0, gotT, false, 4⟩) (b12, 0) (go4 a b c d)) (b5, 0) 4 ∧
      ∃ (l23 : Sl) (x24 : Int) (x25 : Int) (x26 : Int), SH.row (SH.setl (SH.setl (SH.upd (H.upd b5 rowO) b12 ⟨go4 0 0 0 0, gotT, false, 4⟩) (b12, 0) (go4 a b c d)) (b5, 0) (rw4 Sl.nil p x18 x20)) (some (b5, 0)) (rw4 l23 x24 x25 x26) ∧
      ∃ Hr, SH.le Hr (SH.setl (SH.setl (SH.upd (H.upd b5 rowO) b12 ⟨go4 0 0 0 0, gotT, false, 4⟩) (b12, 0) (go4 a b c d)) (b5, 0) (rw4 Sl.nil p x18 x20)) ∧ K l23 x24 x25 x26 Hr) ∧
    (¬ (x15 ≠ 0) → ∀ b28, (SH.setl (SH.upd (H.upd b5 rowO) b12 ⟨go4 0 0 0 0, gotT, false, 4⟩) (b12, 0) (go4 a b c d)) b28 = none →
      ∃ (x30 : Int), SH.has (SH.upd (SH.setl (SH.upd (H.upd b5 rowO) b12 ⟨go4 0 0 0 0, gotT, false, 4⟩) (b12, 0) (go4 a b c d)) b28 ⟨[], 3, false, 0⟩) (b12, 1) (.int .i64 x30) ∧
      ladingref06_Get.l1 F K F s p nodes b5 b12 (⟨some (b28, 0), 0, 0⟩ : Sl) v x30 0 (SH.upd (SH.setl (SH.upd (H.upd b5 rowO) b12 ⟨go4 0 0 0 0, gotT, false, 4⟩) (b12, 0) (go4 a b c d)) b28 ⟨[], 3, false, 0⟩)) := by
  intro b12 h12
  rw [up4 rfl]
  have hle : SH.le (H.upd b5 rowO) ((H.upd b5 rowO).upd b12 ⟨go4 a b c d, gotT, false, 4⟩) := le_upd h12
  refine ⟨wrs_upd rfl (by simp [go4]), c, has_upd rfl, fun hc => ⟨c, has_upd rfl, d, has_upd rfl, row_ret hb5 hle (hbad hc)⟩, fun hc b28 h28 => ⟨b, ?_, ?_⟩⟩
  · exact (has_upd rfl : ((H.upd b5 rowO).upd b12 ⟨go4 a b c d, gotT, false, 4⟩).has (b12, 1) (.int .i64 b)).le (le_upd h28)
  · obtain ⟨n, q, rfl, rfl, f1, f2, f3, f4, f5⟩ := hok (Decidable.not_not.1 hc)
    exact refGet_loop hF hs hn hb5 hle (has_upd rfl) f1 n 0 F [] _ q v _ (by omega) (by omega) (Own.empty h28) rfl f2 f3 f4 f5
theorem refGet_spec {F : Nat} (hF : 5000 ≤ F) {s : ByteArray} (hs : s.size ≤ 4611686018427387904) {p : Nat} (hp : p ≤ s.size) {nodes v : Int} (hn : nodes ≤ 4096) (h0 : 0 ≤ v) (h1 : v < nodes) {H : SH} {K : Sl → Int → Int → Int → SH → Prop} (h : GetR K s p nodes v H) : ladingref06_Get.wp F s p nodes v H K := by
  intro b5 h5
  refine refCount_spec (by omega) hs hp ?_
  unfold GetR at h
  cases hc : countG (bs s) p nodes with
  | error e =>
    obtain ⟨a, c⟩ := e
    rw [hc] at h
    have hc0 : c ≠ 0 := by
      unfold countG at hc
      cases hr : readL ((bs s).drop p) 0 0 with
      | ok x n => rw [hr] at hc; simp only at hc; split at hc <;> simp at hc; omega
      | form => rw [hr] at hc; simp at hc; omega
      | cut => rw [hr] at hc; simp at hc; omega
    exact refGet_mid hF hs h5 hn (fun _ => h) (fun c0 => absurd c0 hc0)
  | ok r =>
    obtain ⟨n, q⟩ := r
    rw [hc] at h
    obtain ⟨g1, g2, g3, g4, g5, g6⟩ := countG_ok hc
    rw [bs_len] at g3
    exact refGet_mid hF hs h5 hn (fun c => absurd rfl c) (fun _ => ⟨n, q, rfl, rfl, by omega, by omega, h0, h1, h⟩)
theorem refGet_bad {F : Nat} (hF : 5000 ≤ F) {s : ByteArray} (hs : s.size ≤ 4611686018427387904) {p nodes v : Int} (hn : nodes ≤ 4096) (hp : p < 0 ∨ p > s.size) {H : SH} {K : Sl → Int → Int → Int → SH → Prop} (h : K Sl.nil p 1 p H) : ladingref06_Get.wp F s p nodes v H K := by
  intro b5 h5
  exact refCount_bad hp (refGet_mid hF hs h5 hn (fun _ => h) (fun c => by omega))
end Go.Proofs.YtpnbehgkbfhacaaDoor.K
