/- The document's Get and Skip of layer 6 (gap). -/
import Derived.Test.YtpnbehgkbfhacaaDoorSpecRef6b
set_option linter.unusedVariables false
set_option linter.unusedSimpArgs false
namespace Go.Proofs.YtpnbehgkbfhacaaDoor.K
open Go

def rw4 (l : Sl) (a b c : Int) : List Value := [sv l, .int .i64 a, .int .i64 b, .int .i64 c]
abbrev rowT : TypeId := 65
def rowO : AO := ⟨rw4 Sl.nil 0 0 0, rowT, false, 4⟩
theorem setl_at {H' : SH} {b : Nat} {o : AO} {vs : List Value} (h : H' b = some o) (hv : vs.length = o.cells.length) : SH.setl H' (b, 0) vs = H'.upd b { o with cells := vs } := by
  unfold SH.setl
  simp only [h]
  congr 2
  simp [wrl, hv]
theorem le_setl_at {H H' : SH} {b : Nat} {o : AO} {vs : List Value} (hb : H b = none) (hle : SH.le (H.upd b o) H') (hv : vs.length = o.cells.length) : SH.le H (SH.setl H' (b, 0) vs) := by
  rw [setl_at (hle b o (SH.upd_same _ _ _)) hv]
  intro c oc hc
  have hne : c ≠ b := by rintro rfl; rw [hb] at hc; cases hc
  rw [SH.upd_ne _ _ hne]
  exact hle c oc (by rw [SH.upd_ne _ _ hne]; exact hc)
/-- What is told at the end, where no list is told. -/
theorem row_ret {K : Sl → Int → Int → Int → SH → Prop} {H H' : SH} {b : Nat} {p c a : Int} (hb : H b = none) (hle : SH.le (H.upd b rowO) H') (h : K Sl.nil p c a H) :
    SH.wrs H' (b, 0) 4 ∧ ∃ (l : Sl) (x y z : Int), SH.row (SH.setl H' (b, 0) (rw4 Sl.nil p c a)) (some (b, 0)) (rw4 l x y z) ∧ ∃ Hr, SH.le Hr (SH.setl H' (b, 0) (rw4 Sl.nil p c a)) ∧ K l x y z Hr := by
  have h1 := hle b _ (SH.upd_same _ _ _)
  refine ⟨⟨_, h1, rfl, by simp [rowO, rw4]⟩, Sl.nil, p, c, a, ?_, H, le_setl_at hb hle rfl, h⟩
  rw [setl_at (vs := rw4 Sl.nil p c a) h1 rfl]; exact row_upd rfl
theorem up4 {H' : SH} {b : Nat} {vs : List Value} (hv : vs.length = 4) : SH.setl (H'.upd b ⟨go4 0 0 0 0, gotT, false, 4⟩) (b, 0) vs = H'.upd b ⟨vs, gotT, false, 4⟩ := by
  rw [setl_upd]
  congr 2
  simp [wrl, hv, go4]

/-! ### Skip -/
def SkR (K : Sl → Int → Int → Int → SH → Prop) (p : Int) (H : SH) : Except (Nat × Int) Nat → Prop
  | .ok q => K Sl.nil q 0 0 H
  | .error (a, c) => K Sl.nil p c a H
theorem refSkip_loop {F : Nat} (hF : 5000 ≤ F) {K : Sl → Int → Int → Int → SH → Prop} {s : ByteArray} (hs : s.size ≤ 4611686018427387904) {p : Int} {b5 b12 : Nat} {H : SH} (hb5 : H b5 = none) {n0 : Nat} {x1 x2 x3 : Int} :
    ∀ (m i k q : Nat) (H' : SH), i + m = n0 → m < k → n0 ≤ 4611686018427387904 → q ≤ s.size → SH.le (H.upd b5 rowO) H' → H'.has (b12, 0) (.int .i64 n0) → SkR K p H (skipG (bs s) m q) → ladingref06_Skip.l1 F K k s p b5 b12 q i H' := by
  intro m
  induction m with
  | zero =>
    intro i k q H' hm hk h63 hq hle h12 h
    obtain ⟨k, rfl⟩ : ∃ j, k = j + 1 := ⟨k - 1, by omega⟩
    exact ⟨n0, h12, br_f (by omega) (row_ret hb5 hle h)⟩
  | succ m ih =>
    intro i k q H' hm hk h63 hq hle h12 h
    obtain ⟨k, rfl⟩ : ∃ j, k = j + 1 := ⟨k - 1, by omega⟩
    refine ⟨n0, h12, br_t (by omega) (ReadShort_spec (by omega) hs hq ?_)⟩
    unfold skipG at h
    have fin : ∀ (a b c d : Int), (c ≠ 0 → SkR K p H (.error (d.toNat, c)) ∧ 0 ≤ d) → (c = 0 → ∃ q' : Nat, b = q' ∧ q' ≤ s.size ∧ SkR K p H (skipG (bs s) m q')) →
        ∀ b43, H' b43 = none →
        SH.wrs (SH.upd H' b43 ⟨go4 0 0 0 0, gotT, false, 4⟩) (b43, 0) 4 ∧
        ∃ (x46 : Int), SH.has (SH.setl (SH.upd H' b43 ⟨go4 0 0 0 0, gotT, false, 4⟩) (b43, 0) (go4 a b c d)) (b43, 2) (.int .i64 x46) ∧
        (x46 ≠ 0 → ∃ (x49 : Int), SH.has (SH.setl (SH.upd H' b43 ⟨go4 0 0 0 0, gotT, false, 4⟩) (b43, 0) (go4 a b c d)) (b43, 2) (.int .i64 x49) ∧
          ∃ (x51 : Int), SH.has (SH.setl (SH.upd H' b43 ⟨go4 0 0 0 0, gotT, false, 4⟩) (b43, 0) (go4 a b c d)) (b43, 3) (.int .i64 x51) ∧
          SH.wrs (SH.setl (SH.upd H' b43 ⟨go4 0 0 0 0, gotT, false, 4⟩) (b43, 0) (go4 a b c d)) (b5, 0) 4 ∧
          ∃ (l54 : Sl) (x55 : Int) (x56 : Int) (x57 : Int), SH.row (SH.setl (SH.setl (SH.upd H' b43 ⟨go4 0 0 0 0, gotT, false, 4⟩) (b43, 0) (go4 a b c d)) (b5, 0) (rw4 Sl.nil p x49 x51)) (some (b5, 0)) (rw4 l54 x55 x56 x57) ∧
          ∃ Hr, SH.le Hr (SH.setl (SH.setl (SH.upd H' b43 ⟨go4 0 0 0 0, gotT, false, 4⟩) (b43, 0) (go4 a b c d)) (b5, 0) (rw4 Sl.nil p x49 x51)) ∧ K l54 x55 x56 x57 Hr) ∧
        (¬ (x46 ≠ 0) → ∃ (x59 : Int), SH.has (SH.setl (SH.upd H' b43 ⟨go4 0 0 0 0, gotT, false, 4⟩) (b43, 0) (go4 a b c d)) (b43, 1) (.int .i64 x59) ∧
          ladingref06_Skip.l1 F K k s p b5 b12 x59 (w64 ((i : Int) + 1)) (SH.setl (SH.upd H' b43 ⟨go4 0 0 0 0, gotT, false, 4⟩) (b43, 0) (go4 a b c d))) := by
      intro a b c d e1 e2 b43 hb43
      rw [up4 rfl]
      have hle' : SH.le (H.upd b5 rowO) (H'.upd b43 ⟨go4 a b c d, gotT, false, 4⟩) := hle.trans (le_upd hb43)
      refine ⟨wrs_upd rfl (by simp [go4]), c, has_upd rfl, fun hc => ⟨c, has_upd rfl, d, has_upd rfl, ?_⟩, fun hc => ⟨b, has_upd rfl, ?_⟩⟩
      · obtain ⟨f1, f2⟩ := e1 hc
        have f3 : K Sl.nil p c d H := by
          have : ((d.toNat : Nat) : Int) = d := by omega
          simp only [SkR, this] at f1; exact f1
        exact row_ret hb5 hle' f3
      · obtain ⟨q', rfl, f1, f2⟩ := e2 (Decidable.not_not.1 hc)
        rw [w64_id (by omega), show (i : Int) + 1 = ((i + 1 : Nat) : Int) by omega]
        exact ih (i + 1) k q' _ (by omega) (by omega) h63 f1 hle' (h12.le (le_upd hb43)) f2
    cases hr : readL ((bs s).drop q) 0 0 with
    | ok x n =>
      rw [hr] at h
      obtain ⟨g1, g2, g3, g4⟩ := shortL_read hr
      rw [List.length_drop, bs_len] at g3
      exact fin x ((q + n : Nat) : Int) 0 0 (fun c => absurd rfl c) (fun _ => ⟨q + n, rfl, by omega, h⟩)
    | form => rw [hr] at h; exact fin 0 q 4 q (fun _ => ⟨by simpa using h, by omega⟩) (fun c => by omega)
    | cut => rw [hr] at h; simp only [bs_len] at h; exact fin 0 q 3 s.size (fun _ => ⟨by simpa using h, by omega⟩) (fun c => by omega)
def SkipR (K : Sl → Int → Int → Int → SH → Prop) (s : ByteArray) (p : Nat) (nodes : Int) (H : SH) : Prop :=
  match countG (bs s) p nodes with
  | .error (a, c) => K Sl.nil p c a H
  | .ok (n, q) => SkR K p H (skipG (bs s) n q)
theorem refSkip_mid {F : Nat} (hF : 5000 ≤ F) {K : Sl → Int → Int → Int → SH → Prop} {s : ByteArray} (hs : s.size ≤ 4611686018427387904) {p : Int} {b4 : Nat} {H : SH} (hb4 : H b4 = none) {a b c d nodes : Int} (hbad : c ≠ 0 → K Sl.nil p c d H) (hok : c = 0 → ∃ n q : Nat, a = n ∧ b = q ∧ n ≤ 4096 ∧ q ≤ s.size ∧ SkR K p H (skipG (bs s) n q)) :
    ∀ b11, (H.upd b4 rowO) b11 = none →
    SH.wrs (SH.upd (H.upd b4 rowO) b11 ⟨go4 0 0 0 0, gotT, false, 4⟩) (b11, 0) 4 ∧
    ∃ (x14 : Int), SH.has (SH.setl (SH.upd (H.upd b4 rowO) b11 ⟨go4 0 0 0 0, gotT, false, 4⟩) (b11, 0) (go4 a b c d)) (b11, 2) (.int .i64 x14) ∧
    (x14 ≠ 0 → ∃ (x17 : Int), SH.has (SH.setl (SH.upd (H.upd b4 rowO) b11 ⟨go4 0 0 0 0, gotT, false, 4⟩) (b11, 0) (go4 a b c d)) (b11, 2) (.int .i64 x17) ∧
      ∃ (x19 : Int), SH.has (SH.setl (SH.upd (H.upd b4 rowO) b11 ⟨go4 0 0 0 0, gotT, false, 4⟩) (b11, 0) (go4 a b c d)) (b11, 3) (.int .i64 x19) ∧
      SH.wrs (SH.setl (SH.upd (H.upd b4 rowO) b11 ⟨go4 0 0 0 0, gotT, false, 4⟩) (b11, 0) (go4 a b c d)) (b4, 0) 4 ∧
      ∃ (l22 : Sl) (x23 : Int) (x24 : Int) (x25 : Int), SH.row (SH.setl (SH.setl (SH.upd (H.upd b4 rowO) b11 ⟨go4 0 0 0 0, gotT, false, 4⟩) (b11, 0) (go4 a b c d)) (b4, 0) (rw4 Sl.nil p x17 x19)) (some (b4, 0)) (rw4 l22 x23 x24 x25) ∧
      ∃ Hr, SH.le Hr (SH.setl (SH.setl (SH.upd (H.upd b4 rowO) b11 ⟨go4 0 0 0 0, gotT, false, 4⟩) (b11, 0) (go4 a b c d)) (b4, 0) (rw4 Sl.nil p x17 x19)) ∧ K l22 x23 x24 x25 Hr) ∧
    (¬ (x14 ≠ 0) → ∃ (x27 : Int), SH.has (SH.setl (SH.upd (H.upd b4 rowO) b11 ⟨go4 0 0 0 0, gotT, false, 4⟩) (b11, 0) (go4 a b c d)) (b11, 1) (.int .i64 x27) ∧
      ladingref06_Skip.l1 F K F s p b4 b11 x27 0 (SH.setl (SH.upd (H.upd b4 rowO) b11 ⟨go4 0 0 0 0, gotT, false, 4⟩) (b11, 0) (go4 a b c d))) := by
  intro b11 h11
  rw [up4 rfl]
  have hle : SH.le (H.upd b4 rowO) ((H.upd b4 rowO).upd b11 ⟨go4 a b c d, gotT, false, 4⟩) := le_upd h11
  refine ⟨wrs_upd rfl (by simp [go4]), c, has_upd rfl, fun hc => ⟨c, has_upd rfl, d, has_upd rfl, row_ret hb4 hle (hbad hc)⟩, fun hc => ⟨b, has_upd rfl, ?_⟩⟩
  obtain ⟨n, q, rfl, rfl, f1, f2, f3⟩ := hok (Decidable.not_not.1 hc)
  exact refSkip_loop hF hs hb4 (x1 := 0) (x2 := 0) (x3 := 0) n 0 F q _ (by omega) (by omega) (by omega) f2 hle (has_upd rfl) f3
theorem refSkip_spec {F : Nat} (hF : 5000 ≤ F) {s : ByteArray} (hs : s.size ≤ 4611686018427387904) {p : Nat} (hp : p ≤ s.size) {nodes : Int} (hn : nodes ≤ 4096) {H : SH} {K : Sl → Int → Int → Int → SH → Prop} (h : SkipR K s p nodes H) : ladingref06_Skip.wp F s p nodes H K := by
  intro b4 h4
  refine refCount_spec (by omega) hs hp ?_
  unfold SkipR at h
  cases hc : countG (bs s) p nodes with
  | error e =>
    obtain ⟨a, c⟩ := e
    rw [hc] at h
    have hc0 : c ≠ 0 := by
      unfold countG at hc
      cases hr : readL ((bs s).drop p) 0 0 with
      | ok x n => rw [hr] at hc; simp only at hc; split at hc <;> simp at hc; omega
      | form => rw [hr] at hc; simp at hc; omega
      | cut => rw [hr] at hc; simp at hc; omega
    exact refSkip_mid hF hs h4 (nodes := nodes) (fun _ => h) (fun c0 => absurd c0 hc0)
  | ok r =>
    obtain ⟨n, q⟩ := r
    rw [hc] at h
    obtain ⟨g1, g2, g3, g4, g5, g6⟩ := countG_ok hc
    rw [bs_len] at g3
    exact refSkip_mid hF hs h4 (nodes := nodes) (fun c => absurd rfl c) (fun _ => ⟨n, q, rfl, rfl, by omega, by omega, h⟩)
theorem refSkip_bad {F : Nat} (hF : 5000 ≤ F) {s : ByteArray} (hs : s.size ≤ 4611686018427387904) {p nodes : Int} (hp : p < 0 ∨ p > s.size) {H : SH} {K : Sl → Int → Int → Int → SH → Prop} (h : K Sl.nil p 1 p H) : ladingref06_Skip.wp F s p nodes H K := by
  intro b4 h4
  exact refCount_bad hp (refSkip_mid hF hs h4 (nodes := nodes) (fun _ => h) (fun c => by omega))
end Go.Proofs.YtpnbehgkbfhacaaDoor.K
