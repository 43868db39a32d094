/- The document's own functions of layer 6 (gap). -/
import Derived.Test.YtpnbehgkbfhacaaDoorSpecRef6
set_option linter.unusedVariables false
set_option linter.unusedSimpArgs false
namespace Go.Proofs.YtpnbehgkbfhacaaDoor.K
open Go

def mayV (nodes v : Int) : Int := if nodes < 0 ∨ nodes > 4096 then 1 else if v < 0 ∨ v ≥ nodes then 2 else 0
theorem refMay_spec {F : Nat} {nodes v : Int} {H : SH} {K : Int → SH → Prop} (h : K (mayV nodes v) H) : ladingref06_May.wp F nodes v H K := by
  unfold mayV at h
  refine ⟨fun c => ?_, fun c => ⟨fun c2 => ?_, fun c2 => ⟨fun c3 => ?_, fun c3 => ⟨fun c4 => ?_, fun c4 => ?_⟩⟩⟩⟩
  · rw [if_pos (.inl c)] at h; exact ⟨H, .refl H, h⟩
  · rw [if_pos (.inr c2)] at h; exact ⟨H, .refl H, h⟩
  · rw [if_neg (by omega), if_pos (.inl c3)] at h; exact ⟨H, .refl H, h⟩
  · rw [if_neg (by omega), if_pos (.inr c4)] at h; exact ⟨H, .refl H, h⟩
  · rw [if_neg (by omega), if_neg (by omega)] at h; exact ⟨H, .refl H, h⟩
def wrongV : Option Nat → Int
  | some j => j
  | none => -1
theorem refWrong_spec {F : Nat} {nodes : Int} {sl : Sl} {l : List Int} {H : SH} (hl : sl.len = l.length) (hr : H.row sl.a (intCells l)) (hF : l.length < F) (hll : l.length ≤ 4611686018427387904) {K : Int → SH → Prop} (h : K (wrongV (wrongG nodes 0 (-1) l)) H) : ladingref06_Wrong.wp F nodes sl H K := by
  have key : ∀ (m i k : Nat) (last : Int), l.length - i = m → i ≤ l.length → m < k → (0 < i → last = l.getD (i - 1) 0) → (i = 0 → last = -1) → (0 < i → 0 ≤ last) → K (wrongV (wrongG nodes i last (l.drop i))) H → ladingref06_Wrong.l1 F K k nodes sl i H := by
    intro m
    induction m with
    | zero =>
      intro i k last hm hi hk h1 h2 h3 h
      obtain ⟨k, rfl⟩ : ∃ j, k = j + 1 := ⟨k - 1, by omega⟩
      rw [List.drop_eq_nil_of_le (by omega)] at h
      exact br_f (by omega) ⟨H, .refl H, h⟩
    | succ m ih =>
      intro i k last hm hi hk h1 h2 h3 h
      obtain ⟨k, rfl⟩ : ∃ j, k = j + 1 := ⟨k - 1, by omega⟩
      have hlt : i < l.length := by omega
      rw [List.drop_eq_getElem_cons hlt] at h
      unfold wrongG at h
      have hti : l.getD i 0 = l[i] := by simp [List.getD, hlt]
      have bad : l[i] ≤ last ∨ l[i] ≥ nodes → ∃ Hr, SH.le Hr H ∧ K (i : Int) Hr := fun c => by
        rw [if_pos c] at h; exact ⟨H, .refl H, h⟩
      have good : ¬ (l[i] ≤ last ∨ l[i] ≥ nodes) → ladingref06_Wrong.j2 F K (ladingref06_Wrong.l1 F K k) nodes sl i H := fun c => by
        rw [if_neg c] at h
        show ladingref06_Wrong.l1 F K k nodes sl (w64 ((i : Int) + 1)) H
        rw [w64_id (by omega), show (i : Int) + 1 = ((i + 1 : Nat) : Int) by omega]
        refine ih (i + 1) k l[i] (by omega) (by omega) (by omega) (fun _ => by rw [show i + 1 - 1 = i by omega]; exact hti.symm) (fun c => by omega) (fun _ => ?_) h
        by_cases h0 : i = 0
        · have := h2 h0; omega
        · have := h3 (by omega); omega
      refine br_t (by omega) (row_at hr (v := .int .i64 l[i]) (by simp [intCells, hlt]) (by omega) fun p hp hh => ⟨l[i], hh, ⟨fun c => bad ?_, fun c => ?_⟩⟩)
      · by_cases h0 : i = 0
        · have := h2 h0; omega
        · have := h3 (by omega); omega
      · refine row_at hr (v := .int .i64 l[i]) (by simp [intCells, hlt]) (by omega) fun p hp hh => ⟨l[i], hh, ⟨fun c2 => bad (.inr c2), fun c2 => ⟨fun c3 => ?_, fun c3 => good ?_⟩⟩⟩
        · have hlt1 : i - 1 < l.length := by omega
          have hw : w64 ((i : Int) - 1) = ((i - 1 : Nat) : Int) := by rw [w64_id (by omega)]; omega
          have hg1 : last = l[i - 1] := by rw [h1 (by omega)]; simp [List.getD, hlt1]
          rw [hw]
          refine row_at hr (v := .int .i64 l[i]) (by simp [intCells, hlt]) (by omega) fun p hp hh => ⟨l[i], hh, row_at hr (v := .int .i64 l[i - 1]) (by simp [intCells, hlt1]) (by omega) fun p2 hp2 hh2 => ⟨l[i - 1], hh2, ⟨fun c4 => bad ?_, fun c4 => good ?_⟩⟩⟩
          · rw [hg1]; exact .inl c4
          · rw [hg1]; omega
        · have h0 : i = 0 := by omega
          have := h2 h0; omega
  exact key l.length 0 F (-1) (by omega) (by omega) hF (fun c => by omega) (fun _ => rfl) (fun c => by omega) (by simpa using h)
theorem shortL_len2 {x : Nat} (h : x < 16384) : (shortL x).length ≤ 2 := by
  by_cases h1 : x < 128
  · rw [shortL_one h1]; simp
  · rw [shortL_more h1, shortL_one (by omega)]; simp
theorem short_lt {x : Nat} (h : x ≤ 72057594037927935) : x < 128 ^ (7 + 1) := by
  have : (128 : Nat) ^ (7 + 1) = 72057594037927936 := by decide
  omega
theorem refPut_spec {F : Nat} (hF : 5000 ≤ F) {K : ByteArray → SH → Prop} {sl : Sl} {l : List Int} {v nodes : Int} {H : SH} (hl : sl.len = l.length) (hr : H.row sl.a (intCells l)) (hv0 : 0 ≤ v) (hv1 : v < nodes) (hn : nodes ≤ 4096) (hu0 : upG nodes (-1) l) (h : K (ofL (putG v l)) H) : ladingref06_Put.wp F v sl H K := by
  have hlen := upG_len l (-1) hu0 (by omega)
  have hall := upG_all l (-1) hu0
  have key : ∀ (m i k : Nat) (last : Int) (pre : List UInt8), l.length - i = m → i ≤ l.length → m < k → (0 < i → last = l.getD (i - 1) 0) → upG nodes (if i = 0 then -1 else last) (l.drop i) → pre.length ≤ 10 + i * 8 →
      K (ofL (pre ++ putR (decide (i = 0)) (if i = 0 then v else last) (l.drop i))) H → ladingref06_Put.l1 F K k v sl (ofL pre) i H := by
    intro m
    induction m with
    | zero =>
      intro i k last pre hm hi hk hlast hu hp h
      obtain ⟨k, rfl⟩ : ∃ j, k = j + 1 := ⟨k - 1, by omega⟩
      refine br_f (by omega) ⟨H, .refl H, ?_⟩
      rw [List.drop_eq_nil_of_le (by omega)] at h
      simpa [putR] using h
    | succ m ih =>
      intro i k last pre hm hi hk hlast hu hp h
      obtain ⟨k, rfl⟩ : ∃ j, k = j + 1 := ⟨k - 1, by omega⟩
      have hlt : i < l.length := by omega
      rw [List.drop_eq_getElem_cons hlt] at hu h
      obtain ⟨u1, u2, u3⟩ := hu
      have hti : l.getD i 0 = l[i] := by simp [List.getD, hlt]
      refine br_t (by omega) ⟨fun c => ?_, fun c => ?_⟩
      · obtain rfl : i = 0 := by omega
        simp only [if_true] at u1 h
        refine row_at (i := 0) hr (v := .int .i64 l[0]) (by simp [intCells, hlt]) (by omega) fun p hp hh => ⟨l[0], hh, ?_⟩
        have ht := turnZ_range (x := l[0] - v) (by omega) (by omega)
        have ht2 : turnZ (l[0] - v) < 16384 := by unfold turnZ; split <;> omega
        obtain ⟨z, hz⟩ : ∃ z : Nat, turnZ (l[0] - v) = z := ⟨(turnZ (l[0] - v)).toNat, by omega⟩
        rw [w64_id (by omega)]
        refine refTurn_spec (by omega) (by omega) ?_
        rw [hz] at ht ht2 ⊢
        have hs2 := shortL_len2 (x := z) (by omega)
        refine refShort_spec 7 (short_lt (by omega)) (by omega) (by omega) (by omega) ⟨by rw [ofL_size, ofL_size]; omega, ?_⟩
        show ladingref06_Put.l1 F K k v sl (ofL pre ++ ofL (shortL z)) (w64 (((0 : Nat) : Int) + 1)) H
        rw [ofL_append, w64_id (by omega), show ((0 : Nat) : Int) + 1 = ((0 + 1 : Nat) : Int) by omega]
        refine ih 1 k l[0] _ (by omega) (by omega) (by omega) (fun _ => hti.symm) (by simpa using u3) (by rw [List.length_append]; omega) ?_
        simp only [putR, decide_true, if_true, hz, Int.toNat_natCast] at h
        simpa using h
      · have hw : w64 ((i : Int) - 1) = ((i - 1 : Nat) : Int) := by rw [w64_id (by omega)]; omega
        have hlast' := hlast (by omega)
        have hlt1 : i - 1 < l.length := by omega
        have hg1 : l.getD (i - 1) 0 = l[i - 1] := by simp [List.getD, hlt1]
        rw [hg1] at hlast'
        rw [if_neg (by omega)] at u1
        simp only [show ¬ (i = 0) by omega, decide_false, if_false] at h
        have hlast0 := hall _ (List.getElem_mem hlt1)
        rw [← hlast'] at hlast0
        rw [hw]
        refine row_at hr (v := .int .i64 l[i]) (by simp [intCells, hlt]) (by omega) fun p hp hh => ⟨l[i], hh, row_at hr (v := .int .i64 l[i - 1]) (by simp [intCells, hlt1]) (by omega) fun p2 hp2 hh2 => ⟨l[i - 1], hh2, ?_⟩⟩
        rw [← hlast']
        obtain ⟨d, hd⟩ : ∃ d : Nat, l[i] - last - 1 = d := ⟨(l[i] - last - 1).toNat, by omega⟩
        rw [w64_id (x := l[i] - last) (by omega), w64_id (by omega), hd]
        have hs2 := shortL_len2 (x := d) (by omega)
        refine ⟨ofL (shortL d), refShort_spec 7 (short_lt (by omega)) (by omega) (by omega) (by omega) ⟨rfl, rfl⟩, by rw [ofL_size, ofL_size]; omega, ?_⟩
        show ladingref06_Put.l1 F K k v sl (ofL pre ++ ofL (shortL d)) (w64 ((i : Int) + 1)) H
        rw [ofL_append, w64_id (by omega), show (i : Int) + 1 = ((i + 1 : Nat) : Int) by omega]
        refine ih (i + 1) k l[i] _ (by omega) (by omega) (by omega) (fun _ => by rw [show i + 1 - 1 = i by omega]; exact hti.symm) (by simpa using u3) (by rw [List.length_append]; omega) ?_
        simp only [putR, Bool.false_eq_true, if_false, hd, Int.toNat_natCast] at h
        simpa using h
  have hs := shortL_len2 (x := l.length) (by omega)
  unfold ladingref06_Put.wp
  rw [hl]
  exact refShort_spec 7 (short_lt (by omega)) (by omega) (by omega) (by omega) (key l.length 0 F 0 (shortL l.length) (by omega) (by omega) (by omega) (fun c => by omega) (by simpa using hu0) (by omega) (by simpa [putG] using h))

/-! ### Count -/
def CnK (K : Int → Int → Int → Int → SH → Prop) (p : Int) (H : SH) : Except (Nat × Int) (Nat × Nat) → Prop
  | .ok (n, q) => K n q 0 0 H
  | .error (a, c) => K 0 p c a H
theorem Count_j {F : Nat} {K : Int → Int → Int → Int → SH → Prop} {b4 b11 : Nat} {a b c d : Int} {H : SH} (h4 : H b4 = none) (hne : b4 ≠ b11) (h11 : (H.upd b4 ⟨go4 0 0 0 0, gotT, false, 4⟩) b11 = none) (h : K a b c d H) :
    ladingref06_Count.j1 F K b4 b11 ((H.upd b4 ⟨go4 0 0 0 0, gotT, false, 4⟩).upd b11 ⟨go4 a b c d, gotT, false, 4⟩) := by
  refine ⟨a, b, c, d, row_upd rfl, wrs_upd_ne hne (wrs_upd rfl (by simp [go4])), a, b, c, d, ?_, H, ?_, h⟩
  · rw [setl_upd_ne hne]
    exact row_upd_ne hne (row_own rfl)
  · rw [setl_upd_ne hne, setl_upd]
    refine (le_upd h4).trans (le_upd ?_)
    rw [SH.upd_ne _ _ (Ne.symm hne)] at h11 ⊢; exact h11
theorem refCount_mid {F : Nat} {K : Int → Int → Int → Int → SH → Prop} {b4 : Nat} {p nodes a b c d : Int} {H : SH} (h4 : H b4 = none) (h : if c = 0 then (if a > nodes then K 0 p 4 p H else K a b c d H) else K a b c d H) :
    ∀ b11, (H.upd b4 ⟨go4 0 0 0 0, gotT, false, 4⟩) b11 = none →
    SH.wrs (SH.upd (H.upd b4 ⟨go4 0 0 0 0, gotT, false, 4⟩) b11 ⟨go4 0 0 0 0, gotT, false, 4⟩) (b11, 0) 4 ∧
    ∃ (x14 : Int), SH.has (SH.setl (SH.upd (H.upd b4 ⟨go4 0 0 0 0, gotT, false, 4⟩) b11 ⟨go4 0 0 0 0, gotT, false, 4⟩) (b11, 0) (go4 a b c d)) (b11, 2) (.int .i64 x14) ∧
    (x14 = 0 → ∃ (x17 : Int), SH.has (SH.setl (SH.upd (H.upd b4 ⟨go4 0 0 0 0, gotT, false, 4⟩) b11 ⟨go4 0 0 0 0, gotT, false, 4⟩) (b11, 0) (go4 a b c d)) (b11, 0) (.int .i64 x17) ∧
      (x17 > nodes → SH.wrs (SH.setl (SH.upd (H.upd b4 ⟨go4 0 0 0 0, gotT, false, 4⟩) b11 ⟨go4 0 0 0 0, gotT, false, 4⟩) (b11, 0) (go4 a b c d)) (b4, 0) 4 ∧
        ∃ (x21 : Int) (x22 : Int) (x23 : Int) (x24 : Int), SH.row (SH.setl (SH.setl (SH.upd (H.upd b4 ⟨go4 0 0 0 0, gotT, false, 4⟩) b11 ⟨go4 0 0 0 0, gotT, false, 4⟩) (b11, 0) (go4 a b c d)) (b4, 0) (go4 0 p 4 p)) (some (b4, 0)) (go4 x21 x22 x23 x24) ∧
        ∃ Hr, SH.le Hr (SH.setl (SH.setl (SH.upd (H.upd b4 ⟨go4 0 0 0 0, gotT, false, 4⟩) b11 ⟨go4 0 0 0 0, gotT, false, 4⟩) (b11, 0) (go4 a b c d)) (b4, 0) (go4 0 p 4 p)) ∧ K x21 x22 x23 x24 Hr) ∧
      (¬ (x17 > nodes) → ladingref06_Count.j1 F K b4 b11 (SH.setl (SH.upd (H.upd b4 ⟨go4 0 0 0 0, gotT, false, 4⟩) b11 ⟨go4 0 0 0 0, gotT, false, 4⟩) (b11, 0) (go4 a b c d)))) ∧
    (¬ (x14 = 0) → ladingref06_Count.j1 F K b4 b11 (SH.setl (SH.upd (H.upd b4 ⟨go4 0 0 0 0, gotT, false, 4⟩) b11 ⟨go4 0 0 0 0, gotT, false, 4⟩) (b11, 0) (go4 a b c d))) := by
  intro b11 h11
  have hne : b4 ≠ b11 := by rintro rfl; rw [SH.upd_same] at h11; cases h11
  have e : SH.setl (SH.upd (H.upd b4 ⟨go4 0 0 0 0, gotT, false, 4⟩) b11 ⟨go4 0 0 0 0, gotT, false, 4⟩) (b11, 0) (go4 a b c d) = (H.upd b4 ⟨go4 0 0 0 0, gotT, false, 4⟩).upd b11 ⟨go4 a b c d, gotT, false, 4⟩ := by rw [setl_upd]; rfl
  rw [e]
  refine ⟨wrs_upd rfl (by simp [go4]), c, has_upd rfl, fun c0 => ⟨a, has_upd rfl, fun c1 => ?_, fun c1 => ?_⟩, fun c0 => ?_⟩
  · rw [if_pos c0, if_pos c1] at h
    refine ⟨wrs_upd_ne hne (wrs_upd rfl (by simp [go4])), 0, p, 4, p, ?_, H, ?_, h⟩
    · rw [setl_upd_ne hne]; exact row_upd_ne hne (row_own rfl)
    · rw [setl_upd_ne hne, setl_upd]
      refine (le_upd h4).trans (le_upd ?_)
      rw [SH.upd_ne _ _ (Ne.symm hne)] at h11 ⊢; exact h11
  · rw [if_pos c0, if_neg c1] at h; exact Count_j h4 hne h11 h
  · rw [if_neg c0] at h; exact Count_j h4 hne h11 h
theorem refCount_spec {F : Nat} (hF : 20 ≤ F) {s : ByteArray} (hs : s.size ≤ 4611686018427387904) {p : Nat} (hp : p ≤ s.size) {nodes : Int} {H : SH} {K : Int → Int → Int → Int → SH → Prop} (h : CnK K p H (countG (bs s) p nodes)) : ladingref06_Count.wp F s p nodes H K := by
  intro b4 h4
  refine ReadShort_spec hF hs hp ?_
  unfold countG at h
  cases hr : readL ((bs s).drop p) 0 0 with
  | ok x n =>
    rw [hr] at h
    simp only at h
    refine refCount_mid (a := x) (b := ((p + n : Nat) : Int)) (c := 0) (d := 0) h4 ?_
    rw [if_pos rfl]
    by_cases c : (x : Int) > nodes
    · rw [if_pos c] at h ⊢; exact h
    · rw [if_neg c] at h ⊢; exact h
  | form => rw [hr] at h; exact refCount_mid (a := 0) (b := p) (c := 4) (d := p) h4 (by rw [if_neg (by omega)]; exact h)
  | cut => rw [hr] at h; simp only [bs_len] at h; exact refCount_mid (a := 0) (b := p) (c := 3) (d := s.size) h4 (by rw [if_neg (by omega)]; exact h)
theorem refCount_bad {F : Nat} {s : ByteArray} {p nodes : Int} (hp : p < 0 ∨ p > s.size) {H : SH} {K : Int → Int → Int → Int → SH → Prop} (h : K 0 p 1 p H) : ladingref06_Count.wp F s p nodes H K := by
  intro b4 h4
  exact ReadShort_bad hp (refCount_mid (a := 0) (b := p) (c := 1) (d := p) h4 (by rw [if_neg (by omega)]; exact h))
end Go.Proofs.YtpnbehgkbfhacaaDoor.K
