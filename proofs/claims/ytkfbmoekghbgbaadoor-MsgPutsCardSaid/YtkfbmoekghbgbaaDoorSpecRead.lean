/- Texts that are read. -/
import Derived.Test.YtkfbmoekghbgbaaDoorSpecOctet
set_option linter.unusedVariables false
set_option linter.unusedSimpArgs false
namespace Go.Proofs.YtkfbmoekghbgbaaDoor.K
open Go

/-- A text at a place, and the place behind it; or what is wrong, and where. -/
def textP (u : List UInt8) (p mx : Nat) : Except EV (List UInt8 × Nat) := match readL (u.drop p) 0 0 with
  | .ok x n => if x > mx then .error (EV.mk p (some (.no 6))) else if x > u.length - (p + n) then .error (EV.mk u.length (some (.no 3))) else .ok ((u.drop (p + n)).take x, p + n + x)
  | .form => .error (EV.mk p (some (.no 4)))
  | .cut => .error (EV.mk u.length (some (.no 3)))
def TxK (K : ByteArray → Int → Option EV → SH → Prop) (p : Nat) (H : SH) : Except EV (List UInt8 × Nat) → Prop
  | .ok (t, q) => K (ofL t) (q : Int) none H
  | .error e => K ByteArray.empty (p : Int) (some e) H
theorem Text_spec {F : Nat} (hF : 10 ≤ F) {s : ByteArray} (hs : s.size ≤ 4611686018427387904) {p mx : Nat} (hp : p ≤ s.size) {H : SH} {K : ByteArray → Int → Option EV → SH → Prop} (h : TxK K p H (textP (bs s) p mx)) : octet_Text.wp F s (p : Int) (mx : Int) H K := by
  refine Short_spec hF hs hp ?_
  unfold textP at h
  have hl : ((bs s).drop p).length = s.size - p := by rw [List.length_drop, bs_len]
  cases hr : readL ((bs s).drop p) 0 0 with
  | form => rw [hr] at h; exact o_some ⟨H, .refl H, h⟩
  | cut => rw [hr, bs_len] at h; exact o_some ⟨H, .refl H, h⟩
  | ok x n =>
    rw [hr, bs_len] at h
    have hx := (shortL_read hr).1
    have hn := (shortL_read hr).2.2.1
    rw [hl] at hn
    refine o_none ?_
    by_cases h1 : x > mx
    · simp only [h1, if_true] at h
      exact br_t (by omega) (fault_spec ⟨H, .refl H, h⟩)
    · simp only [h1, if_false] at h
      refine br_f (by omega) ?_
      rw [w64_id (by omega)]
      by_cases h2 : x > s.size - (p + n)
      · simp only [h2, if_true] at h
        exact br_t (by omega) (fault_spec ⟨H, .refl H, h⟩)
      · simp only [h2, if_false] at h
        refine br_f (by omega) ?_
        rw [w64_id (by omega)]
        refine ⟨by omega, by omega, by omega, H, .refl H, ?_⟩
        have e : s.extract ((p : Int) + (n : Int)).toNat ((p : Int) + (n : Int) + (x : Int)).toNat = ofL (((bs s).drop (p + n)).take x) := by
          apply bs_inj
          rw [bs_extract, bs_ofL, show ((p : Int) + (n : Int)).toNat = p + n by omega, show ((p : Int) + (n : Int) + (x : Int)).toNat = p + n + x by omega, List.drop_take]
          congr 1; omega
        rw [e, show (p : Int) + (n : Int) + (x : Int) = ((p + n + x : Nat) : Int) by omega]
        exact h
theorem Text_bad {F : Nat} {s : ByteArray} {p mx : Int} (hp : p < 0 ∨ p > s.size) {H : SH} {K : ByteArray → Int → Option EV → SH → Prop} (h : K ByteArray.empty p (some (EV.mk p (some (.no 1)))) H) : octet_Text.wp F s p mx H K :=
  Short_bad hp (o_some ⟨H, .refl H, h⟩)
end Go.Proofs.YtkfbmoekghbgbaaDoor.K
