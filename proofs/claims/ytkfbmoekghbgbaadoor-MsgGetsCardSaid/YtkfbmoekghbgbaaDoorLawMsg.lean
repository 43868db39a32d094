/- What the laws of msg have in common. -/
import Derived.Test.YtkfbmoekghbgbaaDoorSpecMsg
import Derived.Test.YtkfbmoekghbgbaaDoorArgs2
set_option linter.unusedVariables false
set_option linter.unusedSimpArgs false
namespace Go.Proofs.YtkfbmoekghbgbaaDoor.K
open Go

def nameTab : List ByteArray := [ByteArray.empty, ⟨#[79, 102, 102, 101, 114]⟩, ⟨#[65, 115, 107]⟩, ⟨#[66, 108, 111, 99, 107]⟩, ⟨#[78, 111, 110, 101]⟩, ⟨#[82, 101, 97, 100, 121]⟩, ⟨#[80, 114, 101, 112, 97, 114, 101]⟩, ⟨#[80, 114, 101, 112, 97, 114, 101, 100]⟩, ⟨#[67, 111, 109, 109, 105, 116]⟩, ⟨#[68, 111, 110, 101]⟩, ⟨#[66, 101, 97, 116]⟩, ⟨#[72, 101, 108, 108, 111]⟩]
def nameV (x : Int) : ByteArray := if 0 ≤ x ∧ x < 12 then nameTab.getD x.toNat ByteArray.empty else ByteArray.empty
theorem sealL_drop (t : List UInt8) : (sealL t).drop 6 = t := by
  unfold sealL
  have : (fixL 4 (sumV (fixL 2 t.length ++ t)) ++ fixL 2 t.length).length = 6 := by simp [fixL_len]
  rw [← this, List.drop_left]
theorem sealL_inj {a b : List UInt8} (h : sealL a = sealL b) : a = b := by rw [← sealL_drop a, h, sealL_drop]
theorem ofL_inj {a b : List UInt8} (h : ofL a = ofL b) : a = b := by rw [← bs_ofL a, h, bs_ofL]
section
variable {F : Nat} {H : SH} {m : MM} {l : Sl}
theorem Name_spec {x : Int} {K : ByteArray → SH → Prop} (k : K (nameV x) H) : msg_Name.wp F x H K := by
  refine ⟨fun c => ⟨H, .refl H, ?_⟩, fun c => ⟨fun d => ⟨H, .refl H, ?_⟩, fun d => ?_⟩⟩
  · rwa [show nameV x = ByteArray.empty from if_neg (by omega)] at k
  · rwa [show nameV x = ByteArray.empty from if_neg (by omega)] at k
  · have hx : nameV x = nameTab.getD x.toNat ByteArray.empty := if_pos (by omega)
    have hlt : x.toNat < nameTab.length := by show x.toNat < 12; omega
    refine fun b1 hb1 => ⟨wrs_upd rfl (Nat.le_refl _), ByteArray.empty, ⟨#[79, 102, 102, 101, 114]⟩, ⟨#[65, 115, 107]⟩, ⟨#[66, 108, 111, 99, 107]⟩, ⟨#[78, 111, 110, 101]⟩, ⟨#[82, 101, 97, 100, 121]⟩, ⟨#[80, 114, 101, 112, 97, 114, 101]⟩, ⟨#[80, 114, 101, 112, 97, 114, 101, 100]⟩, ⟨#[67, 111, 109, 109, 105, 116]⟩, ⟨#[68, 111, 110, 101]⟩, ⟨#[66, 101, 97, 116]⟩, ⟨#[72, 101, 108, 108, 111]⟩, ?_, H, ?_, ?_⟩
    · rw [setl_upd]
      exact rowN (SH.upd_same _ _ _) fun j u hu => by rw [Nat.zero_add]; exact hu
    · rw [setl_upd]; exact le_upd hb1
    · refine ⟨by omega, nameV x, ?_, H, .refl H, k⟩
      rw [hx]
      show (nameTab.map fun s => Value.string s)[x.toNat]? = _
      simp [hlt, List.getD]
theorem Great_spec (hF : 1000 ≤ F) (hi : MIn H m l) {K : Bool → SH → Prop} (k1 : K true H) (k2 : m.proof.length ≤ 30 → K false H) : ladinglaw18_Great.wp F m.kind m.ver m.i m.text l H K := by
  refine fun b hb => ?_
  have hh : (H.upd b (mcell m l)) b = some (mcell m l) := SH.upd_same _ _ _
  have yes : ∃ Hr, SH.le Hr (H.upd b (mcell m l)) ∧ K true Hr := ⟨H, le_upd hb, k1⟩
  refine ⟨m.text, ⟨_, hh, rfl⟩, fun _ => yes, fun c1 => ⟨l, ⟨_, hh, rfl⟩, fun _ => yes, fun c2 => ⟨l, ⟨_, hh, rfl⟩, ?_⟩⟩⟩
  have hl := hi.len
  have h30 : m.proof.length ≤ 30 := by omega
  have hi' := hi.le (le_upd (o := mcell m l) hb)
  have loop : ∀ (j i f : Nat), m.proof.length - i = j → i ≤ m.proof.length → j < f → ladinglaw18_Great.l1 F K f l (m.proof.length : Int) (i : Int) (H.upd b (mcell m l)) := by
    intro j
    induction j with
    | zero =>
      intro i f hj hi0 hf
      obtain ⟨f, rfl⟩ : ∃ i, f = i + 1 := ⟨f - 1, by omega⟩
      exact br_f (by omega) ⟨H, le_upd hb, k2 h30⟩
    | succ j ih =>
      intro i f hj hi0 hf
      obtain ⟨f, rfl⟩ : ∃ i, f = i + 1 := ⟨f - 1, by omega⟩
      have hlt : i < m.proof.length := by omega
      refine br_t (by omega) (row_at hi'.row (strc_get hlt) (by omega) fun p hp hh => ⟨m.proof[i], hh, fun _ => yes, fun c => ?_⟩)
      rw [w64_id (by omega), show (i : Int) + 1 = ((i + 1 : Nat) : Int) by omega]
      exact ih (i + 1) f (by omega) (by omega) (by omega)
  rw [hl]
  exact loop m.proof.length 0 F (by omega) (by omega) (by omega)
theorem awake18_spec (hF : 70000 ≤ F) {K : Bool → SH → Prop} (k : K true H) : ladinglaw18_awake.wp F H K := by
  have hm : (⟨2, 1, 0, ByteArray.empty, []⟩ : MM).may = true := by
    unfold MM.may MM.parts
    simp [partsB]
  refine MPut_spec (m := ⟨2, 1, 0, ByteArray.empty, []⟩) (l := Sl.nil) hF ⟨rfl, .inl rfl⟩ hm ?_
  have hsz : (ofL (sealL (⟨2, 1, 0, ByteArray.empty, []⟩ : MM).bytes)).size = 11 := by
    rw [ofL_size, sealL_len]
    have e0 : shortL 0 = [0] := shortL_one (by omega)
    have e1 : shortL 1 = [1] := shortL_one (by omega)
    simp [MM.bytes, textL, textsL, show bs ByteArray.empty = [] from rfl, e0, e1]
  refine br_t (by rw [hsz]; rfl) (o_none (Name_spec ⟨H, .refl H, ?_⟩))
  have : decide (nameV 3 = (⟨#[66, 108, 111, 99, 107]⟩ : ByteArray)) = true := decide_eq_true rfl
  rw [this]; exact k
end
open Go.RowKit Go.ChangeShapes Go.WideShapes Go.ChangeAt Go.Deep in
/-- A slice of texts, in a cell. -/
theorem cell_strs {H : Type} {enc : TypeId × Value → H} {P : Program} {W : World} {base : Nat} {t e : TypeId} {v : Value} {n : Nat} {y : DataW H × List MemPlace} (ht : P.underlying t = some (.slice e)) (he : P.underlying e = some .string) (hc : P.cellsOf e = 1) (hv : Cell.okWide P W .any base t v) (hd : DataW.trod enc P W 0 (fun _ => true) true n t [v] = some y) :
    ∃ (l : Sl) (ss : List ByteArray), v = sv l ∧ l.len = ss.length ∧ l.len ≤ l.cap ∧ (SH.of W).row l.a (ss.map fun s => .string s) ∧ ∀ s ∈ ss, s.size ≤ maxLen := by
  rcases open_strs ht he hc hd with ⟨h1, _⟩ | ⟨a', len', cap', m, Sx, h1, _, hl, hm, hmm, _, hx⟩
  · obtain rfl : v = .slice none 0 0 := by simpa using h1
    exact ⟨Sl.nil, [], rfl, rfl, Nat.le_refl _, .inl rfl, fun _ h => by cases h⟩
  · obtain rfl : v = .slice (some a') len' cap' := by simpa using h1
    have ha := cell_spot ht hv
    simp only [if_true] at hmm
    refine ⟨⟨some (a'.block, a'.off), len', cap'⟩, (List.range len').map Sx, by rw [ha]; rfl, by simp, hl, ?_, fun s hs => ?_⟩
    · have := SH.of_row (W := W) (p := (a'.block, a'.off)) (n := len') (V := fun i => .string (Sx i)) fun i hi => by rw [← ha]; exact (hx i (by omega)).1
      simpa [cellsF, Function.comp_def] using this
    · obtain ⟨i, hi, rfl⟩ := List.mem_map.1 hs
      exact (hx i (by have := List.mem_range.1 hi; omega)).2
set_option maxRecDepth 100000 in
open Go.RowKit Go.ChangeShapes Go.WideShapes Go.ChangeAt Go.Deep in
/-- A message as an argument. -/
theorem arg_msg {H : Type} {enc : TypeId × Value → H} {W : World} {base : Nat} {v : Value} {d : DataW H} {p : List MemPlace} (hval : Value.okWide Tryd.prog W .any base 53 v) (hd : DataW.Trod enc Tryd.prog W 0 (fun _ => true) true 53 v d p) :
    ∃ (m : MM) (l : Sl), v = .agg #[.int .i64 m.kind, .int .i64 m.ver, .int .i64 m.i, .string m.text, sv l] ∧ MIn (SH.of W) m l := by
  obtain ⟨cs, rfl, hlen, hcell⟩ := arg_agg (ts := [3, 3, 3, 9, 51]) (.inr ⟨_, Tryd.underlying53⟩) (by kernel_rfl) (by kernel_rfl) hval
  obtain ⟨c0, c1, c2, c3, c4, rfl⟩ : ∃ a b c d e, cs = [a, b, c, d, e] := by
    match cs, hlen with
    | [a, b, c, d, e], _ => exact ⟨a, b, c, d, e, rfl⟩
  obtain ⟨n0, rfl, _, _⟩ := cell_int Tryd.underlying3 (hcell 0 c0 3 rfl rfl)
  obtain ⟨n1, rfl, _, _⟩ := cell_int Tryd.underlying3 (hcell 1 c1 3 rfl rfl)
  obtain ⟨n2, rfl, _, _⟩ := cell_int Tryd.underlying3 (hcell 2 c2 3 rfl rfl)
  obtain ⟨s, rfl, _⟩ := cell_str Tryd.underlying9 (hcell 3 c3 9 rfl rfl)
  obtain ⟨n, hf⟩ := hd
  obtain ⟨xs, n', _, _, _, hxl, hx⟩ := DataW.trod_struct Tryd.underlying53 hf
  have h4 := hx 4 _ rfl
  have hlt : 4 < xs.length := by rw [hxl]; decide
  rw [List.getElem?_eq_getElem hlt] at h4
  have h4' : DataW.trod enc Tryd.prog W 0 (fun _ => true) true n' 51 [c4] = some xs[4] := h4
  obtain ⟨l, ss, rfl, hl, _, hr, _⟩ := cell_strs Tryd.underlying51 Tryd.underlying9 (by kernel_rfl) (hcell 4 c4 51 rfl rfl) h4'
  exact ⟨⟨n0, n1, n2, s, ss⟩, l, rfl, hl, hr⟩
end Go.Proofs.YtkfbmoekghbgbaaDoor.K
