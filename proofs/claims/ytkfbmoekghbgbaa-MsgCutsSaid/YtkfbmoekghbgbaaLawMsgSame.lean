/- The law MsgSame: what it comes to. -/
import Derived.Test.YtkfbmoekghbgbaaSpecMsg
import Derived.Test.YtkfbmoekghbgbaaGladinglaw18MsgSame
import Derived.Test.YtkfbmoekghbgbaaArgs2
set_option linter.unusedVariables false
set_option linter.unusedSimpArgs false
namespace Go.Proofs.Ytkfbmoekghbgbaa.K
open Go

def nameTab : List ByteArray := [ByteArray.empty, ⟨#[79, 102, 102, 101, 114]⟩, ⟨#[65, 115, 107]⟩, ⟨#[66, 108, 111, 99, 107]⟩, ⟨#[78, 111, 110, 101]⟩, ⟨#[82, 101, 97, 100, 121]⟩, ⟨#[80, 114, 101, 112, 97, 114, 101]⟩, ⟨#[80, 114, 101, 112, 97, 114, 101, 100]⟩, ⟨#[67, 111, 109, 109, 105, 116]⟩, ⟨#[68, 111, 110, 101]⟩, ⟨#[66, 101, 97, 116]⟩, ⟨#[72, 101, 108, 108, 111]⟩]
def nameV (x : Int) : ByteArray := if 0 ≤ x ∧ x < 12 then nameTab.getD x.toNat ByteArray.empty else ByteArray.empty
theorem sealL_drop (t : List UInt8) : (sealL t).drop 6 = t := by
  unfold sealL
  have : (fixL 4 (sumV (fixL 2 t.length ++ t)) ++ fixL 2 t.length).length = 6 := by simp [fixL_len]
  rw [← this, List.drop_left]
theorem sealL_inj {a b : List UInt8} (h : sealL a = sealL b) : a = b := by rw [← sealL_drop a, h, sealL_drop]
theorem ofL_inj {a b : List UInt8} (h : ofL a = ofL b) : a = b := by rw [← bs_ofL a, h, bs_ofL]
section
variable {F : Nat} {H : SH} {m : MM} {l : Sl}
theorem Name_spec {x : Int} {K : ByteArray → SH → Prop} (k : K (nameV x) H) : msg_Name.wp F x H K := by
  refine ⟨fun c => ⟨H, .refl H, ?_⟩, fun c => ⟨fun d => ⟨H, .refl H, ?_⟩, fun d => ?_⟩⟩
  · rwa [show nameV x = ByteArray.empty from if_neg (by omega)] at k
  · rwa [show nameV x = ByteArray.empty from if_neg (by omega)] at k
  · have hx : nameV x = nameTab.getD x.toNat ByteArray.empty := if_pos (by omega)
    have hlt : x.toNat < nameTab.length := by show x.toNat < 12; omega
    refine fun b1 hb1 => ⟨wrs_upd rfl (Nat.le_refl _), ByteArray.empty, ⟨#[79, 102, 102, 101, 114]⟩, ⟨#[65, 115, 107]⟩, ⟨#[66, 108, 111, 99, 107]⟩, ⟨#[78, 111, 110, 101]⟩, ⟨#[82, 101, 97, 100, 121]⟩, ⟨#[80, 114, 101, 112, 97, 114, 101]⟩, ⟨#[80, 114, 101, 112, 97, 114, 101, 100]⟩, ⟨#[67, 111, 109, 109, 105, 116]⟩, ⟨#[68, 111, 110, 101]⟩, ⟨#[66, 101, 97, 116]⟩, ⟨#[72, 101, 108, 108, 111]⟩, ?_, H, ?_, ?_⟩
    · rw [setl_upd]
      exact rowN (SH.upd_same _ _ _) fun j u hu => by rw [Nat.zero_add]; exact hu
    · rw [setl_upd]; exact le_upd hb1
    · refine ⟨by omega, nameV x, ?_, H, .refl H, k⟩
      rw [hx]
      show (nameTab.map fun s => Value.string s)[x.toNat]? = _
      simp [hlt, List.getD]
theorem Great_spec (hF : 1000 ≤ F) (hi : MIn H m l) {K : Bool → SH → Prop} (k1 : K true H) (k2 : m.proof.length ≤ 30 → K false H) : ladinglaw18_Great.wp F m.kind m.ver m.i m.text l H K := by
  refine fun b hb => ?_
  have hh : (H.upd b (mcell m l)) b = some (mcell m l) := SH.upd_same _ _ _
  have yes : ∃ Hr, SH.le Hr (H.upd b (mcell m l)) ∧ K true Hr := ⟨H, le_upd hb, k1⟩
  refine ⟨m.text, ⟨_, hh, rfl⟩, fun _ => yes, fun c1 => ⟨l, ⟨_, hh, rfl⟩, fun _ => yes, fun c2 => ⟨l, ⟨_, hh, rfl⟩, ?_⟩⟩⟩
  have hl := hi.len
  have h30 : m.proof.length ≤ 30 := by omega
  have hi' := hi.le (le_upd (o := mcell m l) hb)
  have loop : ∀ (j i f : Nat), m.proof.length - i = j → i ≤ m.proof.length → j < f → ladinglaw18_Great.l1 F K f l (m.proof.length : Int) (i : Int) (H.upd b (mcell m l)) := by
    intro j
    induction j with
    | zero =>
      intro i f hj hi0 hf
      obtain ⟨f, rfl⟩ : ∃ i, f = i + 1 := ⟨f - 1, by omega⟩
      exact br_f (by omega) ⟨H, le_upd hb, k2 h30⟩
    | succ j ih =>
      intro i f hj hi0 hf
      obtain ⟨f, rfl⟩ : ∃ i, f = i + 1 := ⟨f - 1, by omega⟩
      have hlt : i < m.proof.length := by omega
      refine br_t (by omega) (row_at hi'.row (strc_get hlt) (by omega) fun p hp hh => ⟨m.proof[i], hh, fun _ => yes, fun c => ?_⟩)
      rw [w64_id (by omega), show (i : Int) + 1 = ((i + 1 : Nat) : Int) by omega]
      exact ih (i + 1) f (by omega) (by omega) (by omega)
  rw [hl]
  exact loop m.proof.length 0 F (by omega) (by omega) (by omega)
theorem awake18_spec (hF : 70000 ≤ F) {K : Bool → SH → Prop} (k : K true H) : ladinglaw18_awake.wp F H K := by
  have hm : (⟨2, 1, 0, ByteArray.empty, []⟩ : MM).may = true := by
    unfold MM.may MM.parts
    simp [partsB]
  refine MPut_spec (m := ⟨2, 1, 0, ByteArray.empty, []⟩) (l := Sl.nil) hF ⟨rfl, .inl rfl⟩ hm ?_
  have hsz : (ofL (sealL (⟨2, 1, 0, ByteArray.empty, []⟩ : MM).bytes)).size = 11 := by
    rw [ofL_size, sealL_len]
    have e0 : shortL 0 = [0] := shortL_one (by omega)
    have e1 : shortL 1 = [1] := shortL_one (by omega)
    simp [MM.bytes, textL, textsL, show bs ByteArray.empty = [] from rfl, e0, e1]
  refine br_t (by rw [hsz]; rfl) (o_none (Name_spec ⟨H, .refl H, ?_⟩))
  have : decide (nameV 3 = (⟨#[66, 108, 111, 99, 107]⟩ : ByteArray)) = true := decide_eq_true rfl
  rw [this]; exact k
theorem Same_j1 {m' : MM} {l' : Sl} {x : Int} {b1 b2 : Nat} {s : ByteArray} (hF : 70000 ≤ F) (h : MIn H m l) (h' : MIn H m' l') (hp : m.proof.length ≤ 30) (hp' : m'.proof.length ≤ 30) (g1 : H b1 = some (mcell m l)) (g2 : H b2 = some (mcell m' l')) (hs : s = nameV x) {K : Bool → SH → Prop} (k : ∀ H', K true H') :
    ladinglaw18_MsgSame.j1 F K x b1 b2 s H := by
  refine ⟨nameV x, Name_spec ⟨rfl, rfl⟩, br_t hs.symm ⟨m.kind, m.ver, m.i, m.text, l, mrow g1, m'.kind, m'.ver, m'.i, m'.text, l', mrow g2, ?_⟩⟩
  classical
  refine ⟨decide (m = m'), (MSame_spec (by omega) h h' (by omega) (fun q hq => ⟨by rw [Bool.eq_iff_iff, hq]; simp, rfl⟩)).1, m.kind, m.ver, m.i, m.text, l, mrow g1, m'.kind, m'.ver, m'.i, m'.text, l', mrow g2, decide (m = m'), (MSame_spec (by omega) h h' (by omega) (fun q hq => ⟨by rw [Bool.eq_iff_iff, hq]; simp, rfl⟩)).2, br_f (by simp) ⟨m.kind, m.ver, m.i, m.text, l, mrow g1, ?_⟩⟩
  cases hm : m.may with
  | false =>
    refine MPut_bad (by omega) (by omega) h hm ⟨m'.kind, m'.ver, m'.i, m'.text, l', mrow g2, ?_⟩
    cases hm' : m'.may with
    | false => exact MPut_bad (by omega) (by omega) h' hm' (o_some ⟨H, .refl H, k _⟩)
    | true => exact MPut_spec hF h' hm' (o_some ⟨H, .refl H, k _⟩)
  | true =>
    refine MPut_spec hF h hm ⟨m'.kind, m'.ver, m'.i, m'.text, l', mrow g2, ?_⟩
    cases hm' : m'.may with
    | false => exact MPut_bad (by omega) (by omega) h' hm' (o_none (o_some ⟨H, .refl H, k _⟩))
    | true =>
      refine MPut_spec hF h' hm' (o_none (o_none ⟨m.kind, m.ver, m.i, m.text, l, mrow g1, m'.kind, m'.ver, m'.i, m'.text, l', mrow g2, (MSame_spec (by omega) h h' (by omega) (fun q hq => ⟨H, .refl H, ?_⟩)).2⟩))
      have e : (decide (ofL (sealL m.bytes) = ofL (sealL m'.bytes)) == q) = true := by
        rw [beq_iff_eq, Bool.eq_iff_iff, hq, decide_eq_true_eq]
        exact ⟨fun e => bytes_inj hm hm' (sealL_inj (ofL_inj e)), fun e => by rw [e]⟩
      rw [e]; exact k _
theorem MsgSame_wp {m' : MM} {l' : Sl} {x : Int} (hF : 70000 ≤ F) (h : MIn H m l) (h' : MIn H m' l') : ladinglaw18_MsgSame.wp F m.kind m.ver m.i m.text l m'.kind m'.ver m'.i m'.text l' x H (fun b _ => b = true) := by
  refine fun b1 hb1 b2 hb2 => ?_
  have hne : b1 ≠ b2 := by rintro rfl; rw [SH.upd_same] at hb2; cases hb2
  obtain ⟨HH, e⟩ : ∃ HH, HH = ((H.upd b1 (mcell m l)).upd b2 (mcell m' l')) := ⟨_, rfl⟩
  have g1 : HH b1 = some (mcell m l) := by rw [e, SH.upd_ne _ _ hne, SH.upd_same]
  have g2 : HH b2 = some (mcell m' l') := by rw [e, SH.upd_same]
  have hle : SH.le H HH := by rw [e]; exact (le_upd hb1).trans (le_upd hb2)
  show ladinglaw18_awake.wp F _ _
  rw [show ((H.upd b1 ⟨[.int .i64 m.kind, .int .i64 m.ver, .int .i64 m.i, .string m.text, sv l], MSGT, false, 5⟩).upd b2 ⟨[.int .i64 m'.kind, .int .i64 m'.ver, .int .i64 m'.i, .string m'.text, sv l'], MSGT, false, 5⟩) = HH from e.symm]
  refine awake18_spec hF (br_t rfl ⟨m.kind, m.ver, m.i, m.text, l, mrow g1, Great_spec (by omega) (h.le hle) (br_t rfl ⟨HH, .refl _, rfl⟩) fun hp => br_f (by simp) ⟨m'.kind, m'.ver, m'.i, m'.text, l', mrow g2, Great_spec (by omega) (h'.le hle) (br_t rfl ⟨HH, .refl _, rfl⟩) fun hp' => br_f (by simp) fun b3 hb3 => ?_⟩⟩)
  have fin : ∀ s (G : SH), SH.le HH G → s = nameV x → ladinglaw18_MsgSame.j1 F (fun b _ => b = true) x b1 b2 s G := fun s G hG hs => Same_j1 hF (h.le (hle.trans hG)) (h'.le (hle.trans hG)) hp hp' (hG _ _ g1) (hG _ _ g2) hs (fun _ => rfl)
  refine ⟨fun c => ⟨fun d => ?_, fun d => fin _ _ (le_upd hb3) (if_neg (by have d' : ¬ x < 12 := d; omega)).symm⟩, fun c => fin _ _ (le_upd hb3) (if_neg (by omega)).symm⟩
  have d' : x < 12 := d
  have hlt : x.toNat < nameTab.length := by show x.toNat < 12; omega
  refine ⟨(b3, 0), rfl, by omega, d, nameV x, ?_, fin _ _ (le_upd hb3) rfl⟩
  refine has_upd ?_
  rw [show nameV x = nameTab.getD x.toNat ByteArray.empty from if_pos (by omega)]
  show (nameTab.map fun s => Value.string s)[0 + x.toNat * 1]? = _
  rw [Nat.mul_one, Nat.zero_add]
  simp [hlt, List.getD]
end
open Go.RowKit Go.ChangeShapes Go.WideShapes Go.ChangeAt Go.Deep in
/-- A slice of texts, in a cell. -/
theorem cell_strs {H : Type} {enc : TypeId × Value → H} {P : Program} {W : World} {base : Nat} {t e : TypeId} {v : Value} {n : Nat} {y : DataW H × List MemPlace} (ht : P.underlying t = some (.slice e)) (he : P.underlying e = some .string) (hc : P.cellsOf e = 1) (hv : Cell.okWide P W .any base t v) (hd : DataW.trod enc P W 0 (fun _ => true) true n t [v] = some y) :
    ∃ (l : Sl) (ss : List ByteArray), v = sv l ∧ l.len = ss.length ∧ l.len ≤ l.cap ∧ (SH.of W).row l.a (ss.map fun s => .string s) ∧ ∀ s ∈ ss, s.size ≤ maxLen := by
  rcases open_strs ht he hc hd with ⟨h1, _⟩ | ⟨a', len', cap', m, Sx, h1, _, hl, hm, hmm, _, hx⟩
  · obtain rfl : v = .slice none 0 0 := by simpa using h1
    exact ⟨Sl.nil, [], rfl, rfl, Nat.le_refl _, .inl rfl, fun _ h => by cases h⟩
  · obtain rfl : v = .slice (some a') len' cap' := by simpa using h1
    have ha := cell_spot ht hv
    simp only [if_true] at hmm
    refine ⟨⟨some (a'.block, a'.off), len', cap'⟩, (List.range len').map Sx, by rw [ha]; rfl, by simp, hl, ?_, fun s hs => ?_⟩
    · have := SH.of_row (W := W) (p := (a'.block, a'.off)) (n := len') (V := fun i => .string (Sx i)) fun i hi => by rw [← ha]; exact (hx i (by omega)).1
      simpa [cellsF, Function.comp_def] using this
    · obtain ⟨i, hi, rfl⟩ := List.mem_map.1 hs
      exact (hx i (by have := List.mem_range.1 hi; omega)).2
set_option maxRecDepth 100000 in
open Go.RowKit Go.ChangeShapes Go.WideShapes Go.ChangeAt Go.Deep in
/-- A message as an argument. -/
theorem arg_msg {H : Type} {enc : TypeId × Value → H} {W : World} {base : Nat} {v : Value} {d : DataW H} {p : List MemPlace} (hval : Value.okWide Try.prog W .any base 24 v) (hd : DataW.Trod enc Try.prog W 0 (fun _ => true) true 24 v d p) :
    ∃ (m : MM) (l : Sl), v = .agg #[.int .i64 m.kind, .int .i64 m.ver, .int .i64 m.i, .string m.text, sv l] ∧ MIn (SH.of W) m l := by
  obtain ⟨cs, rfl, hlen, hcell⟩ := arg_agg (ts := [3, 3, 3, 9, 22]) (.inr ⟨_, Try.underlying24⟩) (by kernel_rfl) (by kernel_rfl) hval
  obtain ⟨c0, c1, c2, c3, c4, rfl⟩ : ∃ a b c d e, cs = [a, b, c, d, e] := by
    match cs, hlen with
    | [a, b, c, d, e], _ => exact ⟨a, b, c, d, e, rfl⟩
  obtain ⟨n0, rfl, _, _⟩ := cell_int Try.underlying3 (hcell 0 c0 3 rfl rfl)
  obtain ⟨n1, rfl, _, _⟩ := cell_int Try.underlying3 (hcell 1 c1 3 rfl rfl)
  obtain ⟨n2, rfl, _, _⟩ := cell_int Try.underlying3 (hcell 2 c2 3 rfl rfl)
  obtain ⟨s, rfl, _⟩ := cell_str Try.underlying9 (hcell 3 c3 9 rfl rfl)
  obtain ⟨n, hf⟩ := hd
  obtain ⟨xs, n', _, _, _, hxl, hx⟩ := DataW.trod_struct Try.underlying24 hf
  have h4 := hx 4 _ rfl
  have hlt : 4 < xs.length := by rw [hxl]; decide
  rw [List.getElem?_eq_getElem hlt] at h4
  have h4' : DataW.trod enc Try.prog W 0 (fun _ => true) true n' 22 [c4] = some xs[4] := h4
  obtain ⟨l, ss, rfl, hl, _, hr, _⟩ := cell_strs Try.underlying22 Try.underlying9 (by kernel_rfl) (hcell 4 c4 22 rfl rfl) h4'
  exact ⟨⟨n0, n1, n2, s, ss⟩, l, rfl, hl, hr⟩
set_option maxRecDepth 100000 in
open Go.RowKit Go.ChangeShapes Go.WideShapes Go.ChangeAt in
theorem MsgSame_walk {X : Prop} {H : Type} {enc : TypeId × Value → H} (W : World) (args : Array Value) (ds : List (DataW H)) (p : List MemPlace) (base : Nat)
    (hval : ∀ (j : Nat) t v, Try.f3.params[j]? = some t → args[j]? = some v → Value.okWide Try.prog W .any base t v) (hA : DataW.TrodAll enc Try.prog W 0 (fun _ => true) true Try.f3.params.toList args.toList ds p) (hfz : X) :
    (∃ d d2 d3, ds = [d, d2, d3]) ∧ Calls Try.prog 3 args W fun e w' => e = .returned (.bool true) ∧ RowKit.Below W.heap.size W w' := by
  rw [Try.params3] at hA hval
  obtain ⟨v0, vs0, d0, ds0, p0, q0, hargs, rfl, rfl, h0, r0⟩ := trodAll_cons hA
  obtain ⟨v1, vs1, d1, ds1, p1, q1, rfl, rfl, rfl, h1, r1⟩ := trodAll_cons r0
  obtain ⟨v2, vs2, d2, ds2, p2, q2, rfl, rfl, rfl, h2, r2⟩ := trodAll_cons r1
  obtain ⟨rfl, rfl, rfl⟩ := trodAll_nil r2
  obtain rfl : args = #[v0, v1, v2] := by cases args; simp_all
  obtain ⟨m, l, rfl, hm⟩ := arg_msg (hval 0 24 v0 rfl rfl) h0
  obtain ⟨m', l', rfl, hm'⟩ := arg_msg (hval 1 24 v1 rfl rfl) h1
  obtain ⟨x, rfl, rfl, rfl, hx⟩ := open_int Try.underlying3 (hval 2 3 v2 rfl rfl) h2
  refine ⟨⟨_, _, _, rfl⟩, ?_⟩
  have h := ladinglaw18_MsgSame.sound 70000 m.kind m.ver m.i m.text l m'.kind m'.ver m'.i m'.text l' x (SH.of W) _ (MsgSame_wp (by omega) hm hm') W (SH.of_sat W)
  refine h.mono ?_
  rintro e w' ⟨v, H', rfl, st, q, rfl, rfl⟩
  exact ⟨rfl, st.below fun b o hb => SH.of_ro hb⟩
end Go.Proofs.Ytkfbmoekghbgbaa.K
