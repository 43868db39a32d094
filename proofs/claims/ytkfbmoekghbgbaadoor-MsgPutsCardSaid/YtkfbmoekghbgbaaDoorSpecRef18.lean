/- The document's answer of layer 18: what may be, and its bytes. -/
import Derived.Test.YtkfbmoekghbgbaaDoorSpecGet2
import Derived.Test.YtkfbmoekghbgbaaDoorSpecRef3
import Derived.Test.YtkfbmoekghbgbaaDoorLawMsg
import Derived.Test.YtkfbmoekghbgbaaDoorGladingref18
set_option linter.unusedVariables false
set_option linter.unusedSimpArgs false
namespace Go.Proofs.YtkfbmoekghbgbaaDoor.K
open Go

abbrev PRTT : TypeId := 58
def pcell (m : MM) (l : Sl) : AO := ⟨[.int .i64 m.kind, .int .i64 m.ver, .int .i64 m.i, .string m.text, sv l], PRTT, false, 5⟩
def j3B (m : MM) : Bool := if (m.proof.length : Int) = 0 then true else m.kind == 3
def j2B (m : MM) : Bool := if m.text = ByteArray.empty then j3B m else if m.kind ≠ 1 then (if m.kind ≠ 3 then false else if (m.text.size : Int) > 64 then false else j3B m) else j3B m
def j1B (m : MM) : Bool := if m.i ≠ 0 then (if m.kind ≠ 2 then (if m.kind ≠ 3 then (if m.kind ≠ 4 then (if m.kind ≠ 10 then false else j2B m) else j2B m) else j2B m) else j2B m) else j2B m
def j0B (m : MM) : Bool := if m.kind < 1 then false else if m.kind > 11 then false else if m.kind = 1 then (if m.ver ≠ 0 then false else j1B m) else if m.kind < 10 then (if m.ver = 0 then false else j1B m) else j1B m
theorem j0_parts (m : MM) : j0B m = m.parts := by
  obtain ⟨k, v, i, t, p⟩ := m
  unfold MM.parts partsB j0B j1B j2B j3B
  dsimp only
  by_cases hk : k < 1
  · rw [if_pos hk, if_neg (by omega), if_neg (by omega), if_neg (by omega), if_neg (by omega), if_neg (by omega), if_neg (by omega)]
  rw [if_neg hk]
  by_cases hk2 : k > 11
  · rw [if_pos hk2, if_neg (by omega), if_neg (by omega), if_neg (by omega), if_neg (by omega), if_neg (by omega), if_neg (by omega)]
  rw [if_neg hk2]
  have hp : (decide ((p.length : Int) > 0)) = !decide ((p.length : Int) = 0) := by
    by_cases h : (p.length : Int) = 0
    · rw [decide_eq_true h, decide_eq_false (by omega)]; rfl
    · rw [decide_eq_false h, decide_eq_true (by omega)]; rfl
  have hL : (decide ((t.size : Int) ≤ 64)) = !decide ((t.size : Int) > 64) := by
    by_cases h : (t.size : Int) > 64
    · rw [decide_eq_true h, decide_eq_false (by omega)]; rfl
    · rw [decide_eq_false h, decide_eq_true (by omega)]; rfl
  have hte : t = ByteArray.empty → ¬ (t.size : Int) > 64 := by rintro rfl; decide
  rw [hp, hL]
  generalize hT : decide ((t.size : Int) > 64) = L at *
  by_cases hv : v = 0 <;> by_cases hi : i = 0 <;> by_cases ht : t = ByteArray.empty <;> by_cases hpz : (p.length : Int) = 0 <;> by_cases hLg : (t.size : Int) > 64 <;>
    (have hk3 : k = 1 ∨ k = 2 ∨ k = 3 ∨ k = 4 ∨ k = 5 ∨ k = 6 ∨ k = 7 ∨ k = 8 ∨ k = 9 ∨ k = 10 ∨ k = 11 := by omega
     rcases hk3 with rfl | rfl | rfl | rfl | rfl | rfl | rfl | rfl | rfl | rfl | rfl <;> simp_all <;> (simp [bne_iff_ne.2 hv]; omega))
section
variable {F : Nat} {H H0 : SH} {m : MM} {l : Sl} {b : Nat}
theorem refMay_spec (hF : 100 ≤ F) (hi : MIn H m l) (h30 : m.proof.length ≤ 1000000) {K : Bool → SH → Prop} (k : K m.may H) : ladingref18_May.wp F m.kind m.ver m.i m.text l H K := by
  refine fun b hb => ?_
  have hh : (H.upd b (pcell m l)) b = some (pcell m l) := SH.upd_same _ _ _
  have hle := le_upd (o := pcell m l) hb
  have hlen := hi.len
  have hr := hi.row.le hle
  have fin : ∀ q, q = m.may → ∃ Hr, SH.le Hr (H.upd b (pcell m l)) ∧ K q Hr := fun q e => ⟨H, hle, by rw [e]; exact k⟩
  have no : ¬ (0 ≤ m.ver ∧ 0 ≤ m.i ∧ m.ver ≤ 1099511627776 ∧ m.i ≤ 1099511627776 ∧ m.text.size ≤ 5000 ∧ m.proof.length ≤ 20 ∧ ∀ p ∈ m.proof, p.size = 32) → ∃ Hr, SH.le Hr (H.upd b (pcell m l)) ∧ K false Hr := fun h => fin _ (by unfold MM.may; rw [decide_eq_false h]; rfl)
  have j3 : j3B m = m.may → ladingref18_May.j3 F K b (H.upd b (pcell m l)) := fun e => by
    unfold j3B at e
    refine ⟨l, ⟨_, hh, rfl⟩, fun c => fin _ ?_, fun c => ⟨m.kind, ⟨_, hh, rfl⟩, fin _ ?_⟩⟩
    · rw [if_pos (by omega)] at e; exact e
    · rw [if_neg (by omega)] at e; exact e
  have j2 : j2B m = m.may → ladingref18_May.j2 F K b (H.upd b (pcell m l)) := fun e => by
    unfold j2B at e
    refine ⟨m.text, ⟨_, hh, rfl⟩, fun c => j3 ?_, fun c => ⟨m.kind, ⟨_, hh, rfl⟩, fun d => ⟨m.kind, ⟨_, hh, rfl⟩, fun d3 => fin _ ?_, fun d3 => ⟨m.text, ⟨_, hh, rfl⟩, fun d4 => fin _ ?_, fun d4 => j3 ?_⟩⟩, fun d => j3 ?_⟩⟩
    · rwa [if_pos c] at e
    · rwa [if_neg c, if_pos d, if_pos d3] at e
    · rwa [if_neg c, if_pos d, if_neg d3, if_pos d4] at e
    · rwa [if_neg c, if_pos d, if_neg d3, if_neg d4] at e
    · rwa [if_neg c, if_neg d] at e
  have j1 : j1B m = m.may → ladingref18_May.j1 F K b (H.upd b (pcell m l)) := fun e => by
    unfold j1B at e
    refine ⟨m.i, ⟨_, hh, rfl⟩, fun c => ⟨m.kind, ⟨_, hh, rfl⟩, fun c2 => ⟨m.kind, ⟨_, hh, rfl⟩, fun c3 => ⟨m.kind, ⟨_, hh, rfl⟩, fun c4 => ⟨m.kind, ⟨_, hh, rfl⟩, fun c5 => fin _ ?_, fun c5 => j2 ?_⟩, fun c4 => j2 ?_⟩, fun c3 => j2 ?_⟩, fun c2 => j2 ?_⟩, fun c => j2 ?_⟩
    · rwa [if_pos c, if_pos c2, if_pos c3, if_pos c4, if_pos c5] at e
    · rwa [if_pos c, if_pos c2, if_pos c3, if_pos c4, if_neg c5] at e
    · rwa [if_pos c, if_pos c2, if_pos c3, if_neg c4] at e
    · rwa [if_pos c, if_pos c2, if_neg c3] at e
    · rwa [if_pos c, if_neg c2] at e
    · rwa [if_neg c] at e
  refine ⟨m.ver, ⟨_, hh, rfl⟩, fun c => no (by omega), fun c1 => ⟨m.ver, ⟨_, hh, rfl⟩, fun c => no (by omega), fun c2 => ⟨m.i, ⟨_, hh, rfl⟩, fun c => no (by omega), fun c3 => ⟨m.i, ⟨_, hh, rfl⟩, fun c => no (by omega), fun c4 => ⟨m.text, ⟨_, hh, rfl⟩, fun c => no (by omega), fun c5 => ⟨l, ⟨_, hh, rfl⟩, fun c => no (by omega), fun c6 => ?_⟩⟩⟩⟩⟩⟩
  have h20 : m.proof.length ≤ 20 := by omega
  have loop : ∀ (j i f : Nat), m.proof.length - i = j → i ≤ m.proof.length → j < f → (∀ p ∈ m.proof.take i, p.size = 32) → ladingref18_May.l1 F K f b (i : Int) (H.upd b (pcell m l)) := by
    intro j
    induction j with
    | zero =>
      intro i f hj hi0 hf e
      obtain ⟨f, rfl⟩ : ∃ i, f = i + 1 := ⟨f - 1, by omega⟩
      rw [List.take_of_length_le (by omega)] at e
      have hm : j0B m = m.may := by
        rw [j0_parts]
        unfold MM.may
        rw [decide_eq_true ⟨by omega, by omega, by omega, by omega, by omega, h20, e⟩]; rfl
      unfold j0B at hm
      refine ⟨l, ⟨_, hh, rfl⟩, br_f (by omega) ⟨m.kind, ⟨_, hh, rfl⟩, fun d1 => fin _ ?_, fun d1 => ⟨m.kind, ⟨_, hh, rfl⟩, fun d2 => fin _ ?_, fun d2 => ⟨m.kind, ⟨_, hh, rfl⟩, fun d3 => ⟨m.ver, ⟨_, hh, rfl⟩, fun d4 => fin _ ?_, fun d4 => ⟨m.kind, ⟨_, hh, rfl⟩, fun d5 => absurd d5 (by omega), fun d5 => j1 ?_⟩⟩, fun d3 => ⟨m.kind, ⟨_, hh, rfl⟩, fun d4 => ⟨m.kind, ⟨_, hh, rfl⟩, fun d5 => ⟨m.ver, ⟨_, hh, rfl⟩, fun d6 => fin _ ?_, fun d6 => j1 ?_⟩, fun d5 => j1 ?_⟩, fun d4 => absurd (show m.kind > 1 by omega) d4⟩⟩⟩⟩⟩
      · rwa [if_pos d1] at hm
      · rwa [if_neg d1, if_pos d2] at hm
      · rwa [if_neg d1, if_neg d2, if_pos d3, if_pos d4] at hm
      · rwa [if_neg d1, if_neg d2, if_pos d3, if_neg d4] at hm
      · rwa [if_neg d1, if_neg d2, if_neg d3, if_pos d5, if_pos d6] at hm
      · rwa [if_neg d1, if_neg d2, if_neg d3, if_pos d5, if_neg d6] at hm
      · rwa [if_neg d1, if_neg d2, if_neg d3, if_neg d5] at hm
    | succ j ih =>
      intro i f hj hi0 hf e
      obtain ⟨f, rfl⟩ : ∃ i, f = i + 1 := ⟨f - 1, by omega⟩
      have hlt : i < m.proof.length := by omega
      refine ⟨l, ⟨_, hh, rfl⟩, br_t (by omega) ⟨l, ⟨_, hh, rfl⟩, row_at hr (strc_get hlt) (by omega) fun p hp hq => ⟨m.proof[i], hq, fun c => no ?_, fun c => ?_⟩⟩⟩
      · rintro ⟨_, _, _, _, _, _, h⟩
        have := h _ (List.getElem_mem hlt); omega
      · rw [w64_id (by omega), show (i : Int) + 1 = ((i + 1 : Nat) : Int) by omega]
        refine ih (i + 1) f (by omega) (by omega) (by omega) ?_
        rw [List.take_succ_eq_append_getElem hlt]
        intro q hq
        rcases List.mem_append.1 hq with hq | hq
        · exact e q hq
        · rw [List.mem_singleton.1 hq]
          have : ¬ (((m.proof[i]).size : Int) ≠ 32) := c
          omega
  exact loop m.proof.length 0 F (by omega) (by omega) (by omega) (by simp)
theorem refText_spec (hF : 20 ≤ F) {s : ByteArray} (hs : s.size ≤ 1000000000) {K : ByteArray → SH → Prop} (k : K (ofL (textL (bs s))) H) : ladingref01_Text.wp F s H K := by
  have h8 : s.size < 128 ^ (7 + 1) := Nat.lt_of_le_of_lt hs (by decide)
  have hl := shortL_len_le 7 s.size h8
  refine refShort_spec 7 h8 (by omega) (by omega) (by omega) ⟨by rw [ofL_size]; omega, H, .refl H, ?_⟩
  have e : ofL (shortL s.size) ++ s = ofL (textL (bs s)) := by
    apply bs_inj
    rw [bs_append, bs_ofL, bs_ofL]
    unfold textL
    rw [bs_len]
  rw [e]; exact k
theorem refPut_spec (hF : 70000 ≤ F) (hi : MIn H m l) (hm : m.may = true) {K : ByteArray → SH → Prop} (k : K (ofL (sealL m.bytes)) H) : ladingref18_Put.wp F m.kind m.ver m.i m.text l H K := by
  obtain ⟨h1, h2, h3, h4, h5, h6, h7⟩ := may_bounds hm
  have hk := may_kind hm
  have hbl := bytes_len hm
  refine fun b hb => ?_
  have hh : (H.upd b (pcell m l)) b = some (pcell m l) := SH.upd_same _ _ _
  have hle := le_upd (o := pcell m l) hb
  have hlen := hi.len
  have hr := hi.row.le hle
  obtain ⟨v, hv⟩ := Int.eq_ofNat_of_zero_le h1
  obtain ⟨i, hiv⟩ := Int.eq_ofNat_of_zero_le h2
  obtain ⟨q, hq⟩ := Int.eq_ofNat_of_zero_le (show 0 ≤ m.kind by omega)
  have sm : ∀ x : Nat, x ≤ 1099511627776 → x < 128 ^ (7 + 1) := fun x hx => Nat.lt_of_le_of_lt hx (by decide)
  have hbs : ∀ (x y : ByteArray), (x ++ y).size = x.size + y.size := fun x y => ByteArray.size_append
  have et : ∀ (ts : List ByteArray), textsL (ts.map bs) = ts.flatMap fun t => textL (bs t) := fun ts => by unfold textsL; rw [List.flatMap_map]
  have pre : ∀ j, j ≤ m.proof.length → (ofL (UInt8.ofNat q :: (shortL v ++ shortL i ++ textL (bs m.text) ++ shortL m.proof.length ++ textsL ((m.proof.take j).map bs)))).size ≤ 6000 := fun j hj => by
    have : m.bytes.length = (UInt8.ofNat q :: (shortL v ++ shortL i ++ textL (bs m.text) ++ shortL m.proof.length ++ textsL ((m.proof.take j).map bs))).length + (textsL ((m.proof.drop j).map bs)).length := by
      unfold MM.bytes
      rw [hv, hiv, hq]
      have e : textsL (m.proof.map bs) = textsL ((m.proof.take j).map bs) ++ textsL ((m.proof.drop j).map bs) := by
        rw [← textsL_append, ← List.map_append, List.take_append_drop]
      simp only [Int.toNat_natCast, List.length_cons, List.length_append, e]
      omega
    rw [ofL_size]; omega
  have p0 := pre 0 (by omega)
  have e0 : ofL [UInt8.ofNat q] ++ ofL (shortL v) ++ ofL (shortL i) ++ ofL (textL (bs m.text)) ++ ofL (shortL m.proof.length) = ofL (UInt8.ofNat q :: (shortL v ++ shortL i ++ textL (bs m.text) ++ shortL m.proof.length ++ textsL ((m.proof.take 0).map bs))) := by
    rw [ofL_append, ofL_append, ofL_append, ofL_append]
    simp [textsL]
  have p1 := p0
  rw [← e0] at p1
  simp only [hbs] at p1
  have sh : ∀ (y : Int) (x : Nat), y = (x : Int) → x ≤ 1099511627776 → ladingref01_Short.wp F y (H.upd b (pcell m l)) (fun s16' H' => s16' = ofL (shortL x) ∧ SH.le (H.upd b (pcell m l)) H') := fun y x hy hx => by
    subst hy
    exact refShort_spec (F := F) 7 (sm x hx) (by omega) (by omega) (by omega) ⟨rfl, .refl _⟩
  refine ⟨m.kind, ⟨_, hh, rfl⟩, [UInt8.ofNat q], ?_, m.ver, ⟨_, hh, rfl⟩, ofL (shortL v), sh m.ver v hv (by omega), ?_, m.i, ⟨_, hh, rfl⟩, ofL (shortL i), sh m.i i hiv (by omega), ?_, m.text, ⟨_, hh, rfl⟩, ofL (textL (bs m.text)), refText_spec (by omega) (by omega) ⟨rfl, .refl _⟩, ?_, l, ⟨_, hh, rfl⟩, ofL (shortL m.proof.length), sh _ m.proof.length (by omega) (by omega), ?_, ?_⟩
  · rw [hq, u8_id (by omega), u8cell (by omega)]; rfl
  · show (ofL [UInt8.ofNat q]).size + _ ≤ _; omega
  · show (ofL [UInt8.ofNat q] ++ _).size + _ ≤ _; rw [hbs]; omega
  · show (ofL [UInt8.ofNat q] ++ _ ++ _).size + _ ≤ _; simp only [hbs]; omega
  · show (ofL [UInt8.ofNat q] ++ _ ++ _ ++ _).size + _ ≤ _; simp only [hbs]; omega
  have e1 : (((((⟨[UInt8.ofNat q].toArray⟩ : ByteArray) ++ ofL (shortL v)) ++ ofL (shortL i)) ++ ofL (textL (bs m.text))) ++ ofL (shortL m.proof.length)) = ofL (UInt8.ofNat q :: (shortL v ++ shortL i ++ textL (bs m.text) ++ shortL m.proof.length ++ textsL ((m.proof.take 0).map bs))) := e0
  rw [e1]
  have loop : ∀ (j n f : Nat), m.proof.length - n = j → n ≤ m.proof.length → j < f → ladingref18_Put.l1 F K f b (ofL (UInt8.ofNat q :: (shortL v ++ shortL i ++ textL (bs m.text) ++ shortL m.proof.length ++ textsL ((m.proof.take n).map bs)))) (n : Int) (H.upd b (pcell m l)) := by
    intro j
    induction j with
    | zero =>
      intro n f hj hn hf
      obtain ⟨f, rfl⟩ : ∃ i, f = i + 1 := ⟨f - 1, by omega⟩
      have := pre n hn
      refine ⟨l, ⟨_, hh, rfl⟩, br_f (by omega) (refSeal_spec (by omega) (by omega) (by omega) ⟨H, hle, ?_⟩)⟩
      rw [bs_ofL, List.take_of_length_le (by omega)]
      have : m.bytes = UInt8.ofNat q :: (shortL v ++ shortL i ++ textL (bs m.text) ++ shortL m.proof.length ++ textsL (m.proof.map bs)) := by
        unfold MM.bytes; rw [hv, hiv, hq]; rfl
      rw [← this]; exact k
    | succ j ih =>
      intro n f hj hn hf
      obtain ⟨f, rfl⟩ : ∃ i, f = i + 1 := ⟨f - 1, by omega⟩
      have hlt : n < m.proof.length := by omega
      have hp1 := pre (n + 1) (by omega)
      have e : ofL (UInt8.ofNat q :: (shortL v ++ shortL i ++ textL (bs m.text) ++ shortL m.proof.length ++ textsL ((m.proof.take n).map bs))) ++ ofL (textL (bs m.proof[n])) = ofL (UInt8.ofNat q :: (shortL v ++ shortL i ++ textL (bs m.text) ++ shortL m.proof.length ++ textsL ((m.proof.take (n + 1)).map bs))) := by
        rw [ofL_append, List.take_succ_eq_append_getElem hlt, List.map_append, textsL_append]
        simp [textsL]
      refine ⟨l, ⟨_, hh, rfl⟩, br_t (by omega) ⟨l, ⟨_, hh, rfl⟩, row_at hr (strc_get hlt) (by omega) fun p hp hq => ⟨m.proof[n], hq, refText_spec (by omega) (by rw [h7 _ (List.getElem_mem hlt)]; omega) ⟨?_, ?_⟩⟩⟩⟩
      · rw [← hbs, e]; omega
      · rw [e, w64_id (by omega), show (n : Int) + 1 = ((n + 1 : Nat) : Int) by omega]
        exact ih (n + 1) f (by omega) (by omega) (by omega)
  exact loop m.proof.length 0 F (by omega) (by omega) (by omega)
end
end Go.Proofs.YtkfbmoekghbgbaaDoor.K
