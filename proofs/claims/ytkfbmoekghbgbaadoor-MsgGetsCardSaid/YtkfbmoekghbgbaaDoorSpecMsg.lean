/- What the functions of package msg come to: what may be, and its bytes. -/
import Derived.Test.YtkfbmoekghbgbaaDoorSpecText
import Derived.Test.YtkfbmoekghbgbaaDoorLawFrame
import Derived.Test.YtkfbmoekghbgbaaDoorGmsg
import Derived.Test.YtkfbmoekghbgbaaDoorGladingref09
import Derived.Test.YtkfbmoekghbgbaaDoorGladinglaw18
set_option linter.unusedVariables false
set_option linter.unusedSimpArgs false
namespace Go.Proofs.YtkfbmoekghbgbaaDoor.K
open Go

abbrev STR : TypeId := 9
abbrev MSGT : TypeId := 53
def strc (l : List ByteArray) : List Value := l.map fun s => .string s
theorem strc_len (l : List ByteArray) : (strc l).length = l.length := by simp [strc]
theorem strc_get {l : List ByteArray} {i : Nat} (h : i < l.length) : (strc l)[i]? = some (.string l[i]) := by simp [strc, h]
structure MM where
  kind : Int
  ver : Int
  i : Int
  text : ByteArray
  proof : List ByteArray
def partsB (k : Int) (V I T P L : Bool) : Bool :=
  if k = 1 then !V && !I && !P
  else if k = 3 then V && L
  else if k = 2 ∨ k = 4 then V && !T && !P
  else if k = 10 then !T && !P
  else if k = 5 ∨ k = 6 ∨ k = 7 ∨ k = 8 ∨ k = 9 then V && !I && !T && !P
  else if k = 11 then !I && !T && !P
  else false
def MM.parts (m : MM) : Bool := partsB m.kind (m.ver != 0) (m.i != 0) (!decide (m.text = ByteArray.empty)) (decide ((m.proof.length : Int) > 0)) (decide ((m.text.size : Int) ≤ 64))
def MM.may (m : MM) : Bool := decide (0 ≤ m.ver ∧ 0 ≤ m.i ∧ m.ver ≤ 1099511627776 ∧ m.i ≤ 1099511627776 ∧ m.text.size ≤ 5000 ∧ m.proof.length ≤ 20 ∧ ∀ p ∈ m.proof, p.size = 32) && m.parts
def MM.bytes (m : MM) : List UInt8 := UInt8.ofNat m.kind.toNat :: (shortL m.ver.toNat ++ shortL m.i.toNat ++ textL (bs m.text) ++ shortL m.proof.length ++ textsL (m.proof.map bs))
/-- A message in its parts: the slice of its proof lies in memory. -/
structure MIn (H : SH) (m : MM) (l : Sl) : Prop where
  len : l.len = m.proof.length
  row : H.row l.a (strc m.proof)
theorem MIn.le {H H' : SH} {m : MM} {l : Sl} (h : MIn H m l) (hle : SH.le H H') : MIn H' m l := ⟨h.len, h.row.le hle⟩
def mcell (m : MM) (l : Sl) : AO := ⟨[.int .i64 m.kind, .int .i64 m.ver, .int .i64 m.i, .string m.text, sv l], MSGT, false, 5⟩
theorem rowN {H : SH} {b : Nat} {o : AO} {n : Nat} {cs : List Value} (h : H b = some o) (hc : ∀ j u, cs[j]? = some u → o.cells[n + j]? = some u) : H.row (some (b, n)) cs := .inr ⟨(b, n), o, rfl, h, hc⟩
theorem mrow {H : SH} {b : Nat} {m : MM} {l : Sl} (h : H b = some (mcell m l)) : H.row (some (b, 0)) [.int .i64 m.kind, .int .i64 m.ver, .int .i64 m.i, .string m.text, sv l] := rowN h fun j u hu => by rw [Nat.zero_add]; exact hu
section
variable {F : Nat} {H : SH} {m : MM} {l : Sl}
theorem parts_spec (hl : l.len = m.proof.length) {K : Bool → SH → Prop} (k : K m.parts H) : msg_Msg_parts.wp F m.kind m.ver m.i m.text l H K := by
  refine fun b hb => ?_
  have hh : (H.upd b (mcell m l)) b = some (mcell m l) := SH.upd_same _ _ _
  have fin : ∀ q, q = m.parts → ∃ Hr, SH.le Hr (H.upd b (mcell m l)) ∧ K q Hr := fun q e => ⟨H, le_upd hb, by rw [e]; exact k⟩
  have hp : partsB m.kind (m.ver != 0) (m.i != 0) (!decide (m.text = ByteArray.empty)) (decide ((l.len : Int) > 0)) (decide ((m.text.size : Int) ≤ 64)) = m.parts := by unfold MM.parts; rw [hl]
  have j3 : ∀ (V I T P L q : Bool), m.kind ≠ 1 → m.kind ≠ 3 → q = decide (m.kind = 2 ∨ m.kind = 4) → partsB m.kind V I T P L = m.parts → msg_Msg_parts.j3 F K V I T P m.kind q (H.upd b (mcell m l)) := fun V I T P L q c1 c3 hq hp => by
    rw [← hp] at fin
    have j1 : partsB m.kind V I T P L = (!I && !T && !P) → msg_Msg_parts.j2 F K I T P (H.upd b (mcell m l)) := fun e => by
      rw [e] at fin
      refine ⟨fun c => fin _ ?_, fun c => ⟨fun d => fin _ ?_, fun d => fin _ ?_⟩⟩
      · simp [c]
      · simp [c, d]
      · simp [c, d]
    have j4 : ∀ q, (q = decide (m.kind = 5 ∨ m.kind = 6 ∨ m.kind = 7 ∨ m.kind = 8 ∨ m.kind = 9)) → m.kind ≠ 10 → ¬ (m.kind = 2 ∨ m.kind = 4) → msg_Msg_parts.j4 F K V I T P m.kind q (H.upd b (mcell m l)) := fun q hq n10 n24 => by
      subst hq
      refine ⟨fun e2 => ?_, fun e2 => ?_⟩
      · have e3 := of_decide_eq_true e2
        refine ⟨fun c => j1 ?_, fun c => fin _ ?_⟩
        · unfold partsB; rw [if_neg c1, if_neg c3, if_neg n24, if_neg n10, if_pos e3, c]; simp
        · unfold partsB; rw [if_neg c1, if_neg c3, if_neg n24, if_neg n10, if_pos e3]; simp [c]
      · have e3 : ¬ (m.kind = 5 ∨ m.kind = 6 ∨ m.kind = 7 ∨ m.kind = 8 ∨ m.kind = 9) := fun h => e2 (decide_eq_true h)
        refine ⟨fun c => j1 ?_, fun c => fin _ ?_⟩
        · unfold partsB; rw [if_neg c1, if_neg c3, if_neg n24, if_neg n10, if_neg e3, if_pos c]
        · unfold partsB; rw [if_neg c1, if_neg c3, if_neg n24, if_neg n10, if_neg e3, if_neg c]
    subst hq
    refine ⟨fun e => ?_, fun e => ?_⟩
    · have e' := of_decide_eq_true e
      refine ⟨fun c => ⟨fun d => fin _ ?_, fun d => fin _ ?_⟩, fun c => fin _ ?_⟩
      · unfold partsB; rw [if_neg c1, if_neg c3, if_pos e']; simp [c, d]
      · unfold partsB; rw [if_neg c1, if_neg c3, if_pos e']; simp [c, d]
      · unfold partsB; rw [if_neg c1, if_neg c3, if_pos e']; simp [c]
    · have e' : ¬ (m.kind = 2 ∨ m.kind = 4) := fun h => e (decide_eq_true h)
      refine ⟨fun c10 => ⟨fun d => fin _ ?_, fun d => fin _ ?_⟩, fun c10 => ⟨fun c => j4 _ (by simp [c]) c10 e', fun c5 => ⟨fun c => j4 _ (by simp [c]) c10 e', fun c6 => ⟨fun c => j4 _ (by simp [c]) c10 e', fun c7 => ⟨fun c => j4 _ (by simp [c]) c10 e', fun c8 => j4 _ (by rw [Bool.eq_iff_iff]; simp [c5, c6, c7, c8]) c10 e'⟩⟩⟩⟩⟩
      · unfold partsB; rw [if_neg c1, if_neg c3, if_neg e', if_pos c10]; simp [d]
      · unfold partsB; rw [if_neg c1, if_neg c3, if_neg e', if_pos c10]; simp [d]
  refine ⟨m.ver, ⟨_, hh, rfl⟩, m.i, ⟨_, hh, rfl⟩, m.text, ⟨_, hh, rfl⟩, l, ⟨_, hh, rfl⟩, m.kind, ⟨_, hh, rfl⟩, fun c1 => ⟨fun c => fin _ ?_, fun c => ⟨fun d => fin _ ?_, fun d => fin _ ?_⟩⟩, fun c1 => ⟨fun c3 => ⟨fun c => ⟨m.text, ⟨_, hh, rfl⟩, fin _ ?_⟩, fun c => fin _ ?_⟩, fun c3 => ⟨fun c2 => j3 _ _ _ _ _ _ c1 c3 (by rw [Bool.eq_iff_iff]; simp [c2]) hp, fun c2 => j3 _ _ _ _ _ _ c1 c3 (by rw [Bool.eq_iff_iff]; simp [c2]) hp⟩⟩⟩
  · rw [← hp]; unfold partsB; rw [if_pos c1]; simp [c]
  · rw [← hp]; unfold partsB; rw [if_pos c1]; simp [d]
  · rw [← hp]; unfold partsB; rw [if_pos c1]
    simp only [Decidable.not_not] at c d
    simp [c, d]
  · rw [← hp]; unfold partsB; rw [if_neg c1, if_pos c3]; simp [c]
  · rw [← hp]; unfold partsB; rw [if_neg c1, if_pos c3]; simp at c; simp [c]
theorem ContainsD_spec {ss : List ByteArray} (hl : l.len = ss.length) (hr : H.row l.a (strc ss)) (hm : ss.length ≤ 1000000) (hF : ss.length < F) {K : Bool → SH → Prop} (k : K (ss.any fun s => decide (s.size ≠ 32)) H) : slices_ContainsFunc_string_string__msg_digest.wp F l H K := by
  have loop : ∀ (j i f : Nat), ss.length - i = j → i ≤ ss.length → j < f → (ss.take i).any (fun s => decide (s.size ≠ 32)) = false → slices_IndexFunc_string_string__msg_digest.l1 F (fun x3 H4 => ∃ Hr, SH.le Hr H4 ∧ K (decide (x3 ≥ 0)) Hr) f l (ss.length : Int) (i : Int) H := by
    intro j
    induction j with
    | zero =>
      intro i f hj hi hf e
      obtain ⟨f, rfl⟩ : ∃ i, f = i + 1 := ⟨f - 1, by omega⟩
      rw [List.take_of_length_le (by omega)] at e
      refine br_f (by omega) ⟨H, .refl H, H, .refl H, ?_⟩
      rw [e] at k
      rw [decide_eq_false (by omega)]; exact k
    | succ j ih =>
      intro i f hj hi hf e
      obtain ⟨f, rfl⟩ : ∃ i, f = i + 1 := ⟨f - 1, by omega⟩
      have hlt : i < ss.length := by omega
      refine br_t (by omega) (row_at hr (strc_get hlt) (by omega) fun p hp hh => ⟨ss[i], hh, ⟨H, .refl H, ?_⟩⟩)
      refine ⟨fun c => ⟨H, .refl H, H, .refl H, ?_⟩, fun c => ?_⟩
      · have hne : decide ((ss[i]).size ≠ 32) = true := by
          have : ¬ ((ss[i]).size : Int) = 32 := by simpa using c
          exact decide_eq_true (by omega)
        have : (ss.any fun s => decide (s.size ≠ 32)) = true := List.any_eq_true.2 ⟨ss[i], List.getElem_mem hlt, hne⟩
        rw [this] at k
        rw [decide_eq_true (by omega)]; exact k
      · rw [w64_id (by omega), show (i : Int) + 1 = ((i + 1 : Nat) : Int) by omega]
        refine ih (i + 1) f (by omega) (by omega) (by omega) ?_
        rw [List.take_succ_eq_append_getElem hlt, List.any_append, e]
        have : ((ss[i]).size : Int) = 32 := by simpa using c
        simp; omega
  unfold slices_ContainsFunc_string_string__msg_digest.wp slices_IndexFunc_string_string__msg_digest.wp
  rw [hl]
  exact loop ss.length 0 F (by omega) (by omega) hF rfl
theorem Check_spec (hF : 100 ≤ F) (hp : m.proof.length ≤ 1000000) (hi : MIn H m l) {K : Option EV → SH → Prop} (k : K (if m.may then none else some (.no 4)) H) : msg_Check.wp F m.kind m.ver m.i m.text l H K := by
  refine fun b hb => ?_
  have hh : (H.upd b (mcell m l)) b = some (mcell m l) := SH.upd_same _ _ _
  have bad : m.may = false → ∃ Hr, SH.le Hr (H.upd b (mcell m l)) ∧ K (some (.no 4)) Hr := fun e => ⟨H, le_upd hb, by rw [e] at k; exact k⟩
  have hmin : ∀ x y : Int, imin x y < 0 ↔ ¬ (0 ≤ x ∧ 0 ≤ y) := fun x y => by unfold imin; split <;> omega
  have hmax : ∀ x y : Int, imax x y > 1099511627776 ↔ ¬ (x ≤ 1099511627776 ∧ y ≤ 1099511627776) := fun x y => by unfold imax; split <;> omega
  have no : ∀ P : Prop, (m.may = true → P) → ¬ P → m.may = false := fun P h1 h2 => by
    cases hq : m.may with
    | true => exact absurd (h1 hq) h2
    | false => rfl
  have yes : m.may = true → (0 ≤ m.ver ∧ 0 ≤ m.i ∧ m.ver ≤ 1099511627776 ∧ m.i ≤ 1099511627776 ∧ m.text.size ≤ 5000 ∧ m.proof.length ≤ 20 ∧ ∀ p ∈ m.proof, p.size = 32) ∧ m.parts = true := fun h => by
    unfold MM.may at h
    rw [Bool.and_eq_true, decide_eq_true_eq] at h
    exact h
  refine ⟨m.ver, ⟨_, hh, rfl⟩, m.i, ⟨_, hh, rfl⟩, fun c => bad (no _ (fun h => (⟨(yes h).1.1, (yes h).1.2.1⟩ : 0 ≤ m.ver ∧ 0 ≤ m.i)) ((hmin _ _).1 c)), fun c1 => ⟨m.ver, ⟨_, hh, rfl⟩, m.i, ⟨_, hh, rfl⟩, fun c => bad (no _ (fun h => (⟨(yes h).1.2.2.1, (yes h).1.2.2.2.1⟩ : m.ver ≤ 1099511627776 ∧ m.i ≤ 1099511627776)) ((hmax _ _).1 c)), fun c2 => ⟨m.text, ⟨_, hh, rfl⟩, fun c => bad (no _ (fun h => (yes h).1.2.2.2.2.1) (by omega)), fun c3 => ⟨l, ⟨_, hh, rfl⟩, fun c => bad (no _ (fun h => (yes h).1.2.2.2.2.2.1) (by have := hi.len; omega)), fun c4 => ⟨l, ⟨_, hh, rfl⟩, ?_⟩⟩⟩⟩⟩
  have h20 : m.proof.length ≤ 20 := by have := hi.len; omega
  refine ContainsD_spec hi.len (hi.row.le (le_upd hb)) hp (by omega) ⟨fun c => bad (no _ (fun h => (yes h).1.2.2.2.2.2.2) ?_), fun c => ⟨m.kind, m.ver, m.i, m.text, l, mrow hh, parts_spec hi.len ⟨fun d => ?_, fun d => bad (no _ (fun h => (yes h).2) d)⟩⟩⟩
  · intro hall
    obtain ⟨p, hp1, hp2⟩ := List.any_eq_true.1 c
    exact (of_decide_eq_true hp2) (hall p hp1)
  · refine ⟨H, le_upd hb, ?_⟩
    have : m.may = true := by
      unfold MM.may
      rw [Bool.and_eq_true, decide_eq_true_eq]
      have a1 : 0 ≤ m.ver ∧ 0 ≤ m.i := Decidable.byContradiction fun hh => c1 ((hmin _ _).2 hh)
      have a2 : m.ver ≤ 1099511627776 ∧ m.i ≤ 1099511627776 := Decidable.byContradiction fun hh => c2 ((hmax _ _).2 hh)
      refine ⟨⟨a1.1, a1.2, a2.1, a2.2, by omega, h20, fun p hp1 => ?_⟩, d⟩
      by_cases hz : p.size = 32
      · exact hz
      · exact absurd (List.any_eq_true.2 ⟨p, hp1, decide_eq_true hz⟩) c
    rw [this] at k; exact k
theorem may_kind (h : m.may = true) : 1 ≤ m.kind ∧ m.kind ≤ 11 := by
  unfold MM.may at h
  rw [Bool.and_eq_true] at h
  have := h.2
  unfold MM.parts partsB at this
  split at this
  · omega
  · split at this
    · omega
    · split at this
      · omega
      · split at this
        · omega
        · split at this
          · omega
          · split at this
            · omega
            · cases this
theorem may_bounds (h : m.may = true) : 0 ≤ m.ver ∧ 0 ≤ m.i ∧ m.ver ≤ 1099511627776 ∧ m.i ≤ 1099511627776 ∧ m.text.size ≤ 5000 ∧ m.proof.length ≤ 20 ∧ ∀ p ∈ m.proof, p.size = 32 := by
  unfold MM.may at h
  rw [Bool.and_eq_true, decide_eq_true_eq] at h
  exact h.1
theorem short_small {x : Nat} (h : x ≤ 1099511627776) : (shortL x).length ≤ 6 := shortL_len_le 5 x (Nat.lt_of_le_of_lt h (by decide))
theorem textsL_le {n : Nat} : ∀ {a : List (List UInt8)}, (∀ s ∈ a, s.length ≤ 5000) → (textsL a).length ≤ a.length * 5006
  | [], _ => by simp [textsL]
  | x :: a, h => by
    have h1 := textsL_le (n := n) (a := a) fun s hs => h s (by simp [hs])
    have h2 := h x (by simp)
    have h3 := short_small (x := x.length) (by omega)
    have e : textsL (x :: a) = shortL x.length ++ x ++ textsL a := by simp [textsL, textL]
    rw [e]
    simp only [List.length_append, List.length_cons]; omega
theorem bytes_len (h : m.may = true) : m.bytes.length ≤ 6000 := by
  obtain ⟨h1, h2, h3, h4, h5, h6, h7⟩ := may_bounds h
  have a1 := short_small (x := m.ver.toNat) (by omega)
  have a2 := short_small (x := m.i.toNat) (by omega)
  have a3 := short_small (x := m.proof.length) (by omega)
  have a4 := short_small (x := (bs m.text).length) (by rw [bs_len]; omega)
  have a5 : (textsL (m.proof.map bs)).length ≤ m.proof.length * 38 := by
    have : ∀ l : List ByteArray, (∀ p ∈ l, p.size = 32) → (textsL (l.map bs)).length ≤ l.length * 38 := by
      intro l
      induction l with
      | nil => intro _; simp [textsL]
      | cons p l ih =>
        intro hp
        have b1 := ih fun q hq => hp q (by simp [hq])
        have b2 := hp p (by simp)
        have b3 := short_small (x := (bs p).length) (by rw [bs_len]; omega)
        have e : textsL ((p :: l).map bs) = shortL (bs p).length ++ bs p ++ textsL (l.map bs) := by simp [textsL, textL]
        rw [e]
        simp only [List.length_append, List.length_cons, bs_len] at *; omega
    exact this _ h7
  unfold MM.bytes textL
  simp only [List.length_cons, List.length_append, bs_len] at *; omega
theorem MPut_bad (hF : 100 ≤ F) (hp : m.proof.length ≤ 1000000) (hi : MIn H m l) (hm : m.may = false) {K : ByteArray → Option EV → SH → Prop} (k : K ByteArray.empty (some (.no 4)) H) : msg_Put.wp F m.kind m.ver m.i m.text l H K := by
  refine fun b hb => ?_
  have hh : (H.upd b (mcell m l)) b = some (mcell m l) := SH.upd_same _ _ _
  refine ⟨m.kind, m.ver, m.i, m.text, l, mrow hh, Check_spec hF hp (hi.le (le_upd hb)) ?_⟩
  rw [hm]
  exact o_some ⟨H, le_upd hb, k⟩
theorem MPut_spec (hF : 70000 ≤ F) (hi : MIn H m l) (hm : m.may = true) {K : ByteArray → Option EV → SH → Prop} (k : K (ofL (sealL m.bytes)) none H) : msg_Put.wp F m.kind m.ver m.i m.text l H K := by
  obtain ⟨h1, h2, h3, h4, h5, h6, h7⟩ := may_bounds hm
  have hk := may_kind hm
  have hbl := bytes_len hm
  refine fun b hb => ?_
  have hh : (H.upd b (mcell m l)) b = some (mcell m l) := SH.upd_same _ _ _
  have hle := le_upd (o := mcell m l) hb
  have hi' := hi.le hle
  refine ⟨m.kind, m.ver, m.i, m.text, l, mrow hh, Check_spec (by omega) (by omega) hi' ?_⟩
  rw [hm]
  obtain ⟨v, hv⟩ := Int.eq_ofNat_of_zero_le h1
  obtain ⟨i, hiv⟩ := Int.eq_ofNat_of_zero_le h2
  have s1 : (ofL (shortL v)).size = (shortL v).length := ofL_size _
  have s2 : (ofL (shortL i)).size = (shortL i).length := ofL_size _
  have a1 := short_small (x := v) (by omega)
  have a2 := short_small (x := i) (by omega)
  have a3 := short_small (x := m.proof.length) (by omega)
  have hlen := hi.len
  have et : textsL ([m.text].map bs) = textL (bs m.text) := by simp [textsL]
  have eb : ofL [UInt8.ofNat m.kind.toNat] ++ ofL (shortL v) ++ ofL (shortL i) ++ ofL (textL (bs m.text)) ++ ofL (shortL m.proof.length) ++ ofL (textsL (m.proof.map bs)) = ofL m.bytes := by
    rw [ofL_append, ofL_append, ofL_append, ofL_append, ofL_append]
    unfold MM.bytes
    rw [hv, hiv]
    simp
  have hbs : ∀ (x y : ByteArray), (x ++ y).size = x.size + y.size := fun x y => ByteArray.size_append
  have hall : (ofL [UInt8.ofNat m.kind.toNat] ++ ofL (shortL v) ++ ofL (shortL i) ++ ofL (textL (bs m.text)) ++ ofL (shortL m.proof.length) ++ ofL (textsL (m.proof.map bs))).size ≤ 6000 := by rw [eb, ofL_size]; exact hbl
  simp only [hbs] at hall
  refine o_none ⟨m.ver, ⟨_, hh, rfl⟩, ?_⟩
  rw [hv]
  refine PutShort_spec (by omega) (by omega) ⟨m.i, ⟨_, hh, rfl⟩, ?_⟩
  rw [hiv]
  refine PutShort_spec (by omega) (by omega) ⟨l, ⟨_, hh, rfl⟩, ?_⟩
  rw [hlen]
  refine PutShort_spec (by omega) (by omega) ⟨m.kind, ⟨_, hh, rfl⟩, [UInt8.ofNat m.kind.toNat], ?_, ?_, ?_, m.text, ⟨_, hh, rfl⟩, ofL (textL (bs m.text)), fun b2 hb2 => ?_, ?_, ?_, l, ⟨_, hh, rfl⟩, ofL (textsL (m.proof.map bs)), ?_, ?_, ofL (sealL m.bytes), none, ?_, H, hle, k⟩
  · rw [u8_id (by omega)]
    obtain ⟨q, hq⟩ := Int.eq_ofNat_of_zero_le (show 0 ≤ m.kind by omega)
    rw [hq]
    have := u8cell (x := q) (by omega)
    simp only [byteCells, List.map_cons, List.map_nil, Int.toNat_natCast]
    rw [this]
  · show (ofL [UInt8.ofNat m.kind.toNat]).size + _ ≤ _; omega
  · show (ofL [UInt8.ofNat m.kind.toNat] ++ _).size + _ ≤ _; rw [hbs]; omega
  · refine PutText_spec (ss := [m.text]) (by omega) rfl (row_upd rfl) (by simp) (by simp; omega) (fun s hs => by rw [List.mem_singleton.1 hs]; omega) ⟨?_, .refl _⟩
    rw [et]
  · show (ofL [UInt8.ofNat m.kind.toNat] ++ _ ++ _).size + _ ≤ _; simp only [hbs]; omega
  · show (ofL [UInt8.ofNat m.kind.toNat] ++ _ ++ _ ++ _).size + _ ≤ _; simp only [hbs]; omega
  · exact PutText_spec (by omega) hlen hi'.row (by omega) (by omega) (fun s hs => by rw [h7 s hs]; omega) ⟨rfl, .refl _⟩
  · show (ofL [UInt8.ofNat m.kind.toNat] ++ _ ++ _ ++ _ ++ _).size + _ ≤ _; simp only [hbs]; omega
  · have : (((((⟨[UInt8.ofNat m.kind.toNat].toArray⟩ : ByteArray) ++ ofL (shortL v)) ++ ofL (shortL i)) ++ ofL (textL (bs m.text))) ++ ofL (shortL m.proof.length)) ++ ofL (textsL (m.proof.map bs)) = ofL m.bytes := eb
    rw [this]
    refine Seal_spec (by omega) (by rw [ofL_size]; omega) (by rw [ofL_size]; omega) ⟨?_, rfl, .refl _⟩
    rw [bs_ofL]
/-- A message's bytes tell it. -/
theorem bytes_inj {m' : MM} (h : m.may = true) (h' : m'.may = true) (e : m.bytes = m'.bytes) : m = m' := by
  obtain ⟨a1, a2, a3, a4, a5, a6, a7⟩ := may_bounds h
  obtain ⟨b1, b2, b3, b4, b5, b6, b7⟩ := may_bounds h'
  have k1 := may_kind h
  have k2 := may_kind h'
  unfold MM.bytes at e
  rw [List.cons.injEq] at e
  obtain ⟨e0, e⟩ := e
  have hkind : m.kind = m'.kind := by
    have := congrArg UInt8.toNat e0
    rw [UInt8.toNat_ofNat_of_lt' (by show _ < 256; omega), UInt8.toNat_ofNat_of_lt' (by show _ < 256; omega)] at this
    omega
  simp only [List.append_assoc] at e
  obtain ⟨e1, e⟩ := shortL_inj (by omega) (by omega) e
  obtain ⟨e2, e⟩ := shortL_inj (by omega) (by omega) e
  obtain ⟨e3, e⟩ := textL_inj (by rw [bs_len]; omega) (by rw [bs_len]; omega) e
  obtain ⟨e4, e⟩ := shortL_inj (by omega) (by omega) e
  have sz : ∀ (l : List ByteArray), (∀ p ∈ l, p.size = 32) → ∀ s ∈ l.map bs, s.length ≤ 72057594037927935 := fun l hl s hs => by
    obtain ⟨p, hp, rfl⟩ := List.mem_map.1 hs
    rw [bs_len, hl p hp]; omega
  have e5 := textsL_inj (sz _ a7) (sz _ b7) (by simpa using e4) e
  have e6 : m.proof = m'.proof := by
    have : ∀ l : List ByteArray, (l.map bs).map ofL = l := fun l => by
      rw [List.map_map]
      have : (ofL ∘ bs) = id := by funext s; exact ofL_bs s
      rw [this, List.map_id]
    rw [← this m.proof, e5, this]
  have ev : m.ver = m'.ver := by omega
  have ei : m.i = m'.i := by omega
  have ex := bs_inj e3
  cases m; cases m'
  simp only [MM.mk.injEq]
  exact ⟨hkind, ev, ei, ex, e6⟩
/-! ### two messages -/
theorem EqS_spec {l l' : Sl} {ss tt : List ByteArray} (hl : l.len = ss.length) (hl' : l'.len = tt.length) (hr : H.row l.a (strc ss)) (hr' : H.row l'.a (strc tt)) (hm : ss.length ≤ 1000000000000) (hF : ss.length < F) {K : Bool → SH → Prop} (k : K (decide (ss = tt)) H) :
    slices_Equal_string_string.wp F l l' H K ∧ ladingref09_Same.wp F l l' H K := by
  by_cases c : ss.length = tt.length
  · have loop : ∀ (j i f : Nat), ss.length - i = j → i ≤ ss.length → j < f → ss.take i = tt.take i → slices_Equal_string_string.l1 F K f l l' (ss.length : Int) (i : Int) H ∧ ladingref09_Same.l1 F K f l l' (i : Int) H := by
      intro j
      induction j with
      | zero =>
        intro i f hj hi hf e
        obtain ⟨f, rfl⟩ : ∃ i, f = i + 1 := ⟨f - 1, by omega⟩
        rw [List.take_of_length_le (by omega), List.take_of_length_le (by omega)] at e
        rw [decide_eq_true e] at k
        exact ⟨br_f (by omega) ⟨H, .refl H, k⟩, br_f (by omega) ⟨H, .refl H, k⟩⟩
      | succ j ih =>
        intro i f hj hi hf e
        obtain ⟨f, rfl⟩ : ∃ i, f = i + 1 := ⟨f - 1, by omega⟩
        have h1 : i < ss.length := by omega
        have h2 : i < tt.length := by omega
        have nx : ss[i] = tt[i] → slices_Equal_string_string.l1 F K f l l' (ss.length : Int) (w64 ((i : Int) + 1)) H ∧ ladingref09_Same.l1 F K f l l' (w64 ((i : Int) + 1)) H := fun c => by
          rw [w64_id (by omega), show (i : Int) + 1 = ((i + 1 : Nat) : Int) by omega]
          refine ih (i + 1) f (by omega) (by omega) (by omega) ?_
          rw [List.take_succ_eq_append_getElem h1, List.take_succ_eq_append_getElem h2, e, c]
        have ny : ¬ ss[i] = tt[i] → ∃ Hr, SH.le Hr H ∧ K false Hr := fun c => ⟨H, .refl H, by
          rw [decide_eq_false (fun h => c (by subst h; rfl))] at k; exact k⟩
        exact ⟨br_t (by omega) (row_at hr (strc_get h1) (by omega) fun p hp hh => ⟨ss[i], hh, row_at hr' (strc_get h2) (by omega) fun p' hp' hh' => ⟨tt[i], hh', fun c => (nx c).1, ny⟩⟩),
          br_t (by omega) (row_at hr (strc_get h1) (by omega) fun p hp hh => ⟨ss[i], hh, row_at hr' (strc_get h2) (by omega) fun p' hp' hh' => ⟨tt[i], hh', fun c => (nx c).2, ny⟩⟩)⟩
    have := loop ss.length 0 F (by omega) (by omega) hF rfl
    refine ⟨br_f (by omega) ?_, br_f (by omega) this.2⟩
    rw [hl]; exact this.1
  · rw [decide_eq_false (fun h => c (by rw [h]))] at k
    exact ⟨br_t (by omega) ⟨H, .refl H, k⟩, br_t (by omega) ⟨H, .refl H, k⟩⟩
theorem MSame_spec {m' : MM} {l' : Sl} (hF : 1000 ≤ F) (h : MIn H m l) (h' : MIn H m' l') (hp : m.proof.length ≤ 100) {K : Bool → SH → Prop} (k : ∀ q, (q = true ↔ m = m') → K q H) :
    msg_Same.wp F m.kind m.ver m.i m.text l m'.kind m'.ver m'.i m'.text l' H K ∧ ladinglaw18_same.wp F m.kind m.ver m.i m.text l m'.kind m'.ver m'.i m'.text l' H K := by
  have key : ∀ b11, H b11 = none → ∀ b13, (H.upd b11 (mcell m l)) b13 = none → ∃ HH, HH = ((H.upd b11 (mcell m l)).upd b13 (mcell m' l')) ∧ SH.le H HH ∧ HH b11 = some (mcell m l) ∧ HH b13 = some (mcell m' l') := fun b11 h1 b13 h2 => by
    have hne : b11 ≠ b13 := by rintro rfl; rw [SH.upd_same] at h2; cases h2
    exact ⟨_, rfl, (le_upd h1).trans (le_upd h2), by rw [SH.upd_ne _ _ hne, SH.upd_same], SH.upd_same _ _ _⟩
  have no : ∀ HH, SH.le H HH → m ≠ m' → ∃ Hr, SH.le Hr HH ∧ K false Hr := fun HH hle hne => ⟨H, hle, k false (by simp [hne])⟩
  have ne1 : ∀ {α : Type} (f : MM → α), ¬ f m = f m' → m ≠ m' := fun f hf e => hf (by rw [e])
  constructor
  · intro b11 h1 b13 h2
    obtain ⟨HH, e, hle, g1, g2⟩ := key b11 h1 b13 h2
    show ∃ x15 : Int, _
    rw [show ((H.upd b11 ⟨[.int .i64 m.kind, .int .i64 m.ver, .int .i64 m.i, .string m.text, sv l], MSGT, false, 5⟩).upd b13 ⟨[.int .i64 m'.kind, .int .i64 m'.ver, .int .i64 m'.i, .string m'.text, sv l'], MSGT, false, 5⟩) = HH from e.symm]
    refine ⟨m.kind, ⟨_, g1, rfl⟩, m'.kind, ⟨_, g2, rfl⟩, fun c0 => ⟨m.ver, ⟨_, g1, rfl⟩, m'.ver, ⟨_, g2, rfl⟩, fun c1 => ⟨m.i, ⟨_, g1, rfl⟩, m'.i, ⟨_, g2, rfl⟩, fun c2 => ⟨m.text, ⟨_, g1, rfl⟩, m'.text, ⟨_, g2, rfl⟩, fun c3 => ⟨l, ⟨_, g1, rfl⟩, l', ⟨_, g2, rfl⟩, (EqS_spec (h.le hle).len (h'.le hle).len (h.le hle).row (h'.le hle).row (by omega) (by omega) ?_).1⟩, fun c => no _ hle (ne1 (·.text) c)⟩, fun c => no _ hle (ne1 (·.i) c)⟩, fun c => no _ hle (ne1 (·.ver) c)⟩, fun c => no _ hle (ne1 (·.kind) c)⟩
    refine ⟨H, hle, k _ ?_⟩
    rw [decide_eq_true_eq]
    exact ⟨fun c4 => by cases m; cases m'; simp_all, fun e => by rw [e]⟩
  · intro b11 h1 b13 h2
    obtain ⟨HH, e, hle, g1, g2⟩ := key b11 h1 b13 h2
    show ∃ x15 : Int, _
    rw [show ((H.upd b11 ⟨[.int .i64 m.kind, .int .i64 m.ver, .int .i64 m.i, .string m.text, sv l], MSGT, false, 5⟩).upd b13 ⟨[.int .i64 m'.kind, .int .i64 m'.ver, .int .i64 m'.i, .string m'.text, sv l'], MSGT, false, 5⟩) = HH from e.symm]
    refine ⟨m.kind, ⟨_, g1, rfl⟩, m'.kind, ⟨_, g2, rfl⟩, fun c0 => ⟨m.ver, ⟨_, g1, rfl⟩, m'.ver, ⟨_, g2, rfl⟩, fun c1 => ⟨m.i, ⟨_, g1, rfl⟩, m'.i, ⟨_, g2, rfl⟩, fun c2 => ⟨m.text, ⟨_, g1, rfl⟩, m'.text, ⟨_, g2, rfl⟩, fun c3 => ⟨l, ⟨_, g1, rfl⟩, l', ⟨_, g2, rfl⟩, (EqS_spec (h.le hle).len (h'.le hle).len (h.le hle).row (h'.le hle).row (by omega) (by omega) ?_).2⟩, fun c => no _ hle (ne1 (·.text) c)⟩, fun c => no _ hle (ne1 (·.i) c)⟩, fun c => no _ hle (ne1 (·.ver) c)⟩, fun c => no _ hle (ne1 (·.kind) c)⟩
    refine ⟨H, hle, k _ ?_⟩
    rw [decide_eq_true_eq]
    exact ⟨fun c4 => by cases m; cases m'; simp_all, fun e => by rw [e]⟩
end
end Go.Proofs.YtkfbmoekghbgbaaDoor.K
