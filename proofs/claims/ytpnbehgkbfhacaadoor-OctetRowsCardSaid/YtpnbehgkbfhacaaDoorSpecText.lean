/- strings.Builder, and texts one behind the other. -/
import Derived.Test.YtpnbehgkbfhacaaDoorSpecOctet
import Derived.Test.YtpnbehgkbfhacaaDoorLib3
import Derived.Test.YtpnbehgkbfhacaaDoorGstrings
set_option linter.unusedVariables false
set_option linter.unusedSimpArgs false
namespace Go.Proofs.YtpnbehgkbfhacaaDoor.K
open Go

/-! ### a slice that begins its block -/
def Sl0 (E : TypeId) (l : Sl) (cs : List Value) : Pr := fun H fp => cs.length = l.len ∧
  ((l.a = none ∧ l.len = 0 ∧ l.cap = 0 ∧ ∀ b, ¬ fp b) ∨ ∃ b, l.a = some (b, 0) ∧ l.len ≤ l.cap ∧ l.cap ≠ 0 ∧ (∃ sz, H b = some ⟨cs, E, false, sz⟩ ∧ l.cap ≤ sz) ∧ ∀ c, fp c ↔ c = b)
theorem Loc.sl0 {E : TypeId} {l : Sl} {cs : List Value} : Loc (Sl0 E l cs) where
  loc := by
    rintro H H' fp ⟨h0, h⟩ hh
    refine ⟨h0, ?_⟩
    rcases h with h | ⟨b, h1, h2, h6, ⟨sz, h3, h4⟩, h5⟩
    · exact .inl h
    · exact .inr ⟨b, h1, h2, h6, ⟨sz, by rw [hh b ((h5 b).2 rfl)]; exact h3, h4⟩, h5⟩
  in_ := by
    rintro H fp b ⟨h0, h⟩ hb
    rcases h with ⟨_, _, _, h⟩ | ⟨b', h1, h2, h6, ⟨sz, h3, h4⟩, h5⟩
    · exact absurd hb (h b)
    · rw [(h5 b).1 hb, h3]; simp
theorem On.nil0 (E : TypeId) (H : SH) : On (Sl0 E Sl.nil []) H H := ⟨.refl H, fun _ => False, ⟨rfl, .inl ⟨rfl, rfl, rfl, fun _ h => h⟩⟩, fun _ h => h.elim⟩
theorem On.append0 {H0 H : SH} {E : TypeId} {bytes : Nat} {l : Sl} {cs news : List Value} {m : Nat} {K : Sl → SH → Prop} (h : On (Sl0 E l cs) H0 H) (hb : (l.len + m) * bytes ≤ 140737488355328) (h63 : l.len + m ≤ 9223372036854775807) (hn : news.length = m)
    (h1 : ∀ u ∈ news, u.oneCell' = true) (hk : ∀ l' H', On (Sl0 E l' (cs ++ news)) H0 H' → l'.len = l.len + m → K l' H') : AppendQ H E 1 bytes l m news K := by
  obtain ⟨hle, fp, ⟨hlen0, hat⟩, hfp⟩ := h
  have hlen : (cs ++ news).length = l.len + m := by rw [List.length_append, hlen0, hn]
  refine ⟨hb, h63, by omega, h1, fun hc => ⟨fun ha => ?_, fun p hp => ?_⟩, fun hc => ⟨cs, by omega, ?_, fun b cap hbn hcap => ?_⟩⟩
  · rcases hat with ⟨_, h0, h2, _⟩ | ⟨b, ha', _⟩
    · refine hk _ _ ⟨hle, fun _ => False, ⟨hlen, .inl ⟨rfl, ?_, h2, fun _ h => h⟩⟩, fun _ h => h.elim⟩ rfl
      show l.len + m = 0; omega
    · rw [ha'] at ha; cases ha
  · rcases hat with ⟨ha, _⟩ | ⟨b, ha, hlc, hc0, ⟨sz, hH, hsz⟩, hf⟩
    · rw [ha] at hp; cases hp
    · rw [ha] at hp; cases hp
      have hb0 := hfp b ((hf b).2 rfl)
      refine ⟨_, hH, rfl, by simp; omega, by simp; omega, hk _ _ ⟨hle.upd hb0 _, fp, ⟨hlen, .inr ⟨b, rfl, hc, hc0, ⟨sz, ?_, hsz⟩, hf⟩⟩, hfp⟩ rfl⟩
      rw [SH.upd_same]
      have : 0 + l.len * 1 = cs.length := by omega
      simp only [this, wrl_end]
  · rcases hat with ⟨_, h0, _⟩ | ⟨b, ha, _, _, ⟨sz, hH, _⟩, _⟩
    · left; exact List.eq_nil_of_length_eq_zero (by omega)
    · right; exact ⟨(b, 0), _, ha, hH, fun j u hu => by simpa using hu⟩
  · refine hk _ _ ⟨hle.upd (hle.none hbn) _, fun c => c = b, ⟨hlen, .inr ⟨b, rfl, hcap, ?_, ⟨_, SH.upd_same _ _ _, by show cap ≤ cap * 1; omega⟩, fun _ => .rfl⟩⟩, fun c hc => by rw [hc]; exact hle.none hbn⟩ rfl
    show cap ≠ 0; omega

/-! ### the builder -/
def BldI (b : Nat) (t : List UInt8) : Pr := fun H fp => ∃ p S, (p = none ∨ p = some (b, 0)) ∧ Star (Blk b ⟨[pv p, sv S], 91, false, 2⟩) (Sl0 5 S (byteCells t)) H fp
theorem Loc.bld {b : Nat} {t : List UInt8} : Loc (BldI b t) :=
  ⟨fun ⟨p, S, hp, h⟩ hh => ⟨p, S, hp, (Loc.star .blk .sl0).loc h hh⟩, fun ⟨p, S, hp, h⟩ hb => (Loc.star .blk .sl0).in_ h hb⟩
theorem bld_open {b : Nat} {t : List UInt8} {H0 H : SH} (h : On (BldI b t) H0 H) : ∃ p S H1, (p = none ∨ p = some (b, 0)) ∧ On (Blk b ⟨[pv p, sv S], 91, false, 2⟩) H1 H ∧ On (Sl0 5 S (byteCells t)) H0 H1 := by
  obtain ⟨hl, fp, ⟨p, S, hp, hd⟩, hn⟩ := h
  obtain ⟨H1, h1, h2⟩ := On.unstar .blk .sl0 (show On (Star _ _) H0 H from ⟨hl, fp, hd, hn⟩)
  exact ⟨p, S, H1, hp, h1, h2⟩
theorem bld_close {b : Nat} {t : List UInt8} {H0 H1 H : SH} {p : Option (Nat × Nat)} {S : Sl} (hp : p = none ∨ p = some (b, 0)) (h1 : On (Blk b ⟨[pv p, sv S], 91, false, 2⟩) H1 H) (h2 : On (Sl0 5 S (byteCells t)) H0 H1) : On (BldI b t) H0 H := by
  obtain ⟨a, f, h, c⟩ := On.star .blk .sl0 h1 h2
  exact ⟨a, f, ⟨p, S, hp, h⟩, c⟩
section
variable {F : Nat} {b : Nat} {t : List UInt8} {H0 H : SH}
theorem copyCheck_spec (h : On (BldI b t) H0 H) {K : SH → Prop} (k : ∀ H' S H1, On (Blk b ⟨[pv (some (b, 0)), sv S], 91, false, 2⟩) H1 H' → On (Sl0 5 S (byteCells t)) H0 H1 → K H') : strings_Builder_copyCheck.wp F (some (b, 0)) H K := by
  obtain ⟨p, S, H1, hp, h1, h2⟩ := bld_open h
  have hb := (On.blk.1 h1).2.2
  refine p_some ⟨p, h1.has rfl, ?_⟩
  rcases hp with rfl | rfl
  · refine p_none ⟨⟨_, hb, by show 0 < 2; omega⟩, ⟨_, hb, by kernel_rfl⟩, h1.wrs rfl (Nat.le_of_ble_eq_true rfl), _, .refl _, ?_⟩
    exact k _ S H1 (On.setl (k := 0) (vs := [pv (some (b, 0))]) h1) h2
  · exact p_some ⟨some (b, 0), h1.has rfl, p_some ⟨rfl, H, .refl H, k H S H1 h1 h2⟩⟩
theorem WriteString_spec {s : ByteArray} (hs : t.length + s.size ≤ 100000000000) (h : On (BldI b t) H0 H) {K : Int → Option EV → SH → Prop} (k : ∀ H', On (BldI b (t ++ bs s)) H0 H' → K s.size none H') : strings_Builder_WriteString.wp F (some (b, 0)) s H K := by
  refine copyCheck_spec h fun H3 S H1 h1 h2 => p_some ⟨S, h1.has rfl, ?_⟩
  obtain ⟨H4, a1, a2⟩ := On.swap .blk .sl0 h1 h2
  have hl : S.len = t.length := by
    obtain ⟨_, _, ⟨e, _⟩, _⟩ := h2
    rw [byteCells_len] at e; exact e.symm
  refine a1.append0 (by omega) (by omega) (by simp [byteCells]) (byteCells_one _) fun l' H' o hl' => ?_
  rw [show byteCells t ++ byteCells s.data.toList = byteCells (t ++ bs s) from byteCells_append _ _] at o
  obtain ⟨H5, o1, o2⟩ := On.swap .sl0 .blk o a2
  have o3 := On.setl (k := 1) (vs := [sv l']) o1
  exact ⟨o1.wrs rfl (Nat.le_of_ble_eq_true rfl), _, .refl _, k _ (bld_close (.inr rfl) o3 o2)⟩
theorem String_spec (ht : t.length ≤ 100000000000) (h : On (BldI b t) H0 H) {K : ByteArray → SH → Prop} (k : K (ofL t) H0) : strings_Builder_String.wp F (some (b, 0)) H K := by
  obtain ⟨p, S, H1, hp, h1, h2⟩ := bld_open h
  obtain ⟨hle, fp, ⟨hlen, hat⟩, hfp⟩ := h2
  rw [byteCells_len] at hlen
  refine p_some ⟨S, h1.has rfl, ?_, S, h1.has rfl, t, by omega, by omega, ?_, H0, ?_, k⟩
  · intro hne
    rcases hat with ⟨ha, _⟩ | ⟨b', ha, _, hc, _⟩
    · exact absurd ha hne
    · exact hc
  · rcases hat with ⟨ha, h0, _⟩ | ⟨b', ha, hlc, hc, ⟨sz, hb, hsz⟩, _⟩
    · left; exact List.eq_nil_of_length_eq_zero (by omega)
    · right
      exact ⟨b', _, ha, h1.le _ _ hb, rfl, rfl, by show t.length ≤ sz; omega, fun j u hu => hu⟩
  · rcases hat with ⟨ha, h0, _⟩ | ⟨b', ha, hlc, hc, ⟨sz, hb, hsz⟩, hf⟩
    · rw [ha]; exact hle.trans h1.le
    · rw [ha]
      unfold SH.fz
      simp only [h1.le _ _ hb]
      exact (hle.trans h1.le).upd (hfp b' ((hf b').2 rfl)) _
end

/-! ### texts -/
def textL (s : List UInt8) : List UInt8 := shortL s.length ++ s
def textsL (l : List (List UInt8)) : List UInt8 := l.flatMap textL
theorem textsL_append (a b : List (List UInt8)) : textsL (a ++ b) = textsL a ++ textsL b := by simp [textsL]
theorem shortL_len_le : ∀ (m x : Nat), x < 128 ^ (m + 1) → (shortL x).length ≤ m + 1
  | 0, x, h => by rw [shortL_one (by simpa using h)]; simp
  | m + 1, x, h => by
    by_cases hx : x < 128
    · rw [shortL_one hx]; simp
    · rw [shortL_more hx]
      have := shortL_len_le m (x / 128) (by rw [Nat.pow_succ] at h; omega)
      simp; omega
theorem PutText_spec {F : Nat} (hF : 10 ≤ F) {l : Sl} {ss : List ByteArray} {H : SH} (hl : l.len = ss.length) (hr : H.row l.a (ss.map fun s => .string s)) (hss : ss.length ≤ 1000000) (hsF : ss.length < F) (hs : ∀ s ∈ ss, s.size ≤ 10000)
    {K : ByteArray → SH → Prop} (k : K (ofL (textsL (ss.map bs))) H) : octet_PutText.wp F l H K := by
  refine fun b hb => ?_
  have hsz : ∀ i, (textsL ((ss.map bs).take i)).length ≤ i * 10010 := by
    intro i
    induction i with
    | zero => simp [textsL]
    | succ i ih =>
      by_cases hi : i < ss.length
      · rw [List.take_succ_eq_append_getElem (by simpa using hi), textsL_append, List.length_append]
        have h1 : (textsL [(ss.map bs)[i]'(by simpa using hi)]).length ≤ 10010 := by
          simp only [textsL, List.flatMap_cons, List.flatMap_nil, List.append_nil, textL, List.length_append, List.getElem_map, bs_len]
          have := hs _ (List.getElem_mem hi)
          have := shortL_len_le 2 (ss[i]).size (by have : (128 : Nat) ^ (2 + 1) = 2097152 := by decide
                                                   omega)
          omega
        omega
      · have e : ∀ j, ss.length ≤ j → (ss.map bs).take j = ss.map bs := fun j hj => List.take_of_length_le (by simpa using hj)
        rw [e (i + 1) (by omega)]; rw [e i (by omega)] at ih; exact Nat.le_trans ih (Nat.mul_le_mul_right _ (Nat.le_succ i))
  have loop : ∀ (j i f : Nat) (H' : SH), ss.length - i = j → i ≤ ss.length → j < f → On (BldI b (textsL ((ss.map bs).take i))) H H' → octet_PutText.l1 F K f b l (ss.length : Int) (i : Int) H' := by
    intro j
    induction j with
    | zero =>
      intro i f H' hj hi hf h
      obtain ⟨f, rfl⟩ : ∃ i, f = i + 1 := ⟨f - 1, by omega⟩
      have hz := hsz i
      have e : (ss.map bs).take i = ss.map bs := List.take_of_length_le (by rw [List.length_map]; omega)
      rw [e] at h hz
      have : i * 10010 ≤ 10010000000 := by omega
      exact br_f (by omega) (String_spec (by omega) h ⟨_, .refl _, k⟩)
    | succ j ih =>
      intro i f H' hj hi hf h
      obtain ⟨f, rfl⟩ : ∃ i, f = i + 1 := ⟨f - 1, by omega⟩
      have hlt : i < ss.length := by omega
      have hsi := hs _ (List.getElem_mem hlt)
      have hz := hsz i
      have hsh := shortL_len_le 2 (ss[i]).size (by have : (128 : Nat) ^ (2 + 1) = 2097152 := by decide
                                                   omega)
      refine br_t (by omega) (row_at (hr.le h.le) (v := .string ss[i]) (by simp [hlt]) (by omega) fun p hp hh => ⟨ss[i], hh, short_spec hF (by omega) ⟨by rw [ofL_size]; omega, WriteString_spec ?_ h fun H2 h2 => ?_⟩⟩)
      · rw [ByteArray.size_append, ofL_size]; omega
      · rw [w64_id (by omega), show (i : Int) + 1 = ((i + 1 : Nat) : Int) by omega]
        refine ih (i + 1) f H2 (by omega) (by omega) (by omega) ?_
        have e : textsL ((ss.map bs).take i) ++ bs (ofL (shortL (ss[i]).size) ++ ss[i]) = textsL ((ss.map bs).take (i + 1)) := by
          rw [List.take_succ_eq_append_getElem (by simpa using hlt), textsL_append, bs_append, bs_ofL]
          simp [textsL, textL, bs_len]
        rw [← e]; exact h2
  have h0 : On (BldI b (textsL ((ss.map bs).take 0))) H (H.upd b ⟨[pv none, sv Sl.nil], 91, false, 2⟩) := bld_close (.inl rfl) (On.new hb) (On.nil0 _ _)
  rw [hl]
  exact loop ss.length 0 F _ (by omega) (by omega) hsF h0
/-- Texts one behind the other are told apart. -/
theorem textL_inj {a b ra rb : List UInt8} (ha : a.length ≤ 72057594037927935) (hb : b.length ≤ 72057594037927935) (h : textL a ++ ra = textL b ++ rb) : a = b ∧ ra = rb := by
  unfold textL at h
  rw [List.append_assoc, List.append_assoc] at h
  have h1 := readL_short ha (a ++ ra)
  rw [h, readL_short hb (b ++ rb)] at h1
  injection h1 with h2 h3
  rw [h2] at h
  have h4 := List.append_cancel_left h
  have := List.append_inj h4 h2.symm
  exact this
theorem shortL_inj {x y : Nat} {ra rb : List UInt8} (hx : x ≤ 72057594037927935) (hy : y ≤ 72057594037927935) (h : shortL x ++ ra = shortL y ++ rb) : x = y ∧ ra = rb := by
  have h1 := readL_short hx ra
  rw [h, readL_short hy rb] at h1
  injection h1 with h2 h3
  subst h2
  exact ⟨rfl, List.append_cancel_left h⟩
theorem textsL_inj : ∀ {a b : List (List UInt8)}, (∀ s ∈ a, s.length ≤ 72057594037927935) → (∀ s ∈ b, s.length ≤ 72057594037927935) → a.length = b.length → textsL a = textsL b → a = b
  | [], [], _, _, _, _ => rfl
  | [], _ :: _, _, _, h, _ => by simp at h
  | _ :: _, [], _, _, h, _ => by simp at h
  | x :: a, y :: b, ha, hb, hl, h => by
    have e : ∀ z (c : List (List UInt8)), textsL (z :: c) = textL z ++ textsL c := fun z c => by simp [textsL]
    rw [e, e] at h
    obtain ⟨h1, h2⟩ := textL_inj (ha x (by simp)) (hb y (by simp)) h
    rw [h1, textsL_inj (fun s hs => ha s (by simp [hs])) (fun s hs => hb s (by simp [hs])) (by simpa using hl) h2]
end Go.Proofs.YtpnbehgkbfhacaaDoor.K
