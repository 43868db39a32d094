/- What is got is just what is put. -/
import Derived.Test.YtkfbmoekghbgbaaDoorSpecGet
set_option linter.unusedVariables false
set_option linter.unusedSimpArgs false
namespace Go.Proofs.YtkfbmoekghbgbaaDoor.K
open Go

theorem sealL_drop6 (t : List UInt8) : (sealL t).drop 6 = t := by
  unfold sealL
  have : (fixL 4 (sumV (fixL 2 t.length ++ t)) ++ fixL 2 t.length).length = 6 := by simp [fixL_len]
  rw [← this, List.drop_left]
/-! ### forwards -/
theorem drop_behind {u a r : List UInt8} {p : Nat} (h : u.drop p = a ++ r) : u.drop (p + a.length) = r := by
  rw [← List.drop_drop, h, List.drop_left]
theorem shortS_at {u r : List UInt8} {p x : Nat} (h : u.drop p = shortL x ++ r) (hx : x ≤ 72057594037927935) : shortS u (p, none) = (x, (p + (shortL x).length, none)) := by
  rw [shortS_none, h, readL_short hx]; rfl
theorem textP_at {u r t : List UInt8} {p mx : Nat} (h : u.drop p = textL t ++ r) (hx : t.length ≤ mx) (hm : mx ≤ 72057594037927935) : textP u p mx = .ok (t, p + (textL t).length) := by
  have hl := congrArg List.length h
  rw [List.length_drop] at hl
  unfold textL at h hl ⊢
  rw [List.append_assoc] at h
  unfold textP
  rw [h, readL_short (by omega)]
  simp only
  rw [drop_behind h, List.length_append, if_neg (by omega)]
  simp only [List.length_append] at hl
  rw [if_neg (by omega), List.take_left, Nat.add_assoc]
theorem textS_at {u r t : List UInt8} {p : Nat} (h : u.drop p = textL t ++ r) (hx : t.length ≤ MXT) : textS u (p, none) = (t, (p + (textL t).length, none)) := by
  rw [textS_none, textP_at h hx (Nat.le_refl _)]; rfl
theorem textsL_cons (a : List UInt8) (l : List (List UInt8)) : textsL (a :: l) = textL a ++ textsL l := by simp [textsL]
theorem restS_at {u : List UInt8} : ∀ (ts : List ByteArray) (p : Nat) (done : List ByteArray), p ≤ u.length → u.drop p = textsL (ts.map bs) → (∀ t ∈ ts, t.size ≤ MXT) → restS u ts.length (p, none) done = (done ++ ts, (u.length, none))
  | [], p, done, hp, h, _ => by
    have := congrArg List.length h
    rw [List.length_drop] at this
    simp [textsL] at this
    unfold restS
    rw [List.append_nil, show p = u.length by omega]; rfl
  | t :: ts, p, done, hp, h, ht => by
    rw [List.map_cons, textsL_cons] at h
    have h1 := textS_at h (by rw [bs_len]; exact ht t (by simp))
    show restS u ts.length (textS u (p, none)).2 (done ++ [ofL (textS u (p, none)).1]) = _
    have hl := congrArg List.length h
    rw [List.length_drop, List.length_append] at hl
    have hne : 0 < (textL (bs t)).length := by
      unfold textL
      rw [List.length_append]
      have := (shortL_read (readL_short (x := (bs t).length) (by rw [bs_len]; exact ht t (by simp)) [])).2.2.2
      omega
    rw [h1, restS_at ts _ _ (by omega) (drop_behind h) (fun x hx => ht x (by simp [hx])), ofL_bs, List.append_assoc]; rfl
theorem bodyS_bytes {m : MM} (hm : m.may = true) : bodyS m.bytes = .ok m := by
  obtain ⟨a1, a2, a3, a4, a5, a6, a7⟩ := may_bounds hm
  have hk := may_kind hm
  obtain ⟨v, hv⟩ := Int.eq_ofNat_of_zero_le a1
  obtain ⟨i, hi⟩ := Int.eq_ofNat_of_zero_le a2
  have hf : firstS m.bytes = (m.kind, (1, none)) := by
    unfold MM.bytes firstS
    simp only
    rw [UInt8.toNat_ofNat_of_lt' (by show _ < 256; omega), show ((m.kind.toNat : Nat) : Int) = m.kind by omega]
  have d1 : m.bytes.drop 1 = shortL v ++ (shortL i ++ (textL (bs m.text) ++ (shortL m.proof.length ++ textsL (m.proof.map bs)))) := by
    unfold MM.bytes
    rw [hv, hi]
    simp
  have s1 := shortS_at d1 (by omega)
  have d2 := drop_behind d1
  have s2 := shortS_at d2 (by omega)
  have d3 := drop_behind d2
  have s3 := textS_at d3 (by rw [bs_len]; show _ ≤ 72057594037927935; omega)
  have d4 := drop_behind d3
  have s4 := shortS_at d4 (by omega)
  have d5 := drop_behind d4
  have hl := congrArg List.length d4
  rw [List.length_drop, List.length_append] at hl
  have hpos := (shortL_read (readL_short (x := m.proof.length) (by omega) [])).2.2.2
  have s5 := restS_at m.proof _ [] (by omega) d5 (fun t ht => by rw [a7 t ht]; show _ ≤ 72057594037927935; omega)
  unfold bodyS
  rw [hf]
  dsimp only
  rw [s1]
  dsimp only
  rw [s2]
  dsimp only
  rw [s3]
  dsimp only
  rw [s4]
  dsimp only
  rw [if_neg (by omega), s5]
  unfold finS
  simp only [List.nil_append, Nat.lt_irrefl, if_false, ofL_bs]
  have e : (⟨m.kind, (v : Int), (i : Int), m.text, m.proof⟩ : MM) = m := by
    cases m
    simp only [MM.mk.injEq, true_and, and_true]
    exact ⟨hv.symm, hi.symm⟩
  rw [e, hm]; rfl
theorem getP_seal {m : MM} (hm : m.may = true) : getP (sealL m.bytes) = .ok m := by
  have hb := bytes_len hm
  have h := nextL_seal (t := m.bytes) (by omega) []
  rw [List.append_nil] at h
  unfold getP
  rw [h]
  simp only
  rw [if_neg (by rw [sealL_len]; omega), sealL_drop6, List.take_length, bodyS_bytes hm]
theorem getP_more {m : MM} (hm : m.may = true) {r : List UInt8} (hr : r ≠ []) : getP (sealL m.bytes ++ r) = .error (EV.mk ((6 + m.bytes.length : Nat) : Int) (some (.no 4))) := by
  have hb := bytes_len hm
  have hl : 0 < r.length := by cases r with
    | nil => exact absurd rfl hr
    | cons => simp
  unfold getP
  rw [nextL_seal (t := m.bytes) (by omega) r]
  simp only
  rw [if_pos (by rw [List.length_append, sealL_len]; omega)]
theorem getP_cut {m : MM} (hm : m.may = true) {k : Nat} (hk : k < m.bytes.length + 6) : getP ((sealL m.bytes).take k) = .error (EV.mk 0 (some (.no 3))) := by
  have hb := bytes_len hm
  unfold getP
  rw [nextL_cut (by omega) hk]

/-! ### backwards -/
theorem shortS_inv {u : List UInt8} {r r' : RS} {x : Nat} (hr : r.ok u) (h : shortS u r = (x, r')) (h' : r'.2 = none) : r.2 = none ∧ x ≤ 72057594037927935 ∧ u.drop r.1 = shortL x ++ u.drop r'.1 := by
  obtain ⟨p, e⟩ := r
  cases e with
  | some e => rw [shortS_some] at h; cases h; cases h'
  | none =>
    rw [shortS_none] at h
    cases hx : readL (u.drop p) 0 0 with
    | ok y n =>
      rw [hx] at h
      cases h
      obtain ⟨a, b, c, d⟩ := shortL_read hx
      refine ⟨rfl, a, ?_⟩
      dsimp only
      rw [b, ← List.drop_drop, List.take_append_drop]
    | form => rw [hx] at h; cases h; cases h'
    | cut => rw [hx] at h; cases h; cases h'
theorem textP_inv {u t : List UInt8} {p mx q : Nat} (h : textP u p mx = .ok (t, q)) : t.length ≤ mx ∧ u.drop p = textL t ++ u.drop q := by
  unfold textP at h
  cases hx : readL (u.drop p) 0 0 with
  | ok y n =>
    rw [hx] at h
    simp only at h
    split at h
    · cases h
    · split at h
      · cases h
      · rename_i c1 c2
        simp only [Except.ok.injEq, Prod.mk.injEq] at h
        obtain ⟨rfl, rfl⟩ := h
        obtain ⟨a, b, c, d⟩ := shortL_read hx
        rw [List.length_drop] at c
        have hl : ((u.drop (p + n)).take y).length = y := by rw [List.length_take, List.length_drop]; omega
        refine ⟨by omega, ?_⟩
        unfold textL
        rw [hl, b, List.append_assoc, ← List.drop_drop (i := y), List.take_append_drop, ← List.drop_drop, List.take_append_drop]
  | form => rw [hx] at h; cases h
  | cut => rw [hx] at h; cases h
theorem textS_inv {u t : List UInt8} {r r' : RS} (h : textS u r = (t, r')) (h' : r'.2 = none) : r.2 = none ∧ t.length ≤ MXT ∧ u.drop r.1 = textL t ++ u.drop r'.1 := by
  obtain ⟨p, e⟩ := r
  cases e with
  | some e => rw [textS_some] at h; cases h; cases h'
  | none =>
    rw [textS_none] at h
    cases hx : textP u p MXT with
    | ok x =>
      obtain ⟨y, q⟩ := x
      rw [hx] at h
      cases h
      exact ⟨rfl, textP_inv hx⟩
    | error e => rw [hx] at h; cases h; cases h'
theorem restS_inv {u : List UInt8} : ∀ (n : Nat) (r r' : RS) (done l : List ByteArray), r.ok u → restS u n r done = (l, r') → r'.2 = none → r.2 = none ∧ r'.ok u ∧ ∃ ts : List ByteArray, l = done ++ ts ∧ ts.length = n ∧ u.drop r.1 = textsL (ts.map bs) ++ u.drop r'.1
  | 0, r, r', done, l, hr, h, h' => by
    unfold restS at h
    cases h
    exact ⟨h', hr, [], by simp, rfl, by simp [textsL]⟩
  | n + 1, r, r', done, l, hr, h, h' => by
    unfold restS at h
    obtain ⟨h1, h2, ts, h3, h4, h5⟩ := restS_inv n _ _ _ _ (textS_ok hr) h h'
    obtain ⟨k1, k2, k3⟩ := textS_inv (t := (textS u r).1) (r' := (textS u r).2) rfl h1
    refine ⟨k1, h2, ofL (textS u r).1 :: ts, by rw [h3]; simp, by simp [h4], ?_⟩
    rw [List.map_cons, textsL_cons, bs_ofL, List.append_assoc, ← h5]; exact k3
theorem shortS_inv2 {u : List UInt8} {r : RS} (hr : r.ok u) (h' : (shortS u r).2.2 = none) : r.2 = none ∧ (shortS u r).1 ≤ 72057594037927935 ∧ u.drop r.1 = shortL (shortS u r).1 ++ u.drop (shortS u r).2.1 := shortS_inv hr (x := (shortS u r).1) (r' := (shortS u r).2) rfl h'
theorem textS_inv2 {u : List UInt8} {r : RS} (h' : (textS u r).2.2 = none) : r.2 = none ∧ (textS u r).1.length ≤ MXT ∧ u.drop r.1 = textL (textS u r).1 ++ u.drop (textS u r).2.1 := textS_inv (t := (textS u r).1) (r' := (textS u r).2) rfl h'
theorem bodyS_inv {u : List UInt8} {m : MM} (h : bodyS u = .ok m) : m.may = true ∧ m.bytes = u := by
  unfold bodyS at h
  dsimp only at h
  split at h
  · cases h
  · rename_i c20
    unfold finS at h
    split at h
    · cases h
    · rename_i hn
      split at h
      · cases h
      · rename_i hlt
        split at h
        · rename_i hm
          cases h
          refine ⟨hm, ?_⟩
          have ok0 : (firstS u).2.ok u := by
            cases u with
            | nil => intro h; cases h
            | cons c r => intro _; show 1 ≤ (c :: r).length; simp
          have ok1 := shortS_ok ok0
          have ok2 := shortS_ok ok1
          have ok3 := textS_ok ok2
          have ok4 := shortS_ok ok3
          obtain ⟨n5, okr, ts, e5, e6, e7⟩ := restS_inv _ _ _ _ _ ok4 rfl hn
          obtain ⟨n4, b4, e4⟩ := shortS_inv2 ok3 n5
          obtain ⟨n3, b3, e3⟩ := textS_inv2 n4
          obtain ⟨n2, b2, e2⟩ := shortS_inv2 ok1 n3
          obtain ⟨n1, b1, e1⟩ := shortS_inv2 ok0 n2
          have hend := okr hn
          have hdr : u.drop (restS u (shortS u (textS u (shortS u (shortS u (firstS u).2).2).2).2).1 (shortS u (textS u (shortS u (shortS u (firstS u).2).2).2).2).2 []).2.1 = [] := List.drop_eq_nil_of_le (by omega)
          rw [hdr, List.append_nil] at e7
          rw [List.nil_append] at e5
          cases hu : u with
          | nil => rw [hu] at n1; cases n1
          | cons c rest =>
            have e0 : u.drop (firstS u).2.1 = rest := by rw [hu]; rfl
            rw [e0, e2, e3, e4, e7] at e1
            have hk : (firstS u).1 = (c.toNat : Int) := by rw [hu]; rfl
            unfold MM.bytes
            rw [← hu]
            dsimp only
            rw [hk, e5, e6, bs_ofL]
            simp only [Int.toNat_natCast, List.append_assoc]
            rw [show UInt8.ofNat c.toNat = c from UInt8.ofNat_toNat, ← e1, hu]
        · cases h
theorem getP_ok {t : List UInt8} {m : MM} (h : getP t = .ok m) : m.may = true ∧ t = sealL m.bytes := by
  unfold getP at h
  cases hn : nextL t with
  | no c => rw [hn] at h; cases h
  | ok n =>
    rw [hn] at h
    simp only at h
    split at h
    · cases h
    · rename_i c
      obtain ⟨h1, h2⟩ := bodyS_inv h
      obtain ⟨k1, k2, k3⟩ := nextL_ok hn
      rw [h2, k3, List.take_of_length_le (by omega)]
      exact ⟨h1, rfl⟩
/-- What is wrong is told by a number, at a place. -/
def GoodE (e : EV) : Prop := ∃ (p : Nat) (c : Int), e = EV.mk p (some (.no c)) ∧ (c = 3 ∨ c = 4 ∨ c = 5 ∨ c = 6)
def RS.good (r : RS) : Prop := ∀ e, r.2 = some e → GoodE e
theorem shortS_good {u : List UInt8} {r : RS} (h : r.good) : (shortS u r).2.good := by
  obtain ⟨p, e⟩ := r
  cases e with
  | some e => exact h
  | none =>
    rw [shortS_none]
    cases hx : readL (u.drop p) 0 0 with
    | ok y n => intro e he; cases he
    | form => intro e he; cases he; exact ⟨p, 4, rfl, by omega⟩
    | cut => intro e he; cases he; exact ⟨u.length, 3, rfl, by omega⟩
theorem textP_good {u : List UInt8} {p mx : Nat} {e : EV} (h : textP u p mx = .error e) : GoodE e := by
  unfold textP at h
  cases hx : readL (u.drop p) 0 0 with
  | ok y n =>
    rw [hx] at h
    simp only at h
    split at h
    · cases h; exact ⟨p, 6, rfl, by omega⟩
    · split at h
      · cases h; exact ⟨u.length, 3, rfl, by omega⟩
      · cases h
  | form => rw [hx] at h; cases h; exact ⟨p, 4, rfl, by omega⟩
  | cut => rw [hx] at h; cases h; exact ⟨u.length, 3, rfl, by omega⟩
theorem textS_good {u : List UInt8} {r : RS} (h : r.good) : (textS u r).2.good := by
  obtain ⟨p, e⟩ := r
  cases e with
  | some e => exact h
  | none =>
    rw [textS_none]
    cases hx : textP u p MXT with
    | ok x => intro e he; cases he
    | error e => intro e' he; cases he; exact textP_good hx
theorem restS_good {u : List UInt8} : ∀ (n : Nat) (r : RS) (done : List ByteArray), r.good → (restS u n r done).2.good
  | 0, r, done, h => h
  | n + 1, r, done, h => by unfold restS; exact restS_good n _ _ (textS_good h)
theorem getP_err {t : List UInt8} {e : EV} (h : getP t = .error e) : GoodE e := by
  unfold getP at h
  cases hn : nextL t with
  | no c =>
    rw [hn] at h
    cases h
    refine ⟨0, c, rfl, ?_⟩
    unfold nextL at hn
    split at hn
    · cases hn; omega
    · split at hn
      · cases hn; omega
      · split at hn
        · cases hn; omega
        · split at hn
          · cases hn; omega
          · cases hn
  | ok n =>
    rw [hn] at h
    simp only at h
    split at h
    · cases h; exact ⟨6 + n, 4, rfl, by omega⟩
    · unfold bodyS at h
      dsimp only at h
      split at h
      · cases h; exact ⟨0, 4, rfl, by omega⟩
      · generalize hu : (t.drop 6).take n = u at h
        have g0 : (firstS u).2.good := by
          cases u with
          | nil => intro e he; cases he; exact ⟨0, 3, rfl, by omega⟩
          | cons c r => intro e he; cases he
        have g := restS_good (u := u) (shortS u (textS u (shortS u (shortS u (firstS u).2).2).2).2).1 (shortS u (textS u (shortS u (shortS u (firstS u).2).2).2).2).2 [] (shortS_good (textS_good (shortS_good (shortS_good g0))))
        unfold finS at h
        split at h
        · rename_i e' he'
          cases h
          exact g _ he'
        · split at h
          · cases h; exact ⟨_, 4, rfl, by omega⟩
          · split at h
            · cases h
            · cases h; exact ⟨0, 4, rfl, by omega⟩
end Go.Proofs.YtkfbmoekghbgbaaDoor.K
