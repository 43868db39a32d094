/- What msg.Get comes to. -/
import Derived.Test.YtkfbmoekghbgbaaDoorSpecMsg
import Derived.Test.YtkfbmoekghbgbaaDoorSpecRead
set_option linter.unusedVariables false
set_option linter.unusedSimpArgs false
namespace Go.Proofs.YtkfbmoekghbgbaaDoor.K
open Go

/-! ### the reader -/
abbrev RDT : TypeId := 87
abbrev MXT : Nat := 72057594037927935
/-- Where it stands, and what was wrong. -/
abbrev RS := Nat × Option EV
def shortR (u : List UInt8) (p : Nat) : Rd → Nat × RS
  | .ok x n => (x, (p + n, none))
  | .form => (0, (p, some (EV.mk p (some (.no 4)))))
  | .cut => (0, (p, some (EV.mk u.length (some (.no 3)))))
def shortS (u : List UInt8) (r : RS) : Nat × RS := match r.2 with
  | some e => (0, (r.1, some e))
  | none => shortR u r.1 (readL (u.drop r.1) 0 0)
theorem shortS_none (u : List UInt8) (p : Nat) : shortS u (p, none) = shortR u p (readL (u.drop p) 0 0) := rfl
theorem shortS_some (u : List UInt8) (p : Nat) (e : EV) : shortS u (p, some e) = (0, (p, some e)) := rfl
def textR (p : Nat) : Except EV (List UInt8 × Nat) → List UInt8 × RS
  | .ok x => (x.1, (x.2, none))
  | .error e => ([], (p, some e))
def textS (u : List UInt8) (r : RS) : List UInt8 × RS := match r.2 with
  | some e => ([], (r.1, some e))
  | none => textR r.1 (textP u r.1 MXT)
theorem textS_none (u : List UInt8) (p : Nat) : textS u (p, none) = textR p (textP u p MXT) := rfl
theorem textS_some (u : List UInt8) (p : Nat) (e : EV) : textS u (p, some e) = ([], (p, some e)) := rfl
def rc (s : ByteArray) (r : RS) : AO := ⟨[.string s, .int .i64 (r.1 : Int), errV r.2], RDT, false, 3⟩
def RS.ok (u : List UInt8) (r : RS) : Prop := r.2 = none → r.1 ≤ u.length
theorem shortS_ok {u : List UInt8} {r : RS} (h : r.ok u) : (shortS u r).2.ok u := by
  obtain ⟨p, e⟩ := r
  cases e with
  | some e => intro h2; cases h2
  | none =>
    have hp : p ≤ u.length := h rfl
    rw [shortS_none]
    unfold RS.ok
    cases hr : readL (u.drop p) 0 0 with
    | ok x n =>
      intro _
      have := (shortL_read hr).2.2.1
      rw [List.length_drop] at this
      show p + n ≤ u.length; omega
    | form => intro h2; cases h2
    | cut => intro h2; cases h2
theorem textP_le {u t : List UInt8} {p mx q : Nat} (hp : p ≤ u.length) (h : textP u p mx = .ok (t, q)) : q ≤ u.length := by
  unfold textP at h
  cases hr : readL (u.drop p) 0 0 with
  | ok x n =>
    have := (shortL_read hr).2.2.1
    rw [List.length_drop] at this
    rw [hr] at h
    simp only at h
    split at h
    · cases h
    · split at h
      · cases h
      · simp only [Except.ok.injEq, Prod.mk.injEq] at h; omega
  | form => rw [hr] at h; cases h
  | cut => rw [hr] at h; cases h
theorem textS_ok {u : List UInt8} {r : RS} (h : r.ok u) : (textS u r).2.ok u := by
  obtain ⟨p, e⟩ := r
  cases e with
  | some e => intro h2; cases h2
  | none =>
    rw [textS_none]
    unfold RS.ok
    cases hr : textP u p MXT with
    | ok x => obtain ⟨t, q⟩ := x; intro _; exact textP_le (h rfl) hr
    | error e => intro h2; cases h2
section
variable {F : Nat} {b : Nat} {s : ByteArray} {H0 H : SH} {r : RS}
theorem rshort_spec (hF : 10 ≤ F) (hs : s.size ≤ 1000000000) (hr : r.ok (bs s)) (h : On (Blk b (rc s r)) H0 H) {K : Int → SH → Prop} (k : ∀ H', On (Blk b (rc s (shortS (bs s) r).2)) H0 H' → K ((shortS (bs s) r).1 : Nat) H') : msg_reader_short.wp F (some (b, 0)) H K := by
  obtain ⟨p, e⟩ := r
  refine p_some ⟨e, h.has rfl, fun he => ?_, fun v hv => ?_⟩
  · subst he
    have hp := hr rfl
    rw [bs_len] at hp
    have k2 : ∀ (x : Int) (q : Nat) (e : Option EV), shortS (bs s) (p, none) = (x.toNat, (q, e)) → 0 ≤ x → ∃ Hr, SH.le Hr (SH.setl (SH.setl H (b, 1) [.int .i64 (q : Int)]) (b, 2) [errV e]) ∧ K x Hr := fun x q e hx h0 => by
      rw [hx] at k
      have := k _ (On.setl (k := 2) (vs := [errV e]) (On.setl (k := 1) (vs := [.int .i64 (q : Int)]) h))
      rw [show (((x.toNat, (q, e)) : Nat × RS).1 : Int) = x by show (x.toNat : Int) = x; omega] at this
      exact ⟨_, .refl _, this⟩
    have w1 : SH.wrs H (b, 1) 1 := h.wrs rfl (Nat.le_of_ble_eq_true rfl)
    have w2 : ∀ v, SH.wrs (SH.setl H (b, 1) [v]) (b, 2) 1 := fun v => (On.setl (k := 1) (vs := [v]) h).wrs rfl (Nat.le_of_ble_eq_true rfl)
    refine ⟨s, h.has rfl, p, h.has rfl, ?_⟩
    cases hx : readL ((bs s).drop p) 0 0 with
    | ok x n =>
      refine ⟨(x : Int), ((p + n : Nat) : Int), none, Short_spec hF (by omega) hp ?_, w1, w2 _, k2 _ _ _ ?_ (by omega)⟩
      · rw [hx]; exact ⟨rfl, by omega, rfl, .refl _⟩
      · rw [shortS_none, hx]; rfl
    | form =>
      refine ⟨0, (p : Int), some (EV.mk p (some (.no 4))), Short_spec hF (by omega) hp ?_, w1, w2 _, k2 _ _ _ ?_ (by omega)⟩
      · rw [hx]; exact ⟨rfl, rfl, rfl, .refl _⟩
      · rw [shortS_none, hx]; rfl
    | cut =>
      refine ⟨0, (p : Int), some (EV.mk s.size (some (.no 3))), Short_spec hF (by omega) hp ?_, w1, w2 _, k2 _ _ _ ?_ (by omega)⟩
      · rw [hx]; exact ⟨rfl, rfl, rfl, .refl _⟩
      · rw [shortS_none, hx]; unfold shortR; rw [bs_len]; rfl
  · subst hv
    exact ⟨H, .refl H, k H h⟩
theorem rtext_spec (hF : 10 ≤ F) (hs : s.size ≤ 1000000000) (hr : r.ok (bs s)) (h : On (Blk b (rc s r)) H0 H) {K : ByteArray → SH → Prop} (k : ∀ H', On (Blk b (rc s (textS (bs s) r).2)) H0 H' → K (ofL (textS (bs s) r).1) H') : msg_reader_text.wp F (some (b, 0)) H K := by
  obtain ⟨p, e⟩ := r
  refine p_some ⟨e, h.has rfl, fun he => ?_, fun v hv => ?_⟩
  · subst he
    have hp := hr rfl
    rw [bs_len] at hp
    have k2 : ∀ (t : List UInt8) (q : Nat) (e : Option EV), textS (bs s) (p, none) = (t, (q, e)) → ∃ Hr, SH.le Hr (SH.setl (SH.setl H (b, 1) [.int .i64 (q : Int)]) (b, 2) [errV e]) ∧ K (ofL t) Hr := fun t q e hx => by
      rw [hx] at k
      exact ⟨_, .refl _, k _ (On.setl (k := 2) (vs := [errV e]) (On.setl (k := 1) (vs := [.int .i64 (q : Int)]) h))⟩
    have w1 : SH.wrs H (b, 1) 1 := h.wrs rfl (Nat.le_of_ble_eq_true rfl)
    have w2 : ∀ v, SH.wrs (SH.setl H (b, 1) [v]) (b, 2) 1 := fun v => (On.setl (k := 1) (vs := [v]) h).wrs rfl (Nat.le_of_ble_eq_true rfl)
    refine ⟨s, h.has rfl, p, h.has rfl, ?_⟩
    cases hx : textP (bs s) p MXT with
    | ok x =>
      obtain ⟨t, q⟩ := x
      refine ⟨ofL t, (q : Int), none, Text_spec (mx := MXT) hF (by omega) hp ?_, w1, w2 _, k2 _ _ _ ?_⟩
      · rw [hx]; exact ⟨rfl, rfl, rfl, .refl _⟩
      · rw [textS_none, hx]; rfl
    | error e =>
      refine ⟨ByteArray.empty, (p : Int), some e, Text_spec (mx := MXT) hF (by omega) hp ?_, w1, w2 _, k2 [] _ _ ?_⟩
      · rw [hx]; exact ⟨rfl, rfl, rfl, .refl _⟩
      · rw [textS_none, hx]; rfl
  · subst hv
    exact ⟨H, .refl H, k H h⟩
end

/-! ### the whole -/
def restS (u : List UInt8) : Nat → RS → List ByteArray → List ByteArray × RS
  | 0, r, l => (l, r)
  | n + 1, r, l => restS u n (textS u r).2 (l ++ [ofL (textS u r).1])
def firstS (u : List UInt8) : Int × RS := match u with
  | [] => (0, (0, some (EV.mk 0 (some (.no 3)))))
  | c :: _ => ((c.toNat : Int), (1, none))
def finS (u : List UInt8) (k v i : Int) (t : ByteArray) (l : List ByteArray × RS) : Except EV MM := match l.2.2 with
  | some e => .error e
  | none => if l.2.1 < u.length then .error (EV.mk l.2.1 (some (.no 4))) else if MM.may ⟨k, v, i, t, l.1⟩ then .ok ⟨k, v, i, t, l.1⟩ else .error (EV.mk 0 (some (.no 4)))
def bodyS (u : List UInt8) : Except EV MM :=
  let k := firstS u
  let v := shortS u k.2
  let i := shortS u v.2
  let t := textS u i.2
  let n := shortS u t.2
  if n.1 > 20 then .error (EV.mk 0 (some (.no 4))) else
  finS u k.1 v.1 i.1 (ofL t.1) (restS u n.1 n.2 [])
def getP (t : List UInt8) : Except EV MM := match nextL t with
  | .no c => .error (EV.mk 0 (some (.no c)))
  | .ok n => if 6 + n < t.length then .error (EV.mk ((6 + n : Nat) : Int) (some (.no 4))) else bodyS ((t.drop 6).take n)
abbrev GK := Int → Int → Int → ByteArray → Sl → Option EV → SH → Prop
def GetK (K : GK) (H : SH) : Except EV MM → Prop
  | .error e => K 0 0 0 ByteArray.empty Sl.nil (some e) H
  | .ok m => ∀ l Hr, On (SlI STR 1 l (strc m.proof)) H Hr → K m.kind m.ver m.i m.text l none Hr
def zeroM : MM := ⟨0, 0, 0, ByteArray.empty, []⟩
theorem setl_same {H : SH} {b k : Nat} {o : AO} {vs : List Value} (h : H b = some o) (hw : wrl o.cells k vs = o.cells) : SH.setl H (b, k) vs = H := by
  unfold SH.setl
  simp only [h, hw]
  funext c
  by_cases hc : c = b
  · subst hc; rw [SH.upd_same, h]
  · rw [SH.upd_ne _ _ hc]
def rdL (b : Nat) (s : ByteArray) (r : RS) : LP := ⟨Blk b (rc s r), .blk⟩
def msL (b : Nat) (m : MM) (l : Sl) : LP := ⟨Blk b (mcell m l), .blk⟩
def slL (l : Sl) (cs : List ByteArray) : LP := ⟨SlI STR 1 l (strc cs), .sl⟩
theorem strc_one (l : List ByteArray) : ∀ u ∈ strc l, u.oneCell' = true := by
  intro u hu
  obtain ⟨s, _, rfl⟩ := List.mem_map.1 hu
  rfl
section
variable {F : Nat} {K : GK} {H0 : SH} {s : ByteArray} {b2 b12 b20 : Nat}
/-- It ends ill. -/
theorem Get_ill {H : SH} {e : Option EV} (h : Chain [msL b2 zeroM Sl.nil] H0 H) (k : K 0 0 0 ByteArray.empty Sl.nil e H0) :
    SH.wrs H (b2, 0) 5 ∧ ∃ (x29 : Int) (x30 : Int) (x31 : Int) (s32 : ByteArray) (l33 : Sl),
      SH.row (SH.setl H (b2, 0) [.int .i64 0, .int .i64 0, .int .i64 0, .string ByteArray.empty, sv Sl.nil]) (some (b2, 0)) [.int .i64 x29, .int .i64 x30, .int .i64 x31, .string s32, sv l33] ∧
      ∃ Hr, SH.le Hr (SH.setl H (b2, 0) [.int .i64 0, .int .i64 0, .int .i64 0, .string ByteArray.empty, sv Sl.nil]) ∧ K x29 x30 x31 s32 l33 e Hr := by
  obtain ⟨H1, h1, h2⟩ := h
  have h1 : On (Blk b2 (mcell zeroM Sl.nil)) H1 H := h1
  have hb := (On.blk.1 h1).2.2
  have e0 := setl_same (k := 0) (vs := [.int .i64 0, .int .i64 0, .int .i64 0, .string ByteArray.empty, sv Sl.nil]) hb rfl
  rw [e0]
  exact ⟨h1.wrs rfl (Nat.le_of_ble_eq_true rfl), 0, 0, 0, ByteArray.empty, Sl.nil, mrow hb, H0, h2.trans h1.le, k⟩
theorem Get_loop (hF : 1000 ≤ F) (hs : s.size ≤ 1000000) {kd v i0 : Int} {t : ByteArray} {n : Nat} (hn : n ≤ 20) : ∀ (j i f : Nat) (r : RS) (done : List ByteArray) (l : Sl) (H : SH), n - i = j → i ≤ n → j < f → r.ok (bs s) → done.length = i →
    Chain [rdL b12 s r, msL b20 ⟨kd, v, i0, t, done⟩ l, slL l done, msL b2 zeroM Sl.nil] H0 H → GetK K H0 (finS (bs s) kd v i0 t (restS (bs s) j r done)) → msg_Get.l1 F K f b2 s b12 b20 (n : Int) (i : Int) H := by
  intro j
  induction j with
  | zero =>
    intro i f r done l H hj hi hf hr hd hc k
    obtain ⟨f, rfl⟩ : ∃ i, f = i + 1 := ⟨f - 1, by omega⟩
    obtain ⟨H1, h1, h2⟩ := hc
    have h1 : On (Blk b12 (rc s r)) H1 H := h1
    obtain ⟨H2, g1, g2⟩ := h2
    have g1 : On (Blk b20 (mcell ⟨kd, v, i0, t, done⟩ l)) H2 H1 := g1
    obtain ⟨H3, m1, m2⟩ := g2
    have m1 : On (SlI STR 1 l (strc done)) H3 H2 := m1
    have hres : Chain [msL b2 zeroM Sl.nil] H0 H := Chain.above m2 ((m1.le.trans g1.le).trans h1.le)
    refine br_f (by omega) ⟨r.2, h1.has rfl, fun he => ⟨(r.1 : Int), h1.has rfl, fun c => ⟨(r.1 : Int), h1.has rfl, ?_⟩, fun c => ?_⟩, fun e he => ?_⟩
    · refine ⟨H, .refl H, Get_ill hres ?_⟩
      unfold restS finS at k
      simp only [he] at k
      rw [if_pos (by rw [bs_len]; omega)] at k
      exact k
    · have hb20 : H b20 = some (mcell ⟨kd, v, i0, t, done⟩ l) := h1.le _ _ (On.blk.1 g1).2.2
      have hin : MIn H ⟨kd, v, i0, t, done⟩ l := ⟨by have := m1.len; rw [strc_len] at this; show l.len = done.length; omega, m1.row.le (g1.le.trans h1.le)⟩
      unfold restS finS at k
      simp only [he] at k
      rw [if_neg (by rw [bs_len]; omega)] at k
      refine ⟨kd, v, i0, t, l, mrow hb20, Check_spec (m := ⟨kd, v, i0, t, done⟩) (by omega) (by show done.length ≤ _; omega) hin ?_⟩
      cases hm : MM.may ⟨kd, v, i0, t, done⟩ with
      | false =>
        rw [hm] at k
        exact o_some ⟨H, .refl H, Get_ill hres k⟩
      | true =>
        rw [hm] at k
        refine o_none ⟨kd, v, i0, t, l, mrow hb20, ?_⟩
        have hc : Chain ([rdL b12 s r, msL b20 ⟨kd, v, i0, t, done⟩ l, slL l done] ++ msL b2 zeroM Sl.nil :: []) H0 H := ⟨H1, h1, H2, g1, H3, m1, m2⟩
        obtain ⟨G1, q1, q2⟩ := Chain.pull _ hc
        have q1 : On (Blk b2 (mcell zeroM Sl.nil)) G1 H := q1
        obtain ⟨G2, q3, G3, q4, G4, q5, q6⟩ := q2
        have q5 : On (SlI STR 1 l (strc done)) G4 G3 := q5
        have q7 := On.setl (k := 0) (vs := [.int .i64 kd, .int .i64 v, .int .i64 i0, .string t, sv l]) q1
        refine ⟨q1.wrs rfl (Nat.le_of_ble_eq_true rfl), kd, v, i0, t, l, rowN (On.blk.1 q7).2.2 (fun j u hu => by rw [Nat.zero_add]; exact hu), G3, ((q4.le.trans q3.le).trans q7.le), ?_⟩
        exact k l G3 (q5.below q6)
    · unfold restS finS at k
      simp only [he] at k
      obtain ⟨G1, q1, q2⟩ := hres
      have q1 : On (Blk b2 (mcell zeroM Sl.nil)) G1 H := q1
      have hb := (On.blk.1 q1).2.2
      have e0 := setl_same (k := 0) (vs := [.int .i64 0, .int .i64 0, .int .i64 0, .string ByteArray.empty, sv Sl.nil]) hb rfl
      refine ⟨H, .refl H, some e, h1.has (by rw [← he]; rfl), q1.wrs rfl (Nat.le_of_ble_eq_true rfl), by rw [e0]; exact .refl _, 0, 0, 0, ByteArray.empty, Sl.nil, mrow hb, H0, q2.trans q1.le, k⟩
  | succ j ih =>
    intro i f r done l H hj hi hf hr hd hc k
    obtain ⟨f, rfl⟩ : ∃ i, f = i + 1 := ⟨f - 1, by omega⟩
    obtain ⟨H1, h1, h2⟩ := hc
    have h1 : On (Blk b12 (rc s r)) H1 H := h1
    have h2' := h2
    obtain ⟨HM, hm, _⟩ := h2'
    have hm : On (Blk b20 (mcell ⟨kd, v, i0, t, done⟩ l)) HM H1 := hm
    have hll : l.len = i := by
      obtain ⟨_, _, _, m1, _⟩ := h2
      have m1 : On (SlI STR 1 l (strc done)) _ _ := m1
      have := m1.len; rw [strc_len] at this; omega
    refine br_t (by omega) ⟨H1, h1.le, l, hm.has rfl, rtext_spec (by omega) (by omega) hr h1 fun H' h' => ⟨h'.le, fun b55 hb55 => ?_⟩⟩
    have hc' : Chain [rdL b12 s (textS (bs s) r).2, msL b20 ⟨kd, v, i0, t, done⟩ l, slL l done, msL b2 zeroM Sl.nil] H0 H' := ⟨H1, h', h2⟩
    obtain ⟨H2, t1, t2, t3⟩ := Chain.temp hc' hb55 ⟨[.string (ofL (textS (bs s) r).1)], STR, false, 1⟩
    have t1 := Chain.below t1 t3
    obtain ⟨G1, q1, q2⟩ := Chain.pull [rdL b12 s (textS (bs s) r).2, msL b20 ⟨kd, v, i0, t, done⟩ l] t1
    have q1 : On (SlI STR 1 l (strc done)) G1 _ := q1
    refine ⟨_, row_upd rfl, q1.own.append (by show (l.len + 1) * 16 ≤ _; omega) (by show l.len + 1 ≤ _; omega) rfl one_str fun l' H3 o hl' => ?_⟩
    have o := o.on
    rw [show strc done ++ [Value.string (ofL (textS (bs s) r).1)] = strc (done ++ [ofL (textS (bs s) r).1]) by simp [strc]] at o
    have c1 : Chain ([slL l' (done ++ [ofL (textS (bs s) r).1]), rdL b12 s (textS (bs s) r).2] ++ msL b20 ⟨kd, v, i0, t, done⟩ l :: [msL b2 zeroM Sl.nil]) H0 H3 := ⟨G1, o, q2⟩
    obtain ⟨G2, p1, p2⟩ := Chain.pull _ c1
    have p1 : On (Blk b20 (mcell ⟨kd, v, i0, t, done⟩ l)) G2 H3 := p1
    have p3 := On.setl (k := 4) (vs := [sv l']) p1
    have c2 : Chain ([msL b20 ⟨kd, v, i0, t, done ++ [ofL (textS (bs s) r).1]⟩ l', slL l' (done ++ [ofL (textS (bs s) r).1])] ++ rdL b12 s (textS (bs s) r).2 :: [msL b2 zeroM Sl.nil]) H0 (SH.setl H3 (b20, 4) [sv l']) := ⟨G2, p3, p2⟩
    have c3 := Chain.pull _ c2
    refine ⟨p1.wrs rfl (Nat.le_of_ble_eq_true rfl), ?_⟩
    rw [w64_id (by omega), show (i : Int) + 1 = ((i + 1 : Nat) : Int) by omega]
    exact ih (i + 1) f _ _ l' _ (by omega) (by omega) (by omega) (textS_ok hr) (by simp [hd]) c3 k
theorem Get_spec (hF : 70000 ≤ F) (hs : s.size ≤ 1000000) (hsF : s.size < F) (k : GetK K H0 (getP (bs s))) : msg_Get.wp F s H0 K := by
  refine fun b2 hb2 => ?_
  have hres : Chain [msL b2 zeroM Sl.nil] H0 (H0.upd b2 (mcell zeroM Sl.nil)) := ⟨H0, On.new hb2, .refl H0⟩
  refine Open_spec (by omega) (by omega) (by omega) ?_
  unfold getP at k
  cases hn : nextL (bs s) with
  | no c =>
    rw [hn] at k
    exact o_some (Get_ill hres k)
  | ok n =>
    rw [hn] at k
    simp only [bs_len] at k
    dsimp only
    by_cases hc : 6 + n < s.size
    · rw [if_pos hc] at k ⊢
      exact o_some (Get_ill hres k)
    · rw [if_neg hc] at k ⊢
      have hu : bs (s.extract 6 (6 + n)) = ((bs s).drop 6).take n := by
        rw [bs_extract, List.drop_take, show 6 + n - 6 = n by omega]
      rw [← hu] at k
      have hu2 := (nextL_ok hn).1
      rw [bs_len] at hu2
      generalize hU : s.extract 6 (6 + n) = U at k hu ⊢
      have hUs : U.size ≤ s.size := by rw [← hU, ← bs_len, bs_extract, List.length_drop, List.length_take, bs_len]; omega
      refine o_none (Fixed_spec (F := F) (s := U) (n := 1) (p := 0) (by omega) (by omega) (by omega) (by omega) (by omega) ?_)
      have first : ∀ (x p : Int) (e : Option EV), firstS (bs U) = (x, (p.toNat, e)) → 0 ≤ p → (firstS (bs U)).2.ok (bs U) → ∀ (b12 : Nat), (H0.upd b2 (mcell zeroM Sl.nil)) b12 = none →
          msg_reader_short.wp F (some (b12, 0)) (SH.upd (H0.upd b2 (mcell zeroM Sl.nil)) b12 ⟨[.string U, .int .i64 p, errV e], RDT, false, 3⟩) (fun x14 H15 =>
          msg_reader_short.wp F (some (b12, 0)) H15 (fun x16 H17 =>
            msg_reader_text.wp F (some (b12, 0)) H17 (fun s18 H19 =>
              ∀ b20, H19 b20 = none →
              SH.wrs (SH.upd H19 b20 (mcell zeroM Sl.nil)) (b20, 0) 5 ∧
              msg_reader_short.wp F (some (b12, 0)) (SH.setl (SH.upd H19 b20 (mcell zeroM Sl.nil)) (b20, 0) [.int .i64 x, .int .i64 x14, .int .i64 x16, .string s18, sv Sl.nil]) (fun x23 H24 =>
                (x23 > 20 →
                  msg_wrong.wp F 0 H24 (fun e26 H27 =>
                    SH.wrs H27 (b2, 0) 5 ∧
                    ∃ (x29 : Int) (x30 : Int) (x31 : Int) (s32 : ByteArray) (l33 : Sl),
                    SH.row (SH.setl H27 (b2, 0) [.int .i64 0, .int .i64 0, .int .i64 0, .string ByteArray.empty, sv Sl.nil]) (some (b2, 0)) [.int .i64 x29, .int .i64 x30, .int .i64 x31, .string s32, sv l33] ∧
                    ∃ Hr, SH.le Hr (SH.setl H27 (b2, 0) [.int .i64 0, .int .i64 0, .int .i64 0, .string ByteArray.empty, sv Sl.nil]) ∧ K x29 x30 x31 s32 l33 e26 Hr
                  )
                ) ∧ (¬ (x23 > 20) →
                  msg_Get.l1 F K F b2 U b12 b20 x23 0 H24
                ))))) := fun x p e hf hp hok b12 hb12 => by
        have hk := k
        unfold bodyS at hk
        rw [hf] at hk hok
        dsimp only at hk
        have o1 : On (Blk b12 (rc U (p.toNat, e))) (H0.upd b2 (mcell zeroM Sl.nil)) _ := On.new hb12
        have er : (rc U (p.toNat, e)) = ⟨[.string U, .int .i64 p, errV e], RDT, false, 3⟩ := by
          unfold rc
          simp only
          rw [show ((p.toNat : Nat) : Int) = p by omega]
        rw [er] at o1
        rw [← er] at o1 ⊢
        refine rshort_spec (by omega) (by omega) hok o1 fun H15 o2 => rshort_spec (by omega) (by omega) (shortS_ok hok) o2 fun H17 o3 => rtext_spec (by omega) (by omega) (shortS_ok (shortS_ok hok)) o3 fun H19 o4 => ?_
        have ok4 := textS_ok (shortS_ok (shortS_ok hok))
        generalize shortS (bs U) (p.toNat, e) = v1 at *
        generalize shortS (bs U) v1.2 = v2 at *
        generalize textS (bs U) v2.2 = v3 at *
        refine fun b20 hb20 => ?_
        have c0 : Chain [rdL b12 U v3.2, msL b2 zeroM Sl.nil] H0 H19 := ⟨_, o4, hres⟩
        have c1 : Chain ([msL b20 zeroM Sl.nil] ++ rdL b12 U v3.2 :: [msL b2 zeroM Sl.nil]) H0 _ := Chain.new c0 hb20 (mcell zeroM Sl.nil)
        obtain ⟨G1, p1, p2⟩ := c1
        have p1 : On (Blk b20 (mcell zeroM Sl.nil)) G1 _ := p1
        have p3 := On.setl (k := 0) (vs := [.int .i64 x, .int .i64 (v1.1 : Int), .int .i64 (v2.1 : Int), .string (ofL v3.1), sv Sl.nil]) p1
        have c2 : Chain ([msL b20 ⟨x, v1.1, v2.1, ofL v3.1, []⟩ Sl.nil] ++ rdL b12 U v3.2 :: [msL b2 zeroM Sl.nil]) H0 _ := ⟨G1, p3, p2⟩
        obtain ⟨G2, q1, q2⟩ := Chain.pull _ c2
        have q1 : On (Blk b12 (rc U v3.2)) G2 _ := q1
        refine ⟨p1.wrs rfl (Nat.le_of_ble_eq_true rfl), rshort_spec (by omega) (by omega) ok4 q1 fun H24 o5 => ?_⟩
        have ok5 := shortS_ok ok4
        generalize shortS (bs U) v3.2 = v4 at *
        obtain ⟨G3, q3, q4⟩ := q2
        by_cases h20 : v4.1 > 20
        · rw [if_pos h20] at hk
          refine br_t (by omega) ⟨H24, .refl _, Get_ill ?_ hk⟩
          exact Chain.above q4 (SH.le.trans (On.le q3) o5.le)
        · rw [if_neg h20] at hk
          refine br_f (by omega) ?_
          obtain ⟨G4, q5, q6⟩ := q4
          have hfin := Get_loop (b2 := b2) (b12 := b12) (b20 := b20) (kd := x) (v := (v1.1 : Int)) (i0 := (v2.1 : Int)) (t := ofL v3.1) (by omega : 1000 ≤ F) (by omega : U.size ≤ 1000000) (show v4.1 ≤ 20 by omega) v4.1 0 F v4.2 [] Sl.nil H24 (by omega) (by omega) (by omega) ok5 rfl ⟨G2, o5, G3, q3, G3, On.nil STR 1 G3, ⟨G4, q5, q6⟩⟩ hk
          exact hfin
      unfold RdF
      cases hb : bs U with
      | nil =>
        have hz : U.size = 0 := by rw [← bs_len, hb]; rfl
        rw [if_neg (by omega)]
        refine first 0 0 (some (EV.mk U.size (some (.no 3)))) ?_ (by omega) (by rw [hb]; intro h; cases h)
        rw [hb, hz]; rfl
      | cons c rest =>
        have hz : U.size = rest.length + 1 := by rw [← bs_len, hb]; rfl
        rw [if_pos (by omega)]
        have ec : (fixV ((List.drop 0 (c :: rest)).take 1) : Int) = (c.toNat : Int) := by simp [fixV]
        rw [ec]
        refine first (c.toNat : Int) ((0 + 1 : Nat) : Int) none ?_ (by omega) ?_
        · rw [hb]; rfl
        · rw [hb]; intro _; show 1 ≤ (c :: rest).length; simp
end
end Go.Proofs.YtkfbmoekghbgbaaDoor.K
