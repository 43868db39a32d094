/- What the functions of package disk do to a disk: rot, a cut, two disks, a crash. -/
import Derived.Test.YtknhlipealekoaaDoorSpecDisk2
set_option linter.unusedVariables false
set_option linter.unusedSimpArgs false
namespace Go.Proofs.YtknhlipealekoaaDoor.K
open Go

theorem byteCells_set {l : List UInt8} {i : Nat} {c : UInt8} (h : i < l.length) : wrl (byteCells l) i [.int .u8 (c.toNat : Int)] = byteCells (l.set i c) := by
  apply List.ext_getElem?
  intro j
  rw [wrl_get (by simp [byteCells]; exact h)]
  simp only [byteCells, List.getElem?_map, List.getElem?_set]
  by_cases hj : j = i
  · subst hj; simp [h]
  · simp [hj, Ne.symm hj]
theorem turnB_of {s : ByteArray} {a : Nat} {y : Int} (h : a < (bs s).length) : turnB s a y = ofL ((bs s).set a (UInt8.ofNat ((bs s)[a].toNat ^^^ y.toNat))) := dif_pos h
theorem turnB_out {s : ByteArray} {a : Nat} {y : Int} (h : ¬ a < (bs s).length) : turnB s a y = s := dif_neg h
theorem turnB_size (s : ByteArray) (a : Nat) (y : Int) : (turnB s a y).size = s.size := by
  by_cases h : a < (bs s).length
  · rw [turnB_of h, ofL_size, List.length_set, bs_len]
  · rw [turnB_out h]
section
variable {F : Nat} {b : Nat} {m : DM} {H0 H : SH}
theorem turned_spec {s : ByteArray} {a : Nat} {y : Int} (hy : 0 ≤ y ∧ y ≤ 255) {K : ByteArray → SH → Prop} (k : K (turnB s a y) H) : disk_turned.wp F s (a : Int) y H K := by
  by_cases h : a < (bs s).length
  · have hsz := bs_len s
    refine br_f (by omega) fun b5 n6 hb5 hn6 => ⟨(b5, 0), rfl, by omega, by simp; omega, ((bs s)[a].toNat : Int), ?_, (b5, 0), rfl, by omega, by simp; omega, ?_, (bs s).set a (UInt8.ofNat ((bs s)[a].toNat ^^^ y.toNat)), ?_, ?_, H, ?_, ?_⟩
    · refine has_upd ?_
      show (byteCells (bs s))[0 + (a : Int).toNat * 1]? = _
      rw [Int.toNat_natCast, Nat.mul_one, Nat.zero_add]
      unfold byteCells; rw [List.getElem?_map, List.getElem?_eq_getElem h]; rfl
    · refine wrs_upd rfl ?_
      show 0 + (a : Int).toNat * 1 + 1 ≤ (byteCells (bs s)).length
      rw [Int.toNat_natCast, byteCells, List.length_map]; omega
    · simp [hsz]
    · rw [setl_upd]
      have hlt := (bs s)[a].toNat_lt
      have hx : ((bs s)[a].toNat ^^^ y.toNat) < 256 := Nat.xor_lt_two_pow (n := 8) (by omega) (by omega)
      have e : ibits .xor .u8 ((bs s)[a].toNat : Int) y = ((UInt8.ofNat ((bs s)[a].toNat ^^^ y.toNat)).toNat : Int) := by
        rw [ibits_xor8 (by omega) hy.1 (by omega) hy.2, UInt8.toNat_ofNat_of_lt' (by show _ < 256; omega)]; simp
      rw [e]
      refine row_upd ?_
      simp only [Int.toNat_natCast, Nat.mul_one, Nat.zero_add]
      exact byteCells_set h
    · rw [setl_upd]; exact le_upd hb5
    · rw [turnB_of h] at k; exact k
  · rw [turnB_out h] at k
    have hsz := bs_len s
    exact br_t (by omega) ⟨H, .refl H, k⟩

/-- A slot of 'now': where it lies, and what a write of it leads to. -/
theorem nowAt (h : On (DiskI b m) H0 H) {n : Nat} (hn : n < m.now.slots.length) : ∃ S p, H.has (b, 3) (sv S) ∧ S.a = some p ∧ S.len = m.now.slots.length ∧ H.has (p.1, p.2 + n) (.string m.now.slots[n]) ∧ SH.wrs H (p.1, p.2 + n) 1 ∧
    ∀ s, On (DiskI b { m with now := ⟨m.now.log, m.now.slots.set n s⟩ }) H0 (SH.setl H (p.1, p.2 + n) [.string s]) := by
  obtain ⟨S1, S2, W, H1, H2, H3, h1, h2, h3, h4⟩ := disk_open h
  obtain ⟨p, hp, hh⟩ := (h2.row.le h1.le).get (strc_get hn)
  obtain ⟨H4, k1, k2⟩ := On.swap .blk .sl h1 h2
  have k3 : ∀ s, _ := fun s => k1.put (k := n) (vs := [Value.string s]) (by rw [strc_len]; simp; omega) hp
  refine ⟨S1, p, h1.has rfl, hp, sl_len h2, hh, by simpa using (k3 ByteArray.empty).1, fun s => ?_⟩
  have k4 := (k3 s).2
  rw [wrl_str hn] at k4
  obtain ⟨H5, k5, k6⟩ := On.swap .sl .blk k4 k2
  exact disk_close (m := { m with now := ⟨m.now.log, m.now.slots.set n s⟩ }) (S1 := S1) (S2 := S2) (W := W) k5 k6 h3 h4
theorem lastAt (h : On (DiskI b m) H0 H) {n : Nat} (hn : n < m.lasts.slots.length) : ∃ S p, H.has (b, 5) (sv S) ∧ S.a = some p ∧ S.len = m.lasts.slots.length ∧ H.has (p.1, p.2 + n) (.string m.lasts.slots[n]) ∧ SH.wrs H (p.1, p.2 + n) 1 ∧
    ∀ s, On (DiskI b { m with lasts := ⟨m.lasts.log, m.lasts.slots.set n s⟩ }) H0 (SH.setl H (p.1, p.2 + n) [.string s]) := by
  obtain ⟨S1, S2, W, H1, H2, H3, h1, h2, h3, h4⟩ := disk_open h
  obtain ⟨p, hp, hh⟩ := (h3.row.le (h2.le.trans h1.le)).get (strc_get hn)
  obtain ⟨G2, g2, g3⟩ := On.swap .sl .sl h2 h3
  obtain ⟨H4, k1, k2⟩ := On.swap .blk .sl h1 g2
  have k3 : ∀ s, _ := fun s => k1.put (k := n) (vs := [Value.string s]) (by rw [strc_len]; simp; omega) hp
  refine ⟨S2, p, h1.has rfl, hp, sl_len h3, hh, by simpa using (k3 ByteArray.empty).1, fun s => ?_⟩
  have k4 := (k3 s).2
  rw [wrl_str hn] at k4
  obtain ⟨H5, k5, k6⟩ := On.swap .sl .blk k4 k2
  obtain ⟨H6, k7, k8⟩ := On.swap .sl .sl k6 g3
  exact disk_close (m := { m with lasts := ⟨m.lasts.log, m.lasts.slots.set n s⟩ }) (S1 := S1) (S2 := S2) (W := W) k5 k7 k8 h4
theorem wrc_set : ∀ {l : List Wr} {i : Nat} {s : ByteArray} (h : i < l.length), wrl (wrc l) (i * 2 + 1) [.string s] = wrc (l.set i (l[i].1, s))
  | w :: l, 0, s, h => by simp [wrc, wrl]
  | w :: l, i + 1, s, h => by
    have ih := wrc_set (l := l) (i := i) (s := s) (by simpa using h)
    have e : ∀ w l, wrc (w :: l) = [.int .i64 w.1, .string w.2] ++ wrc l := fun _ _ => rfl
    have hl := wrc_len l
    have hi : i < l.length := by simpa using h
    rw [e, show (i + 1) * 2 + 1 = ([Value.int .i64 w.1, .string w.2]).length + (i * 2 + 1) by simp; omega, wrl_mid _ _ _ _ (by rw [hl]; simp; omega), ih]
    rfl
theorem waitAt (h : On (DiskI b m) H0 H) {i : Nat} (hn : i < m.waits.length) : ∃ S p, H.has (b, 6) (sv S) ∧ S.a = some p ∧ S.len = m.waits.length ∧ H.has (p.1, p.2 + i * 2) (.int .i64 m.waits[i].1) ∧ H.has (p.1, p.2 + i * 2 + 1) (.string m.waits[i].2) ∧ SH.wrs H (p.1, p.2 + i * 2 + 1) 1 ∧
    ∀ s, On (DiskI b { m with waits := m.waits.set i (m.waits[i].1, s) }) H0 (SH.setl H (p.1, p.2 + i * 2 + 1) [.string s]) := by
  obtain ⟨S1, S2, W, H1, H2, H3, h1, h2, h3, h4⟩ := disk_open h
  have hrow := h4.row.le (h3.le.trans (h2.le.trans h1.le))
  obtain ⟨p, hp, hh⟩ := hrow.get (wrc_get hn).1
  obtain ⟨p', hp', hh'⟩ := hrow.get (wrc_get hn).2
  rw [hp] at hp'; cases hp'
  obtain ⟨I1, i1, i1'⟩ := On.swap .sl .sl h3 h4
  obtain ⟨I2, i2, i2'⟩ := On.swap .sl .sl h2 i1
  obtain ⟨I3, i3, i3'⟩ := On.swap .blk .sl h1 i2
  have hlen := wrc_len m.waits
  have k3 : ∀ s, _ := fun s => i3.put (k := i * 2 + 1) (vs := [Value.string s]) (by rw [hlen]; simp; omega) hp
  refine ⟨W, p, h1.has rfl, hp, wr_len h4, hh, hh', by have := (k3 ByteArray.empty).1; simpa [Nat.add_assoc] using this, fun s => ?_⟩
  have o1 := (k3 s).2
  rw [wrc_set hn] at o1
  obtain ⟨I4, a1, a2⟩ := On.swap .sl .blk o1 i3'
  obtain ⟨I5, a4, a5⟩ := On.swap .sl .sl a2 i2'
  obtain ⟨I6, a6, a7⟩ := On.swap .sl .sl a5 i1'
  exact disk_close (m := { m with waits := m.waits.set i (m.waits[i].1, s) }) (S1 := S1) (S2 := S2) (W := W) a1 a4 a6 a7
theorem getD_lt {α : Type} {l : List α} {i : Nat} {d : α} (h : i < l.length) : l.getD i d = l[i] := by simp [List.getD, h]
theorem Rot_waits {n : Int} {a : Nat} {y : Int} (hy : 0 ≤ y ∧ y ≤ 255) (hsz : m.waits.length ≤ 1000000000000) (h : On (DiskI b m) H0 H) {K : Bool → SH → Prop} (k : ∀ H', On (DiskI b { m with waits := turnW m.waits n a y }) H0 H' → K true H') :
    ∀ (j f : Nat), j ≤ m.waits.length → j < f → turnD m.waits n a y j = turnW m.waits n a y → disk_Disk_Rot.l2 F K f b 0 n a y ((j : Int) - 1) H := by
  intro j
  induction j with
  | zero =>
    intro f hj hf e
    obtain ⟨f, rfl⟩ : ∃ i, f = i + 1 := ⟨f - 1, by omega⟩
    refine br_f (by omega) ⟨H, .refl H, k H ?_⟩
    rw [← e]; exact h
  | succ j ih =>
    intro f hj hf e
    obtain ⟨f, rfl⟩ : ∃ i, f = i + 1 := ⟨f - 1, by omega⟩
    obtain ⟨S, p, h1, h2, h3, h4, h5, h6, h7⟩ := waitAt h (i := j) (by omega)
    have hjj : (((j + 1 : Nat) : Int) - 1) = (j : Int) := by omega
    rw [hjj]
    have eg : m.waits.getD j (0, ByteArray.empty) = m.waits[j] := getD_lt (by omega)
    unfold turnD at e
    rw [eg] at e
    refine br_t (by omega) ⟨S, h1, p, h2, by omega, by omega, m.waits[j].1, by simpa using h4, ?_⟩
    by_cases hc : m.waits[j].1 = n
    · rw [if_pos hc] at e
      refine br_t hc ⟨m.waits[j].2, by simpa using h5, turned_spec hy ⟨by simpa using h6, _, .refl _, k _ ?_⟩⟩
      rw [← e, ← hc]
      simpa using h7 (turnB m.waits[j].2 a y)
    · rw [if_neg hc] at e
      refine br_f hc ?_
      rw [w64_id (by omega)]
      exact ih f (by omega) (by omega) e
theorem Rot_spec {n a y : Int} (hF : 10 ≤ F) (hy : 0 ≤ y ∧ y ≤ 255) (hl : m.lasts.slots.length = m.now.slots.length) (hW : m.waits.length < F) (hsz : m.waits.length ≤ 1000000000000) (h : On (DiskI b m) H0 H) {K : Bool → SH → Prop}
    (k : ∀ H', On (DiskI b (m.rot n a y)) H0 H' → K (m.rotB n a) H') : disk_Disk_Rot.wp F (some (b, 0)) n a y H K := by
  refine p_some ?_
  by_cases c : 0 ≤ n ∧ n < m.now.slots.length ∧ 0 ≤ a ∧ a < (m.now.slots.getD n.toNat ByteArray.empty).size
  · have hb : m.rotB n a = true := decide_eq_true c
    unfold DM.rot at k
    rw [if_pos hb, hb] at k
    obtain ⟨c1, c2, c3, c4⟩ := c
    have hn : n.toNat < m.now.slots.length := by omega
    rw [getD_lt hn] at c4
    obtain ⟨S, p, q1, q2, q3, q4, q5, q6⟩ := nowAt h hn
    refine br_f (by omega) ⟨S, q1, br_f (by omega) (br_f (by omega) ⟨S, q1, p, q2, by omega, by omega, m.now.slots[n.toNat], by simpa using q4, br_f (by omega) fun b21 hb21 => ?_⟩)⟩
    obtain ⟨H0', h', ht, hle⟩ := h.temp .disk hb21 ⟨[pv (some (b, 0 + 2)), pv (some (b, 0 + 4))], 86, false, 2⟩
    obtain ⟨a', rfl⟩ := Int.eq_ofNat_of_zero_le c3
    obtain ⟨f, rfl⟩ : ∃ i, F = i + 3 := ⟨F - 3, by omega⟩
    -- now
    obtain ⟨S, p, q1, q2, q3, q4, q5, q6⟩ := nowAt h' hn
    refine br_t (by omega) ⟨(b21, 0), rfl, by omega, by simp, some (b, 2), ⟨_, h'.le _ _ ht, rfl⟩, p_some ⟨S, q1, S, q1, p, q2, by omega, by omega, m.now.slots[n.toNat], by simpa using q4, turnB m.now.slots[n.toNat] a' y, turned_spec hy ⟨rfl, .refl _⟩, p, q2, by omega, by omega, by simpa using q5, ?_⟩⟩
    have g1 := q6 (turnB m.now.slots[n.toNat] a' y)
    rw [Nat.mul_one]
    generalize SH.setl _ (p.1, p.2 + n.toNat) [Value.string (turnB m.now.slots[n.toNat] a' y)] = HH at g1 ⊢
    rw [show w64 (0 + 1) = 1 by decide]
    -- lasts
    have hn2 : n.toNat < m.lasts.slots.length := by omega
    obtain ⟨S2, p2, r1, r2, r3, r4, r5, r6⟩ := lastAt g1 (n := n.toNat) hn2
    refine br_t (by omega) ⟨(b21, 0), rfl, by omega, by simp, some (b, 4), ⟨_, g1.le _ _ ht, rfl⟩, p_some ⟨S2, r1, S2, r1, p2, r2, by omega, by simp only [] at r3; omega, m.lasts.slots[n.toNat], by simpa using r4, turnB m.lasts.slots[n.toNat] a' y, turned_spec hy ⟨rfl, .refl _⟩, p2, r2, by omega, by simp only [] at r3; omega, by simpa using r5, ?_⟩⟩
    have g2 := r6 (turnB m.lasts.slots[n.toNat] a' y)
    rw [Nat.mul_one]
    generalize SH.setl _ (p2.1, p2.2 + n.toNat) [Value.string (turnB m.lasts.slots[n.toNat] a' y)] = HH2 at g2 ⊢
    rw [show w64 (1 + 1) = 2 by decide]
    -- what waits
    have g3 := g2.below hle
    obtain ⟨S1, S3, W, G1, G2, G3, w1, w2, w3, w4⟩ := disk_open g3
    have hWl := wr_len w4
    refine br_f (by omega) ⟨W, w1.has rfl, ?_⟩
    rw [hWl, w64_id (by simp only []; omega)]
    refine Rot_waits (m := { m with now := ⟨m.now.log, m.now.slots.set n.toNat (turnB m.now.slots[n.toNat] a' y)⟩, lasts := ⟨m.lasts.log, m.lasts.slots.set n.toNat (turnB m.lasts.slots[n.toNat] a' y)⟩ }) hy hsz g3 (fun H' h' => k H' ?_) _ _ (Nat.le_refl _) (by simp only []; omega) rfl
    unfold Ct.turn
    rw [getD_lt hn, getD_lt hn2]
    exact h'
  · have hb : m.rotB n a = false := decide_eq_false c
    unfold DM.rot at k
    rw [hb] at k
    have k := k H h
    obtain ⟨S1, S2, W, H1, H2, H3, h1, h2, h3, h4⟩ := disk_open h
    have hl1 := sl_len h2
    by_cases n0 : n < 0
    · exact br_t n0 ⟨H, .refl H, k⟩
    · refine br_f n0 ⟨S1, h1.has rfl, ?_⟩
      by_cases n1 : n ≥ S1.len
      · exact br_t n1 ⟨H, .refl H, k⟩
      · refine br_f n1 ?_
        by_cases a0 : a < 0
        · exact br_t a0 ⟨H, .refl H, k⟩
        · have hn : n.toNat < m.now.slots.length := by omega
          obtain ⟨p, hp, hh⟩ := (h2.row.le h1.le).get (strc_get hn)
          refine br_f a0 ⟨S1, h1.has rfl, p, hp, by omega, by omega, m.now.slots[n.toNat], by simpa using hh, br_t ?_ ⟨H, .refl H, k⟩⟩
          rw [getD_lt hn] at c
          omega
theorem Cut_spec {n : Int} (hleft : -1 ≤ m.left ∧ m.left ≤ 9223372036854775807) (hs : m.now.slots.length ≤ 1000000000000) (h : On (DiskI b m) H0 H) {K : Option EV → SH → Prop}
    (k : ∀ H', On (DiskI b (m.cut n)) H0 H' → K (errN (m.cutE n)) H') : disk_Disk_Cut.wp F (some (b, 0)) n H K := by
  unfold DM.cut DM.cutE at k
  refine bars_spec h ?_
  cases hd : m.down with
  | true => simp only [hd, if_true] at k ⊢; exact o_some ⟨H, .refl H, k H h⟩
  | false =>
    simp only [hd, Bool.false_eq_true, if_false] at k ⊢
    refine o_none ?_
    obtain ⟨S1, S2, W, H1, H2, H3, h1, h2, h3, h4⟩ := disk_open h
    by_cases h0 : n < 0
    · rw [if_pos (.inl h0), if_pos (.inl h0)] at k
      exact br_t h0 ⟨H, .refl H, k H h⟩
    · refine br_f h0 (p_some ⟨m.now.log, h1.has rfl, ?_⟩)
      by_cases hg : n > m.now.log.size
      · rw [if_pos (.inr hg), if_pos (.inr hg)] at k
        exact br_t hg ⟨H, .refl H, k H h⟩
      · have hc : ¬ (n < 0 ∨ n > m.now.log.size) := by omega
        rw [if_neg hc, if_neg hc] at k
        refine br_f hg (burn_spec hleft h fun H' h' => ?_)
        by_cases hb : m.left = 0
        · have hE : m.burnE = 8 := if_pos hb
          rw [hE] at k ⊢
          rw [if_pos hb] at k
          exact o_some ⟨H', .refl _, k H' h'⟩
        · have hE : m.burnE = 0 := if_neg hb
          rw [hE] at k ⊢
          rw [if_neg hb] at k
          obtain ⟨e1, e2, e3⟩ := burn_now m
          obtain ⟨S1, S2, W, H1, H2, H3, h1, h2, h3, h4⟩ := disk_open h'
          have hlog : m.burn.now.log = m.now.log := by rw [e1]
          refine o_none ⟨m.burn.now.log, h1.has rfl, by omega, by omega, by rw [hlog]; omega, h1.wrs rfl (Nat.le_of_ble_eq_true rfl), ?_⟩
          have g := On.setl (k := 2) (vs := [.string (m.burn.now.log.extract (0 : Int).toNat n.toNat)]) h1
          refine settle_spec (m := { m.burn with now := ⟨m.burn.now.log.extract 0 n.toNat, m.burn.now.slots⟩ }) (H0 := H0) (by show m.burn.now.slots.length ≤ _; rw [e1]; exact hs) (disk_close (S1 := S1) (S2 := S2) (W := W) g h2 h3 h4) fun H2 h2 => ⟨H2, .refl _, k H2 ?_⟩
          unfold DM.settle at h2
          rw [e1] at h2
          exact h2
theorem EqualS_loop {l l' : Sl} {ss tt : List ByteArray} (hl : l.len = ss.length) (hl' : l'.len = ss.length) (ht : tt.length = ss.length) (hr : H.row l.a (strc ss)) (hr' : H.row l'.a (strc tt)) (hm : ss.length ≤ 1000000000000) {K : Bool → SH → Prop} (k : K (decide (ss = tt)) H) :
    ∀ (j i f : Nat), ss.length - i = j → i ≤ ss.length → j < f → ss.take i = tt.take i → slices_Equal_string_string.l1 F K f l l' (ss.length : Int) (i : Int) H := by
  intro j
  induction j with
  | zero =>
    intro i f hj hi hf e
    obtain ⟨f, rfl⟩ : ∃ i, f = i + 1 := ⟨f - 1, by omega⟩
    refine br_f (by omega) ⟨H, .refl H, ?_⟩
    rw [List.take_of_length_le (by omega), List.take_of_length_le (by omega)] at e
    rw [decide_eq_true e] at k; exact k
  | succ j ih =>
    intro i f hj hi hf e
    obtain ⟨f, rfl⟩ : ∃ i, f = i + 1 := ⟨f - 1, by omega⟩
    have h1 : i < ss.length := by omega
    have h2 : i < tt.length := by omega
    refine br_t (by omega) (row_at hr (strc_get h1) (by omega) fun p hp hh => ⟨ss[i], hh, row_at hr' (strc_get h2) (by omega) fun p' hp' hh' => ⟨tt[i], hh', ?_⟩⟩)
    by_cases c : ss[i] = tt[i]
    · refine br_t c ?_
      rw [w64_id (by omega), show (i : Int) + 1 = ((i + 1 : Nat) : Int) by omega]
      refine ih (i + 1) f (by omega) (by omega) (by omega) ?_
      rw [List.take_succ_eq_append_getElem h1, List.take_succ_eq_append_getElem h2, e, c]
    · refine br_f c ⟨H, .refl H, ?_⟩
      rw [decide_eq_false (fun h => c (by subst h; rfl))] at k; exact k
theorem EqualS_spec {l l' : Sl} {ss tt : List ByteArray} (hl : l.len = ss.length) (hl' : l'.len = tt.length) (hr : H.row l.a (strc ss)) (hr' : H.row l'.a (strc tt)) (hm : ss.length ≤ 1000000000000) (hF : ss.length < F) {K : Bool → SH → Prop} (k : K (decide (ss = tt)) H) :
    slices_Equal_string_string.wp F l l' H K := by
  by_cases c : ss.length = tt.length
  · refine br_f (by omega) ?_
    rw [hl]
    exact EqualS_loop hl (by omega) (by omega) hr hr' hm k _ 0 F rfl (by omega) (by omega) rfl
  · refine br_t (by omega) ⟨H, .refl H, ?_⟩
    rw [decide_eq_false (fun h => c (by rw [h]))] at k; exact k
def DM.same (m x : DM) : Bool := decide (m.now.log = x.now.log ∧ m.now.slots = x.now.slots)
theorem Same_spec {b' : Nat} {x : DM} {H0' : SH} (hm : m.now.slots.length ≤ 1000000000000) (hF : m.now.slots.length < F) (h : On (DiskI b m) H0 H) (h' : On (DiskI b' x) H0' H) {K : Bool → SH → Prop} (k : K (m.same x) H) : disk_Disk_Same.wp F (some (b, 0)) (some (b', 0)) H K := by
  obtain ⟨S1, S2, W, H1, H2, H3, h1, h2, h3, h4⟩ := disk_open h
  obtain ⟨T1, T2, V, G1, G2, G3, g1, g2, g3, g4⟩ := disk_open h'
  unfold DM.same at k
  refine p_some (p_some ⟨m.now.log, h1.has rfl, x.now.log, g1.has rfl, ?_⟩)
  by_cases c : m.now.log = x.now.log
  · refine br_t c ⟨S1, h1.has rfl, T1, g1.has rfl, decide (m.now.slots = x.now.slots), EqualS_spec (sl_len h2) (sl_len g2) (h2.row.le h1.le) (g2.row.le g1.le) hm hF ⟨rfl, rfl⟩, H, .refl H, ?_⟩
    simpa [c] using k
  · refine br_f c ⟨H, .refl H, ?_⟩
    simpa [c] using k
end
end Go.Proofs.YtknhlipealekoaaDoor.K
