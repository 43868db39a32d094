/- What the functions of package disk do to a disk: new ones, writes, reads. -/
import Derived.Test.YtknhlipealekoaaDoorSpecDisk
set_option linter.unusedVariables false
set_option linter.unusedSimpArgs false
namespace Go.Proofs.YtknhlipealekoaaDoor.K
open Go

/-- How large it is, at most. -/
structure DM.fit (N : Nat) (m : DM) : Prop where
  log : m.now.log.size ≤ N
  tot : m.lasts.log.size + (m.waits.map fun w => w.2.size).sum ≤ N
  len : m.waits.length ≤ N
  nowS : ∀ s ∈ m.now.slots, s.size ≤ 64
  lastS : ∀ s ∈ m.lasts.slots, s.size ≤ 64
  waitS : ∀ w ∈ m.waits, w.1 ≠ -1 → w.2.size ≤ 64
  slots : m.now.slots.length ≤ 4096

theorem cellsF_const (n : Nat) (v : Value) : (cellsF n fun _ => v) = List.replicate n v := by
  apply List.ext_getElem?
  intro i
  by_cases h : i < n
  · rw [cellsF_get h]; simp [h]
  · rw [List.getElem?_eq_none (by rw [cellsF_len]; omega), List.getElem?_eq_none (by simp; omega)]
section
variable {F : Nat} {b : Nat} {m : DM} {H0 H : SH}
theorem On.make {b : Nat} {H : SH} (hb : H b = none) (n : Nat) : On (SlI STR 1 ⟨some (b, 0), n, n⟩ (strc (List.replicate n ByteArray.empty))) H (H.upd b ⟨(Builtin.zeroCells (Value.cells (.string ByteArray.empty : Value)) n).toList, STR, false, n * 1⟩) := by
  have e : (Builtin.zeroCells (Value.cells (.string ByteArray.empty : Value)) n).toList = strc (List.replicate n ByteArray.empty) := by
    rw [zeroCells_cells _ _ rfl, cellsF_const]; simp [strc]
  rw [e]
  exact ⟨le_upd hb, fun c => c = b, ⟨by simp [strc], .inr ⟨b, [], rfl, Nat.le_refl _, ⟨_, SH.upd_same _ _ _, by simp⟩, fun _ => .rfl⟩⟩, fun c hc => by rw [hc]; exact hb⟩
theorem New_spec {x : Int} {n : Nat} (hx : imin (imax x 0) 4096 = n) {K : Option (Nat × Nat) → SH → Prop} (k : ∀ b H', On (DiskI b (DM.new n)) H H' → H b = none → K (some (b, 0)) H') : disk_New.wp F x H K := by
  unfold disk_New.wp
  rw [hx]
  have hn : n ≤ 4096 := by
    have : imin (imax x 0) 4096 ≤ 4096 := by unfold imin; split <;> omega
    omega
  simp only [Int.toNat_natCast]
  refine ⟨by omega, by omega, by omega, by omega, fun b2 h2 b6 h6 hne b10 h10 hn2 hn6 => ⟨_, .refl _, ?_⟩⟩
  have k1 := On.make h2 n
  have k2 := On.make (b := b6) (H := H.upd b2 ⟨(Builtin.zeroCells (Value.cells (.string ByteArray.empty : Value)) n).toList, STR, false, n * 1⟩) (by rw [SH.upd_ne _ _ hne]; exact h6) n
  have k3 := On.new (b := b10) (o := dcell (DM.new n) ⟨some (b2, 0), n, n⟩ ⟨some (b6, 0), n, n⟩ Sl.nil) (H := (H.upd b2 ⟨(Builtin.zeroCells (Value.cells (.string ByteArray.empty : Value)) n).toList, STR, false, n * 1⟩).upd b6 ⟨(Builtin.zeroCells (Value.cells (.string ByteArray.empty : Value)) n).toList, STR, false, n * 1⟩) (by rw [SH.upd_ne _ _ hn6, SH.upd_ne _ _ hn2]; exact h10)
  obtain ⟨H4, k4, k5⟩ := On.swap .sl .sl k2 k1
  exact k _ _ (disk_close (m := DM.new n) k3 k4 k5 (On.nil _ _ _)) h10

theorem burn_now (m : DM) : m.burn.now = m.now ∧ m.burn.lasts = m.lasts ∧ m.burn.waits = m.waits := by
  unfold DM.burn
  split
  · exact ⟨rfl, rfl, rfl⟩
  · split <;> exact ⟨rfl, rfl, rfl⟩
theorem rowN {H : SH} {b : Nat} {o : AO} {n : Nat} {cs : List Value} (h : H b = some o) (hc : ∀ j u, cs[j]? = some u → o.cells[n + j]? = some u) : H.row (some (b, n)) cs := .inr ⟨(b, n), o, rfl, h, hc⟩
/-- 'now' takes a write. -/
theorem putNow_spec {w : Wr} (hw : w.1 = -1 ∨ 0 ≤ w.1 ∧ w.1 < m.now.slots.length) (hs : m.now.log.size + w.2.size ≤ 9223372036854775807) (h : On (DiskI b m) H0 H) {K : SH → Prop} (k : ∀ H', On (DiskI b { m with now := m.now.put w }) H0 H' → K H') :
    disk_content_put.wp F (some (b, 2)) w.1 w.2 H K := by
  refine fun b4 hb4 => ⟨w.1, has_upd rfl, ?_⟩
  obtain ⟨H0', h, ht, hle⟩ := h.temp .disk hb4 ⟨[.int .i64 w.1, .string w.2], WRT, false, 2⟩
  obtain ⟨S1, S2, W, H1, H2, H3, h1, h2, h3, h4⟩ := disk_open h
  by_cases h0 : w.1 = -1
  · refine br_t h0 (p_some ⟨m.now.log, h1.has rfl, w.2, has_upd rfl, hs, h1.wrs rfl (Nat.le_of_ble_eq_true rfl), _, .refl _, k _ ?_⟩)
    have e : m.now.put w = ⟨m.now.log ++ w.2, m.now.slots⟩ := if_pos h0
    rw [e]
    exact (disk_close (m := { m with now := ⟨m.now.log ++ w.2, m.now.slots⟩ }) (On.setl (k := 2) (vs := [.string (m.now.log ++ w.2)]) h1) h2 h3 h4).below hle
  · have h5 := hw.resolve_left h0
    have hlen := sl_len h2
    have hlt : w.1.toNat < m.now.slots.length := by omega
    refine br_f h0 (p_some ⟨S1, h1.has rfl, w.1, has_upd rfl, w.2, has_upd rfl, ?_⟩)
    obtain ⟨p, hp, _⟩ := (h2.row.le h1.le).get (strc_get hlt)
    obtain ⟨H4, k1, k2⟩ := On.swap .blk .sl h1 h2
    have k3 := k1.put (k := w.1.toNat) (vs := [.string w.2]) (by rw [strc_len]; simp; omega) hp
    refine ⟨p, hp, by omega, by omega, by simpa using k3.1, _, .refl _, ?_⟩
    rw [Nat.mul_one]
    refine k _ ?_
    have k4 := k3.2
    rw [wrl_str hlt] at k4
    have e : m.now.put w = ⟨m.now.log, m.now.slots.set w.1.toNat w.2⟩ := if_neg h0
    rw [e]
    obtain ⟨H5, k5, k6⟩ := On.swap .sl .blk k4 k2
    exact (disk_close (m := { m with now := ⟨m.now.log, m.now.slots.set w.1.toNat w.2⟩ }) (S1 := S1) (S2 := S2) (W := W) k5 k6 h3 h4).below hle
/-- 'lasts' takes a write. -/
theorem putLast_spec {w : Wr} (hw : w.1 = -1 ∨ 0 ≤ w.1 ∧ w.1 < m.lasts.slots.length) (hs : m.lasts.log.size + w.2.size ≤ 9223372036854775807) (h : On (DiskI b m) H0 H) {K : SH → Prop} (k : ∀ H', On (DiskI b { m with lasts := m.lasts.put w }) H0 H' → K H') :
    disk_content_put.wp F (some (b, 4)) w.1 w.2 H K := by
  refine fun b4 hb4 => ⟨w.1, has_upd rfl, ?_⟩
  obtain ⟨H0', h, ht, hle⟩ := h.temp .disk hb4 ⟨[.int .i64 w.1, .string w.2], WRT, false, 2⟩
  obtain ⟨S1, S2, W, H1, H2, H3, h1, h2, h3, h4⟩ := disk_open h
  by_cases h0 : w.1 = -1
  · refine br_t h0 (p_some ⟨m.lasts.log, h1.has rfl, w.2, has_upd rfl, hs, h1.wrs rfl (Nat.le_of_ble_eq_true rfl), _, .refl _, k _ ?_⟩)
    have e : m.lasts.put w = ⟨m.lasts.log ++ w.2, m.lasts.slots⟩ := if_pos h0
    rw [e]
    exact (disk_close (m := { m with lasts := ⟨m.lasts.log ++ w.2, m.lasts.slots⟩ }) (On.setl (k := 4) (vs := [.string (m.lasts.log ++ w.2)]) h1) h2 h3 h4).below hle
  · have h5 := hw.resolve_left h0
    have hlen := sl_len h3
    have hlt : w.1.toNat < m.lasts.slots.length := by omega
    refine br_f h0 (p_some ⟨S2, h1.has rfl, w.1, has_upd rfl, w.2, has_upd rfl, ?_⟩)
    obtain ⟨p, hp, _⟩ := (h3.row.le (h2.le.trans h1.le)).get (strc_get hlt)
    obtain ⟨G2, g2, g3⟩ := On.swap .sl .sl h2 h3
    obtain ⟨H4, k1, k2⟩ := On.swap .blk .sl h1 g2
    have k3 := k1.put (k := w.1.toNat) (vs := [.string w.2]) (by rw [strc_len]; simp; omega) hp
    refine ⟨p, hp, by omega, by omega, by simpa using k3.1, _, .refl _, ?_⟩
    rw [Nat.mul_one]
    refine k _ ?_
    have k4 := k3.2
    rw [wrl_str hlt] at k4
    have e : m.lasts.put w = ⟨m.lasts.log, m.lasts.slots.set w.1.toNat w.2⟩ := if_neg h0
    rw [e]
    obtain ⟨H5, k5, k6⟩ := On.swap .sl .blk k4 k2
    obtain ⟨H6, k7, k8⟩ := On.swap .sl .sl k6 g3
    exact (disk_close (m := { m with lasts := ⟨m.lasts.log, m.lasts.slots.set w.1.toNat w.2⟩ }) (S1 := S1) (S2 := S2) (W := W) k5 k7 k8 h4).below hle
theorem wrc_append (l : List Wr) (w : Wr) : wrc (l ++ [w]) = wrc l ++ [.int .i64 w.1, .string w.2] := by simp [wrc]
/-- A write is done, and waits. -/
theorem lies_spec {w : Wr} {N : Nat} (hN : N ≤ 1000000000000) (hf : m.fit N) (hw : w.1 = -1 ∨ 0 ≤ w.1 ∧ w.1 < m.now.slots.length) (hs : w.2.size ≤ 1000000000000) {b4 : Nat} (ht : H0 b4 = some ⟨[.int .i64 w.1, .string w.2], WRT, false, 2⟩) (h : On (DiskI b m) H0 H) {K : Option EV → SH → Prop}
    (k : ∀ H', On (DiskI b { m with now := m.now.put w, waits := m.waits ++ [w] }) H0 H' → K none H') :
    ∃ (x14 : Int) (s15 : ByteArray), SH.row H (some (b4, 0)) [.int .i64 x14, .string s15] ∧ disk_content_put.wp F (some (b, (0 + 2))) x14 s15 H (fun H18 =>
      ∃ (l19 : Sl), SH.has H18 (b, (0 + 6)) (sv l19) ∧ ∃ (x21 : Int) (s22 : ByteArray), SH.row H18 (some (b4, 0)) [.int .i64 x21, .string s22] ∧
      ∀ b24, H18 b24 = none → ∃ w30, SH.row (SH.upd H18 b24 (⟨[.int .i64 x21, .string s22], WRT, false, 2⟩ : AO)) (⟨some (b24, 0), 1, 1⟩ : Sl).a w30 ∧
      AppendQ (SH.upd H18 b24 (⟨[.int .i64 x21, .string s22], WRT, false, 2⟩ : AO)) WRT 2 24 l19 (⟨some (b24, 0), 1, 1⟩ : Sl).len w30 (fun l27 H28 =>
        SH.wrs H28 (b, (0 + 6)) 1 ∧ ∃ Hr, SH.le Hr (SH.setl H28 (b, (0 + 6)) [sv l27]) ∧ K none Hr)) := by
  have hl := hf.log
  have hlen := hf.len
  refine ⟨w.1, w.2, rowN (h.le _ _ ht) fun j u hu => by simpa using hu, putNow_spec hw (by omega) h fun H' h' => ?_⟩
  obtain ⟨S1, S2, W, H1, H2, H3, h1, h2, h3, h4⟩ := disk_open h'
  refine ⟨W, h1.has rfl, w.1, w.2, rowN (h'.le _ _ ht) fun j u hu => by simpa using hu, fun b24 hb24 => ⟨[.int .i64 w.1, .string w.2], rowN (SH.upd_same _ _ _) fun j u hu => by simpa using hu, ?_⟩⟩
  -- the new block is laid below the rest
  obtain ⟨G0, hg, hgt, hgle⟩ := h'.temp .disk hb24 ⟨[.int .i64 w.1, .string w.2], WRT, false, 2⟩
  obtain ⟨J1, j1, j1'⟩ := On.swap .blk .blk (On.new (o := ⟨[.int .i64 w.1, .string w.2], WRT, false, 2⟩) hb24) h1
  obtain ⟨J2, j2, j2'⟩ := On.swap .blk .sl j1' h2
  obtain ⟨J3, j3, j3'⟩ := On.swap .blk .sl j2' h3
  obtain ⟨J4, j4, j4'⟩ := On.swap .blk .sl j3' h4
  -- b, S1, S2 off the waits
  obtain ⟨I1, i1, i1'⟩ := On.swap .sl .sl j3 j4
  obtain ⟨I2, i2, i2'⟩ := On.swap .sl .sl j2 i1
  obtain ⟨I3, i3, i3'⟩ := On.swap .blk .sl j1 i2
  have hW : W.len = m.waits.length := wr_len h4
  refine i3.own.append (by simp only []; rw [hW]; omega) (by simp only []; rw [hW]; omega) rfl (by simp [Value.oneCell']) fun l' H28 ho hl' => ?_
  have o1 := ho.on
  rw [← wrc_append] at o1
  obtain ⟨I4, a1, a2⟩ := On.swap .sl .blk o1 i3'
  have a3 := On.setl (k := 6) (vs := [sv l']) a1
  refine ⟨a1.wrs rfl (Nat.le_of_ble_eq_true rfl), _, .refl _, k _ ?_⟩
  obtain ⟨I5, a4, a5⟩ := On.swap .sl .sl a2 i2'
  obtain ⟨I6, a6, a7⟩ := On.swap .sl .sl a5 i1'
  exact disk_close (m := { m with now := m.now.put w, waits := m.waits ++ [w] }) (S1 := S1) (S2 := S2) (W := l') a3 a4 a6 (a7.below j4'.le)
theorem does_spec {w : Wr} {N : Nat} (hN : N ≤ 1000000000000) (hf : m.fit N) (hleft : -1 ≤ m.left ∧ m.left ≤ 9223372036854775807) (hw : w.1 = -1 ∨ 0 ≤ w.1 ∧ w.1 < m.now.slots.length) (hs : w.2.size ≤ 1000000000000) (h : On (DiskI b m) H0 H) {K : Option EV → SH → Prop}
    (k : ∀ H', On (DiskI b (m.does w)) H0 H' → K (errN m.burnE) H') : disk_Disk_does.wp F (some (b, 0)) w.1 w.2 H K := by
  refine fun b4 hb4 => p_some ?_
  obtain ⟨H0', h, ht, hle⟩ := h.temp .disk hb4 ⟨[.int .i64 w.1, .string w.2], WRT, false, 2⟩
  refine burn_spec hleft h fun H' h' => ?_
  unfold DM.does at k
  by_cases h0 : m.left = 0
  · have hE : m.burnE = 8 := if_pos h0
    rw [hE] at k ⊢
    rw [if_pos h0] at k
    exact o_some ⟨H', .refl _, k H' (h'.below hle)⟩
  · have hE : m.burnE = 0 := if_neg h0
    rw [hE] at k ⊢
    rw [if_neg h0] at k
    obtain ⟨e1, e2, e3⟩ := burn_now m
    have hf' : m.burn.fit N := ⟨by rw [e1]; exact hf.log, by rw [e2, e3]; exact hf.tot, by rw [e3]; exact hf.len, by rw [e1]; exact hf.nowS, by rw [e2]; exact hf.lastS, by rw [e3]; exact hf.waitS, by rw [e1]; exact hf.slots⟩
    refine o_none ⟨w.1, ⟨_, h'.le _ _ ht, rfl⟩, ?_⟩
    unfold DM.lies at k
    by_cases h1 : w.1 = -1
    · refine br_f (by simp [h1]) ⟨w.2, ⟨_, h'.le _ _ ht, rfl⟩, ?_⟩
      by_cases h2 : w.2 = ByteArray.empty
      · rw [if_pos ⟨h1, by rw [h2]; rfl⟩] at k
        exact br_t h2 ⟨H', .refl _, k H' (h'.below hle)⟩
      · rw [if_neg fun c => h2 (bs_inj (by rw [List.eq_nil_of_length_eq_zero (l := bs w.2) (by rw [bs_len]; exact c.2)]; rfl))] at k
        exact br_f h2 (lies_spec hN hf' (.inl h1) hs ht h' fun H2 h2 => k H2 (h2.below hle))
    · rw [if_neg fun c => h1 c.1] at k
      exact br_t h1 (lies_spec hN hf' (by rw [e1]; exact hw) hs ht h' fun H2 h2 => k H2 (h2.below hle))
theorem Append_spec {s : ByteArray} {N : Nat} (hN : N ≤ 1000000000000) (hf : m.fit N) (hleft : -1 ≤ m.left ∧ m.left ≤ 9223372036854775807) (hs : s.size ≤ 1000000000000) (h : On (DiskI b m) H0 H) {K : Option EV → SH → Prop}
    (k : ∀ H', On (DiskI b (m.append s)) H0 H' → K (errN m.appendE) H') : disk_Disk_Append.wp F (some (b, 0)) s H K := by
  unfold DM.append DM.appendE at k
  refine bars_spec h ?_
  cases hd : m.down with
  | true => simp only [hd, if_true] at k ⊢; exact o_some ⟨H, .refl H, k H h⟩
  | false =>
    simp only [hd, Bool.false_eq_true, if_false] at k ⊢
    exact o_none (does_spec (w := (-1, s)) hN hf hleft (.inl rfl) hs h fun H' h' => ⟨H', .refl _, k H' h'⟩)
theorem Log_spec (hd : m.down = false) (h : On (DiskI b m) H0 H) {K : ByteArray → Option EV → SH → Prop} (k : K m.now.log none H) : disk_Disk_Log.wp F (some (b, 0)) H K := by
  refine bars_spec h ?_
  rw [hd]
  obtain ⟨S1, S2, W, H1, H2, H3, h1, h2, h3, h4⟩ := disk_open h
  exact o_none (p_some ⟨m.now.log, h1.has rfl, H, .refl H, k⟩)
theorem Log_down (hd : m.down = true) (h : On (DiskI b m) H0 H) {K : ByteArray → Option EV → SH → Prop} (k : K ByteArray.empty (some (.no 8)) H) : disk_Disk_Log.wp F (some (b, 0)) H K := by
  refine bars_spec h ?_
  rw [hd]
  exact o_some ⟨H, .refl H, k⟩
theorem Slots_spec (h : On (DiskI b m) H0 H) {K : Int → SH → Prop} (k : K m.now.slots.length H) : disk_Disk_Slots.wp F (some (b, 0)) H K := by
  obtain ⟨S1, S2, W, H1, H2, H3, h1, h2, h3, h4⟩ := disk_open h
  refine p_some ⟨S1, h1.has rfl, H, .refl H, ?_⟩
  rw [sl_len h2]; exact k
theorem Waits_spec (h : On (DiskI b m) H0 H) {K : Int → SH → Prop} (k : K m.waits.length H) : disk_Disk_Waits.wp F (some (b, 0)) H K := by
  obtain ⟨S1, S2, W, H1, H2, H3, h1, h2, h3, h4⟩ := disk_open h
  refine p_some ⟨W, h1.has rfl, H, .refl H, ?_⟩
  rw [wr_len h4]; exact k
theorem slot_spec {n : Int} (h : On (DiskI b m) H0 H) {K : Option EV → SH → Prop} (k : K (errN (m.slotE n)) H) : disk_Disk_slot.wp F (some (b, 0)) n H K := by
  unfold DM.slotE at k
  refine bars_spec h ?_
  cases hd : m.down with
  | true => simp only [hd, if_true] at k ⊢; exact o_some ⟨H, .refl H, k⟩
  | false =>
    simp only [hd, Bool.false_eq_true, if_false] at k ⊢
    obtain ⟨S1, S2, W, H1, H2, H3, h1, h2, h3, h4⟩ := disk_open h
    refine o_none ?_
    by_cases h0 : n < 0
    · rw [if_pos (.inl h0)] at k
      exact br_t h0 ⟨H, .refl H, k⟩
    · refine br_f h0 (p_some ⟨S1, h1.has rfl, ?_⟩)
      rw [sl_len h2]
      by_cases hg : n ≥ m.now.slots.length
      · rw [if_pos (.inr hg)] at k
        exact br_t hg ⟨H, .refl H, k⟩
      · rw [if_neg (by omega)] at k
        exact br_f hg ⟨H, .refl H, k⟩
theorem Put_spec {n : Int} {s : ByteArray} {N : Nat} (hN : N ≤ 1000000000000) (hf : m.fit N) (hleft : -1 ≤ m.left ∧ m.left ≤ 9223372036854775807) (h : On (DiskI b m) H0 H) {K : Option EV → SH → Prop}
    (k : ∀ H', On (DiskI b (m.put n s)) H0 H' → K (errN (m.putE n s)) H') : disk_Disk_Put.wp F (some (b, 0)) n s H K := by
  unfold DM.put DM.putE at k
  refine slot_spec h ?_
  by_cases h0 : m.slotE n = 0
  · rw [h0] at k ⊢
    refine o_none ?_
    by_cases h1 : 64 < s.size
    · simp only [h1, ne_eq, not_true_eq_false, if_false, or_true, if_true] at k
      exact br_t (by omega) ⟨H, .refl H, k H h⟩
    · simp only [h1, ne_eq, not_true_eq_false, if_false, or_false] at k
      refine br_f (by omega) (does_spec (w := (n, s)) hN hf hleft ?_ (by show s.size ≤ _; omega) h fun H' h' => ⟨H', .refl _, k H' h'⟩)
      unfold DM.slotE at h0
      right
      split at h0
      · cases h0
      · split at h0
        · cases h0
        · show 0 ≤ n ∧ n < _; omega
  · rw [if_pos (.inl h0), if_pos h0] at k
    rw [errN_some h0] at k ⊢
    exact o_some ⟨H, .refl H, k H h⟩
theorem Get_spec {n : Int} (h0 : m.slotE n = 0) (h : On (DiskI b m) H0 H) {K : ByteArray → Option EV → SH → Prop} (k : K (m.now.slots.getD n.toNat ByteArray.empty) none H) : disk_Disk_Get.wp F (some (b, 0)) n H K := by
  refine slot_spec h ?_
  rw [h0]
  obtain ⟨S1, S2, W, H1, H2, H3, h1, h2, h3, h4⟩ := disk_open h
  have hn : 0 ≤ n ∧ n < m.now.slots.length := by
    unfold DM.slotE at h0
    split at h0
    · cases h0
    · split at h0
      · cases h0
      · omega
  have hlt : n.toNat < m.now.slots.length := by omega
  refine o_none (p_some ⟨S1, h1.has rfl, ?_⟩)
  obtain ⟨p, hp, hh⟩ := (h2.row.le h1.le).get (strc_get hlt)
  have hl := sl_len h2
  refine ⟨p, hp, by omega, by omega, m.now.slots[n.toNat], by simpa using hh, H, .refl H, ?_⟩
  have e : m.now.slots.getD n.toNat ByteArray.empty = m.now.slots[n.toNat] := by simp [List.getD, hlt]
  rw [e] at k; exact k
theorem Get_bad {n : Int} (h0 : m.slotE n ≠ 0) (h : On (DiskI b m) H0 H) {K : ByteArray → Option EV → SH → Prop} (k : K ByteArray.empty (some (.no (m.slotE n))) H) : disk_Disk_Get.wp F (some (b, 0)) n H K := by
  refine slot_spec h ?_
  rw [errN_some h0]
  exact o_some ⟨H, .refl H, k⟩
end
end Go.Proofs.YtknhlipealekoaaDoor.K
