/- What the functions of package disk do to a disk. -/
import Derived.Test.YtknhlipealekoaaDoorDiskM
import Derived.Test.YtknhlipealekoaaDoorGdisk
set_option linter.unusedVariables false
set_option linter.unusedSimpArgs false
namespace Go.Proofs.YtknhlipealekoaaDoor.K
open Go

/-! ### a disk in memory -/
abbrev STR : TypeId := 9
abbrev WRT : TypeId := 78
def strc (l : List ByteArray) : List Value := l.map fun s => .string s
def wrc (l : List Wr) : List Value := l.flatMap fun w => [.int .i64 w.1, .string w.2]
def dcell (m : DM) (S1 S2 W : Sl) : AO := ⟨[.int .i64 m.left, .bool m.down, .string m.now.log, sv S1, .string m.lasts.log, sv S2, sv W], 75, false, 7⟩
def DkI (b : Nat) (m : DM) (S1 S2 W : Sl) : Pr := Star (Blk b (dcell m S1 S2 W)) (Star (SlI STR 1 S1 (strc m.now.slots)) (Star (SlI STR 1 S2 (strc m.lasts.slots)) (SlI WRT 2 W (wrc m.waits))))
def DiskI (b : Nat) (m : DM) : Pr := fun H fp => ∃ S1 S2 W, DkI b m S1 S2 W H fp
theorem Loc.dk {b : Nat} {m : DM} {S1 S2 W : Sl} : Loc (DkI b m S1 S2 W) := .star .blk (.star .sl (.star .sl .sl))
theorem Loc.disk {b : Nat} {m : DM} : Loc (DiskI b m) :=
  ⟨fun ⟨S1, S2, W, h⟩ hh => ⟨S1, S2, W, Loc.dk.loc h hh⟩, fun ⟨S1, S2, W, h⟩ hb => Loc.dk.in_ h hb⟩
theorem disk_open {b : Nat} {m : DM} {H0 H : SH} (h : On (DiskI b m) H0 H) : ∃ S1 S2 W H1 H2 H3, On (Blk b (dcell m S1 S2 W)) H3 H ∧ On (SlI STR 1 S1 (strc m.now.slots)) H2 H3 ∧ On (SlI STR 1 S2 (strc m.lasts.slots)) H1 H2 ∧ On (SlI WRT 2 W (wrc m.waits)) H0 H1 := by
  obtain ⟨hl, fp, ⟨S1, S2, W, hd⟩, hn⟩ := h
  have h : On (DkI b m S1 S2 W) H0 H := ⟨hl, fp, hd, hn⟩
  obtain ⟨H3, h1, h⟩ := On.unstar .blk (.star .sl (.star .sl .sl)) h
  obtain ⟨H2, h2, h⟩ := On.unstar .sl (.star .sl .sl) h
  obtain ⟨H1, h3, h4⟩ := On.unstar .sl .sl h
  exact ⟨S1, S2, W, H1, H2, H3, h1, h2, h3, h4⟩
theorem disk_close {b : Nat} {m : DM} {H0 H1 H2 H3 H : SH} {S1 S2 W : Sl} (h1 : On (Blk b (dcell m S1 S2 W)) H3 H) (h2 : On (SlI STR 1 S1 (strc m.now.slots)) H2 H3) (h3 : On (SlI STR 1 S2 (strc m.lasts.slots)) H1 H2) (h4 : On (SlI WRT 2 W (wrc m.waits)) H0 H1) : On (DiskI b m) H0 H := by
  obtain ⟨a, f, h, c⟩ := On.star .blk (.star .sl (.star .sl .sl)) h1 (On.star .sl (.star .sl .sl) h2 (On.star .sl .sl h3 h4))
  exact ⟨a, f, ⟨S1, S2, W, h⟩, c⟩
/-- A block for a while. -/
theorem On.temp {I : Pr} (hI : Loc I) {H0 H : SH} (h : On I H0 H) {b : Nat} (hb : H b = none) (o : AO) : ∃ H2, On I H2 (H.upd b o) ∧ H2 b = some o ∧ SH.le H0 H2 := by
  obtain ⟨H2, h1, h2⟩ := On.swap .blk hI (On.new (o := o) hb) h
  exact ⟨H2, h1, (On.blk.1 h2).2.2, h2.le⟩
theorem strc_len (l : List ByteArray) : (strc l).length = l.length := by simp [strc]
theorem strc_get {l : List ByteArray} {i : Nat} (h : i < l.length) : (strc l)[i]? = some (.string l[i]) := by simp [strc, h]
theorem sl_len {l : Sl} {ss : List ByteArray} {H0 H : SH} (h : On (SlI STR 1 l (strc ss)) H0 H) : l.len = ss.length := by have := h.len; rw [strc_len] at this; omega
theorem wrc_len (l : List Wr) : (wrc l).length = l.length * 2 := by
  induction l with
  | nil => rfl
  | cons w l ih => simp only [wrc, List.flatMap_cons, List.length_append, List.length_cons, List.length_nil] at *; rw [ih]; omega
theorem wr_len {l : Sl} {ws : List Wr} {H0 H : SH} (h : On (SlI WRT 2 l (wrc ws)) H0 H) : l.len = ws.length := by have := h.len; rw [wrc_len] at this; omega
theorem wrc_get : ∀ {l : List Wr} {i : Nat} (h : i < l.length), (wrc l)[i * 2]? = some (.int .i64 l[i].1) ∧ (wrc l)[i * 2 + 1]? = some (.string l[i].2)
  | w :: l, 0, h => by simp [wrc]
  | w :: l, i + 1, h => by
    have := wrc_get (l := l) (i := i) (by simpa using h)
    have e : wrc (w :: l) = [.int .i64 w.1, .string w.2] ++ wrc l := rfl
    rw [e, List.getElem?_append_right (by simp; omega), List.getElem?_append_right (by simp; omega)]
    simp only [List.length_cons, List.length_nil, List.getElem_cons_succ]
    rw [show (i + 1) * 2 - 2 = i * 2 by omega, show (i + 1) * 2 + 1 - 2 = i * 2 + 1 by omega]
    exact this
theorem wrl_str {l : List ByteArray} {i : Nat} {s : ByteArray} (h : i < l.length) : wrl (strc l) i [.string s] = strc (l.set i s) := by
  apply List.ext_getElem?
  intro j
  rw [wrl_get (by rw [strc_len]; exact h)]
  simp only [strc, List.getElem?_map, List.getElem?_set]
  by_cases hj : j = i
  · subst hj; simp [h]
  · simp [hj, Ne.symm hj]

section
variable {F : Nat} {b : Nat} {m : DM} {H0 H : SH}
theorem bars_spec (h : On (DiskI b m) H0 H) {K : Option EV → SH → Prop} (k : K (errN (if m.down then 8 else 0)) H) : disk_Disk_bars.wp F (some (b, 0)) H K := by
  obtain ⟨S1, S2, W, H1, H2, H3, h1, h2, h3, h4⟩ := disk_open h
  refine p_some ⟨m.down, h1.has rfl, ?_⟩
  cases hd : m.down with
  | true => rw [hd] at k; exact br_t rfl ⟨H, .refl H, k⟩
  | false => rw [hd] at k; exact br_f (by simp) ⟨H, .refl H, k⟩
theorem errN_some {n : Nat} (h : n ≠ 0) : errN n = some (.no n) := if_neg h
theorem burn_spec (hl : -1 ≤ m.left ∧ m.left ≤ 9223372036854775807) (h : On (DiskI b m) H0 H) {K : Option EV → SH → Prop} (k : ∀ H', On (DiskI b m.burn) H0 H' → K (errN m.burnE) H') : disk_fuse_burn.wp F (some (b, 0)) H K := by
  obtain ⟨S1, S2, W, H1, H2, H3, h1, h2, h3, h4⟩ := disk_open h
  refine p_some ⟨m.left, h1.has rfl, ?_⟩
  by_cases h0 : m.left = 0
  · refine br_t h0 ⟨h1.wrs rfl (Nat.le_of_ble_eq_true rfl), _, .refl _, ?_⟩
    have := k _ (disk_close (m := m.burn) (S1 := S1) (S2 := S2) (W := W) (by have := On.setl (k := 0) (vs := [.int .i64 (-1), .bool true]) h1; unfold DM.burn; rw [if_pos h0]; exact this) (by unfold DM.burn; rw [if_pos h0]; exact h2) (by unfold DM.burn; rw [if_pos h0]; exact h3) (by unfold DM.burn; rw [if_pos h0]; exact h4))
    unfold DM.burnE at this
    rw [if_pos h0] at this; exact this
  · have hE : m.burnE = 0 := if_neg h0
    rw [hE] at k
    refine br_f h0 ⟨m.left, h1.has rfl, ?_⟩
    by_cases hp : 0 < m.left
    · refine br_t hp ⟨m.left, h1.has rfl, h1.wrs rfl (Nat.le_of_ble_eq_true rfl), _, .refl _, ?_⟩
      rw [w64_id (by omega)]
      have hb : m.burn = { m with left := m.left - 1 } := by unfold DM.burn; rw [if_neg h0, if_pos hp]
      rw [hb] at k
      exact k _ (disk_close (S1 := S1) (S2 := S2) (W := W) (On.setl (k := 0) (vs := [.int .i64 (m.left - 1)]) h1) h2 h3 h4)
    · refine br_f hp ⟨_, .refl _, ?_⟩
      have hb : m.burn = m := by unfold DM.burn; rw [if_neg h0, if_neg hp]
      rw [hb] at k
      exact k _ h
theorem Clone_spec {l : Sl} {ss : List ByteArray} (hl : l.len = ss.length) (hr : H.row l.a (strc ss)) (hn : ss.length ≤ 1000000000000) {K : Sl → SH → Prop} (k : ∀ l' H', On (SlI STR 1 l' (strc ss)) H H' → K l' H') : slices_Clone_string_string.wp F l H K := by
  by_cases ha : l.a.isNone = true
  · refine br_t ha ⟨H, .refl H, ?_⟩
    have : ss = [] := by
      rcases hr with h | ⟨p, o, h, _⟩
      · simpa [strc] using h
      · rw [h] at ha; cases ha
    subst this
    exact k _ _ (.nil _ _ _)
  · refine br_f ha fun b3 hb => ⟨strc ss, hr.le (le_upd hb), ?_⟩
    have hown : Own H (H.upd b3 ⟨[], STR, false, 0⟩) STR 1 ⟨some (b3, 0), 0, 0⟩ [] :=
      ⟨le_upd hb, rfl, .inr ⟨b3, [], rfl, hb, Nat.le_refl _, 0, SH.upd_same _ _ _, by simp⟩⟩
    refine hown.append (by simp only [Nat.zero_add]; omega) (by simp only [Nat.zero_add]; omega) (by rw [strc_len]; omega) (by simp [strc, Value.oneCell']) fun l' H' ho hl' => ⟨H', .refl _, k _ _ ?_⟩
    have := ho.on
    simpa using this
theorem copied_spec {s : ByteArray} {l : Sl} {ss : List ByteArray} (hl : l.len = ss.length) (hr : H.row l.a (strc ss)) (hn : ss.length ≤ 1000000000000) {K : ByteArray → Sl → SH → Prop} (k : ∀ l' H', On (SlI STR 1 l' (strc ss)) H H' → K s l' H') : disk_content_copied.wp F s l H K := by
  refine fun b3 hb3 b5 hb5 => ?_
  have hne : b3 ≠ b5 := by rintro rfl; rw [SH.upd_same] at hb5; cases hb5
  have hb5' : H b5 = none := by rw [SH.upd_ne _ _ (Ne.symm hne)] at hb5; exact hb5
  have hle : SH.le H ((H.upd b3 ⟨[.string s, sv l], 72, false, 2⟩).upd b5 ⟨[.string ByteArray.empty, sv Sl.nil], 72, false, 2⟩) := (le_upd hb3).trans (le_upd hb5)
  have hlb : On (Blk b5 ⟨[.string ByteArray.empty, sv Sl.nil], 72, false, 2⟩) (H.upd b3 ⟨[.string s, sv l], 72, false, 2⟩) ((H.upd b3 ⟨[.string s, sv l], 72, false, 2⟩).upd b5 ⟨[.string ByteArray.empty, sv Sl.nil], 72, false, 2⟩) := On.new hb5
  refine ⟨s, has_upd_ne hne (has_upd rfl), l, has_upd_ne hne (has_upd rfl), ?_⟩
  generalize ((H.upd b3 ⟨[.string s, sv l], 72, false, 2⟩).upd b5 ⟨[.string ByteArray.empty, sv Sl.nil], 72, false, 2⟩) = HH at *
  refine ⟨fun l' H' => ∃ H1, On (SlI STR 1 l' (strc ss)) HH H1 ∧ SH.le H1 H', fun l' A B ⟨H1, h1, h2⟩ h3 => ⟨H1, h1, h2.trans h3⟩, ?_, fun l' H15 hle15 ⟨H1, h1, h2⟩ => ?_⟩
  · exact Clone_spec hl (hr.le hle) hn fun l' H' ho => ⟨ho.le, H', ho, .refl _⟩
  · have h15 : On (SlI STR 1 l' (strc ss)) HH H15 := h1.above .sl h2
    obtain ⟨H2, k1, k2⟩ := On.swap .sl .blk h15 hlb
    have k3 := On.setl (k := 0) (vs := [.string s, sv l']) k1
    refine ⟨k1.wrs rfl (Nat.le_of_ble_eq_true rfl), s, l', .inr ⟨_, _, rfl, (On.blk.1 k3).2.2, fun j u hu => by simpa [wrl] using hu⟩, _, .refl _, k _ _ ?_⟩
    have k4 := On.above .sl k2 k3.le
    exact k4.below (le_upd hb3)
theorem settle_spec (hn : m.now.slots.length ≤ 1000000000000) (h : On (DiskI b m) H0 H) {K : SH → Prop} (k : ∀ H', On (DiskI b m.settle) H0 H' → K H') : disk_Disk_settle.wp F (some (b, 0)) H K := by
  obtain ⟨S1, S2, W, H1, H2, H3, h1, h2, h3, h4⟩ := disk_open h
  refine p_some ⟨m.now.log, S1, .inr ⟨_, _, rfl, (On.blk.1 h1).2.2, fun j u hu => ?_⟩, ?_⟩
  · cases j with
    | zero => simpa [dcell] using hu
    | succ j => cases j with
      | zero => simpa [dcell] using hu
      | succ j => simp at hu
  refine copied_spec (sl_len h2) (h2.row.le h1.le) hn fun l' H' ho => ?_
  obtain ⟨H4, k1, k2⟩ := On.swap .sl .blk ho h1
  have k3 := On.setl (k := 4) (vs := [.string m.now.log, sv l']) k1
  have k4 := On.setl (k := 6) (vs := [sv Sl.nil]) k3
  refine ⟨k1.wrs rfl (Nat.le_of_ble_eq_true rfl), k3.wrs rfl (Nat.le_of_ble_eq_true rfl), _, .refl _, k _ ?_⟩
  -- the blocks: b on H4; the new slots on H3; the old ones on H2
  obtain ⟨H5, k5, k6⟩ := On.swap .sl .sl k2 h2
  exact disk_close (m := m.settle) (S1 := S1) (S2 := l') (W := Sl.nil) k4 k5 ((k6.below (h4.le.trans h3.le)) : On (SlI STR 1 l' (strc m.now.slots)) H0 H5) (On.nil _ _ _)
theorem Sync_spec (hl : -1 ≤ m.left ∧ m.left ≤ 9223372036854775807) (hn : m.now.slots.length ≤ 1000000000000) (h : On (DiskI b m) H0 H) {K : Option EV → SH → Prop} (k : ∀ H', On (DiskI b m.sync) H0 H' → K (errN m.appendE) H') : disk_Disk_Sync.wp F (some (b, 0)) H K := by
  unfold DM.sync DM.appendE at k
  refine bars_spec h ?_
  cases hd : m.down with
  | true => simp only [hd, if_true] at k ⊢; exact o_some ⟨H, .refl H, k H h⟩
  | false =>
    simp only [hd, Bool.false_eq_true, if_false] at k ⊢
    refine o_none (p_some (burn_spec hl h fun H' h' => ?_))
    by_cases h0 : m.left = 0
    · have hE : m.burnE = 8 := if_pos h0
      rw [hE] at k ⊢
      rw [if_pos h0] at k
      exact o_some ⟨H', .refl _, k H' h'⟩
    · have hE : m.burnE = 0 := if_neg h0
      rw [hE] at k ⊢
      rw [if_neg h0] at k
      refine o_none (settle_spec (m := m.burn) ?_ h' fun H2 h2 => ⟨H2, .refl _, k H2 h2⟩)
      unfold DM.burn; rw [if_neg h0]; split <;> exact hn
end
end Go.Proofs.YtknhlipealekoaaDoor.K
