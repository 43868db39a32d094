/- A disk's calls in plain Lean; the document's example. -/
import Derived.Test.YtknhlipealekoaaDoorSpecDisk4
import Derived.Test.YtknhlipealekoaaDoorGladinglaw14
import Derived.Test.YtknhlipealekoaaDoorArgs2
set_option linter.unusedVariables false
set_option linter.unusedSimpArgs false
namespace Go.Proofs.YtknhlipealekoaaDoor.K
open Go

/-! ### bytes turned -/
theorem xor_lt {a b : Nat} (ha : a < 256) (hb : b < 256) : a ^^^ b < 256 := Nat.xor_lt_two_pow (n := 8) ha hb
theorem turnB_comm (s : ByteArray) (a b : Nat) {x y : Int} (hx : 0 ≤ x ∧ x ≤ 255) (hy : 0 ≤ y ∧ y ≤ 255) : turnB (turnB s a x) b y = turnB (turnB s b y) a x := by
  by_cases ha : a < (bs s).length
  · by_cases hb : b < (bs s).length
    · have e1 := turnB_of (s := s) (y := x) ha
      have e2 := turnB_of (s := s) (y := y) hb
      have l1 : b < (bs (turnB s a x)).length := by rw [bs_len, turnB_size, ← bs_len]; exact hb
      have l2 : a < (bs (turnB s b y)).length := by rw [bs_len, turnB_size, ← bs_len]; exact ha
      rw [turnB_of l1, turnB_of l2]
      congr 1
      have h1 : bs (turnB s a x) = (bs s).set a (UInt8.ofNat ((bs s)[a].toNat ^^^ x.toNat)) := by rw [e1, bs_ofL]
      have h2 : bs (turnB s b y) = (bs s).set b (UInt8.ofNat ((bs s)[b].toNat ^^^ y.toNat)) := by rw [e2, bs_ofL]
      simp only [h1, h2]
      by_cases hab : a = b
      · subst hab
        have q1 := xor_lt (UInt8.toNat_lt (bs s)[a]) (show x.toNat < 256 by omega)
        have q2 := xor_lt (UInt8.toNat_lt (bs s)[a]) (show y.toNat < 256 by omega)
        simp only [List.getElem_set_self, List.set_set]
        rw [UInt8.toNat_ofNat_of_lt' (by show _ < 256; exact q1), UInt8.toNat_ofNat_of_lt' (by show _ < 256; exact q2), Nat.xor_assoc, Nat.xor_assoc, Nat.xor_comm x.toNat]
      · rw [List.set_comm _ _ hab]
        simp only [List.getElem_set_ne hab, List.getElem_set_ne (Ne.symm hab)]
    · rw [turnB_out (s := s) (y := y) hb, turnB_out]
      rw [bs_len, turnB_size, ← bs_len]; exact hb
  · rw [turnB_out (s := s) (y := x) ha, turnB_out (s := turnB s b y)]
    rw [bs_len, turnB_size, ← bs_len]; exact ha
theorem turnB_twice (s : ByteArray) (a : Nat) {x : Int} (hx : 0 ≤ x ∧ x ≤ 255) : turnB (turnB s a x) a x = s := by
  by_cases ha : a < (bs s).length
  · have l1 : a < (bs (turnB s a x)).length := by rw [bs_len, turnB_size, ← bs_len]; exact ha
    rw [turnB_of l1]
    apply bs_inj
    have h1 : bs (turnB s a x) = (bs s).set a (UInt8.ofNat ((bs s)[a].toNat ^^^ x.toNat)) := by rw [turnB_of ha, bs_ofL]
    simp only [h1, bs_ofL, List.getElem_set_self, List.set_set]
    rw [UInt8.toNat_ofNat_of_lt' (by show _ < 256; exact xor_lt (UInt8.toNat_lt _) (by omega)), Nat.xor_assoc, Nat.xor_self, Nat.xor_zero]
    simp
  · rw [turnB_out (s := s) ha, turnB_out ha]
def trnL (l : List (Int × Int)) (s : ByteArray) : ByteArray := l.foldl (fun s x => turnB s x.1.toNat x.2) s
theorem trnL_size (l : List (Int × Int)) : ∀ s, (trnL l s).size = s.size := by
  induction l with
  | nil => intro s; rfl
  | cons x l ih => intro s; show (trnL l _).size = _; rw [ih, turnB_size]
theorem trnL_turn (l : List (Int × Int)) (hl : ∀ x ∈ l, 0 ≤ x.2 ∧ x.2 ≤ 255) : ∀ (s : ByteArray) (a : Nat) (y : Int), (0 ≤ y ∧ y ≤ 255) → trnL l (turnB s a y) = turnB (trnL l s) a y := by
  induction l with
  | nil => intro s a y _; rfl
  | cons x l ih =>
    intro s a y hy
    show trnL l (turnB (turnB s a y) _ _) = turnB (trnL l (turnB s _ _)) a y
    rw [turnB_comm s a _ hy (hl x (by simp)), ih (fun z hz => hl z (by simp [hz])) _ a y hy]
theorem trnL_twice (l : List (Int × Int)) (hl : ∀ x ∈ l, 0 ≤ x.2 ∧ x.2 ≤ 255) : ∀ s, trnL l (trnL l s) = s := by
  induction l with
  | nil => intro s; rfl
  | cons x l ih =>
    intro s
    have hl' : ∀ z ∈ l, 0 ≤ z.2 ∧ z.2 ≤ 255 := fun z hz => hl z (by simp [hz])
    show trnL l (turnB (trnL l (turnB s _ _)) _ _) = s
    rw [trnL_turn l hl' s _ _ (hl x (by simp)), turnB_twice _ _ (hl x (by simp)), ih hl']

/-! ### the document's example -/
def mkB (l : List UInt8) : ByteArray := ofL l
section
variable {F : Nat} {H : SH}
theorem dnew_fit (n : Nat) (h : n ≤ 4096) : (DM.new n).fit 4096 where
  log := Nat.zero_le _
  tot := Nat.zero_le _
  len := Nat.zero_le _
  nowS := fun s hs => by rw [List.eq_of_mem_replicate hs]; exact Nat.zero_le _
  lastS := fun s hs => by rw [List.eq_of_mem_replicate hs]; exact Nat.zero_le _
  waitS := fun w hw => by cases hw
  slots := by show (List.replicate n _).length ≤ _; rw [List.length_replicate]; exact h
theorem emp_app (s : ByteArray) : ByteArray.empty ++ s = s := bs_inj (by rw [bs_append]; rfl)
theorem append_free {m : DM} {s : ByteArray} (hd : m.down = false) (hl : m.left = -1) (hs : s.size ≠ 0) : m.append s = { m with now := ⟨m.now.log ++ s, m.now.slots⟩, waits := m.waits ++ [(-1, s)] } := by
  unfold DM.append DM.does DM.burn DM.lies Ct.put
  simp [hd, hl, hs]
theorem appendE_free {m : DM} (hd : m.down = false) (hl : m.left = -1) : m.appendE = 0 := by
  unfold DM.appendE DM.burnE; simp [hd, hl]
theorem sync_free {m : DM} (hd : m.down = false) (hl : m.left = -1) : m.sync = { m with lasts := m.now, waits := [] } := by
  unfold DM.sync DM.burn DM.settle; simp [hd, hl]
theorem crash_none (m : DM) (lack : Int) : m.crash [] lack = ⟨-1, false, m.lasts, m.lasts, []⟩ := by
  unfold DM.crash; simp [crashC]
theorem awake14_spec (hF : 100 ≤ F) {K : Bool → SH → Prop} (k : ∀ H', SH.le H H' → K true H') : ladinglaw14_awake.wp F H K := by
  refine New_spec (n := 2) (by decide) fun b H1 h1 hb => p_some ?_
  have s1 : (DM.new 2).append (mkB [97, 98]) = ⟨-1, false, ⟨mkB [97, 98], List.replicate 2 ByteArray.empty⟩, ⟨ByteArray.empty, List.replicate 2 ByteArray.empty⟩, [(-1, mkB [97, 98])]⟩ := by
    rw [append_free rfl rfl (by decide)]; unfold DM.new; simp [emp_app]
  refine Append_spec (m := DM.new 2) (s := mkB [97, 98]) (N := 4096) (by omega) (dnew_fit 2 (by omega)) ⟨by decide, by decide⟩ (by decide) h1 fun H2 h2 => ?_
  rw [appendE_free rfl rfl]
  rw [s1] at h2
  refine o_none (Sync_spec ⟨by decide, by decide⟩ (by decide) h2 fun H3 h3 => ?_)
  rw [appendE_free rfl rfl]
  rw [sync_free rfl rfl] at h3
  have f3 : DM.fit 4096 ⟨-1, false, ⟨mkB [97, 98], List.replicate 2 ByteArray.empty⟩, ⟨mkB [97, 98], List.replicate 2 ByteArray.empty⟩, []⟩ :=
    ⟨by decide, by decide, by decide, fun s hs => by rw [List.eq_of_mem_replicate hs]; exact Nat.zero_le _, fun s hs => by rw [List.eq_of_mem_replicate hs]; exact Nat.zero_le _, (fun w hw => by cases hw), by decide⟩
  refine o_none (Append_spec (s := mkB [99, 100]) (N := 4096) (by omega) f3 ⟨by decide, by decide⟩ (by decide) h3 fun H4 h4 => ?_)
  rw [appendE_free rfl rfl]
  rw [append_free rfl rfl (by decide)] at h4
  refine o_none (Crash_spec (N := 4096) (ks := []) (by omega) ⟨by decide, by decide, by decide, fun s hs => by rw [List.eq_of_mem_replicate hs]; exact Nat.zero_le _, fun s hs => by rw [List.eq_of_mem_replicate hs]; exact Nat.zero_le _, (fun w hw h => by simp at hw; subst hw; exact absurd rfl h), by decide⟩ (by decide) (fun w hw => by simp at hw; subst hw; exact .inl rfl) rfl (Nat.le_refl _) (by simp; omega) (.inl rfl) h4 fun H5 h5 => ?_)
  rw [crash_none] at h5
  refine Log_spec rfl h5 (br_t rfl (o_none (Slots_spec h5 ⟨H5, .refl _, k _ h5.le⟩)))
theorem lft : -1 ≤ (-1 : Int) ∧ (-1 : Int) ≤ 9223372036854775807 := by decide
end

/-! ### what all calls keep -/
structure DM.good (kk N : Nat) (m : DM) : Prop where
  fit : m.fit N
  now : m.now.slots.length = kk
  lasts : m.lasts.slots.length = kk
  waits : ∀ w ∈ m.waits, w.1 = -1 ∨ 0 ≤ w.1 ∧ w.1 < kk
  left : -1 ≤ m.left ∧ m.left ≤ 9223372036854775807
theorem good_new {n : Nat} (h : n ≤ 4096) : (DM.new n).good n 4096 := ⟨dnew_fit n h, List.length_replicate .., List.length_replicate .., (fun w hw => by cases hw), lft⟩
theorem DM.good.more {kk N N' : Nat} {m : DM} (h : m.good kk N) (hN : N ≤ N') : m.good kk N' :=
  ⟨⟨Nat.le_trans h.fit.log hN, Nat.le_trans h.fit.tot hN, Nat.le_trans h.fit.len hN, h.fit.nowS, h.fit.lastS, h.fit.waitS, h.fit.slots⟩, h.now, h.lasts, h.waits, h.left⟩
theorem DM.good.burn {kk N : Nat} {m : DM} (h : m.good kk N) : m.burn.good kk N := by
  obtain ⟨e1, e2, e3⟩ := burn_now m
  refine ⟨⟨by rw [e1]; exact h.fit.log, by rw [e2, e3]; exact h.fit.tot, by rw [e3]; exact h.fit.len, by rw [e1]; exact h.fit.nowS, by rw [e2]; exact h.fit.lastS, by rw [e3]; exact h.fit.waitS, by rw [e1]; exact h.fit.slots⟩, by rw [e1]; exact h.now, by rw [e2]; exact h.lasts, by rw [e3]; exact h.waits, ?_⟩
  have := h.left
  unfold DM.burn
  split
  · exact lft
  · split
    · show -1 ≤ m.left - 1 ∧ m.left - 1 ≤ _; omega
    · exact this
theorem DM.good.does {kk N : Nat} {m : DM} {w : Wr} (h : m.good kk N) (hw : w.1 = -1 ∨ 0 ≤ w.1 ∧ w.1 < kk) (h64 : w.1 ≠ -1 → w.2.size ≤ 64) : (m.does w).good kk (N + w.2.size + 1) := by
  unfold DM.does
  split
  · exact h.burn.more (by omega)
  · have g := h.burn
    unfold DM.lies
    split
    · exact g.more (by omega)
    · generalize m.burn = m at g ⊢
      have f := g.fit
      have hput : (m.now.put w).log.size ≤ N + w.2.size ∧ (m.now.put w).slots.length = m.now.slots.length ∧ ∀ s ∈ (m.now.put w).slots, s.size ≤ 64 := by
        unfold Ct.put
        have := f.log
        split
        · exact ⟨by show (m.now.log ++ w.2).size ≤ _; rw [ByteArray.size_append]; omega, rfl, f.nowS⟩
        · rename_i hn
          refine ⟨by show m.now.log.size ≤ _; omega, by simp, fun s hs => ?_⟩
          rcases List.mem_or_eq_of_mem_set hs with h3 | h3
          · exact f.nowS _ h3
          · rw [h3]; exact h64 hn
      refine ⟨⟨by show (m.now.put w).log.size ≤ _; omega, ?_, ?_, hput.2.2, f.lastS, fun w' hw' hn => ?_, by rw [show ({ m with now := m.now.put w, waits := m.waits ++ [w] } : DM).now.slots.length = (m.now.put w).slots.length from rfl, hput.2.1]; exact f.slots⟩, hput.2.1.trans g.now, g.lasts, fun w' hw' => ?_, g.left⟩
      · have := f.tot
        show m.lasts.log.size + ((m.waits ++ [w]).map fun w => w.2.size).sum ≤ _
        rw [List.map_append, List.sum_append]; simp; omega
      · have := f.len
        show (m.waits ++ [w]).length ≤ _
        rw [List.length_append]; simp; omega
      · rcases List.mem_append.1 hw' with h3 | h3
        · exact f.waitS _ h3 hn
        · rw [List.mem_singleton.1 h3] at hn ⊢; exact h64 hn
      · rcases List.mem_append.1 hw' with h3 | h3
        · exact g.waits _ h3
        · rw [List.mem_singleton.1 h3]; exact hw
theorem DM.good.append {kk N : Nat} {m : DM} {s : ByteArray} (h : m.good kk N) : (m.append s).good kk (N + s.size + 1) := by
  unfold DM.append
  split
  · exact h.more (by omega)
  · exact h.does (w := (-1, s)) (.inl rfl) (fun c => absurd rfl c)
theorem DM.good.put {kk N : Nat} {m : DM} {n : Int} {s : ByteArray} (h : m.good kk N) : (m.put n s).good kk (N + s.size + 1) := by
  unfold DM.put
  split
  · exact h.more (by omega)
  · rename_i c
    simp only [not_or, Decidable.not_not, Nat.not_lt] at c
    refine h.does (w := (n, s)) (.inr ?_) (fun _ => c.2)
    have hs := c.1
    unfold DM.slotE at hs
    split at hs
    · cases hs
    · split at hs
      · cases hs
      · have := h.now
        show 0 ≤ n ∧ n < _; omega
theorem DM.good.settle {kk N : Nat} {m : DM} (h : m.good kk N) : m.settle.good kk N :=
  ⟨⟨h.fit.log, by show m.now.log.size + 0 ≤ N; have := h.fit.log; omega, Nat.zero_le _, h.fit.nowS, h.fit.nowS, (fun w hw => by cases hw), h.fit.slots⟩, h.now, h.now, (fun w hw => by cases hw), h.left⟩
theorem DM.good.sync {kk N : Nat} {m : DM} (h : m.good kk N) : m.sync.good kk N := by
  unfold DM.sync
  split
  · exact h
  · split
    · exact h.burn
    · exact h.burn.settle
theorem DM.good.cut {kk N : Nat} {m : DM} {n : Int} (h : m.good kk N) : (m.cut n).good kk N := by
  unfold DM.cut
  split
  · exact h
  · split
    · exact h
    · split
      · exact h.burn
      · have g := h.burn
        have hs : (m.now.log.extract 0 n.toNat).size ≤ N := by have := h.fit.log; rw [ByteArray.size_extract]; omega
        exact ⟨⟨hs, by show (m.now.log.extract 0 n.toNat).size + 0 ≤ N; omega, Nat.zero_le _, h.fit.nowS, h.fit.nowS, (fun w hw => by cases hw), h.fit.slots⟩, h.now, h.now, (fun w hw => by cases hw), g.left⟩
theorem DM.good.fuse {kk N : Nat} {m : DM} {n : Int} (h : m.good kk N) (hn : n ≤ 9223372036854775807) : (m.fuse n).good kk N :=
  ⟨⟨h.fit.log, h.fit.tot, h.fit.len, h.fit.nowS, h.fit.lastS, h.fit.waitS, h.fit.slots⟩, h.now, h.lasts, h.waits, by show -1 ≤ max n (-1) ∧ max n (-1) ≤ _; omega⟩
theorem crashC_ok {N kk : Nat} {lack : Int} : ∀ (l : List (Bool × Wr)) (gap : ByteArray) (c : Ct), CrI N kk (l.map (·.2)) gap c → (crashC lack l gap c).log.size ≤ N ∧ (crashC lack l gap c).slots.length = kk ∧ ∀ s ∈ (crashC lack l gap c).slots, s.size ≤ 64
  | [], gap, c, h => ⟨by have := h.size; simp at this; show c.log.size ≤ N; omega, h.slots, h.s64⟩
  | (false, w) :: l, gap, c, h => crashC_ok l _ c h.gap
  | (true, w) :: l, gap, c, h => by
    have ts := torn_size c w lack h.s64
    have h64 : w.1 ≠ -1 → w.2.size ≤ 64 := h.w64 w List.mem_cons_self
    unfold crashC
    simp only []
    generalize hw' : (if l.any (·.1) then w else c.torn w lack) = w'
    have e1 : w'.1 = w.1 := by rw [← hw']; split <;> rfl
    have e2 : w.1 = -1 → w'.2.size ≤ w.2.size := fun e => by rw [← hw']; split; exact Nat.le_refl _; exact ts.1 e
    have e3 : w.1 ≠ -1 → w'.2.size ≤ 64 := fun e => by rw [← hw']; split; exact h64 e; exact ts.2 h64 e
    have := CrI.put h e1 e2 e3
    split
    · rename_i c1; exact crashC_ok l _ _ (this.1 c1)
    · rename_i c1; exact crashC_ok l _ _ (this.2 c1)
theorem DM.good.crash {kk N : Nat} {m : DM} {ks : List Bool} {lack : Int} (h : m.good kk N) : (m.crash ks lack).good kk N := by
  have hz : ∀ w ∈ (ks.zip m.waits).map (·.2), w ∈ m.waits := fun w hw => by
    obtain ⟨x, hx, rfl⟩ := List.mem_map.1 hw
    exact (List.of_mem_zip hx).2
  have hsum : ∀ (ks : List Bool) (ws : List Wr), (((ks.zip ws).map (·.2)).map fun w => w.2.size).sum ≤ (ws.map fun w => w.2.size).sum := by
    intro ks
    induction ks with
    | nil => intro ws; simp
    | cons k ks ih =>
      intro ws
      cases ws with
      | nil => simp
      | cons w ws => have := ih ws; simp only [List.zip_cons_cons, List.map_cons, List.sum_cons]; omega
  have := crashC_ok (N := N) (kk := kk) (lack := lack) (ks.zip m.waits) ByteArray.empty m.lasts ⟨by have := h.fit.tot; have := hsum ks m.waits; have : (ByteArray.empty).size = 0 := rfl; omega, h.lasts, h.fit.lastS, fun w hw => h.fit.waitS w (hz w hw), fun w hw => h.waits w (hz w hw)⟩
  exact ⟨⟨this.1, by show (crashC lack (ks.zip m.waits) ByteArray.empty m.lasts).log.size + 0 ≤ N; omega, Nat.zero_le _, this.2.2, this.2.2, (fun w hw => by cases hw), by show (crashC lack (ks.zip m.waits) ByteArray.empty m.lasts).slots.length ≤ _; rw [this.2.1, ← h.now]; exact h.fit.slots⟩, this.2.1, this.2.1, (fun w hw => by cases hw), lft⟩

section
variable {F : Nat} {b : Nat} {m : DM} {H0 H : SH} {kk N : Nat}
theorem gAppend {s : ByteArray} (g : m.good kk N) (hN : N ≤ 1000000000000) (hs : s.size ≤ 1000000000000) (h : On (DiskI b m) H0 H) {K : Option EV → SH → Prop} (k : ∀ H', On (DiskI b (m.append s)) H0 H' → K (errN m.appendE) H') : disk_Disk_Append.wp F (some (b, 0)) s H K :=
  Append_spec hN g.fit g.left hs h k
theorem gSync (g : m.good kk N) (h : On (DiskI b m) H0 H) {K : Option EV → SH → Prop} (k : ∀ H', On (DiskI b m.sync) H0 H' → K (errN m.appendE) H') : disk_Disk_Sync.wp F (some (b, 0)) H K :=
  Sync_spec g.left (by have := g.fit.slots; omega) h k
theorem gCrash {ks : List Bool} {l : Sl} {lack : Int} (g : m.good kk N) (hN : N ≤ 1000000000000) (hl : l.len = ks.length) (hcap : l.len ≤ l.cap) (hF : ks.length < F) (hrow : H0.row l.a (ks.map fun x => .bool x))
    (h : On (DiskI b m) H0 H) {K : SH → Prop} (k : ∀ H', On (DiskI b (m.crash ks lack)) H0 H' → K H') : disk_Disk_Crash.wp F (some (b, 0)) l lack H K :=
  Crash_spec hN g.fit (by rw [g.lasts, ← g.now]; have := g.fit.slots; omega) (by rw [g.lasts]; exact g.waits) hl hcap hF hrow h k
end
end Go.Proofs.YtknhlipealekoaaDoor.K
