/- Calls with slices of any address: the same as with others. -/
import Derived.Test.YtknhlipealekoaaDoorLawJournal
import Derived.Test.YtknhlipealekoaaDoorGdiskW
import Derived.Test.YtknhlipealekoaaDoorGjournalW
set_option linter.unusedVariables false
set_option linter.unusedSimpArgs false
namespace Go.Proofs.YtknhlipealekoaaDoor.K
open Go
theorem SH.rowW.le {H H' : SH} {a : Option Addr} {cs : List Value} (h : H.rowW a cs) (hle : SH.le H H') : H'.rowW a cs := by
  rcases h with h | ⟨p, h1, h2⟩
  · exact .inl h
  · exact .inr ⟨p, h1, h2.le hle⟩
theorem row_atW {H : SH} {l : SlW} {cs : List Value} {i : Nat} {v : Value} {R : Nat × Nat → Prop} (hr : H.rowW l.a cs) (hv : cs[i]? = some v) (hl : i < l.len) (h : ∀ p, l.a = some (ad p) → H.has (p.1, p.2 + (i : Int).toNat * 1) v → R p) :
    ∃ p, l.a = some (ad p) ∧ 0 ≤ (i : Int) ∧ (i : Int) < (l.len : Int) ∧ R p := by
  rcases hr with h0 | ⟨p, ha, hr⟩
  · subst h0; simp at hv
  · obtain ⟨q, hq, hh⟩ := hr.get hv
    cases hq
    exact ⟨p, ha, by omega, by omega, h p ha (by simpa using hh)⟩
theorem SH.row.take {H : SH} {p : Nat × Nat} {cs ds : List Value} (h : H.row (some p) cs) (n : Nat) (hd : ds = cs.take n) : H.row (some p) ds := by
  subst hd
  rcases h with h | ⟨q, o, h1, h2, h3⟩
  · left; subst h; simp
  · refine .inr ⟨q, o, h1, h2, fun j u hu => h3 j u ?_⟩
    rw [List.getElem?_take] at hu
    split at hu
    · exact hu
    · simp at hu
theorem SH.sub_rowW {H : SH} {l : SlW} {cs : List Value} {i : Nat} (hl : l.len = cs.length) (hc : l.len ≤ l.cap) (hi : i ≤ l.len) (hr : H.rowW l.a cs) : H.rowW (SlW.sub 1 l i l.len l.cap).a (cs.drop i) := by
  rcases hr with h0 | ⟨p, ha, hr⟩
  · left; subst h0; simp
  · by_cases he : i = l.len
    · left; rw [List.drop_eq_nil_of_le (by omega)]
    · have h1 := SH.sub_row (l := ⟨some p, l.len, l.cap⟩) hl hc hi hr
      have e2 : (Sl.sub 1 (⟨some p, l.len, l.cap⟩ : Sl) i l.len l.cap).a = some (p.1, p.2 + i * 1) := by unfold Sl.sub; simp only []; rw [if_neg (by omega)]; rfl
      rw [e2] at h1
      refine .inr ⟨(p.1, p.2 + i * 1), ?_, h1⟩
      unfold SlW.sub
      simp only []
      rw [if_neg (by omega), ha]
      show some ((ad p).add (i * 1)) = _
      rw [add_ad]
section
variable {F : Nat} {H : SH}
theorem IndexB_loopW {l : SlW} {bl : List Bool} (hl : l.len = bl.length) (hr : H.rowW l.a (bl.map fun x => .bool x)) (hm : bl.length ≤ 1000000000000) {K : Int → SH → Prop} (k1 : bl.any id = true → ∀ x : Int, 0 ≤ x → K x H) (k2 : bl.any id = false → K (-1) H) :
    ∀ (j i f : Nat), bl.length - i = j → i ≤ bl.length → j < f → (bl.take i).any id = false → slices_Index_bool_bool__w0.l1 F K f l true (bl.length : Int) (i : Int) H := by
  intro j
  induction j with
  | zero =>
    intro i f hj hi hf e
    obtain ⟨f, rfl⟩ : ∃ i, f = i + 1 := ⟨f - 1, by omega⟩
    refine br_f (by omega) ⟨H, .refl H, k2 ?_⟩
    rwa [List.take_of_length_le (by omega)] at e
  | succ j ih =>
    intro i f hj hi hf e
    obtain ⟨f, rfl⟩ : ∃ i, f = i + 1 := ⟨f - 1, by omega⟩
    have h1 : i < bl.length := by omega
    refine br_t (by omega) (row_atW hr (v := .bool bl[i]) (by simp [h1]) (by omega) fun p hp hh => ⟨bl[i], hh, ?_⟩)
    by_cases c : true = bl[i]
    · refine br_t c ⟨H, .refl H, k1 ?_ _ (by omega)⟩
      rw [List.any_eq_true]
      exact ⟨bl[i], List.getElem_mem h1, c.symm⟩
    · refine br_f c ?_
      rw [w64_id (by omega), show (i : Int) + 1 = ((i + 1 : Nat) : Int) by omega]
      refine ih (i + 1) f (by omega) (by omega) (by omega) ?_
      rw [List.take_succ_eq_append_getElem h1, List.any_append, e]
      cases hb : bl[i] with
      | true => exact absurd hb.symm c
      | false => simp
theorem ContainsB_specW {l : SlW} {bl : List Bool} (hl : l.len = bl.length) (hr : H.rowW l.a (bl.map fun x => .bool x)) (hm : bl.length ≤ 1000000000000) (hF : bl.length < F) {K : Bool → SH → Prop} (k : K (bl.any id) H) : slices_Contains_bool_bool__w0.wp F l true H K := by
  have := IndexB_loopW (F := F) (K := fun x3 H4 => ∃ Hr, SH.le Hr H4 ∧ K (decide (x3 ≥ 0)) Hr) hl hr hm (fun e x hx => ⟨H, .refl H, by rw [decide_eq_true hx]; rw [e] at k; exact k⟩) (fun e => ⟨H, .refl H, by rw [decide_eq_false (by omega)]; rw [e] at k; exact k⟩) _ 0 F rfl (by omega) (by omega) rfl
  unfold slices_Contains_bool_bool__w0.wp slices_Index_bool_bool__w0.wp
  rw [hl]
  exact this
end
section
variable {F : Nat} {b : Nat} {m : DM} {H0 H : SH}
theorem Crash_loopW {N kk : Nat} {ks : List Bool} {l : SlW} {b19 : Nat} {lack : Int} {m : DM} (hN : N ≤ 1000000000000) (hkk : kk ≤ 1000000000000) (hl : l.len = ks.length) (hcap : l.len ≤ l.cap) (hks : ks.length ≤ m.waits.length) (hW : m.waits.length ≤ 1000000000000) (hF : ks.length < F)
    (hrow : H0.rowW l.a (ks.map fun x => .bool x)) (hlack : H0.has (b19, 1) (.int .i64 lack)) {C : Ct} {K : SH → Prop} (k : ∀ H', On (DiskI b ⟨-1, false, C, C, []⟩) H0 H' → K H') :
    ∀ (j i f : Nat) (gap : ByteArray) (c : Ct) (H : SH), ks.length - i = j → i ≤ ks.length → j < f → CrI N kk (m.waits.drop i) gap c → On (DiskI b { m with lasts := c }) H0 H → crashC lack ((ks.zip m.waits).drop i) gap c = C →
      disk_Disk_Crash__w1.l1 F K f b 0 b19 l gap l (ks.length : Int) (i : Int) H := by
  intro j
  induction j with
  | zero =>
    intro i f gap c H hj hi hf inv h e
    obtain ⟨f, rfl⟩ : ∃ i, f = i + 1 := ⟨f - 1, by omega⟩
    refine br_f (by omega) ?_
    rw [List.drop_eq_nil_of_le (by rw [List.length_zip]; omega)] at e
    change c = C at e
    subst e
    obtain ⟨S1, S2, W, H1, H2, H3, h1, h2, h3, h4⟩ := disk_open h
    refine ⟨c.log, S2, rowN (On.blk.1 h1).2.2 fun j u hu => ?_, copied_spec (sl_len h3) (h3.row.le (h2.le.trans h1.le)) (by rw [inv.slots]; exact hkk) fun l' H' ho => ?_⟩
    · cases j with
      | zero => simpa [dcell] using hu
      | succ j => cases j with
        | zero => simpa [dcell] using hu
        | succ j => simp at hu
    obtain ⟨H4, k1, k2⟩ := On.swap .sl .blk ho h1
    have k3 := On.setl (k := 2) (vs := [.string c.log, sv l']) k1
    have k4 := On.setl (k := 6) (vs := [sv Sl.nil]) k3
    have k5 := On.setl (k := 0) (vs := [.int .i64 (-1), .bool false]) k4
    refine ⟨k1.wrs rfl (Nat.le_of_ble_eq_true rfl), k3.wrs rfl (Nat.le_of_ble_eq_true rfl), k4.wrs rfl (Nat.le_of_ble_eq_true rfl), _, .refl _, k _ ?_⟩
    have k6 := k2.below h2.le
    exact disk_close (m := ⟨-1, false, c, c, []⟩) (S1 := l') (S2 := S2) (W := Sl.nil) k5 k6 (h3.below h4.le) (On.nil _ _ _)
  | succ j ih =>
    intro i f gap c H hj hi hf inv h e
    obtain ⟨f, rfl⟩ : ∃ i, f = i + 1 := ⟨f - 1, by omega⟩
    have hi1 : i < ks.length := by omega
    have hi2 : i < m.waits.length := by omega
    have hdrop : m.waits.drop i = m.waits[i] :: m.waits.drop (i + 1) := List.drop_eq_getElem_cons hi2
    have hzip : (ks.zip m.waits).drop i = (ks[i], m.waits[i]) :: (ks.zip m.waits).drop (i + 1) := by
      rw [List.drop_eq_getElem_cons (by rw [List.length_zip]; omega), List.getElem_zip]
    rw [hdrop] at inv
    rw [hzip] at e
    have next : ∀ (gap' : ByteArray) (c' : Ct) (H' : SH), CrI N kk (m.waits.drop (i + 1)) gap' c' → On (DiskI b { m with lasts := c' }) H0 H' → crashC lack ((ks.zip m.waits).drop (i + 1)) gap' c' = C → disk_Disk_Crash__w1.l1 F K f b 0 b19 l gap' l (ks.length : Int) (w64 ((i : Int) + 1)) H' := fun gap' c' H' a1 a2 a3 => by
      rw [w64_id (by omega), show (i : Int) + 1 = ((i + 1 : Nat) : Int) by omega]
      exact ih (i + 1) f gap' c' H' (by omega) (by omega) (by omega) a1 a2 a3
    obtain ⟨W, pw, w1, w2, w3, w4, w5, _⟩ := waitAt h hi2
    have hrow' := hrow.le h.le
    refine br_t (by omega) (row_atW hrow' (v := .bool ks[i]) (by simp [hi1]) (by omega) fun p hp hh => ⟨ks[i], hh, W, w1, pw, w2, by omega, by simp only [] at w3; omega, m.waits[i].1, m.waits[i].2, ?_, fun b41 hb41 => ⟨wrs_upd rfl (Nat.le_refl _), ?_⟩⟩)
    · obtain ⟨o, ho, hc⟩ := w4
      obtain ⟨o', ho', hc'⟩ := w5
      rw [ho] at ho'; cases ho'
      simp only [Int.toNat_natCast]
      refine .inr ⟨_, o, rfl, ho, fun j u hu => ?_⟩
      cases j with
      | zero => simp at hu; subst hu; exact hc
      | succ j => cases j with
        | zero => simp at hu; subst hu; exact hc'
        | succ j => simp at hu
    rw [setl_upd]
    show (_ → _) ∧ _
    have ew : wrl [Value.int .i64 0, .string ByteArray.empty] 0 [.int .i64 m.waits[i].1, .string m.waits[i].2] = [.int .i64 m.waits[i].1, .string m.waits[i].2] := by simp [wrl]
    simp only [ew]
    generalize hwi : m.waits[i] = w at *
    obtain ⟨H0', g, gt, gle⟩ := h.temp .disk hb41 ⟨[.int .i64 w.1, .string w.2], WRT, false, 2⟩
    have hg41 := g.le _ _ gt
    generalize hG : (H.upd b41 ⟨[.int .i64 w.1, .string w.2], WRT, false, 2⟩) = G at *
    have hthere := inv.there w (List.mem_cons_self)
    have hsz := inv.size
    simp only [List.map_cons, List.sum_cons] at hsz
    cases hq : ks[i] with
    | false =>
      rw [hq] at e
      have inv' := inv.gap
      refine br_f (by simp) ⟨w.1, ⟨_, hg41, rfl⟩, ?_⟩
      by_cases hlog : w.1 = -1
      · refine br_t hlog ⟨w.2, ⟨_, hg41, rfl⟩, by omega, by omega, fun b61 hb61 => ⟨List.replicate w.2.size 0, by simp, ?_, ?_, ?_⟩⟩
        · rw [zeroB_eq]
          exact row_upd (by simp)
        · have : (⟨(List.replicate w.2.size (0 : UInt8)).toArray⟩ : ByteArray).size = w.2.size := by rw [show (⟨(List.replicate w.2.size (0 : UInt8)).toArray⟩ : ByteArray) = ofL (List.replicate w.2.size 0) from rfl, ofL_size]; simp
          rw [this]; omega
        · obtain ⟨G0, g1, _, g2⟩ := g.temp .disk hb61 ⟨(Builtin.zeroCells (Value.cells (.int .u8 0 : Value)) (w.2.size : Int).toNat).toList, 5, false, (w.2.size : Int).toNat * 1⟩
          have e' : crashC lack ((ks.zip m.waits).drop (i + 1)) (if w.1 = -1 then gap ++ zeroB w.2.size else gap) c = C := e
          rw [if_pos hlog] at inv' e'
          exact next _ c _ inv' (g1.below (gle.trans g2)) e'
      · have e' : crashC lack ((ks.zip m.waits).drop (i + 1)) (if w.1 = -1 then gap ++ zeroB w.2.size else gap) c = C := e
        rw [if_neg hlog] at inv' e'
        exact br_f hlog (br_f (by simp) (next _ c _ inv' (g.below gle) e'))
    | true =>
      rw [hq] at e
      -- the write as it is done
      have last : ∀ (w' : Wr) (G' : SH), w'.1 = w.1 → (w.1 = -1 → w'.2.size ≤ w.2.size) → (w.1 ≠ -1 → w'.2.size ≤ 64) → (if w'.1 = -1 then crashC lack ((ks.zip m.waits).drop (i + 1)) ByteArray.empty (c.put (w'.1, gap ++ w'.2)) else crashC lack ((ks.zip m.waits).drop (i + 1)) gap (c.put w')) = C →
          (∃ H5, On (Blk b41 ⟨[.int .i64 w'.1, .string w'.2], WRT, false, 2⟩) H5 G' ∧ On (DiskI b { m with lasts := c }) H0 H5) → disk_Disk_Crash__w1.j5 F K (disk_Disk_Crash__w1.l1 F K f) b 0 b19 l gap b41 l (ks.length : Int) (i : Int) G' := by
        rintro w' G' e1 s1 s2 e2 ⟨H5, a1, a2⟩
        have inv' := inv.put e1 s1 s2
        refine ⟨w'.1, a1.has rfl, ?_⟩
        have h6 : ∀ (w2 : Wr) (gap' : ByteArray) (G2 : SH), w2.1 = w'.1 → c.log.size + w2.2.size ≤ 9223372036854775807 → (∃ H5, On (Blk b41 ⟨[.int .i64 w2.1, .string w2.2], WRT, false, 2⟩) H5 G2 ∧ On (DiskI b { m with lasts := c }) H0 H5) → CrI N kk (m.waits.drop (i + 1)) gap' (c.put w2) → crashC lack ((ks.zip m.waits).drop (i + 1)) gap' (c.put w2) = C →
            disk_Disk_Crash__w1.j6 F K (disk_Disk_Crash__w1.l1 F K f) b 0 b19 l gap' b41 l (ks.length : Int) (i : Int) G2 := by
          rintro w2 gap' G2 d1 d2 ⟨H6, d3, d4⟩ d5 d6
          obtain ⟨H7, d7, d8⟩ := On.swap .blk .disk d3 d4
          refine ⟨w2.1, w2.2, rowN (On.blk.1 d3).2.2 fun j u hu => by simpa using hu, putLast_spec (m := { m with lasts := c }) (w := w2) ?_ d2 d7 fun H' h' => ?_⟩
          · rw [d1, e1]; simp only []; rw [inv.slots]; exact hthere
          · exact next gap' _ H' d5 (h'.below d8.le) d6
        by_cases hlog : w'.1 = -1
        · have hw2 := s1 (by omega)
          rw [if_pos hlog] at e2
          have a3 := On.setl (k := 1) (vs := [.string (gap ++ w'.2)]) a1
          refine br_t hlog ⟨w'.2, a1.has rfl, by omega, a1.wrs rfl (Nat.le_refl _), h6 (w'.1, gap ++ w'.2) ByteArray.empty _ rfl ?_ ⟨H5, a3, a2⟩ (inv'.1 hlog) e2⟩
          show c.log.size + (gap ++ w'.2).size ≤ _
          rw [ByteArray.size_append]; omega
        · rw [if_neg hlog] at e2
          have hw2 := s2 (by omega)
          exact br_f hlog (h6 w' gap _ rfl (by omega) ⟨H5, a1, a2⟩ (inv'.2 hlog) e2)
      refine br_t rfl (br_t rfl ⟨?_, ?_, by omega, ?_⟩)
      · rw [w64_id (by omega)]; omega
      · rw [w64_id (by omega)]; omega
      have hto : (w64 ((i : Int) + 1)).toNat = i + 1 := by rw [w64_id (by omega)]; omega
      rw [hto, Int.toNat_natCast]
      have hsub : (SlW.sub 1 l (i + 1) l.len l.cap).len = (ks.drop (i + 1)).length := by unfold SlW.sub; rw [List.length_drop]; simp only []; omega
      have hrow2 : G.rowW (SlW.sub 1 l (i + 1) l.len l.cap).a ((ks.drop (i + 1)).map fun x => .bool x) := by
        have := SH.sub_rowW (i := i + 1) (by rw [hl]; simp) hcap (by omega) (hrow.le (gle.trans g.le))
        rwa [← List.map_drop] at this
      refine ContainsB_specW hsub hrow2 (by rw [List.length_drop]; omega) (by rw [List.length_drop]; omega) ?_
      have hany : ((ks.zip m.waits).drop (i + 1)).any (·.1) = (ks.drop (i + 1)).any id := by
        rw [zip_drop, zip_any (by rw [List.length_drop, List.length_drop]; omega)]
      have e3 : crashC lack ((true, w) :: (ks.zip m.waits).drop (i + 1)) gap c = (let w' := if (ks.drop (i + 1)).any id then w else c.torn w lack; if w'.1 = -1 then crashC lack ((ks.zip m.waits).drop (i + 1)) ByteArray.empty (c.put (w'.1, gap ++ w'.2)) else crashC lack ((ks.zip m.waits).drop (i + 1)) gap (c.put w')) := by
        rw [← hany]; rfl
      rw [e3] at e
      have hblk : ∃ H5, On (Blk b41 ⟨[.int .i64 w.1, .string w.2], WRT, false, 2⟩) H5 G ∧ On (DiskI b { m with lasts := c }) H0 H5 := ⟨H, by rw [← hG]; exact On.new hb41, h⟩
      cases ha : (ks.drop (i + 1)).any id with
      | true =>
        rw [ha] at e
        exact br_t rfl (last w G rfl (fun _ => Nat.le_refl _) (fun h0 => inv.w64 w List.mem_cons_self h0) e hblk)
      | false =>
        rw [ha] at e
        obtain ⟨S1, S2, W2, G1, G2, G3, d1, d2, d3, d4⟩ := disk_open g
        have ts := torn_size c w lack inv.s64
        have hw1 : w.2.size ≤ 1000000000000 := by omega
        refine br_f (by simp) ⟨w.1, w.2, rowN hg41 (fun j u hu => by simpa using hu), lack, (hlack.le (gle.trans g.le)), torn_spec (c := c) (w := w) (S := S2) (fun _ => ⟨d1.has rfl, sl_len d3, d3.row.le (d2.le.trans d1.le), (hthere.resolve_left (by assumption)).1, by rw [inv.slots]; exact (hthere.resolve_left (by assumption)).2⟩) inv.s64 hw1 ?_⟩
        obtain ⟨H5, a1, a2⟩ := hblk
        have a3 := On.setl (k := 0) (vs := [.int .i64 (c.torn w lack).1, .string (c.torn w lack).2]) a1
        exact ⟨a1.wrs rfl (Nat.le_refl _), last (c.torn w lack) _ rfl ts.1 (ts.2 (fun h0 => inv.w64 w List.mem_cons_self h0)) e ⟨H5, a3, a2⟩⟩
theorem Crash_specW {N : Nat} {ks : List Bool} {l : SlW} {lack : Int} (hN : N ≤ 1000000000000) (hf : m.fit N) (hkk : m.lasts.slots.length ≤ 1000000000000) (ho : ∀ w ∈ m.waits, w.1 = -1 ∨ 0 ≤ w.1 ∧ w.1 < m.lasts.slots.length) (hl : l.len = ks.length) (hcap : l.len ≤ l.cap) (hF : ks.length < F) (hrow : H0.rowW l.a (ks.map fun x => .bool x))
    (h : On (DiskI b m) H0 H) {K : SH → Prop} (k : ∀ H', On (DiskI b (m.crash ks lack)) H0 H' → K H') : disk_Disk_Crash__w1.wp F (some (b, 0)) l lack H K := by
  refine fun b4 hb4 => p_some ?_
  obtain ⟨H0', g, gt, gle⟩ := h.temp .disk hb4 ⟨[swv l, .int .i64 lack], 36, false, 2⟩
  have hg4 := g.le _ _ gt
  obtain ⟨S1, S2, W, G1, G2, G3, d1, d2, d3, d4⟩ := disk_open g
  have hWl := wr_len d4
  have hlen := hf.len
  refine ⟨l, ⟨_, hg4, rfl⟩, l, ⟨_, hg4, rfl⟩, W, d1.has rfl, by omega, ?_, ?_, ?_⟩
  · unfold imin; split <;> omega
  · unfold imin; split <;> omega
  have hi : imin (l.len : Int) (W.len : Int) = ((min ks.length m.waits.length : Nat) : Int) := by unfold imin; split <;> omega
  rw [hi]
  simp only [Int.toNat_natCast, Int.toNat_zero]
  have hd : (SlW.sub 1 l 0 (min ks.length m.waits.length) l.cap).len = (ks.take m.waits.length).length := by unfold SlW.sub; simp; omega
  have hrow2 : H0'.rowW (SlW.sub 1 l 0 (min ks.length m.waits.length) l.cap).a ((ks.take m.waits.length).map fun x => .bool x) := by
    have h3 := hrow.le gle
    rcases h3 with h0 | ⟨p, ha, hb⟩
    · left
      have : ks = [] := by simpa using h0
      subst this; simp
    · refine .inr ⟨p, ?_, hb.take m.waits.length (by rw [List.map_take])⟩
      · unfold SlW.sub
        by_cases hc : l.cap = 0
        · rw [if_pos hc]; exact ha
        · rw [if_neg hc, ha]
          show some ((ad p).add (0 * 1)) = some (ad p)
          rfl
  have hl2 : ((SlW.sub 1 l 0 (min ks.length m.waits.length) l.cap).len : Int) = (((ks.take m.waits.length).length : Nat) : Int) := by rw [hd]
  rw [hl2]
  refine Crash_loopW (N := N) (kk := m.lasts.slots.length) (m := m) hN hkk hd ?_ (by rw [List.length_take]; omega) (by omega) (by rw [List.length_take]; omega) hrow2 ⟨_, gt, rfl⟩ (C := crashC lack (ks.zip m.waits) ByteArray.empty m.lasts) (fun H' h' => k H' (h'.below gle)) _ 0 F ByteArray.empty m.lasts _ rfl (by omega) (by rw [List.length_take]; omega) ?_ g ?_
  · unfold SlW.sub; simp only []; omega
  · refine ⟨?_, rfl, hf.lastS, fun w hw => hf.waitS w (List.mem_of_mem_drop hw), fun w hw => ho w (List.mem_of_mem_drop hw)⟩
    have := hf.tot
    have : (ByteArray.empty).size = 0 := rfl
    simp only [List.drop_zero]; omega
  · rw [List.drop_zero]
    rw [zip_take]
end
section
variable {F : Nat} {b : Nat} {m : DM} {H0 H : SH} {kk N : Nat}
theorem gCrashW {ks : List Bool} {l : SlW} {lack : Int} (g : m.good kk N) (hN : N ≤ 1000000000000) (hl : l.len = ks.length) (hcap : l.len ≤ l.cap) (hF : ks.length < F) (hrow : H0.rowW l.a (ks.map fun x => .bool x))
    (h : On (DiskI b m) H0 H) {K : SH → Prop} (k : ∀ H', On (DiskI b (m.crash ks lack)) H0 H' → K H') : disk_Disk_Crash__w1.wp F (some (b, 0)) l lack H K :=
  Crash_specW hN g.fit (by rw [g.lasts, ← g.now]; have := g.fit.slots; omega) (by rw [g.lasts]; exact g.waits) hl hcap hF hrow h k
end
section
variable {F : Nat} {bd : Nat} {m : DM} {H0 H : SH} {kk N : Nat}
theorem great15w {l : SlW} {ss : List ByteArray} (hF : 100 ≤ F) (hl : l.len = ss.length) (hr : H.rowW l.a (strc ss)) {K : Bool → SH → Prop} (k1 : K true H) (k2 : ss.length ≤ 60 → (∀ s ∈ ss, s.size ≤ 100) → K false H) : ladinglaw15_great__w0.wp F l H K := by
  refine ⟨fun _ => ⟨H, .refl H, k1⟩, fun c => ?_⟩
  have h60 : ss.length ≤ 60 := by omega
  have loop : ∀ (j i f : Nat), ss.length - i = j → i ≤ ss.length → j < f → (∀ s ∈ ss.take i, s.size ≤ 100) → ladinglaw15_great__w0.l1 F K f l (ss.length : Int) (i : Int) H := by
    intro j
    induction j with
    | zero =>
      intro i f hj hi hf hs
      obtain ⟨f, rfl⟩ : ∃ i, f = i + 1 := ⟨f - 1, by omega⟩
      rw [List.take_of_length_le (by omega)] at hs
      exact br_f (by omega) ⟨H, .refl H, k2 h60 hs⟩
    | succ j ih =>
      intro i f hj hi hf hs
      obtain ⟨f, rfl⟩ : ∃ i, f = i + 1 := ⟨f - 1, by omega⟩
      have hlt : i < ss.length := by omega
      refine br_t (by omega) (row_atW hr (strc_get hlt) (by omega) fun p hp hh => ⟨ss[i], hh, fun _ => ⟨H, .refl H, k1⟩, fun c => ?_⟩)
      rw [w64_id (by omega), show (i : Int) + 1 = ((i + 1 : Nat) : Int) by omega]
      refine ih (i + 1) f (by omega) (by omega) (by omega) fun s h => ?_
      rw [List.take_succ_eq_append_getElem hlt] at h
      rcases List.mem_append.1 h with h | h
      · exact hs s h
      · rw [List.mem_singleton.1 h]; omega
  rw [hl]
  exact loop ss.length 0 F (by omega) (by omega) (by omega) (by simp)
theorem JPut_specW {bj n : Nat} {all ss : List ByteArray} {L : List LP} {l : SlW} {HL : SH} (hF : 10 ≤ F) (g : m.good kk N) (hN : N ≤ 1000000000) (hl : l.len = ss.length) (hr : HL.rowW l.a (strc ss)) (hle : SH.le HL H0) (hs : ∀ s ∈ ss, s.size ≤ 60000 ∧ s.size < F) (hss : ss.length ≤ 1000000) (hsF : ss.length < F) (hall : all.length ≤ 1000000) (htot : (flatS (ss.map bs)).length ≤ 1000000000) (hn : n ≤ 1000000000)
    (h : Chain (jr bj bd all n :: dk bd m :: L) H0 H) {K : Option EV → SH → Prop} (k0 : m.appendE = 0 → ∀ H', Chain (jr bj bd (all ++ ss) (n + (flatS (ss.map bs)).length) :: dk bd (m.append (ofL (flatS (ss.map bs)))) :: L) H0 H' → K none H')
    (k1 : m.appendE ≠ 0 → ∀ H', Chain (jr bj bd all n :: dk bd (m.append (ofL (flatS (ss.map bs)))) :: L) H0 H' → K (some (.no m.appendE)) H') : journal_Journal_Put__w1.wp F (some (bj, 0)) l H K := by
  refine p_some ?_
  have hmono : ∀ i, (flatS ((ss.map bs).take i)).length ≤ (flatS (ss.map bs)).length := fun i => by
    have := congrArg (fun l => (flatS l).length) (List.take_append_drop i (ss.map bs))
    simp only [flatS_append, List.length_append] at this
    omega
  have loop : ∀ (j i f : Nat), ss.length - i = j → i ≤ ss.length → j < f → journal_Journal_Put__w1.l1 F K f bj 0 l (ofL (flatS ((ss.map bs).take i))) l (ss.length : Int) (i : Int) H := by
    intro j
    induction j with
    | zero =>
      intro i f hj hi hf
      obtain ⟨f, rfl⟩ : ∃ i, f = i + 1 := ⟨f - 1, by omega⟩
      obtain ⟨H1, j1, H2, d1, c⟩ := h
      obtain ⟨A, H3, h1, h2⟩ := jr_open j1
      obtain ⟨H4, d2, j2⟩ := On.swap .jr .disk j1 d1
      rw [List.take_of_length_le (by simp; omega)]
      refine br_f (by omega) ⟨some (bd, 0), h1.has rfl, gAppend g (by omega) (by rw [ofL_size]; omega) d2 fun H' h' => ?_⟩
      obtain ⟨H5, j3, d3⟩ := On.swap .disk .jr h' j2
      by_cases hE : m.appendE = 0
      · rw [hE]
        obtain ⟨A, H6, q1, q2⟩ := jr_open j3
        have hA := sl_len q2
        obtain ⟨H7, q3, q4⟩ := On.swap .blk .sl q1 q2
        have hrow : H'.rowW l.a (strc ss) := hr.le (hle.trans (c.le.trans (d3.le.trans j3.le)))
        refine o_none ⟨A, q1.has rfl, strc ss, hrow, q3.own.append (by omega) (by omega) (by rw [strc_len]; omega) (by simp [strc, Value.oneCell']) fun A' H8 ho hA' => ?_⟩
        have o1 := ho.on
        rw [show strc all ++ strc ss = strc (all ++ ss) by simp [strc]] at o1
        obtain ⟨H9, o2, o3⟩ := On.swap .sl .blk o1 q4
        have o4 := On.setl (k := 1) (vs := [sv A']) o2
        have o5 := On.setl (k := 2) (vs := [.int .i64 ((n + (flatS (ss.map bs)).length : Nat) : Int)]) o4
        refine ⟨o2.wrs rfl (Nat.le_of_ble_eq_true rfl), n, o4.has rfl, o4.wrs rfl (Nat.le_of_ble_eq_true rfl), _, .refl _, ?_⟩
        rw [ofL_size, w64_id (by omega), show (n : Int) + ((flatS (ss.map bs)).length : Int) = ((n + (flatS (ss.map bs)).length : Nat) : Int) by omega]
        exact k0 hE _ ⟨_, jr_close (n := n + (flatS (ss.map bs)).length) o5 o3, _, d3, c⟩
      · rw [errN_some hE]
        exact o_some ⟨H', .refl _, k1 hE H' ⟨H5, j3, H2, d3, c⟩⟩
    | succ j ih =>
      intro i f hj hi hf
      obtain ⟨f, rfl⟩ : ∃ i, f = i + 1 := ⟨f - 1, by omega⟩
      have hlt : i < ss.length := by omega
      have hsi := hs _ (List.getElem_mem hlt)
      have hcat : ofL (flatS ((ss.map bs).take i)) ++ ofL (sealL (bs ss[i])) = ofL (flatS ((ss.map bs).take (i + 1))) := by
        rw [ofL_append, List.take_succ_eq_append_getElem (by simpa using hlt), flatS_append]
        simp [flatS]
      refine br_t (by omega) (row_atW (hr.le (hle.trans h.le)) (strc_get hlt) (by omega) fun p hp hh => ⟨ss[i], hh, Seal_spec hF hsi.1 hsi.2 (o_none ⟨?_, ?_⟩)⟩)
      · have := hmono i
        rw [ofL_size, ofL_size, sealL_len, bs_len]; omega
      · rw [hcat, w64_id (by omega), show (i : Int) + 1 = ((i + 1 : Nat) : Int) by omega]
        exact ih (i + 1) f (by omega) (by omega) (by omega)
  have := loop ss.length 0 F (by omega) (by omega) hsF
  rw [hl]
  exact this
theorem JWrite_specW {bj n : Nat} {all ss : List ByteArray} {L : List LP} {l : SlW} {HL : SH} (hF : 10 ≤ F) (g : m.good kk N) (hN : N ≤ 1000000000) (hl : l.len = ss.length) (hr : HL.rowW l.a (strc ss)) (hle : SH.le HL H0) (hs : ∀ s ∈ ss, s.size ≤ 60000 ∧ s.size < F) (hss : ss.length ≤ 1000000) (hsF : ss.length < F) (hall : all.length ≤ 1000000) (htot : (flatS (ss.map bs)).length ≤ 1000000000) (hn : n ≤ 1000000000)
    (h : Chain (jr bj bd all n :: dk bd m :: L) H0 H) {K : Option EV → SH → Prop} (k0 : m.appendE = 0 → ∀ H', Chain (jr bj bd (all ++ ss) (n + (flatS (ss.map bs)).length) :: dk bd (m.append (ofL (flatS (ss.map bs)))).sync :: L) H0 H' → K (errN (m.append (ofL (flatS (ss.map bs)))).appendE) H')
    (k1 : m.appendE ≠ 0 → ∀ H', Chain (jr bj bd all n :: dk bd (m.append (ofL (flatS (ss.map bs)))) :: L) H0 H' → K (some (.no m.appendE)) H') : journal_Journal_Write__w1.wp F (some (bj, 0)) l H K := by
  refine JPut_specW hF g hN hl hr hle hs hss hsF hall htot hn h (fun hE H' h' => o_none ?_) (fun hE H' h' => o_some ⟨H', .refl _, k1 hE H' h'⟩)
  exact JFlush_spec g.append h' fun H2 h2 => ⟨H2, .refl _, k0 hE H2 h2⟩
end
end Go.Proofs.YtknhlipealekoaaDoor.K
