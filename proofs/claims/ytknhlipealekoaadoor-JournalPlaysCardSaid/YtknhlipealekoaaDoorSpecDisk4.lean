/- What the functions of package disk do to a disk: a crash. -/
import Derived.Test.YtknhlipealekoaaDoorSpecDisk3
set_option linter.unusedVariables false
set_option linter.unusedSimpArgs false
namespace Go.Proofs.YtknhlipealekoaaDoor.K
open Go

section
variable {F : Nat} {b : Nat} {m : DM} {H0 H : SH}
theorem IndexB_loop {l : Sl} {bl : List Bool} (hl : l.len = bl.length) (hr : H.row l.a (bl.map fun x => .bool x)) (hm : bl.length ≤ 1000000000000) {K : Int → SH → Prop} (k1 : bl.any id = true → ∀ x : Int, 0 ≤ x → K x H) (k2 : bl.any id = false → K (-1) H) :
    ∀ (j i f : Nat), bl.length - i = j → i ≤ bl.length → j < f → (bl.take i).any id = false → slices_Index_bool_bool.l1 F K f l true (bl.length : Int) (i : Int) H := by
  intro j
  induction j with
  | zero =>
    intro i f hj hi hf e
    obtain ⟨f, rfl⟩ : ∃ i, f = i + 1 := ⟨f - 1, by omega⟩
    refine br_f (by omega) ⟨H, .refl H, k2 ?_⟩
    rwa [List.take_of_length_le (by omega)] at e
  | succ j ih =>
    intro i f hj hi hf e
    obtain ⟨f, rfl⟩ : ∃ i, f = i + 1 := ⟨f - 1, by omega⟩
    have h1 : i < bl.length := by omega
    refine br_t (by omega) (row_at hr (v := .bool bl[i]) (by simp [h1]) (by omega) fun p hp hh => ⟨bl[i], hh, ?_⟩)
    by_cases c : true = bl[i]
    · refine br_t c ⟨H, .refl H, k1 ?_ _ (by omega)⟩
      rw [List.any_eq_true]
      exact ⟨bl[i], List.getElem_mem h1, c.symm⟩
    · refine br_f c ?_
      rw [w64_id (by omega), show (i : Int) + 1 = ((i + 1 : Nat) : Int) by omega]
      refine ih (i + 1) f (by omega) (by omega) (by omega) ?_
      rw [List.take_succ_eq_append_getElem h1, List.any_append, e]
      cases hb : bl[i] with
      | true => exact absurd hb.symm c
      | false => simp
theorem ContainsB_spec {l : Sl} {bl : List Bool} (hl : l.len = bl.length) (hr : H.row l.a (bl.map fun x => .bool x)) (hm : bl.length ≤ 1000000000000) (hF : bl.length < F) {K : Bool → SH → Prop} (k : K (bl.any id) H) : slices_Contains_bool_bool.wp F l true H K := by
  have := IndexB_loop (F := F) (K := fun x3 H4 => ∃ Hr, SH.le Hr H4 ∧ K (decide (x3 ≥ 0)) Hr) hl hr hm (fun e x hx => ⟨H, .refl H, by rw [decide_eq_true hx]; rw [e] at k; exact k⟩) (fun e => ⟨H, .refl H, by rw [decide_eq_false (by omega)]; rw [e] at k; exact k⟩) _ 0 F rfl (by omega) (by omega) rfl
  unfold slices_Contains_bool_bool.wp slices_Index_bool_bool.wp
  rw [hl]
  exact this

theorem torn_size (c : Ct) (w : Wr) (lack : Int) (hs : ∀ s ∈ c.slots, s.size ≤ 64) : (w.1 = -1 → (c.torn w lack).2.size ≤ w.2.size) ∧ ((w.1 ≠ -1 → w.2.size ≤ 64) → (w.1 ≠ -1 → (c.torn w lack).2.size ≤ 64)) := by
  have hg : ∀ i, (c.slots.getD i ByteArray.empty).size ≤ 64 := fun i => by
    by_cases h : i < c.slots.length
    · rw [getD_lt h]; exact hs _ (List.getElem_mem h)
    · simp [List.getD, h]
  have h2 := hg w.1.toNat
  unfold Ct.torn
  generalize c.slots.getD w.1.toNat ByteArray.empty = old at *
  have h3 : ∀ (s : ByteArray) (i j : Nat), (s.extract i j).size = min j s.size - i := fun s i j => by simp [ByteArray.size_extract]
  constructor
  · intro h
    simp only [h, ne_eq, not_true_eq_false, false_and, if_false, h3]
    omega
  · intro h1 h
    have := h1 h
    simp only []
    split
    · rw [ByteArray.size_append, h3, h3]; omega
    · rw [h3]; omega
theorem torn_spec {w : Wr} {c : Ct} {lack : Int} {S : Sl} {o : Nat} (hsl : w.1 ≠ -1 → H.has (b, o + 1) (sv S) ∧ S.len = c.slots.length ∧ H.row S.a (strc c.slots) ∧ 0 ≤ w.1 ∧ w.1 < c.slots.length) (hs : ∀ s ∈ c.slots, s.size ≤ 64) (hw : w.2.size ≤ 1000000000000)
    {K : Int → ByteArray → SH → Prop} (k : K (c.torn w lack).1 (c.torn w lack).2 H) : disk_content_torn.wp F (some (b, o)) w.1 w.2 lack H K := by
  refine fun b5 hb5 b7 hb7 => ?_
  have hne : b5 ≠ b7 := by rintro rfl; rw [SH.upd_same] at hb7; cases hb7
  have hb7' : H b7 = none := by rw [SH.upd_ne _ _ (Ne.symm hne)] at hb7; exact hb7
  have hle : SH.le H ((H.upd b5 ⟨[.int .i64 w.1, .string w.2], WRT, false, 2⟩).upd b7 ⟨[.int .i64 0, .string ByteArray.empty], WRT, false, 2⟩) := (le_upd hb5).trans (le_upd hb7)
  have h0 : SH.has ((H.upd b5 ⟨[.int .i64 w.1, .string w.2], WRT, false, 2⟩).upd b7 ⟨[.int .i64 0, .string ByteArray.empty], WRT, false, 2⟩) (b5, 0) (.int .i64 w.1) := has_upd_ne hne (has_upd rfl)
  have h1 : SH.has ((H.upd b5 ⟨[.int .i64 w.1, .string w.2], WRT, false, 2⟩).upd b7 ⟨[.int .i64 0, .string ByteArray.empty], WRT, false, 2⟩) (b5, 1) (.string w.2) := has_upd_ne hne (has_upd rfl)
  have h7 : ((H.upd b5 ⟨[.int .i64 w.1, .string w.2], WRT, false, 2⟩).upd b7 ⟨[.int .i64 0, .string ByteArray.empty], WRT, false, 2⟩) b7 = some ⟨[.int .i64 0, .string ByteArray.empty], WRT, false, 2⟩ := SH.upd_same _ _ _
  have fin : ∀ t, t = (c.torn w lack).2 → disk_content_torn.j1 F K b5 b7 t ((H.upd b5 ⟨[.int .i64 w.1, .string w.2], WRT, false, 2⟩).upd b7 ⟨[.int .i64 0, .string ByteArray.empty], WRT, false, 2⟩) := fun t ht => by
    subst ht
    refine ⟨w.1, h0, wrs_upd rfl (Nat.le_refl _), w.1, (c.torn w lack).2, ?_, H, ?_, k⟩
    · rw [setl_upd]
      exact rowN (SH.upd_same _ _ _) fun j u hu => by simpa [wrl] using hu
    · rw [setl_upd]
      exact (le_upd hb5).trans (le_upd hb7)
  generalize hHH : ((H.upd b5 ⟨[.int .i64 w.1, .string w.2], WRT, false, 2⟩).upd b7 ⟨[.int .i64 0, .string ByteArray.empty], WRT, false, 2⟩) = HH at *
  have hn : w64 ((w.2.size : Int) - imin (imax lack 0) (w.2.size : Int)) = ((w.2.size - min (max lack 0).toNat w.2.size : Nat) : Int) := by
    have e : imin (imax lack 0) (w.2.size : Int) = ((min (max lack 0).toNat w.2.size : Nat) : Int) := by
      unfold imin imax
      split <;> split <;> omega
    rw [e, w64_id (by omega)]; omega
  show ∃ s9 : ByteArray, _
  refine ⟨w.2, h1, w.2, h1, w.2, h1, by omega, ?_, ?_, w.1, h0, ?_⟩
  · rw [hn]; omega
  · rw [hn]; omega
  · rw [hn]
    simp only [Int.toNat_natCast, Int.toNat_zero]
    by_cases c1 : w.1 = -1
    · refine br_f (by simp [c1]) (fin _ ?_)
      unfold Ct.torn; simp [c1]
    · refine br_t c1 ⟨w.2, h1, ?_⟩
      obtain ⟨g1, g2, g3, g4, g5⟩ := hsl c1
      have hlt : w.1.toNat < c.slots.length := by omega
      by_cases c2 : w.2.size - min (max lack 0).toNat w.2.size < w.2.size
      · obtain ⟨p, hp, hh⟩ := (g3.le hle).get (strc_get hlt)
        have h64 := hs _ (List.getElem_mem hlt)
        have hi : imin ((w.2.size - min (max lack 0).toNat w.2.size : Nat) : Int) ((c.slots[w.1.toNat]).size : Int) = ((min (w.2.size - min (max lack 0).toNat w.2.size) (c.slots[w.1.toNat]).size : Nat) : Int) := by
          unfold imin; split <;> omega
        refine br_t (by omega) (p_some ⟨S, g1.le hle, w.1, h0, p, hp, by omega, by omega, c.slots[w.1.toNat], by simpa using hh, ?_⟩)
        rw [hi]
        simp only [Int.toNat_natCast]
        refine ⟨by omega, by omega, by omega, ?_, fin _ ?_⟩
        · simp only [ByteArray.size_extract]; omega
        · unfold Ct.torn
          simp only []
          rw [if_pos ⟨c1, c2⟩, getD_lt hlt]
      · refine br_f (by omega) (fin _ ?_)
        unfold Ct.torn
        simp only []
        rw [if_neg fun h => c2 h.2]
theorem zeroB_eq (n : Nat) : (Builtin.zeroCells (Value.cells (.int .u8 0 : Value)) n).toList = byteCells (List.replicate n 0) := by
  rw [zeroCells_cells _ _ rfl, cellsF_const]; simp [byteCells]
theorem zip_any {ks : List Bool} {ws : List Wr} (h : ks.length ≤ ws.length) : (ks.zip ws).any (·.1) = ks.any id := by
  induction ks generalizing ws with
  | nil => rfl
  | cons k ks ih =>
    cases ws with
    | nil => simp at h
    | cons w ws => simp only [List.zip_cons_cons, List.any_cons, id]; rw [ih (by simpa using h)]
theorem zip_drop {α β : Type} : ∀ (i : Nat) (ks : List α) (ws : List β), (ks.zip ws).drop i = (ks.drop i).zip (ws.drop i)
  | 0, _, _ => rfl
  | i + 1, [], ws => by simp
  | i + 1, k :: ks, [] => by simp
  | i + 1, k :: ks, w :: ws => by simp only [List.zip_cons_cons, List.drop_succ_cons]; exact zip_drop i ks ws
theorem zip_take {α β : Type} : ∀ (ks : List α) (ws : List β), (ks.take ws.length).zip ws = ks.zip ws
  | [], ws => by simp
  | k :: ks, [] => by simp
  | k :: ks, w :: ws => by simp only [List.length_cons, List.take_succ_cons, List.zip_cons_cons]; rw [zip_take ks ws]
theorem SH.sub_row {H : SH} {l : Sl} {cs : List Value} {i : Nat} (hl : l.len = cs.length) (hc : l.len ≤ l.cap) (hi : i ≤ l.len) (hr : H.row l.a cs) : H.row (Sl.sub 1 l i l.len l.cap).a (cs.drop i) := by
  unfold Sl.sub
  by_cases h : l.cap = i
  · left; rw [List.drop_eq_nil_iff]; omega
  · rcases hr with rfl | ⟨p, o, ha, hb, hh⟩
    · left; simp
    · right
      refine ⟨(p.1, p.2 + i), o, by simp [h, ha], hb, fun j u hu => ?_⟩
      rw [List.getElem?_drop] at hu
      have := hh _ _ hu
      rw [show p.2 + i + j = p.2 + (i + j) by omega]; exact this
/-- What a crash asks of the state that the loop is in. -/
structure CrI (N kk : Nat) (rest : List Wr) (gap : ByteArray) (c : Ct) : Prop where
  size : gap.size + c.log.size + (rest.map fun w => w.2.size).sum ≤ N
  slots : c.slots.length = kk
  s64 : ∀ s ∈ c.slots, s.size ≤ 64
  w64 : ∀ w ∈ rest, w.1 ≠ -1 → w.2.size ≤ 64
  there : ∀ w ∈ rest, w.1 = -1 ∨ 0 ≤ w.1 ∧ w.1 < kk
theorem CrI.gap {N kk : Nat} {w : Wr} {rest : List Wr} {gap : ByteArray} {c : Ct} (h : CrI N kk (w :: rest) gap c) : CrI N kk rest (if w.1 = -1 then gap ++ zeroB w.2.size else gap) c := by
  refine ⟨?_, h.slots, h.s64, fun w' hw => h.w64 w' (List.mem_cons_of_mem _ hw), fun w' hw => h.there w' (List.mem_cons_of_mem _ hw)⟩
  have := h.size
  simp only [List.map_cons, List.sum_cons] at this
  split
  · rw [ByteArray.size_append, zeroB, ofL_size, List.length_replicate]; omega
  · omega
theorem CrI.put {N kk : Nat} {w w' : Wr} {rest : List Wr} {gap : ByteArray} {c : Ct} (h : CrI N kk (w :: rest) gap c) (e : w'.1 = w.1) (h1 : w.1 = -1 → w'.2.size ≤ w.2.size) (h2 : w.1 ≠ -1 → w'.2.size ≤ 64) :
    (w'.1 = -1 → CrI N kk rest ByteArray.empty (c.put (w'.1, gap ++ w'.2))) ∧ (w'.1 ≠ -1 → CrI N kk rest gap (c.put w')) := by
  have hs := h.size
  simp only [List.map_cons, List.sum_cons] at hs
  constructor
  · intro h0
    have : c.put (w'.1, gap ++ w'.2) = ⟨c.log ++ (gap ++ w'.2), c.slots⟩ := if_pos h0
    rw [this]
    refine ⟨?_, h.slots, h.s64, fun w' hw => h.w64 w' (List.mem_cons_of_mem _ hw), fun w' hw => h.there w' (List.mem_cons_of_mem _ hw)⟩
    have := h1 (by omega)
    have : (ByteArray.empty).size = 0 := rfl
    simp only [ByteArray.size_append]; omega
  · intro h0
    have : c.put w' = ⟨c.log, c.slots.set w'.1.toNat w'.2⟩ := if_neg h0
    rw [this]
    refine ⟨?_, by simpa using h.slots, fun s hs' => ?_, fun w' hw => h.w64 w' (List.mem_cons_of_mem _ hw), fun w' hw => h.there w' (List.mem_cons_of_mem _ hw)⟩
    · show gap.size + c.log.size + _ ≤ N; omega
    · rcases List.mem_or_eq_of_mem_set hs' with h3 | h3
      · exact h.s64 _ h3
      · rw [h3]; exact h2 (by omega)
theorem Crash_loop {N kk : Nat} {ks : List Bool} {l : Sl} {b19 : Nat} {lack : Int} {m : DM} (hN : N ≤ 1000000000000) (hkk : kk ≤ 1000000000000) (hl : l.len = ks.length) (hcap : l.len ≤ l.cap) (hks : ks.length ≤ m.waits.length) (hW : m.waits.length ≤ 1000000000000) (hF : ks.length < F)
    (hrow : H0.row l.a (ks.map fun x => .bool x)) (hlack : H0.has (b19, 1) (.int .i64 lack)) {C : Ct} {K : SH → Prop} (k : ∀ H', On (DiskI b ⟨-1, false, C, C, []⟩) H0 H' → K H') :
    ∀ (j i f : Nat) (gap : ByteArray) (c : Ct) (H : SH), ks.length - i = j → i ≤ ks.length → j < f → CrI N kk (m.waits.drop i) gap c → On (DiskI b { m with lasts := c }) H0 H → crashC lack ((ks.zip m.waits).drop i) gap c = C →
      disk_Disk_Crash.l1 F K f b 0 b19 l gap l (ks.length : Int) (i : Int) H := by
  intro j
  induction j with
  | zero =>
    intro i f gap c H hj hi hf inv h e
    obtain ⟨f, rfl⟩ : ∃ i, f = i + 1 := ⟨f - 1, by omega⟩
    refine br_f (by omega) ?_
    rw [List.drop_eq_nil_of_le (by rw [List.length_zip]; omega)] at e
    change c = C at e
    subst e
    obtain ⟨S1, S2, W, H1, H2, H3, h1, h2, h3, h4⟩ := disk_open h
    refine ⟨c.log, S2, rowN (On.blk.1 h1).2.2 fun j u hu => ?_, copied_spec (sl_len h3) (h3.row.le (h2.le.trans h1.le)) (by rw [inv.slots]; exact hkk) fun l' H' ho => ?_⟩
    · cases j with
      | zero => simpa [dcell] using hu
      | succ j => cases j with
        | zero => simpa [dcell] using hu
        | succ j => simp at hu
    obtain ⟨H4, k1, k2⟩ := On.swap .sl .blk ho h1
    have k3 := On.setl (k := 2) (vs := [.string c.log, sv l']) k1
    have k4 := On.setl (k := 6) (vs := [sv Sl.nil]) k3
    have k5 := On.setl (k := 0) (vs := [.int .i64 (-1), .bool false]) k4
    refine ⟨k1.wrs rfl (Nat.le_of_ble_eq_true rfl), k3.wrs rfl (Nat.le_of_ble_eq_true rfl), k4.wrs rfl (Nat.le_of_ble_eq_true rfl), _, .refl _, k _ ?_⟩
    have k6 := k2.below h2.le
    exact disk_close (m := ⟨-1, false, c, c, []⟩) (S1 := l') (S2 := S2) (W := Sl.nil) k5 k6 (h3.below h4.le) (On.nil _ _ _)
  | succ j ih =>
    intro i f gap c H hj hi hf inv h e
    obtain ⟨f, rfl⟩ : ∃ i, f = i + 1 := ⟨f - 1, by omega⟩
    have hi1 : i < ks.length := by omega
    have hi2 : i < m.waits.length := by omega
    have hdrop : m.waits.drop i = m.waits[i] :: m.waits.drop (i + 1) := List.drop_eq_getElem_cons hi2
    have hzip : (ks.zip m.waits).drop i = (ks[i], m.waits[i]) :: (ks.zip m.waits).drop (i + 1) := by
      rw [List.drop_eq_getElem_cons (by rw [List.length_zip]; omega), List.getElem_zip]
    rw [hdrop] at inv
    rw [hzip] at e
    have next : ∀ (gap' : ByteArray) (c' : Ct) (H' : SH), CrI N kk (m.waits.drop (i + 1)) gap' c' → On (DiskI b { m with lasts := c' }) H0 H' → crashC lack ((ks.zip m.waits).drop (i + 1)) gap' c' = C → disk_Disk_Crash.l1 F K f b 0 b19 l gap' l (ks.length : Int) (w64 ((i : Int) + 1)) H' := fun gap' c' H' a1 a2 a3 => by
      rw [w64_id (by omega), show (i : Int) + 1 = ((i + 1 : Nat) : Int) by omega]
      exact ih (i + 1) f gap' c' H' (by omega) (by omega) (by omega) a1 a2 a3
    obtain ⟨W, pw, w1, w2, w3, w4, w5, _⟩ := waitAt h hi2
    have hrow' := hrow.le h.le
    refine br_t (by omega) (row_at hrow' (v := .bool ks[i]) (by simp [hi1]) (by omega) fun p hp hh => ⟨ks[i], hh, W, w1, pw, w2, by omega, by simp only [] at w3; omega, m.waits[i].1, m.waits[i].2, ?_, fun b41 hb41 => ⟨wrs_upd rfl (Nat.le_refl _), ?_⟩⟩)
    · obtain ⟨o, ho, hc⟩ := w4
      obtain ⟨o', ho', hc'⟩ := w5
      rw [ho] at ho'; cases ho'
      simp only [Int.toNat_natCast]
      refine .inr ⟨_, o, rfl, ho, fun j u hu => ?_⟩
      cases j with
      | zero => simp at hu; subst hu; exact hc
      | succ j => cases j with
        | zero => simp at hu; subst hu; exact hc'
        | succ j => simp at hu
    rw [setl_upd]
    show (_ → _) ∧ _
    have ew : wrl [Value.int .i64 0, .string ByteArray.empty] 0 [.int .i64 m.waits[i].1, .string m.waits[i].2] = [.int .i64 m.waits[i].1, .string m.waits[i].2] := by simp [wrl]
    simp only [ew]
    generalize hwi : m.waits[i] = w at *
    obtain ⟨H0', g, gt, gle⟩ := h.temp .disk hb41 ⟨[.int .i64 w.1, .string w.2], WRT, false, 2⟩
    have hg41 := g.le _ _ gt
    generalize hG : (H.upd b41 ⟨[.int .i64 w.1, .string w.2], WRT, false, 2⟩) = G at *
    have hthere := inv.there w (List.mem_cons_self)
    have hsz := inv.size
    simp only [List.map_cons, List.sum_cons] at hsz
    cases hq : ks[i] with
    | false =>
      rw [hq] at e
      have inv' := inv.gap
      refine br_f (by simp) ⟨w.1, ⟨_, hg41, rfl⟩, ?_⟩
      by_cases hlog : w.1 = -1
      · refine br_t hlog ⟨w.2, ⟨_, hg41, rfl⟩, by omega, by omega, fun b61 hb61 => ⟨List.replicate w.2.size 0, by simp, ?_, ?_, ?_⟩⟩
        · rw [zeroB_eq]
          exact row_upd (by simp)
        · have : (⟨(List.replicate w.2.size (0 : UInt8)).toArray⟩ : ByteArray).size = w.2.size := by rw [show (⟨(List.replicate w.2.size (0 : UInt8)).toArray⟩ : ByteArray) = ofL (List.replicate w.2.size 0) from rfl, ofL_size]; simp
          rw [this]; omega
        · obtain ⟨G0, g1, _, g2⟩ := g.temp .disk hb61 ⟨(Builtin.zeroCells (Value.cells (.int .u8 0 : Value)) (w.2.size : Int).toNat).toList, 5, false, (w.2.size : Int).toNat * 1⟩
          have e' : crashC lack ((ks.zip m.waits).drop (i + 1)) (if w.1 = -1 then gap ++ zeroB w.2.size else gap) c = C := e
          rw [if_pos hlog] at inv' e'
          exact next _ c _ inv' (g1.below (gle.trans g2)) e'
      · have e' : crashC lack ((ks.zip m.waits).drop (i + 1)) (if w.1 = -1 then gap ++ zeroB w.2.size else gap) c = C := e
        rw [if_neg hlog] at inv' e'
        exact br_f hlog (br_f (by simp) (next _ c _ inv' (g.below gle) e'))
    | true =>
      rw [hq] at e
      -- the write as it is done
      have last : ∀ (w' : Wr) (G' : SH), w'.1 = w.1 → (w.1 = -1 → w'.2.size ≤ w.2.size) → (w.1 ≠ -1 → w'.2.size ≤ 64) → (if w'.1 = -1 then crashC lack ((ks.zip m.waits).drop (i + 1)) ByteArray.empty (c.put (w'.1, gap ++ w'.2)) else crashC lack ((ks.zip m.waits).drop (i + 1)) gap (c.put w')) = C →
          (∃ H5, On (Blk b41 ⟨[.int .i64 w'.1, .string w'.2], WRT, false, 2⟩) H5 G' ∧ On (DiskI b { m with lasts := c }) H0 H5) → disk_Disk_Crash.j5 F K (disk_Disk_Crash.l1 F K f) b 0 b19 l gap b41 l (ks.length : Int) (i : Int) G' := by
        rintro w' G' e1 s1 s2 e2 ⟨H5, a1, a2⟩
        have inv' := inv.put e1 s1 s2
        refine ⟨w'.1, a1.has rfl, ?_⟩
        have h6 : ∀ (w2 : Wr) (gap' : ByteArray) (G2 : SH), w2.1 = w'.1 → c.log.size + w2.2.size ≤ 9223372036854775807 → (∃ H5, On (Blk b41 ⟨[.int .i64 w2.1, .string w2.2], WRT, false, 2⟩) H5 G2 ∧ On (DiskI b { m with lasts := c }) H0 H5) → CrI N kk (m.waits.drop (i + 1)) gap' (c.put w2) → crashC lack ((ks.zip m.waits).drop (i + 1)) gap' (c.put w2) = C →
            disk_Disk_Crash.j6 F K (disk_Disk_Crash.l1 F K f) b 0 b19 l gap' b41 l (ks.length : Int) (i : Int) G2 := by
          rintro w2 gap' G2 d1 d2 ⟨H6, d3, d4⟩ d5 d6
          obtain ⟨H7, d7, d8⟩ := On.swap .blk .disk d3 d4
          refine ⟨w2.1, w2.2, rowN (On.blk.1 d3).2.2 fun j u hu => by simpa using hu, putLast_spec (m := { m with lasts := c }) (w := w2) ?_ d2 d7 fun H' h' => ?_⟩
          · rw [d1, e1]; simp only []; rw [inv.slots]; exact hthere
          · exact next gap' _ H' d5 (h'.below d8.le) d6
        by_cases hlog : w'.1 = -1
        · have hw2 := s1 (by omega)
          rw [if_pos hlog] at e2
          have a3 := On.setl (k := 1) (vs := [.string (gap ++ w'.2)]) a1
          refine br_t hlog ⟨w'.2, a1.has rfl, by omega, a1.wrs rfl (Nat.le_refl _), h6 (w'.1, gap ++ w'.2) ByteArray.empty _ rfl ?_ ⟨H5, a3, a2⟩ (inv'.1 hlog) e2⟩
          show c.log.size + (gap ++ w'.2).size ≤ _
          rw [ByteArray.size_append]; omega
        · rw [if_neg hlog] at e2
          have hw2 := s2 (by omega)
          exact br_f hlog (h6 w' gap _ rfl (by omega) ⟨H5, a1, a2⟩ (inv'.2 hlog) e2)
      refine br_t rfl (br_t rfl ⟨?_, ?_, by omega, ?_⟩)
      · rw [w64_id (by omega)]; omega
      · rw [w64_id (by omega)]; omega
      have hto : (w64 ((i : Int) + 1)).toNat = i + 1 := by rw [w64_id (by omega)]; omega
      rw [hto, Int.toNat_natCast]
      have hsub : (Sl.sub 1 l (i + 1) l.len l.cap).len = (ks.drop (i + 1)).length := by unfold Sl.sub; rw [List.length_drop]; simp only []; omega
      have hrow2 : G.row (Sl.sub 1 l (i + 1) l.len l.cap).a ((ks.drop (i + 1)).map fun x => .bool x) := by
        have := SH.sub_row (i := i + 1) (by rw [hl]; simp) hcap (by omega) (hrow.le (gle.trans g.le))
        rwa [← List.map_drop] at this
      refine ContainsB_spec hsub hrow2 (by rw [List.length_drop]; omega) (by rw [List.length_drop]; omega) ?_
      have hany : ((ks.zip m.waits).drop (i + 1)).any (·.1) = (ks.drop (i + 1)).any id := by
        rw [zip_drop, zip_any (by rw [List.length_drop, List.length_drop]; omega)]
      have e3 : crashC lack ((true, w) :: (ks.zip m.waits).drop (i + 1)) gap c = (let w' := if (ks.drop (i + 1)).any id then w else c.torn w lack; if w'.1 = -1 then crashC lack ((ks.zip m.waits).drop (i + 1)) ByteArray.empty (c.put (w'.1, gap ++ w'.2)) else crashC lack ((ks.zip m.waits).drop (i + 1)) gap (c.put w')) := by
        rw [← hany]; rfl
      rw [e3] at e
      have hblk : ∃ H5, On (Blk b41 ⟨[.int .i64 w.1, .string w.2], WRT, false, 2⟩) H5 G ∧ On (DiskI b { m with lasts := c }) H0 H5 := ⟨H, by rw [← hG]; exact On.new hb41, h⟩
      cases ha : (ks.drop (i + 1)).any id with
      | true =>
        rw [ha] at e
        exact br_t rfl (last w G rfl (fun _ => Nat.le_refl _) (fun h0 => inv.w64 w List.mem_cons_self h0) e hblk)
      | false =>
        rw [ha] at e
        obtain ⟨S1, S2, W2, G1, G2, G3, d1, d2, d3, d4⟩ := disk_open g
        have ts := torn_size c w lack inv.s64
        have hw1 : w.2.size ≤ 1000000000000 := by omega
        refine br_f (by simp) ⟨w.1, w.2, rowN hg41 (fun j u hu => by simpa using hu), lack, (hlack.le (gle.trans g.le)), torn_spec (c := c) (w := w) (S := S2) (fun _ => ⟨d1.has rfl, sl_len d3, d3.row.le (d2.le.trans d1.le), (hthere.resolve_left (by assumption)).1, by rw [inv.slots]; exact (hthere.resolve_left (by assumption)).2⟩) inv.s64 hw1 ?_⟩
        obtain ⟨H5, a1, a2⟩ := hblk
        have a3 := On.setl (k := 0) (vs := [.int .i64 (c.torn w lack).1, .string (c.torn w lack).2]) a1
        exact ⟨a1.wrs rfl (Nat.le_refl _), last (c.torn w lack) _ rfl ts.1 (ts.2 (fun h0 => inv.w64 w List.mem_cons_self h0)) e ⟨H5, a3, a2⟩⟩
theorem Crash_spec {N : Nat} {ks : List Bool} {l : Sl} {lack : Int} (hN : N ≤ 1000000000000) (hf : m.fit N) (hkk : m.lasts.slots.length ≤ 1000000000000) (ho : ∀ w ∈ m.waits, w.1 = -1 ∨ 0 ≤ w.1 ∧ w.1 < m.lasts.slots.length) (hl : l.len = ks.length) (hcap : l.len ≤ l.cap) (hF : ks.length < F) (hrow : H0.row l.a (ks.map fun x => .bool x))
    (h : On (DiskI b m) H0 H) {K : SH → Prop} (k : ∀ H', On (DiskI b (m.crash ks lack)) H0 H' → K H') : disk_Disk_Crash.wp F (some (b, 0)) l lack H K := by
  refine fun b4 hb4 => p_some ?_
  obtain ⟨H0', g, gt, gle⟩ := h.temp .disk hb4 ⟨[sv l, .int .i64 lack], 36, false, 2⟩
  have hg4 := g.le _ _ gt
  obtain ⟨S1, S2, W, G1, G2, G3, d1, d2, d3, d4⟩ := disk_open g
  have hWl := wr_len d4
  have hlen := hf.len
  refine ⟨l, ⟨_, hg4, rfl⟩, l, ⟨_, hg4, rfl⟩, W, d1.has rfl, by omega, ?_, ?_, ?_⟩
  · unfold imin; split <;> omega
  · unfold imin; split <;> omega
  have hi : imin (l.len : Int) (W.len : Int) = ((min ks.length m.waits.length : Nat) : Int) := by unfold imin; split <;> omega
  rw [hi]
  simp only [Int.toNat_natCast, Int.toNat_zero]
  have hd : (Sl.sub 1 l 0 (min ks.length m.waits.length) l.cap).len = (ks.take m.waits.length).length := by unfold Sl.sub; simp; omega
  have hrow2 : H0'.row (Sl.sub 1 l 0 (min ks.length m.waits.length) l.cap).a ((ks.take m.waits.length).map fun x => .bool x) := by
    rcases hrow.le gle with h0 | ⟨p, o, ha, hb, hh⟩
    · left
      have : ks = [] := by simpa using h0
      subst this; simp
    · refine .inr ⟨p, o, ?_, hb, fun j u hu => hh j u ?_⟩
      · unfold Sl.sub; simp [ha]
      · rw [List.getElem?_map] at hu ⊢
        rw [List.getElem?_take] at hu
        split at hu
        · exact hu
        · simp at hu
  have hl2 : ((Sl.sub 1 l 0 (min ks.length m.waits.length) l.cap).len : Int) = (((ks.take m.waits.length).length : Nat) : Int) := by rw [hd]
  rw [hl2]
  refine Crash_loop (N := N) (kk := m.lasts.slots.length) (m := m) hN hkk hd ?_ (by rw [List.length_take]; omega) (by omega) (by rw [List.length_take]; omega) hrow2 ⟨_, gt, rfl⟩ (C := crashC lack (ks.zip m.waits) ByteArray.empty m.lasts) (fun H' h' => k H' (h'.below gle)) _ 0 F ByteArray.empty m.lasts _ rfl (by omega) (by rw [List.length_take]; omega) ?_ g ?_
  · unfold Sl.sub; simp only []; omega
  · refine ⟨?_, rfl, hf.lastS, fun w hw => hf.waitS w (List.mem_of_mem_drop hw), fun w hw => ho w (List.mem_of_mem_drop hw)⟩
    have := hf.tot
    have : (ByteArray.empty).size = 0 := rfl
    simp only [List.drop_zero]; omega
  · rw [List.drop_zero]
    rw [zip_take]
end
end Go.Proofs.YtknhlipealekoaaDoor.K
