/- The laws DiskFuses and DiskBounds: what they come to. -/
import Derived.Test.YtknhlipealekoaaDoorLawDisk
import Derived.Test.YtknhlipealekoaaDoorGladinglaw14DiskFuses
import Derived.Test.YtknhlipealekoaaDoorGladinglaw14DiskBounds
import Derived.Deep.Grids
set_option linter.unusedVariables false
set_option linter.unusedSimpArgs false
namespace Go.Proofs.YtknhlipealekoaaDoor.K
open Go

theorem CodeD {F : Nat} {e : Option EV} {H : SH} {K : Int → SH → Prop} (hg : H.has (0, 0) (rtv 28)) (h : K (codeV e) H) : api_Code.wp F e H K := ⟨hg, h⟩
section
variable {F : Nat} {b : Nat} {m : DM} {H0 H : SH} {kk N : Nat}
theorem Down_spec (h : On (DiskI b m) H0 H) {K : Bool → SH → Prop} (k : K m.down H) : disk_Disk_Down.wp F (some (b, 0)) H K := by
  obtain ⟨S1, S2, W, H1, H2, H3, h1, h2, h3, h4⟩ := disk_open h
  exact p_some ⟨m.down, h1.has rfl, H, .refl H, k⟩
theorem Fuse_spec {n : Int} (h : On (DiskI b m) H0 H) {K : SH → Prop} (k : ∀ H', On (DiskI b (m.fuse n)) H0 H' → K H') : disk_Disk_Fuse.wp F (some (b, 0)) n H K := by
  obtain ⟨S1, S2, W, H1, H2, H3, h1, h2, h3, h4⟩ := disk_open h
  refine p_some ⟨h1.wrs rfl (Nat.le_of_ble_eq_true rfl), _, .refl _, k _ ?_⟩
  have e : imax n (-1) = max n (-1) := by unfold imax; split <;> omega
  rw [e]
  exact disk_close (m := m.fuse n) (On.setl (k := 0) (vs := [.int .i64 (max n (-1))]) h1) h2 h3 h4
theorem app_live {s : ByteArray} (hd : m.down = false) (hl : 0 < m.left) (hs : s.size ≠ 0) : (m.append s).down = false ∧ (m.append s).left = m.left - 1 ∧ (m.append s).now.log = m.now.log ++ s ∧ m.appendE = 0 := by
  have h0 : m.left ≠ 0 := by omega
  unfold DM.append DM.does DM.burn DM.lies Ct.put DM.appendE DM.burnE
  simp [hd, h0, hl, hs]
theorem app_end {s : ByteArray} (h : m.down = true ∨ m.left = 0) : (m.append s).down = true ∧ m.appendE = 8 := by
  unfold DM.append DM.does DM.burn DM.appendE DM.burnE
  by_cases hd : m.down = true
  · simp [hd]
  · simp [hd, h.resolve_left hd]
theorem sync_live (hd : m.down = false) (hl : 0 < m.left) : m.sync.down = false ∧ m.sync.left = m.left - 1 ∧ m.sync.now.log = m.now.log ∧ m.appendE = 0 := by
  have h0 : m.left ≠ 0 := by omega
  unfold DM.sync DM.burn DM.settle DM.appendE DM.burnE
  simp [hd, h0, hl]
theorem sync_end (h : m.down = true ∨ m.left = 0) : m.sync.down = true := by
  unfold DM.sync DM.burn
  by_cases hd : m.down = true
  · simp [hd]
  · simp [hd, h.resolve_left hd]
/-- The state behind i calls. -/
structure Fz (L i : Nat) (m : DM) (s : ByteArray) : Prop where
  good : m.good 2 (5000 + 2 * i)
  size : s.size ≤ i
  st : (m.down = false ∧ (m.left = (L : Int) - i ∧ i ≤ L) ∧ m.now.log = s) ∨ (m.down = true ∧ L < i)
theorem Fuses_end {L i : Nat} {s : ByteArray} (hF : 100 ≤ F) (hi : i ≤ 1000) (z : Fz L i m s) (h : On (DiskI b m) H0 H) {K : Bool → SH → Prop} (k : ∀ H', K true H') : ladinglaw14_DiskFuses.j4 F K (some (b, 0)) H := by
  refine gCrash (ks := []) z.good (by omega) rfl (Nat.le_refl _) (by simp; omega) (.inl rfl) h fun H1 h1 => ?_
  have g := z.good.crash (ks := []) (lack := 0)
  rw [crash_none] at h1 g
  refine Down_spec h1 (br_f (by simp) (gAppend g (by omega) (s := mkB [121]) (by decide) h1 fun H2 h2 => ?_))
  rw [appendE_free rfl rfl]
  exact o_none ⟨H2, .refl _, k _⟩
theorem Fuses_loop {L : Nat} {l : Sl} {bl : List Bool} (hF : 200 ≤ F) (hL : L < 50) (hl : l.len = bl.length) (hr : H0.row l.a (bl.map fun x => .bool x)) (hm : bl.length ≤ 100) (hg : H0.has (0, 0) (rtv 28)) {K : Bool → SH → Prop} (k : ∀ H', K true H') :
    ∀ (j i f : Nat) (m : DM) (s : ByteArray) (H : SH), bl.length - i = j → i ≤ bl.length → j < f → Fz L i m s → On (DiskI b m) H0 H → ladinglaw14_DiskFuses.l1 F K f (some (b, 0)) ((L : Int) - i) s l (bl.length : Int) (i : Int) H := by
  intro j
  induction j with
  | zero =>
    intro i f m s H hj hi hf z h
    obtain ⟨f, rfl⟩ : ∃ i, f = i + 1 := ⟨f - 1, by omega⟩
    refine br_f (by omega) ?_
    rcases z.st with ⟨d, ⟨e, eL⟩, g⟩ | ⟨d, e⟩
    · exact Log_spec d h (o_none (br_t g (Fuses_end (by omega) (by omega) z h k)))
    · exact Log_down d h (o_some (Fuses_end (by omega) (by omega) z h k))
  | succ j ih =>
    intro i f m s H hj hi hf z h
    obtain ⟨f, rfl⟩ : ∃ i, f = i + 1 := ⟨f - 1, by omega⟩
    have hlt : i < bl.length := by omega
    have next : ∀ (m' : DM) (s' : ByteArray) (H' : SH), Fz L (i + 1) m' s' → On (DiskI b m') H0 H' → ladinglaw14_DiskFuses.j3 F K (ladinglaw14_DiskFuses.l1 F K f) (some (b, 0)) ((L : Int) - i) s' l (bl.length : Int) (i : Int) H' := fun m' s' H' z' h' => by
      show ladinglaw14_DiskFuses.l1 F K f (some (b, 0)) (w64 ((L : Int) - i - 1)) s' l (bl.length : Int) (w64 ((i : Int) + 1)) H'
      rw [w64_id (by omega), w64_id (by omega), show (i : Int) + 1 = ((i + 1 : Nat) : Int) by omega, show (L : Int) - i - 1 = (L : Int) - ((i + 1 : Nat) : Int) by omega]
      exact ih (i + 1) f m' s' H' (by omega) (by omega) (by omega) z' h'
    have ok1 : ∀ (q : Bool) (m' : DM) (H' : SH), 0 < m.left → Fz L (i + 1) m' (if q then s else s ++ mkB [120]) → m.left = (L : Int) - i → On (DiskI b m') H0 H' → ladinglaw14_DiskFuses.j1 F K (ladinglaw14_DiskFuses.l1 F K f) (some (b, 0)) ((L : Int) - i) s q none l (bl.length : Int) (i : Int) H' := fun q m' H' hp z' e h' => by
      refine o_none (br_f (by rw [decide_eq_true (by omega)]; simp) (o_none ?_))
      cases q with
      | true => exact br_t rfl (next _ _ _ z' h')
      | false => exact br_f (by simp) ⟨by have := z.size; show s.size + 1 ≤ _; omega, next _ _ _ z' h'⟩
    have ok2 : ∀ (q : Bool) (m' : DM) (H' : SH), (L : Int) - i ≤ 0 → Fz L (i + 1) m' s → m'.down = true → On (DiskI b m') H0 H' → ladinglaw14_DiskFuses.j1 F K (ladinglaw14_DiskFuses.l1 F K f) (some (b, 0)) ((L : Int) - i) s q (some (.no 8)) l (bl.length : Int) (i : Int) H' := fun q m' H' hp z' hd h' => by
      refine o_some (br_f (by rw [decide_eq_false (by omega)]; simp) (CodeD (hg.le h'.le) (br_f (by simp [codeV, codeE]) (Down_spec h' (br_t hd (o_some (next _ _ _ z' h')))))))
    refine br_t (by omega) (row_at (hr.le h.le) (v := .bool bl[i]) (by simp [hlt]) (by omega) fun p hp hh => ⟨bl[i], hh, ?_⟩)
    have gS := z.good.sync
    have gA := z.good.append (s := mkB [120])
    have szx : (mkB [120]).size = 1 := rfl
    cases hq : bl[i] with
    | true =>
      refine br_t rfl (gSync z.good h fun H1 h1 => ?_)
      rcases z.st with ⟨d, ⟨e, eL⟩, g⟩ | ⟨d, e⟩
      · by_cases h0 : 0 < m.left
        · obtain ⟨s1, s2, s3, s4⟩ := sync_live d h0
          rw [s4]
          exact ok1 true _ _ h0 ⟨gS.more (by omega), by have := z.size; show s.size ≤ _; omega, .inl ⟨s1, ⟨by omega, by omega⟩, by rw [s3]; exact g⟩⟩ e h1
        · have hl := z.good.left
          by_cases h00 : m.left = 0
          · have s1 := sync_end (m := m) (.inr h00)
            rw [(app_end (m := m) (s := mkB [120]) (.inr h00)).2]
            exact ok2 true _ _ (by omega) ⟨gS.more (by omega), by have := z.size; omega, .inr ⟨s1, by omega⟩⟩ s1 h1
          · exfalso
            have := z.size
            -- the fuse burns from L on: it is never below 0 as long as it is alive
            omega
      · have s1 := sync_end (m := m) (.inl d)
        rw [(app_end (m := m) (s := mkB [120]) (.inl d)).2]
        exact ok2 true _ _ (by omega) ⟨gS.more (by omega), by have := z.size; omega, .inr ⟨s1, by omega⟩⟩ s1 h1
    | false =>
      refine br_f (by simp) (gAppend z.good (by omega) (s := mkB [120]) (by decide) h fun H1 h1 => ?_)
      rcases z.st with ⟨d, ⟨e, eL⟩, g⟩ | ⟨d, e⟩
      · by_cases h0 : 0 < m.left
        · obtain ⟨s1, s2, s3, s4⟩ := app_live (s := mkB [120]) d h0 (by decide)
          rw [s4]
          exact ok1 false _ _ h0 ⟨gA.more (by omega), by have := z.size; show (s ++ mkB [120]).size ≤ _; rw [ByteArray.size_append]; omega, .inl ⟨s1, ⟨by omega, by omega⟩, by rw [s3, g]; rfl⟩⟩ e h1
        · by_cases h00 : m.left = 0
          · have s1 := app_end (m := m) (s := mkB [120]) (.inr h00)
            rw [s1.2]
            exact ok2 false _ _ (by omega) ⟨gA.more (by omega), by have := z.size; omega, .inr ⟨s1.1, by omega⟩⟩ s1.1 h1
          · exfalso
            omega
      · have s1 := app_end (m := m) (s := mkB [120]) (.inl d)
        rw [s1.2]
        exact ok2 false _ _ (by omega) ⟨gA.more (by omega), by have := z.size; omega, .inr ⟨s1.1, by omega⟩⟩ s1.1 h1
theorem DiskFuses_wp {x : Int} {l : Sl} {bl : List Bool} (hF : 200 ≤ F) (hx : 0 ≤ x ∧ x ≤ 255) (hl : l.len = bl.length) (hr : H.row l.a (bl.map fun x => .bool x)) (hg : H.has (0, 0) (rtv 28)) : ladinglaw14_DiskFuses.wp F x l H (fun b _ => b = true) := by
  refine awake14_spec (by omega) fun H1 hle => br_t rfl ⟨fun _ => ⟨_, .refl _, rfl⟩, fun c1 => ?_⟩
  obtain ⟨L, hL⟩ : ∃ L : Nat, (w64 x).tmod 50 = L ∧ L < 50 := by
    rw [w64_id (by omega), Int.tmod_eq_emod_of_nonneg hx.1]
    exact ⟨(x % 50).toNat, by omega, by omega⟩
  refine New_spec (n := 2) (by decide) fun b H2 h2 hb2 => ?_
  rw [hL.1]
  refine Fuse_spec h2 fun H3 h3 => ?_
  rw [hl]
  have := Fuses_loop (F := F) (L := L) (b := b) hF hL.2 hl (hr.le hle) (by omega) (hg.le hle) (K := fun b _ => b = true) (fun _ => rfl) bl.length 0 F ((DM.new 2).fuse L) ByteArray.empty H3 (by omega) (by omega) (by omega)
    ⟨((good_new (by omega)).fuse (by omega)).more (by omega), Nat.le_refl _, .inl ⟨rfl, ⟨by show max (L : Int) (-1) = _; omega, Nat.zero_le _⟩, rfl⟩⟩ h3
  simpa using this
end

/-! ### bounds -/
section
variable {F : Nat} {H : SH}
theorem bars_no {K : Option EV → SH → Prop} (k : K (some (.no 1)) H) : disk_Disk_bars.wp F none H K := p_none ⟨H, .refl H, k⟩
theorem slot_no {n : Int} {K : Option EV → SH → Prop} (k : K (some (.no 1)) H) : disk_Disk_slot.wp F none n H K := bars_no (o_some ⟨H, .refl H, k⟩)
theorem imx (x : Int) : ∃ n : Nat, imin (imax x 0) 4096 = n ∧ n ≤ 4096 := by
  refine ⟨(imin (imax x 0) 4096).toNat, ?_, ?_⟩ <;> (unfold imin imax; split <;> split <;> omega)
theorem Bounds_end {b n : Nat} {m : DM} {H0 : SH} {s : ByteArray} {x : Int} (hF : 5000 ≤ F) (hn : m.now.slots.length ≤ 4096) (hg : H0.has (0, 0) (rtv 28)) (h : On (DiskI b m) H0 H) {K : Bool → SH → Prop} (k : ∀ H', K true H') :
    ladinglaw14_DiskBounds.j1 F K x s (some (b, 0)) H ∧ ladinglaw14_DiskBounds.j3 F K x s (some (b, 0)) H := by
  have key : ∀ b4, H b4 = none → ∀ G, G = SH.upd H b4 ⟨[sv Sl.nil, .int .i64 0], 36, false, 2⟩ → On (DiskI b m) H0 H := fun _ _ _ _ => h
  have hgH := hg.le h.le
  have c1 : ∀ e : EV, e = .no 1 → codeV (some e) = 1 := fun e he => by subst he; rfl
  have hsame : ∀ {K' : Bool → SH → Prop}, K' true H → disk_Disk_Same.wp F (some (b, 0)) (some (b, 0)) H K' := fun {K'} hk => Same_spec (by omega) (by omega) h h (by
    have : m.same m = true := decide_eq_true ⟨rfl, rfl⟩
    rw [this]; exact hk)
  constructor
  · refine fun b4 hb4 => p_none ⟨H, le_upd hb4, p_none ⟨H, .refl H, bars_no (o_some ⟨H, .refl H, slot_no (o_some ⟨H, .refl H, ?_⟩)⟩)⟩⟩
    refine CodeD hgH (br_t rfl (CodeD hgH (br_t rfl (bars_no (o_some ⟨H, .refl H, CodeD hgH (br_t rfl (slot_no (o_some ⟨H, .refl H, CodeD hgH (br_t rfl (bars_no (o_some ⟨H, .refl H, CodeD hgH (br_t rfl (bars_no (o_some ⟨H, .refl H, CodeD hgH (br_t rfl ?_)⟩)))⟩)))⟩)))⟩)))))
    refine p_none ⟨H, .refl H, br_f (by simp) (p_none ⟨H, .refl H, br_t rfl (p_none ⟨H, .refl H, p_none ⟨H, .refl H, br_t (by decide) ?_⟩⟩)⟩)⟩
    exact p_none (p_none ⟨H, .refl H, br_t rfl (p_none (p_some ⟨H, .refl H, br_f (by simp) (hsame ⟨H, .refl H, k H⟩)⟩))⟩)
  · refine fun b4 hb4 => p_none ⟨H, le_upd hb4, p_none ⟨H, .refl H, bars_no (o_some ⟨H, .refl H, slot_no (o_some ⟨H, .refl H, ?_⟩)⟩)⟩⟩
    refine CodeD hgH (br_t rfl (CodeD hgH (br_t rfl (bars_no (o_some ⟨H, .refl H, CodeD hgH (br_t rfl (slot_no (o_some ⟨H, .refl H, CodeD hgH (br_t rfl (bars_no (o_some ⟨H, .refl H, CodeD hgH (br_t rfl (bars_no (o_some ⟨H, .refl H, CodeD hgH (br_t rfl ?_)⟩)))⟩)))⟩)))⟩)))))
    refine p_none ⟨H, .refl H, br_f (by simp) (p_none ⟨H, .refl H, br_t rfl (p_none ⟨H, .refl H, p_none ⟨H, .refl H, br_t (by decide) ?_⟩⟩)⟩)⟩
    exact p_none (p_none ⟨H, .refl H, br_t rfl (p_none (p_some ⟨H, .refl H, br_f (by simp) (hsame ⟨H, .refl H, k H⟩)⟩))⟩)
theorem DiskBounds_wp {x n : Int} {s : ByteArray} (hF : 5000 ≤ F) (hg : H.has (0, 0) (rtv 28)) : ladinglaw14_DiskBounds.wp F x n s H (fun b _ => b = true) := by
  refine awake14_spec (by omega) fun H1 hle => br_t rfl ⟨fun _ => ⟨_, .refl _, rfl⟩, fun c1 => ?_⟩
  obtain ⟨kk, hk1, hk2⟩ := imx x
  have hg1 := hg.le hle
  refine New_spec hk1 fun b H2 h2 hb2 => Slots_spec h2 ?_
  rw [hk1]
  have hlen : (DM.new kk).now.slots.length = kk := List.length_replicate ..
  have gn := good_new hk2
  rw [hlen]
  have hput : ∀ {K : Option EV → SH → Prop}, (∀ H', On (DiskI b ((DM.new kk).put n s)) H1 H' → K (errN ((DM.new kk).putE n s)) H') → disk_Disk_Put.wp F (some (b, 0)) n s H2 K := fun k => Put_spec (N := 4096) (by omega) gn.fit gn.left h2 k
  have fin : ∀ (m' : DM) (H' : SH), On (DiskI b m') H1 H' → m'.now.slots.length ≤ 4096 → ladinglaw14_DiskBounds.j1 F (fun b _ => b = true) n s (some (b, 0)) H' ∧ ladinglaw14_DiskBounds.j3 F (fun b _ => b = true) n s (some (b, 0)) H' := fun m' H' h' hl => Bounds_end (n := kk) hF hl hg1 h' (fun _ => rfl)
  have gp := gn.put (n := n) (s := s)
  have hl' : ((DM.new kk).put n s).now.slots.length ≤ 4096 := gp.fit.slots
  have hd' : ((DM.new kk).put n s).down = false := by
    unfold DM.put DM.does DM.burn DM.lies
    split
    · rfl
    · simp [DM.new]; split <;> rfl
  have hslot : ((DM.new kk).put n s).slotE n = if n < 0 ∨ n ≥ kk then 2 else 0 := by unfold DM.slotE; rw [hd', gp.now]; simp
  have hslot0 : (DM.new kk).slotE n = if n < 0 ∨ n ≥ kk then 2 else 0 := by unfold DM.slotE; rw [hlen]; simp [DM.new]
  have hbE : (DM.new kk).burnE = 0 := rfl
  refine br_f (by simp) ⟨fun c0 => hput fun H3 h3 => ?_, fun c0 => hput fun H3 h3 => ?_⟩
  · by_cases hin : n < kk
    · have hs0 : (DM.new kk).slotE n = 0 := by rw [hslot0, if_neg (by omega)]
      have hs1 : ((DM.new kk).put n s).slotE n = 0 := by rw [hslot, if_neg (by omega)]
      refine Get_spec hs1 h3 (br_t hin ?_)
      have hg3 := hg1.le h3.le
      by_cases h64 : 64 < s.size
      · have hE : (DM.new kk).putE n s = 6 := by unfold DM.putE; rw [hs0]; simp [h64]
        have hP : (DM.new kk).put n s = DM.new kk := by unfold DM.put; simp [h64]
        rw [hE]
        refine br_t (by omega) (CodeD hg3 (br_f (by simp [codeV, codeE, errN]) (o_none (br_t ?_ (fin _ _ h3 hl').1))))
        rw [hP]
        show (List.replicate kk ByteArray.empty).getD n.toNat ByteArray.empty = _
        simp [List.getD, List.getElem?_replicate]
        split <;> rfl
      · have hE : (DM.new kk).putE n s = 0 := by unfold DM.putE; rw [hs0]; simp [h64, hbE]
        have hP : ((DM.new kk).put n s).now.slots = (List.replicate kk ByteArray.empty).set n.toNat s := by
          unfold DM.put
          rw [hs0, if_neg (by simp; omega)]
          unfold DM.does DM.burn DM.lies Ct.put
          have : n ≠ -1 := by omega
          simp [DM.new, this]
        rw [hE]
        refine br_f (by omega) (o_none (o_none (br_t ?_ (fin _ _ h3 hl').1)))
        rw [hP]
        have : n.toNat < kk := by omega
        simp [List.getD, List.getElem?_set, this]
    · have hs0 : (DM.new kk).slotE n = 2 := by rw [hslot0, if_pos (by omega)]
      have hs1 : ((DM.new kk).put n s).slotE n = 2 := by rw [hslot, if_pos (by omega)]
      have hE : (DM.new kk).putE n s = 2 := by unfold DM.putE; rw [hs0]; simp
      have hg3 := hg1.le h3.le
      rw [hE]
      refine Get_bad (by rw [hs1]; decide) h3 ?_
      rw [hs1]
      exact br_f hin (CodeD hg3 (br_f (by simp [codeV, codeE, errN]) (CodeD hg3 (br_f (by simp [codeV, codeE]) (br_t rfl (fin _ _ h3 hl').1)))))
  · have hs0 : (DM.new kk).slotE n = 2 := by rw [hslot0, if_pos (by omega)]
    have hs1 : ((DM.new kk).put n s).slotE n = 2 := by rw [hslot, if_pos (by omega)]
    have hE : (DM.new kk).putE n s = 2 := by unfold DM.putE; rw [hs0]; simp
    have hg3 := hg1.le h3.le
    rw [hE]
    refine Get_bad (by rw [hs1]; decide) h3 ?_
    rw [hs1]
    exact CodeD hg3 (br_f (by simp [codeV, codeE, errN]) (CodeD hg3 (br_f (by simp [codeV, codeE]) (br_t rfl (fin _ _ h3 hl').2))))
end
open Go.RowKit Go.ChangeShapes Go.WideShapes Go.ChangeAt Go.Deep
/-- '[]bool'. -/
theorem arg_bools {H : Type} {enc : TypeId × Value → H} {P : Program} {W : World} {base : Nat} {t e : TypeId} {v : Value} {d : DataW H} {p : List MemPlace} (ht : P.underlying t = some (.slice e)) (he : P.underlying e = some .bool) (hc : P.cellsOf e = 1) (hval : Value.okWide P W .any base t v) (hd : DataW.Trod enc P W 0 (fun _ => true) true t v d p) :
    ∃ (l : Sl) (bl : List Bool), v = sv l ∧ l.len = bl.length ∧ l.len ≤ l.cap ∧ (SH.of W).row l.a (bl.map fun x => .bool x) := by
  obtain ⟨l, V, n, rfl, hl, hr, hx⟩ := arg_rowsG ht hc hval hd
  have each : ∀ i, i < l.len → ∃ x : Bool, V i = .bool x := fun i hi => by
    obtain ⟨y, hy⟩ := hx i hi
    have e : (List.range 1).map (fun j => V (i * 1 + j)) = [V i] := by simp
    rw [e] at hy
    obtain ⟨x, hx, _⟩ := DataW.trod_bool he hy
    exact ⟨x, by simpa using hx⟩
  obtain ⟨f, hf⟩ := choose_lt each
  refine ⟨l, (List.range l.len).map f, rfl, by simp, hl, ?_⟩
  have e : ((List.range l.len).map f).map (fun x => Value.bool x) = cellsF (l.len * 1) V := by
    rw [Nat.mul_one]
    refine cellsF_ext (by simp) fun i hi => ?_
    simp [hi, hf i hi]
  rw [e]; exact hr
set_option maxRecDepth 100000 in
theorem DiskFuses_walk {X : Prop} {H : Type} {enc : TypeId × Value → H} (W : World) (args : Array Value) (ds : List (DataW H)) (p : List MemPlace) (base : Nat)
    (hval : ∀ (j : Nat) t v, Tryd.f3.params[j]? = some t → args[j]? = some v → Value.okWide Tryd.prog W .any base t v) (hA : DataW.TrodAll enc Tryd.prog W 0 (fun _ => true) true Tryd.f3.params.toList args.toList ds p) (hfz : X)
    (hg : W.cell? ⟨0, 0, none⟩ = some (rtv 28)) :
    (∃ d d2, ds = [d, d2]) ∧ Calls Tryd.prog 3 args W fun e w' => e = .returned (.bool true) ∧ RowKit.Below W.heap.size W w' := by
  rw [Tryd.params3] at hA hval
  obtain ⟨v0, vs0, d0, ds0, p0, q0, hargs, rfl, rfl, h0, r0⟩ := trodAll_cons hA
  obtain ⟨v1, vs1, d1, ds1, p1, q1, rfl, rfl, rfl, h1, r1⟩ := trodAll_cons r0
  obtain ⟨rfl, rfl, rfl⟩ := trodAll_nil r1
  obtain rfl : args = #[v0, v1] := by cases args; simp_all
  obtain ⟨x, rfl, rfl, rfl, hx⟩ := open_int Tryd.underlying5 (hval 0 5 v0 rfl rfl) h0
  have hx' := lit_range hx
  obtain ⟨l, bl, rfl, hl, _, hr⟩ := arg_bools Tryd.underlying22 Tryd.underlying4 (by kernel_rfl) (hval 1 22 v1 rfl rfl) h1
  refine ⟨⟨_, _, rfl⟩, ?_⟩
  have h := ladinglaw14_DiskFuses.sound 500 x l (SH.of W) _ (DiskFuses_wp (by omega) hx' hl hr (SH.of_cell (p := (0, 0)) hg)) W (SH.of_sat W)
  refine h.mono ?_
  rintro e w' ⟨v, H', rfl, st, q, rfl, rfl⟩
  exact ⟨rfl, st.below fun b o hb => SH.of_ro hb⟩
set_option maxRecDepth 100000 in
theorem DiskBounds_walk {X : Prop} {H : Type} {enc : TypeId × Value → H} (W : World) (args : Array Value) (ds : List (DataW H)) (p : List MemPlace) (base : Nat)
    (hval : ∀ (j : Nat) t v, Tryd.f6.params[j]? = some t → args[j]? = some v → Value.okWide Tryd.prog W .any base t v) (hA : DataW.TrodAll enc Tryd.prog W 0 (fun _ => true) true Tryd.f6.params.toList args.toList ds p) (hfz : X)
    (hg : W.cell? ⟨0, 0, none⟩ = some (rtv 28)) :
    (∃ d d2 d3, ds = [d, d2, d3]) ∧ Calls Tryd.prog 6 args W fun e w' => e = .returned (.bool true) ∧ RowKit.Below W.heap.size W w' := by
  rw [Tryd.params6] at hA hval
  obtain ⟨v0, vs0, d0, ds0, p0, q0, hargs, rfl, rfl, h0, r0⟩ := trodAll_cons hA
  obtain ⟨v1, vs1, d1, ds1, p1, q1, rfl, rfl, rfl, h1, r1⟩ := trodAll_cons r0
  obtain ⟨v2, vs2, d2, ds2, p2, q2, rfl, rfl, rfl, h2, r2⟩ := trodAll_cons r1
  obtain ⟨rfl, rfl, rfl⟩ := trodAll_nil r2
  obtain rfl : args = #[v0, v1, v2] := by cases args; simp_all
  obtain ⟨x, rfl, rfl, rfl, hx⟩ := open_int Tryd.underlying3 (hval 0 3 v0 rfl rfl) h0
  obtain ⟨y, rfl, rfl, rfl, hy⟩ := open_int Tryd.underlying3 (hval 1 3 v1 rfl rfl) h1
  obtain ⟨s, rfl, rfl, rfl, hs⟩ := Go.ChangeMaps.open_string Tryd.underlying9 (hval 2 9 v2 rfl rfl) h2
  refine ⟨⟨_, _, _, rfl⟩, ?_⟩
  have h := ladinglaw14_DiskBounds.sound 5000 x y s (SH.of W) _ (DiskBounds_wp (by omega) (SH.of_cell (p := (0, 0)) hg)) W (SH.of_sat W)
  refine h.mono ?_
  rintro e w' ⟨v, H', rfl, st, q, rfl, rfl⟩
  exact ⟨rfl, st.below fun b o hb => SH.of_ro hb⟩
end Go.Proofs.YtknhlipealekoaaDoor.K
