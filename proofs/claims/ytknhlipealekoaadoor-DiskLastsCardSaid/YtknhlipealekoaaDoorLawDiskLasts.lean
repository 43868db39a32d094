/- The law DiskLasts: what it comes to. -/
import Derived.Test.YtknhlipealekoaaDoorLawOps
import Derived.Test.YtknhlipealekoaaDoorGladinglaw14DiskLasts
set_option linter.unusedVariables false
set_option linter.unusedSimpArgs false
namespace Go.Proofs.YtknhlipealekoaaDoor.K
open Go

theorem crash_pre (lack : Int) : ∀ (l : List (Bool × Wr)) (gap : ByteArray) (c : Ct), ∃ t, (crashC lack l gap c).log = c.log ++ t
  | [], _, c => ⟨ByteArray.empty, bs_inj (by rw [bs_append, bs_empty, List.append_nil]; rfl)⟩
  | (false, w) :: r, gap, c => crash_pre lack r _ c
  | (true, w) :: r, gap, c => by
    unfold crashC
    simp only []
    generalize (if r.any (·.1) then w else c.torn w lack) = w'
    split
    · rename_i h
      obtain ⟨t, ht⟩ := crash_pre lack r ByteArray.empty (c.put (w'.1, gap ++ w'.2))
      have e : c.put (w'.1, gap ++ w'.2) = ⟨c.log ++ (gap ++ w'.2), c.slots⟩ := if_pos h
      rw [e] at ht ⊢
      exact ⟨gap ++ w'.2 ++ t, by rw [ht]; apply bs_inj; simp [bs_append]⟩
    · rename_i h
      obtain ⟨t, ht⟩ := crash_pre lack r gap (c.put w')
      have e : c.put w' = ⟨c.log, c.slots.set w'.1.toNat w'.2⟩ := if_neg h
      rw [e] at ht ⊢
      exact ⟨t, ht⟩
def DM.one (m : DM) (o : DOp) : DM := if o.K ≤ 1 then m.doOp o else m
def DM.run (m : DM) (ops : List DOp) : DM := ops.foldl DM.one m
structure Lv (N : Nat) (m : DM) : Prop where
  good : m.good 4 N
  down : m.down = false
  left : m.left = -1
theorem Lv.more {N N' : Nat} {m : DM} (h : Lv N m) (hN : N ≤ N') : Lv N' m := ⟨h.good.more hN, h.down, h.left⟩
theorem lies_keeps (m : DM) (w : Wr) : (m.lies w).down = m.down ∧ (m.lies w).left = m.left ∧ (m.lies w).lasts = m.lasts := by
  unfold DM.lies; split <;> exact ⟨rfl, rfl, rfl⟩
theorem does_free2 {m : DM} {w : Wr} (hl : m.left = -1) : m.does w = m.lies w := by
  unfold DM.does DM.burn
  simp [hl]
theorem one_lasts {m : DM} {o : DOp} (hd : m.down = false) (hl : m.left = -1) : (m.one o).down = false ∧ (m.one o).left = -1 ∧ (m.one o).lasts = m.lasts := by
  have same : m.down = false ∧ m.left = -1 ∧ m.lasts = m.lasts := ⟨hd, hl, rfl⟩
  have lie : ∀ w, (m.lies w).down = false ∧ (m.lies w).left = -1 ∧ (m.lies w).lasts = m.lasts := fun w => by
    obtain ⟨h1, h2, h3⟩ := lies_keeps m w
    exact ⟨h1.trans hd, h2.trans hl, h3⟩
  unfold DM.one
  split
  · unfold DM.doOp
    split
    · unfold DM.append; rw [hd, does_free2 hl]; exact lie _
    · split
      · unfold DM.put
        split
        · exact same
        · rw [does_free2 hl]; exact lie _
      · rename_i h k0 k1
        rw [if_neg (by omega), if_neg (by omega), if_neg (by omega), if_neg (by omega)]; exact same
  · exact same
theorem Lv.one {N : Nat} {m : DM} {o : DOp} (h : Lv N m) (hs : o.S.size ≤ 300) (hn : o.N ≤ 9223372036854775807) : Lv (N + 400) (m.one o) := by
  obtain ⟨h1, h2, _⟩ := one_lasts (o := o) h.down h.left
  refine ⟨?_, h1, h2⟩
  unfold DM.one
  split
  · exact (h.good.doOp hn).more (by omega)
  · exact h.good.more (by omega)
theorem run_lasts : ∀ (ops : List DOp) {m : DM}, m.down = false → m.left = -1 → (m.run ops).lasts = m.lasts
  | [], _, _, _ => rfl
  | o :: ops, m, hd, hl => by
    obtain ⟨h1, h2, h3⟩ := one_lasts (o := o) hd hl
    show ((m.one o).run ops).lasts = _
    rw [run_lasts ops h1 h2, h3]
theorem Lv.run : ∀ (ops : List DOp) {N : Nat} {m : DM}, Lv N m → (∀ o ∈ ops, o.S.size ≤ 300) → (∀ o ∈ ops, (0 ≤ o.By ∧ o.By ≤ 255) ∧ -9223372036854775808 ≤ o.N ∧ o.N ≤ 9223372036854775807) → Lv (N + 400 * ops.length) (m.run ops)
  | [], _, _, h, _, _ => h
  | o :: ops, N, m, h, hs, hn => by
    have := Lv.run ops (h.one (hs o (by simp)) (hn o (by simp)).2.2) (fun x hx => hs x (by simp [hx])) (fun x hx => hn x (by simp [hx]))
    exact this.more (by simp; omega)
theorem Lv.sync {N : Nat} {m : DM} (h : Lv N m) : Lv N m.sync ∧ m.sync.lasts = m.now ∧ m.sync.now = m.now := by
  have g := h.good.sync
  rw [sync_free h.down h.left] at g ⊢
  exact ⟨⟨g, h.down, h.left⟩, rfl, rfl⟩
/-- A script, as an argument: what is asked of it. -/
structure Scr (H : SH) (l : Sl) (ops : List DOp) : Prop where
  len : l.len = ops.length
  row : H.row l.a (opc ops)
  few : ops.length ≤ 100
  short : ∀ o ∈ ops, o.S.size ≤ 300
  small : ∀ o ∈ ops, (0 ≤ o.By ∧ o.By ≤ 255) ∧ -9223372036854775808 ≤ o.N ∧ o.N ≤ 9223372036854775807
theorem run_drop {m : DM} {ops : List DOp} {i : Nat} (h : i < ops.length) : m.run (ops.drop i) = (m.one ops[i]).run (ops.drop (i + 1)) := by
  rw [List.drop_eq_getElem_cons h]; rfl
section
variable {F : Nat} {a b c : Nat} {H0 : SH}
theorem Lasts4 {b5 : Nat} {l lp : Sl} {ks : List Bool} {lack : Int} {ops : List DOp} {S T : DM} (hF : 100000 ≤ F) (hs : Scr H0 l ops) (hg : H0.has (0, 0) (rtv 28)) (hb5 : H0 b5 = some ⟨[sv lp, .int .i64 lack], 36, false, 2⟩)
    (hk1 : lp.len = ks.length) (hk2 : lp.len ≤ lp.cap) (hk3 : H0.row lp.a (ks.map fun x => .bool x)) (hk4 : ks.length ≤ 200) (hS : Lv 45000 S) (hT : Lv 85000 T) (hTS : T.lasts = S.now) {K : Bool → SH → Prop} (k : ∀ H', K true H') :
    ∀ (j i f : Nat) (x : DM) (H : SH), ops.length - i = j → i ≤ ops.length → j < f → Lv (45000 + 400 * i) x → x.run (ops.drop i) = T → Chain [dsk c x, dsk a T, dsk b S] H0 H → ladinglaw14_DiskLasts.l4 F K f b5 (some (a, 0)) (some (b, 0)) (some (c, 0)) l (ops.length : Int) (i : Int) H := by
  have h100 := hs.few
  intro j
  induction j with
  | zero =>
    intro i f x H hj hi hf hx e ch
    obtain ⟨f, rfl⟩ : ∃ i, f = i + 1 := ⟨f - 1, by omega⟩
    rw [List.drop_eq_nil_of_le (by omega)] at e
    have e : x = T := e
    subst e
    obtain ⟨H1, d1, H2, d2, H3, d3, hle⟩ := ch
    have d1 : On (DiskI c x) H1 H := d1
    have d2 : On (DiskI a x) H2 H1 := d2
    have d3 : On (DiskI b S) H3 H2 := d3
    refine br_f (by omega) (gCrash (ks := []) hT.good (by omega) rfl (Nat.le_refl _) (by simp; omega) (.inl rfl) d1 fun H4 h4 => ?_)
    rw [crash_none, hTS] at h4
    have e3 : On (DiskI b S) H3 H4 := d3.above .disk (d2.le.trans h4.le)
    have hsl : S.now.slots.length = 4 := hS.good.now
    refine Same_spec (by simp only []; omega) (by simp only []; omega) h4 e3 ?_
    have e1 : (⟨-1, false, S.now, S.now, []⟩ : DM).same S = true := decide_eq_true ⟨rfl, rfl⟩
    rw [e1]
    have le4 : SH.le H0 H2 := hle.trans d3.le
    have e2 : On (DiskI a x) H2 H4 := d2.above .disk h4.le
    refine br_t rfl ⟨lp, lack, rowN ((le4.trans e2.le) _ _ hb5) fun q u hu => by rw [Nat.zero_add]; exact hu, gCrash (ks := ks) hT.good (by omega) hk1 hk2 (by omega) (hk3.le le4) e2 fun H5 h5 => ?_⟩
    have e4 : On (DiskI b S) H3 H5 := d3.above .disk h5.le
    refine Log_spec rfl h5 (Log_spec hS.down e4 (o_none (o_none ?_)))
    obtain ⟨t, ht⟩ := crash_pre lack (ks.zip x.waits) ByteArray.empty x.lasts
    have hlog : (x.crash ks lack).now.log = S.now.log ++ t := by rw [← hTS]; exact ht
    rw [hlog]
    have hsz : (S.now.log ++ t).size = S.now.log.size + t.size := ByteArray.size_append
    refine br_t (by omega) ⟨by omega, by omega, by omega, br_t ?_ (Waits_spec h5 ⟨H5, .refl _, ?_⟩)⟩
    · show (S.now.log ++ t).extract 0 S.now.log.size = _
      apply bs_inj
      rw [bs_extract, bs_append, ← bs_len, List.take_left]; rfl
    · show K (((x.crash ks lack).waits.length : Int) == 0) H5
      exact k _
  | succ j ih =>
    intro i f x H hj hi hf hx e ch
    obtain ⟨f, rfl⟩ : ∃ i, f = i + 1 := ⟨f - 1, by omega⟩
    have hlt : i < ops.length := by omega
    have hmem := List.getElem_mem hlt
    have hsh := hs.short _ hmem
    have hsm := hs.small _ hmem
    have next : ∀ (x' : DM) (H' : SH), x.one ops[i] = x' → Chain [dsk c x', dsk a T, dsk b S] H0 H' → ladinglaw14_DiskLasts.j8 F K (ladinglaw14_DiskLasts.l4 F K f) b5 (some (a, 0)) (some (b, 0)) (some (c, 0)) l (ops.length : Int) (i : Int) H' := fun x' H' ex ch' => by
      show ladinglaw14_DiskLasts.l4 F K f b5 (some (a, 0)) (some (b, 0)) (some (c, 0)) l (ops.length : Int) (w64 ((i : Int) + 1)) H'
      rw [w64_id (by omega), show (i : Int) + 1 = ((i + 1 : Nat) : Int) by omega]
      subst ex
      rw [run_drop hlt] at e
      exact ih (i + 1) f _ H' (by omega) (by omega) (by omega) ((hx.one hsh hsm.2.2).more (by omega)) e ch'
    refine br_t (by omega) (op_step hs.len (hs.row.le ch.le) hlt fun b30 hb30 => ?_)
    have eo := op_set (H := H) (b := b30) (o := ops[i])
    unfold opZ at eo
    rw [eo]
    obtain ⟨H2, c2, ht, hle⟩ := ch.temp hb30 ops[i].ao
    unfold DM.one at next
    refine ⟨ops[i].K, has_upd rfl, ?_⟩
    by_cases k1 : ops[i].K ≤ 1
    · rw [if_pos k1] at next
      refine br_t k1 ⟨_, _, _, _, _, _, _, op_row (SH.upd_same _ _ _), Do_chain (L := [dsk a T, dsk b S]) (by omega) hx.good (by omega) (by omega) hsh hsm.1 (by omega) (hg.le hle) c2 fun y H3 c3 => next _ H3 rfl (Chain.below c3 hle)⟩
    · rw [if_neg k1] at next
      exact br_f k1 (next _ _ rfl (Chain.below c2 hle))
theorem Lasts3 {b5 : Nat} {l l2 lp : Sl} {ks : List Bool} {lack : Int} {ops later : List DOp} {S T A : DM} (hF : 100000 ≤ F) (hs : Scr H0 l ops) (hs2 : Scr H0 l2 later) (hg : H0.has (0, 0) (rtv 28)) (hb5 : H0 b5 = some ⟨[sv lp, .int .i64 lack], 36, false, 2⟩)
    (hk1 : lp.len = ks.length) (hk2 : lp.len ≤ lp.cap) (hk3 : H0.row lp.a (ks.map fun x => .bool x)) (hk4 : ks.length ≤ 200) (hA : Lv 45000 A) (eS : S = A.sync) (eT : T = S.run later) {K : Bool → SH → Prop} (k : ∀ H', K true H') :
    ∀ (j i f : Nat) (x : DM) (H : SH), ops.length - i = j → i ≤ ops.length → j < f → Lv (5000 + 400 * i) x → x.run (ops.drop i) = A → Chain [dsk c x, dsk a T, dsk b S] H0 H → ladinglaw14_DiskLasts.l3 F K f l2 b5 (some (a, 0)) (some (b, 0)) (some (c, 0)) l (ops.length : Int) (i : Int) H := by
  have h100 := hs.few
  have h100' := hs2.few
  obtain ⟨hS, hSl, hSn⟩ := hA.sync
  rw [← eS] at hS hSl hSn
  have hT : Lv 85000 T := by rw [eT]; exact (Lv.run later hS hs2.short hs2.small).more (by omega)
  have hTS : T.lasts = S.now := by rw [eT, run_lasts later hS.down hS.left, hSl, hSn]
  intro j
  induction j with
  | zero =>
    intro i f x H hj hi hf hx e ch
    obtain ⟨f, rfl⟩ : ∃ i, f = i + 1 := ⟨f - 1, by omega⟩
    rw [List.drop_eq_nil_of_le (by omega)] at e
    have e : x = A := e
    subst e
    obtain ⟨H1, d1, ch1⟩ := ch
    have d1 : On (DiskI c x) H1 H := d1
    refine br_f (by omega) (gSync hA.good d1 fun H2 h2 => ?_)
    rw [← eS] at h2
    rw [hs2.len]
    exact Lasts4 hF hs2 hg hb5 hk1 hk2 hk3 hk4 hS hT hTS k later.length 0 F S H2 (by omega) (by omega) (by omega) (hS.more (by omega)) (by rw [eT]; rfl) ⟨H1, h2, ch1⟩
  | succ j ih =>
    intro i f x H hj hi hf hx e ch
    obtain ⟨f, rfl⟩ : ∃ i, f = i + 1 := ⟨f - 1, by omega⟩
    have hlt : i < ops.length := by omega
    have hmem := List.getElem_mem hlt
    have hsh := hs.short _ hmem
    have hsm := hs.small _ hmem
    have next : ∀ (x' : DM) (H' : SH), x.one ops[i] = x' → Chain [dsk c x', dsk a T, dsk b S] H0 H' → ladinglaw14_DiskLasts.j6 F K (ladinglaw14_DiskLasts.l3 F K f) l2 b5 (some (a, 0)) (some (b, 0)) (some (c, 0)) l (ops.length : Int) (i : Int) H' := fun x' H' ex ch' => by
      show ladinglaw14_DiskLasts.l3 F K f l2 b5 (some (a, 0)) (some (b, 0)) (some (c, 0)) l (ops.length : Int) (w64 ((i : Int) + 1)) H'
      rw [w64_id (by omega), show (i : Int) + 1 = ((i + 1 : Nat) : Int) by omega]
      subst ex
      rw [run_drop hlt] at e
      exact ih (i + 1) f _ H' (by omega) (by omega) (by omega) ((hx.one hsh hsm.2.2).more (by omega)) e ch'
    refine br_t (by omega) (op_step hs.len (hs.row.le ch.le) hlt fun b30 hb30 => ?_)
    have eo := op_set (H := H) (b := b30) (o := ops[i])
    unfold opZ at eo
    rw [eo]
    obtain ⟨H2, c2, ht, hle⟩ := ch.temp hb30 ops[i].ao
    unfold DM.one at next
    refine ⟨ops[i].K, has_upd rfl, ?_⟩
    by_cases k1 : ops[i].K ≤ 1
    · rw [if_pos k1] at next
      refine br_t k1 ⟨_, _, _, _, _, _, _, op_row (SH.upd_same _ _ _), Do_chain (L := [dsk a T, dsk b S]) (by omega) hx.good (by omega) (by omega) hsh hsm.1 (by omega) (hg.le hle) c2 fun y H3 c3 => next _ H3 rfl (Chain.below c3 hle)⟩
    · rw [if_neg k1] at next
      exact br_f k1 (next _ _ rfl (Chain.below c2 hle))
theorem Lasts2 {b5 : Nat} {l l2 lp : Sl} {ks : List Bool} {lack : Int} {ops later : List DOp} {S A : DM} (hF : 100000 ≤ F) (hs : Scr H0 l ops) (hs2 : Scr H0 l2 later) (hg : H0.has (0, 0) (rtv 28)) (hb5 : H0 b5 = some ⟨[sv lp, .int .i64 lack], 36, false, 2⟩)
    (hk1 : lp.len = ks.length) (hk2 : lp.len ≤ lp.cap) (hk3 : H0.row lp.a (ks.map fun x => .bool x)) (hk4 : ks.length ≤ 200) (hA : Lv 45000 A) (eA : A = (DM.new 4).run ops) (eS : S = A.sync) {K : Bool → SH → Prop} (k : ∀ H', K true H') :
    ∀ (j i f : Nat) (x : DM) (H : SH), later.length - i = j → i ≤ later.length → j < f → Lv (45000 + 400 * i) x → x.run (later.drop i) = S.run later → Chain [dsk a x, dsk b S] H0 H → ladinglaw14_DiskLasts.l2 F K f l l2 b5 (some (a, 0)) (some (b, 0)) l2 (later.length : Int) (i : Int) H := by
  have h100 := hs.few
  have h100' := hs2.few
  intro j
  induction j with
  | zero =>
    intro i f x H hj hi hf hx e ch
    obtain ⟨f, rfl⟩ : ∃ i, f = i + 1 := ⟨f - 1, by omega⟩
    rw [List.drop_eq_nil_of_le (by omega)] at e
    have e : x = S.run later := e
    refine br_f (by omega) (New_spec (n := 4) (by decide) fun c H1 h1 hc => ?_)
    rw [hs.len]
    have h1 : On (dsk c (DM.new 4)).1 H H1 := h1
    exact Lasts3 hF hs hs2 hg hb5 hk1 hk2 hk3 hk4 hA eS e k ops.length 0 F (DM.new 4) H1 (by omega) (by omega) (by omega) ⟨(good_new (by omega)).more (by omega), rfl, rfl⟩ (by rw [eA]; rfl) ⟨H, h1, ch⟩
  | succ j ih =>
    intro i f x H hj hi hf hx e ch
    obtain ⟨f, rfl⟩ : ∃ i, f = i + 1 := ⟨f - 1, by omega⟩
    have hlt : i < later.length := by omega
    have hmem := List.getElem_mem hlt
    have hsh := hs2.short _ hmem
    have hsm := hs2.small _ hmem
    have next : ∀ (x' : DM) (H' : SH), x.one later[i] = x' → Chain [dsk a x', dsk b S] H0 H' → ladinglaw14_DiskLasts.j4 F K (ladinglaw14_DiskLasts.l2 F K f) l l2 b5 (some (a, 0)) (some (b, 0)) l2 (later.length : Int) (i : Int) H' := fun x' H' ex ch' => by
      show ladinglaw14_DiskLasts.l2 F K f l l2 b5 (some (a, 0)) (some (b, 0)) l2 (later.length : Int) (w64 ((i : Int) + 1)) H'
      rw [w64_id (by omega), show (i : Int) + 1 = ((i + 1 : Nat) : Int) by omega]
      subst ex
      rw [run_drop hlt] at e
      exact ih (i + 1) f _ H' (by omega) (by omega) (by omega) ((hx.one hsh hsm.2.2).more (by omega)) e ch'
    refine br_t (by omega) (op_step hs2.len (hs2.row.le ch.le) hlt fun b30 hb30 => ?_)
    have eo := op_set (H := H) (b := b30) (o := later[i])
    unfold opZ at eo
    rw [eo]
    obtain ⟨H2, c2, ht, hle⟩ := ch.temp hb30 later[i].ao
    unfold DM.one at next
    refine ⟨later[i].K, has_upd rfl, ?_⟩
    by_cases k1 : later[i].K ≤ 1
    · rw [if_pos k1] at next
      refine br_t k1 ⟨_, _, _, _, _, _, _, op_row (SH.upd_same _ _ _), Do_chain (L := [dsk b S]) (by omega) hx.good (by omega) (by omega) hsh hsm.1 (by omega) (hg.le hle) c2 fun y H3 c3 => next _ H3 rfl (Chain.below c3 hle)⟩
    · rw [if_neg k1] at next
      exact br_f k1 (next _ _ rfl (Chain.below c2 hle))
theorem Lasts1 {b5 : Nat} {l l2 lp : Sl} {ks : List Bool} {lack : Int} {ops later : List DOp} (hF : 100000 ≤ F) (hs : Scr H0 l ops) (hs2 : Scr H0 l2 later) (hg : H0.has (0, 0) (rtv 28)) (hb5 : H0 b5 = some ⟨[sv lp, .int .i64 lack], 36, false, 2⟩)
    (hk1 : lp.len = ks.length) (hk2 : lp.len ≤ lp.cap) (hk3 : H0.row lp.a (ks.map fun x => .bool x)) (hk4 : ks.length ≤ 200) {K : Bool → SH → Prop} (k : ∀ H', K true H') :
    ∀ (j i f : Nat) (x : DM) (H : SH), ops.length - i = j → i ≤ ops.length → j < f → Lv (5000 + 400 * i) x → x.run (ops.drop i) = (DM.new 4).run ops → Chain [dsk a x, dsk b x] H0 H → ladinglaw14_DiskLasts.l1 F K f l l2 b5 (some (a, 0)) (some (b, 0)) l (ops.length : Int) (i : Int) H := by
  have h100 := hs.few
  have h100' := hs2.few
  intro j
  induction j with
  | zero =>
    intro i f x H hj hi hf hx e ch
    obtain ⟨f, rfl⟩ : ∃ i, f = i + 1 := ⟨f - 1, by omega⟩
    rw [List.drop_eq_nil_of_le (by omega)] at e
    have e : x = (DM.new 4).run ops := e
    have hxx : Lv 45000 x := hx.more (by omega)
    obtain ⟨H1, d1, ch1⟩ := ch
    have d1 : On (DiskI a x) H1 H := d1
    refine br_f (by omega) (gSync hxx.good d1 fun H2 h2 => ?_)
    rw [appendE_free hxx.down hxx.left]
    have ch2 : Chain [dsk a x.sync, dsk b x] H0 H2 := ⟨H1, h2, ch1⟩
    obtain ⟨H3, d3, ch3⟩ := Chain.pull [dsk a x.sync] ch2
    have d3 : On (DiskI b x) H3 H2 := d3
    refine o_none (gSync hxx.good d3 fun H4 h4 => ?_)
    rw [appendE_free hxx.down hxx.left]
    have ch4 : Chain [dsk b x.sync, dsk a x.sync] H0 H4 := ⟨H3, h4, ch3⟩
    have ch5 := Chain.pull [dsk b x.sync] ch4
    obtain ⟨H5, d5, ch6⟩ := ch5
    have d5 : On (DiskI a x.sync) H5 H4 := d5
    have hsl : x.sync.now.slots.length = 4 := hxx.good.sync.now
    have e1 : x.sync.same x.sync = true := decide_eq_true ⟨rfl, rfl⟩
    refine o_none (Same_spec (by omega) (by omega) d5 h4 ?_)
    rw [e1]
    refine br_t rfl ?_
    rw [hs2.len]
    exact Lasts2 hF hs hs2 hg hb5 hk1 hk2 hk3 hk4 hxx e rfl k later.length 0 F x.sync H4 (by omega) (by omega) (by omega) (hxx.sync.1.more (by omega)) rfl ⟨H5, d5, ch6⟩
  | succ j ih =>
    intro i f x H hj hi hf hx e ch
    obtain ⟨f, rfl⟩ : ∃ i, f = i + 1 := ⟨f - 1, by omega⟩
    have hlt : i < ops.length := by omega
    have hmem := List.getElem_mem hlt
    have hsh := hs.short _ hmem
    have hsm := hs.small _ hmem
    have next : ∀ (x' : DM) (H' : SH), x.one ops[i] = x' → Chain [dsk a x', dsk b x'] H0 H' → ladinglaw14_DiskLasts.j2 F K (ladinglaw14_DiskLasts.l1 F K f) l l2 b5 (some (a, 0)) (some (b, 0)) l (ops.length : Int) (i : Int) H' := fun x' H' ex ch' => by
      show ladinglaw14_DiskLasts.l1 F K f l l2 b5 (some (a, 0)) (some (b, 0)) l (ops.length : Int) (w64 ((i : Int) + 1)) H'
      rw [w64_id (by omega), show (i : Int) + 1 = ((i + 1 : Nat) : Int) by omega]
      subst ex
      rw [run_drop hlt] at e
      exact ih (i + 1) f _ H' (by omega) (by omega) (by omega) ((hx.one hsh hsm.2.2).more (by omega)) e ch'
    refine br_t (by omega) (op_step hs.len (hs.row.le ch.le) hlt fun b30 hb30 => ?_)
    have eo := op_set (H := H) (b := b30) (o := ops[i])
    unfold opZ at eo
    rw [eo]
    obtain ⟨H2, c2, ht, hle⟩ := ch.temp hb30 ops[i].ao
    unfold DM.one at next
    refine ⟨ops[i].K, has_upd rfl, ?_⟩
    by_cases k1 : ops[i].K ≤ 1
    · rw [if_pos k1] at next
      refine br_t k1 ⟨_, _, _, _, _, _, _, op_row (SH.upd_same _ _ _), Do_chain (L := [dsk b x]) (by omega) hx.good (by omega) (by omega) hsh hsm.1 (by omega) (hg.le hle) c2 fun y H3 c3 => ?_⟩
      refine ⟨_, _, _, _, _, _, _, op_row (c3.le _ _ ht), Do_chain (L := [dsk a (x.doOp ops[i])]) (by omega) hx.good (by omega) (by omega) hsh hsm.1 (by omega) (hg.le hle) (Chain.pull [dsk a (x.doOp ops[i])] c3) fun y2 H4 c4 => ?_⟩
      exact next _ H4 rfl (Chain.below (Chain.pull [dsk b (x.doOp ops[i])] c4) hle)
    · rw [if_neg k1] at next
      exact br_f k1 (next _ _ rfl (Chain.below c2 hle))
theorem DiskLasts_wp {H : SH} {l l2 lp : Sl} {ks : List Bool} {lack : Int} {ops later : List DOp} (hF : 100000 ≤ F) (hl : l.len = ops.length) (hr : H.row l.a (opc ops)) (hs : ∀ o ∈ ops, (0 ≤ o.By ∧ o.By ≤ 255) ∧ -9223372036854775808 ≤ o.N ∧ o.N ≤ 9223372036854775807)
    (hl2 : l2.len = later.length) (hr2 : H.row l2.a (opc later)) (hs2 : ∀ o ∈ later, (0 ≤ o.By ∧ o.By ≤ 255) ∧ -9223372036854775808 ≤ o.N ∧ o.N ≤ 9223372036854775807) (hg : H.has (0, 0) (rtv 28))
    (hk1 : lp.len = ks.length) (hk2 : lp.len ≤ lp.cap) (hk3 : H.row lp.a (ks.map fun x => .bool x)) : ladinglaw14_DiskLasts.wp F l l2 lp lack H (fun b _ => b = true) := by
  intro b5 hb5
  have l5 := le_upd (o := ⟨[sv lp, .int .i64 lack], 36, false, 2⟩) hb5
  have hh : (H.upd b5 ⟨[sv lp, .int .i64 lack], 36, false, 2⟩) b5 = some ⟨[sv lp, .int .i64 lack], 36, false, 2⟩ := SH.upd_same _ _ _
  generalize H.upd b5 ⟨[sv lp, .int .i64 lack], 36, false, 2⟩ = G at *
  refine awake14_spec (by omega) fun H1 hle => br_t rfl ?_
  have l1 := l5.trans hle
  refine Great14_spec (by omega) hl (hr.le l1) (fun H' => br_t rfl ⟨H', .refl _, rfl⟩) fun h100 h300 => br_f (by simp) (Great14_spec (by omega) hl2 (hr2.le l1) (fun H' => br_t rfl ⟨H', .refl _, rfl⟩) fun h100' h300' => br_f (by simp) ⟨lp, ⟨_, hle _ _ hh, rfl⟩, fun _ => ⟨_, .refl _, rfl⟩, fun hk => ?_⟩)
  refine New_spec (n := 4) (by decide) fun a H2 h2 ha => New_spec (n := 4) (by decide) fun b H3 h3 hb => ?_
  have c : Chain [dsk b (DM.new 4), dsk a (DM.new 4)] H1 H3 := ⟨H2, h3, H1, h2, .refl _⟩
  have c2 := Chain.pull [dsk b (DM.new 4)] c
  have S1 : Scr H1 l ops := ⟨hl, hr.le l1, h100, h300, hs⟩
  have S2 : Scr H1 l2 later := ⟨hl2, hr2.le l1, h100', h300', hs2⟩
  rw [hl]
  exact Lasts1 hF S1 S2 (hg.le l1) (hle _ _ hh) hk1 hk2 (hk3.le l1) (by omega) (K := fun b _ => b = true) (fun _ => rfl) ops.length 0 F (DM.new 4) H3 (by omega) (by omega) (by omega) ⟨(good_new (by omega)).more (by omega), rfl, rfl⟩ rfl c2
end
open Go.RowKit Go.ChangeShapes Go.WideShapes Go.ChangeAt Go.Deep in
/-- A slice of truths, in a cell. -/
theorem cell_bools {H : Type} {enc : TypeId × Value → H} {P : Program} {W : World} {base : Nat} {t e : TypeId} {v : Value} {n : Nat} {y : DataW H × List MemPlace} (ht : P.underlying t = some (.slice e)) (he : P.underlying e = some .bool) (hc : P.cellsOf e = 1) (hv : Cell.okWide P W .any base t v) (hd : DataW.trod enc P W 0 (fun _ => true) true n t [v] = some y) :
    ∃ (l : Sl) (bl : List Bool), v = sv l ∧ l.len = bl.length ∧ l.len ≤ l.cap ∧ (SH.of W).row l.a (bl.map fun x => .bool x) := by
  have hval : Value.okWide P W .any base t v := by
    unfold Value.okWide
    rw [ht]
    exact hv
  obtain ⟨a, len, cap, rfl⟩ := Go.WideShapes.okWide_slice ht hval
  exact arg_bools ht he hc hval ⟨n, hd⟩
set_option maxRecDepth 100000 in
open Go.RowKit Go.ChangeShapes Go.WideShapes Go.ChangeAt Go.Deep in
theorem DiskLasts_walk {X : Prop} {H : Type} {enc : TypeId × Value → H} (W : World) (args : Array Value) (ds : List (DataW H)) (p : List MemPlace) (base : Nat)
    (hval : ∀ (j : Nat) t v, Tryd.f4.params[j]? = some t → args[j]? = some v → Value.okWide Tryd.prog W .any base t v) (hA : DataW.TrodAll enc Tryd.prog W 0 (fun _ => true) true Tryd.f4.params.toList args.toList ds p) (hfz : X)
    (hg : W.cell? ⟨0, 0, none⟩ = some (rtv 28)) :
    (∃ d d2 d3, ds = [d, d2, d3]) ∧ Calls Tryd.prog 4 args W fun e w' => e = .returned (.bool true) ∧ RowKit.Below W.heap.size W w' := by
  rw [Tryd.params4] at hA hval
  obtain ⟨v0, vs0, d0, ds0, p0, q0, hargs, rfl, rfl, h0, r0⟩ := trodAll_cons hA
  obtain ⟨v1, vs1, d1, ds1, p1, q1, rfl, rfl, rfl, h1, r1⟩ := trodAll_cons r0
  obtain ⟨v2, vs2, d2, ds2, p2, q2, rfl, rfl, rfl, h2, r2⟩ := trodAll_cons r1
  obtain ⟨rfl, rfl, rfl⟩ := trodAll_nil r2
  obtain rfl : args = #[v0, v1, v2] := by cases args; simp_all
  obtain ⟨l, ops, rfl, hl, _, hr, hx⟩ := arg_ops (hval 0 38 v0 rfl rfl) h0
  obtain ⟨l2, later, rfl, hl2, _, hr2, hx2⟩ := arg_ops (hval 1 38 v1 rfl rfl) h1
  obtain ⟨cs, rfl, hlen, hcell⟩ := arg_agg (ts := [22, 3]) (.inr ⟨_, Tryd.underlying36⟩) (by kernel_rfl) (by kernel_rfl) (hval 2 36 v2 rfl rfl)
  obtain ⟨c0, c1, rfl⟩ : ∃ a b, cs = [a, b] := by
    match cs, hlen with
    | [a, b], _ => exact ⟨a, b, rfl⟩
  obtain ⟨lack, rfl, _, _⟩ := cell_int Tryd.underlying3 (hcell 1 c1 3 rfl rfl)
  obtain ⟨n, hf⟩ := h2
  obtain ⟨xs, n', _, _, _, hxl, hx3⟩ := DataW.trod_struct Tryd.underlying36 hf
  have h4 := hx3 0 _ rfl
  have hlt : 0 < xs.length := by rw [hxl]; decide
  rw [List.getElem?_eq_getElem hlt] at h4
  have h4' : DataW.trod enc Tryd.prog W 0 (fun _ => true) true n' 22 [c0] = some xs[0] := h4
  obtain ⟨lp, ks, rfl, hk1, hk2, hk3⟩ := cell_bools Tryd.underlying22 Tryd.underlying4 (by kernel_rfl) (hcell 0 c0 22 rfl rfl) h4'
  refine ⟨⟨_, _, _, rfl⟩, ?_⟩
  have h := ladinglaw14_DiskLasts.sound 100000 l l2 lp lack (SH.of W) _ (DiskLasts_wp (by omega) hl hr hx hl2 hr2 hx2 (SH.of_cell (p := (0, 0)) hg) hk1 hk2 hk3) W (SH.of_sat W)
  refine h.mono ?_
  rintro e w' ⟨v, H', rfl, st, q, rfl, rfl⟩
  exact ⟨rfl, st.below fun b o hb => SH.of_ro hb⟩
end Go.Proofs.YtknhlipealekoaaDoor.K
