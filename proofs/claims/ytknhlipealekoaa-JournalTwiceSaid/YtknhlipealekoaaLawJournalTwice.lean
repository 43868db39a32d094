/- The law JournalTwice: what it comes to. -/
import Derived.Test.YtknhlipealekoaaSpecJournal
import Derived.Test.YtknhlipealekoaaGladinglaw15JournalTwice
set_option linter.unusedVariables false
set_option linter.unusedSimpArgs false
namespace Go.Proofs.Ytknhlipealekoaa.K
open Go

theorem Chain.append : ∀ {A B : List LP} {H0 H1 H : SH}, Chain A H1 H → Chain B H0 H1 → Chain (A ++ B) H0 H
  | [], B, H0, H1, H, h, k => Chain.above k h
  | I :: A, B, H0, H1, H, ⟨H2, h1, h2⟩, k => ⟨H2, h1, Chain.append h2 k⟩
section
variable {F : Nat} {H H0 : SH}
theorem great15 {l : Sl} {ss : List ByteArray} (hF : 100 ≤ F) (hl : l.len = ss.length) (hr : H.row l.a (strc ss)) {K : Bool → SH → Prop} (k1 : K true H) (k2 : ss.length ≤ 60 → (∀ s ∈ ss, s.size ≤ 100) → K false H) : ladinglaw15_great.wp F l H K := by
  refine ⟨fun _ => ⟨H, .refl H, k1⟩, fun c => ?_⟩
  have h60 : ss.length ≤ 60 := by omega
  have loop : ∀ (j i f : Nat), ss.length - i = j → i ≤ ss.length → j < f → (∀ s ∈ ss.take i, s.size ≤ 100) → ladinglaw15_great.l1 F K f l (ss.length : Int) (i : Int) H := by
    intro j
    induction j with
    | zero =>
      intro i f hj hi hf hs
      obtain ⟨f, rfl⟩ : ∃ i, f = i + 1 := ⟨f - 1, by omega⟩
      rw [List.take_of_length_le (by omega)] at hs
      exact br_f (by omega) ⟨H, .refl H, k2 h60 hs⟩
    | succ j ih =>
      intro i f hj hi hf hs
      obtain ⟨f, rfl⟩ : ∃ i, f = i + 1 := ⟨f - 1, by omega⟩
      have hlt : i < ss.length := by omega
      refine br_t (by omega) (row_at hr (strc_get hlt) (by omega) fun p hp hh => ⟨ss[i], hh, fun _ => ⟨H, .refl H, k1⟩, fun c => ?_⟩)
      rw [w64_id (by omega), show (i : Int) + 1 = ((i + 1 : Nat) : Int) by omega]
      refine ih (i + 1) f (by omega) (by omega) (by omega) fun s h => ?_
      rw [List.take_succ_eq_append_getElem hlt] at h
      rcases List.mem_append.1 h with h | h
      · exact hs s h
      · rw [List.mem_singleton.1 h]; omega
  rw [hl]
  exact loop ss.length 0 F (by omega) (by omega) (by omega) (by simp)
theorem flat_le {ss : List ByteArray} (h : ∀ s ∈ ss, s.size ≤ 100) : (flatS (ss.map bs)).length ≤ ss.length * 106 := by
  induction ss with
  | nil => simp [flatS]
  | cons s ss ih =>
    have := ih fun t ht => h t (by simp [ht])
    have := h s (by simp)
    simp only [List.map_cons, flatS_cons, List.length_append, sealL_len, bs_len, List.length_cons]; omega
theorem ofL_map (ss : List ByteArray) : (ss.map bs).map ofL = ss := by
  rw [List.map_map]
  have : (ofL ∘ bs) = id := by funext s; exact ofL_bs s
  rw [this, List.map_id]
/-- A disk that has just these bytes, and no fuse. -/
structure Has (X : ByteArray) (m : DM) : Prop where
  good : m.good 0 100000
  down : m.down = false
  left : m.left = -1
  log : m.now.log = X
  wait : m.waits = [] → m.lasts = m.now
theorem Has.slots {X : ByteArray} {m : DM} (h : Has X m) : m.now.slots = [] := List.eq_nil_of_length_eq_zero h.good.now
theorem Has.opened {X : ByteArray} {m : DM} (h : Has X m) : Has X (m.opened X.size) ∧ (m.opened X.size).waits = [] := by
  have e := opened_free (m := m) (n := X.size) h.down h.left (by rw [h.log]; exact Nat.le_refl _) (fun hw _ => h.wait hw)
  have g : (m.opened X.size).good 0 100000 := h.good.opened
  have ex : m.now.log.extract 0 X.size = X := by
    rw [h.log]
    apply bs_inj
    rw [bs_extract, List.take_of_length_le (by rw [bs_len]; omega)]; rfl
  rw [e] at g ⊢
  exact ⟨⟨g, rfl, rfl, ex, fun _ => rfl⟩, rfl⟩
theorem Has.sync {X : ByteArray} {m : DM} (h : Has X m) : Has X m.sync := by
  have g := h.good.sync
  rw [sync_free h.down h.left] at g ⊢
  exact ⟨g, h.down, h.left, h.log, fun _ => rfl⟩
theorem Has.append {X Y : ByteArray} {m : DM} (h : Has X m) (g : (m.append Y).good 0 100000) : Has (X ++ Y) (m.append Y) := by
  by_cases hY : Y.size = 0
  · have hYe : Y = ByteArray.empty := bs_inj (by rw [List.eq_nil_of_length_eq_zero (l := bs Y) (by rw [bs_len]; exact hY)]; rfl)
    have e : m.append Y = m := by
      unfold DM.append DM.does DM.burn DM.lies
      simp [h.down, h.left, hY]
    rw [e, hYe]
    have : X ++ ByteArray.empty = X := bs_inj (by rw [bs_append]; simp [show bs ByteArray.empty = [] from rfl])
    rw [this]; exact h
  · rw [append_free h.down h.left hY] at g ⊢
    exact ⟨g, h.down, h.left, by show m.now.log ++ Y = _; rw [h.log], fun hw => by simp at hw⟩
theorem new_has : Has ByteArray.empty (DM.new 0) := ⟨(good_new (by omega)).more (by omega), rfl, rfl, rfl, fun _ => rfl⟩
theorem flat_none {ss : List ByteArray} : bs (ofL (flatS (ss.map bs))) = flatS (ss.map bs) ++ [] := by rw [bs_ofL, List.append_nil]

theorem Twice_end {l : Sl} {ss : List ByteArray} {bd bf bj bk : Nat} {m2 : DM} {X : ByteArray} (hF : 10000 ≤ F) (hl : l.len = ss.length) (hr : H0.row l.a (strc ss)) (h60 : ss.length ≤ 60) (h100 : ∀ s ∈ ss, s.size ≤ 100) (hX : X = ofL (flatS (ss.map bs))) {K : Bool → SH → Prop} (k : ∀ H', K true H') :
    ∀ (j i f : Nat) (m : DM) (H : SH), 3 - i = j → i ≤ 3 → j < f → Has X m → Chain [dk bd m, jr bj bd ss X.size, jr bk bf ss X.size, dk bf m2] H0 H → ladinglaw15_JournalTwice.l2 F K f l (some (bd, 0)) (some (bj, 0)) (some (bk, 0)) (i : Int) H := by
  intro j
  have hXs : X.size ≤ 6360 := by rw [hX, ofL_size]; have := flat_le h100; omega
  induction j with
  | zero =>
    intro i f m H hj hi hf hm c
    obtain ⟨f, rfl⟩ : ∃ i, f = i + 1 := ⟨f - 1, by omega⟩
    obtain ⟨H1, j1, c1⟩ := Chain.pull [dk bd m] c
    refine br_f (by omega) (JAll_spec (by omega) j1 fun la Ha oa => ?_)
    have ca := Chain.above c oa.le
    obtain ⟨H2, k1, c2⟩ := Chain.pull [dk bd m, jr bj bd ss X.size] ca
    refine JAll_spec (by omega) k1 fun lb Hb ob => ?_
    have cb := Chain.above ca ob.le
    have hdec : decide (ss = ss) = true := decide_eq_true rfl
    refine Same9_spec (sl_len oa) (sl_len ob) (oa.row.le ob.le) ob.row (by omega) (by omega) ?_
    rw [hdec]
    obtain ⟨H3, j3, _⟩ := Chain.pull [dk bd m] cb
    obtain ⟨H4, k4, _⟩ := Chain.pull [dk bd m, jr bj bd ss X.size] cb
    refine br_t rfl (JBytes_spec j3 (JBytes_spec k4 ⟨Hb, .refl _, ?_⟩))
    have : ((X.size : Int) == (X.size : Int)) = true := by simp
    rw [this]; exact k _
  | succ j ih =>
    intro i f m H hj hi hf hm c
    obtain ⟨f, rfl⟩ : ∃ i, f = i + 1 := ⟨f - 1, by omega⟩
    obtain ⟨H1, d1, c1⟩ := c
    have hXl : X.size = (flatS (ss.map bs)).length := by rw [hX, ofL_size]
    refine br_t (by omega) (Open_spec2 (ts := ss.map bs) (rest := []) (by omega) hm.good hm.down hm.left (by rw [hm.log]; omega) (by rw [hm.log]; omega) (by rw [hm.log, hX]; exact flat_none) nextL_nil (fun t ht => by obtain ⟨s, h1, rfl⟩ := List.mem_map.1 ht; rw [bs_len]; have := h100 s h1; omega) d1 fun bx H2 c2 => ?_)
    rw [ofL_map, ← hXl] at c2
    have c3 := Chain.append c2 c1
    obtain ⟨H3, x1, c4⟩ := c3
    refine o_none (JAll_spec (by omega) x1 fun lx Hx ox => ?_)
    have c5 : Chain [dk bd (m.opened X.size), jr bj bd ss X.size, jr bk bf ss X.size, dk bf m2] H0 Hx := Chain.above c4 (x1.le.trans ox.le)
    have hdec : decide (ss = ss) = true := decide_eq_true rfl
    refine Same9_spec (sl_len ox) hl ox.row (hr.le c5.le) (by omega) (by omega) ?_
    rw [hdec]
    obtain ⟨ho, hw⟩ := hm.opened
    obtain ⟨H6, d6, c6⟩ := c5
    refine br_t rfl (Waits_spec d6 ?_)
    rw [hw]
    refine br_f (by simp) ?_
    rw [w64_id (by omega), show (i : Int) + 1 = ((i + 1 : Nat) : Int) by omega]
    exact ih (i + 1) f _ Hx (by omega) (by omega) (by omega) ho ⟨H6, d6, c6⟩
theorem Twice_mid {l : Sl} {ss : List ByteArray} {q : Bool} {bd bf bj bk : Nat} {m1 m2 : DM} {X : ByteArray} (hF : 10000 ≤ F) (hl : l.len = ss.length) (hr : H0.row l.a (strc ss)) (h60 : ss.length ≤ 60) (h100 : ∀ s ∈ ss, s.size ≤ 100) (hX : X = ofL (flatS (ss.map bs))) {K : Bool → SH → Prop} (k : ∀ H', K true H')
    (h1 : Has X m1) (h2 : Has X m2) {H : SH} (c : Chain [jr bk bf ss X.size, dk bf m2, jr bj bd ss X.size, dk bd m1] H0 H) :
    (q = true → journal_Journal_Flush.wp F (some (bj, 0)) H (fun e46 H47 => (e46 = none → journal_Journal_Flush.wp F (some (bk, 0)) H47 (fun e49 H50 => (e49 = none → disk_Disk_Same.wp F (some (bd, 0)) (some (bf, 0)) H50 (fun q52 H53 =>
      (q52 = true → ladinglaw15_JournalTwice.j1 F K l (some (bd, 0)) (some (bj, 0)) (some (bk, 0)) H53) ∧ (¬ (q52 = true) → ∃ Hr, SH.le Hr H53 ∧ K false Hr))) ∧ (∀ v51, e49 = some v51 → ∃ Hr, SH.le Hr H50 ∧ K false Hr))) ∧ (∀ v48, e46 = some v48 → ∃ Hr, SH.le Hr H47 ∧ K false Hr))) ∧
    (¬ (q = true) → disk_Disk_Same.wp F (some (bd, 0)) (some (bf, 0)) H (fun q59 H60 => (q59 = true → ladinglaw15_JournalTwice.j1 F K l (some (bd, 0)) (some (bj, 0)) (some (bk, 0)) H60) ∧ (¬ (q59 = true) → ∃ Hr, SH.le Hr H60 ∧ K false Hr))) := by
  have fin : ∀ (m1 m2 : DM) (H : SH), Has X m1 → Has X m2 → Chain [jr bk bf ss X.size, dk bf m2, jr bj bd ss X.size, dk bd m1] H0 H → disk_Disk_Same.wp F (some (bd, 0)) (some (bf, 0)) H (fun q59 H60 => (q59 = true → ladinglaw15_JournalTwice.j1 F K l (some (bd, 0)) (some (bj, 0)) (some (bk, 0)) H60) ∧ (¬ (q59 = true) → ∃ Hr, SH.le Hr H60 ∧ K false Hr)) := fun m1 m2 H h1 h2 c => by
    have ca := Chain.pull [jr bk bf ss X.size, dk bf m2, jr bj bd ss X.size] c
    obtain ⟨H1, d1, c1⟩ := ca
    obtain ⟨H2, f1, c2⟩ := Chain.pull [jr bk bf ss X.size] c
    refine Same_spec (by rw [h1.slots]; simp) (by rw [h1.slots]; simp; omega) d1 f1 ?_
    have : m1.same m2 = true := decide_eq_true ⟨by rw [h1.log, h2.log], by rw [h1.slots, h2.slots]⟩
    rw [this]
    refine br_t rfl ?_
    -- the disk in front, then the journals, then the other disk
    have cb : Chain ([dk bd m1, jr bk bf ss X.size, dk bf m2, jr bj bd ss X.size]) H0 H := ⟨H1, d1, c1⟩
    obtain ⟨H3, f3, c3⟩ := cb
    have c4 := Chain.pull [jr bk bf ss X.size, dk bf m2] c3
    exact Twice_end hF hl hr h60 h100 hX k 3 0 F m1 H rfl (by omega) (by omega) h1 ⟨H3, f3, c4⟩
  refine ⟨fun _ => ?_, fun _ => fin m1 m2 H h1 h2 c⟩
  have c1 := Chain.pull [jr bk bf ss X.size, dk bf m2, jr bj bd ss X.size] c
  have c2 : Chain [jr bj bd ss X.size, dk bd m1, jr bk bf ss X.size, dk bf m2] H0 H := Chain.pull [dk bd m1, jr bk bf ss X.size, dk bf m2] c1
  refine JFlush_spec h1.good c2 fun H3 c3 => ?_
  rw [appendE_free h1.down h1.left]
  have c4 := Chain.pull [jr bj bd ss X.size, dk bd m1.sync, jr bk bf ss X.size] c3
  have c5 : Chain [jr bk bf ss X.size, dk bf m2, jr bj bd ss X.size, dk bd m1.sync] H0 H3 := Chain.pull [dk bf m2, jr bj bd ss X.size, dk bd m1.sync] c4
  refine o_none (JFlush_spec h2.good c5 fun H4 c6 => ?_)
  rw [appendE_free h2.down h2.left]
  exact o_none (fin _ _ H4 h1.sync h2.sync c6)
theorem Twice_loop {l : Sl} {ss : List ByteArray} {q : Bool} {bd bf bj bk : Nat} {m1 : DM} {X : ByteArray} (hF : 10000 ≤ F) (hl : l.len = ss.length) (hr : H0.row l.a (strc ss)) (h60 : ss.length ≤ 60) (h100 : ∀ s ∈ ss, s.size ≤ 100) (hX : X = ofL (flatS (ss.map bs))) {K : Bool → SH → Prop} (k : ∀ H', K true H') (h1 : Has X m1) :
    ∀ (j i f : Nat) (m2 : DM) (H : SH), ss.length - i = j → i ≤ ss.length → j < f → m2.good 0 (5000 + 200 * i) → m2.down = false → m2.left = -1 → m2.now.log = ofL (flatS ((ss.map bs).take i)) → (m2.waits = [] → m2.lasts = m2.now) →
      Chain [jr bk bf (ss.take i) (flatS ((ss.map bs).take i)).length, dk bf m2, jr bj bd ss X.size, dk bd m1] H0 H →
      ladinglaw15_JournalTwice.l1 F K f l q (some (bd, 0)) (some (bf, 0)) (some (bj, 0)) (some (bk, 0)) l (ss.length : Int) (i : Int) H := by
  intro j
  have hfl := flat_le h100
  have hmono : ∀ i, (flatS ((ss.map bs).take i)).length ≤ (flatS (ss.map bs)).length := fun i => by
    have := congrArg (fun l => (flatS l).length) (List.take_append_drop i (ss.map bs))
    simp only [flatS_append, List.length_append] at this
    omega
  induction j with
  | zero =>
    intro i f m2 H hj hi hf g hd hl2 hlog hw c
    obtain ⟨f, rfl⟩ : ∃ i, f = i + 1 := ⟨f - 1, by omega⟩
    have hall : (ss.map bs).take i = ss.map bs := List.take_of_length_le (by rw [List.length_map]; omega)
    have hall2 : ss.take i = ss := List.take_of_length_le (by omega)
    rw [hall] at hlog c
    rw [hall2] at c
    have hXl : X.size = (flatS (ss.map bs)).length := by rw [hX, ofL_size]
    rw [← hXl] at c
    exact br_f (by omega) (Twice_mid hF hl hr h60 h100 hX k h1 ⟨g.more (by omega), hd, hl2, by rw [hlog, hX], hw⟩ c)
  | succ j ih =>
    intro i f m2 H hj hi hf g hd hl2 hlog hw c
    obtain ⟨f, rfl⟩ : ∃ i, f = i + 1 := ⟨f - 1, by omega⟩
    have hlt : i < ss.length := by omega
    have hsi := h100 _ (List.getElem_mem hlt)
    refine br_t (by omega) (row_at (hr.le c.le) (strc_get hlt) (by omega) fun p hp hh => ⟨ss[i], hh, fun b40 hb40 => ?_⟩)
    obtain ⟨HT, c1, ht, hle⟩ := Chain.temp c hb40 ⟨[.string ss[i]], 9, false, 1⟩
    have hrow : HT.row (⟨some (b40, 0), 1, 1⟩ : Sl).a (strc [ss[i]]) := rowN ht fun j u hu => by rw [Nat.zero_add]; exact hu
    have e1 : flatS ([ss[i]].map bs) = sealL (bs ss[i]) := by simp [flatS]
    have hl7 : (sealL (bs ss[i])).length = (ss[i]).size + 6 := by rw [sealL_len, bs_len]
    have hE : m2.appendE = 0 := appendE_free hd hl2
    have hm := hmono i
    refine JPut_spec (ss := [ss[i]]) (by omega) g (by omega) rfl hrow (.refl HT) (fun s hs => by rw [List.mem_singleton.1 hs]; exact ⟨by omega, by omega⟩) (by simp) (by simp; omega) (by simp; omega) (by rw [e1, hl7]; omega) (by omega) c1 (fun _ H2 c2 => o_none ?_) (fun h0 => absurd hE h0)
    rw [e1] at c2
    have gn := g.append (s := ofL (sealL (bs ss[i])))
    have hsz : (ofL (sealL (bs ss[i]))).size = (ss[i]).size + 6 := by rw [ofL_size, hl7]
    have ea := append_free (m := m2) (s := ofL (sealL (bs ss[i]))) hd hl2 (by rw [hsz]; omega)
    have e2 : flatS ((ss.map bs).take (i + 1)) = flatS ((ss.map bs).take i) ++ sealL (bs ss[i]) := by
      rw [List.take_succ_eq_append_getElem (by simpa using hlt), flatS_append]
      simp [flatS]
    have e3 : ss.take (i + 1) = ss.take i ++ [ss[i]] := List.take_succ_eq_append_getElem hlt
    rw [w64_id (by omega), show (i : Int) + 1 = ((i + 1 : Nat) : Int) by omega]
    refine ih (i + 1) f (m2.append (ofL (sealL (bs ss[i])))) H2 (by omega) (by omega) (by omega) (gn.more (by rw [hsz]; omega)) (by rw [ea]; exact hd) (by rw [ea]; exact hl2) ?_ (fun hw2 => by rw [ea] at hw2; simp at hw2) ?_
    · rw [ea, e2, ← ofL_append, ← hlog]
    · rw [e2, e3, List.length_append]
      exact Chain.below c2 hle
theorem JournalTwice_wp {l : Sl} {q : Bool} {ss : List ByteArray} (hF : 10000 ≤ F) (hl : l.len = ss.length) (hr : H.row l.a (strc ss)) : ladinglaw15_JournalTwice.wp F l q H (fun b _ => b = true) := by
  refine awake15_spec (by omega) fun H1 hle => br_t rfl (great15 (by omega) hl (hr.le hle) (br_t rfl ⟨H1, .refl _, rfl⟩) fun h60 h100 => br_f (by simp) ?_)
  have hfl := flat_le h100
  refine New_spec (n := 0) (by decide) fun bd H2 d2 hbd => New_spec (n := 0) (by decide) fun bf H3 d3 hbf => ?_
  have c3 : Chain [dk bf (DM.new 0), dk bd (DM.new 0)] H1 H3 := ⟨H2, d3, H1, d2, .refl _⟩
  obtain ⟨H4, d4, c4⟩ := Chain.pull [dk bf (DM.new 0)] c3
  have e0 : (DM.new 0).opened (flatS []).length = DM.new 0 := rfl
  refine Open_spec2 (ts := []) (rest := []) (by omega) new_has.good rfl rfl (by decide) (by show 0 < F; omega) rfl nextL_nil (by simp) d4 fun bj H5 c5 => ?_
  rw [e0] at c5
  have c6 := Chain.append c5 c4
  obtain ⟨H7, d7, c7⟩ := Chain.pull [jr bj bd (List.map ofL []) (flatS []).length, dk bd (DM.new 0)] c6
  refine Open_spec2 (ts := []) (rest := []) (by omega) new_has.good rfl rfl (by decide) (by show 0 < F; omega) rfl nextL_nil (by simp) d7 fun bk H8 c8 => ?_
  rw [e0] at c8
  have c9 := Chain.append c8 c7
  have c10 := Chain.pull [jr bk bf (List.map ofL []) (flatS []).length, dk bf (DM.new 0), jr bj bd (List.map ofL []) (flatS []).length] c9
  have c11 : Chain [jr bj bd [] 0, dk bd (DM.new 0), jr bk bf [] 0, dk bf (DM.new 0)] H1 H8 := Chain.pull [dk bd (DM.new 0), jr bk bf [] 0, dk bf (DM.new 0)] c10
  refine o_none (o_none ?_)
  have gn := (good_new (n := 0) (by omega)).append (s := ofL (flatS (ss.map bs)))
  refine JPut_spec (ss := ss) (by omega) new_has.good (by omega) hl (hr.le hle) (.refl _) (fun s hs => by have := h100 s hs; omega) (by omega) (by omega) (by simp) (by omega) (by omega) c11 (fun _ H9 c12 => o_none ?_) (fun h0 => absurd rfl h0)
  have hX : Has (ofL (flatS (ss.map bs))) ((DM.new 0).append (ofL (flatS (ss.map bs)))) := by
    have := new_has.append (Y := ofL (flatS (ss.map bs))) (gn.more (by rw [ofL_size]; omega))
    rwa [emp_app] at this
  rw [Nat.zero_add, List.nil_append] at c12
  have c13 := Chain.pull [jr bj bd ss (flatS (ss.map bs)).length, dk bd ((DM.new 0).append (ofL (flatS (ss.map bs)))), jr bk bf [] 0] c12
  have c14 := Chain.pull [dk bf (DM.new 0), jr bj bd ss (flatS (ss.map bs)).length, dk bd ((DM.new 0).append (ofL (flatS (ss.map bs))))] c13
  have hXl : (flatS (ss.map bs)).length = (ofL (flatS (ss.map bs))).size := by rw [ofL_size]
  rw [hXl] at c14
  rw [hl]
  exact Twice_loop (H0 := H1) hF hl (hr.le hle) h60 h100 rfl (fun _ => rfl) hX ss.length 0 F (DM.new 0) H9 (by omega) (by omega) (by omega) ((good_new (by omega)).more (by omega)) rfl rfl rfl (fun _ => rfl) c14
end
open Go.RowKit Go.ChangeShapes Go.WideShapes Go.ChangeAt in
theorem JournalTwice_walk {X : Prop} {H : Type} {enc : TypeId × Value → H} (W : World) (args : Array Value) (ds : List (DataW H)) (p : List MemPlace) (base : Nat)
    (hval : ∀ (j : Nat) t v, Try.f5.params[j]? = some t → args[j]? = some v → Value.okWide Try.prog W .any base t v) (hA : DataW.TrodAll enc Try.prog W 0 (fun _ => true) true Try.f5.params.toList args.toList ds p) (hfz : X) :
    (∃ d d2, ds = [d, d2]) ∧ Calls Try.prog 5 args W fun e w' => e = .returned (.bool true) ∧ RowKit.Below W.heap.size W w' := by
  rw [Try.params5] at hA hval
  obtain ⟨v0, vs0, d0, ds0, p0, q0, hargs, rfl, rfl, h0, r0⟩ := trodAll_cons hA
  obtain ⟨v1, vs1, d1, ds1, p1, q1, rfl, rfl, rfl, h1, r1⟩ := trodAll_cons r0
  obtain ⟨rfl, rfl, rfl⟩ := trodAll_nil r1
  obtain rfl : args = #[v0, v1] := by cases args; simp_all
  obtain ⟨l, ss, rfl, hl, _, hr, hs⟩ := arg_strs Try.underlying41 Try.underlying9 (by kernel_rfl) (hval 0 41 v0 rfl rfl) h0
  obtain ⟨q, rfl⟩ := arg_bool Try.underlying4 (hval 1 4 v1 rfl rfl)
  refine ⟨⟨_, _, rfl⟩, ?_⟩
  have h := ladinglaw15_JournalTwice.sound 10000 l q (SH.of W) _ (JournalTwice_wp (by omega) hl hr) W (SH.of_sat W)
  refine h.mono ?_
  rintro e w' ⟨v, H', rfl, st, q, rfl, rfl⟩
  exact ⟨rfl, st.below fun b o hb => SH.of_ro hb⟩
end Go.Proofs.Ytknhlipealekoaa.K
