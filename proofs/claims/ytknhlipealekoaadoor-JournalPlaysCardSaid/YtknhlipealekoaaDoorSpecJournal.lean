/- What the functions of package journal do. -/
import Derived.Test.YtknhlipealekoaaDoorLawDisk
import Derived.Test.YtknhlipealekoaaDoorLawFrame
import Derived.Test.YtknhlipealekoaaDoorGjournal
import Derived.Test.YtknhlipealekoaaDoorGladingref09
import Derived.Test.YtknhlipealekoaaDoorGladinglaw15
set_option linter.unusedVariables false
set_option linter.unusedSimpArgs false
namespace Go.Proofs.YtknhlipealekoaaDoor.K
open Go

def JrI (bj bd : Nat) (all : List ByteArray) (n : Nat) : Pr := fun H fp => ∃ A : Sl, Star (Blk bj ⟨[pv (some (bd, 0)), sv A, .int .i64 n], 93, false, 3⟩) (SlI STR 1 A (strc all)) H fp
theorem Loc.jr {bj bd n : Nat} {all : List ByteArray} : Loc (JrI bj bd all n) :=
  ⟨fun ⟨A, h⟩ hh => ⟨A, (Loc.star .blk .sl).loc h hh⟩, fun ⟨A, h⟩ hb => (Loc.star .blk .sl).in_ h hb⟩
def jr (bj bd : Nat) (all : List ByteArray) (n : Nat) : LP := ⟨JrI bj bd all n, .jr⟩
def dk (b : Nat) (m : DM) : LP := ⟨DiskI b m, .disk⟩
theorem jr_open {bj bd n : Nat} {all : List ByteArray} {H0 H : SH} (h : On (JrI bj bd all n) H0 H) : ∃ A H1, On (Blk bj ⟨[pv (some (bd, 0)), sv A, .int .i64 n], 93, false, 3⟩) H1 H ∧ On (SlI STR 1 A (strc all)) H0 H1 := by
  obtain ⟨hl, fp, ⟨A, hd⟩, hn⟩ := h
  obtain ⟨H1, h1, h2⟩ := On.unstar .blk .sl (show On (Star _ _) H0 H from ⟨hl, fp, hd, hn⟩)
  exact ⟨A, H1, h1, h2⟩
theorem jr_close {bj bd n : Nat} {all : List ByteArray} {H0 H1 H : SH} {A : Sl} (h1 : On (Blk bj ⟨[pv (some (bd, 0)), sv A, .int .i64 n], 93, false, 3⟩) H1 H) (h2 : On (SlI STR 1 A (strc all)) H0 H1) : On (JrI bj bd all n) H0 H := by
  obtain ⟨a, f, h, c⟩ := On.star .blk .sl h1 h2
  exact ⟨a, f, ⟨A, h⟩, c⟩

/-! ### opened -/
def DM.opened (m : DM) (at_ : Nat) : DM :=
  let m1 := if at_ < m.now.log.size then m.cut at_ else m
  if m1.waits.length > 0 then m1.sync else m1
section
variable {F : Nat} {bd : Nat} {m : DM} {H0 H : SH} {kk N : Nat}
theorem strc_ofL (ts : List (List UInt8)) : (ts.map fun t => Value.string (ofL t)) = strc (ts.map ofL) := by simp [strc]
theorem cut_free {n : Nat} (hd : m.down = false) (hl : m.left = -1) (hn : n ≤ m.now.log.size) : m.cut n = { m with now := ⟨m.now.log.extract 0 n, m.now.slots⟩, lasts := ⟨m.now.log.extract 0 n, m.now.slots⟩, waits := [] } ∧ m.cutE n = 0 := by
  have h1 : ¬ (m.now.log.size < n) := by omega
  have h2 : ¬ ((n : Int) < 0) := by omega
  unfold DM.cut DM.cutE DM.burn DM.burnE
  simp [hd, hl, h1, h2]
theorem Open_spec2 {ts : List (List UInt8)} {rest : List UInt8} {c : Int} (hF : 10 ≤ F) (g : m.good kk N) (hd : m.down = false) (hleft : m.left = -1) (hs : m.now.log.size ≤ 1000000) (hsF : m.now.log.size < F) (hb : bs m.now.log = flatS ts ++ rest) (hrest : nextL rest = .no c) (ht : ∀ t ∈ ts, t.length ≤ 60000)
    (h : On (DiskI bd m) H0 H) {K : Option (Nat × Nat) → Option EV → SH → Prop} (k : ∀ bj H', Chain [jr bj bd (ts.map ofL) (flatS ts).length, dk bd (m.opened (flatS ts).length)] H0 H' → K (some (bj, 0)) none H') : journal_Open.wp F (some (bd, 0)) H K := by
  have hflat : ∀ d : List (List UInt8), d.length ≤ (flatS d).length := by
    intro d
    induction d with
    | nil => simp
    | cons u d ihd => rw [flatS_cons, List.length_append, sealL_len, List.length_cons]; omega
  have hsz : m.now.log.size = (flatS ts).length + rest.length := by rw [← bs_len, hb, List.length_append]
  have hts := hflat ts
  refine Log_spec hd h (o_none (All_spec hF hs hsF hb hrest ht (by omega) fun l H1 ho => ?_))
  rw [strc_ofL] at ho
  -- the records lie on top of the disk
  obtain ⟨H2, d1, a1⟩ := On.swap .sl .disk ho.on h
  have fin : ∀ (m1 : DM) (H3 : SH), m1.good kk N → m1.down = false → m1.left = -1 → On (DiskI bd m1) H2 H3 → (if (flatS ts).length < m.now.log.size then m.cut (flatS ts).length else m) = m1 → journal_Open.j1 F K (some (bd, 0)) none l ((flatS ts).length : Int) H3 := fun m1 H3 g1 hd1 hl1 h3 e => by
    have last : ∀ (m2 : DM) (H4 : SH), On (DiskI bd m2) H2 H4 → m.opened (flatS ts).length = m2 → journal_Open.j2 F K (some (bd, 0)) none l ((flatS ts).length : Int) H4 := fun m2 H4 h4 e2 => by
      refine o_none fun b27 hb27 => ⟨_, .refl _, k _ _ ?_⟩
      obtain ⟨H5, s1, d2⟩ := On.swap .disk .sl h4 a1
      rw [e2]
      exact Chain.cons (I := jr b27 bd (ts.map ofL) (flatS ts).length) (jr_close (On.new hb27) s1) (Chain.cons (I := dk bd m2) d2 (SH.le.refl H0))
    refine o_none (Waits_spec h3 ?_)
    unfold DM.opened at last
    simp only [] at last
    rw [e] at last
    by_cases hw : m1.waits.length > 0
    · rw [if_pos hw] at last
      refine br_t (by omega) (gSync g1 h3 fun H4 h4 => ?_)
      rw [appendE_free hd1 hl1]
      exact last _ H4 h4 rfl
    · rw [if_neg hw] at last
      exact br_f (by omega) (last _ H3 h3 rfl)
  by_cases hlt : (flatS ts).length < m.now.log.size
  · obtain ⟨c1, c2⟩ := cut_free hd hleft (Nat.le_of_lt hlt)
    refine br_t (by omega) (Cut_spec g.left (by have := g.fit.slots; omega) d1 fun H3 h3 => ?_)
    rw [c2]
    exact fin _ H3 g.cut (by rw [c1]; exact hd) (by rw [c1]; exact hleft) h3 (if_pos hlt)
  · exact br_f (by omega) (fin _ H1 g hd hleft d1 (if_neg hlt))
/-- All records. -/
theorem JAll_spec {bj n : Nat} {all : List ByteArray} (hn : all.length ≤ 1000000) (h : On (JrI bj bd all n) H0 H) {K : Sl → SH → Prop} (k : ∀ l H', On (SlI STR 1 l (strc all)) H H' → K l H') : journal_Journal_All.wp F (some (bj, 0)) H K := by
  obtain ⟨A, H1, h1, h2⟩ := jr_open h
  exact p_some ⟨A, h1.has rfl, Clone_spec (sl_len h2) (h2.row.le h1.le) (by omega) fun l H' ho => ⟨H', .refl _, k l H' ho⟩⟩
theorem JBytes_spec {bj n : Nat} {all : List ByteArray} (h : On (JrI bj bd all n) H0 H) {K : Int → SH → Prop} (k : K n H) : journal_Journal_Bytes.wp F (some (bj, 0)) H K := by
  obtain ⟨A, H1, h1, h2⟩ := jr_open h
  exact p_some ⟨n, h1.has rfl, H, .refl H, k⟩
theorem JFlush_spec {bj n : Nat} {all : List ByteArray} {L : List LP} (g : m.good kk N) (h : Chain (jr bj bd all n :: dk bd m :: L) H0 H) {K : Option EV → SH → Prop} (k : ∀ H', Chain (jr bj bd all n :: dk bd m.sync :: L) H0 H' → K (errN m.appendE) H') : journal_Journal_Flush.wp F (some (bj, 0)) H K := by
  obtain ⟨H1, j1, H2, d1, c⟩ := h
  obtain ⟨A, H3, h1, h2⟩ := jr_open j1
  obtain ⟨H4, d2, j2⟩ := On.swap .jr .disk j1 d1
  refine p_some ⟨some (bd, 0), h1.has rfl, gSync g d2 fun H' h' => ⟨H', .refl _, k H' ?_⟩⟩
  obtain ⟨H5, j3, d3⟩ := On.swap .disk .jr h' j2
  exact ⟨H5, j3, H2, d3, c⟩
/-- Records are put. -/
theorem JPut_spec {bj n : Nat} {all ss : List ByteArray} {L : List LP} {l : Sl} {HL : SH} (hF : 10 ≤ F) (g : m.good kk N) (hN : N ≤ 1000000000) (hl : l.len = ss.length) (hr : HL.row l.a (strc ss)) (hle : SH.le HL H0) (hs : ∀ s ∈ ss, s.size ≤ 60000 ∧ s.size < F) (hss : ss.length ≤ 1000000) (hsF : ss.length < F) (hall : all.length ≤ 1000000) (htot : (flatS (ss.map bs)).length ≤ 1000000000) (hn : n ≤ 1000000000)
    (h : Chain (jr bj bd all n :: dk bd m :: L) H0 H) {K : Option EV → SH → Prop} (k0 : m.appendE = 0 → ∀ H', Chain (jr bj bd (all ++ ss) (n + (flatS (ss.map bs)).length) :: dk bd (m.append (ofL (flatS (ss.map bs)))) :: L) H0 H' → K none H')
    (k1 : m.appendE ≠ 0 → ∀ H', Chain (jr bj bd all n :: dk bd (m.append (ofL (flatS (ss.map bs)))) :: L) H0 H' → K (some (.no m.appendE)) H') : journal_Journal_Put.wp F (some (bj, 0)) l H K := by
  refine p_some ?_
  have hmono : ∀ i, (flatS ((ss.map bs).take i)).length ≤ (flatS (ss.map bs)).length := fun i => by
    have := congrArg (fun l => (flatS l).length) (List.take_append_drop i (ss.map bs))
    simp only [flatS_append, List.length_append] at this
    omega
  have loop : ∀ (j i f : Nat), ss.length - i = j → i ≤ ss.length → j < f → journal_Journal_Put.l1 F K f bj 0 l (ofL (flatS ((ss.map bs).take i))) l (ss.length : Int) (i : Int) H := by
    intro j
    induction j with
    | zero =>
      intro i f hj hi hf
      obtain ⟨f, rfl⟩ : ∃ i, f = i + 1 := ⟨f - 1, by omega⟩
      obtain ⟨H1, j1, H2, d1, c⟩ := h
      obtain ⟨A, H3, h1, h2⟩ := jr_open j1
      obtain ⟨H4, d2, j2⟩ := On.swap .jr .disk j1 d1
      rw [List.take_of_length_le (by simp; omega)]
      refine br_f (by omega) ⟨some (bd, 0), h1.has rfl, gAppend g (by omega) (by rw [ofL_size]; omega) d2 fun H' h' => ?_⟩
      obtain ⟨H5, j3, d3⟩ := On.swap .disk .jr h' j2
      by_cases hE : m.appendE = 0
      · rw [hE]
        obtain ⟨A, H6, q1, q2⟩ := jr_open j3
        have hA := sl_len q2
        obtain ⟨H7, q3, q4⟩ := On.swap .blk .sl q1 q2
        have hrow : H'.row l.a (strc ss) := hr.le (hle.trans (c.le.trans (d3.le.trans j3.le)))
        refine o_none ⟨A, q1.has rfl, strc ss, hrow, q3.own.append (by omega) (by omega) (by rw [strc_len]; omega) (by simp [strc, Value.oneCell']) fun A' H8 ho hA' => ?_⟩
        have o1 := ho.on
        rw [show strc all ++ strc ss = strc (all ++ ss) by simp [strc]] at o1
        obtain ⟨H9, o2, o3⟩ := On.swap .sl .blk o1 q4
        have o4 := On.setl (k := 1) (vs := [sv A']) o2
        have o5 := On.setl (k := 2) (vs := [.int .i64 ((n + (flatS (ss.map bs)).length : Nat) : Int)]) o4
        refine ⟨o2.wrs rfl (Nat.le_of_ble_eq_true rfl), n, o4.has rfl, o4.wrs rfl (Nat.le_of_ble_eq_true rfl), _, .refl _, ?_⟩
        rw [ofL_size, w64_id (by omega), show (n : Int) + ((flatS (ss.map bs)).length : Int) = ((n + (flatS (ss.map bs)).length : Nat) : Int) by omega]
        exact k0 hE _ ⟨_, jr_close (n := n + (flatS (ss.map bs)).length) o5 o3, _, d3, c⟩
      · rw [errN_some hE]
        exact o_some ⟨H', .refl _, k1 hE H' ⟨H5, j3, H2, d3, c⟩⟩
    | succ j ih =>
      intro i f hj hi hf
      obtain ⟨f, rfl⟩ : ∃ i, f = i + 1 := ⟨f - 1, by omega⟩
      have hlt : i < ss.length := by omega
      have hsi := hs _ (List.getElem_mem hlt)
      have hcat : ofL (flatS ((ss.map bs).take i)) ++ ofL (sealL (bs ss[i])) = ofL (flatS ((ss.map bs).take (i + 1))) := by
        rw [ofL_append, List.take_succ_eq_append_getElem (by simpa using hlt), flatS_append]
        simp [flatS]
      refine br_t (by omega) (row_at (hr.le (hle.trans h.le)) (strc_get hlt) (by omega) fun p hp hh => ⟨ss[i], hh, Seal_spec hF hsi.1 hsi.2 (o_none ⟨?_, ?_⟩)⟩)
      · have := hmono i
        rw [ofL_size, ofL_size, sealL_len, bs_len]; omega
      · rw [hcat, w64_id (by omega), show (i : Int) + 1 = ((i + 1 : Nat) : Int) by omega]
        exact ih (i + 1) f (by omega) (by omega) (by omega)
  have := loop ss.length 0 F (by omega) (by omega) hsF
  rw [hl]
  exact this
theorem JWrite_spec {bj n : Nat} {all ss : List ByteArray} {L : List LP} {l : Sl} {HL : SH} (hF : 10 ≤ F) (g : m.good kk N) (hN : N ≤ 1000000000) (hl : l.len = ss.length) (hr : HL.row l.a (strc ss)) (hle : SH.le HL H0) (hs : ∀ s ∈ ss, s.size ≤ 60000 ∧ s.size < F) (hss : ss.length ≤ 1000000) (hsF : ss.length < F) (hall : all.length ≤ 1000000) (htot : (flatS (ss.map bs)).length ≤ 1000000000) (hn : n ≤ 1000000000)
    (h : Chain (jr bj bd all n :: dk bd m :: L) H0 H) {K : Option EV → SH → Prop} (k0 : m.appendE = 0 → ∀ H', Chain (jr bj bd (all ++ ss) (n + (flatS (ss.map bs)).length) :: dk bd (m.append (ofL (flatS (ss.map bs)))).sync :: L) H0 H' → K (errN (m.append (ofL (flatS (ss.map bs)))).appendE) H')
    (k1 : m.appendE ≠ 0 → ∀ H', Chain (jr bj bd all n :: dk bd (m.append (ofL (flatS (ss.map bs)))) :: L) H0 H' → K (some (.no m.appendE)) H') : journal_Journal_Write.wp F (some (bj, 0)) l H K := by
  refine JPut_spec hF g hN hl hr hle hs hss hsF hall htot hn h (fun hE H' h' => o_none ?_) (fun hE H' h' => o_some ⟨H', .refl _, k1 hE H' h'⟩)
  exact JFlush_spec g.append h' fun H2 h2 => ⟨H2, .refl _, k0 hE H2 h2⟩
theorem Same9_loop {l l' : Sl} {ss tt : List ByteArray} (hl : l.len = ss.length) (hl' : l'.len = ss.length) (ht : tt.length = ss.length) (hr : H.row l.a (strc ss)) (hr' : H.row l'.a (strc tt)) (hm : ss.length ≤ 1000000000000) {K : Bool → SH → Prop} (k : K (decide (ss = tt)) H) :
    ∀ (j i f : Nat), ss.length - i = j → i ≤ ss.length → j < f → ss.take i = tt.take i → ladingref09_Same.l1 F K f l l' (i : Int) H := by
  intro j
  induction j with
  | zero =>
    intro i f hj hi hf e
    obtain ⟨f, rfl⟩ : ∃ i, f = i + 1 := ⟨f - 1, by omega⟩
    refine br_f (by omega) ⟨H, .refl H, ?_⟩
    rw [List.take_of_length_le (by omega), List.take_of_length_le (by omega)] at e
    rw [decide_eq_true e] at k; exact k
  | succ j ih =>
    intro i f hj hi hf e
    obtain ⟨f, rfl⟩ : ∃ i, f = i + 1 := ⟨f - 1, by omega⟩
    have h1 : i < ss.length := by omega
    have h2 : i < tt.length := by omega
    refine br_t (by omega) (row_at hr (strc_get h1) (by omega) fun p hp hh => ⟨ss[i], hh, row_at hr' (strc_get h2) (by omega) fun p' hp' hh' => ⟨tt[i], hh', ?_⟩⟩)
    by_cases c : ss[i] = tt[i]
    · refine br_t c ?_
      rw [w64_id (by omega), show (i : Int) + 1 = ((i + 1 : Nat) : Int) by omega]
      refine ih (i + 1) f (by omega) (by omega) (by omega) ?_
      rw [List.take_succ_eq_append_getElem h1, List.take_succ_eq_append_getElem h2, e, c]
    · refine br_f c ⟨H, .refl H, ?_⟩
      rw [decide_eq_false (fun h => c (by subst h; rfl))] at k; exact k
theorem Same9_spec {l l' : Sl} {ss tt : List ByteArray} (hl : l.len = ss.length) (hl' : l'.len = tt.length) (hr : H.row l.a (strc ss)) (hr' : H.row l'.a (strc tt)) (hm : ss.length ≤ 1000000000000) (hF : ss.length < F) {K : Bool → SH → Prop} (k : K (decide (ss = tt)) H) :
    ladingref09_Same.wp F l l' H K := by
  by_cases c : ss.length = tt.length
  · exact br_f (by omega) (Same9_loop hl (by omega) (by omega) hr hr' hm k _ 0 F rfl (by omega) (by omega) rfl)
  · refine br_t (by omega) ⟨H, .refl H, ?_⟩
    rw [decide_eq_false (fun h => c (by rw [h]))] at k; exact k

/-! ### the document's example -/
theorem opened_free {n : Nat} (hd : m.down = false) (hl : m.left = -1) (hn : n ≤ m.now.log.size) (hw : m.waits = [] → n = m.now.log.size → m.lasts = m.now) : m.opened n = ⟨-1, false, ⟨m.now.log.extract 0 n, m.now.slots⟩, ⟨m.now.log.extract 0 n, m.now.slots⟩, []⟩ := by
  have ex : n = m.now.log.size → m.now.log.extract 0 n = m.now.log := fun e => by
    apply bs_inj
    rw [bs_extract, List.take_of_length_le (by rw [bs_len]; omega)]; rfl
  unfold DM.opened
  by_cases h : n < m.now.log.size
  · rw [if_pos h, (cut_free hd hl hn).1]
    simp [hd, hl]
  · have e : n = m.now.log.size := by omega
    rw [if_neg h, ex e]
    cases hm : m.waits with
    | nil =>
      simp only [hm, List.length_nil, gt_iff_lt, Nat.lt_irrefl, if_false]
      have := hw hm e
      cases m
      simp_all
    | cons w ws =>
      simp only [hm, List.length_cons, gt_iff_lt, Nat.zero_lt_succ, if_true]
      rw [sync_free hd hl]
      cases m
      simp_all
theorem new_now (n : Nat) : (DM.new n).now.log = ByteArray.empty := rfl
theorem DM.good.opened {n : Nat} (g : m.good kk N) : (m.opened n).good kk N := by
  unfold DM.opened
  simp only []
  split <;> split <;> first | exact g.cut.sync | exact g.cut | exact g.sync | exact g
theorem awake15_spec (hF : 5000 ≤ F) {K : Bool → SH → Prop} (k : ∀ H', SH.le H H' → K true H') : ladinglaw15_awake.wp F H K := by
  refine New_spec (n := 0) (by decide) fun bd H1 h1 hb => ?_
  have g0 := good_new (n := 0) (by omega)
  refine Open_spec2 (ts := []) (rest := []) (by omega) g0 rfl rfl (by decide) (by show 0 < F; omega) rfl nextL_nil (by simp) h1 fun bj H2 c2 => ?_
  have e1 : (DM.new 0).opened (flatS []).length = DM.new 0 := rfl
  rw [e1] at c2
  refine o_none fun b7 hb7 => ?_
  obtain ⟨HT, c3, ht, hle⟩ := Chain.temp c2 hb7 ⟨[.string (⟨#[97]⟩ : ByteArray)], 9, false, 1⟩
  have hrow : HT.row (⟨some (b7, 0), 1, 1⟩ : Sl).a (strc [mkB [97]]) := rowN ht fun j u hu => by rw [Nat.zero_add]; exact hu
  have hsz : ∀ s ∈ [mkB [97]], s.size ≤ 60000 ∧ s.size < F := fun s hs => by rw [List.mem_singleton.1 hs]; exact ⟨by decide, by show 1 < F; omega⟩
  have hfl : (flatS ([mkB [97]].map bs)).length = 7 := rfl
  have hap : (DM.new 0).appendE = 0 := rfl
  refine JWrite_spec (ss := [mkB [97]]) (by omega) g0 (by omega) rfl hrow (.refl HT) hsz (by decide) (by show 1 < F; omega) (by decide) (by rw [hfl]; omega) (by decide) c3 (fun _ H3 c4 => ?_) (fun hE => absurd hap hE)
  have hf0 : (ofL (flatS ([mkB [97]].map bs))).size ≠ 0 := by rw [ofL_size, hfl]; decide
  have ea : (DM.new 0).append (ofL (flatS ([mkB [97]].map bs))) = { DM.new 0 with now := ⟨(DM.new 0).now.log ++ ofL (flatS ([mkB [97]].map bs)), (DM.new 0).now.slots⟩, waits := (DM.new 0).waits ++ [(-1, ofL (flatS ([mkB [97]].map bs)))] } := append_free rfl rfl hf0
  have ga := (g0.append (s := ofL (flatS ([mkB [97]].map bs)))).sync
  have es : ((DM.new 0).append (ofL (flatS ([mkB [97]].map bs)))).sync = ⟨-1, false, ⟨ofL (flatS ([mkB [97]].map bs)), []⟩, ⟨ofL (flatS ([mkB [97]].map bs)), []⟩, []⟩ := by
    rw [ea, sync_free rfl rfl]
    simp [DM.new, emp_app]
  have eE : ((DM.new 0).append (ofL (flatS ([mkB [97]].map bs)))).appendE = 0 := by rw [ea]; rfl
  rw [eE]
  rw [es] at c4 ga
  refine o_none fun b12 hb12 => ?_
  obtain ⟨HT2, c5, ht2, hle2⟩ := Chain.temp c4 hb12 ⟨[.string (⟨#[98]⟩ : ByteArray)], 9, false, 1⟩
  have hrow2 : HT2.row (⟨some (b12, 0), 1, 1⟩ : Sl).a (strc [mkB [98]]) := rowN ht2 fun j u hu => by rw [Nat.zero_add]; exact hu
  have hsz2 : ∀ s ∈ [mkB [98]], s.size ≤ 60000 ∧ s.size < F := fun s hs => by rw [List.mem_singleton.1 hs]; exact ⟨by decide, by show 1 < F; omega⟩
  have hfl2 : (flatS ([mkB [98]].map bs)).length = 7 := rfl
  refine JPut_spec (ss := [mkB [98]]) (by omega) ga (by rw [ofL_size, hfl]; omega) rfl hrow2 (.refl HT2) hsz2 (by decide) (by show 1 < F; omega) (by decide) (by rw [hfl2]; omega) (by decide) c5 (fun _ H4 c6 => ?_) (fun hE => absurd rfl hE)
  have hf2 : (ofL (flatS ([mkB [98]].map bs))).size ≠ 0 := by rw [ofL_size, hfl2]; decide
  have gb := ga.append (s := ofL (flatS ([mkB [98]].map bs)))
  obtain ⟨H5, d5, c7⟩ := Chain.pull [jr bj bd _ _] c6
  have d5' : On (DiskI bd (DM.append ⟨-1, false, ⟨ofL (flatS ([mkB [97]].map bs)), []⟩, ⟨ofL (flatS ([mkB [97]].map bs)), []⟩, []⟩ (ofL (flatS ([mkB [98]].map bs))))) H5 H4 := d5
  refine o_none (gCrash (ks := []) gb (by rw [ofL_size, hfl, ofL_size, hfl2]; omega) rfl (Nat.le_refl _) (by simp; omega) (.inl rfl) d5' fun H6 h6 => ?_)
  have gc := gb.crash (ks := []) (lack := 0)
  rw [crash_none] at h6 gc
  have el : (DM.append ⟨-1, false, ⟨ofL (flatS ([mkB [97]].map bs)), []⟩, ⟨ofL (flatS ([mkB [97]].map bs)), []⟩, []⟩ (ofL (flatS ([mkB [98]].map bs)))).lasts = ⟨ofL (flatS ([mkB [97]].map bs)), []⟩ := by
    rw [append_free rfl rfl hf2]
  rw [el] at h6 gc
  refine Open_spec2 (ts := [bs (mkB [97])]) (rest := []) (by omega) gc rfl rfl (by rw [ofL_size, hfl]; omega) (by rw [ofL_size, hfl]; omega) (by rw [bs_ofL]; simp) nextL_nil (fun t ht => by rw [List.mem_singleton.1 ht]; decide) h6 fun bx H7 c8 => ?_
  obtain ⟨H8, x8, c9⟩ := c8
  refine o_none (JAll_spec (by decide) x8 fun l H9 ho b24 hb24 => ?_)
  refine Same9_spec (ss := [bs (mkB [97])].map ofL) (tt := [mkB [97]]) (sl_len ho) rfl (ho.row.le (le_upd hb24)) (row_upd rfl) (by decide) (by show 1 < F; omega) ⟨_, .refl _, ?_⟩
  have : decide ([bs (mkB [97])].map ofL = [mkB [97]]) = true := by simp [ofL_bs]
  rw [this]
  exact k _ ((hle.trans (hle2.trans (c7.le.trans (c9.le.trans (x8.le.trans ho.le))))).trans (le_upd hb24))
end
end Go.Proofs.YtknhlipealekoaaDoor.K
