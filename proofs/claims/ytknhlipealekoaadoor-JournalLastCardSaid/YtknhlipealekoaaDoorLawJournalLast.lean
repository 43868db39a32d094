/- The law JournalLast: what it comes to. -/
import Derived.Test.YtknhlipealekoaaDoorLawJournal2
import Derived.Test.YtknhlipealekoaaDoorGladinglaw15JournalLast
set_option linter.unusedVariables false
set_option linter.unusedSimpArgs false
namespace Go.Proofs.YtknhlipealekoaaDoor.K
open Go
def lastIs (p : ByteArray → Bool) (ss : List ByteArray) : ByteArray × Bool := ss.foldl (fun a s => if p s then (s, true) else a) (ByteArray.empty, false)
theorem lastIs_snoc (p : ByteArray → Bool) (ss : List ByteArray) (s : ByteArray) : lastIs p (ss ++ [s]) = if p s then (s, true) else lastIs p ss := by simp [lastIs, List.foldl_append]
def isF (x : Int) (s : ByteArray) : Bool := ((s.size : Int).tmod 4) == ((w64 x).tmod 4)
section
variable {F : Nat} {H H0 H1 : SH} {b4 bd bj n : Nat} {m : DM} {ss : List ByteArray} {x : Int}
theorem isF_spec {s : ByteArray} (hx : H.has (b4, 0) (.int .u8 x)) {K : Bool → SH → Prop} (k : K (isF x s) H) : ladinglaw15_JournalLast_1.wp F s (some (b4, 0)) H K := p_some ⟨x, hx, H, .refl H, k⟩
theorem JLast_spec (hm : ss.length ≤ 1000000) (hF : ss.length < F) (j1 : On (JrI bj bd ss n) H1 H) (hx : H.has (b4, 0) (.int .u8 x)) {K : ByteArray → Bool → SH → Prop} (k : K (lastIs (isF x) ss).1 (lastIs (isF x) ss).2 H) :
    journal_Journal_Last__ladinglaw15_JournalLast_1.wp F (some (bj, 0)) (some (b4, 0)) H K := by
  obtain ⟨A, G, h1, h2⟩ := jr_open j1
  have hA := sl_len h2
  have hr : H.row A.a (strc ss) := h2.row.le h1.le
  refine p_some ⟨A, h1.has rfl, ?_⟩
  rw [hA, w64_id (by omega)]
  have loop : ∀ (i f : Nat), i ≤ ss.length → i < f → lastIs (isF x) (ss.take i) = lastIs (isF x) ss → journal_Journal_Last__ladinglaw15_JournalLast_1.l1 F K f bj 0 (some (b4, 0)) ((i : Int) - 1) H := by
    intro i
    induction i with
    | zero =>
      intro f hi hf e
      obtain ⟨f, rfl⟩ : ∃ i, f = i + 1 := ⟨f - 1, by omega⟩
      refine br_f (by omega) ⟨H, .refl H, ?_⟩
      rw [← e] at k; exact k
    | succ i ih =>
      intro f hi hf e
      obtain ⟨f, rfl⟩ : ∃ i, f = i + 1 := ⟨f - 1, by omega⟩
      have hlt : i < ss.length := by omega
      rw [show ((i + 1 : Nat) : Int) - 1 = (i : Int) by omega]
      rw [List.take_succ_eq_append_getElem hlt, lastIs_snoc] at e
      refine br_t (by omega) ⟨A, h1.has rfl, row_at hr (strc_get hlt) (by omega) fun p hp hh => ⟨ss[i], hh, isF_spec hx ?_⟩⟩
      cases hq : isF x ss[i] with
      | true =>
        rw [hq, if_pos rfl] at e
        rw [← e] at k
        exact br_t rfl ⟨A, h1.has rfl, p, hp, by omega, by omega, ss[i], hh, H, .refl H, k⟩
      | false =>
        rw [hq, if_neg (by simp)] at e
        refine br_f (by simp) ?_
        rw [w64_id (by omega)]
        exact ih f (by omega) (by omega) e
  exact loop ss.length F (Nat.le_refl _) hF (by rw [List.take_length])
theorem JPut_long {s0 s1 s2 : ByteArray} {l : Sl} (hF : 100 ≤ F) (h0 : s0.size ≤ 50) (h1 : s1.size > 60000) (hl : l.len = 3) (hr : H.row l.a (strc [s0, s1, s2])) {K : Option EV → SH → Prop} (k : K (some (.no 6)) H) : journal_Journal_Put.wp F (some (bj, 0)) l H K := by
  refine p_some ?_
  rw [hl]
  have go : ∀ g, 2 ≤ g → journal_Journal_Put.l1 F K g bj 0 l ByteArray.empty l ((3 : Nat) : Int) 0 H := fun g hg => by
    obtain ⟨g, rfl⟩ : ∃ i, g = i + 2 := ⟨g - 2, by omega⟩
    refine br_t (by omega) (row_at (i := 0) hr rfl (by omega) fun p hp hh => ⟨s0, hh, Seal_spec (by omega) (by omega) (by omega) (o_none ⟨?_, ?_⟩)⟩)
    · rw [ofL_size, sealL_len, bs_len]; show 0 + _ ≤ _; omega
    · rw [w64_id (by omega)]
      exact br_t (by omega) (row_at (i := 1) hr rfl (by omega) fun p hp hh => ⟨s1, hh, Seal_long h1 (o_some ⟨H, .refl H, k⟩)⟩)
  exact go F (by omega)
theorem Last_none (hg : H.has (0, 0) (rtv 28)) {K : Bool → SH → Prop} (k : ∀ H', K true H') : ladinglaw15_JournalLast.j3 F K b4 H := by
  refine p_none ⟨H, .refl H, o_some ⟨H, .refl H, o_some ⟨H, .refl H, p_none ⟨H, .refl H, CodeS hg (br_t rfl (br_f (by simp) fun b1 hb1 => ?_))⟩⟩⟩⟩
  have g1 := hg.le (le_upd (o := ⟨[.string (⟨#[120]⟩ : ByteArray)], 9, false, 1⟩) hb1)
  refine p_none ⟨_, .refl _, CodeS g1 (br_t rfl fun b2 hb2 => ?_)⟩
  have g2 := g1.le (le_upd (o := ⟨[.string (⟨#[120]⟩ : ByteArray)], 9, false, 1⟩) hb2)
  refine p_none ⟨_, .refl _, o_some ⟨_, .refl _, CodeS g2 (br_t rfl (p_none ⟨_, .refl _, CodeS g2 (br_t rfl (p_none ⟨_, .refl _, p_none ⟨_, .refl _, p_none ⟨_, .refl _, _, .refl _, ?_⟩⟩⟩))⟩))⟩⟩
  have e : ((w64 ((w64 ((Sl.nil.len : Int) + 0)) + 0)) == 0) = true := by decide
  rw [e]; exact k _
theorem Last_loop {l : Sl} {q : Bool} {X : ByteArray} (hF : 100000 ≤ F) (hl : l.len = ss.length) (hr : H.row l.a (strc ss)) (h60 : ss.length ≤ 60) (h100 : ∀ s ∈ ss, s.size ≤ 100) (hg : H0.has (0, 0) (rtv 28)) (hx : H0.has (b4, 0) (.int .u8 x)) (hm : m.good 0 100000) (hd : m.down = false) (hX : X = ofL (flatS (ss.map bs))) (hlog : m.now.log = X)
    (c : Chain [jr bj bd ss X.size, dk bd m] H0 H) {K : Bool → SH → Prop} (k : ∀ H', K true H') :
    ∀ (j i f : Nat), ss.length - i = j → i ≤ ss.length → j < f → ladinglaw15_JournalLast.l1 F K f l q (some (bd, 0)) (some (bj, 0)) b4 (lastIs (isF x) ss).1 (lastIs (isF x) ss).2 (lastIs (isF x) (ss.take i)).1 (lastIs (isF x) (ss.take i)).2 l (ss.length : Int) (i : Int) H := by
  intro j
  induction j with
  | zero =>
    intro i f hj hi hf
    obtain ⟨f, rfl⟩ : ∃ i, f = i + 1 := ⟨f - 1, by omega⟩
    rw [List.take_of_length_le (by omega)]
    refine br_f (by omega) (p_some ⟨H, .refl H, br_t rfl (br_f (fun h => h rfl) (br_f (by simp) ?_))⟩)
    cases q with
    | false => exact br_f (by simp) (Last_none (hg.le c.le) k)
    | true =>
      refine br_t rfl ⟨by omega, by decide, fun b79 hb79 => ⟨List.replicate 60001 0, by rw [List.length_replicate]; rfl, ?_, fun b86 hb86 => ?_⟩⟩
      · rw [zeroB_eq]; exact row_upd rfl
      obtain ⟨H2, c2, _, l2⟩ := c.temp hb79 ⟨(Builtin.zeroCells (Value.cells (.int .u8 0 : Value)) (60001 : Int).toNat).toList, 5, false, (60001 : Int).toNat * 1⟩
      obtain ⟨H3, c3, t3, l3⟩ := c2.temp hb86 ⟨[.string (⟨#[97]⟩ : ByteArray), .string (⟨(List.replicate 60001 (0 : UInt8)).toArray⟩ : ByteArray), .string (⟨#[98]⟩ : ByteArray)], 9, false, 3⟩
      have hfl := flat_le h100
      have hz : (ofL (List.replicate 60001 0)).size = 60001 := by rw [ofL_size, List.length_replicate]
      have hr3 : SH.le H ((H.upd b79 ⟨(Builtin.zeroCells (Value.cells (.int .u8 0 : Value)) (60001 : Int).toNat).toList, 5, false, (60001 : Int).toNat * 1⟩).upd b86 ⟨[.string (⟨#[97]⟩ : ByteArray), .string (⟨(List.replicate 60001 (0 : UInt8)).toArray⟩ : ByteArray), .string (⟨#[98]⟩ : ByteArray)], 9, false, 3⟩) := (le_upd hb79).trans (le_upd hb86)
      refine JPut_long (s0 := ⟨#[97]⟩) (s1 := ofL (List.replicate 60001 0)) (s2 := ⟨#[98]⟩) (by omega) (by decide) (by rw [hz]; omega) rfl (row_upd rfl) ?_
      generalize (H.upd b79 ⟨(Builtin.zeroCells (Value.cells (.int .u8 0 : Value)) (60001 : Int).toNat).toList, 5, false, (60001 : Int).toNat * 1⟩).upd b86 ⟨[.string (⟨#[97]⟩ : ByteArray), .string (⟨(List.replicate 60001 (0 : UInt8)).toArray⟩ : ByteArray), .string (⟨#[98]⟩ : ByteArray)], 9, false, 3⟩ = G at *
      have hgG : G.has (0, 0) (rtv 28) := (hg.le c.le).le hr3
      obtain ⟨H4, j4, c4⟩ := c3
      have j4 : On (JrI bj bd ss X.size) H4 G := j4
      obtain ⟨H5, d5, _⟩ := c4
      have d5 : On (DiskI bd m) H5 H4 := d5
      refine CodeS hgG (br_f (fun h => h rfl) (JLen_spec j4 (br_f (fun h => h (by rw [hl])) (has15_spec (by omega) hl (hr.le hr3) (by omega) (by omega) (fun s hs => by have := h100 s hs; omega) (by omega) hd hlog hX (d5.above .disk j4.le) j4 fun H' hle => br_t rfl (Last_none (hgG.le hle) k)))))
  | succ j ih =>
    intro i f hj hi hf
    obtain ⟨f, rfl⟩ : ∃ i, f = i + 1 := ⟨f - 1, by omega⟩
    have hlt : i < ss.length := by omega
    have ih' := ih (i + 1) f (by omega) (by omega) (by omega)
    rw [List.take_succ_eq_append_getElem hlt, lastIs_snoc] at ih'
    refine br_t (by omega) (row_at hr (strc_get hlt) (by omega) fun p hp hh => ⟨ss[i], hh, isF_spec (hx.le c.le) ?_⟩)
    cases hq : isF x ss[i] with
    | true =>
      rw [hq, if_pos rfl] at ih'
      refine br_t rfl ?_
      show ladinglaw15_JournalLast.l1 F K f l q (some (bd, 0)) (some (bj, 0)) b4 _ _ ss[i] true l (ss.length : Int) (w64 ((i : Int) + 1)) H
      rw [w64_id (by omega), show (i : Int) + 1 = ((i + 1 : Nat) : Int) by omega]
      exact ih'
    | false =>
      rw [hq, if_neg (by simp)] at ih'
      refine br_f (by simp) ?_
      show ladinglaw15_JournalLast.l1 F K f l q (some (bd, 0)) (some (bj, 0)) b4 _ _ _ _ l (ss.length : Int) (w64 ((i : Int) + 1)) H
      rw [w64_id (by omega), show (i : Int) + 1 = ((i + 1 : Nat) : Int) by omega]
      exact ih'
theorem JournalLast_wp {l : Sl} {q : Bool} (hF : 100000 ≤ F) (hl : l.len = ss.length) (hr : H.row l.a (strc ss)) (hg : H.has (0, 0) (rtv 28)) : ladinglaw15_JournalLast.wp F l x q H (fun b _ => b = true) := by
  intro b4 hb4
  have l4 := le_upd (o := ⟨[.int .u8 x], 5, false, 1⟩) hb4
  have hh : (H.upd b4 ⟨[.int .u8 x], 5, false, 1⟩) b4 = some ⟨[.int .u8 x], 5, false, 1⟩ := SH.upd_same _ _ _
  generalize H.upd b4 ⟨[.int .u8 x], 5, false, 1⟩ = G at *
  refine awake15_spec (by omega) fun H1 hle => br_t rfl ?_
  have l1 := l4.trans hle
  refine great15 (by omega) hl (hr.le l1) (br_t rfl ⟨H1, .refl _, rfl⟩) fun h60 h100 => br_f (by simp) (New_spec (n := 0) (by decide) fun bd H2 d2 hbd => ?_)
  have hfl := flat_le h100
  have e0 : (DM.new 0).opened (flatS []).length = DM.new 0 := rfl
  refine Open_spec2 (ts := []) (rest := []) (by omega) new_has.good rfl rfl (by decide) (by show 0 < F; omega) rfl nextL_nil (by simp) d2 fun bj H3 c3 => ?_
  rw [e0] at c3
  have c4 : Chain [jr bj bd [] 0, dk bd (DM.new 0)] H1 H3 := c3
  have gn := (good_new (n := 0) (by omega)).append (s := ofL (flatS (ss.map bs)))
  refine o_none (JPut_spec (ss := ss) (by omega) new_has.good (by omega) hl (hr.le l1) (.refl _) (fun s hs => by have := h100 s hs; omega) (by omega) (by omega) (by simp) (by omega) (by omega) c4 (fun _ H4 c5 => o_none ?_) (fun h0 => absurd rfl h0))
  have hX : Has (ofL (flatS (ss.map bs))) ((DM.new 0).append (ofL (flatS (ss.map bs)))) := by
    have := new_has.append (Y := ofL (flatS (ss.map bs))) (gn.more (by rw [ofL_size]; omega))
    rwa [emp_app] at this
  rw [Nat.zero_add, List.nil_append] at c5
  have hXl : (flatS (ss.map bs)).length = (ofL (flatS (ss.map bs))).size := by rw [ofL_size]
  rw [hXl] at c5
  have hx1 : H1.has (b4, 0) (.int .u8 x) := ⟨_, hle _ _ hh, rfl⟩
  obtain ⟨H5, j5, c6⟩ := c5
  have j5 : On (JrI bj bd ss (ofL (flatS (ss.map bs))).size) H5 H4 := j5
  refine JLast_spec (by omega) (by omega) j5 (hx1.le (c6.le.trans j5.le)) ?_
  rw [hl]
  exact Last_loop (H0 := H1) hF hl (hr.le (l1.trans (c6.le.trans j5.le))) h60 h100 (hg.le l1) hx1 hX.good hX.down rfl hX.log ⟨H5, j5, c6⟩ (fun _ => rfl) ss.length 0 F (by omega) (by omega) (by omega)
end
set_option maxRecDepth 100000 in
open Go.RowKit Go.ChangeShapes Go.WideShapes Go.ChangeAt in
theorem JournalLast_walk {X : Prop} {H : Type} {enc : TypeId × Value → H} (W : World) (args : Array Value) (ds : List (DataW H)) (p : List MemPlace) (base : Nat)
    (hval : ∀ (j : Nat) t v, Tryd.f8.params[j]? = some t → args[j]? = some v → Value.okWide Tryd.prog W .any base t v) (hA : DataW.TrodAll enc Tryd.prog W 0 (fun _ => true) true Tryd.f8.params.toList args.toList ds p) (hfz : X)
    (hg : W.cell? ⟨0, 0, none⟩ = some (rtv 28)) :
    (∃ d d2 d3, ds = [d, d2, d3]) ∧ Calls Tryd.prog 8 args W fun e w' => e = .returned (.bool true) ∧ RowKit.Below W.heap.size W w' := by
  rw [Tryd.params8] at hA hval
  obtain ⟨v0, vs0, d0, ds0, p0, q0, hargs, rfl, rfl, h0, r0⟩ := trodAll_cons hA
  obtain ⟨v1, vs1, d1, ds1, p1, q1, rfl, rfl, rfl, h1, r1⟩ := trodAll_cons r0
  obtain ⟨v2, vs2, d2, ds2, p2, q2, rfl, rfl, rfl, h2, r2⟩ := trodAll_cons r1
  obtain ⟨rfl, rfl, rfl⟩ := trodAll_nil r2
  obtain rfl : args = #[v0, v1, v2] := by cases args; simp_all
  obtain ⟨l, ss, rfl, hl, _, hr, hs⟩ := arg_strs Tryd.underlying55 Tryd.underlying9 (by kernel_rfl) (hval 0 55 v0 rfl rfl) h0
  obtain ⟨x, rfl, rfl, rfl, hx⟩ := open_int Tryd.underlying5 (hval 1 5 v1 rfl rfl) h1
  obtain ⟨q, rfl⟩ := arg_bool Tryd.underlying4 (hval 2 4 v2 rfl rfl)
  refine ⟨⟨_, _, _, rfl⟩, ?_⟩
  have h := ladinglaw15_JournalLast.sound 100000 l x q (SH.of W) _ (JournalLast_wp (by omega) hl hr (SH.of_cell (p := (0, 0)) hg)) W (SH.of_sat W)
  refine h.mono ?_
  rintro e w' ⟨v, H', rfl, st, q, rfl, rfl⟩
  exact ⟨rfl, st.below fun b o hb => SH.of_ro hb⟩
end Go.Proofs.YtknhlipealekoaaDoor.K
