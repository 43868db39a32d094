/- The law MsgCuts: what it comes to. -/
import Derived.Test.YtkfbmoekghbgbaaSpecGet2
import Derived.Test.YtkfbmoekghbgbaaLawMsgSame
import Derived.Test.YtkfbmoekghbgbaaGladinglaw18MsgCuts
set_option linter.unusedVariables false
set_option linter.unusedSimpArgs false
namespace Go.Proofs.Ytkfbmoekghbgbaa.K
open Go

section
variable {F : Nat} {H : SH} {m : MM} {l : Sl}
theorem got_le {H : SH} {b : Nat} {o : AO} {vs : List Value} (hb : H b = none) : SH.le H (SH.setl (SH.upd H b o) (b, 0) vs) := (On.setl (On.new hb)).le
theorem got_on {H : SH} {b : Nat} {m' : MM} {l' : Sl} (hb : H b = none) : On (Blk b (mcell m' l')) H (SH.setl (SH.upd H b (mcell zeroM Sl.nil)) (b, 0) [.int .i64 m'.kind, .int .i64 m'.ver, .int .i64 m'.i, .string m'.text, sv l']) := On.setl (k := 0) (vs := [.int .i64 m'.kind, .int .i64 m'.ver, .int .i64 m'.i, .string m'.text, sv l']) (On.new hb)
theorem zero_wrs {H : SH} {b : Nat} : SH.wrs (SH.upd H b (mcell zeroM Sl.nil)) (b, 0) 5 := wrs_upd rfl (Nat.le_of_ble_eq_true rfl)
theorem Cuts_loop1 (hF : 70000 ≤ F) (hm : m.may = true) {G : SH} {b8 b68 : Nat} {l' : Sl} {s : ByteArray} (hs : s = ofL (sealL m.bytes)) (hG : G b8 = some (mcell m l)) (hin : MIn G m l) {K : Bool → SH → Prop} (k : ∀ H', K true H') :
    ∀ (j i f : Nat) (cs : List Value) (H : SH), m.proof.length - i = j → i ≤ m.proof.length → j < f → Chain [⟨Blk b68 (mcell m l'), .blk⟩, ⟨SlI STR 1 l' cs, .sl⟩] G H → cs.length = m.proof.length → ladinglaw18_MsgCuts.l1 F K f b8 s b68 none (m.proof.length : Int) (i : Int) H := by
  have hbl := bytes_len hm
  have h20 := (may_bounds hm).2.2.2.2.2.1
  intro j
  induction j with
  | zero =>
    intro i f cs H hj hi hf hc hcs
    obtain ⟨f, rfl⟩ : ∃ i, f = i + 1 := ⟨f - 1, by omega⟩
    have hGH := Chain.le hc
    refine br_f (by omega) (Get_spec hF (by rw [hs, ofL_size, sealL_len]; omega) (by rw [hs, ofL_size, sealL_len]; omega) ?_)
    rw [hs, bs_ofL, getP_seal hm]
    intro l2 Hr o b94 hb94
    have g := got_on (m' := m) (l' := l2) hb94
    have gl : SH.le G _ := (hGH.trans o.le).trans g.le
    have hin2 : MIn _ m l2 := MIn.le ⟨by have := o.len; rw [strc_len] at this; omega, o.row⟩ g.le
    refine ⟨zero_wrs, o_none (o_none ⟨m.kind, m.ver, m.i, m.text, l2, mrow (On.blk.1 g).2.2, m.kind, m.ver, m.i, m.text, l, mrow (gl _ _ hG), (MSame_spec (by omega) hin2 (hin.le gl) (by omega) (fun q hq => ?_)).2⟩)⟩
    obtain rfl : q = true := hq.2 rfl
    exact ⟨_, .refl _, k _⟩
  | succ j ih =>
    intro i f cs H hj hi hf hc hcs
    obtain ⟨f, rfl⟩ : ∃ i, f = i + 1 := ⟨f - 1, by omega⟩
    have hc0 := hc
    obtain ⟨H1, h1, h2⟩ := hc0
    have h1 : On (Blk b68 (mcell m l')) H1 H := h1
    obtain ⟨G1, g1, g2⟩ := Chain.pull [⟨Blk b68 (mcell m l'), .blk⟩] hc
    have g1 : On (SlI STR 1 l' cs) G1 H := g1
    have hl := g1.len
    obtain ⟨p, hp⟩ : ∃ p, l'.a = some p := by
      obtain ⟨_, _, ⟨_, h3⟩, _⟩ := g1
      rcases h3 with ⟨_, h0, _⟩ | ⟨b, pre, ha, _⟩
      · omega
      · exact ⟨_, ha⟩
    obtain ⟨w, o⟩ := g1.put (k := i) (vs := [.string (⟨#[116, 117, 114, 110, 101, 100]⟩ : ByteArray)]) (by simp; omega) hp
    refine br_t (by omega) ⟨l', h1.has rfl, p, hp, by omega, by omega, ?_⟩
    rw [show (i : Int).toNat * 1 = i by omega, w64_id (by omega), show (i : Int) + 1 = ((i + 1 : Nat) : Int) by omega]
    refine ⟨w, ih (i + 1) f (wrl cs i [.string (⟨#[116, 117, 114, 110, 101, 100]⟩ : ByteArray)]) _ (by omega) (by omega) (by omega) ?_ ?_⟩
    · have c : Chain ([⟨SlI STR 1 l' (wrl cs i [.string (⟨#[116, 117, 114, 110, 101, 100]⟩ : ByteArray)]), .sl⟩] ++ (⟨Blk b68 (mcell m l'), .blk⟩ : LP) :: []) G _ := ⟨G1, o, g2⟩
      exact Chain.pull _ c
    · unfold wrl; simp; omega
theorem Cuts_loop2 (hF : 70000 ≤ F) (hm : m.may = true) {G : SH} {b8 b68 : Nat} {l' : Sl} {s : ByteArray} (hs : s = ofL (sealL m.bytes)) (hG : G b8 = some (mcell m l)) (hin : MIn G m l) {K : Bool → SH → Prop} (k : ∀ H', K true H') :
    ∀ (j i f : Nat) (cs : List Value) (H : SH), m.proof.length - i = j → i ≤ m.proof.length → j < f → Chain [⟨Blk b68 (mcell m l'), .blk⟩, ⟨SlI STR 1 l' cs, .sl⟩] G H → cs.length = m.proof.length → ladinglaw18_MsgCuts.l2 F K f b8 s b68 none (m.proof.length : Int) (i : Int) H := by
  have hbl := bytes_len hm
  have h20 := (may_bounds hm).2.2.2.2.2.1
  intro j
  induction j with
  | zero =>
    intro i f cs H hj hi hf hc hcs
    obtain ⟨f, rfl⟩ : ∃ i, f = i + 1 := ⟨f - 1, by omega⟩
    have hGH := Chain.le hc
    refine br_f (by omega) (Get_spec hF (by rw [hs, ofL_size, sealL_len]; omega) (by rw [hs, ofL_size, sealL_len]; omega) ?_)
    rw [hs, bs_ofL, getP_seal hm]
    intro l2 Hr o b94 hb94
    have g := got_on (m' := m) (l' := l2) hb94
    have gl : SH.le G _ := (hGH.trans o.le).trans g.le
    have hin2 : MIn _ m l2 := MIn.le ⟨by have := o.len; rw [strc_len] at this; omega, o.row⟩ g.le
    refine ⟨zero_wrs, o_none (o_none ⟨m.kind, m.ver, m.i, m.text, l2, mrow (On.blk.1 g).2.2, m.kind, m.ver, m.i, m.text, l, mrow (gl _ _ hG), (MSame_spec (by omega) hin2 (hin.le gl) (by omega) (fun q hq => ?_)).2⟩)⟩
    obtain rfl : q = true := hq.2 rfl
    exact ⟨_, .refl _, k _⟩
  | succ j ih =>
    intro i f cs H hj hi hf hc hcs
    obtain ⟨f, rfl⟩ : ∃ i, f = i + 1 := ⟨f - 1, by omega⟩
    have hc0 := hc
    obtain ⟨H1, h1, h2⟩ := hc0
    have h1 : On (Blk b68 (mcell m l')) H1 H := h1
    obtain ⟨G1, g1, g2⟩ := Chain.pull [⟨Blk b68 (mcell m l'), .blk⟩] hc
    have g1 : On (SlI STR 1 l' cs) G1 H := g1
    have hl := g1.len
    obtain ⟨p, hp⟩ : ∃ p, l'.a = some p := by
      obtain ⟨_, _, ⟨_, h3⟩, _⟩ := g1
      rcases h3 with ⟨_, h0, _⟩ | ⟨b, pre, ha, _⟩
      · omega
      · exact ⟨_, ha⟩
    obtain ⟨w, o⟩ := g1.put (k := i) (vs := [.string (⟨#[116, 117, 114, 110, 101, 100]⟩ : ByteArray)]) (by simp; omega) hp
    refine br_t (by omega) ⟨l', h1.has rfl, p, hp, by omega, by omega, ?_⟩
    rw [show (i : Int).toNat * 1 = i by omega, w64_id (by omega), show (i : Int) + 1 = ((i + 1 : Nat) : Int) by omega]
    refine ⟨w, ih (i + 1) f (wrl cs i [.string (⟨#[116, 117, 114, 110, 101, 100]⟩ : ByteArray)]) _ (by omega) (by omega) (by omega) ?_ ?_⟩
    · have c : Chain ([⟨SlI STR 1 l' (wrl cs i [.string (⟨#[116, 117, 114, 110, 101, 100]⟩ : ByteArray)]), .sl⟩] ++ (⟨Blk b68 (mcell m l'), .blk⟩ : LP) :: []) G _ := ⟨G1, o, g2⟩
      exact Chain.pull _ c
    · unfold wrl; simp; omega
theorem MsgCuts_wp (hF : 70000 ≤ F) {x : Int} (hx : 0 ≤ x ∧ x ≤ 65535) {more : ByteArray} (h : MIn H m l) : ladinglaw18_MsgCuts.wp F m.kind m.ver m.i m.text l x more H (fun b _ => b = true) := by
  refine fun b8 hb8 => ?_
  obtain ⟨HH, e⟩ : ∃ HH, HH = H.upd b8 (mcell m l) := ⟨_, rfl⟩
  have g8 : HH b8 = some (mcell m l) := by rw [e, SH.upd_same]
  have hle : SH.le H HH := by rw [e]; exact le_upd hb8
  have hin := h.le hle
  show ladinglaw18_awake.wp F (H.upd b8 (mcell m l)) _
  rw [← e]
  refine awake18_spec hF (br_t rfl ⟨m.kind, m.ver, m.i, m.text, l, mrow g8, Great_spec (by omega) hin (br_t rfl ⟨HH, .refl _, rfl⟩) fun hp => br_f (by simp) ⟨fun _ => ⟨HH, .refl _, rfl⟩, fun c100 => ⟨m.kind, m.ver, m.i, m.text, l, mrow g8, ?_⟩⟩⟩)
  cases hm : m.may with
  | false => exact MPut_bad (by omega) (by omega) hin hm (o_some ⟨HH, .refl _, rfl⟩)
  | true =>
    have hbl := bytes_len hm
    have hsz : (ofL (sealL m.bytes)).size = m.bytes.length + 6 := by rw [ofL_size, sealL_len]
    refine MPut_spec hF hin hm (o_none ?_)
    have hx64 : w64 x = x := w64_id (by omega)
    rw [hx64, Int.tmod_eq_emod_of_nonneg hx.1]
    have hr1 := Int.emod_nonneg x (b := ((ofL (sealL m.bytes)).size : Int)) (by omega)
    have hr2 := Int.emod_lt_of_pos x (b := ((ofL (sealL m.bytes)).size : Int)) (by omega)
    obtain ⟨k, hk⟩ := Int.eq_ofNat_of_zero_le hr1
    rw [hk] at hr2 ⊢
    have ecut : bs ((ofL (sealL m.bytes)).extract (0 : Int).toNat ((k : Int)).toNat) = (sealL m.bytes).take k := by
      rw [bs_extract, bs_ofL]; simp
    have scut : ((ofL (sealL m.bytes)).extract (0 : Int).toNat ((k : Int)).toNat).size ≤ 10000 := by
      rw [← bs_len, ecut, List.length_take, sealL_len]; omega
    refine ⟨by omega, by omega, by omega, by omega, Get_spec hF (by omega) (by omega) ?_⟩
    rw [ecut, getP_cut hm (by omega)]
    intro b44 hb44
    refine ⟨zero_wrs, o_some ?_⟩
    have l1 := got_le (o := mcell zeroM Sl.nil) (vs := [.int .i64 0, .int .i64 0, .int .i64 0, .string ByteArray.empty, sv Sl.nil]) hb44
    refine ⟨by omega, ?_⟩
    have last : ∀ (G2 : SH), SH.le HH G2 → GetK (fun x61 x62 x63 s64 l65 e66 H67 => ∀ b68, H67 b68 = none →
        SH.wrs (SH.upd H67 b68 (mcell zeroM Sl.nil)) (b68, 0) 5 ∧ ∃ (l71 : Sl), SH.has (SH.setl (SH.upd H67 b68 (mcell zeroM Sl.nil)) (b68, 0) [.int .i64 x61, .int .i64 x62, .int .i64 x63, .string s64, sv l65]) (b68, 4) (sv l71) ∧
        ladinglaw18_MsgCuts.l1 F (fun b _ => b = true) F b8 (ofL (sealL m.bytes)) b68 e66 (l71.len : Int) 0 (SH.setl (SH.upd H67 b68 (mcell zeroM Sl.nil)) (b68, 0) [.int .i64 x61, .int .i64 x62, .int .i64 x63, .string s64, sv l65])) G2 (getP (sealL m.bytes)) ∧ GetK (fun x61 x62 x63 s64 l65 e66 H67 => ∀ b68, H67 b68 = none →
        SH.wrs (SH.upd H67 b68 (mcell zeroM Sl.nil)) (b68, 0) 5 ∧ ∃ (l71 : Sl), SH.has (SH.setl (SH.upd H67 b68 (mcell zeroM Sl.nil)) (b68, 0) [.int .i64 x61, .int .i64 x62, .int .i64 x63, .string s64, sv l65]) (b68, 4) (sv l71) ∧
        ladinglaw18_MsgCuts.l2 F (fun b _ => b = true) F b8 (ofL (sealL m.bytes)) b68 e66 (l71.len : Int) 0 (SH.setl (SH.upd H67 b68 (mcell zeroM Sl.nil)) (b68, 0) [.int .i64 x61, .int .i64 x62, .int .i64 x63, .string s64, sv l65])) G2 (getP (sealL m.bytes)) := fun G2 hG2 => by
      rw [getP_seal hm]
      have key : ∀ (l' : Sl) (Hr : SH), On (SlI STR 1 l' (strc m.proof)) G2 Hr → ∀ b68, Hr b68 = none → l'.len = m.proof.length ∧ Chain [⟨Blk b68 (mcell m l'), .blk⟩, ⟨SlI STR 1 l' (strc m.proof), .sl⟩] G2 (SH.setl (SH.upd Hr b68 (mcell zeroM Sl.nil)) (b68, 0) [.int .i64 m.kind, .int .i64 m.ver, .int .i64 m.i, .string m.text, sv l']) ∧
          SH.has (SH.setl (SH.upd Hr b68 (mcell zeroM Sl.nil)) (b68, 0) [.int .i64 m.kind, .int .i64 m.ver, .int .i64 m.i, .string m.text, sv l']) (b68, 4) (sv l') := fun l' Hr o b68 hb68 => by
        have g := got_on (m' := m) (l' := l') hb68
        have := o.len
        rw [strc_len] at this
        exact ⟨by omega, ⟨Hr, g, G2, o, .refl _⟩, g.has rfl⟩
      refine ⟨fun l' Hr o b68 hb68 => ?_, fun l' Hr o b68 hb68 => ?_⟩
      · obtain ⟨k1, k2, k3⟩ := key l' Hr o b68 hb68
        refine ⟨zero_wrs, l', k3, ?_⟩
        rw [k1]
        exact Cuts_loop1 hF hm rfl (hG2 _ _ g8) (hin.le hG2) (fun _ => rfl) m.proof.length 0 F (strc m.proof) _ (by omega) (by omega) (by have := (may_bounds hm).2.2.2.2.2.1; omega) k2 (strc_len _)
      · obtain ⟨k1, k2, k3⟩ := key l' Hr o b68 hb68
        refine ⟨zero_wrs, l', k3, ?_⟩
        rw [k1]
        exact Cuts_loop2 hF hm rfl (hG2 _ _ g8) (hin.le hG2) (fun _ => rfl) m.proof.length 0 F (strc m.proof) _ (by omega) (by omega) (by have := (may_bounds hm).2.2.2.2.2.1; omega) k2 (strc_len _)
    have hms : (ofL (sealL m.bytes) ++ more).size ≤ 10000 := by rw [ByteArray.size_append]; omega
    refine Get_spec hF (by omega) (by omega) ?_
    rw [bs_append, bs_ofL]
    by_cases hmo : more = ByteArray.empty
    · rw [hmo, bs_empty, List.append_nil, getP_seal hm]
      intro l3 Hr o b56 hb56
      have l2 := got_on (m' := m) (l' := l3) hb56
      refine ⟨zero_wrs, o_none (br_f (by simp) (Get_spec hF (by omega) (by omega) ?_))⟩
      rw [bs_ofL]
      exact (last _ ((l1.trans o.le).trans l2.le)).1
    · have hne : bs more ≠ [] := fun hh => hmo (by rw [← ofL_bs more, hh]; rfl)
      rw [getP_more hm hne]
      intro b56 hb56
      have l2 := got_le (o := mcell zeroM Sl.nil) (vs := [.int .i64 0, .int .i64 0, .int .i64 0, .string ByteArray.empty, sv Sl.nil]) hb56
      refine ⟨zero_wrs, o_some (br_f (by simp [hmo]) (Get_spec hF (by omega) (by omega) ?_))⟩
      rw [bs_ofL]
      exact (last _ (l1.trans l2)).2
end
set_option maxRecDepth 100000 in
open Go.RowKit Go.ChangeShapes Go.WideShapes Go.ChangeAt in
theorem MsgCuts_walk {X : Prop} {H : Type} {enc : TypeId × Value → H} (W : World) (args : Array Value) (ds : List (DataW H)) (p : List MemPlace) (base : Nat)
    (hval : ∀ (j : Nat) t v, Try.f6.params[j]? = some t → args[j]? = some v → Value.okWide Try.prog W .any base t v) (hA : DataW.TrodAll enc Try.prog W 0 (fun _ => true) true Try.f6.params.toList args.toList ds p) (hfz : X) :
    (∃ d d2 d3, ds = [d, d2, d3]) ∧ Calls Try.prog 6 args W fun e w' => e = .returned (.bool true) ∧ RowKit.Below W.heap.size W w' := by
  rw [Try.params6] at hA hval
  obtain ⟨v0, vs0, d0, ds0, p0, q0, hargs, rfl, rfl, h0, r0⟩ := trodAll_cons hA
  obtain ⟨v1, vs1, d1, ds1, p1, q1, rfl, rfl, rfl, h1, r1⟩ := trodAll_cons r0
  obtain ⟨v2, vs2, d2, ds2, p2, q2, rfl, rfl, rfl, h2, r2⟩ := trodAll_cons r1
  obtain ⟨rfl, rfl, rfl⟩ := trodAll_nil r2
  obtain rfl : args = #[v0, v1, v2] := by cases args; simp_all
  obtain ⟨m, l, rfl, hm⟩ := arg_msg (hval 0 24 v0 rfl rfl) h0
  obtain ⟨x, rfl, rfl, rfl, hx⟩ := open_int Try.underlying57 (hval 1 57 v1 rfl rfl) h1
  obtain ⟨s, rfl, rfl, rfl, hs⟩ := Go.ChangeMaps.open_string Try.underlying9 (hval 2 9 v2 rfl rfl) h2
  have hxr := lit_range hx
  have hxr : 0 ≤ x ∧ x ≤ 65535 := hxr
  refine ⟨⟨_, _, _, rfl⟩, ?_⟩
  have h := ladinglaw18_MsgCuts.sound 70000 m.kind m.ver m.i m.text l x s (SH.of W) _ (MsgCuts_wp (by omega) hxr hm) W (SH.of_sat W)
  refine h.mono ?_
  rintro e w' ⟨v, H', rfl, st, q, rfl, rfl⟩
  exact ⟨rfl, st.below fun b o hb => SH.of_ro hb⟩
end Go.Proofs.Ytkfbmoekghbgbaa.K
