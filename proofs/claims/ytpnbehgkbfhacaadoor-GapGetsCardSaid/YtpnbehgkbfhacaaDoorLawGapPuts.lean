/- The law GapPuts: any targets of any node have the bytes that the document says, or why not, and where, and come back from them. -/
import Derived.Test.YtpnbehgkbfhacaaDoorSpecRef6b
import Derived.Test.YtpnbehgkbfhacaaDoorGlaw06
import Derived.Test.YtpnbehgkbfhacaaDoorApi2
import Derived.Test.YtpnbehgkbfhacaaDoorArgs
set_option linter.unusedVariables false
set_option linter.unusedSimpArgs false
namespace Go.Proofs.YtpnbehgkbfhacaaDoor.K
open Go
theorem o_noneT {α : Type} {A : Prop} {B : α → Prop} (h : A) : (True → A) ∧ (∀ v, (none : Option α) = some v → B v) := ⟨fun _ => h, fun _ e => (nomatch e)⟩
theorem CodeG {F : Nat} {e : Option EV} {H : SH} {K : Int → SH → Prop} (hg : H.has (0, 0) (rtv 24)) (h : K (codeV e) H) : api_Code.wp F e H K := ⟨hg, h⟩
theorem PlaceG {F : Nat} {e : Option EV} {H : SH} {K : Int → SH → Prop} (hg : H.has (0, 0) (rtv 24)) (h : K (placeV e) H) : api_Place.wp F e H K := ⟨hg, h⟩
theorem awakeD06_spec {F : Nat} (hF : 5000 ≤ F) {H : SH} {K : Bool → SH → Prop} (h : K true H) : ladinglaw06_awake.wp F H K := by
  intro b hb
  refine Put_spec hF (l := [3, 4, 7]) rfl (row_upd rfl) (by omega) (by omega) (by omega) (show (3 : Nat) < F by omega) (by simp) ?_
  have hw : wrongG 10 0 (-1) [3, 4, 7] = none := by decide
  rw [hw]
  refine br_t ?_ (o_none ⟨H, le_upd hb, h⟩)
  have e1 : shortL 3 = [3] := by rw [shortL_one (by omega)]; rfl
  have e2 : shortL 1 = [1] := by rw [shortL_one (by omega)]; rfl
  have e3 : shortL 0 = [0] := by rw [shortL_one (by omega)]; rfl
  have e4 : shortL 2 = [2] := by rw [shortL_one (by omega)]; rfl
  have : putG 4 [3, 4, 7] = [3, 1, 0, 2] := by
    have f1 : (turnZ (3 - 4)).toNat = 1 := by decide
    have f2 : ((4 : Int) - 3 - 1).toNat = 0 := by decide
    have f3 : ((7 : Int) - 4 - 1).toNat = 2 := by decide
    simp only [putG, putR, if_true, Bool.false_eq_true, if_false, List.length_cons, List.length_nil, f1, f2, f3, e1, e2, e3, e4]; rfl
  rw [this]; rfl
theorem GapPuts_wp {F : Nat} (hF : 5000 ≤ F) {nodes v : Int} {sl : Sl} {l : List Int} (ah be : ByteArray) {H : SH} (hg0 : H.has (0, 0) (rtv 24)) (hl : sl.len = l.length) (hr0 : H.row sl.a (intCells l)) : ladinglaw06_GapPuts.wp F nodes v sl ah be H (fun b _ => b = true) := by
  intro b6 hb6
  have k0 : (H.upd b6 ⟨[sv sl, .string ah, .string be], 71, false, 3⟩).has (b6, 0) (sv sl) := has_upd rfl
  have k1 : (H.upd b6 ⟨[sv sl, .string ah, .string be], 71, false, 3⟩).has (b6, 1) (.string ah) := has_upd rfl
  have k2 : (H.upd b6 ⟨[sv sl, .string ah, .string be], 71, false, 3⟩).has (b6, 2) (.string be) := has_upd rfl
  have hg := hg0.le (le_upd (o := (⟨[sv sl, .string ah, .string be], 71, false, 3⟩ : AO)) hb6)
  have hr := hr0.le (le_upd (o := (⟨[sv sl, .string ah, .string be], 71, false, 3⟩ : AO)) hb6)
  generalize (H.upd b6 ⟨[sv sl, .string ah, .string be], 71, false, 3⟩) = G at k0 k1 k2 hg hr
  refine awakeD06_spec hF (br_t rfl ⟨sl, k0, ⟨fun _ => ⟨G, .refl G, rfl⟩, fun c1 => ⟨ah, k1, ⟨fun _ => ⟨G, .refl G, rfl⟩, fun c2 => ⟨be, k2, ⟨fun _ => ⟨G, .refl G, rfl⟩, fun c3 => ⟨sl, k0, ?_⟩⟩⟩⟩⟩⟩⟩)
  have hll : l.length ≤ 300 := by omega
  by_cases hn : nodes < 0 ∨ nodes > 4096
  · have hm : mayV nodes v = 1 := if_pos hn
    refine Put_bad1 hn ⟨sl, k0, Put_bad1 hn ⟨G, .refl G, br_f (fun h => h rfl) (refMay_spec ?_)⟩⟩
    rw [hm]
    exact br_t (by omega) (br_t rfl (CodeG hg (br_t rfl (PlaceG hg ⟨G, .refl G, rfl⟩))))
  by_cases hv : v < 0 ∨ v ≥ nodes
  · have hm : mayV nodes v = 2 := by unfold mayV; rw [if_neg hn, if_pos hv]
    refine Put_bad2 (by omega) (by omega) hv ⟨sl, k0, Put_bad2 (by omega) (by omega) hv ⟨G, .refl G, br_f (fun h => h rfl) (refMay_spec ?_)⟩⟩
    rw [hm]
    exact br_t (by omega) (br_t rfl (CodeG hg (br_t rfl (PlaceG hg ⟨G, .refl G, rfl⟩))))
  have hm : mayV nodes v = 0 := by unfold mayV; rw [if_neg hn, if_neg hv]
  refine Put_spec hF hl hr (by omega) (by omega) (by omega) (by omega) (by omega) ?_
  cases hw : wrongG nodes 0 (-1) l with
  | some j =>
    refine ⟨sl, k0, Put_spec hF hl hr (by omega) (by omega) (by omega) (by omega) (by omega) ?_⟩
    rw [hw]
    refine ⟨G, .refl G, br_f (fun h => h rfl) (refMay_spec ?_)⟩
    rw [hm]
    refine br_f (by omega) ⟨sl, k0, refWrong_spec hl hr (by omega) (by omega) ?_⟩
    rw [hw]
    exact br_t (by simp [wrongV]) (br_t rfl (CodeG hg (br_t rfl (PlaceG hg ⟨G, .refl G, by simp [placeV, EV.mk, erAt, wrongV]⟩))))
  | none =>
    have hu := (wrongG_none l 0 (-1)).1 hw
    have hlen := upG_len l (-1) hu (by omega)
    refine ⟨sl, k0, Put_spec hF hl hr (by omega) (by omega) (by omega) (by omega) (by omega) ?_⟩
    rw [hw]
    refine ⟨G, .refl G, br_f (fun h => h rfl) (refMay_spec ?_)⟩
    rw [hm]
    refine br_f (by omega) ⟨sl, k0, refWrong_spec hl hr (by omega) (by omega) ?_⟩
    rw [hw]
    refine br_f (by simp [wrongV]) ?_
    have hsz : ∀ a b : ByteArray, (a ++ b).size = a.size + b.size := fun a b => by rw [← bs_len, bs_append, List.length_append, bs_len, bs_len]
    have hshort := shortL_len2 (x := l.length) (by omega)
    have hput : ∀ (l : List Int) (first : Bool) (now : Int), 0 ≤ now → now < nodes → upG nodes (if first then -1 else now) l → (putR first now l).length ≤ 2 * l.length := by
      intro l
      induction l with
      | nil => intro first now _ _ _; simp [putR]
      | cons t l ih =>
        intro first now h0 h1 hu
        have ht0 : 0 ≤ t := by have := hu.1; cases first <;> simp at this <;> omega
        have h2 := ih false t ht0 hu.2.1 hu.2.2
        have h3 : (shortL (if first then turnZ (t - now) else t - now - 1).toNat).length ≤ 2 := by
          refine shortL_len2 ?_
          have := hu.1
          cases first with
          | true => simp only [if_true]; have h4 := hu.2.1; unfold turnZ; split <;> omega
          | false => simp only [Bool.false_eq_true, if_false] at this ⊢; have h4 := hu.2.1; omega
        simp only [putR, List.length_append, List.length_cons]; omega
    have hp2 := hput l true v (by omega) (by omega) (by simpa using hu)
    have hglen : (putG v l).length ≤ 602 := by simp only [putG, List.length_append]; omega
    have hall : bs (ah ++ ofL (putG v l) ++ be) = bs ah ++ putG v l ++ bs be := by rw [bs_append, bs_append, bs_ofL]
    have hasz : (ah ++ ofL (putG v l) ++ be).size = ah.size + (putG v l).length + be.size := by rw [hsz, hsz, ofL_size]
    refine ⟨ah, k1, by rw [ofL_size]; omega, be, k2, by rw [hsz, ofL_size]; omega, ah, k1, ?_⟩
    have hc : countG (bs (ah ++ ofL (putG v l) ++ be)) ah.size nodes = .ok (l.length, ah.size + (shortL l.length).length) := by
      have hr : readL ((bs (ah ++ ofL (putG v l) ++ be)).drop ah.size) 0 0 = .ok l.length (shortL l.length).length := by
        rw [hall, ← bs_len ah, List.append_assoc, List.drop_left]
        unfold putG
        rw [List.append_assoc]
        exact readL_short (by omega) _
      unfold countG
      rw [hr]
      simp only
      rw [if_neg (by omega)]
    have hgot : getG (bs (ah ++ ofL (putG v l) ++ be)) nodes l.length true v (ah.size + (shortL l.length).length) = .ok (l, ah.size + (putG v l).length) := by
      have := getG_put (nodes := nodes) (by omega) l true v (bs ah ++ shortL l.length) (bs be) (by omega) (by omega) (by simpa using hu)
      rw [List.length_append, bs_len] at this
      have e : bs (ah ++ ofL (putG v l) ++ be) = bs ah ++ shortL l.length ++ putR true v l ++ bs be := by rw [hall]; simp [putG]
      rw [e, this]
      congr 2
      simp only [putG, List.length_append]; omega
    have hskip := skipG_of_get _ _ _ _ _ _ hgot
    refine Get_spec hF (by omega) (by omega) (by omega) (by omega) (by omega) ?_
    unfold GetK
    rw [hc]
    simp only
    rw [hgot]
    intro gl G' ho
    rw [List.nil_append] at ho
    have k0' := k0.le ho.le
    have k1' := k1.le ho.le
    have hgl : gl.len = l.length := by have := ho.len; simp [intCells] at this; omega
    refine ⟨ah, k1', Skip_spec hF (by omega) (by omega) (by omega) (by omega) ?_⟩
    unfold SkipK
    rw [hc]
    simp only
    rw [hskip]
    refine ⟨ah, k1', Count_spec (by omega) (by omega) (by omega) (by omega) (by omega) ?_⟩
    rw [hc]
    refine ⟨sl, k0', refPut_spec hF hl (hr.le ho.le) (by omega) (by omega) (by omega) hu ?_⟩
    refine br_t rfl (o_noneT (o_noneT ⟨sl, k0', Ints_spec hgl hl ho.row (hr.le ho.le) (by omega) (by omega) ?_⟩))
    rw [decide_eq_true rfl]
    refine br_t rfl ⟨ah, k1', br_t ?_ (o_none (br_t rfl (o_none ⟨sl, k0', G', .refl G', ?_⟩)))⟩
    · rw [ofL_size, w64_id (by omega)]; omega
    · rw [hl]; simp
set_option maxRecDepth 100000 in
open Go.RowKit Go.ChangeShapes Go.WideShapes Go.ChangeAt in
theorem GapPuts_walk {X : Prop} {H : Type} {enc : TypeId × Value → H} (W : World) (args : Array Value) (ds : List (DataW H)) (p : List MemPlace) (base : Nat)
    (hval : ∀ (j : Nat) t v, Tryd.f8.params[j]? = some t → args[j]? = some v → Value.okWide Tryd.prog W .any base t v) (hA : DataW.TrodAll enc Tryd.prog W 0 (fun _ => true) true Tryd.f8.params.toList args.toList ds p) (hfz : X)
    (hg : W.cell? ⟨0, 0, none⟩ = some (rtv 24)) :
    (∃ d d2 d3, ds = [d, d2, d3]) ∧ Calls Tryd.prog 8 args W fun e w' => e = .returned (.bool true) ∧ RowKit.Below W.heap.size W w' := by
  rw [Tryd.params8] at hA hval
  obtain ⟨v0, vs0, d0, ds0, p0, q0, hargs, rfl, rfl, h0, r0⟩ := trodAll_cons hA
  obtain ⟨v1, vs1, d1, ds1, p1, q1, rfl, rfl, rfl, h1, r1⟩ := trodAll_cons r0
  obtain ⟨v2, vs2, d2, ds2, p2, q2, rfl, rfl, rfl, h2, r2⟩ := trodAll_cons r1
  obtain ⟨rfl, rfl, rfl⟩ := trodAll_nil r2
  obtain rfl : args = #[v0, v1, v2] := by cases args; simp_all
  obtain ⟨n, rfl, rfl, rfl, hn⟩ := open_int Tryd.underlying3 (hval 0 3 v0 rfl rfl) h0
  obtain ⟨v, rfl, rfl, rfl, hv⟩ := open_int Tryd.underlying3 (hval 1 3 v1 rfl rfl) h1
  obtain ⟨cs, e2, hlen, hcell⟩ := arg_agg (ts := [56, 9, 9]) (.inr ⟨_, Tryd.underlying71⟩) (by kernel_rfl) (by kernel_rfl) (hval 2 71 v2 rfl rfl)
  obtain ⟨c0, c1, c2, y0, y1, y2, m, e3, rfl, _, t0, t1, t2⟩ := Go.Joins.open_agg3 Tryd.underlying71 (by kernel_rfl) (by kernel_rfl) (hval 2 71 v2 rfl rfl) h2
  obtain rfl : cs = [c0, c1, c2] := by
    rw [e3] at e2
    injection e2 with e2
    have := congrArg Array.toList e2
    simpa using this.symm
  subst e3
  obtain ⟨sl, l, rfl, hl, _, hr, _⟩ := cell_ints Tryd.underlying56 Tryd.underlying3 (by kernel_rfl) (hcell 0 c0 56 rfl rfl) t0
  obtain ⟨s0, rfl, g0⟩ := cell_str Tryd.underlying9 (hcell 1 c1 9 rfl rfl)
  obtain ⟨s1, rfl, g1⟩ := cell_str Tryd.underlying9 (hcell 2 c2 9 rfl rfl)
  refine ⟨⟨_, _, _, rfl⟩, ?_⟩
  have h := ladinglaw06_GapPuts.sound 5000 n v sl s0 s1 (SH.of W) _ (GapPuts_wp (by omega) s0 s1 (SH.of_cell (p := (0, 0)) hg) hl hr) W (SH.of_sat W)
  refine h.mono ?_
  rintro e w' ⟨v, H', rfl, st, q, rfl, rfl⟩
  exact ⟨rfl, st.below fun b o hb => SH.of_ro hb⟩
end Go.Proofs.YtpnbehgkbfhacaaDoor.K
