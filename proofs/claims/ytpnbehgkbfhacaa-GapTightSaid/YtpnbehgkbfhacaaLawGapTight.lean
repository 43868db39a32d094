/- The law GapTight: all that is got may be a row's, and, put again, has just the bytes that were gone over. -/
import Derived.Test.YtpnbehgkbfhacaaSpecGap2
import Derived.Test.YtpnbehgkbfhacaaGlaw1
import Derived.Test.YtpnbehgkbfhacaaArgs
set_option linter.unusedVariables false
set_option linter.unusedSimpArgs false
namespace Go.Proofs.Ytpnbehgkbfhacaa.K
open Go
theorem awake06_spec {F : Nat} (hF : 5000 ≤ F) {H : SH} {K : Bool → SH → Prop} (h : K true H) : ladinglaw06_awake.wp F H K := by
  intro b hb
  refine Put_spec hF (l := [3, 4, 7]) rfl (row_upd rfl) (by omega) (by omega) (by omega) (show (3 : Nat) < F by omega) (by simp) ?_
  have hw : wrongG 10 0 (-1) [3, 4, 7] = none := by decide
  rw [hw]
  refine br_t ?_ (o_none ⟨H, le_upd hb, h⟩)
  have e1 : shortL 3 = [3] := by rw [shortL_one (by omega)]; rfl
  have e2 : shortL 1 = [1] := by rw [shortL_one (by omega)]; rfl
  have e3 : shortL 0 = [0] := by rw [shortL_one (by omega)]; rfl
  have e4 : shortL 2 = [2] := by rw [shortL_one (by omega)]; rfl
  have : putG 4 [3, 4, 7] = [3, 1, 0, 2] := by
    have f1 : (turnZ (3 - 4)).toNat = 1 := by decide
    have f2 : ((4 : Int) - 3 - 1).toNat = 0 := by decide
    have f3 : ((7 : Int) - 4 - 1).toNat = 2 := by decide
    simp only [putG, putR, if_true, Bool.false_eq_true, if_false, List.length_cons, List.length_nil, f1, f2, f3, e1, e2, e3, e4]; rfl
  rw [this]; rfl
theorem GapTight_wp {F : Nat} (hF : 5000 ≤ F) {s : ByteArray} {nodes v : Int} (hn0 : 0 ≤ nodes) (hn1 : nodes ≤ 65535) (hv0 : 0 ≤ v) (hv1 : v ≤ 65535) (H : SH) : ladinglaw06_GapTight.wp F s nodes v H (fun b _ => b = true) := by
  refine awake06_spec hF (br_t rfl ⟨fun c => ⟨H, .refl H, rfl⟩, fun c => ?_⟩)
  rw [w64_id (x := nodes) (by omega), w64_id (x := v) (by omega)]
  have bad : ∀ e : EV, (some e = none → ladinglaw06_GapTight.l1 F (fun b _ => b = true) F s nodes v Sl.nil (0 : Int) Sl.nil ((Sl.nil.len : Nat) : Int) 0 H) ∧ (∀ v12, some e = some v12 →
      (((Sl.nil.len : Nat) : Int) = 0 → ∃ Hr, SH.le Hr H ∧ (((0 : Int) == 0) = true)) ∧ (¬ (((Sl.nil.len : Nat) : Int) = 0) → ∃ Hr, SH.le Hr H ∧ (false = true))) := fun e => o_some (br_t rfl ⟨H, .refl H, rfl⟩)
  by_cases g1 : nodes > 4096
  · exact Get_bad1 (.inr g1) (bad _)
  by_cases g2 : v ≥ nodes
  · exact Get_bad2 hn0 (by omega) (.inr g2) (bad _)
  refine Get_spec (p := 0) hF (by omega) (by omega) (by omega) hv0 (by omega) ?_
  unfold GetK
  cases hc : countG (bs s) 0 nodes with
  | error e => exact bad _
  | ok r =>
    obtain ⟨n, q⟩ := r
    simp only
    obtain ⟨k1, k2, k3, k4, k5, k6⟩ := countG_ok hc
    rw [bs_len] at k3
    cases hg : getG (bs s) nodes n true v q with
    | error e => exact bad _
    | ok r =>
      obtain ⟨l, q'⟩ := r
      intro sl H' ho
      rw [List.nil_append] at ho
      obtain ⟨e1, e2, e3, e4, e5⟩ := getG_ok n true v q l q' hg hv0 (by omega) (by rw [bs_len]; omega)
      simp only [if_true] at e4
      rw [bs_len] at e3
      have hlen : sl.len = l.length := by have := ho.len; simp [intCells] at this; omega
      refine o_none ?_
      rw [hlen]
      have key : ∀ (m i k : Nat), l.length - i = m → i ≤ l.length → m < k → ladinglaw06_GapTight.l1 F (fun b _ => b = true) k s nodes v sl q' sl l.length i H' := by
        intro m
        induction m with
        | zero =>
          intro i k hm hi hk
          obtain ⟨k, rfl⟩ : ∃ j, k = j + 1 := ⟨k - 1, by omega⟩
          refine br_f (by omega) ?_
          rw [w64_id (x := nodes) (by omega), w64_id (x := v) (by omega)]
          refine Put_spec hF hlen ho.row hv0 (by omega) (by omega) (by omega) (by omega) ?_
          rw [(wrongG_none l 0 (-1)).2 e4]
          refine o_none ⟨by omega, by omega, by omega, H', .refl _, ?_⟩
          apply decide_eq_true
          apply bs_inj
          rw [bs_ofL, bs_extract]
          unfold putG
          rw [e5, e1, k5]
          simp only [Int.toNat_natCast, Int.toNat_zero, List.drop_zero, Nat.sub_zero]
          rw [show q' = q + (q' - q) by omega, List.take_add, show q + (q' - q) - q = q' - q by omega]
        | succ m ih =>
          intro i k hm hi hk
          obtain ⟨k, rfl⟩ : ∃ j, k = j + 1 := ⟨k - 1, by omega⟩
          have hlt : i < l.length := by omega
          have hall := upG_all l (-1) e4 l[i] (List.getElem_mem hlt)
          have hup : ∀ (l : List Int) (last : Int) (i : Nat) (h : i + 1 < l.length), upG nodes last l → l[i] < l[i + 1] := by
            intro l
            induction l with
            | nil => intro last i h; simp at h
            | cons a l ihl =>
              intro last i h hu
              cases i with
              | zero =>
                cases l with
                | nil => simp at h
                | cons b l => exact hu.2.2.1
              | succ i => exact ihl a i (by simpa using h) hu.2.2
          refine br_t (by omega) (row_at ho.row (v := .int .i64 l[i]) (by simp [intCells, hlt]) (by omega) fun p hp hh => ⟨l[i], hh, br_f (by omega) (br_f (by rw [w64_id (by omega)]; omega) ⟨fun c2 => ?_, fun c2 => ?_⟩)⟩)
          · have hw : w64 ((i : Int) - 1) = ((i - 1 : Nat) : Int) := by rw [w64_id (by omega)]; omega
            rw [hw]
            have hlt1 : i - 1 < l.length := by omega
            refine row_at ho.row (v := .int .i64 l[i - 1]) (by simp [intCells, hlt1]) (by omega) fun p2 hp2 hh2 => ⟨l[i - 1], hh2, br_f ?_ ?_⟩
            · have := hup l (-1) (i - 1) (by omega) e4
              simp only [show i - 1 + 1 = i by omega] at this
              omega
            · rw [w64_id (by omega), show (i : Int) + 1 = ((i + 1 : Nat) : Int) by omega]
              exact ih (i + 1) k (by omega) (by omega) (by omega)
          · rw [w64_id (by omega), show (i : Int) + 1 = ((i + 1 : Nat) : Int) by omega]
            exact ih (i + 1) k (by omega) (by omega) (by omega)
      exact key l.length 0 F (by omega) (by omega) (by omega)
open Go.RowKit Go.ChangeShapes Go.WideShapes Go.ChangeAt in
theorem GapTight_walk {X : Prop} {H : Type} {enc : TypeId × Value → H} (W : World) (args : Array Value) (ds : List (DataW H)) (p : List MemPlace) (base : Nat)
    (hval : ∀ (j : Nat) t v, Try.f6.params[j]? = some t → args[j]? = some v → Value.okWide Try.prog W .any base t v) (hA : DataW.TrodAll enc Try.prog W 0 (fun _ => true) true Try.f6.params.toList args.toList ds p) (hfz : X) :
    (∃ d d2 d3, ds = [d, d2, d3]) ∧ Calls Try.prog 6 args W fun e w' => e = .returned (.bool true) ∧ RowKit.Below W.heap.size W w' := by
  rw [Try.params6] at hA hval
  obtain ⟨v0, vs0, d0, ds0, p0, q0, hargs, rfl, rfl, h0, r0⟩ := trodAll_cons hA
  obtain ⟨v1, vs1, d1, ds1, p1, q1, rfl, rfl, rfl, h1, r1⟩ := trodAll_cons r0
  obtain ⟨v2, vs2, d2, ds2, p2, q2, rfl, rfl, rfl, h2, r2⟩ := trodAll_cons r1
  obtain ⟨rfl, rfl, rfl⟩ := trodAll_nil r2
  obtain rfl : args = #[v0, v1, v2] := by cases args; simp_all
  obtain ⟨s, rfl, rfl, rfl, hs⟩ := Go.ChangeMaps.open_string Try.underlying9 (hval 0 9 v0 rfl rfl) h0
  obtain ⟨x, rfl, rfl, rfl, hx⟩ := open_int Try.underlying31 (hval 1 31 v1 rfl rfl) h1
  obtain ⟨y, rfl, rfl, rfl, hy⟩ := open_int Try.underlying31 (hval 2 31 v2 rfl rfl) h2
  have hx' := lit_range hx
  have hy' := lit_range hy
  refine ⟨⟨_, _, _, rfl⟩, ?_⟩
  have h := ladinglaw06_GapTight.sound 5000 s x y (fun _ => none) _ (GapTight_wp (by omega) hx'.1 hx'.2 hy'.1 hy'.2 _) W (fun b o hb => by cases hb)
  refine h.mono ?_
  rintro e w' ⟨v, H', rfl, st, q, rfl, rfl⟩
  exact ⟨rfl, st.below fun b o hb => by cases hb⟩
end Go.Proofs.Ytpnbehgkbfhacaa.K
