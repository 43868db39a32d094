/- What the functions of package gap come to. -/
import Derived.Test.YtpnbehgkbfhacaaSpecOctet
import Derived.Test.YtpnbehgkbfhacaaLib2
import Derived.Test.YtpnbehgkbfhacaaGgap
set_option linter.unusedVariables false
set_option linter.unusedSimpArgs false
namespace Go.Proofs.Ytpnbehgkbfhacaa.K
open Go

/-- An error's number, at a place. -/
def erAt (p : Int) (c : Int) : Option EV := some (EV.mk p (some (.no c)))
theorem turn_back {x : Int} (h : 0 ≤ x) : turnZ (backZ x) = x := by
  unfold turnZ backZ; split <;> split <;> omega

/-! ### the plain functions -/
def countG (s : List UInt8) (p : Nat) (nodes : Int) : Except (Nat × Int) (Nat × Nat) :=
  match readL (s.drop p) 0 0 with
  | .ok n m => if (n : Int) > nodes then .error (p, 4) else .ok (n, p + m)
  | .form => .error (p, 4)
  | .cut => .error (s.length, 3)
def getG (s : List UInt8) (nodes : Int) : Nat → Bool → Int → Nat → Except (Nat × Int) (List Int × Nat)
  | 0, _, _, q => .ok ([], q)
  | k + 1, first, now, q =>
    match readL (s.drop q) 0 0 with
    | .form => .error (q, 4)
    | .cut => .error (s.length, 3)
    | .ok x n =>
      if (if first then backZ x else (x : Int) + 1) < -now ∨ (if first then backZ x else (x : Int) + 1) ≥ nodes - now then .error (q, 4)
      else match getG s nodes k false (now + if first then backZ x else (x : Int) + 1) (q + n) with
        | .ok (l, q') => .ok ((now + if first then backZ x else (x : Int) + 1) :: l, q')
        | .error e => .error e
def skipG (s : List UInt8) : Nat → Nat → Except (Nat × Int) Nat
  | 0, q => .ok q
  | k + 1, q =>
    match readL (s.drop q) 0 0 with
    | .form => .error (q, 4)
    | .cut => .error (s.length, 3)
    | .ok x n => skipG s k (q + n)
def putR : Bool → Int → List Int → List UInt8
  | _, _, [] => []
  | first, now, t :: l => shortL (if first then turnZ (t - now) else t - now - 1).toNat ++ putR false t l
/-- A row's bytes. -/
def putG (v : Int) (l : List Int) : List UInt8 := shortL l.length ++ putR true v l
/-- They may be a row's, behind 'last'. -/
def upG (nodes : Int) : Int → List Int → Prop
  | _, [] => True
  | last, t :: l => last < t ∧ t < nodes ∧ upG nodes t l

/-! ### errors -/
theorem wrong_spec {F : Nat} {p : Int} {e : Option EV} {H : SH} {K : Option EV → SH → Prop} (h : K (some (EV.mk p e)) H) : gap_wrong.wp F p e H K := ⟨H, .refl H, h⟩
theorem may_ok {F : Nat} {n v : Int} (h0 : 0 ≤ n) (h1 : n ≤ 4096) (h2 : 0 ≤ v) (h3 : v < n) {H : SH} {K : Option EV → SH → Prop} (h : K none H) : gap_may.wp F n v H K :=
  br_f (by omega) (br_f (by omega) (br_f (by omega) (br_f (by omega) ⟨H, .refl H, h⟩)))
theorem may_bad1 {F : Nat} {n v : Int} (hn : n < 0 ∨ n > 4096) {H : SH} {K : Option EV → SH → Prop} (h : K (some (.no 1)) H) : gap_may.wp F n v H K :=
  ⟨fun _ => ⟨H, .refl H, h⟩, fun c => ⟨fun _ => ⟨H, .refl H, h⟩, fun c2 => absurd hn (by omega)⟩⟩
theorem may_bad2 {F : Nat} {n v : Int} (h0 : 0 ≤ n) (h1 : n ≤ 4096) (hv : v < 0 ∨ v ≥ n) {H : SH} {K : Option EV → SH → Prop} (h : K (some (.no 2)) H) : gap_may.wp F n v H K :=
  br_f (by omega) (br_f (by omega) ⟨fun _ => ⟨H, .refl H, h⟩, fun c => ⟨fun _ => ⟨H, .refl H, h⟩, fun c2 => absurd hv (by omega)⟩⟩)
theorem nodesFit_ok {F : Nat} {p n : Int} (h0 : 0 ≤ n) (h1 : n ≤ 4096) {H : SH} {K : Option EV → SH → Prop} (h : K none H) : gap_nodesFit.wp F p n H K :=
  br_f (by omega) (br_f (by omega) ⟨H, .refl H, h⟩)
theorem nodesFit_bad {F : Nat} {p n : Int} (hn : n < 0 ∨ n > 4096) {H : SH} {K : Option EV → SH → Prop} (h : K (erAt p 1) H) : gap_nodesFit.wp F p n H K :=
  ⟨fun _ => wrong_spec ⟨H, .refl H, h⟩, fun c => ⟨fun _ => wrong_spec ⟨H, .refl H, h⟩, fun c2 => absurd hn (by omega)⟩⟩

/-! ### count -/
def CtK (K : Int → Int → Option EV → SH → Prop) (p : Int) (H : SH) : Except (Nat × Int) (Nat × Nat) → Prop
  | .ok (n, q) => K n q none H
  | .error (a, c) => K 0 p (erAt a c) H
theorem count_spec {F : Nat} (hF : 10 ≤ F) {s : ByteArray} (hs : s.size ≤ 4611686018427387904) {p : Nat} (hp : p ≤ s.size) {nodes : Int} {H : SH} {K : Int → Int → Option EV → SH → Prop} (h : CtK K p H (countG (bs s) p nodes)) : gap_count.wp F s p nodes H K := by
  refine Short_spec hF hs hp ?_
  unfold countG at h
  cases hr : readL ((bs s).drop p) 0 0 with
  | ok x n =>
    rw [hr] at h
    simp only at h
    refine o_none ⟨fun c => ?_, fun c => ?_⟩
    · rw [if_pos c] at h; exact wrong_spec ⟨H, .refl H, h⟩
    · rw [if_neg c] at h
      refine ⟨H, .refl H, ?_⟩
      have e : (p : Int) + (n : Int) = ((p + n : Nat) : Int) := by omega
      rw [e]; exact h
  | form => rw [hr] at h; exact o_some ⟨H, .refl H, h⟩
  | cut => rw [hr] at h; simp only [bs_len] at h; exact o_some ⟨H, .refl H, h⟩
theorem count_bad {F : Nat} {s : ByteArray} {p nodes : Int} (hp : p < 0 ∨ p > s.size) {H : SH} {K : Int → Int → Option EV → SH → Prop} (h : K 0 p (erAt p 1) H) : gap_count.wp F s p nodes H K :=
  Short_bad hp (o_some ⟨H, .refl H, h⟩)
theorem countG_ok {s : List UInt8} {p n q : Nat} {nodes : Int} (h : countG s p nodes = .ok (n, q)) : (n : Int) ≤ nodes ∧ p ≤ q ∧ q ≤ max p s.length ∧ p < s.length ∧ shortL n = (s.drop p).take (q - p) ∧ n ≤ 72057594037927935 := by
  unfold countG at h
  cases hr : readL (s.drop p) 0 0 with
  | ok x m =>
    rw [hr] at h
    simp only at h
    by_cases c : (x : Int) > nodes
    · rw [if_pos c] at h; cases h
    · rw [if_neg c] at h
      cases h
      obtain ⟨h1, h2, h3, h4⟩ := shortL_read hr
      rw [List.length_drop] at h3
      refine ⟨by omega, by omega, by omega, by omega, ?_, h1⟩
      rw [h2]; congr 1; omega
  | form => rw [hr] at h; cases h
  | cut => rw [hr] at h; cases h

/-! ### the reader -/
theorem AppendQ.frame {H : SH} {E : TypeId} {size bytes : Nat} {s : Sl} {m : Nat} {news : List Value} {K : Sl → SH → Prop} {b : Nat} {o : AO} (hb : H b = none) (h : AppendQ H E size bytes s m news fun l' H' => H' b = none → K l' (H'.upd b o)) : AppendQ (H.upd b o) E size bytes s m news K := by
  obtain ⟨h1, h2, h3, h4, h5, h6⟩ := h
  refine ⟨h1, h2, h3, h4, fun c => ⟨fun ha => (h5 c).1 ha hb, fun p hp => ?_⟩, fun c => ?_⟩
  · obtain ⟨x, g1, g2, g3, g4, g5⟩ := (h5 c).2 p hp
    have hne : p.1 ≠ b := by rintro rfl; rw [hb] at g1; cases g1
    refine ⟨x, by rw [SH.upd_ne _ _ hne]; exact g1, g2, g3, g4, ?_⟩
    rw [upd_comm (Ne.symm hne)]
    exact g5 (by rw [SH.upd_ne _ _ (Ne.symm hne)]; exact hb)
  · obtain ⟨olds, g1, g2, g3⟩ := h6 c
    refine ⟨olds, g1, g2.le (le_upd hb), fun b' cap hb' hcap => ?_⟩
    have hne : b' ≠ b := by rintro rfl; rw [SH.upd_same] at hb'; cases hb'
    rw [SH.upd_ne _ _ hne] at hb'
    rw [upd_comm (Ne.symm hne)]
    exact g3 b' cap hb' hcap (by rw [SH.upd_ne _ _ (Ne.symm hne)]; exact hb)
def rdO (s : ByteArray) (at_ nodes now : Int) : AO := ⟨[.string s, .int .i64 at_, .int .i64 nodes, .int .i64 now], 66, false, 4⟩
def StK (K : Option EV → SH → Prop) (s : ByteArray) (b : Nat) (H : SH) (q : Nat) (nodes now : Int) (first : Bool) : Prop :=
  match readL ((bs s).drop q) 0 0 with
  | .form => K (erAt q 4) (H.upd b (rdO s q nodes now))
  | .cut => K (erAt s.size 3) (H.upd b (rdO s q nodes now))
  | .ok x n =>
    if (if first then backZ x else (x : Int) + 1) < -now ∨ (if first then backZ x else (x : Int) + 1) ≥ nodes - now then K (erAt q 4) (H.upd b (rdO s q nodes now))
    else K none (H.upd b (rdO s ((q + n : Nat) : Int) nodes (now + if first then backZ x else (x : Int) + 1)))
theorem step_j {F : Nat} {K : Option EV → SH → Prop} {s : ByteArray} {b q n : Nat} {nodes now d : Int} {H : SH} (h0 : 0 ≤ now) (h1 : now ≤ 4096) (hn0 : 0 ≤ nodes) (hn1 : nodes ≤ 4096) (hd0 : -36028797018963968 ≤ d) (hd1 : d ≤ 72057594037927936)
    (h : if d < -now ∨ d ≥ nodes - now then K (erAt q 4) (H.upd b (rdO s q nodes now)) else K none (H.upd b (rdO s ((q + n : Nat) : Int) nodes (now + d)))) : gap_reader_step.j2 F K b 0 d ((q : Int) + n) none (H.upd b (rdO s q nodes now)) := by
  refine o_none ⟨now, has_upd rfl, ?_⟩
  rw [w64_id (by omega)]
  refine ⟨fun c => ⟨q, has_upd rfl, wrong_spec ⟨_, .refl _, ?_⟩⟩, fun c => ⟨nodes, has_upd rfl, now, has_upd rfl, ?_⟩⟩
  · rw [if_pos (.inl (by omega))] at h; exact h
  · rw [w64_id (by omega)]
    refine ⟨fun c2 => ⟨q, has_upd rfl, wrong_spec ⟨_, .refl _, ?_⟩⟩, fun c2 => ⟨now, has_upd rfl, wrs_upd rfl (by simp [rdO]), ?_⟩⟩
    · rw [if_pos (.inr (by omega))] at h; exact h
    · rw [if_neg (by omega)] at h
      rw [setl_upd]
      refine ⟨wrs_upd rfl (by simp [rdO, wrl]), ?_⟩
      rw [setl_upd, w64_id (by omega)]
      refine ⟨_, .refl _, ?_⟩
      have e : (q : Int) + (n : Int) = ((q + n : Nat) : Int) := by omega
      rw [e]
      exact h
theorem reader_step_spec {F : Nat} (hF : 10 ≤ F) {K : Option EV → SH → Prop} {s : ByteArray} (hs : s.size ≤ 4611686018427387904) {b q : Nat} (hq : q ≤ s.size) {nodes now : Int} {first : Bool} {H : SH} (h0 : 0 ≤ now) (h1 : now ≤ 4096) (hn0 : 0 ≤ nodes) (hn1 : nodes ≤ 4096) (h : StK K s b H q nodes now first) :
    gap_reader_step.wp F (some (b, 0)) first (H.upd b (rdO s q nodes now)) K := by
  have k0 : (H.upd b (rdO s q nodes now)).has (b, 0) (.string s) := has_upd rfl
  have k1 : (H.upd b (rdO s q nodes now)).has (b, 0 + 1) (.int .i64 q) := has_upd rfl
  unfold StK at h
  refine ⟨fun c => p_some ⟨s, k0, q, k1, ?_⟩, fun c => p_some ⟨s, k0, q, k1, ?_⟩⟩
  · subst c
    cases hr : readL ((bs s).drop q) 0 0 with
    | ok x n =>
      rw [hr] at h
      simp only [if_true] at h
      have hx := (shortL_read hr).1
      refine ⟨backZ x, (q : Int) + n, none, Turned_spec hF hs hq (by rw [hr]; exact ⟨rfl, rfl, rfl, rfl⟩), step_j h0 h1 hn0 hn1 ?_ ?_ h⟩
      · unfold backZ; split <;> omega
      · unfold backZ; split <;> omega
    | form => rw [hr] at h; exact ⟨0, q, erAt q 4, Turned_spec hF hs hq (by rw [hr]; exact ⟨rfl, rfl, rfl, rfl⟩), o_some ⟨_, .refl _, h⟩⟩
    | cut => rw [hr] at h; exact ⟨0, q, erAt s.size 3, Turned_spec hF hs hq (by rw [hr]; exact ⟨rfl, rfl, rfl, rfl⟩), o_some ⟨_, .refl _, h⟩⟩
  · have hf : first = false := by cases first <;> simp_all
    subst hf
    cases hr : readL ((bs s).drop q) 0 0 with
    | ok x n =>
      rw [hr] at h
      simp only [Bool.false_eq_true, if_false] at h
      have hx := (shortL_read hr).1
      refine ⟨x, (q : Int) + n, none, Short_spec hF hs hq (by rw [hr]; exact ⟨rfl, rfl, rfl, rfl⟩), ?_⟩
      rw [w64_id (by omega)]
      exact step_j h0 h1 hn0 hn1 (by omega) (by omega) h
    | form => rw [hr] at h; exact ⟨0, q, erAt q 4, Short_spec hF hs hq (by rw [hr]; exact ⟨rfl, rfl, rfl, rfl⟩), o_some ⟨_, .refl _, h⟩⟩
    | cut => rw [hr] at h; exact ⟨0, q, erAt s.size 3, Short_spec hF hs hq (by rw [hr]; exact ⟨rfl, rfl, rfl, rfl⟩), o_some ⟨_, .refl _, h⟩⟩

/-! ### Get -/
def intCells (l : List Int) : List Value := l.map fun x => .int .i64 x
def GtK (K : Sl → Int → Option EV → SH → Prop) (p : Int) (H : SH) (done : List Int) : Except (Nat × Int) (List Int × Nat) → Prop
  | .ok (l, q) => ∀ sl H', Own H H' 3 1 sl (intCells (done ++ l)) → K sl q none H'
  | .error (a, c) => K Sl.nil p (erAt a c) H
theorem Get_loop {F : Nat} (hF : 5000 ≤ F) {K : Sl → Int → Option EV → SH → Prop} {s : ByteArray} (hs : s.size ≤ 4611686018427387904) {nodes p : Int} (hn0 : 0 ≤ nodes) (hn1 : nodes ≤ 4096) {b : Nat} (H : SH) (hb : H b = none) {N : Nat} (hN : N ≤ 4096) :
    ∀ (m i k : Nat) (done : List Int) (l : Sl) (H1 : SH) (q : Nat) (now : Int), i + m = N → m < k → Own H H1 3 1 l (intCells done) → H1 b = none → done.length = i → q ≤ s.size → 0 ≤ now → now < nodes → GtK K p H done (getG (bs s) nodes m (decide (i = 0)) now q) →
      gap_Get.l1 F K k p b l N i (H1.upd b (rdO s q nodes now)) := by
  intro m
  induction m with
  | zero =>
    intro i k done l H1 q now hm hk ho hb1 hd hq h0 h1 h
    obtain ⟨k, rfl⟩ : ∃ j, k = j + 1 := ⟨k - 1, by omega⟩
    refine br_f (by omega) ⟨q, has_upd rfl, H1, le_upd hb1, ?_⟩
    simp only [getG, GtK, List.append_nil] at h
    exact h l H1 ho
  | succ m ih =>
    intro i k done l H1 q now hm hk ho hb1 hd hq h0 h1 h
    obtain ⟨k, rfl⟩ : ∃ j, k = j + 1 := ⟨k - 1, by omega⟩
    have hlen : l.len = i := by have := ho.len; simp [intCells] at this; omega
    have hfirst : ((i : Int) == 0) = decide (i = 0) := by
      rw [Bool.eq_iff_iff]; simp
    have hle : SH.le H (H1.upd b (rdO s q nodes now)) := ho.le.trans (le_upd hb1)
    refine br_t (by omega) ?_
    rw [hfirst]
    refine reader_step_spec (by omega) hs hq h0 (by omega) hn0 hn1 ?_
    unfold StK
    unfold getG at h
    cases hr : readL ((bs s).drop q) 0 0 with
    | form => rw [hr] at h; exact o_some ⟨H, hle, h⟩
    | cut => rw [hr] at h; simp only [bs_len] at h; exact o_some ⟨H, hle, h⟩
    | ok x n =>
      rw [hr] at h
      simp only at h ⊢
      have e : (if (decide (i = 0)) = true then backZ x else (x : Int) + 1) = if i = 0 then backZ x else (x : Int) + 1 := by simp
      rw [e] at h ⊢
      generalize hdd : (if i = 0 then backZ x else (x : Int) + 1) = d at h ⊢
      by_cases c : d < -now ∨ d ≥ nodes - now
      · rw [if_pos c] at h ⊢
        exact o_some ⟨H, hle, h⟩
      · rw [if_neg c] at h ⊢
        obtain ⟨g1, g2, g3, g4⟩ := shortL_read hr
        rw [List.length_drop, bs_len] at g3
        refine ⟨fun _ => ⟨now + d, has_upd rfl, AppendQ.frame hb1 (ho.append (by rw [hlen]; omega) (by rw [hlen]; omega) rfl (by simp [Value.oneCell']) fun l' H1' ho' hl' hb1' => ?_)⟩, fun _ e => (nomatch e)⟩
        rw [w64_id (by omega), show (i : Int) + 1 = ((i + 1 : Nat) : Int) by omega]
        refine ih (i + 1) k (done ++ [now + d]) l' H1' (q + n) (now + d) (by omega) (by omega) (by simpa [intCells] using ho') hb1' (by simp [hd]) (by omega) (by omega) (by omega) ?_
        rw [show decide (i + 1 = 0) = false by simp]
        cases hg : getG (bs s) nodes m false (now + d) (q + n) with
        | error e => rw [hg] at h; exact h
        | ok r => rw [hg] at h; simpa [GtK] using h
def GetK (K : Sl → Int → Option EV → SH → Prop) (s : ByteArray) (p : Nat) (nodes v : Int) (H : SH) : Prop :=
  match countG (bs s) p nodes with
  | .error (a, c) => K Sl.nil p (erAt a c) H
  | .ok (n, q) => GtK K p H [] (getG (bs s) nodes n true v q)
theorem Get_spec {F : Nat} (hF : 5000 ≤ F) {s : ByteArray} (hs : s.size ≤ 4611686018427387904) {p : Nat} (hp : p ≤ s.size) {nodes v : Int} (hn1 : nodes ≤ 4096) (h0 : 0 ≤ v) (h1 : v < nodes) {H : SH} {K : Sl → Int → Option EV → SH → Prop} (h : GetK K s p nodes v H) : gap_Get.wp F s p nodes v H K := by
  refine may_ok (by omega) hn1 h0 h1 (o_none (count_spec (by omega) hs hp ?_))
  unfold GetK at h
  cases hc : countG (bs s) p nodes with
  | error e =>
    rw [hc] at h
    exact o_some ⟨H, .refl H, h⟩
  | ok r =>
    obtain ⟨n, q⟩ := r
    rw [hc] at h
    obtain ⟨g1, g2, g3, g4, g5, g6⟩ := countG_ok hc
    rw [bs_len] at g3
    refine o_none fun b hb => ?_
    exact Get_loop hF hs (by omega) hn1 H hb (N := n) (by omega) n 0 F [] Sl.nil H q v (by omega) (by omega) (Own.nil H 3 1) hb rfl (by omega) h0 h1 h
theorem Get_badp {F : Nat} {s : ByteArray} {p nodes v : Int} (hp : p < 0 ∨ p > s.size) (hn1 : nodes ≤ 4096) (h0 : 0 ≤ v) (h1 : v < nodes) {H : SH} {K : Sl → Int → Option EV → SH → Prop} (h : K Sl.nil p (erAt p 1) H) : gap_Get.wp F s p nodes v H K :=
  may_ok (by omega) hn1 h0 h1 (o_none (count_bad hp (o_some ⟨H, .refl H, h⟩)))
theorem Get_bad1 {F : Nat} {s : ByteArray} {p nodes v : Int} (hn : nodes < 0 ∨ nodes > 4096) {H : SH} {K : Sl → Int → Option EV → SH → Prop} (h : K Sl.nil p (erAt p 1) H) : gap_Get.wp F s p nodes v H K :=
  may_bad1 hn (o_some (wrong_spec ⟨H, .refl H, h⟩))
theorem Get_bad2 {F : Nat} {s : ByteArray} {p nodes v : Int} (hn0 : 0 ≤ nodes) (hn1 : nodes ≤ 4096) (hv : v < 0 ∨ v ≥ nodes) {H : SH} {K : Sl → Int → Option EV → SH → Prop} (h : K Sl.nil p (erAt p 2) H) : gap_Get.wp F s p nodes v H K :=
  may_bad2 hn0 hn1 hv (o_some (wrong_spec ⟨H, .refl H, h⟩))

/-! ### Put -/
theorem upG_all {nodes : Int} : ∀ (l : List Int) (last : Int), upG nodes last l → ∀ t ∈ l, last < t ∧ t < nodes
  | [], _, _, _, h => by cases h
  | u :: l, last, ⟨h1, h2, h3⟩, t, h => by
    rcases List.mem_cons.1 h with rfl | h
    · exact ⟨h1, h2⟩
    · have := upG_all l u h3 t h; omega
theorem upG_len {nodes : Int} : ∀ (l : List Int) (last : Int), upG nodes last l → last < nodes → (l.length : Int) ≤ nodes - last - 1
  | [], last, _, h => by simp; omega
  | u :: l, last, ⟨h1, h2, h3⟩, h => by
    have := upG_len l u h3 h2
    simp only [List.length_cons]; omega
theorem Put_loop2 {F : Nat} (hF : 5000 ≤ F) {K : ByteArray → Option EV → SH → Prop} {sl : Sl} {l : List Int} {v nodes : Int} (H : SH) (hl : sl.len = l.length) (hr : H.row sl.a (intCells l)) (hv0 : 0 ≤ v) (hv1 : v < nodes) (hn : nodes ≤ 4096) (hll : l.length ≤ 4096) (hall : ∀ t ∈ l, 0 ≤ t ∧ t < nodes) :
    ∀ (m i k : Nat) (last : Int) (pre : List UInt8), l.length - i = m → i ≤ l.length → m < k → (0 < i → last = l.getD (i - 1) 0) → upG nodes (if i = 0 then -1 else last) (l.drop i) → pre.length ≤ 10 + i * 8 →
      K (ofL (pre ++ putR (decide (i = 0)) (if i = 0 then v else last) (l.drop i))) none H → gap_Put.l2 F K k v sl (ofL pre) sl (l.length : Int) i H := by
  intro m
  induction m with
  | zero =>
    intro i k last pre hm hi hk hlast hu hp h
    obtain ⟨k, rfl⟩ : ∃ j, k = j + 1 := ⟨k - 1, by omega⟩
    refine br_f (by omega) ⟨H, .refl H, ?_⟩
    rw [List.drop_eq_nil_of_le (by omega)] at h
    simpa [putR] using h
  | succ m ih =>
    intro i k last pre hm hi hk hlast hu hp h
    obtain ⟨k, rfl⟩ : ∃ j, k = j + 1 := ⟨k - 1, by omega⟩
    have hlt : i < l.length := by omega
    rw [List.drop_eq_getElem_cons hlt] at hu h
    obtain ⟨u1, u2, u3⟩ := hu
    have hti : l.getD i 0 = l[i] := by simp [List.getD, hlt]
    have hshort : ∀ x : Nat, x < 16384 → (shortL x).length ≤ 2 := by
      intro x hx
      by_cases h1 : x < 128
      · rw [shortL_one h1]; simp
      · rw [shortL_more h1, shortL_one (by omega)]; simp
    refine br_t (by omega) (row_at hr (v := .int .i64 l[i]) (by simp [intCells, hlt]) (by omega) fun p hp hh => ⟨l[i], hh, ⟨fun c => ?_, fun c => ?_⟩⟩)
    · obtain rfl : i = 0 := by omega
      simp only [if_true] at u1 h
      rw [w64_id (by omega)]
      refine PutTurned_spec (by omega) (by omega) (by omega) ?_
      have ht := turnZ_range (x := l[0] - v) (by omega) (by omega)
      have ht2 : turnZ (l[0] - v) < 16384 := by unfold turnZ; split <;> omega
      have hs2 := hshort (turnZ (l[0] - v)).toNat (by omega)
      refine ⟨by rw [ofL_size, ofL_size]; omega, ?_⟩
      rw [ofL_append, w64_id (by omega), show ((0 : Nat) : Int) + 1 = ((0 + 1 : Nat) : Int) by omega]
      refine ih 1 k l[0] _ (by omega) (by omega) (by omega) (fun _ => hti.symm) (by simpa using u3) (by rw [List.length_append]; omega) ?_
      simpa [putR] using h
    · have hw : w64 ((i : Int) - 1) = ((i - 1 : Nat) : Int) := by rw [w64_id (by omega)]; omega
      have hlast' := hlast (by omega)
      have hlt1 : i - 1 < l.length := by omega
      have hg1 : l.getD (i - 1) 0 = l[i - 1] := by simp [List.getD, hlt1]
      rw [hg1] at hlast'
      rw [if_neg (by omega)] at u1
      simp only [show ¬ (i = 0) by omega, decide_false, if_false] at h
      rw [hw]
      refine row_at hr (v := .int .i64 l[i - 1]) (by simp [intCells, hlt1]) (by omega) fun p2 hp2 hh2 => ⟨l[i - 1], hh2, ?_⟩
      rw [← hlast']
      have hlast0 : 0 ≤ last ∧ last < nodes := by
        rw [hlast']; exact hall _ (List.getElem_mem hlt1)
      rw [w64_id (x := l[i] - last) (by omega), w64_id (by omega)]
      obtain ⟨d, hd⟩ : ∃ d : Nat, l[i] - last - 1 = d := ⟨(l[i] - last - 1).toNat, by omega⟩
      rw [hd]
      refine PutShort_spec (by omega) (by omega) ?_
      have hs2 := hshort d (by omega)
      refine ⟨by rw [ofL_size, ofL_size]; omega, ?_⟩
      rw [ofL_append, w64_id (by omega), show (i : Int) + 1 = ((i + 1 : Nat) : Int) by omega]
      refine ih (i + 1) k l[i] _ (by omega) (by omega) (by omega) (fun _ => by rw [show i + 1 - 1 = i by omega]; exact hti.symm) (by simpa using u3) (by rw [List.length_append]; omega) ?_
      simp only [putR, Bool.false_eq_true, if_false, hd, Int.toNat_natCast] at h
      simpa using h
end Go.Proofs.Ytpnbehgkbfhacaa.K
