/- The law GapGets: any bytes, at any place, are the row that the document says, or none, told why, and where. -/
import Derived.Test.YtpnbehgkbfhacaaDoorSpecRef6d
import Derived.Test.YtpnbehgkbfhacaaDoorLawGapPuts
set_option linter.unusedVariables false
set_option linter.unusedSimpArgs false
namespace Go.Proofs.YtpnbehgkbfhacaaDoor.K
open Go
/-- An error is what the document tells: its number, and its place. -/
def ErrIs (e : Option EV) (c a : Int) : Prop := codeV e = c ∧ (c ≠ 0 → placeV e = a)
theorem ErrIs.none (a : Int) : ErrIs none 0 a := ⟨rfl, fun h => absurd rfl h⟩
theorem ErrIs.at_ (a c : Int) : ErrIs (erAt a c) c a := ⟨rfl, fun _ => rfl⟩
theorem GapGets_mid {F : Nat} {s : ByteArray} {p nodes v : Int} {l15 : Sl} {x16 x19 x22 : Int} {e17 e20 e23 : Option EV} {G : SH} (hg : G.has (0, 0) (rtv 24)) {x69 x70 x71 x72 : Int} {l74 : Sl} {x75 x76 x77 : Int}
    (h1 : x22 = x69) (h2 : ErrIs e23 x71 x72) (h3 : x19 = x75) (h4 : ErrIs e20 x76 x77) (hj : ∀ G', SH.le G G' → ladinglaw06_GapGets.j1 F (fun b _ => b = true) s p nodes v l15 x16 e17 G')
    {b79 b81 : Nat} (hb79 : G b79 = none) (hb81 : (G.upd b79 ⟨go4 0 0 0 0, gotT, false, 4⟩) b81 = none) {A : SH → Prop}
    (hA : ∀ Hh : SH, SH.le G Hh → Hh.has (b79, 0) (.int .i64 x69) → Hh.has (b79, 2) (.int .i64 x71) → Hh.has (b79, 3) (.int .i64 x72) → Hh.has (b81, 1) (.int .i64 x75) → Hh.has (b81, 2) (.int .i64 x76) → Hh.has (b81, 3) (.int .i64 x77) → A Hh) :
    SH.wrs (SH.upd (SH.upd G b79 ⟨go4 0 0 0 0, gotT, false, 4⟩) b81 rowO) (b79, 0) 4 ∧
    SH.wrs (SH.setl (SH.upd (SH.upd G b79 ⟨go4 0 0 0 0, gotT, false, 4⟩) b81 rowO) (b79, 0) (go4 x69 x70 x71 x72)) (b81, 0) 4 ∧
    A (SH.setl (SH.setl (SH.upd (SH.upd G b79 ⟨go4 0 0 0 0, gotT, false, 4⟩) b81 rowO) (b79, 0) (go4 x69 x70 x71 x72)) (b81, 0) (rw4 l74 x75 x76 x77)) := by
  have hne : b79 ≠ b81 := by rintro rfl; rw [SH.upd_same] at hb81; cases hb81
  have e1 : SH.setl (SH.upd (SH.upd G b79 ⟨go4 0 0 0 0, gotT, false, 4⟩) b81 rowO) (b79, 0) (go4 x69 x70 x71 x72) = (G.upd b79 ⟨go4 x69 x70 x71 x72, gotT, false, 4⟩).upd b81 rowO := by
    rw [setl_upd_ne hne, up4 rfl]
  have e2 : SH.setl ((G.upd b79 ⟨go4 x69 x70 x71 x72, gotT, false, 4⟩).upd b81 rowO) (b81, 0) (rw4 l74 x75 x76 x77) = (G.upd b79 ⟨go4 x69 x70 x71 x72, gotT, false, 4⟩).upd b81 ⟨rw4 l74 x75 x76 x77, rowT, false, 4⟩ := by
    rw [setl_upd]; rfl
  have hb81' : (G.upd b79 ⟨go4 x69 x70 x71 x72, gotT, false, 4⟩) b81 = none := by
    rw [SH.upd_ne _ _ (Ne.symm hne)] at hb81 ⊢; exact hb81
  rw [e1, e2]
  refine ⟨wrs_upd_ne hne (wrs_upd rfl (by simp [go4])), wrs_upd rfl (by simp [rowO, rw4]), hA _ ((le_upd hb79).trans (le_upd hb81')) (has_upd_ne hne (has_upd rfl)) (has_upd_ne hne (has_upd rfl)) (has_upd_ne hne (has_upd rfl)) (has_upd rfl) (has_upd rfl) (has_upd rfl)⟩
theorem CodeQ {F : Nat} {e : Option EV} {H : SH} (hg : H.has (0, 0) (rtv 24)) : api_Code.wp F e H (fun x H' => x = codeV e ∧ H' = H) := ⟨hg, rfl, rfl⟩
theorem PlaceQ {F : Nat} {e : Option EV} {H : SH} (hg : H.has (0, 0) (rtv 24)) : api_Place.wp F e H (fun x H' => x = placeV e ∧ H' = H) := ⟨hg, rfl, rfl⟩
/-- What is got, against the document's: at the end. -/
theorem GapGets_j {F : Nat} (hF : 5000 ≤ F) {s : ByteArray} (hs : s.size ≤ 300) {p nodes v : Int} {l15 : Sl} {x16 : Int} {e17 : Option EV} {G : SH} (hg : G.has (0, 0) (rtv 24)) (hn : nodes ≤ 4096) (hn0 : 0 ≤ nodes)
    (hbad : v < 0 ∨ v ≥ nodes → l15.len = 0 ∧ x16 = p ∧ e17 = erAt p 2)
    (hok : 0 ≤ v → v < nodes → ∃ l : List Int, l15.len = l.length ∧ G.row l15.a (intCells l) ∧ l.length ≤ 4096 ∧
      (∀ {K : Sl → Int → Int → Int → SH → Prop}, (∀ sl G' c a, SH.le G G' → sl.len = l.length → G'.row sl.a (intCells l) → ErrIs e17 c a → K sl x16 c a G') → ladingref06_Get.wp F s p nodes v G K)) :
    ladinglaw06_GapGets.j1 F (fun b _ => b = true) s p nodes v l15 x16 e17 G := by
  by_cases hv : v < 0 ∨ v ≥ nodes
  · obtain ⟨h1, rfl, rfl⟩ := hbad hv
    have key : ∀ {A B : Prop}, (((l15.len : Int) = 0 → (x16 = x16 → api_Code.wp F (erAt x16 2) G (fun x H1 => (x = 2 → api_Place.wp F (erAt x16 2) H1 (fun y H2 => ∃ Hr, SH.le Hr H2 ∧ (y == x16) = true)) ∧ (¬ (x = 2) → ∃ Hr, SH.le Hr H1 ∧ false = true))) ∧ (¬ (x16 = x16) → A)) ∧ (¬ ((l15.len : Int) = 0) → B)) :=
      br_t (by omega) (br_t rfl (CodeG hg (br_t rfl (PlaceG hg ⟨G, .refl G, by simp [placeV, erAt, EV.mk]⟩))))
    exact ⟨fun _ => key, fun c => ⟨fun _ => key, fun c2 => absurd hv (by omega)⟩⟩
  · obtain ⟨l, h1, h2, h3, h4⟩ := hok (by omega) (by omega)
    refine br_f (by omega) (br_f (by omega) (h4 fun sl G' c a hle hl hr he => ?_))
    intro b161 hb
    have e : SH.setl (SH.upd G' b161 ⟨rw4 Sl.nil 0 0 0, rowT, false, 4⟩) (b161, 0) (rw4 sl x16 c a) = G'.upd b161 ⟨rw4 sl x16 c a, rowT, false, 4⟩ := by rw [setl_upd]; rfl
    have fin : ∀ Hh : SH, SH.le G' Hh → Hh.has (b161, 0) (sv sl) → Hh.has (b161, 1) (.int .i64 x16) → Hh.has (b161, 2) (.int .i64 c) → Hh.has (b161, 3) (.int .i64 a) → True := fun _ _ _ _ _ _ => trivial
    have hle2 : SH.le G' (G'.upd b161 ⟨rw4 sl x16 c a, rowT, false, 4⟩) := le_upd hb
    have hg2 := hg.le (hle.trans hle2)
    have k0 : (G'.upd b161 ⟨rw4 sl x16 c a, rowT, false, 4⟩).has (b161, 0) (sv sl) := has_upd rfl
    have k1 : (G'.upd b161 ⟨rw4 sl x16 c a, rowT, false, 4⟩).has (b161, 1) (.int .i64 x16) := has_upd rfl
    have k2 : (G'.upd b161 ⟨rw4 sl x16 c a, rowT, false, 4⟩).has (b161, 2) (.int .i64 c) := has_upd rfl
    have k3 : (G'.upd b161 ⟨rw4 sl x16 c a, rowT, false, 4⟩).has (b161, 3) (.int .i64 a) := has_upd rfl
    refine ⟨wrs_upd rfl (by simp), ?_⟩
    simp only [rw4] at e k0 k1 k2 k3 hle2 hg2
    rw [e]
    refine ⟨sl, k0, true, Ints_spec h1 hl (h2.le (hle.trans hle2)) (hr.le hle2) (by omega) (by omega) ⟨by simp, rfl⟩, br_t rfl ⟨x16, k1, br_t rfl ⟨codeV e17, CodeQ hg2, c, k2, br_t he.1 ⟨c, k2, fun c0 => ⟨_, .refl _, rfl⟩, fun c0 => ⟨placeV e17, PlaceQ hg2, a, k3, _, .refl _, by simp [he.2 c0]⟩⟩⟩⟩⟩
theorem count_both {F : Nat} (hF : 5000 ≤ F) {s : ByteArray} (hs : s.size ≤ 300) {p nodes : Int} (hn0 : 0 ≤ nodes) (hn1 : nodes ≤ 4096) : ∃ (x22 : Int) (e23 : Option EV), (∀ {K : Int → Option EV → SH → Prop} {G : SH}, K x22 e23 G → gap_Count.wp F s p nodes G K) ∧
    (∀ {K : Int → Int → Int → Int → SH → Prop} {G : SH}, (∀ X N E A, x22 = X → ErrIs e23 E A → K X N E A G) → ladingref06_Count.wp F s p nodes G K) := by
  by_cases hp : p < 0 ∨ p > s.size
  · exact ⟨0, erAt p 1, fun h => Count_badp hp hn0 hn1 h, fun h => refCount_bad hp (h _ _ _ _ rfl (.at_ _ _))⟩
  · obtain ⟨q, rfl⟩ : ∃ q : Nat, p = q := ⟨p.toNat, by omega⟩
    cases hc : countG (bs s) q nodes with
    | error e =>
      obtain ⟨a, c⟩ := e
      exact ⟨0, erAt a c, fun h => Count_spec (by omega) (by omega) (by omega) hn0 hn1 (by rw [hc]; exact h), fun h => refCount_spec (by omega) (by omega) (by omega) (by rw [hc]; exact h _ _ _ _ rfl (.at_ _ _))⟩
    | ok r =>
      obtain ⟨n, q'⟩ := r
      exact ⟨n, none, fun h => Count_spec (by omega) (by omega) (by omega) hn0 hn1 (by rw [hc]; exact h), fun h => refCount_spec (by omega) (by omega) (by omega) (by rw [hc]; exact h _ _ _ _ rfl (.none _))⟩
theorem skip_both {F : Nat} (hF : 5000 ≤ F) {s : ByteArray} (hs : s.size ≤ 300) {p nodes : Int} (hn0 : 0 ≤ nodes) (hn1 : nodes ≤ 4096) : ∃ (x19 : Int) (e20 : Option EV), (∀ {K : Int → Option EV → SH → Prop} {G : SH}, K x19 e20 G → gap_Skip.wp F s p nodes G K) ∧
    (∀ {K : Sl → Int → Int → Int → SH → Prop} {G : SH}, (∀ l N E A, x19 = N → ErrIs e20 E A → K l N E A G) → ladingref06_Skip.wp F s p nodes G K) := by
  by_cases hp : p < 0 ∨ p > s.size
  · exact ⟨p, erAt p 1, fun h => Skip_badp (by omega) hp hn0 hn1 h, fun h => refSkip_bad hF (by omega) hp (h _ _ _ _ rfl (.at_ _ _))⟩
  · obtain ⟨q, rfl⟩ : ∃ q : Nat, p = q := ⟨p.toNat, by omega⟩
    cases hc : countG (bs s) q nodes with
    | error e =>
      obtain ⟨a, c⟩ := e
      exact ⟨q, erAt a c, fun h => Skip_spec hF (by omega) (by omega) hn0 hn1 (by unfold SkipK; rw [hc]; exact h), fun h => refSkip_spec hF (by omega) (by omega) hn1 (by unfold SkipR; rw [hc]; exact h _ _ _ _ rfl (.at_ _ _))⟩
    | ok r =>
      obtain ⟨n, q'⟩ := r
      cases hk : skipG (bs s) n q' with
      | error e =>
        obtain ⟨a, c⟩ := e
        exact ⟨q, erAt a c, fun h => Skip_spec hF (by omega) (by omega) hn0 hn1 (by unfold SkipK; rw [hc]; simp only; rw [hk]; exact h), fun h => refSkip_spec hF (by omega) (by omega) hn1 (by unfold SkipR; rw [hc]; simp only; rw [hk]; exact h _ _ _ _ rfl (.at_ _ _))⟩
      | ok r =>
        exact ⟨r, none, fun h => Skip_spec hF (by omega) (by omega) hn0 hn1 (by unfold SkipK; rw [hc]; simp only; rw [hk]; exact h), fun h => refSkip_spec hF (by omega) (by omega) hn1 (by unfold SkipR; rw [hc]; simp only; rw [hk]; exact h _ _ _ _ rfl (.none _))⟩
theorem get_both {F : Nat} (hF : 5000 ≤ F) {s : ByteArray} (hs : s.size ≤ 300) {p nodes v : Int} (hn0 : 0 ≤ nodes) (hn1 : nodes ≤ 4096) {G0 : SH} (hg : G0.has (0, 0) (rtv 24)) : ∃ (x16 : Int) (e17 : Option EV), ∀ {K : Sl → Int → Option EV → SH → Prop},
    (∀ l15 G1, SH.le G0 G1 → (∀ G', SH.le G1 G' → ladinglaw06_GapGets.j1 F (fun b _ => b = true) s p nodes v l15 x16 e17 G') → K l15 x16 e17 G1) → gap_Get.wp F s p nodes v G0 K := by
  by_cases hv : v < 0 ∨ v ≥ nodes
  · exact ⟨p, erAt p 2, fun h => Get_bad2 hn0 hn1 hv (h _ _ (.refl _) fun G' hle => GapGets_j hF hs (hg.le hle) hn1 hn0 (fun _ => ⟨rfl, rfl, rfl⟩) (fun a b => absurd hv (by omega)))⟩
  by_cases hp : p < 0 ∨ p > s.size
  · exact ⟨p, erAt p 1, fun h => Get_badp hp hn1 (by omega) (by omega) (h _ _ (.refl _) fun G' hle => GapGets_j hF hs (hg.le hle) hn1 hn0 (fun a => absurd a hv) (fun _ _ => ⟨[], rfl, .inl rfl, by simp, fun hk => refGet_bad hF (by omega) hn1 hp (hk _ _ _ _ (.refl _) rfl (.inl rfl) (.at_ _ _))⟩))⟩
  obtain ⟨q, rfl⟩ : ∃ q : Nat, p = q := ⟨p.toNat, by omega⟩
  have err : ∀ a c, (∀ {K : Sl → Int → Option EV → SH → Prop}, K Sl.nil q (erAt a c) G0 → GetK K s q nodes v G0) → (∀ {K : Sl → Int → Int → Int → SH → Prop} {G : SH}, K Sl.nil q c a G → GetR K s q nodes v G) → ∃ (x16 : Int) (e17 : Option EV), ∀ {K : Sl → Int → Option EV → SH → Prop},
      (∀ l15 G1, SH.le G0 G1 → (∀ G', SH.le G1 G' → ladinglaw06_GapGets.j1 F (fun b _ => b = true) s q nodes v l15 x16 e17 G') → K l15 x16 e17 G1) → gap_Get.wp F s q nodes v G0 K := fun a c k1 k2 =>
    ⟨q, erAt a c, fun h => Get_spec hF (by omega) (by omega) hn1 (by omega) (by omega) (k1 (h _ _ (.refl _) fun G' hle => GapGets_j hF hs (hg.le hle) hn1 hn0 (fun a => absurd a hv) (fun _ _ => ⟨[], rfl, .inl rfl, by simp, fun hk => refGet_spec hF (by omega) (by omega) hn1 (by omega) (by omega) (k2 (hk _ _ _ _ (.refl _) rfl (.inl rfl) (.at_ _ _)))⟩)))⟩
  cases hc : countG (bs s) q nodes with
  | error e =>
    obtain ⟨a, c⟩ := e
    exact err a c (fun h => by unfold GetK; rw [hc]; exact h) (fun h => by unfold GetR; rw [hc]; exact h)
  | ok r =>
    obtain ⟨n, q'⟩ := r
    obtain ⟨g1, g2, g3, g4, g5, g6⟩ := countG_ok hc
    rw [bs_len] at g3
    cases hk : getG (bs s) nodes n true v q' with
    | error e =>
      obtain ⟨a, c⟩ := e
      exact err a c (fun h => by unfold GetK; rw [hc]; simp only; rw [hk]; exact h) (fun h => by unfold GetR; rw [hc]; simp only; rw [hk]; exact h)
    | ok r =>
      obtain ⟨l, q2⟩ := r
      obtain ⟨e1, _⟩ := getG_ok n true v q' l q2 hk (by omega) (by omega) (by rw [bs_len]; omega)
      have hlen : ∀ {H0 H1 : SH} {sl : Sl}, Own H0 H1 3 1 sl (intCells l) → sl.len = l.length := fun ho => by have := ho.len; simp [intCells] at this; omega
      refine ⟨q2, none, fun h => Get_spec hF (by omega) (by omega) hn1 (by omega) (by omega) ?_⟩
      unfold GetK
      rw [hc]
      simp only
      rw [hk]
      intro sl G1 ho
      rw [List.nil_append] at ho
      refine h sl G1 ho.le fun G' hle => GapGets_j hF hs ((hg.le ho.le).le hle) hn1 hn0 (fun a => absurd a hv) (fun _ _ => ⟨l, hlen ho, ho.row.le hle, by omega, fun hk2 => refGet_spec hF (by omega) (by omega) hn1 (by omega) (by omega) ?_⟩)
      unfold GetR
      rw [hc]
      simp only
      rw [hk]
      intro sl2 G2 ho2
      rw [List.nil_append] at ho2
      exact hk2 sl2 G2 0 0 ho2.le (hlen ho2) ho2.row (.none _)
theorem GapGets_wp {F : Nat} (hF : 5000 ≤ F) {s : ByteArray} {p nodes v : Int} {H : SH} (hg0 : H.has (0, 0) (rtv 24)) : ladinglaw06_GapGets.wp F s p nodes v H (fun b _ => b = true) := by
  intro b5 hb5
  have k0 : (H.upd b5 ⟨[.int .i64 nodes, .int .i64 v], 55, false, 2⟩).has (b5, 0) (.int .i64 nodes) := has_upd rfl
  have k1 : (H.upd b5 ⟨[.int .i64 nodes, .int .i64 v], 55, false, 2⟩).has (b5, 1) (.int .i64 v) := has_upd rfl
  have hg := hg0.le (le_upd (o := (⟨[.int .i64 nodes, .int .i64 v], 55, false, 2⟩ : AO)) hb5)
  generalize (H.upd b5 ⟨[.int .i64 nodes, .int .i64 v], 55, false, 2⟩) = G0 at k0 k1 hg
  refine awakeD06_spec hF (br_t rfl ⟨fun _ => ⟨G0, .refl G0, rfl⟩, fun hs => ⟨nodes, k0, v, k1, ?_⟩⟩)
  by_cases hn : nodes < 0 ∨ nodes > 4096
  · refine Get_bad1 hn (Skip_bad hn (Count_bad hn ?_))
    by_cases h0 : nodes < 0
    · refine br_t h0 ?_
      repeat first | exact ⟨G0, .refl G0, by simp [placeV, erAt, EV.mk]⟩ | refine br_t rfl ?_ | refine CodeG hg ?_ | refine PlaceG hg ?_
    · refine br_f h0 (br_t (by omega) ?_)
      repeat first | exact ⟨G0, .refl G0, by simp [placeV, erAt, EV.mk]⟩ | refine br_t rfl ?_ | refine CodeG hg ?_ | refine PlaceG hg ?_
  obtain ⟨x22, e23, c1, c2⟩ := count_both hF (s := s) (by omega) (p := p) (nodes := nodes) (by omega) (by omega)
  obtain ⟨x19, e20, s1, s2⟩ := skip_both hF (s := s) (by omega) (p := p) (nodes := nodes) (by omega) (by omega)
  obtain ⟨x16, e17, g1⟩ := get_both hF (s := s) (by omega) (p := p) (nodes := nodes) (v := v) (by omega) (by omega) hg
  refine g1 fun l15 G1 hle1 hj => s1 (c1 (br_f (by omega) (br_f (by omega) (c2 fun X N E A hX hE => s2 fun l N2 E2 A2 hN2 hE2 => ?_))))
  intro b79 hb79 b81 hb81
  have hne : b79 ≠ b81 := by rintro rfl; rw [SH.upd_same] at hb81; cases hb81
  refine ⟨wrs_upd_ne hne (wrs_upd rfl (by simp)), ?_, ?_⟩
  · rw [setl_upd_ne hne]; exact wrs_upd rfl (by simp)
  have hraw : SH.setl (SH.setl (SH.upd (SH.upd G1 b79 ⟨[.int .i64 0, .int .i64 0, .int .i64 0, .int .i64 0], 62, false, 4⟩) b81 ⟨[sv Sl.nil, .int .i64 0, .int .i64 0, .int .i64 0], 65, false, 4⟩) (b79, 0) [.int .i64 X, .int .i64 N, .int .i64 E, .int .i64 A]) (b81, 0) [sv l, .int .i64 N2, .int .i64 E2, .int .i64 A2] = (G1.upd b79 ⟨go4 X N E A, gotT, false, 4⟩).upd b81 ⟨rw4 l N2 E2 A2, rowT, false, 4⟩ := by
    rw [setl_upd_ne hne, show SH.setl (SH.upd G1 b79 ⟨[.int .i64 0, .int .i64 0, .int .i64 0, .int .i64 0], 62, false, 4⟩) (b79, 0) [.int .i64 X, .int .i64 N, .int .i64 E, .int .i64 A] = G1.upd b79 ⟨go4 X N E A, gotT, false, 4⟩ from up4 rfl, setl_upd]
    rfl
  rw [hraw]
  have hb81' : (G1.upd b79 ⟨go4 X N E A, gotT, false, 4⟩) b81 = none := by
    rw [SH.upd_ne _ _ (Ne.symm hne)] at hb81 ⊢; exact hb81
  have hle : SH.le G1 ((G1.upd b79 ⟨go4 X N E A, gotT, false, 4⟩).upd b81 ⟨rw4 l N2 E2 A2, rowT, false, 4⟩) := (le_upd hb79).trans (le_upd hb81')
  have m0 : ((G1.upd b79 ⟨go4 X N E A, gotT, false, 4⟩).upd b81 ⟨rw4 l N2 E2 A2, rowT, false, 4⟩).has (b79, 0) (.int .i64 X) := has_upd_ne hne (has_upd rfl)
  have m2 : ((G1.upd b79 ⟨go4 X N E A, gotT, false, 4⟩).upd b81 ⟨rw4 l N2 E2 A2, rowT, false, 4⟩).has (b79, 2) (.int .i64 E) := has_upd_ne hne (has_upd rfl)
  have m3 : ((G1.upd b79 ⟨go4 X N E A, gotT, false, 4⟩).upd b81 ⟨rw4 l N2 E2 A2, rowT, false, 4⟩).has (b79, 3) (.int .i64 A) := has_upd_ne hne (has_upd rfl)
  have r1 : ((G1.upd b79 ⟨go4 X N E A, gotT, false, 4⟩).upd b81 ⟨rw4 l N2 E2 A2, rowT, false, 4⟩).has (b81, 1) (.int .i64 N2) := has_upd rfl
  have r2 : ((G1.upd b79 ⟨go4 X N E A, gotT, false, 4⟩).upd b81 ⟨rw4 l N2 E2 A2, rowT, false, 4⟩).has (b81, 2) (.int .i64 E2) := has_upd rfl
  have r3 : ((G1.upd b79 ⟨go4 X N E A, gotT, false, 4⟩).upd b81 ⟨rw4 l N2 E2 A2, rowT, false, 4⟩).has (b81, 3) (.int .i64 A2) := has_upd rfl
  generalize ((G1.upd b79 ⟨go4 X N E A, gotT, false, 4⟩).upd b81 ⟨rw4 l N2 E2 A2, rowT, false, 4⟩) = Hh at hle m0 m2 m3 r1 r2 r3 ⊢
  have hgH := (hg.le hle1).le hle
  have tail : ∃ (x101 : Int), Hh.has (b81, 1) (.int .i64 x101) ∧ (x19 ≠ x101 → ∃ Hr, SH.le Hr Hh ∧ false = true) ∧ (¬ (x19 ≠ x101) → ∃ (x104 : Int), api_Code.wp F e20 Hh (fun x104' H' => x104' = x104 ∧ H' = Hh) ∧ ∃ (x106 : Int), Hh.has (b81, 2) (.int .i64 x106) ∧
      (x104 ≠ x106 → ∃ Hr, SH.le Hr Hh ∧ false = true) ∧ (¬ (x104 ≠ x106) → ∃ (x109 : Int), Hh.has (b81, 2) (.int .i64 x109) ∧ (x109 ≠ 0 → ∃ (x112 : Int), api_Place.wp F e20 Hh (fun x112' H' => x112' = x112 ∧ H' = Hh) ∧ ∃ (x114 : Int), Hh.has (b81, 3) (.int .i64 x114) ∧
        (x112 ≠ x114 → ∃ Hr, SH.le Hr Hh ∧ false = true) ∧ (¬ (x112 ≠ x114) → ladinglaw06_GapGets.j1 F (fun b _ => b = true) s p nodes v l15 x16 e17 Hh)) ∧ (¬ (x109 ≠ 0) → ladinglaw06_GapGets.j1 F (fun b _ => b = true) s p nodes v l15 x16 e17 Hh))) :=
    ⟨N2, r1, br_f (fun h => h hN2) ⟨codeV e20, CodeQ hgH, E2, r2, br_f (fun h => h hE2.1) ⟨E2, r2, fun c0 => ⟨placeV e20, PlaceQ hgH, A2, r3, br_f (fun h => h (hE2.2 c0)) (hj Hh hle)⟩, fun _ => hj Hh hle⟩⟩⟩
  exact ⟨X, m0, br_f (fun h => h hX) ⟨codeV e23, CodeQ hgH, E, m2, br_f (fun h => h hE.1) ⟨E, m2, fun c0 => ⟨placeV e23, PlaceQ hgH, A, m3, br_f (fun h => h (hE.2 c0)) tail⟩, fun _ => tail⟩⟩⟩
set_option maxRecDepth 100000 in
open Go.RowKit Go.ChangeShapes Go.WideShapes Go.ChangeAt in
theorem GapGets_walk {X : Prop} {H : Type} {enc : TypeId × Value → H} (W : World) (args : Array Value) (ds : List (DataW H)) (p : List MemPlace) (base : Nat)
    (hval : ∀ (j : Nat) t v, Tryd.f7.params[j]? = some t → args[j]? = some v → Value.okWide Tryd.prog W .any base t v) (hA : DataW.TrodAll enc Tryd.prog W 0 (fun _ => true) true Tryd.f7.params.toList args.toList ds p) (hfz : X)
    (hg : W.cell? ⟨0, 0, none⟩ = some (rtv 24)) :
    (∃ d d2 d3, ds = [d, d2, d3]) ∧ Calls Tryd.prog 7 args W fun e w' => e = .returned (.bool true) ∧ RowKit.Below W.heap.size W w' := by
  rw [Tryd.params7] at hA hval
  obtain ⟨v0, vs0, d0, ds0, p0, q0, hargs, rfl, rfl, h0, r0⟩ := trodAll_cons hA
  obtain ⟨v1, vs1, d1, ds1, p1, q1, rfl, rfl, rfl, h1, r1⟩ := trodAll_cons r0
  obtain ⟨v2, vs2, d2, ds2, p2, q2, rfl, rfl, rfl, h2, r2⟩ := trodAll_cons r1
  obtain ⟨rfl, rfl, rfl⟩ := trodAll_nil r2
  obtain rfl : args = #[v0, v1, v2] := by cases args; simp_all
  obtain ⟨s, rfl, rfl, rfl, hs⟩ := Go.ChangeMaps.open_string Tryd.underlying9 (hval 0 9 v0 rfl rfl) h0
  obtain ⟨x, rfl, rfl, rfl, hx⟩ := open_int Tryd.underlying3 (hval 1 3 v1 rfl rfl) h1
  obtain ⟨cs, rfl, hlen, hcell⟩ := arg_agg (ts := [3, 3]) (.inl ⟨_, _, Tryd.underlying55⟩) (by kernel_rfl) (by kernel_rfl) (hval 2 55 v2 rfl rfl)
  obtain ⟨c0, c1, rfl⟩ : ∃ a b, cs = [a, b] := by
    match cs, hlen with
    | [a, b], _ => exact ⟨a, b, rfl⟩
  obtain ⟨n, rfl, hn0, hn1⟩ := cell_int Tryd.underlying3 (hcell 0 c0 3 rfl rfl)
  obtain ⟨v, rfl, hv0, hv1⟩ := cell_int Tryd.underlying3 (hcell 1 c1 3 rfl rfl)
  refine ⟨⟨_, _, _, rfl⟩, ?_⟩
  have h := ladinglaw06_GapGets.sound 5000 s x n v (SH.of W) _ (GapGets_wp (by omega) (SH.of_cell (p := (0, 0)) hg)) W (SH.of_sat W)
  refine h.mono ?_
  rintro e w' ⟨v, H', rfl, st, q, rfl, rfl⟩
  exact ⟨rfl, st.below fun b o hb => SH.of_ro hb⟩
end Go.Proofs.YtpnbehgkbfhacaaDoor.K
