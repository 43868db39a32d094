/- What the functions of package net do: packets on their way. -/
import Derived.Test.YtkfbmoekghbgbaaLib4
import Derived.Test.YtkfbmoekghbgbaaGnet
set_option linter.unusedVariables false
set_option linter.unusedSimpArgs false
namespace Go.Proofs.Ytkfbmoekghbgbaa.K
open Go
abbrev FLY : TypeId := 74
abbrev NETT : TypeId := 70
abbrev PKT : TypeId := 45
structure Fl where
  f : Int
  t : Int
  d : ByteArray
  q : Bool
def Fl.c (x : Fl) : List Value := [.int .i64 x.f, .int .i64 x.t, .string x.d, .bool x.q]
def flc (l : List Fl) : List Value := l.flatMap Fl.c
theorem flc_len : ∀ l : List Fl, (flc l).length = l.length * 4
  | [] => rfl
  | x :: l => by
    have := flc_len l
    unfold flc at this ⊢
    rw [List.flatMap_cons, List.length_append, this, List.length_cons]
    show 4 + _ = _; omega
theorem flc_app (a b : List Fl) : flc (a ++ b) = flc a ++ flc b := by simp [flc]
theorem flc_one (x : Fl) : flc [x] = x.c := by simp [flc]
theorem flc_take (l : List Fl) (n : Nat) : (flc l).take (n * 4) = flc (l.take n) := by
  by_cases h : n ≤ l.length
  · have e : flc l = flc (l.take n) ++ flc (l.drop n) := by rw [← flc_app, List.take_append_drop]
    rw [e, List.take_append_of_le_length (by rw [flc_len, List.length_take]; omega), List.take_of_length_le (by rw [flc_len, List.length_take]; omega)]
  · rw [List.take_of_length_le (by rw [flc_len]; omega), List.take_of_length_le (by omega)]
theorem flc_drop (l : List Fl) (n : Nat) : (flc l).drop (n * 4) = flc (l.drop n) := by
  by_cases h : n ≤ l.length
  · have e : flc l = flc (l.take n) ++ flc (l.drop n) := by rw [← flc_app, List.take_append_drop]
    have e2 : n * 4 = (flc (l.take n)).length := by rw [flc_len, List.length_take, Nat.min_eq_left h]
    rw [e, e2, List.drop_left]
  · rw [List.drop_eq_nil_of_le (by rw [flc_len]; omega), List.drop_eq_nil_of_le (by omega)]; rfl
theorem flc_get {l : List Fl} {i j : Nat} (h : i < l.length) (hj : j < 4) : (flc l)[i * 4 + j]? = (l[i].c)[j]? := by
  have e : flc l = flc (l.take i) ++ (l[i].c ++ flc (l.drop (i + 1))) := by
    rw [← flc_one, ← flc_app, ← flc_app, List.singleton_append, ← List.drop_eq_getElem_cons h, List.take_append_drop]
  have e2 : i * 4 = (flc (l.take i)).length := by rw [flc_len, List.length_take, Nat.min_eq_left (by omega)]
  rw [e, List.getElem?_append_right (by omega), e2, Nat.add_sub_cancel_left, List.getElem?_append_left (by exact hj)]
theorem flc_ok (l : List Fl) : ∀ u ∈ flc l, u.oneCell' = true := by
  intro u hu
  obtain ⟨x, _, hx⟩ := List.mem_flatMap.1 hu
  simp only [Fl.c, List.mem_cons, List.not_mem_nil, or_false] at hx
  rcases hx with rfl | rfl | rfl | rfl <;> rfl
theorem row_fly {H : SH} {a : Option (Nat × Nat)} {l : List Fl} {i : Nat} (hr : H.row a (flc l)) (h : i < l.length) : ∃ p, a = some p ∧ H.row (some (p.1, p.2 + i * 4)) l[i].c := by
  rcases hr with h0 | ⟨p, o, ha, hb, hh⟩
  · have := flc_len l
    rw [h0] at this
    simp at this; omega
  · refine ⟨p, ha, .inr ⟨_, o, rfl, hb, fun j u hu => ?_⟩⟩
    have hj : j < 4 := (List.getElem?_eq_some_iff.1 hu).1
    have := hh (i * 4 + j) u (by rw [flc_get h hj]; exact hu)
    simpa [Nat.add_assoc] using this
def flO (x : Fl) : AO := ⟨x.c, FLY, false, 4⟩
def z0 : Fl := ⟨0, 0, ByteArray.empty, false⟩
theorem fly_set {H : SH} {b : Nat} {a1 a2 c1 c2 : Int} {a3 c3 : ByteArray} {a4 c4 : Bool} : SH.setl (SH.upd H b ⟨[.int .i64 a1, .int .i64 a2, .string a3, .bool a4], 74, false, 4⟩) (b, 0) [.int .i64 c1, .int .i64 c2, .string c3, .bool c4] = SH.upd H b ⟨[.int .i64 c1, .int .i64 c2, .string c3, .bool c4], 74, false, 4⟩ := by
  rw [setl_upd]; rfl
theorem pkt_set {H : SH} {b : Nat} {a1 a2 c1 c2 : Int} {a3 c3 : ByteArray} : SH.setl (SH.upd H b ⟨[.int .i64 a1, .int .i64 a2, .string a3], 45, false, 3⟩) (b, 0) [.int .i64 c1, .int .i64 c2, .string c3] = SH.upd H b ⟨[.int .i64 c1, .int .i64 c2, .string c3], 45, false, 3⟩ := by
  rw [setl_upd]; rfl
theorem row0 {H : SH} {b : Nat} {o : AO} {cs : List Value} (h : H b = some o) (hc : ∀ (j : Nat) (u : Value), cs[j]? = some u → o.cells[j]? = some u) : H.row (some (b, 0)) cs := .inr ⟨(b, 0), o, rfl, h, fun j u hu => by rw [Nat.zero_add]; exact hc j u hu⟩
theorem On.temp {I : Pr} (hI : Loc I) {H0 H : SH} (h : On I H0 H) {b : Nat} (hb : H b = none) (o : AO) : ∃ H2, On I H2 (H.upd b o) ∧ H2 b = some o ∧ SH.le H0 H2 := by
  obtain ⟨H2, c, h2, h3⟩ := Chain.temp (L := [⟨I, hI⟩]) ⟨H0, h, .refl _⟩ hb o
  exact ⟨H2, c.on, h2, h3⟩
/-! ### a net -/
def NetI (bn : Nat) (fl : List Fl) : Pr := fun H fp => ∃ S : Sl, Star (Blk bn ⟨[sv S], NETT, false, 1⟩) (SlG FLY 4 S (flc fl)) H fp
theorem Loc.net {bn : Nat} {fl : List Fl} : Loc (NetI bn fl) :=
  ⟨fun ⟨A, h⟩ hh => ⟨A, (Loc.star .blk .slg).loc h hh⟩, fun ⟨A, h⟩ hb => (Loc.star .blk .slg).in_ h hb⟩
def nt (bn : Nat) (fl : List Fl) : LP := ⟨NetI bn fl, .net⟩
theorem net_open {bn : Nat} {fl : List Fl} {H0 H : SH} (h : On (NetI bn fl) H0 H) : ∃ S, Chain [blkL bn ⟨[sv S], NETT, false, 1⟩, slG FLY 4 S (flc fl)] H0 H := by
  obtain ⟨hl, fp, ⟨S, hd⟩, hn⟩ := h
  obtain ⟨H1, h1, h2⟩ := On.unstar .blk .slg (show On (Star _ _) H0 H from ⟨hl, fp, hd, hn⟩)
  exact ⟨S, H1, h1, H0, h2, .refl _⟩
theorem net_close {bn : Nat} {fl : List Fl} {H0 H : SH} {S : Sl} (h : Chain [blkL bn ⟨[sv S], NETT, false, 1⟩, slG FLY 4 S (flc fl)] H0 H) : On (NetI bn fl) H0 H := by
  obtain ⟨H1, h1, H2, h2, h3⟩ := h
  obtain ⟨a, f, h, c⟩ := On.star .blk .slg h1 h2
  exact On.below ⟨a, f, ⟨S, h⟩, c⟩ h3
section
variable {F : Nat} {H H0 : SH} {bn : Nat} {fl : List Fl}
theorem New19_spec {K : Option (Nat × Nat) → SH → Prop} (k : ∀ b H', H b = none → On (NetI b []) H H' → K (some (b, 0)) H') : net_New.wp F H K := by
  refine fun b hb => ⟨_, .refl _, k b _ hb (net_close (S := Sl.nil) ⟨H, On.new hb, H, On.nilG FLY 4 H, .refl _⟩)⟩
theorem push_spec {x : Fl} (hn : fl.length ≤ 1000000) (h : On (NetI bn fl) H0 H) {K : SH → Prop} (k : ∀ H', On (NetI bn ((fl ++ [x]).drop ((fl ++ [x]).length - 300))) H0 H' → K H') : net_Net_push.wp F (some (bn, 0)) x.f x.t x.d x.q H K := by
  intro b6 hb6
  obtain ⟨H0', g, gt, gle⟩ := On.temp .net h hb6 (flO x)
  have hG : (SH.upd H b6 (flO x)) b6 = some (flO x) := SH.upd_same _ _ _
  have g : On (NetI bn fl) H0' (H.upd b6 (flO x)) := g
  refine p_some ?_
  show ∃ l10, SH.has (SH.upd H b6 (flO x)) (bn, 0) (sv l10) ∧ _
  generalize hGG : SH.upd H b6 (flO x) = G at *
  have hG' : SH.upd H b6 ⟨[.int .i64 x.f, .int .i64 x.t, .string x.d, .bool x.q], 74, false, 4⟩ = G := hGG
  rw [hG']
  obtain ⟨S, c⟩ := net_open g
  have hb : On (Blk bn ⟨[sv S], NETT, false, 1⟩) H0' G := c.on
  have hs : On (SlG FLY 4 S (flc fl)) H0' G := Chain.at [blkL bn ⟨[sv S], NETT, false, 1⟩] c
  have hSl := hs.lenG
  rw [flc_len] at hSl
  refine ⟨S, hb.has rfl, x.f, x.t, x.d, x.q, row0 hG fun j u hu => hu, fun b17 hb17 => ⟨x.c, row0 (SH.upd_same _ _ _) fun j u hu => hu, ?_⟩⟩
  have c1 : Chain [blkL b17 (flO x), blkL bn ⟨[sv S], NETT, false, 1⟩, slG FLY 4 S (flc fl)] H0' (G.upd b17 (flO x)) := ⟨G, On.new hb17, c⟩
  have c2 := Chain.pull [blkL b17 (flO x), blkL bn ⟨[sv S], NETT, false, 1⟩] c1
  obtain ⟨Hx, s2, c3⟩ := c2
  have s2 : On (SlG FLY 4 S (flc fl)) Hx (G.upd b17 (flO x)) := s2
  have c3 : Chain [blkL b17 (flO x), blkL bn ⟨[sv S], NETT, false, 1⟩] H0' Hx := c3
  refine s2.appendG (by simp only []; omega) (by simp only []; omega) rfl (by simp [Fl.c, Value.oneCell']) fun l20 H21 s3 hl20 => ?_
  have hl20 : l20.len = fl.length + 1 := by rw [hl20]; simp only []; omega
  have c4 : Chain [slG FLY 4 l20 (flc fl ++ x.c), blkL b17 (flO x), blkL bn ⟨[sv S], NETT, false, 1⟩] H0' H21 := ⟨Hx, s3, c3⟩
  obtain ⟨Hy, b5, c6⟩ := Chain.pull [slG FLY 4 l20 (flc fl ++ x.c), blkL b17 (flO x)] c4
  have b5 : On (Blk bn ⟨[sv S], NETT, false, 1⟩) Hy H21 := b5
  have c6 : Chain [slG FLY 4 l20 (flc fl ++ x.c), blkL b17 (flO x)] H0' Hy := c6
  have b6' := On.setl (k := 0) (vs := [sv l20]) b5
  have b6'' : On (Blk bn ⟨[sv l20], NETT, false, 1⟩) Hy (SH.setl H21 (bn, 0) [sv l20]) := b6'
  have b7 : On (Blk bn ⟨[sv (Sl.sub 4 l20 ((fl ++ [x]).length - 300) l20.len l20.cap)], NETT, false, 1⟩) Hy (SH.setl (SH.setl H21 (bn, 0) [sv l20]) (bn, 0) [sv (Sl.sub 4 l20 ((fl ++ [x]).length - 300) l20.len l20.cap)]) := On.setl (k := 0) b6''
  have s8 : On (SlG FLY 4 l20 (flc fl ++ x.c)) H0' Hy := c6.on
  have hcap := s8.capG
  have ek : imax (w64 ((l20.len : Int) - 300)) 0 = (((fl ++ [x]).length - 300 : Nat) : Int) := by
    rw [hl20, w64_id (by omega), List.length_append, List.length_singleton]
    unfold imax
    split <;> omega
  refine ⟨b5.wrs rfl (Nat.le_refl _), l20, b6''.has rfl, l20, b6''.has rfl, ?_⟩
  rw [ek]
  simp only [Int.toNat_natCast]
  have hlx : (fl ++ [x]).length = fl.length + 1 := by simp
  refine ⟨by omega, by omega, by omega, b6''.wrs rfl (Nat.le_refl _), _, .refl _, k _ ?_⟩
  have s9 := s8.subG (lo := (fl ++ [x]).length - 300) (hi := l20.len) (by omega) (Nat.le_refl _)
  have e9 : ((flc fl ++ x.c).take (l20.len * 4)).drop (((fl ++ [x]).length - 300) * 4) = flc ((fl ++ [x]).drop ((fl ++ [x]).length - 300)) := by
    have e1 : flc fl ++ x.c = flc (fl ++ [x]) := by rw [flc_app, flc_one]
    rw [e1, List.take_of_length_le (by rw [flc_len]; omega), flc_drop]
  rw [e9] at s9
  exact On.below (net_close ⟨Hy, b7, H0', s9, .refl _⟩) gle
/-- A packet that there is. -/
theorem at_spec {i : Nat} (hi : i < fl.length) (h : On (NetI bn fl) H0 H) {K : Int → Int → ByteArray → Bool → Option EV → SH → Prop} (k : K fl[i].f fl[i].t fl[i].d fl[i].q none H) : net_Net_at.wp F (some (bn, 0)) (i : Int) H K := by
  intro b3 hb3
  obtain ⟨H0', g, gt, gle⟩ := On.temp .net h hb3 (flO z0)
  obtain ⟨S, c⟩ := net_open g
  have hb : On (Blk bn ⟨[sv S], NETT, false, 1⟩) H0' (H.upd b3 (flO z0)) := c.on
  have hs : On (SlG FLY 4 S (flc fl)) H0' (H.upd b3 (flO z0)) := Chain.at [blkL bn ⟨[sv S], NETT, false, 1⟩] c
  have hSl := hs.lenG
  rw [flc_len] at hSl
  obtain ⟨p, hp, hrow⟩ := row_fly hs.rowG hi
  refine p_some (br_f (by omega) ⟨S, hb.has rfl, br_f (by omega) ⟨S, hb.has rfl, p, hp, by omega, by omega, fl[i].f, fl[i].t, fl[i].d, fl[i].q, hrow, wrs_upd rfl (Nat.le_refl _), ?_⟩⟩)
  rw [fly_set]
  exact ⟨fl[i].f, fl[i].t, fl[i].d, fl[i].q, row0 (SH.upd_same _ _ _) fun j u hu => hu, H, le_upd hb3, k⟩
theorem at_bad {i : Int} (hi : i < 0 ∨ i ≥ fl.length) (h : On (NetI bn fl) H0 H) {K : Int → Int → ByteArray → Bool → Option EV → SH → Prop} (k : K 0 0 ByteArray.empty false (some (.no 9)) H) : net_Net_at.wp F (some (bn, 0)) i H K := by
  intro b3 hb3
  obtain ⟨H0', g, gt, gle⟩ := On.temp .net h hb3 (flO z0)
  obtain ⟨S, c⟩ := net_open g
  have hb : On (Blk bn ⟨[sv S], NETT, false, 1⟩) H0' (H.upd b3 (flO z0)) := c.on
  have hs : On (SlG FLY 4 S (flc fl)) H0' (H.upd b3 (flO z0)) := Chain.at [blkL bn ⟨[sv S], NETT, false, 1⟩] c
  have hSl := hs.lenG
  rw [flc_len] at hSl
  have fin : SH.wrs (SH.upd H b3 ⟨[.int .i64 0, .int .i64 0, .string ByteArray.empty, .bool false], 74, false, 4⟩) (b3, 0) 4 ∧ ∃ (x15 : Int) (x16 : Int) (s17 : ByteArray) (q18 : Bool), SH.row (SH.setl (SH.upd H b3 ⟨[.int .i64 0, .int .i64 0, .string ByteArray.empty, .bool false], 74, false, 4⟩) (b3, 0) [.int .i64 0, .int .i64 0, .string ByteArray.empty, .bool false]) (some (b3, 0)) [.int .i64 x15, .int .i64 x16, .string s17, .bool q18] ∧ ∃ Hr, SH.le Hr (SH.setl (SH.upd H b3 ⟨[.int .i64 0, .int .i64 0, .string ByteArray.empty, .bool false], 74, false, 4⟩) (b3, 0) [.int .i64 0, .int .i64 0, .string ByteArray.empty, .bool false]) ∧ K x15 x16 s17 q18 (some (EV.no 9)) Hr := by
    rw [fly_set]
    exact ⟨wrs_upd rfl (Nat.le_refl _), 0, 0, ByteArray.empty, false, row0 (SH.upd_same _ _ _) fun j u hu => hu, H, le_upd hb3, k⟩
  refine p_some ?_
  by_cases hn : i < 0
  · exact br_t hn fin
  · exact br_f hn ⟨S, hb.has rfl, br_t (by omega) fin⟩
theorem at_none {i : Int} {K : Int → Int → ByteArray → Bool → Option EV → SH → Prop} (k : K 0 0 ByteArray.empty false (some (.no 1)) H) : net_Net_at.wp F none i H K := by
  intro b3 hb3
  refine p_none ?_
  rw [fly_set]
  exact ⟨wrs_upd rfl (Nat.le_refl _), 0, 0, ByteArray.empty, false, row0 (SH.upd_same _ _ _) fun j u hu => hu, H, le_upd hb3, k⟩
/-! ### slices of slices -/
theorem zeros_len (z : Value) (n : Nat) {k : Nat} (h : z.cells.size = k) : (Builtin.zeroCells z.cells n).toList.length = n * k := by rw [Array.length_toList, size_zeroCells, h]
theorem zeros_ok (n : Nat) : ∀ u ∈ (Builtin.zeroCells (Value.cells (.agg #[.int .i64 0, .int .i64 0, .string ByteArray.empty, .bool false] : Value)) n).toList, u.oneCell' = true := zero_one (by decide) n
theorem Grow_spec {n : Nat} (hn : n ≤ 1000000000) {K : Sl → SH → Prop} (k : ∀ l H', On (SlG FLY 4 l []) H H' → l.len = 0 → n ≤ l.cap → K l H') : slices_Grow_net_flying_net_flying.wp F Sl.nil (n : Int) H K := by
  refine br_f (by omega) ?_
  have e1 : w64 ((n : Int) - w64 ((Sl.nil.cap : Int) - (Sl.nil.len : Int))) = n := by
    have e0 : w64 ((Sl.nil.cap : Int) - (Sl.nil.len : Int)) = 0 := by decide
    rw [e0, Int.sub_zero, w64_id (by omega)]
  unfold slices_Grow_net_flying_net_flying.j1
  rw [e1]
  by_cases h0 : n = 0
  · exact br_f (by omega) ⟨H, .refl H, k _ _ (On.nilG FLY 4 H) rfl (by omega)⟩
  · refine br_t (by omega) ⟨by omega, by decide, by decide, by omega, ?_⟩
    simp only [Int.toNat_natCast]
    have es : Sl.sub 4 Sl.nil (0 : Int).toNat (Sl.nil.cap : Int).toNat Sl.nil.cap = Sl.nil := by unfold Sl.sub Sl.nil; simp
    show AppendQ H FLY 4 40 (Sl.sub 4 Sl.nil (0 : Int).toNat Sl.nil.cap Sl.nil.cap) n _ _
    have es2 : Sl.sub 4 Sl.nil (0 : Int).toNat Sl.nil.cap Sl.nil.cap = Sl.nil := by unfold Sl.sub Sl.nil; simp
    rw [es2]
    refine (On.nilG FLY 4 H).appendG (by show (0 + n) * 40 ≤ _; omega) (by show 0 + n ≤ _; omega) (zeros_len _ _ rfl) (zeros_ok n) fun l10 H11 s hl => ?_
    have hc := s.capG
    have hl : l10.len = n := by rw [hl]; exact Nat.zero_add n
    refine ⟨by omega, by decide, by show ((0 : Nat) : Int) ≤ _; omega, H11, .refl _, ?_⟩
    have s2 := s.subG (lo := 0) (hi := 0) (Nat.le_refl _) (Nat.zero_le _)
    simp only [Nat.zero_mul, List.take_zero, List.drop_nil] at s2
    refine k _ H11 s2 rfl ?_
    show n ≤ l10.cap - 0
    omega
/-- Two slices, one behind the other. -/
theorem Concat_spec {l s1 s2 : Sl} {a1 a2 : List Fl} (hF : 10 ≤ F) (hl : l.len = 2) (hr : H.row l.a [sv s1, sv s2]) (h1 : H.row s1.a (flc a1)) (h2 : H.row s2.a (flc a2)) (n1 : s1.len = a1.length) (n2 : s2.len = a2.length) (b1 : a1.length ≤ 1000000) (b2 : a2.length ≤ 1000000)
    {K : Sl → SH → Prop} (k : ∀ l' H', On (SlG FLY 4 l' (flc (a1 ++ a2))) H H' → K l' H') : slices_Concat_net_flying_net_flying.wp F l H K := by
  have h3 : ∀ f, 3 ≤ f → slices_Concat_net_flying_net_flying.l1 F K f l 0 l ((2 : Nat) : Int) 0 H := fun f hf => by
    obtain ⟨f, rfl⟩ : ∃ i, f = i + 3 := ⟨f - 3, by omega⟩
    refine br_t (by omega) (row_at (i := 0) hr rfl (by omega) fun p hp hh => ⟨s1, hh, ?_⟩)
    rw [Int.zero_add, w64_id (x := (s1.len : Int)) (by omega)]
    refine br_f (by omega) ?_
    unfold slices_Concat_net_flying_net_flying.j2 slices_Concat_net_flying_net_flying.j1
    rw [show w64 ((0 : Int) + 1) = ((1 : Nat) : Int) by decide]
    refine br_t (by omega) (row_at (i := 1) hr rfl (by omega) fun p hp hh => ⟨s2, hh, ?_⟩)
    rw [w64_id (x := (s1.len : Int) + (s2.len : Int)) (by omega)]
    refine br_f (by omega) ?_
    unfold slices_Concat_net_flying_net_flying.j2 slices_Concat_net_flying_net_flying.j1
    rw [show w64 (((1 : Nat) : Int) + 1) = ((2 : Nat) : Int) by decide, show (s1.len : Int) + (s2.len : Int) = ((a1.length + a2.length : Nat) : Int) by omega]
    refine br_f (by omega) (Grow_spec (by omega) fun l27 H28 g gl gc => ?_)
    have hrow := hr.le g.le
    rw [hl]
    obtain ⟨F', rfl⟩ : ∃ i, F = i + 3 := ⟨F - 3, by omega⟩
    refine br_t (by omega) (row_at (i := 0) hrow rfl (by omega) fun p hp hh => ⟨s1, hh, flc a1, h1.le g.le, ?_⟩)
    refine g.appendG (by rw [gl, n1]; omega) (by rw [gl, n1]; omega) (by rw [flc_len, n1]) (flc_ok a1) fun l40 H41 g2 gl2 => ?_
    rw [show w64 ((0 : Int) + 1) = ((1 : Nat) : Int) by decide]
    refine br_t (by omega) (row_at (i := 1) (hr.le g2.le) rfl (by omega) fun p hp hh => ⟨s2, hh, flc a2, h2.le g2.le, ?_⟩)
    refine g2.appendG (by rw [gl2, gl, n1, n2]; omega) (by rw [gl2, gl, n1, n2]; omega) (by rw [flc_len, n2]) (flc_ok a2) fun l41 H42 g3 gl3 => ?_
    rw [show w64 (((1 : Nat) : Int) + 1) = ((2 : Nat) : Int) by decide]
    refine br_f (by omega) ⟨H42, .refl _, k _ _ ?_⟩
    rw [List.nil_append, ← flc_app] at g3
    exact g3
  have := h3 F (by omega)
  show slices_Concat_net_flying_net_flying.l1 F K F l 0 l (l.len : Int) 0 H
  rw [hl]; exact this
theorem erase_split (fl : List Fl) (i : Nat) : fl.eraseIdx i = fl.take i ++ fl.drop (i + 1) := List.eraseIdx_eq_take_drop_succ fl i
/-- A packet is taken off. -/
theorem off_spec {i : Nat} (hF : 10 ≤ F) (hn : fl.length ≤ 1000000) (hi : i < fl.length) (h : On (NetI bn fl) H0 H) {K : Int → Int → ByteArray → Bool → Option EV → SH → Prop} (k : ∀ H', On (NetI bn (fl.eraseIdx i)) H0 H' → K fl[i].f fl[i].t fl[i].d fl[i].q none H') : net_Net_off.wp F (some (bn, 0)) (i : Int) H K := by
  intro b3 hb3
  have c1 : Chain [blkL b3 (flO z0), nt bn fl] H0 (H.upd b3 (flO z0)) := ⟨H, On.new hb3, H0, h, .refl _⟩
  refine at_spec hi (Chain.at [blkL b3 (flO z0)] c1) fun b11 hb11 => ⟨wrs_upd rfl (Nat.le_refl _), o_none (p_some ?_)⟩
  rw [fly_set]
  show ∃ l17, SH.has (SH.upd (H.upd b3 (flO z0)) b11 (flO fl[i])) (bn, 0) (sv l17) ∧ _
  have c2 : Chain [blkL b11 (flO fl[i]), blkL b3 (flO z0), nt bn fl] H0 (SH.upd (H.upd b3 (flO z0)) b11 (flO fl[i])) := ⟨_, On.new hb11, c1⟩
  generalize hG : SH.upd (H.upd b3 (flO z0)) b11 (flO fl[i]) = G at *
  have hG' : SH.upd (H.upd b3 (flO z0)) b11 ⟨[.int .i64 fl[i].f, .int .i64 fl[i].t, .string fl[i].d, .bool fl[i].q], 74, false, 4⟩ = G := hG
  rw [hG']
  obtain ⟨Hn, n1, c3⟩ := Chain.pull [blkL b11 (flO fl[i]), blkL b3 (flO z0)] c2
  have n1 : On (NetI bn fl) Hn G := n1
  have c3 : Chain [blkL b11 (flO fl[i]), blkL b3 (flO z0)] H0 Hn := c3
  obtain ⟨S, c4⟩ := net_open n1
  have hb : On (Blk bn ⟨[sv S], NETT, false, 1⟩) Hn G := c4.on
  have hs : On (SlG FLY 4 S (flc fl)) Hn G := Chain.at [blkL bn ⟨[sv S], NETT, false, 1⟩] c4
  have hSl := hs.lenG
  have hcap := hs.capG
  rw [flc_len] at hSl
  have hSl' : S.len = fl.length := by omega
  have e1 : w64 ((i : Int) + 1) = ((i + 1 : Nat) : Int) := by rw [w64_id (by omega)]; omega
  refine ⟨S, hb.has rfl, by omega, by omega, by omega, S, hb.has rfl, ?_⟩
  rw [e1]
  simp only [Int.toNat_natCast]
  refine ⟨by omega, by omega, by omega, fun b27 hb27 => ?_⟩
  have ra := row_subG (size := 4) (m := S.cap) hs.rowG (Nat.zero_le i) (by omega : i ≤ S.cap)
  have rb := row_subG (size := 4) (m := S.cap) (lo := i + 1) (hi := S.len) hs.rowG (by omega) hcap
  rw [flc_take, Nat.zero_mul, List.drop_zero] at ra
  rw [List.take_of_length_le (by rw [flc_len]; omega), flc_drop] at rb
  have lup := le_upd (o := ⟨[sv (Sl.sub 4 S (0 : Int).toNat i S.cap), sv (Sl.sub 4 S (i + 1) S.len S.cap)], 68, false, 2⟩) hb27
  refine Concat_spec (s1 := Sl.sub 4 S (0 : Int).toNat i S.cap) (s2 := Sl.sub 4 S (i + 1) S.len S.cap) (a1 := fl.take i) (a2 := fl.drop (i + 1)) hF rfl (row0 (SH.upd_same _ _ _) fun j u hu => hu) (ra.le lup) (rb.le lup) (by show i - (0 : Int).toNat = _; rw [List.length_take]; show i - 0 = _; omega) (by show S.len - (i + 1) = _; rw [List.length_drop]; omega) (by rw [List.length_take]; omega) (by rw [List.length_drop]; omega) fun l30 H31 g => ?_
  rw [← erase_split] at g
  have c5 : Chain [slG FLY 4 l30 (flc (fl.eraseIdx i)), blkL bn ⟨[sv S], NETT, false, 1⟩, slG FLY 4 S (flc fl)] Hn H31 := ⟨_, g, Chain.above c4 lup⟩
  have c6 := Chain.keepG [slG FLY 4 l30 (flc (fl.eraseIdx i)), blkL bn ⟨[sv S], NETT, false, 1⟩] c5
  obtain ⟨Hb, b7, c7⟩ := Chain.pull [slG FLY 4 l30 (flc (fl.eraseIdx i))] c6
  have b7 : On (Blk bn ⟨[sv S], NETT, false, 1⟩) Hb H31 := b7
  have b8 : On (Blk bn ⟨[sv l30], NETT, false, 1⟩) Hb (SH.setl H31 (bn, 0) [sv l30]) := On.setl (k := 0) (vs := [sv l30]) b7
  refine ⟨b7.wrs rfl (Nat.le_refl _), ?_⟩
  have n2 : On (NetI bn (fl.eraseIdx i)) Hn (SH.setl H31 (bn, 0) [sv l30]) := net_close ⟨Hb, b8, c7⟩
  generalize SH.setl H31 (bn, 0) [sv l30] = J at *
  have c9 : Chain [nt bn (fl.eraseIdx i), blkL b11 (flO fl[i]), blkL b3 (flO z0)] H0 J := ⟨Hn, n2, c3⟩
  have b11' : On (Blk b11 (flO fl[i])) H0 J := Chain.at [nt bn (fl.eraseIdx i)] c9
  obtain ⟨Hc, b3', c10⟩ := Chain.pull [nt bn (fl.eraseIdx i), blkL b11 (flO fl[i])] c9
  have b3' : On (Blk b3 (flO z0)) Hc J := b3'
  have b3'' := On.setl (k := 0) (vs := [.int .i64 fl[i].f, .int .i64 fl[i].t, .string fl[i].d, .bool fl[i].q]) b3'
  refine ⟨fl[i].f, fl[i].t, fl[i].d, fl[i].q, row0 (On.blk.1 b11').2.2 fun j u hu => hu, b3'.wrs rfl (Nat.le_refl _), fl[i].f, fl[i].t, fl[i].d, fl[i].q, row0 (On.blk.1 b3'').2.2 (fun j u hu => hu), _, .refl _, k _ ?_⟩
  have c11 : Chain [blkL b3 { flO z0 with cells := wrl (flO z0).cells 0 [.int .i64 fl[i].f, .int .i64 fl[i].t, .string fl[i].d, .bool fl[i].q] }, nt bn (fl.eraseIdx i), blkL b11 (flO fl[i])] H0 _ := ⟨Hc, b3'', c10⟩
  exact Chain.at [blkL b3 { flO z0 with cells := wrl (flO z0).cells 0 [.int .i64 fl[i].f, .int .i64 fl[i].t, .string fl[i].d, .bool fl[i].q] }] c11
theorem off_bad {i : Int} (hi : i < 0 ∨ i ≥ fl.length) (h : On (NetI bn fl) H0 H) {K : Int → Int → ByteArray → Bool → Option EV → SH → Prop} (k : ∀ H', On (NetI bn fl) H0 H' → K 0 0 ByteArray.empty false (some (.no 9)) H') : net_Net_off.wp F (some (bn, 0)) i H K := by
  intro b3 hb3
  have c1 : Chain [blkL b3 (flO z0), nt bn fl] H0 (H.upd b3 (flO z0)) := ⟨H, On.new hb3, H0, h, .refl _⟩
  refine at_bad hi (Chain.at [blkL b3 (flO z0)] c1) fun b11 hb11 => ⟨wrs_upd rfl (Nat.le_refl _), o_some ?_⟩
  rw [fly_set]
  have c2 : Chain [blkL b11 (flO z0), blkL b3 (flO z0), nt bn fl] H0 (SH.upd (H.upd b3 (flO z0)) b11 (flO z0)) := ⟨_, On.new hb11, c1⟩
  show net_Net_off.j1 F K b3 b11 (some (.no 9)) (SH.upd (H.upd b3 (flO z0)) b11 (flO z0))
  generalize SH.upd (H.upd b3 (flO z0)) b11 (flO z0) = J at *
  have b11' : On (Blk b11 (flO z0)) H0 J := c2.on
  obtain ⟨Hc, b3', c10⟩ := Chain.pull [blkL b11 (flO z0)] c2
  have b3' : On (Blk b3 (flO z0)) Hc J := b3'
  have b3'' := On.setl (k := 0) (vs := [.int .i64 0, .int .i64 0, .string ByteArray.empty, .bool false]) b3'
  refine ⟨0, 0, ByteArray.empty, false, row0 (On.blk.1 b11').2.2 fun j u hu => hu, b3'.wrs rfl (Nat.le_refl _), 0, 0, ByteArray.empty, false, row0 (On.blk.1 b3'').2.2 (fun j u hu => hu), _, .refl _, k _ ?_⟩
  have c11 : Chain [blkL b3 { flO z0 with cells := wrl (flO z0).cells 0 [.int .i64 0, .int .i64 0, .string ByteArray.empty, .bool false] }, blkL b11 (flO z0), nt bn fl] H0 _ := ⟨Hc, b3'', c10⟩
  exact Chain.at [blkL b3 { flO z0 with cells := wrl (flO z0).cells 0 [.int .i64 0, .int .i64 0, .string ByteArray.empty, .bool false] }, blkL b11 (flO z0)] c11
theorem Len19_spec (h : On (NetI bn fl) H0 H) {K : Int → SH → Prop} (k : K fl.length H) : net_Net_Len.wp F (some (bn, 0)) H K := by
  obtain ⟨S, c⟩ := net_open h
  have hb : On (Blk bn ⟨[sv S], NETT, false, 1⟩) H0 H := c.on
  have hs : On (SlG FLY 4 S (flc fl)) H0 H := Chain.at [blkL bn ⟨[sv S], NETT, false, 1⟩] c
  have hSl := hs.lenG
  rw [flc_len] at hSl
  refine p_some ⟨S, hb.has rfl, H, .refl H, ?_⟩
  rw [show S.len = fl.length by omega]; exact k
theorem Twice_spec {i : Nat} (hn : fl.length ≤ 1000000) (hi : i < fl.length) (h : On (NetI bn fl) H0 H) {K : Option EV → SH → Prop} (k : ∀ H', On (NetI bn ((fl ++ [fl[i]]).drop ((fl ++ [fl[i]]).length - 300))) H0 H' → K none H') : net_Net_Twice.wp F (some (bn, 0)) (i : Int) H K := by
  refine at_spec hi h fun b9 hb9 => ⟨wrs_upd rfl (Nat.le_refl _), o_none ?_⟩
  rw [fly_set]
  obtain ⟨H0', g, gt, gle⟩ := On.temp .net h hb9 (flO fl[i])
  exact ⟨fl[i].f, fl[i].t, fl[i].d, fl[i].q, row0 (SH.upd_same _ _ _) fun j u hu => hu, push_spec hn g fun H' h' => ⟨H', .refl _, k H' (h'.below gle)⟩⟩
theorem Twice_bad {i : Int} (hi : i < 0 ∨ i ≥ fl.length) (h : On (NetI bn fl) H0 H) {K : Option EV → SH → Prop} (k : K (some (.no 9)) H) : net_Net_Twice.wp F (some (bn, 0)) i H K := by
  refine at_bad hi h fun b9 hb9 => ⟨wrs_upd rfl (Nat.le_refl _), o_some ?_⟩
  rw [fly_set]
  exact ⟨H, le_upd hb9, k⟩
/-- May it be sent? -/
def sendE (f t : Int) (d : ByteArray) : Nat := if f < 0 ∨ f > 5 ∨ t < 0 ∨ t ≥ 5 ∨ f = t then 1 else if d.size > 8000 then 6 else 0
theorem Send_spec {f t : Int} {d : ByteArray} (hn : fl.length ≤ 1000000) (h : On (NetI bn fl) H0 H) {K : Option EV → SH → Prop} (k1 : sendE f t d = 0 → ∀ H', On (NetI bn ((fl ++ [(⟨f, t, d, false⟩ : Fl)]).drop ((fl ++ [(⟨f, t, d, false⟩ : Fl)]).length - 300))) H0 H' → K none H')
    (k2 : sendE f t d ≠ 0 → K (some (.no (sendE f t d))) H) : net_Net_Send.wp F (some (bn, 0)) f t d H K := by
  have bad : (f < 0 ∨ f > 5 ∨ t < 0 ∨ t ≥ 5 ∨ f = t) → ∃ Hr, SH.le Hr H ∧ K (some (EV.no 1)) Hr := fun hb => by
    have e : sendE f t d = 1 := if_pos hb
    rw [e] at k2
    exact ⟨H, .refl H, k2 (by decide)⟩
  refine p_some ?_
  by_cases c1 : f < 0
  · exact br_t c1 (bad (.inl c1))
  refine br_f c1 ?_
  by_cases c2 : f > 5
  · exact br_t c2 (bad (.inr (.inl c2)))
  refine br_f c2 ?_
  by_cases c3 : t < 0
  · exact br_t c3 (bad (.inr (.inr (.inl c3))))
  refine br_f c3 ?_
  by_cases c4 : t ≥ 5
  · exact br_t c4 (bad (.inr (.inr (.inr (.inl c4)))))
  refine br_f c4 ?_
  by_cases c5 : f = t
  · exact br_t c5 (bad (.inr (.inr (.inr (.inr c5)))))
  refine br_f c5 ?_
  have hne : ¬ (f < 0 ∨ f > 5 ∨ t < 0 ∨ t ≥ 5 ∨ f = t) := by omega
  by_cases c6 : d.size > 8000
  · have e : sendE f t d = 6 := by unfold sendE; rw [if_neg hne, if_pos c6]
    rw [e] at k2
    exact br_t (by omega) ⟨H, .refl H, k2 (by decide)⟩
  · have e : sendE f t d = 0 := by unfold sendE; rw [if_neg hne, if_neg c6]
    exact br_f (by omega) (push_spec (x := ⟨f, t, d, false⟩) hn h fun H' h' => ⟨H', .refl _, k1 e H' h'⟩)
/-! ### a packet is put between the others -/
theorem AppendQ.grow {H : SH} {E : TypeId} {size bytes m : Nat} {l : Sl} {cs news : List Value} {K : Sl → SH → Prop} (hb : (l.len + m) * bytes ≤ 140737488355328) (h63 : l.len + m ≤ 9223372036854775807) (hr : H.row l.a cs) (hl : cs.length = l.len * size) (hc : l.cap < l.len + m)
    (hn : news.length = m * size) (h1 : ∀ u ∈ news, u.oneCell' = true) (hk : ∀ l' H', On (SlG E size l' (cs ++ news)) H H' → l'.len = l.len + m → K l' H') : AppendQ H E size bytes l m news K := by
  refine ⟨hb, h63, hn, h1, fun h => absurd h (by omega), fun _ => ⟨cs, hl, hr, fun b cap hbn hcap => ?_⟩⟩
  have hlen : (cs ++ news).length = (l.len + m) * size := by rw [List.length_append, hl, hn, Nat.add_mul]
  exact hk _ _ (On.mkG (b := b) (pre := []) (post := []) (le_upd hbn) hlen rfl hcap hbn (by rw [SH.upd_same]; simp; rfl) (by simp)) rfl
theorem Sl.sub0 (s : Nat) (l : Sl) (n m : Nat) : Sl.sub s l 0 n m = ⟨l.a, n, m⟩ := by
  unfold Sl.sub
  split
  · simp
  · cases l.a <;> simp
theorem Sl.subA {s : Nat} {l : Sl} {lo hi m : Nat} {p : Nat × Nat} (h : m ≠ lo) (hp : l.a = some p) : (Sl.sub s l lo hi m).a = some (p.1, p.2 + lo * s) := by
  unfold Sl.sub
  rw [if_neg h, hp]; rfl
/-- What stands there is written, and what stands behind it. -/
theorem On.putX {E : TypeId} {size : Nat} {l : Sl} {cs : List Value} {H0 H : SH} (h : On (SlG E size l cs) H0 H) {k : Nat} {vs : List Value} {n : Nat} (hk : k ≤ cs.length) (hn : n ≤ l.cap) (hv : cs.length ≤ n * size) (hw : (wrl cs k vs).length = n * size) {p : Nat × Nat} (hp : l.a = some p) : SH.wrx H (p.1, p.2 + k) vs.length ∧ On (SlG E size ⟨some p, n, l.cap⟩ (wrl cs k vs)) H0 (SH.setl H (p.1, p.2 + k) vs) := by
  rcases h.atG with ⟨a, _⟩ | ⟨b, pre, post, sz, k1, k2, k3, k4⟩
  · rw [a] at hp; cases hp
  · rw [k1] at hp; cases hp
    have hns : n * size ≤ l.cap * size := Nat.mul_le_mul_right _ hn
    have hw' : (wrl cs k vs).length = k + vs.length + (cs.length - (k + vs.length)) := by unfold wrl; simp; omega
    refine ⟨⟨_, k3, rfl, by simp; omega, by simp only []; omega⟩, ?_⟩
    have e : wrl (pre ++ (cs ++ post)) (pre.length + k) vs = pre ++ (wrl cs k vs ++ post.drop (k + vs.length - cs.length)) := by
      unfold wrl
      rw [List.take_append, List.take_of_length_le (by omega), Nat.add_sub_cancel_left, List.take_append_of_le_length hk, Nat.add_assoc, List.drop_append, List.drop_eq_nil_of_le (by omega), Nat.add_sub_cancel_left, List.nil_append, List.drop_append]
      simp [List.append_assoc]
    have : SH.setl H (b, pre.length + k) vs = H.upd b ⟨pre ++ (wrl cs k vs ++ post.drop (k + vs.length - cs.length)), E, false, sz⟩ := by unfold SH.setl; simp only [k3, e]
    dsimp only
    rw [this]
    exact On.mkG (b := b) (pre := pre) (post := post.drop (k + vs.length - cs.length)) (sz := sz) (h.le.upd k2 _) hw rfl hn k2 (SH.upd_same _ _ _) k4
theorem Insert_spec {l : Sl} {a : List Fl} {x : Fl} {i b : Nat} {H1 : SH} (hi : i ≤ a.length) (hn : a.length ≤ 1000000) (hv : H1 b = some (flO x)) (h : On (SlG FLY 4 l (flc a)) H1 H) {K : Sl → SH → Prop} (k : ∀ l' H', On (SlG FLY 4 l' (flc (a.take i ++ x :: a.drop i))) H1 H' → K l' H') : slices_Insert_net_flying_net_flying.wp F l (i : Int) ⟨some (b, 0), 1, 1⟩ H K := by
  have hl := h.lenG
  have hc := h.capG
  rw [flc_len] at hl
  have hL : l.len = a.length := by omega
  have e1 : w64 ((l.len : Int) + (((⟨some (b, 0), 1, 1⟩ : Sl).len : Nat) : Int)) = ((l.len + 1 : Nat) : Int) := by rw [w64_id (by simp only []; omega)]; simp only []; omega
  have e2 : w64 (((l.len + 1 : Nat) : Int) - (i : Int)) = ((l.len + 1 - i : Nat) : Int) := by rw [w64_id (by omega)]; omega
  have e3 : w64 ((i : Int) + (((⟨some (b, 0), 1, 1⟩ : Sl).len : Nat) : Int)) = ((i + 1 : Nat) : Int) := by rw [w64_id (by simp only []; omega)]; simp only []; omega
  have hrow : ∀ {G : SH}, SH.le H1 G → G.row (some (b, 0)) x.c := fun hle => row0 (hle b _ hv) fun j u hu => hu
  have xok : ∀ u ∈ x.c, u.oneCell' = true := by rw [← flc_one]; exact flc_ok _
  unfold slices_Insert_net_flying_net_flying.wp
  rw [e1, e2, e3]
  refine ⟨by omega, by omega, by omega, br_f (by show ¬ ((1 : Nat) : Int) = 0; decide) ?_⟩
  by_cases c1 : i = l.len
  · refine br_t (by omega) ⟨x.c, hrow h.le, h.appendG (by simp only []; omega) (by simp only []; omega) rfl xok fun l' H' g _ => ⟨H', .refl _, k _ _ ?_⟩⟩
    have e : a.take i ++ x :: a.drop i = a ++ [x] := by rw [List.take_of_length_le (by omega), List.drop_eq_nil_of_le (by omega)]
    rw [e, flc_app, flc_one]; exact g
  refine br_f (by omega) ?_
  have hlt : i < a.length := by omega
  have ed : (flc (a.drop i)).length = (l.len - i) * 4 := by rw [flc_len, List.length_drop, hL]
  by_cases c2 : l.len + 1 > l.cap
  · refine br_t (by omega) ⟨by decide, by omega, by omega, by omega, ?_⟩
    simp only [Int.toNat_natCast]
    have es : Sl.sub 4 l (0 : Int).toNat i l.cap = ⟨l.a, i, l.cap⟩ := Sl.sub0 4 l i l.cap
    rw [es]
    have ra := row_subG (size := 4) (m := l.cap) h.rowG (Nat.zero_le i) (by omega : i ≤ l.cap)
    rw [Sl.sub0, flc_take, Nat.zero_mul, List.drop_zero] at ra
    refine AppendQ.grow (by simp only []; omega) (by simp only []; omega) ra (by rw [flc_len, List.length_take]; simp only []; omega) (by simp only []; omega) (zeros_len _ _ rfl) (zeros_ok _) fun l17 H18 g gl => ?_
    have gl : l17.len = l.len + 1 := by rw [gl]; simp only []; omega
    have gc := g.capG
    have hp : ∃ p, l17.a = some p := by
      rcases g.atG with ⟨_, h0, _⟩ | ⟨b', pre, post, sz, k1, _⟩
      · omega
      · exact ⟨_, k1⟩
    obtain ⟨p, hp⟩ := hp
    rw [gl]
    have ea : ∀ lo, lo < l.len + 1 → (Sl.sub 4 l17 lo (l.len + 1) l17.cap).a = some (p.1, p.2 + lo * 4) := fun lo hlo => Sl.subA (by omega) hp
    have eai := ea i (by omega)
    have eai1 := ea (i + 1) (by omega)
    have zl : (Builtin.zeroCells (Value.cells (.agg #[.int .i64 0, .int .i64 0, .string ByteArray.empty, .bool false] : Value)) (l.len + 1 - i)).toList.length = (l.len + 1 - i) * 4 := zeros_len _ _ rfl
    generalize (Builtin.zeroCells (Value.cells (.agg #[.int .i64 0, .int .i64 0, .string ByteArray.empty, .bool false] : Value)) (l.len + 1 - i)).toList = zs at *
    have ti : (flc (a.take i)).length = i * 4 := by rw [flc_len, List.length_take, Nat.min_eq_left hi]
    have w1 : wrl (flc (a.take i) ++ zs) (i * 4) x.c = flc (a.take i) ++ (x.c ++ zs.drop 4) := by rw [← ti, wrl_app]; rfl
    obtain ⟨p1, p2⟩ := On.putX (n := l.len + 1) (k := i * 4) (vs := x.c) g (by simp [ti]) (by omega) (by simp only [List.length_append, ti, zl]; omega) (by rw [w1]; simp only [List.length_append, ti, List.length_drop, zl]; show i * 4 + (4 + _) = _; omega) hp
    rw [w1] at p2
    have w2 : wrl (flc (a.take i) ++ (x.c ++ zs.drop 4)) ((i + 1) * 4) (flc (a.drop i)) = flc (a.take i ++ x :: a.drop i) := by
      have t2 : (flc (a.take i) ++ x.c).length = (i + 1) * 4 := by rw [List.length_append, ti]; show i * 4 + 4 = _; omega
      have dz : (zs.drop 4).drop (flc (a.drop i)).length = [] := List.drop_eq_nil_of_le (by rw [ed, List.length_drop, zl]; omega)
      rw [← List.append_assoc, ← t2, wrl_app, dz, List.append_nil, List.append_assoc, ← flc_one, ← flc_app, ← flc_app]; rfl
    obtain ⟨p3, p4⟩ := On.putX (n := l.len + 1) (k := (i + 1) * 4) (vs := flc (a.drop i)) p2 (by simp only [List.length_append, ti, List.length_drop, zl]; show _ ≤ i * 4 + (4 + _); omega) (by show _ ≤ l17.cap; omega) (by simp only [List.length_append, ti, List.length_drop, zl]; show i * 4 + (4 + _) ≤ _; omega) (by rw [w2, flc_len]; simp only [List.length_append, List.length_cons, List.length_take, List.length_drop]; omega) rfl
    rw [w2] at p4
    have r1 : H18.row (some (b, 0)) x.c := hrow (h.le.trans g.le)
    have rl : H18.row (Sl.sub 4 l i l.len l.cap).a (flc (a.drop i)) := by
      have := row_subG (size := 4) (m := l.cap) (lo := i) (hi := l.len) h.rowG (by omega) (by omega)
      rw [List.take_of_length_le (by rw [flc_len]; omega), flc_drop] at this
      exact this.le g.le
    have rl2 : (SH.setl H18 (p.1, p.2 + i * 4) x.c).row (Sl.sub 4 l i l.len l.cap).a (flc (a.drop i)) := by
      have := row_subG (size := 4) (m := l.cap) (lo := i) (hi := l.len) h.rowG (by omega) (by omega)
      rw [List.take_of_length_le (by rw [flc_len]; omega), flc_drop] at this
      exact this.le p2.le
    refine ⟨by omega, by omega, by omega, x.c, r1, ?_, xok, fun q hq => ?_, by omega, by omega, by omega, by omega, by omega, by omega, flc (a.drop i), ?_, ?_, flc_ok _, fun q hq => ?_, _, .refl _, ?_⟩
    · show 4 = Nat.min 1 (l.len + 1 - i) * 4
      rw [show Nat.min 1 (l.len + 1 - i) = 1 from Nat.min_eq_left (by omega)]
    · rw [eai] at hq; cases hq; exact p1
    · rw [eai]; exact rl2
    · show _ = Nat.min (l.len - i) (l.len + 1 - (i + 1)) * 4
      rw [ed, show Nat.min (l.len - i) (l.len + 1 - (i + 1)) = l.len - i from Nat.min_eq_left (by omega)]
    · rw [eai1] at hq; cases hq
      rw [eai]; exact p3
    · rw [eai, eai1]
      have e17 : l17 = ⟨some p, l.len + 1, l17.cap⟩ := by cases l17; simp only at hp gl ⊢; rw [hp, gl]
      rw [e17]
      exact k _ _ (p4.below h.le)
  · have hp : ∃ p, l.a = some p ∧ p.1 ≠ b ∧ ∃ ob, H p.1 = some ob ∧ ob.size ≠ 0 := by
      rcases h.atG with ⟨_, h0, _⟩ | ⟨b', pre, post, sz, k1, k2, k3, k4⟩
      · omega
      · exact ⟨_, k1, fun e => (by simp only [] at e; rw [e, hv] at k2; cases k2), _, k3, by simp only []; omega⟩
    obtain ⟨p, hp, hpb, ob, hob, hsz⟩ := hp
    have es : Sl.sub 4 l (0 : Int).toNat ((l.len + 1 : Nat) : Int).toNat l.cap = ⟨some p, l.len + 1, l.cap⟩ := by rw [← hp]; exact Sl.sub0 4 l _ l.cap
    rw [es]
    simp only [Int.toNat_natCast]
    have ea : ∀ lo, lo < l.len + 1 → (Sl.sub 4 ⟨some p, l.len + 1, l.cap⟩ lo (l.len + 1) l.cap).a = some (p.1, p.2 + lo * 4) := fun lo hlo => Sl.subA (by omega) rfl
    have eai := ea i (by omega)
    have eai1 := ea (i + 1) (by omega)
    have ti : (flc (a.take i)).length = i * 4 := by rw [flc_len, List.length_take, Nat.min_eq_left hi]
    have ti1 : (flc (a.take (i + 1))).length = (i + 1) * 4 := by rw [flc_len, List.length_take, Nat.min_eq_left (by omega)]
    have w1 : wrl (flc a) ((i + 1) * 4) (flc (a.drop i)) = flc (a.take (i + 1) ++ a.drop i) := by
      have e : flc a = flc (a.take (i + 1)) ++ flc (a.drop (i + 1)) := by rw [← flc_app, List.take_append_drop]
      have dz : (flc (a.drop (i + 1))).drop (flc (a.drop i)).length = [] := List.drop_eq_nil_of_le (by rw [ed, flc_len, List.length_drop]; omega)
      rw [e, ← ti1, wrl_app, dz, List.append_nil, ← flc_app]
    obtain ⟨p1, p2⟩ := On.putX (n := l.len + 1) (k := (i + 1) * 4) (vs := flc (a.drop i)) h (by rw [flc_len]; omega) (by omega) (by rw [flc_len]; omega) (by rw [w1, flc_len]; simp only [List.length_append, List.length_take, List.length_drop]; omega) hp
    rw [w1] at p2
    have w2 : wrl (flc (a.take (i + 1) ++ a.drop i)) (i * 4) x.c = flc (a.take i ++ x :: a.drop i) := by
      have e : flc (a.take (i + 1) ++ a.drop i) = flc (a.take i) ++ flc (a[i] :: a.drop i) := by rw [← flc_app, List.take_succ_eq_append_getElem hlt, List.append_assoc]; rfl
      have e2 : (flc (a[i] :: a.drop i)).drop x.c.length = flc (a.drop i) := flc_drop (a[i] :: a.drop i) 1
      rw [e, ← ti, wrl_app, e2, ← flc_one, ← flc_app, ← flc_app]; rfl
    obtain ⟨p3, p4⟩ := On.putX (n := l.len + 1) (k := i * 4) (vs := x.c) p2 (by rw [flc_len]; simp only [List.length_append, List.length_take, List.length_drop]; omega) (by show _ ≤ l.cap; omega) (by rw [flc_len]; simp only [List.length_append, List.length_take, List.length_drop]; omega) (by rw [w2, flc_len]; simp only [List.length_append, List.length_cons, List.length_take, List.length_drop]; omega) rfl
    rw [w2] at p4
    have rl : H.row (some (p.1, p.2 + i * 4)) (flc (a.drop i)) := by
      have := row_subG (size := 4) (m := l.cap) (lo := i) (hi := l.len) h.rowG (by omega) (by omega)
      rw [List.take_of_length_le (by rw [flc_len]; omega), flc_drop, Sl.subA (by omega) hp] at this
      exact this
    refine br_f (by omega) ⟨by decide, by omega, by omega, by omega, by omega, by omega, ?_, by omega, by omega, by omega, by omega, by omega, by omega, flc (a.drop i), ?_, ?_, flc_ok _, fun q hq => ?_, by omega, by omega, by omega, x.c, ?_, ?_, xok, fun q hq => ?_, _, .refl _, ?_⟩
    · rw [eai1]
      exact .inr (.inr ⟨_, _, _, _, rfl, rfl, fun e => hpb e.symm, h.le b _ hv, hob, rfl, (by show FLY ≠ U8; decide), hsz⟩)
    · rw [eai]; exact rl
    · show _ = Nat.min (l.len + 1 - i) (l.len + 1 - (i + 1)) * 4
      rw [ed, show Nat.min (l.len + 1 - i) (l.len + 1 - (i + 1)) = l.len - i from (Nat.min_eq_right (by omega)).trans (by omega)]
    · rw [eai1] at hq; cases hq; exact p1
    · rw [eai1]; exact hrow p2.le
    · show 4 = Nat.min 1 (l.len + 1 - i) * 4
      rw [show Nat.min 1 (l.len + 1 - i) = 1 from Nat.min_eq_left (by omega)]
    · rw [eai] at hq; cases hq
      rw [eai1]; exact p3
    · rw [eai, eai1]
      exact k _ _ p4
theorem wrl_bytesN {l : List UInt8} {i : Nat} {c : UInt8} (h : i < l.length) : wrl (byteCells l) i [.int .u8 (c.toNat : Int)] = byteCells (l.set i c) := by
  have hl : i < (byteCells l).length := by rw [(show ∀ b : List UInt8, (byteCells b).length = b.length by intro b; simp [byteCells])]; exact h
  apply List.ext_getElem?
  intro j
  rw [wrl_get hl]
  unfold byteCells
  rw [List.getElem?_map, List.getElem?_map, List.getElem?_set]
  by_cases hj : j = i
  · subst hj; simp [h]
  · rw [if_neg hj, if_neg (fun h => hj h.symm)]
/-! ### a packet moved, taken, spoilt -/
def turnL (fl : List Fl) (i : Nat) (x : Fl) (to : Int) : List Fl := let m := fl.eraseIdx i; m.take (min to.toNat m.length) ++ x :: m.drop (min to.toNat m.length)
theorem Turn_spec {i : Nat} {to : Int} (hF : 10 ≤ F) (hn : fl.length ≤ 1000000) (hi : i < fl.length) (h : On (NetI bn fl) H0 H) {K : Option EV → SH → Prop} (k : ∀ H', On (NetI bn (turnL fl i fl[i] to)) H0 H' → K none H') : net_Net_Turn.wp F (some (bn, 0)) (i : Int) to H K := by
  refine off_spec hF hn hi h fun H9 h9 b10 hb10 => ⟨wrs_upd rfl (Nat.le_refl _), o_none (p_some ?_)⟩
  rw [fly_set]
  have hel : (fl.eraseIdx i).length = fl.length - 1 := List.length_eraseIdx_of_lt hi
  have c1 : Chain [blkL b10 (flO fl[i]), nt bn (fl.eraseIdx i)] H0 (H9.upd b10 (flO fl[i])) := ⟨H9, On.new hb10, H0, h9, .refl _⟩
  generalize hGG : SH.upd H9 b10 (flO fl[i]) = G at *
  have hG' : SH.upd H9 b10 ⟨[.int .i64 fl[i].f, .int .i64 fl[i].t, .string fl[i].d, .bool fl[i].q], 74, false, 4⟩ = G := hGG
  rw [hG']
  have hb10 : On (Blk b10 (flO fl[i])) H0 G := c1.on
  obtain ⟨Hn, n1, c3⟩ := Chain.pull [blkL b10 (flO fl[i])] c1
  have n1 : On (NetI bn (fl.eraseIdx i)) Hn G := n1
  obtain ⟨S, c4⟩ := net_open n1
  have hb : On (Blk bn ⟨[sv S], NETT, false, 1⟩) Hn G := c4.on
  refine ⟨S, hb.has rfl, S, hb.has rfl, fl[i].f, fl[i].t, fl[i].d, fl[i].q, row0 (On.blk.1 hb10).2.2 (fun j u hu => hu), fun b25 hb25 => ?_⟩
  have c5 : Chain [blkL b25 (flO fl[i]), blkL bn ⟨[sv S], NETT, false, 1⟩, slG FLY 4 S (flc (fl.eraseIdx i))] Hn (G.upd b25 (flO fl[i])) := ⟨G, On.new hb25, c4⟩
  obtain ⟨Hs, s1, c6⟩ := Chain.pull [blkL b25 (flO fl[i]), blkL bn ⟨[sv S], NETT, false, 1⟩] c5
  have s1 : On (SlG FLY 4 S (flc (fl.eraseIdx i))) Hs (G.upd b25 (flO fl[i])) := s1
  have c6 : Chain [blkL b25 (flO fl[i]), blkL bn ⟨[sv S], NETT, false, 1⟩] Hn Hs := c6
  have hSl := s1.lenG
  rw [flc_len] at hSl
  have ej : imin (imax to 0) (S.len : Int) = ((min to.toNat (fl.eraseIdx i).length : Nat) : Int) := by unfold imin imax; split <;> split <;> omega
  rw [ej]
  refine Insert_spec (x := fl[i]) (b := b25) (Nat.min_le_right _ _) (by omega) (On.blk.1 c6.on).2.2 s1 fun l28 H29 s2 => ?_
  obtain ⟨Hb, b7, c7⟩ := Chain.pull [slG FLY 4 l28 (flc (turnL fl i fl[i] to)), blkL b25 (flO fl[i])] (⟨Hs, s2, c6⟩ : Chain [slG FLY 4 l28 (flc (turnL fl i fl[i] to)), blkL b25 (flO fl[i]), blkL bn ⟨[sv S], NETT, false, 1⟩] Hn H29)
  have b7 : On (Blk bn ⟨[sv S], NETT, false, 1⟩) Hb H29 := b7
  have b8 : On (Blk bn ⟨[sv l28], NETT, false, 1⟩) Hb (SH.setl H29 (bn, 0) [sv l28]) := On.setl (k := 0) (vs := [sv l28]) b7
  refine ⟨b7.wrs rfl (Nat.le_refl _), _, .refl _, k _ ?_⟩
  have c8 : Chain [blkL bn ⟨[sv l28], NETT, false, 1⟩, slG FLY 4 l28 (flc (turnL fl i fl[i] to)), blkL b25 (flO fl[i])] Hn (SH.setl H29 (bn, 0) [sv l28]) := ⟨Hb, b8, c7⟩
  exact (net_close (Chain.keepG [blkL bn ⟨[sv l28], NETT, false, 1⟩, slG FLY 4 l28 (flc (turnL fl i fl[i] to))] c8)).below c3.le
theorem Turn_bad {i to : Int} (hi : i < 0 ∨ i ≥ fl.length) (h : On (NetI bn fl) H0 H) {K : Option EV → SH → Prop} (k : ∀ H', On (NetI bn fl) H0 H' → K (some (.no 9)) H') : net_Net_Turn.wp F (some (bn, 0)) i to H K := by
  refine off_bad hi h fun H9 h9 b10 hb10 => ⟨wrs_upd rfl (Nat.le_refl _), o_some ?_⟩
  rw [fly_set]
  exact ⟨H9, le_upd hb10, k _ h9⟩
def pkO (x : Fl) : AO := ⟨[.int .i64 x.f, .int .i64 x.t, .string x.d], PKT, false, 3⟩
theorem Take_spec {i : Nat} (hF : 10 ≤ F) (hn : fl.length ≤ 1000000) (hi : i < fl.length) (h : On (NetI bn fl) H0 H) {K : Int → Int → ByteArray → Option EV → SH → Prop} (k : ∀ H', On (NetI bn (fl.eraseIdx i)) H0 H' → K fl[i].f fl[i].t fl[i].d none H') : net_Net_Take.wp F (some (bn, 0)) (i : Int) H K := by
  intro b3 hb3
  have c1 : Chain [blkL b3 (pkO z0), nt bn fl] H0 (H.upd b3 (pkO z0)) := ⟨H, On.new hb3, H0, h, .refl _⟩
  obtain ⟨H1, n1, c2⟩ := Chain.pull [blkL b3 (pkO z0)] c1
  have n1 : On (NetI bn fl) H1 (H.upd b3 (pkO z0)) := n1
  have c2 : Chain [blkL b3 (pkO z0)] H0 H1 := c2
  refine off_spec hF hn hi n1 fun H10 n2 b11 hb11 => ⟨wrs_upd rfl (Nat.le_refl _), ?_⟩
  rw [fly_set]
  have c3 : Chain [blkL b11 (flO fl[i]), nt bn (fl.eraseIdx i), blkL b3 (pkO z0)] H0 (H10.upd b11 (flO fl[i])) := ⟨H10, On.new hb11, H1, n2, c2⟩
  generalize hGG : SH.upd H10 b11 (flO fl[i]) = G at *
  have hG' : SH.upd H10 b11 ⟨[.int .i64 fl[i].f, .int .i64 fl[i].t, .string fl[i].d, .bool fl[i].q], 74, false, 4⟩ = G := hGG
  rw [hG']
  have h11 : On (Blk b11 (flO fl[i])) H0 G := c3.on
  obtain ⟨Hc, b3', c10⟩ := Chain.pull [blkL b11 (flO fl[i]), nt bn (fl.eraseIdx i)] c3
  have b3' : On (Blk b3 (pkO z0)) Hc G := b3'
  have b3'' : On (Blk b3 (pkO fl[i])) Hc _ := On.setl (k := 0) (vs := [.int .i64 fl[i].f, .int .i64 fl[i].t, .string fl[i].d]) b3'
  refine ⟨fl[i].f, fl[i].t, fl[i].d, row0 (On.blk.1 h11).2.2 (fun j u hu => ?_), b3'.wrs rfl (Nat.le_refl _), fl[i].f, fl[i].t, fl[i].d, row0 (On.blk.1 b3'').2.2 (fun j u hu => hu), _, .refl _, k _ ?_⟩
  · have hj : j < 3 := (List.getElem?_eq_some_iff.1 hu).1
    rcases j with _ | _ | _ | j
    · exact hu
    · exact hu
    · exact hu
    · omega
  · exact Chain.at [blkL b3 (pkO fl[i]), blkL b11 (flO fl[i])] (⟨Hc, b3'', c10⟩ : Chain [blkL b3 (pkO fl[i]), blkL b11 (flO fl[i]), nt bn (fl.eraseIdx i)] H0 _)
theorem Take_bad {i : Int} (hi : i < 0 ∨ i ≥ fl.length) (h : On (NetI bn fl) H0 H) {K : Int → Int → ByteArray → Option EV → SH → Prop} (k : ∀ H', On (NetI bn fl) H0 H' → K 0 0 ByteArray.empty (some (.no 9)) H') : net_Net_Take.wp F (some (bn, 0)) i H K := by
  intro b3 hb3
  have c1 : Chain [blkL b3 (pkO z0), nt bn fl] H0 (H.upd b3 (pkO z0)) := ⟨H, On.new hb3, H0, h, .refl _⟩
  obtain ⟨H1, n1, c2⟩ := Chain.pull [blkL b3 (pkO z0)] c1
  have n1 : On (NetI bn fl) H1 (H.upd b3 (pkO z0)) := n1
  have c2 : Chain [blkL b3 (pkO z0)] H0 H1 := c2
  refine off_bad hi n1 fun H10 n2 b11 hb11 => ⟨wrs_upd rfl (Nat.le_refl _), ?_⟩
  rw [fly_set]
  have c3 : Chain [blkL b11 (flO z0), nt bn fl, blkL b3 (pkO z0)] H0 (H10.upd b11 (flO z0)) := ⟨H10, On.new hb11, H1, n2, c2⟩
  generalize hGG : SH.upd H10 b11 (flO z0) = G at *
  have hG' : SH.upd H10 b11 ⟨[.int .i64 0, .int .i64 0, .string ByteArray.empty, .bool false], 74, false, 4⟩ = G := hGG
  rw [hG']
  have h11 : On (Blk b11 (flO z0)) H0 G := c3.on
  obtain ⟨Hc, b3', c10⟩ := Chain.pull [blkL b11 (flO z0), nt bn fl] c3
  have b3' : On (Blk b3 (pkO z0)) Hc G := b3'
  have b3'' : On (Blk b3 (pkO z0)) Hc _ := On.setl (k := 0) (vs := [.int .i64 0, .int .i64 0, .string ByteArray.empty]) b3'
  refine ⟨0, 0, ByteArray.empty, row0 (On.blk.1 h11).2.2 (fun j u hu => ?_), b3'.wrs rfl (Nat.le_refl _), 0, 0, ByteArray.empty, row0 (On.blk.1 b3'').2.2 (fun j u hu => hu), _, .refl _, k _ ?_⟩
  · have hj : j < 3 := (List.getElem?_eq_some_iff.1 hu).1
    rcases j with _ | _ | _ | j
    · exact hu
    · exact hu
    · exact hu
    · omega
  · exact Chain.at [blkL b3 (pkO z0), blkL b11 (flO z0)] (⟨Hc, b3'', c10⟩ : Chain [blkL b3 (pkO z0), blkL b11 (flO z0), nt bn fl] H0 _)
theorem flc_set {l : List Fl} {i : Nat} {y : Fl} (h : i < l.length) : wrl (flc l) (i * 4) y.c = flc (l.set i y) := by
  have ti : (flc (l.take i)).length = i * 4 := by rw [flc_len, List.length_take, Nat.min_eq_left (by omega)]
  have e : flc l = flc (l.take i) ++ flc (l.drop i) := by rw [← flc_app, List.take_append_drop]
  have e2 : (flc (l.drop i)).drop y.c.length = flc (l.drop (i + 1)) := by
    show (flc (l.drop i)).drop (1 * 4) = _
    rw [flc_drop, List.drop_drop]
  rw [e, ← ti, wrl_app, e2, ← flc_one, ← flc_app, ← flc_app, List.set_eq_take_append_cons_drop, if_pos h]; rfl
def spoilF (x : Fl) (at_ by_ : Int) : Fl := ⟨x.f, x.t, ⟨(x.d.data.toList.set at_.toNat (UInt8.ofNat ((x.d.data.toList[at_.toNat]?.getD 0).toNat ^^^ by_.toNat))).toArray⟩, true⟩
def spoilE (x : Fl) (at_ by_ : Int) : Nat := if at_ < 0 ∨ at_ ≥ x.d.size then 2 else if by_ = 0 then 1 else if x.q = true then 12 else 0
theorem Spoil_spec {i : Nat} {at_ by_ : Int} (hby : 0 ≤ by_ ∧ by_ ≤ 255) (hi : i < fl.length) (h : On (NetI bn fl) H0 H) {K : Option EV → SH → Prop} (k1 : spoilE fl[i] at_ by_ = 0 → ∀ H', On (NetI bn (fl.set i (spoilF fl[i] at_ by_))) H0 H' → K none H') (k2 : spoilE fl[i] at_ by_ ≠ 0 → K (some (.no (spoilE fl[i] at_ by_))) H) : net_Net_Spoil.wp F (some (bn, 0)) (i : Int) at_ by_ H K := by
  refine at_spec hi h fun b11 hb11 => ⟨wrs_upd rfl (Nat.le_refl _), o_none ?_⟩
  rw [fly_set]
  generalize hx : fl[i] = x at *
  have c1 : Chain [blkL b11 (flO x), nt bn fl] H0 (H.upd b11 (flO x)) := ⟨H, On.new hb11, H0, h, .refl _⟩
  have hle : SH.le H (H.upd b11 (flO x)) := le_upd hb11
  generalize hGG : SH.upd H b11 (flO x) = G at *
  have hG' : SH.upd H b11 ⟨[.int .i64 x.f, .int .i64 x.t, .string x.d, .bool x.q], 74, false, 4⟩ = G := hGG
  rw [hG']
  have h11 : On (Blk b11 (flO x)) H0 G := c1.on
  by_cases a1 : at_ < 0
  · have e : spoilE x at_ by_ = 2 := if_pos (.inl a1)
    rw [e] at k2
    exact br_t a1 ⟨H, hle, k2 (by decide)⟩
  refine br_f a1 ⟨x.d, h11.has rfl, ?_⟩
  by_cases a2 : at_ ≥ x.d.size
  · have e : spoilE x at_ by_ = 2 := if_pos (.inr a2)
    rw [e] at k2
    exact br_t a2 ⟨H, hle, k2 (by decide)⟩
  refine br_f a2 ?_
  have a12 : ¬ (at_ < 0 ∨ at_ ≥ x.d.size) := by omega
  by_cases a3 : by_ = 0
  · have e : spoilE x at_ by_ = 1 := by unfold spoilE; rw [if_neg a12, if_pos a3]
    rw [e] at k2
    exact br_t a3 ⟨H, hle, k2 (by decide)⟩
  refine br_f a3 ⟨x.q, h11.has rfl, ?_⟩
  by_cases a4 : x.q = true
  · have e : spoilE x at_ by_ = 12 := by unfold spoilE; rw [if_neg a12, if_neg a3, if_pos a4]
    rw [e] at k2
    exact br_t a4 ⟨H, hle, k2 (by decide)⟩
  have k1 := k1 (by unfold spoilE; rw [if_neg a12, if_neg a3, if_neg a4])
  obtain ⟨n, rfl⟩ : ∃ n : Nat, at_ = n := ⟨at_.toNat, by omega⟩
  refine br_f a4 ⟨x.d, h11.has rfl, fun b25 n26 hb25 hn26 => ⟨(b25, 0), rfl, by omega, by show _ < ((x.d.size : Nat) : Int); omega, ?_⟩⟩
  have hlt : n < x.d.data.toList.length := by simp only [Array.length_toList]; show n < x.d.size; omega
  have c2 : Chain [blkL b25 ⟨byteCells x.d.data.toList, 5, false, n26⟩, blkL b11 (flO x), nt bn fl] H0 (G.upd b25 ⟨byteCells x.d.data.toList, 5, false, n26⟩) := ⟨G, On.new hb25, c1⟩
  have h25 : On (Blk b25 ⟨byteCells x.d.data.toList, 5, false, n26⟩) G (G.upd b25 ⟨byteCells x.d.data.toList, 5, false, n26⟩) := On.new hb25
  have cel : (byteCells x.d.data.toList)[0 + n * 1]? = some (.int .u8 (((x.d.data.toList)[n]).toNat : Int)) := by
    unfold byteCells
    rw [List.getElem?_map, Nat.zero_add, Nat.mul_one, List.getElem?_eq_getElem hlt]; rfl
  refine ⟨_, h25.has (k := 0 + n * 1) cel, (b25, 0), rfl, by omega, by show _ < ((x.d.size : Nat) : Int); omega, h25.wrs (k := 0 + n * 1) rfl (by simp only [byteCells, List.length_map]; omega), p_some ?_⟩
  have ex : ibits .xor .u8 (((x.d.data.toList)[n]).toNat : Int) by_ = ((UInt8.ofNat ((x.d.data.toList)[n].toNat ^^^ by_.toNat)).toNat : Int) := by
    have h8 : (x.d.data.toList)[n].toNat < 256 := (x.d.data.toList)[n].toNat_lt
    have hb8 : by_.toNat < 256 := by omega
    have : (x.d.data.toList)[n].toNat ^^^ by_.toNat < 2 ^ 8 := Nat.xor_lt_two_pow (n := 8) h8 hb8
    rw [ibits_xor8 (by omega) hby.1 (by omega) hby.2, UInt8.toNat_ofNat']
    congr 1
    rw [Nat.mod_eq_of_lt this]; simp
  have ew : wrl (byteCells x.d.data.toList) (0 + n * 1) [.int .u8 (ibits .xor .u8 (((x.d.data.toList)[n]).toNat : Int) by_)] = byteCells (x.d.data.toList.set n (UInt8.ofNat ((x.d.data.toList[n]).toNat ^^^ by_.toNat))) := by
    rw [ex, Nat.zero_add, Nat.mul_one, wrl_bytesN hlt]
  have h26 := On.setl (k := 0 + n * 1) (vs := [.int .u8 (ibits .xor .u8 (((x.d.data.toList)[n]).toNat : Int) by_)]) h25
  simp only [ew] at h26
  have c3 : Chain [blkL b25 ⟨byteCells (x.d.data.toList.set n (UInt8.ofNat ((x.d.data.toList[n]).toNat ^^^ by_.toNat))), 5, false, n26⟩, blkL b11 (flO x), nt bn fl] H0 (SH.setl (G.upd b25 ⟨byteCells x.d.data.toList, 5, false, n26⟩) (b25, 0 + n * 1) [.int .u8 (ibits .xor .u8 (((x.d.data.toList)[n]).toNat : Int) by_)]) := ⟨G, h26, c1⟩
  have en : ((n : Nat) : Int).toNat = n := rfl
  rw [en]
  generalize SH.setl (G.upd b25 ⟨byteCells x.d.data.toList, 5, false, n26⟩) (b25, 0 + n * 1) [.int .u8 (ibits .xor .u8 (((x.d.data.toList)[n]).toNat : Int) by_)] = J at *
  have j25 := c3.on
  have j11 : On (Blk b11 (flO x)) H0 J := Chain.at [blkL b25 ⟨byteCells (x.d.data.toList.set n (UInt8.ofNat ((x.d.data.toList[n]).toNat ^^^ by_.toNat))), 5, false, n26⟩] c3
  have jn : On (NetI bn fl) H0 J := Chain.at [blkL b25 ⟨byteCells (x.d.data.toList.set n (UInt8.ofNat ((x.d.data.toList[n]).toNat ^^^ by_.toNat))), 5, false, n26⟩, blkL b11 (flO x)] c3
  obtain ⟨S, c4⟩ := net_open jn
  have hb : On (Blk bn ⟨[sv S], NETT, false, 1⟩) H0 J := c4.on
  obtain ⟨H1, s1, c5⟩ := Chain.pull [blkL bn ⟨[sv S], NETT, false, 1⟩] c4
  have s1 : On (SlG FLY 4 S (flc fl)) H1 J := s1
  have c5 : Chain [blkL bn ⟨[sv S], NETT, false, 1⟩] H0 H1 := c5
  have hSl := s1.lenG
  rw [flc_len] at hSl
  have hp : ∃ p, S.a = some p := by
    rcases s1.atG with ⟨_, h0, _⟩ | ⟨b', pre, post, sz, k1, _⟩
    · omega
    · exact ⟨_, k1⟩
  obtain ⟨p, hp⟩ := hp
  have ey : (spoilF x (n : Int) by_).c = [.int .i64 x.f, .int .i64 x.t, .string ⟨(x.d.data.toList.set n (UInt8.ofNat ((x.d.data.toList[n]).toNat ^^^ by_.toNat))).toArray⟩, .bool true] := by
    unfold spoilF Fl.c
    simp only [en, List.getElem?_eq_getElem hlt, Option.getD_some]
  obtain ⟨g1, g2⟩ := s1.putG (k := i * 4) (vs := (spoilF x (n : Int) by_).c) (by rw [flc_len]; show _ + 4 ≤ _; omega) hp
  rw [flc_set hi] at g2
  rw [ey] at g1 g2
  refine ⟨S, hb.has rfl, x.f, j11.has rfl, x.t, j11.has rfl, x.d.data.toList.set n (UInt8.ofNat ((x.d.data.toList[n]).toNat ^^^ by_.toNat)), by simp only [List.length_set, Array.length_toList]; rfl, row0 (On.blk.1 j25).2.2 (fun j u hu => hu), p, hp, by omega, by omega, g1, _, .refl _, k1 _ ?_⟩
  obtain ⟨Hq, q1, q2⟩ := Chain.pull [slG FLY 4 S (flc (fl.set i (spoilF x (n : Int) by_)))] (⟨H1, g2, c5⟩ : Chain [slG FLY 4 S (flc (fl.set i (spoilF x (n : Int) by_))), blkL bn ⟨[sv S], NETT, false, 1⟩] H0 _)
  exact net_close ⟨Hq, q1, q2⟩
theorem Spoil_bad {i at_ by_ : Int} (hi : i < 0 ∨ i ≥ fl.length) (h : On (NetI bn fl) H0 H) {K : Option EV → SH → Prop} (k : K (some (.no 9)) H) : net_Net_Spoil.wp F (some (bn, 0)) i at_ by_ H K := by
  refine at_bad hi h fun b11 hb11 => ⟨wrs_upd rfl (Nat.le_refl _), o_some ?_⟩
  rw [fly_set]
  exact ⟨H, le_upd hb11, k⟩
/-! ### all packets -/
def Fl.p (x : Fl) : List Value := [.int .i64 x.f, .int .i64 x.t, .string x.d]
def pkc (l : List Fl) : List Value := l.flatMap Fl.p
theorem pkc_app (a b : List Fl) : pkc (a ++ b) = pkc a ++ pkc b := by simp [pkc]
theorem pkc_len : ∀ l : List Fl, (pkc l).length = l.length * 3
  | [] => rfl
  | x :: l => by
    have := pkc_len l
    unfold pkc at this ⊢
    rw [List.flatMap_cons, List.length_append, this, List.length_cons]
    show 3 + _ = _; omega
theorem pkc_get {l : List Fl} {i j : Nat} (h : i < l.length) (hj : j < 3) : (pkc l)[i * 3 + j]? = (l[i].p)[j]? := by
  have e1 : pkc [l[i]] = l[i].p := by simp [pkc]
  have e : pkc l = pkc (l.take i) ++ (l[i].p ++ pkc (l.drop (i + 1))) := by
    rw [← e1, ← pkc_app, ← pkc_app, List.singleton_append, ← List.drop_eq_getElem_cons h, List.take_append_drop]
  have e2 : i * 3 = (pkc (l.take i)).length := by rw [pkc_len, List.length_take, Nat.min_eq_left (by omega)]
  rw [e, List.getElem?_append_right (by omega), e2, Nat.add_sub_cancel_left, List.getElem?_append_left (by exact hj)]
theorem row_pkt {H : SH} {a : Option (Nat × Nat)} {l : List Fl} {i : Nat} (hr : H.row a (pkc l)) (h : i < l.length) : ∃ p, a = some p ∧ H.row (some (p.1, p.2 + i * 3)) l[i].p := by
  rcases hr with h0 | ⟨p, o, ha, hb, hh⟩
  · have := pkc_len l
    rw [h0] at this
    simp at this; omega
  · refine ⟨p, ha, .inr ⟨_, o, rfl, hb, fun j u hu => ?_⟩⟩
    have hj : j < 3 := (List.getElem?_eq_some_iff.1 hu).1
    have := hh (i * 3 + j) u (by rw [pkc_get h hj]; exact hu)
    simpa [Nat.add_assoc] using this
theorem All19_spec (hn : fl.length ≤ 1000000) (hF : fl.length < F) (h : On (NetI bn fl) H0 H) {K : Sl → SH → Prop} (k : ∀ l H', On (SlI PKT 3 l (pkc fl)) H H' → K l H') : net_Net_All.wp F (some (bn, 0)) H K := by
  obtain ⟨S, c⟩ := net_open h
  have hb : On (Blk bn ⟨[sv S], NETT, false, 1⟩) H0 H := c.on
  have hs : On (SlG FLY 4 S (flc fl)) H0 H := Chain.at [blkL bn ⟨[sv S], NETT, false, 1⟩] c
  have hSl := hs.lenG
  rw [flc_len] at hSl
  have hSl' : S.len = fl.length := by omega
  refine p_some ⟨S, hb.has rfl, ?_⟩
  rw [hSl']
  have loop : ∀ (j i f : Nat) (l : Sl) (G : SH), fl.length - i = j → i ≤ fl.length → j < f → On (SlI PKT 3 l (pkc (fl.take i))) H G → net_Net_All.l1 F K f l S (fl.length : Int) (i : Int) G := by
    intro j
    induction j with
    | zero =>
      intro i f l G hj hi hf ho
      obtain ⟨f, rfl⟩ : ∃ i, f = i + 1 := ⟨f - 1, by omega⟩
      rw [List.take_of_length_le (by omega)] at ho
      exact br_f (by omega) ⟨G, .refl _, k l G ho⟩
    | succ j ih =>
      intro i f l G hj hi hf ho
      obtain ⟨f, rfl⟩ : ∃ i, f = i + 1 := ⟨f - 1, by omega⟩
      have hlt : i < fl.length := by omega
      obtain ⟨p, hp, hrow⟩ := row_fly (hs.rowG.le ho.le) hlt
      refine br_t (by omega) ⟨p, hp, by omega, by omega, fl[i].f, fl[i].t, fl[i].d, fl[i].q, hrow, fun b20 hb20 => ⟨wrs_upd rfl (Nat.le_refl _), ?_⟩⟩
      rw [fly_set]
      obtain ⟨H2, g, gt, gle⟩ := On.temp .sl ho hb20 (flO fl[i])
      have hl := ho.len
      rw [pkc_len, List.length_take] at hl
      refine ⟨fl[i].f, fl[i].t, fl[i].d, row0 (SH.upd_same _ _ _) (fun j u hu => ?_), ?_⟩
      · have hj : j < 3 := (List.getElem?_eq_some_iff.1 hu).1
        rcases j with _ | _ | _ | j
        · exact hu
        · exact hu
        · exact hu
        · omega
      refine g.own.append (by omega) (by omega) rfl (by simp [Value.oneCell']) fun l27 H28 o27 e27 => ?_
      have o28 := o27.on
      rw [w64_id (by omega), show (i : Int) + 1 = ((i + 1 : Nat) : Int) by omega]
      refine ih (i + 1) f l27 H28 (by omega) (by omega) (by omega) (On.below ?_ gle)
      rw [List.take_succ_eq_append_getElem hlt, pkc_app]
      have e : pkc [fl[i]] = [.int .i64 fl[i].f, .int .i64 fl[i].t, .string fl[i].d] := by simp [pkc, Fl.p]
      rw [e]; exact o28
  exact loop fl.length 0 F Sl.nil H (by omega) (by omega) hF (On.nil PKT 3 H)
theorem awake19_spec {K : Bool → SH → Prop} (k : ∀ H', SH.le H H' → K true H') : ladinglaw19_awake.wp F H K := by
  refine New19_spec fun bn H1 hbn h1 => Send_spec (by simp) h1 (fun _ H2 h2 => o_none ?_) (fun h0 => absurd rfl h0)
  have h2 : On (NetI bn [⟨0, 1, ⟨#[120]⟩, false⟩]) H H2 := h2
  refine Twice_spec (i := 0) (by simp) (by simp) h2 fun H3 h3 => o_none ?_
  have h3 : On (NetI bn [⟨0, 1, ⟨#[120]⟩, false⟩, ⟨0, 1, ⟨#[120]⟩, false⟩]) H H3 := h3
  exact Len19_spec h3 ⟨H3, .refl _, k H3 h3.le⟩
end
end Go.Proofs.Ytkfbmoekghbgbaa.K
