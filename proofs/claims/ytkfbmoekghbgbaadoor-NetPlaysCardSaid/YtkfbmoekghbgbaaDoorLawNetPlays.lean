/- The law NetPlays: what it comes to, first part: what is done behind every call; Send; Take, Look, Drop, Twice, Turn. -/
import Derived.Test.YtkfbmoekghbgbaaDoorSpecNetD
import Derived.Test.YtkfbmoekghbgbaaDoorArgNet
import Derived.Test.YtkfbmoekghbgbaaDoorGladinglaw19NetPlays
set_option linter.unusedVariables false
set_option linter.unusedSimpArgs false
namespace Go.Proofs.YtkfbmoekghbgbaaDoor.K
open Go
abbrev FLW : TypeId := 36
/-- The net, and the law's own list. -/
abbrev St2 (bn : Nat) (lw : Sl) (fl : List Fl) (H0 H : SH) : Prop := Chain [nt bn fl, slG FLW 4 lw (flc fl)] H0 H
abbrev RT := Option (Nat × Nat) → Sl → Sl → Int → Int → SH → Prop
abbrev KT : Bool → SH → Prop := fun b _ => b = true
theorem rowPre {H : SH} {a : Option (Nat × Nat)} {cs cs' : List Value} (h : H.row a cs) (hc : ∀ (j : Nat) (u : Value), cs'[j]? = some u → cs[j]? = some u) : H.row a cs' := by
  rcases h with h | ⟨p, o, h1, h2, h3⟩
  · left
    cases cs' with
    | nil => rfl
    | cons u r => have := hc 0 u rfl; rw [h] at this; simp at this
  · exact .inr ⟨p, o, h1, h2, fun j u hu => h3 j u (hc j u hu)⟩
theorem drop300 {l : List Fl} (h : l.length ≤ 300) : l.drop (l.length - 300) = l := by rw [Nat.sub_eq_zero_of_le h]; rfl
section
variable {F : Nat} {H H0 H2 G : SH} {bn b24 : Nat} {fl : List Fl} {lw l : Sl} {x i : Int} {R1 : RT} {o : NOp}
theorem St2.sl (c : St2 bn lw fl H0 H) : On (SlG FLW 4 lw (flc fl)) H0 H := Chain.at [nt bn fl] c
theorem St2.len (c : St2 bn lw fl H0 H) : lw.len = fl.length := by
  have := (St2.sl c).lenG
  rw [flc_len] at this; omega
theorem checkA (hF : 10000 ≤ F) (hn : fl.length ≤ 1000) (h : St2 bn lw fl H0 H) (k : ∀ G, SH.le H G → R1 (some (bn, 0)) lw l x (w64 (i + 1)) G) : ladinglaw19_NetPlays.j3 F KT R1 (some (bn, 0)) lw l x i H := by
  unfold ladinglaw19_NetPlays.j3 ladinglaw19_NetPlays.j2
  have hl := St2.len h
  refine All19_spec (by omega) (by omega) h.on fun l' H' o' => Len19_spec (On.above .net h.on o'.le) (br_f (by rw [hl]; simp) (br_f ?_ ?_))
  · have := o'.len
    rw [pkc_len] at this
    rw [hl]; simp; omega
  have hl' := o'.len
  rw [pkc_len] at hl'
  have hl' : l'.len = fl.length := by omega
  rw [hl']
  have loop : ∀ (m j f : Nat) (G : SH), fl.length - j = m → j ≤ fl.length → m < f → SH.le H' G → ladinglaw19_NetPlays.l3 F KT R1 f (some (bn, 0)) lw l x i l' (fl.length : Int) (j : Int) G := by
    intro m
    induction m with
    | zero =>
      intro j f G hj hi hf hG
      obtain ⟨f, rfl⟩ : ∃ i, f = i + 1 := ⟨f - 1, by omega⟩
      exact br_f (by omega) (k G (o'.le.trans hG))
    | succ m ih =>
      intro j f G hj hi hf hG
      obtain ⟨f, rfl⟩ : ∃ i, f = i + 1 := ⟨f - 1, by omega⟩
      have hlt : j < fl.length := by omega
      obtain ⟨p, hp, hrow⟩ := row_pkt (o'.row.le hG) hlt
      obtain ⟨q, hq, hrow2⟩ := row_fly ((St2.sl h).rowG.le (o'.le.trans hG)) hlt
      refine br_t (by omega) ⟨p, hp, by omega, by omega, fl[j].f, fl[j].t, fl[j].d, hrow, fun b hb => ⟨wrs_upd rfl (Nat.le_refl _), ?_⟩⟩
      rw [pkt_set]
      have hG' : SH.le G (G.upd b ⟨[.int .i64 fl[j].f, .int .i64 fl[j].t, .string fl[j].d], 34, false, 3⟩) := le_upd hb
      refine ⟨fl[j].f, fl[j].t, fl[j].d, row0 (SH.upd_same _ _ _) (fun j u hu => hu), q, hq, by omega, by omega, fl[j].f, fl[j].t, fl[j].d, rowPre (hrow2.le hG') pk3, br_t ⟨rfl, rfl, rfl⟩ ?_⟩
      rw [w64_id (by omega), show (j : Int) + 1 = ((j + 1 : Nat) : Int) by omega]
      exact ih (j + 1) f _ (by omega) (by omega) (by omega) (hG.trans hG')
  exact loop fl.length 0 F H' (by omega) (by omega) (by omega) (.refl _)
theorem sendA {want : Int} (hF : 10000 ≤ F) (hw : want = (sendE o.a o.b o.s : Int)) (hb : H2 b24 = some (opO o)) (hg : H2.has (0, 0) (rtv 31)) (hn : fl.length ≤ 200) (c : St2 bn lw fl H2 G)
    (nxt : ∀ fl' lw' G', fl'.length ≤ fl.length + 1 → St2 bn lw' fl' H2 G' → ladinglaw19_NetPlays.j3 F KT R1 (some (bn, 0)) lw' l x i G') : ladinglaw19_NetPlays.j4 F KT R1 (some (bn, 0)) lw b24 want l x i G := by
  have oh : ∀ {G' : SH} (k : Nat) (v : Value), SH.le H2 G' → (opO o).cells[k]? = some v → G'.has (b24, k) v := fun k v hle' hk => ⟨_, hle' _ _ hb, hk⟩
  obtain ⟨H1, cn, cs⟩ := c
  have cn : On (NetI bn fl) H1 G := cn
  have l1 : SH.le H2 H1 := cs.le
  have lG : SH.le H2 G := l1.trans cn.le
  have hl := St2.len (⟨H1, cn, cs⟩ : St2 bn lw fl H2 G)
  refine ⟨o.a, oh 1 _ lG rfl, o.b, oh 2 _ lG rfl, o.s, oh 4 _ lG rfl, Send_spec (by omega) cn (fun e0 H' g => ?_) (fun e0 => ?_)⟩
  · rw [drop300 (by simp; omega)] at g
    have lH : SH.le H2 H' := l1.trans g.le
    have w0 : want = 0 := by rw [hw, e0]; rfl
    refine CodeN (hg.le lH) (br_f (by rw [w0]; show ¬ ((0 : Int) ≠ 0); simp) (br_t w0 ⟨o.a, oh 1 _ lH rfl, o.b, oh 2 _ lH rfl, o.s, oh 4 _ lH rfl, ?_⟩))
    obtain ⟨Hs, s1, s2⟩ := Chain.pull [nt bn (fl ++ [(⟨o.a, o.b, o.s, false⟩ : Fl)])] (⟨H1, g, cs⟩ : Chain [nt bn (fl ++ [(⟨o.a, o.b, o.s, false⟩ : Fl)]), slG FLW 4 lw (flc fl)] H2 H')
    have s1 : On (SlG FLW 4 lw (flc fl)) Hs H' := s1
    refine s1.appendG (by omega) (by omega) rfl (by simp [Value.oneCell']) fun l' H3 s3 _ => ?_
    have e : flc fl ++ [.int .i64 o.a, .int .i64 o.b, .string o.s, .bool false] = flc (fl ++ [(⟨o.a, o.b, o.s, false⟩ : Fl)]) := by rw [flc_app, flc_one]; rfl
    rw [e] at s3
    exact nxt _ l' H3 (by simp) (Chain.pull [slG FLW 4 l' (flc (fl ++ [(⟨o.a, o.b, o.s, false⟩ : Fl)]))] (⟨Hs, s3, s2⟩ : Chain [slG FLW 4 l' (flc (fl ++ [(⟨o.a, o.b, o.s, false⟩ : Fl)])), nt bn (fl ++ [(⟨o.a, o.b, o.s, false⟩ : Fl)])] H2 H3))
  · have wn : ¬ want = 0 := by rw [hw]; omega
    refine CodeN (hg.le lG) (br_f ?_ (br_f wn (nxt fl lw G (by omega) ⟨H1, cn, cs⟩)))
    rw [hw]
    show ¬ (((sendE o.a o.b o.s : Nat) : Int) ≠ _)
    simp
theorem checkB (hF : 10000 ≤ F) (hn : fl.length ≤ 1000) (h : St2 bn lw fl H0 H) (k : ∀ G, SH.le H G → R1 (some (bn, 0)) lw l x (w64 (i + 1)) G) : ladinglaw19_NetPlays.j14 F KT R1 (some (bn, 0)) lw l x i H := by
  unfold ladinglaw19_NetPlays.j14 ladinglaw19_NetPlays.j13
  have hl := St2.len h
  refine All19_spec (by omega) (by omega) h.on fun l' H' o' => Len19_spec (On.above .net h.on o'.le) (br_f (by rw [hl]; simp) (br_f ?_ ?_))
  · have := o'.len
    rw [pkc_len] at this
    rw [hl]; simp; omega
  have hl' := o'.len
  rw [pkc_len] at hl'
  have hl' : l'.len = fl.length := by omega
  rw [hl']
  have loop : ∀ (m j f : Nat) (G : SH), fl.length - j = m → j ≤ fl.length → m < f → SH.le H' G → ladinglaw19_NetPlays.l5 F KT R1 f (some (bn, 0)) lw l x i l' (fl.length : Int) (j : Int) G := by
    intro m
    induction m with
    | zero =>
      intro j f G hj hi hf hG
      obtain ⟨f, rfl⟩ : ∃ i, f = i + 1 := ⟨f - 1, by omega⟩
      exact br_f (by omega) (k G (o'.le.trans hG))
    | succ m ih =>
      intro j f G hj hi hf hG
      obtain ⟨f, rfl⟩ : ∃ i, f = i + 1 := ⟨f - 1, by omega⟩
      have hlt : j < fl.length := by omega
      obtain ⟨p, hp, hrow⟩ := row_pkt (o'.row.le hG) hlt
      obtain ⟨q, hq, hrow2⟩ := row_fly ((St2.sl h).rowG.le (o'.le.trans hG)) hlt
      refine br_t (by omega) ⟨p, hp, by omega, by omega, fl[j].f, fl[j].t, fl[j].d, hrow, fun b hb => ⟨wrs_upd rfl (Nat.le_refl _), ?_⟩⟩
      rw [pkt_set]
      have hG' : SH.le G (G.upd b ⟨[.int .i64 fl[j].f, .int .i64 fl[j].t, .string fl[j].d], 34, false, 3⟩) := le_upd hb
      refine ⟨fl[j].f, fl[j].t, fl[j].d, row0 (SH.upd_same _ _ _) (fun j u hu => hu), q, hq, by omega, by omega, fl[j].f, fl[j].t, fl[j].d, rowPre (hrow2.le hG') pk3, br_t ⟨rfl, rfl, rfl⟩ ?_⟩
      rw [w64_id (by omega), show (j : Int) + 1 = ((j + 1 : Nat) : Int) by omega]
      exact ih (j + 1) f _ (by omega) (by omega) (by omega) (hG.trans hG')
  exact loop fl.length 0 F H' (by omega) (by omega) (by omega) (.refl _)
theorem sendB {want : Int} (hF : 10000 ≤ F) (hw : want = (sendE o.a o.b o.s : Int)) (hb : H2 b24 = some (opO o)) (hg : H2.has (0, 0) (rtv 31)) (hn : fl.length ≤ 200) (c : St2 bn lw fl H2 G)
    (nxt : ∀ fl' lw' G', fl'.length ≤ fl.length + 1 → St2 bn lw' fl' H2 G' → ladinglaw19_NetPlays.j14 F KT R1 (some (bn, 0)) lw' l x i G') : ladinglaw19_NetPlays.j15 F KT R1 (some (bn, 0)) lw b24 want l x i G := by
  have oh : ∀ {G' : SH} (k : Nat) (v : Value), SH.le H2 G' → (opO o).cells[k]? = some v → G'.has (b24, k) v := fun k v hle' hk => ⟨_, hle' _ _ hb, hk⟩
  obtain ⟨H1, cn, cs⟩ := c
  have cn : On (NetI bn fl) H1 G := cn
  have l1 : SH.le H2 H1 := cs.le
  have lG : SH.le H2 G := l1.trans cn.le
  have hl := St2.len (⟨H1, cn, cs⟩ : St2 bn lw fl H2 G)
  refine ⟨o.a, oh 1 _ lG rfl, o.b, oh 2 _ lG rfl, o.s, oh 4 _ lG rfl, Send_spec (by omega) cn (fun e0 H' g => ?_) (fun e0 => ?_)⟩
  · rw [drop300 (by simp; omega)] at g
    have lH : SH.le H2 H' := l1.trans g.le
    have w0 : want = 0 := by rw [hw, e0]; rfl
    refine CodeN (hg.le lH) (br_f (by rw [w0]; show ¬ ((0 : Int) ≠ 0); simp) (br_t w0 ⟨o.a, oh 1 _ lH rfl, o.b, oh 2 _ lH rfl, o.s, oh 4 _ lH rfl, ?_⟩))
    obtain ⟨Hs, s1, s2⟩ := Chain.pull [nt bn (fl ++ [(⟨o.a, o.b, o.s, false⟩ : Fl)])] (⟨H1, g, cs⟩ : Chain [nt bn (fl ++ [(⟨o.a, o.b, o.s, false⟩ : Fl)]), slG FLW 4 lw (flc fl)] H2 H')
    have s1 : On (SlG FLW 4 lw (flc fl)) Hs H' := s1
    refine s1.appendG (by omega) (by omega) rfl (by simp [Value.oneCell']) fun l' H3 s3 _ => ?_
    have e : flc fl ++ [.int .i64 o.a, .int .i64 o.b, .string o.s, .bool false] = flc (fl ++ [(⟨o.a, o.b, o.s, false⟩ : Fl)]) := by rw [flc_app, flc_one]; rfl
    rw [e] at s3
    exact nxt _ l' H3 (by simp) (Chain.pull [slG FLW 4 l' (flc (fl ++ [(⟨o.a, o.b, o.s, false⟩ : Fl)]))] (⟨Hs, s3, s2⟩ : Chain [slG FLW 4 l' (flc (fl ++ [(⟨o.a, o.b, o.s, false⟩ : Fl)])), nt bn (fl ++ [(⟨o.a, o.b, o.s, false⟩ : Fl)])] H2 H3))
  · have wn : ¬ want = 0 := by rw [hw]; omega
    refine CodeN (hg.le lG) (br_f ?_ (br_f wn (nxt fl lw G (by omega) ⟨H1, cn, cs⟩)))
    rw [hw]
    show ¬ (((sendE o.a o.b o.s : Nat) : Int) ≠ _)
    simp
/-- A packet is cut out of the law's list. -/
theorem cut_ok {a : Nat} (ha : a < fl.length) (hn : fl.length ≤ 1000) (hr : H.row lw.a (flc fl)) (hl : lw.len = fl.length) (hc : lw.len ≤ lw.cap) {K : Sl → SH → Prop} (k : ∀ l' H', On (SlG FLW 4 l' (flc (fl.eraseIdx a))) H H' → l'.len = (fl.eraseIdx a).length → K l' H') :
    ∃ w203, SH.row H (Sl.sub 4 lw (0 : Int).toNat ((a : Nat) : Int).toNat lw.cap).a w203 ∧
      (∀ b184, H b184 = none → AppendQ (SH.upd H b184 (⟨[], FLW, false, 0⟩ : AO)) FLW 4 40 (⟨some (b184, 0), 0, 0⟩ : Sl) (Sl.sub 4 lw (0 : Int).toNat ((a : Nat) : Int).toNat lw.cap).len w203 (fun l196 H197 => SH.le H H197 ∧
        ∃ w201, SH.row H197 (Sl.sub 4 lw (w64 (((a : Nat) : Int) + 1)).toNat (lw.len : Int).toNat lw.cap).a w201 ∧
        AppendQ H197 FLW 4 40 l196 (Sl.sub 4 lw (w64 (((a : Nat) : Int) + 1)).toNat (lw.len : Int).toNat lw.cap).len w201 K)) := by
  have ea : w64 (((a : Nat) : Int) + 1) = ((a + 1 : Nat) : Int) := by rw [w64_id (by omega)]; omega
  rw [ea]
  simp only [Int.toNat_natCast]
  have ra : H.row (Sl.sub 4 lw 0 a lw.cap).a (flc (fl.take a)) := by
    have := row_subG (size := 4) (m := lw.cap) hr (Nat.zero_le a) (by omega : a ≤ lw.cap)
    rw [flc_take, Nat.zero_mul, List.drop_zero] at this; exact this
  have rb : H.row (Sl.sub 4 lw (a + 1) lw.len lw.cap).a (flc (fl.drop (a + 1))) := by
    have := row_subG (size := 4) (m := lw.cap) (lo := a + 1) (hi := lw.len) hr (by omega) hc
    rw [List.take_of_length_le (by rw [flc_len]; omega), flc_drop] at this; exact this
  refine ⟨flc (fl.take a), ra, fun b hb => ?_⟩
  have on : On (SlG FLW 4 ⟨some (b, 0), 0, 0⟩ []) H (H.upd b ⟨[], FLW, false, 0⟩) := On.mkG (b := b) (pre := []) (post := []) (sz := 0) (le_upd hb) (by simp) rfl (Nat.le_refl _) hb (by rw [SH.upd_same]; rfl) (by simp)
  have es : (Sl.sub 4 lw (0 : Int).toNat a lw.cap).len = a := by show a - 0 = a; omega
  have es2 : (Sl.sub 4 lw (a + 1) lw.len lw.cap).len = lw.len - (a + 1) := rfl
  rw [es]
  refine on.appendG (by simp only []; omega) (by simp only []; omega) (by rw [flc_len, List.length_take]; omega) (flc_ok _) fun l1 H1 s1 h1 => ⟨s1.le, flc (fl.drop (a + 1)), rb.le s1.le, ?_⟩
  rw [es2]
  have h1 : l1.len = a := by rw [h1]; simp
  refine s1.appendG (by rw [h1]; omega) (by rw [h1]; omega) (by rw [flc_len, List.length_drop]; omega) (flc_ok _) fun l2 H3 s3 h3 => ?_
  rw [List.nil_append, ← flc_app, ← erase_split] at s3
  have := s3.lenG
  rw [flc_len] at this
  exact k l2 H3 s3 (by omega)
end
end Go.Proofs.YtkfbmoekghbgbaaDoor.K
