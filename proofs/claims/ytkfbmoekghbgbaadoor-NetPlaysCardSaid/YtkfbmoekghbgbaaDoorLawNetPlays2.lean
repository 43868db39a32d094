/- The law NetPlays: Spoil and Clear. -/
import Derived.Test.YtkfbmoekghbgbaaDoorLawNetPlays
set_option linter.unusedVariables false
set_option linter.unusedSimpArgs false
namespace Go.Proofs.YtkfbmoekghbgbaaDoor.K
open Go
theorem row_has {H : SH} {p : Nat × Nat} {cs : List Value} {j : Nat} {v : Value} (h : H.row (some p) cs) (hv : cs[j]? = some v) : H.has (p.1, p.2 + j) v := by
  rcases h with h | ⟨q, o, h1, h2, h3⟩
  · rw [h] at hv; simp at hv
  · cases h1; exact ⟨o, h2, h3 j v hv⟩
theorem flc_spoil {l : List Fl} {i : Nat} {s : ByteArray} (h : i < l.length) : wrl (wrl (flc l) (i * 4 + 2) [.string s]) (i * 4 + 3) [.bool true] = flc (l.set i ⟨l[i].f, l[i].t, s, true⟩) := by
  have e : flc l = (flc (l.take i) ++ [Value.int .i64 l[i].f, Value.int .i64 l[i].t]) ++ ([Value.string l[i].d, Value.bool l[i].q] ++ flc (l.drop (i + 1))) := by
    have : flc l = flc (l.take i) ++ (l[i].c ++ flc (l.drop (i + 1))) := by
      rw [← flc_one, ← flc_app, ← flc_app, List.singleton_append, ← List.drop_eq_getElem_cons h, List.take_append_drop]
    rw [this, List.append_assoc]; rfl
  have l1 : (flc (l.take i) ++ [Value.int .i64 l[i].f, Value.int .i64 l[i].t]).length = i * 4 + 2 := by rw [List.length_append, flc_len, List.length_take, Nat.min_eq_left (by omega)]; rfl
  have l2 : ((flc (l.take i) ++ [Value.int .i64 l[i].f, Value.int .i64 l[i].t]) ++ [Value.string s]).length = i * 4 + 3 := by rw [List.length_append, l1]; rfl
  have e1 : wrl (flc l) (i * 4 + 2) [.string s] = ((flc (l.take i) ++ [Value.int .i64 l[i].f, Value.int .i64 l[i].t]) ++ [Value.string s]) ++ ([Value.bool l[i].q] ++ flc (l.drop (i + 1))) := by
    rw [e, ← l1, wrl_app]; simp
  rw [e1, ← l2, wrl_app, List.set_eq_take_append_cons_drop, if_pos h, flc_app, show (⟨l[i].f, l[i].t, s, true⟩ : Fl) :: l.drop (i + 1) = [⟨l[i].f, l[i].t, s, true⟩] ++ l.drop (i + 1) from rfl, flc_app, flc_one]
  simp [Fl.c]
section
variable {F : Nat} {H H0 H2 G : SH} {bn b24 : Nat} {fl : List Fl} {lw l : Sl} {x i : Int} {R1 : RT} {o : NOp}
theorem spoilA {want : Int} {a : Nat} (hF : 10000 ≤ F) (ha : o.a = a) (hlt : a < fl.length) (hw : want = (spoilE fl[a] o.b o.y : Int)) (hy : 0 ≤ o.y ∧ o.y ≤ 255) (hb : H2 b24 = some (opO o)) (hg : H2.has (0, 0) (rtv 31)) (hn : fl.length ≤ 200) (c : St2 bn lw fl H2 G)
    (nxt : ∀ fl' lw' G', fl'.length ≤ fl.length + 1 → St2 bn lw' fl' H2 G' → ladinglaw19_NetPlays.j3 F KT R1 (some (bn, 0)) lw' l x i G') : ladinglaw19_NetPlays.j9 F KT R1 (some (bn, 0)) lw b24 want l x i G := by
  have oh : ∀ {G' : SH} (k : Nat) (v : Value), SH.le H2 G' → (opO o).cells[k]? = some v → G'.has (b24, k) v := fun k v hle' hk => ⟨_, hle' _ _ hb, hk⟩
  have oa : ∀ {G' : SH}, SH.le H2 G' → G'.has (b24, 1) (.int .i64 (a : Int)) := fun hle' => by rw [← ha]; exact oh 1 _ hle' rfl
  have hl := St2.len c
  obtain ⟨H1, cn, cs⟩ := c
  have cn : On (NetI bn fl) H1 G := cn
  have l1 : SH.le H2 H1 := cs.le
  have lG : SH.le H2 G := l1.trans cn.le
  unfold ladinglaw19_NetPlays.j9 ladinglaw19_NetPlays.j8
  refine ⟨a, oa lG, o.b, oh 2 _ lG rfl, o.y, oh 3 _ lG rfl, Spoil_spec hy hlt cn (fun e0 H' g => ?_) (fun e0 => ?_)⟩
  · have lH : SH.le H2 H' := l1.trans g.le
    have w0 : want = 0 := by rw [hw, e0]; rfl
    obtain ⟨Hs, s1, s2⟩ := Chain.pull [nt bn (fl.set a (spoilF fl[a] o.b o.y))] (⟨H1, g, cs⟩ : Chain [nt bn (fl.set a (spoilF fl[a] o.b o.y)), slG FLW 4 lw (flc fl)] H2 H')
    have s1 : On (SlG FLW 4 lw (flc fl)) Hs H' := s1
    have s2 : Chain [nt bn (fl.set a (spoilF fl[a] o.b o.y))] H2 Hs := s2
    obtain ⟨p, hp, hrow⟩ := row_fly s1.rowG hlt
    have hdef : spoilF fl[a] o.b o.y = ⟨fl[a].f, fl[a].t, ⟨(fl[a].d.data.toList.set o.b.toNat (UInt8.ofNat ((fl[a].d.data.toList[o.b.toNat]?.getD 0).toNat ^^^ o.y.toNat))).toArray⟩, true⟩ := rfl
    have a12 : ¬ (o.b < 0 ∨ o.b ≥ fl[a].d.size) := fun h => by
      have : spoilE fl[a] o.b o.y = 2 := if_pos h
      omega
    generalize hx : fl[a] = X at *
    obtain ⟨n, hbn⟩ : ∃ n : Nat, o.b = n := ⟨o.b.toNat, by omega⟩
    have hlt2 : n < X.d.data.toList.length := by simp only [Array.length_toList]; show n < X.d.size; omega
    have cel : (byteCells X.d.data.toList)[0 + n * 1]? = some (.int .u8 (((X.d.data.toList)[n]).toNat : Int)) := by
      unfold byteCells
      rw [List.getElem?_map, Nat.zero_add, Nat.mul_one, List.getElem?_eq_getElem hlt2]; rfl
    have ex : ibits .xor .u8 (((X.d.data.toList)[n]).toNat : Int) o.y = ((UInt8.ofNat ((X.d.data.toList)[n].toNat ^^^ o.y.toNat)).toNat : Int) := by
      have h8 : (X.d.data.toList)[n].toNat < 256 := (X.d.data.toList)[n].toNat_lt
      have hb8 : o.y.toNat < 256 := by omega
      have : (X.d.data.toList)[n].toNat ^^^ o.y.toNat < 2 ^ 8 := Nat.xor_lt_two_pow (n := 8) h8 hb8
      rw [ibits_xor8 (by omega) hy.1 (by omega) hy.2, UInt8.toNat_ofNat']
      congr 1
      rw [Nat.mod_eq_of_lt this]; simp
    refine CodeN (hg.le lH) (br_f (by rw [w0]; show ¬ ((0 : Int) ≠ 0); simp) (br_t w0 ⟨a, oa lH, p, hp, by omega, by omega, X.d, row_has (j := 2) hrow rfl, fun b390 n391 hb390 hn391 => ?_⟩))
    have h25 : On (Blk b390 ⟨byteCells X.d.data.toList, 5, false, n391⟩) H' (H'.upd b390 ⟨byteCells X.d.data.toList, 5, false, n391⟩) := On.new hb390
    have l25 := lH.trans h25.le
    refine ⟨n, by rw [← hbn]; exact oh 2 _ l25 rfl, (b390, 0), rfl, by omega, by show _ < ((X.d.size : Nat) : Int); omega, _, h25.has (k := 0 + n * 1) cel, o.y, oh 3 _ l25 rfl, (b390, 0), rfl, by omega, by show _ < ((X.d.size : Nat) : Int); omega, h25.wrs (k := 0 + n * 1) rfl (by simp only [byteCells, List.length_map]; omega), fun b410 hb410 => ?_⟩
    have ew : wrl (byteCells X.d.data.toList) (0 + n * 1) [.int .u8 (ibits .xor .u8 (((X.d.data.toList)[n]).toNat : Int) o.y)] = byteCells (X.d.data.toList.set n (UInt8.ofNat ((X.d.data.toList[n]).toNat ^^^ o.y.toNat))) := by
      rw [ex, Nat.zero_add, Nat.mul_one, wrl_bytesN hlt2]
    have h26 := On.setl (k := 0 + n * 1) (vs := [.int .u8 (ibits .xor .u8 (((X.d.data.toList)[n]).toNat : Int) o.y)]) h25
    simp only [ew] at h26
    have en : ((n : Nat) : Int).toNat = n := rfl
    rw [en] at hb410 ⊢
    generalize SH.setl (H'.upd b390 ⟨byteCells X.d.data.toList, 5, false, n391⟩) (b390, 0 + n * 1) [.int .u8 (ibits .xor .u8 (((X.d.data.toList)[n]).toNat : Int) o.y)] = J at *
    have on : On (SlG FLW 4 ⟨some (b410, 0), 0, 0⟩ []) J (J.upd b410 ⟨[], FLW, false, 0⟩) := On.mkG (b := b410) (pre := []) (post := []) (sz := 0) (le_upd hb410) (by simp) rfl (Nat.le_refl _) hb410 (by rw [SH.upd_same]; rfl) (by simp)
    have lJ : SH.le H2 J := lH.trans h26.le
    refine ⟨flc fl, (s1.rowG.le h26.le).le on.le, on.appendG (by simp only []; omega) (by simp only []; omega) (by rw [flc_len]; omega) (flc_ok _) fun l412 H413 s4 h4 => ?_⟩
    rw [List.nil_append] at s4
    have h4 : l412.len = fl.length := by rw [h4]; simp only []; omega
    have hp2 : ∃ p2, l412.a = some p2 := by
      rcases s4.atG with ⟨_, h0, _⟩ | ⟨b', pre, post, sz, k1, _⟩
      · omega
      · exact ⟨_, k1⟩
    obtain ⟨p2, hp2⟩ := hp2
    obtain ⟨g1, g2⟩ := s4.putG (k := a * 4 + 2) (vs := [.string ⟨(X.d.data.toList.set n (UInt8.ofNat ((X.d.data.toList[n]).toNat ^^^ o.y.toNat))).toArray⟩]) (by rw [flc_len]; show _ + 1 ≤ _; omega) hp2
    obtain ⟨g3, g4⟩ := g2.putG (k := a * 4 + 3) (vs := [.bool true]) (by unfold wrl; simp only [List.length_append, List.length_take, List.length_drop, flc_len, List.length_singleton]; omega) hp2
    have ey : fl.set a (spoilF X o.b o.y) = fl.set a ⟨fl[a].f, fl[a].t, ⟨(X.d.data.toList.set n (UInt8.ofNat ((X.d.data.toList[n]).toNat ^^^ o.y.toNat))).toArray⟩, true⟩ := by
      rw [hdef, hx, hbn]
      simp only [en, List.getElem?_eq_getElem hlt2, Option.getD_some]
    rw [flc_spoil hlt, ← ey] at g4
    have l4 : SH.le H2 H413 := lJ.trans s4.le
    refine ⟨J, s4.le, a, oa l4, a, oa lJ, X.d.data.toList.set n (UInt8.ofNat ((X.d.data.toList[n]).toNat ^^^ o.y.toNat)), by simp only [List.length_set, Array.length_toList]; rfl, row0 (s4.le _ _ (On.blk.1 h26).2.2) (fun j u hu => hu), p2, hp2, by omega, by omega, p2, hp2, by omega, by omega, g1, g2.le, g3, ?_⟩
    exact nxt _ l412 _ (by rw [List.length_set]; omega) (Chain.pull [slG FLW 4 l412 (flc (fl.set a (spoilF X o.b o.y)))] (⟨J, g4, Chain.above s2 (s1.le.trans h26.le)⟩ : Chain [slG FLW 4 l412 (flc (fl.set a (spoilF X o.b o.y))), nt bn (fl.set a (spoilF X o.b o.y))] H2 _))
  · have wn : ¬ want = 0 := by rw [hw]; omega
    refine CodeN (hg.le lG) (br_f ?_ (br_f wn (nxt fl lw G (by omega) ⟨H1, cn, cs⟩)))
    rw [hw]
    show ¬ (((spoilE fl[a] o.b o.y : Nat) : Int) ≠ _)
    simp
theorem clearA (hF : 10000 ≤ F) (hb : H2 b24 = some (opO o)) (hn : fl.length ≤ 200) (c : St2 bn lw fl H2 G)
    (nxt : ∀ fl' lw' G', fl'.length ≤ fl.length + 1 → St2 bn lw' fl' H2 G' → ladinglaw19_NetPlays.j3 F KT R1 (some (bn, 0)) lw' l x i G') : ladinglaw19_NetPlays.l2 F KT R1 F (some (bn, 0)) lw b24 Sl.nil l x i lw (lw.len : Int) 0 G := by
  have oh : ∀ {G' : SH} (k : Nat) (v : Value), SH.le H2 G' → (opO o).cells[k]? = some v → G'.has (b24, k) v := fun k v hle' hk => ⟨_, hle' _ _ hb, hk⟩
  have hl := St2.len c
  have lG : SH.le H2 G := c.le
  have hr := (St2.sl c).rowG
  rw [hl]
  have loop : ∀ (m j f : Nat) (r : Sl) (G' : SH), fl.length - j = m → j ≤ fl.length → m < f → On (SlG FLW 4 r (flc ((fl.take j).filter fun x => !ofP o.a x))) G G' → ladinglaw19_NetPlays.l2 F KT R1 f (some (bn, 0)) lw b24 r l x i lw (fl.length : Int) (j : Int) G' := by
    intro m
    induction m with
    | zero =>
      intro j f r G' hj hi hf g
      obtain ⟨f, rfl⟩ : ∃ i, f = i + 1 := ⟨f - 1, by omega⟩
      rw [List.take_of_length_le (by omega)] at g
      have hrl := g.lenG
      rw [flc_len] at hrl
      obtain ⟨Hn, n1, n2⟩ := Chain.pull [slG FLW 4 r (flc (fl.filter fun x => !ofP o.a x))] (⟨G, g, c⟩ : Chain [slG FLW 4 r (flc (fl.filter fun x => !ofP o.a x)), nt bn fl, slG FLW 4 lw (flc fl)] H2 G')
      have n1 : On (NetI bn fl) Hn G' := n1
      have n2 : Chain [slG FLW 4 r (flc (fl.filter fun x => !ofP o.a x)), slG FLW 4 lw (flc fl)] H2 Hn := n2
      have hfl : (fl.filter fun x => !ofP o.a x).length ≤ fl.length := List.length_filter_le _ _
      refine br_f (by omega) ⟨o.a, oh 1 _ (lG.trans g.le) rfl, Clear_spec (by omega) (by omega) n1 fun H' h' => br_f ?_ (nxt _ r H' (by omega) ⟨Hn, h', Chain.keepG [slG FLW 4 r (flc (fl.filter fun x => !ofP o.a x))] n2⟩)⟩
      rw [hl, w64_id (by omega), show r.len = (fl.filter fun x => !ofP o.a x).length by omega]
      simp
    | succ m ih =>
      intro j f r G' hj hi hf g
      obtain ⟨f, rfl⟩ : ∃ i, f = i + 1 := ⟨f - 1, by omega⟩
      have hlt : j < fl.length := by omega
      obtain ⟨p, hp, hrow⟩ := row_fly (hr.le g.le) hlt
      have et : (fl.take (j + 1)).filter (fun x => !ofP o.a x) = (fl.take j).filter (fun x => !ofP o.a x) ++ (if ofP o.a fl[j] then [] else [fl[j]]) := by
        rw [List.take_succ_eq_append_getElem hlt, List.filter_append]
        congr 1
        cases hq : ofP o.a fl[j] <;> simp [hq]
      have hrl := g.lenG
      rw [flc_len] at hrl
      have hfl : ((fl.take j).filter fun x => !ofP o.a x).length ≤ fl.length := Nat.le_trans (List.length_filter_le _ _) (by rw [List.length_take]; omega)
      generalize hX : fl[j] = X at *
      refine br_t (by omega) ⟨p, hp, by omega, by omega, X.f, X.t, X.d, X.q, hrow, fun b464 hb464 => ⟨wrs_upd rfl (Nat.le_refl _), ?_⟩⟩
      have hset : SH.setl (SH.upd G' b464 ⟨[.int .i64 0, .int .i64 0, .string ByteArray.empty, .bool false], FLW, false, 4⟩) (b464, 0) [.int .i64 X.f, .int .i64 X.t, .string X.d, .bool X.q] = SH.upd G' b464 ⟨X.c, FLW, false, 4⟩ := by rw [setl_upd]; rfl
      rw [hset]
      obtain ⟨G3, g', gt, gle⟩ := On.temp .slg g hb464 ⟨X.c, FLW, false, 4⟩
      have hX4 : (SH.upd G' b464 ⟨X.c, FLW, false, 4⟩) b464 = some ⟨X.c, FLW, false, 4⟩ := SH.upd_same _ _ _
      have l3 : SH.le H2 (SH.upd G' b464 ⟨X.c, FLW, false, 4⟩) := lG.trans (gle.trans g'.le)
      generalize SH.upd G' b464 ⟨X.c, FLW, false, 4⟩ = G4 at *
      have hh : ∀ k v, X.c[k]? = some v → G4.has (b464, k) v := fun k v hv => ⟨_, hX4, hv⟩
      have step : ∀ (r' : Sl) (G5 : SH), On (SlG FLW 4 r' (flc ((fl.take (j + 1)).filter fun x => !ofP o.a x))) G3 G5 → ladinglaw19_NetPlays.j11 F KT R1 (ladinglaw19_NetPlays.l2 F KT R1 f) (some (bn, 0)) lw b24 r' l x i lw (fl.length : Int) (j : Int) G5 := fun r' G5 h5 => by
        unfold ladinglaw19_NetPlays.j11 ladinglaw19_NetPlays.j10
        rw [w64_id (by omega), show (j : Int) + 1 = ((j + 1 : Nat) : Int) by omega]
        exact ih (j + 1) f r' G5 (by omega) (by omega) (by omega) (h5.below gle)
      refine ⟨X.f, hh 0 _ rfl, o.a, oh 1 _ l3 rfl, ?_⟩
      by_cases c1 : X.f = o.a
      · have e : ofP o.a X = true := by unfold ofP; rw [c1]; simp
        rw [et, e] at step
        simp only [if_true, List.append_nil] at step
        exact br_f (by simp [c1]) (step r G4 g')
      refine br_t c1 ⟨X.t, hh 1 _ rfl, o.a, oh 1 _ l3 rfl, ?_⟩
      by_cases c2 : X.t = o.a
      · have e : ofP o.a X = true := by unfold ofP; rw [c2]; simp
        rw [et, e] at step
        simp only [if_true, List.append_nil] at step
        exact br_f (by simp [c2]) (step r G4 g')
      · have e : ofP o.a X = false := by unfold ofP; rw [beq_eq_false_iff_ne.2 c1, beq_eq_false_iff_ne.2 c2]; rfl
        rw [et, e] at step
        simp only [Bool.false_eq_true, if_false] at step
        refine br_t c2 ⟨X.f, X.t, X.d, X.q, row0 hX4 (fun j u hu => hu), g'.appendG (by omega) (by omega) rfl (by simp [Value.oneCell']) fun r' G5 h5 _ => step r' G5 ?_⟩
        rw [flc_app, flc_one]; exact h5
  exact loop fl.length 0 F Sl.nil G (by omega) (by omega) (by omega) (On.nilG FLW 4 G)
end
end Go.Proofs.YtkfbmoekghbgbaaDoor.K
