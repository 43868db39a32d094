/- The law NetPlays: all its calls; the walk. -/
import Derived.Test.YtkfbmoekghbgbaaDoorLawNetPlays2
set_option linter.unusedVariables false
set_option linter.unusedSimpArgs false
namespace Go.Proofs.YtkfbmoekghbgbaaDoor.K
open Go
section
variable {F : Nat} {H H0 H2 G : SH} {bn b24 : Nat} {fl : List Fl} {lw l : Sl} {x i : Int} {R1 : RT} {o : NOp}
theorem keep2 {A B C : LP} {H0 H : SH} (c : Chain [A, B, C] H0 H) : Chain [B, C] H0 H := by
  obtain ⟨H1, h1, h2⟩ := Chain.drop c
  exact h1.above h2
theorem clearB (hF : 10000 ≤ F) (hb : H2 b24 = some (opO o)) (hn : fl.length ≤ 200) (c : St2 bn lw fl H2 G)
    (nxt : ∀ fl' lw' G', fl'.length ≤ fl.length + 1 → St2 bn lw' fl' H2 G' → ladinglaw19_NetPlays.j14 F KT R1 (some (bn, 0)) lw' l x i G') : ladinglaw19_NetPlays.l4 F KT R1 F (some (bn, 0)) lw b24 Sl.nil l x i lw (lw.len : Int) 0 G := by
  have oh : ∀ {G' : SH} (k : Nat) (v : Value), SH.le H2 G' → (opO o).cells[k]? = some v → G'.has (b24, k) v := fun k v hle' hk => ⟨_, hle' _ _ hb, hk⟩
  have hl := St2.len c
  have lG : SH.le H2 G := c.le
  have hr := (St2.sl c).rowG
  rw [hl]
  have loop : ∀ (m j f : Nat) (r : Sl) (G' : SH), fl.length - j = m → j ≤ fl.length → m < f → On (SlG FLW 4 r (flc ((fl.take j).filter fun x => !ofP o.a x))) G G' → ladinglaw19_NetPlays.l4 F KT R1 f (some (bn, 0)) lw b24 r l x i lw (fl.length : Int) (j : Int) G' := by
    intro m
    induction m with
    | zero =>
      intro j f r G' hj hi hf g
      obtain ⟨f, rfl⟩ : ∃ i, f = i + 1 := ⟨f - 1, by omega⟩
      rw [List.take_of_length_le (by omega)] at g
      have hrl := g.lenG
      rw [flc_len] at hrl
      obtain ⟨Hn, n1, n2⟩ := Chain.pull [slG FLW 4 r (flc (fl.filter fun x => !ofP o.a x))] (⟨G, g, c⟩ : Chain [slG FLW 4 r (flc (fl.filter fun x => !ofP o.a x)), nt bn fl, slG FLW 4 lw (flc fl)] H2 G')
      have n1 : On (NetI bn fl) Hn G' := n1
      have n2 : Chain [slG FLW 4 r (flc (fl.filter fun x => !ofP o.a x)), slG FLW 4 lw (flc fl)] H2 Hn := n2
      have hfl : (fl.filter fun x => !ofP o.a x).length ≤ fl.length := List.length_filter_le _ _
      refine br_f (by omega) ⟨o.a, oh 1 _ (lG.trans g.le) rfl, Clear_spec (by omega) (by omega) n1 fun H' h' => br_f ?_ (nxt _ r H' (by omega) ⟨Hn, h', Chain.keepG [slG FLW 4 r (flc (fl.filter fun x => !ofP o.a x))] n2⟩)⟩
      rw [hl, w64_id (by omega), show r.len = (fl.filter fun x => !ofP o.a x).length by omega]
      simp
    | succ m ih =>
      intro j f r G' hj hi hf g
      obtain ⟨f, rfl⟩ : ∃ i, f = i + 1 := ⟨f - 1, by omega⟩
      have hlt : j < fl.length := by omega
      obtain ⟨p, hp, hrow⟩ := row_fly (hr.le g.le) hlt
      have et : (fl.take (j + 1)).filter (fun x => !ofP o.a x) = (fl.take j).filter (fun x => !ofP o.a x) ++ (if ofP o.a fl[j] then [] else [fl[j]]) := by
        rw [List.take_succ_eq_append_getElem hlt, List.filter_append]
        congr 1
        cases hq : ofP o.a fl[j] <;> simp [hq]
      have hrl := g.lenG
      rw [flc_len] at hrl
      have hfl : ((fl.take j).filter fun x => !ofP o.a x).length ≤ fl.length := Nat.le_trans (List.length_filter_le _ _) (by rw [List.length_take]; omega)
      generalize hX : fl[j] = X at *
      refine br_t (by omega) ⟨p, hp, by omega, by omega, X.f, X.t, X.d, X.q, hrow, fun b464 hb464 => ⟨wrs_upd rfl (Nat.le_refl _), ?_⟩⟩
      have hset : SH.setl (SH.upd G' b464 ⟨[.int .i64 0, .int .i64 0, .string ByteArray.empty, .bool false], FLW, false, 4⟩) (b464, 0) [.int .i64 X.f, .int .i64 X.t, .string X.d, .bool X.q] = SH.upd G' b464 ⟨X.c, FLW, false, 4⟩ := by rw [setl_upd]; rfl
      rw [hset]
      obtain ⟨G3, g', gt, gle⟩ := On.temp .slg g hb464 ⟨X.c, FLW, false, 4⟩
      have hX4 : (SH.upd G' b464 ⟨X.c, FLW, false, 4⟩) b464 = some ⟨X.c, FLW, false, 4⟩ := SH.upd_same _ _ _
      have l3 : SH.le H2 (SH.upd G' b464 ⟨X.c, FLW, false, 4⟩) := lG.trans (gle.trans g'.le)
      generalize SH.upd G' b464 ⟨X.c, FLW, false, 4⟩ = G4 at *
      have hh : ∀ k v, X.c[k]? = some v → G4.has (b464, k) v := fun k v hv => ⟨_, hX4, hv⟩
      have step : ∀ (r' : Sl) (G5 : SH), On (SlG FLW 4 r' (flc ((fl.take (j + 1)).filter fun x => !ofP o.a x))) G3 G5 → ladinglaw19_NetPlays.j22 F KT R1 (ladinglaw19_NetPlays.l4 F KT R1 f) (some (bn, 0)) lw b24 r' l x i lw (fl.length : Int) (j : Int) G5 := fun r' G5 h5 => by
        unfold ladinglaw19_NetPlays.j22 ladinglaw19_NetPlays.j21
        rw [w64_id (by omega), show (j : Int) + 1 = ((j + 1 : Nat) : Int) by omega]
        exact ih (j + 1) f r' G5 (by omega) (by omega) (by omega) (h5.below gle)
      refine ⟨X.f, hh 0 _ rfl, o.a, oh 1 _ l3 rfl, ?_⟩
      by_cases c1 : X.f = o.a
      · have e : ofP o.a X = true := by unfold ofP; rw [c1]; simp
        rw [et, e] at step
        simp only [if_true, List.append_nil] at step
        exact br_f (by simp [c1]) (step r G4 g')
      refine br_t c1 ⟨X.t, hh 1 _ rfl, o.a, oh 1 _ l3 rfl, ?_⟩
      by_cases c2 : X.t = o.a
      · have e : ofP o.a X = true := by unfold ofP; rw [c2]; simp
        rw [et, e] at step
        simp only [if_true, List.append_nil] at step
        exact br_f (by simp [c2]) (step r G4 g')
      · have e : ofP o.a X = false := by unfold ofP; rw [beq_eq_false_iff_ne.2 c1, beq_eq_false_iff_ne.2 c2]; rfl
        rw [et, e] at step
        simp only [Bool.false_eq_true, if_false] at step
        refine br_t c2 ⟨X.f, X.t, X.d, X.q, row0 hX4 (fun j u hu => hu), g'.appendG (by omega) (by omega) rfl (by simp [Value.oneCell']) fun r' G5 h5 _ => step r' G5 ?_⟩
        rw [flc_app, flc_one]; exact h5
  exact loop fl.length 0 F Sl.nil G (by omega) (by omega) (by omega) (On.nilG FLW 4 G)
theorem spoilBadA (ho : o.a < 0 ∨ o.a ≥ fl.length) (hb : H2 b24 = some (opO o)) (hg : H2.has (0, 0) (rtv 31)) (c : St2 bn lw fl H2 G)
    (nxt : ∀ fl' lw' G', fl'.length ≤ fl.length + 1 → St2 bn lw' fl' H2 G' → ladinglaw19_NetPlays.j3 F KT R1 (some (bn, 0)) lw' l x i G') : ladinglaw19_NetPlays.j9 F KT R1 (some (bn, 0)) lw b24 9 l x i G := by
  have oh : ∀ {G' : SH} (k : Nat) (v : Value), SH.le H2 G' → (opO o).cells[k]? = some v → G'.has (b24, k) v := fun k v hle' hk => ⟨_, hle' _ _ hb, hk⟩
  have hl := St2.len c
  have lG : SH.le H2 G := c.le
  unfold ladinglaw19_NetPlays.j9 ladinglaw19_NetPlays.j8
  exact ⟨o.a, oh 1 _ lG rfl, o.b, oh 2 _ lG rfl, o.y, oh 3 _ lG rfl, Spoil_bad ho c.on (CodeN (hg.le lG) (br_f (by show ¬ ((9 : Int) ≠ 9); simp) (br_f (by decide) (nxt fl lw G (by omega) c))))⟩
theorem spoilBadB (ho : o.a < 0 ∨ o.a ≥ fl.length) (hb : H2 b24 = some (opO o)) (hg : H2.has (0, 0) (rtv 31)) (c : St2 bn lw fl H2 G)
    (nxt : ∀ fl' lw' G', fl'.length ≤ fl.length + 1 → St2 bn lw' fl' H2 G' → ladinglaw19_NetPlays.j14 F KT R1 (some (bn, 0)) lw' l x i G') : ladinglaw19_NetPlays.j20 F KT R1 (some (bn, 0)) lw b24 9 l x i G := by
  have oh : ∀ {G' : SH} (k : Nat) (v : Value), SH.le H2 G' → (opO o).cells[k]? = some v → G'.has (b24, k) v := fun k v hle' hk => ⟨_, hle' _ _ hb, hk⟩
  have hl := St2.len c
  have lG : SH.le H2 G := c.le
  unfold ladinglaw19_NetPlays.j20 ladinglaw19_NetPlays.j19
  exact ⟨o.a, oh 1 _ lG rfl, o.b, oh 2 _ lG rfl, o.y, oh 3 _ lG rfl, Spoil_bad ho c.on (CodeN (hg.le lG) (br_f (by show ¬ ((9 : Int) ≠ 9); simp) (br_f (by decide) (nxt fl lw G (by omega) c))))⟩
theorem badA {q : Bool} (hF : 10000 ≤ F) (ho : o.a < 0 ∨ o.a ≥ fl.length) (hb : H2 b24 = some (opO o)) (hg : H2.has (0, 0) (rtv 31)) (hn : fl.length ≤ 200) (c : St2 bn lw fl H2 G)
    (nxt : ∀ fl' lw' G', fl'.length ≤ fl.length + 1 → St2 bn lw' fl' H2 G' → ladinglaw19_NetPlays.j3 F KT R1 (some (bn, 0)) lw' l x i G') : ladinglaw19_NetPlays.j5 F KT R1 (some (bn, 0)) lw b24 false 9 l x i o.k q G := by
  have oh : ∀ {G' : SH} (k : Nat) (v : Value), SH.le H2 G' → (opO o).cells[k]? = some v → G'.has (b24, k) v := fun k v hle' hk => ⟨_, hle' _ _ hb, hk⟩
  have hl := St2.len c
  have lG : SH.le H2 G := c.le
  have ne9 : ¬ ((9 : Int) ≠ 9) := by simp
  cases q with
  | true =>
    refine br_t rfl fun b110 hb110 => ?_
    have hGG : SH.upd G b110 ⟨[.int .i64 0, .int .i64 0, .string ByteArray.empty], 34, false, 3⟩ = SH.upd G b110 (pkO z0) := rfl
    rw [hGG]
    have c1 : Chain [blkL b110 (pkO z0), nt bn fl, slG FLW 4 lw (flc fl)] H2 (SH.upd G b110 (pkO z0)) := ⟨G, On.new hb110, c⟩
    have l1 : SH.le H2 (SH.upd G b110 (pkO z0)) := c1.le
    generalize SH.upd G b110 (pkO z0) = G1 at *
    obtain ⟨H1, n1, c2⟩ := Chain.pull [blkL b110 (pkO z0)] c1
    have n1 : On (NetI bn fl) H1 G1 := n1
    have c2 : Chain [blkL b110 (pkO z0), slG FLW 4 lw (flc fl)] H2 H1 := c2
    have fin : ∀ H', On (NetI bn fl) H1 H' → SH.wrs H' (b110, 0) 3 ∧ ladinglaw19_NetPlays.j6 F KT R1 (some (bn, 0)) lw b24 false 9 b110 (some (.no 9)) l x i (SH.setl H' (b110, 0) [.int .i64 0, .int .i64 0, .string ByteArray.empty]) := fun H' n2 => by
      obtain ⟨Hb, b3, c3⟩ := Chain.pull [nt bn fl] (⟨H1, n2, c2⟩ : Chain [nt bn fl, blkL b110 (pkO z0), slG FLW 4 lw (flc fl)] H2 H')
      have b3 : On (Blk b110 (pkO z0)) Hb H' := b3
      have b4 : On (Blk b110 (pkO z0)) Hb (SH.setl H' (b110, 0) [.int .i64 0, .int .i64 0, .string ByteArray.empty]) := On.setl (k := 0) (vs := [.int .i64 0, .int .i64 0, .string ByteArray.empty]) b3
      have c4 : Chain [blkL b110 (pkO z0), nt bn fl, slG FLW 4 lw (flc fl)] H2 (SH.setl H' (b110, 0) [.int .i64 0, .int .i64 0, .string ByteArray.empty]) := ⟨Hb, b4, c3⟩
      refine ⟨b3.wrs rfl (Nat.le_refl _), ?_⟩
      generalize SH.setl H' (b110, 0) [.int .i64 0, .int .i64 0, .string ByteArray.empty] = J at *
      refine ⟨9, CodeN (hg.le c4.le) ⟨rfl, rfl⟩, br_f ne9 (br_f (by simp) ⟨0, 0, ByteArray.empty, row0 (On.blk.1 b4).2.2 (fun j u hu => hu), br_t ⟨rfl, rfl, rfl⟩ (br_f (by simp) (nxt fl lw J (by omega) (keep2 c4)))⟩)⟩
    refine ⟨o.k, oh 0 _ l1 rfl, ?_⟩
    by_cases k1 : o.k = 1
    · exact br_t k1 ⟨o.a, oh 1 _ l1 rfl, Take_bad ho n1 fin⟩
    · exact br_f k1 ⟨o.a, oh 1 _ l1 rfl, Look_bad ho n1 fin⟩
  | false =>
    refine br_f (by simp) ?_
    obtain ⟨H1, cn, cs⟩ := c
    have cn : On (NetI bn fl) H1 G := cn
    have lb : SH.le H2 H1 := cs.le
    by_cases k3 : o.k = 3
    · exact br_t k3 ⟨o.a, oh 1 _ lG rfl, Drop_bad ho cn fun H' g => CodeN (hg.le (lb.trans g.le)) (br_f ne9 (br_f (by simp) (nxt fl lw H' (by omega) ⟨H1, g, cs⟩)))⟩
    refine br_f k3 ?_
    by_cases k4 : o.k = 4
    · exact br_t k4 ⟨o.a, oh 1 _ lG rfl, Twice_bad ho cn (CodeN (hg.le lG) (br_f ne9 (br_f (by simp) (nxt fl lw G (by omega) ⟨H1, cn, cs⟩))))⟩
    refine br_f k4 ?_
    by_cases k5 : o.k = 5
    · exact br_t k5 ⟨o.a, oh 1 _ lG rfl, o.b, oh 2 _ lG rfl, Turn_bad ho cn fun H' g => CodeN (hg.le (lb.trans g.le)) (br_f ne9 (br_f (by simp) (nxt fl lw H' (by omega) ⟨H1, g, cs⟩)))⟩
    refine br_f k5 ?_
    by_cases k6 : o.k = 6
    · exact br_t k6 (br_f (by simp) (spoilBadA ho hb hg ⟨H1, cn, cs⟩ nxt))
    refine br_f k6 ?_
    by_cases k7 : o.k = 7
    · exact br_t k7 (clearA hF hb hn ⟨H1, cn, cs⟩ nxt)
    · exact br_f k7 (nxt fl lw G (by omega) ⟨H1, cn, cs⟩)
theorem badB {q : Bool} (hF : 10000 ≤ F) (ho : o.a < 0 ∨ o.a ≥ fl.length) (hb : H2 b24 = some (opO o)) (hg : H2.has (0, 0) (rtv 31)) (hn : fl.length ≤ 200) (c : St2 bn lw fl H2 G)
    (nxt : ∀ fl' lw' G', fl'.length ≤ fl.length + 1 → St2 bn lw' fl' H2 G' → ladinglaw19_NetPlays.j14 F KT R1 (some (bn, 0)) lw' l x i G') : ladinglaw19_NetPlays.j16 F KT R1 (some (bn, 0)) lw b24 9 l x i o.k q G := by
  have oh : ∀ {G' : SH} (k : Nat) (v : Value), SH.le H2 G' → (opO o).cells[k]? = some v → G'.has (b24, k) v := fun k v hle' hk => ⟨_, hle' _ _ hb, hk⟩
  have hl := St2.len c
  have lG : SH.le H2 G := c.le
  have ne9 : ¬ ((9 : Int) ≠ 9) := by simp
  cases q with
  | true =>
    refine br_t rfl fun b110 hb110 => ?_
    have hGG : SH.upd G b110 ⟨[.int .i64 0, .int .i64 0, .string ByteArray.empty], 34, false, 3⟩ = SH.upd G b110 (pkO z0) := rfl
    rw [hGG]
    have c1 : Chain [blkL b110 (pkO z0), nt bn fl, slG FLW 4 lw (flc fl)] H2 (SH.upd G b110 (pkO z0)) := ⟨G, On.new hb110, c⟩
    have l1 : SH.le H2 (SH.upd G b110 (pkO z0)) := c1.le
    generalize SH.upd G b110 (pkO z0) = G1 at *
    obtain ⟨H1, n1, c2⟩ := Chain.pull [blkL b110 (pkO z0)] c1
    have n1 : On (NetI bn fl) H1 G1 := n1
    have c2 : Chain [blkL b110 (pkO z0), slG FLW 4 lw (flc fl)] H2 H1 := c2
    have fin : ∀ H', On (NetI bn fl) H1 H' → SH.wrs H' (b110, 0) 3 ∧ ladinglaw19_NetPlays.j17 F KT R1 (some (bn, 0)) lw b24 9 b110 (some (.no 9)) l x i (SH.setl H' (b110, 0) [.int .i64 0, .int .i64 0, .string ByteArray.empty]) := fun H' n2 => by
      obtain ⟨Hb, b3, c3⟩ := Chain.pull [nt bn fl] (⟨H1, n2, c2⟩ : Chain [nt bn fl, blkL b110 (pkO z0), slG FLW 4 lw (flc fl)] H2 H')
      have b3 : On (Blk b110 (pkO z0)) Hb H' := b3
      have b4 : On (Blk b110 (pkO z0)) Hb (SH.setl H' (b110, 0) [.int .i64 0, .int .i64 0, .string ByteArray.empty]) := On.setl (k := 0) (vs := [.int .i64 0, .int .i64 0, .string ByteArray.empty]) b3
      have c4 : Chain [blkL b110 (pkO z0), nt bn fl, slG FLW 4 lw (flc fl)] H2 (SH.setl H' (b110, 0) [.int .i64 0, .int .i64 0, .string ByteArray.empty]) := ⟨Hb, b4, c3⟩
      refine ⟨b3.wrs rfl (Nat.le_refl _), ?_⟩
      generalize SH.setl H' (b110, 0) [.int .i64 0, .int .i64 0, .string ByteArray.empty] = J at *
      refine ⟨9, CodeN (hg.le c4.le) ⟨rfl, rfl⟩, br_f ne9 (⟨0, 0, ByteArray.empty, row0 (On.blk.1 b4).2.2 (fun j u hu => hu), br_t ⟨rfl, rfl, rfl⟩ ((nxt fl lw J (by omega) (keep2 c4)))⟩)⟩
    refine ⟨o.k, oh 0 _ l1 rfl, ?_⟩
    by_cases k1 : o.k = 1
    · exact br_t k1 ⟨o.a, oh 1 _ l1 rfl, Take_bad ho n1 fin⟩
    · exact br_f k1 ⟨o.a, oh 1 _ l1 rfl, Look_bad ho n1 fin⟩
  | false =>
    refine br_f (by simp) ?_
    obtain ⟨H1, cn, cs⟩ := c
    have cn : On (NetI bn fl) H1 G := cn
    have lb : SH.le H2 H1 := cs.le
    by_cases k3 : o.k = 3
    · exact br_t k3 ⟨o.a, oh 1 _ lG rfl, Drop_bad ho cn fun H' g => CodeN (hg.le (lb.trans g.le)) (br_f ne9 ((nxt fl lw H' (by omega) ⟨H1, g, cs⟩)))⟩
    refine br_f k3 ?_
    by_cases k4 : o.k = 4
    · exact br_t k4 ⟨o.a, oh 1 _ lG rfl, Twice_bad ho cn (CodeN (hg.le lG) (br_f ne9 ((nxt fl lw G (by omega) ⟨H1, cn, cs⟩))))⟩
    refine br_f k4 ?_
    by_cases k5 : o.k = 5
    · exact br_t k5 ⟨o.a, oh 1 _ lG rfl, o.b, oh 2 _ lG rfl, Turn_bad ho cn fun H' g => CodeN (hg.le (lb.trans g.le)) (br_f ne9 ((nxt fl lw H' (by omega) ⟨H1, g, cs⟩)))⟩
    refine br_f k5 ?_
    by_cases k6 : o.k = 6
    · exact br_t k6 ((spoilBadB ho hb hg ⟨H1, cn, cs⟩ nxt))
    refine br_f k6 ?_
    by_cases k7 : o.k = 7
    · exact br_t k7 (clearB hF hb hn ⟨H1, cn, cs⟩ nxt)
    · exact br_f k7 (nxt fl lw G (by omega) ⟨H1, cn, cs⟩)
theorem goodA {q : Bool} {a : Nat} (hF : 10000 ≤ F) (ha : o.a = a) (hlt : a < fl.length) (hy : 0 ≤ o.y ∧ o.y ≤ 255) (hb : H2 b24 = some (opO o)) (hg : H2.has (0, 0) (rtv 31)) (hn : fl.length ≤ 200) (c : St2 bn lw fl H2 G)
    (nxt : ∀ fl' lw' G', fl'.length ≤ fl.length + 1 → St2 bn lw' fl' H2 G' → ladinglaw19_NetPlays.j3 F KT R1 (some (bn, 0)) lw' l x i G') : ladinglaw19_NetPlays.j5 F KT R1 (some (bn, 0)) lw b24 true 0 l x i o.k q G := by
  have oh : ∀ {G' : SH} (k : Nat) (v : Value), SH.le H2 G' → (opO o).cells[k]? = some v → G'.has (b24, k) v := fun k v hle' hk => ⟨_, hle' _ _ hb, hk⟩
  have hl := St2.len c
  have lG : SH.le H2 G := c.le
  have oa : ∀ {G' : SH}, SH.le H2 G' → G'.has (b24, 1) (.int .i64 (a : Int)) := fun hle' => by rw [← ha]; exact oh 1 _ hle' rfl
  have ne0 : ¬ ((0 : Int) ≠ 0) := by simp
  have hcap := (St2.sl c).capG
  have hel : (fl.eraseIdx a).length = fl.length - 1 := List.length_eraseIdx_of_lt hlt
  have ea1 : w64 ((a : Int) + 1) = ((a + 1 : Nat) : Int) := by rw [w64_id (by omega)]; omega
  -- the law's list is cut
  have cut : ∀ {J : SH} {K : Sl → SH → Prop}, SH.le H2 J → J.row lw.a (flc fl) → (∀ l' H', On (SlG FLW 4 l' (flc (fl.eraseIdx a))) J H' → l'.len = (fl.eraseIdx a).length → K l' H') →
      ∃ H176, SH.le H176 J ∧ ∃ (x186 : Int), SH.has J (b24, 1) (.int .i64 x186) ∧ 0 ≤ (0 : Int) ∧ (0 : Int) ≤ x186 ∧ x186 ≤ (lw.cap : Int) ∧ ∃ (x191 : Int), SH.has H176 (b24, 1) (.int .i64 x191) ∧ 0 ≤ (w64 (x191 + 1)) ∧ (w64 (x191 + 1)) ≤ (lw.len : Int) ∧ (lw.len : Int) ≤ (lw.cap : Int) ∧
      ∃ w203, SH.row J (Sl.sub 4 lw (0 : Int).toNat x186.toNat lw.cap).a w203 ∧
      (∀ b184, J b184 = none → AppendQ (SH.upd J b184 (⟨[], FLW, false, 0⟩ : AO)) FLW 4 40 (⟨some (b184, 0), 0, 0⟩ : Sl) (Sl.sub 4 lw (0 : Int).toNat x186.toNat lw.cap).len w203 (fun l196 H197 => SH.le H176 H197 ∧
        ∃ w201, SH.row H197 (Sl.sub 4 lw (w64 (x191 + 1)).toNat (lw.len : Int).toNat lw.cap).a w201 ∧
        AppendQ H197 FLW 4 40 l196 (Sl.sub 4 lw (w64 (x191 + 1)).toNat (lw.len : Int).toNat lw.cap).len w201 K)) := fun {J K} lJ hr k =>
    ⟨J, .refl _, a, oa lJ, by decide, by omega, by omega, a, oa lJ, by rw [ea1]; omega, by rw [ea1]; omega, by omega, cut_ok hlt (by omega) hr hl hcap k⟩
  cases q with
  | true =>
    refine br_t rfl fun b110 hb110 => ?_
    have hGG : SH.upd G b110 ⟨[.int .i64 0, .int .i64 0, .string ByteArray.empty], 34, false, 3⟩ = SH.upd G b110 (pkO z0) := rfl
    rw [hGG]
    have c1 : Chain [blkL b110 (pkO z0), nt bn fl, slG FLW 4 lw (flc fl)] H2 (SH.upd G b110 (pkO z0)) := ⟨G, On.new hb110, c⟩
    have l1 : SH.le H2 (SH.upd G b110 (pkO z0)) := c1.le
    generalize SH.upd G b110 (pkO z0) = G1 at *
    obtain ⟨H1, n1, c2⟩ := Chain.pull [blkL b110 (pkO z0)] c1
    have n1 : On (NetI bn fl) H1 G1 := n1
    have c2 : Chain [blkL b110 (pkO z0), slG FLW 4 lw (flc fl)] H2 H1 := c2
    have fin : ∀ (fl' : List Fl) H', (o.k = 1 → fl' = fl.eraseIdx a) → (¬ o.k = 1 → fl' = fl) → On (NetI bn fl') H1 H' → SH.wrs H' (b110, 0) 3 ∧ ladinglaw19_NetPlays.j6 F KT R1 (some (bn, 0)) lw b24 true 0 b110 none l x i (SH.setl H' (b110, 0) [.int .i64 fl[a].f, .int .i64 fl[a].t, .string fl[a].d]) := fun fl' H' k1 k2 n2 => by
      obtain ⟨Hb, b3, c3⟩ := Chain.pull [nt bn fl'] (⟨H1, n2, c2⟩ : Chain [nt bn fl', blkL b110 (pkO z0), slG FLW 4 lw (flc fl)] H2 H')
      have b3 : On (Blk b110 (pkO z0)) Hb H' := b3
      have b4 : On (Blk b110 (pkO fl[a])) Hb (SH.setl H' (b110, 0) [.int .i64 fl[a].f, .int .i64 fl[a].t, .string fl[a].d]) := On.setl (k := 0) (vs := [.int .i64 fl[a].f, .int .i64 fl[a].t, .string fl[a].d]) b3
      have c4 : Chain [blkL b110 (pkO fl[a]), nt bn fl', slG FLW 4 lw (flc fl)] H2 (SH.setl H' (b110, 0) [.int .i64 fl[a].f, .int .i64 fl[a].t, .string fl[a].d]) := ⟨Hb, b4, c3⟩
      refine ⟨b3.wrs rfl (Nat.le_refl _), ?_⟩
      generalize SH.setl H' (b110, 0) [.int .i64 fl[a].f, .int .i64 fl[a].t, .string fl[a].d] = J at *
      have lJ : SH.le H2 J := c4.le
      have c5 := keep2 c4
      have s5 : On (SlG FLW 4 lw (flc fl)) H2 J := Chain.at [nt bn fl'] c5
      obtain ⟨p, hp, hrow⟩ := row_fly s5.rowG hlt
      refine ⟨0, CodeN (hg.le lJ) ⟨rfl, rfl⟩, br_f ne0 (br_t rfl ⟨fl[a].f, fl[a].t, fl[a].d, row0 (On.blk.1 b4).2.2 (fun j u hu => hu), a, oa lJ, p, hp, by omega, by omega, fl[a].f, fl[a].t, fl[a].d, rowPre hrow pk3, br_t ⟨rfl, rfl, rfl⟩ (br_t rfl ⟨o.k, oh 0 _ lJ rfl, ?_⟩)⟩)⟩
      by_cases kk : o.k = 1
      · refine br_t kk (cut lJ s5.rowG fun l' H3 s3 h3 => ?_)
        have n6 : Chain [nt bn fl'] H2 J := Chain.keepG [nt bn fl'] c5
        have e := k1 kk
        rw [e] at n6
        exact nxt (fl.eraseIdx a) l' H3 (by omega) (Chain.pull [slG FLW 4 l' (flc (fl.eraseIdx a))] (⟨J, s3, n6⟩ : Chain [slG FLW 4 l' (flc (fl.eraseIdx a)), nt bn (fl.eraseIdx a)] H2 H3))
      · have e := k2 kk
        rw [e] at c5
        exact br_f kk (nxt fl lw J (by omega) c5)
    refine ⟨o.k, oh 0 _ l1 rfl, ?_⟩
    by_cases k1 : o.k = 1
    · exact br_t k1 ⟨a, oa l1, Take_spec (by omega) (by omega) hlt n1 fun H' n2 => fin (fl.eraseIdx a) H' (fun _ => rfl) (fun h => absurd k1 h) n2⟩
    · exact br_f k1 ⟨a, oa l1, Look_spec hlt n1 fun H' n2 => fin fl H' (fun h => absurd h k1) (fun _ => rfl) n2⟩
  | false =>
    refine br_f (by simp) ?_
    obtain ⟨H1, cn, cs⟩ := c
    have cn : On (NetI bn fl) H1 G := cn
    have cs : Chain [slG FLW 4 lw (flc fl)] H2 H1 := cs
    have lb : SH.le H2 H1 := cs.le
    have rw1 : H1.row lw.a (flc fl) := cs.on.rowG
    by_cases k3 : o.k = 3
    · refine br_t k3 ⟨a, oa lG, Drop_spec (by omega) (by omega) hlt cn fun H' g => CodeN (hg.le (lb.trans g.le)) (br_f ne0 (br_t rfl (cut (lb.trans g.le) (rw1.le g.le) fun l' H3 s3 h3 => ?_)))⟩
      have n6 : Chain [nt bn (fl.eraseIdx a)] H2 H' := ⟨H1, g, lb⟩
      exact nxt (fl.eraseIdx a) l' H3 (by omega) (Chain.pull [slG FLW 4 l' (flc (fl.eraseIdx a))] (⟨H', s3, n6⟩ : Chain [slG FLW 4 l' (flc (fl.eraseIdx a)), nt bn (fl.eraseIdx a)] H2 H3))
    refine br_f k3 ?_
    by_cases k4 : o.k = 4
    · refine br_t k4 ⟨a, oa lG, Twice_spec (by omega) hlt cn fun H' g => ?_⟩
      rw [drop300 (by simp; omega)] at g
      have lH := lb.trans g.le
      obtain ⟨p, hp, hrow⟩ := row_fly (rw1.le g.le) hlt
      refine CodeN (hg.le lH) (br_f ne0 (br_t rfl ⟨a, oa lH, p, hp, by omega, by omega, fl[a].f, fl[a].t, fl[a].d, fl[a].q, hrow, ?_⟩))
      obtain ⟨Hs, s1, s2⟩ := Chain.pull [nt bn (fl ++ [fl[a]])] (⟨H1, g, cs⟩ : Chain [nt bn (fl ++ [fl[a]]), slG FLW 4 lw (flc fl)] H2 H')
      have s1 : On (SlG FLW 4 lw (flc fl)) Hs H' := s1
      refine s1.appendG (by omega) (by omega) rfl (by simp [Value.oneCell']) fun l' H3 s3 _ => ?_
      have e : flc fl ++ [.int .i64 fl[a].f, .int .i64 fl[a].t, .string fl[a].d, .bool fl[a].q] = flc (fl ++ [fl[a]]) := by rw [flc_app, flc_one]; rfl
      rw [e] at s3
      exact nxt _ l' H3 (by simp) (Chain.pull [slG FLW 4 l' (flc (fl ++ [fl[a]]))] (⟨Hs, s3, s2⟩ : Chain [slG FLW 4 l' (flc (fl ++ [fl[a]])), nt bn (fl ++ [fl[a]])] H2 H3))
    refine br_f k4 ?_
    by_cases k5 : o.k = 5
    · refine br_t k5 ⟨a, oa lG, o.b, oh 2 _ lG rfl, Turn_spec (by omega) (by omega) hlt cn fun H' g => ?_⟩
      have lH := lb.trans g.le
      obtain ⟨p, hp, hrow⟩ := row_fly (rw1.le g.le) hlt
      refine CodeN (hg.le lH) (br_f ne0 (br_t rfl ⟨a, oa lH, p, hp, by omega, by omega, fl[a].f, fl[a].t, fl[a].d, fl[a].q, hrow, fun b290 hb290 => ⟨wrs_upd rfl (Nat.le_refl _), ?_⟩⟩))
      have hset : SH.setl (SH.upd H' b290 ⟨[.int .i64 0, .int .i64 0, .string ByteArray.empty, .bool false], FLW, false, 4⟩) (b290, 0) [.int .i64 fl[a].f, .int .i64 fl[a].t, .string fl[a].d, .bool fl[a].q] = SH.upd H' b290 ⟨fl[a].c, FLW, false, 4⟩ := by rw [setl_upd]; rfl
      rw [hset]
      have h290 : (SH.upd H' b290 ⟨fl[a].c, FLW, false, 4⟩) b290 = some ⟨fl[a].c, FLW, false, 4⟩ := SH.upd_same _ _ _
      have l290 : SH.le H' (SH.upd H' b290 ⟨fl[a].c, FLW, false, 4⟩) := le_upd hb290
      generalize SH.upd H' b290 ⟨fl[a].c, FLW, false, 4⟩ = J at *
      have lJ := lH.trans l290
      refine cut lJ ((rw1.le g.le).le l290) fun l' H3 s3 h3 => ⟨o.b, oh 2 _ (lJ.trans s3.le) rfl, ?_⟩
      have hl' := s3.capG
      have et : imin (imax o.b 0) (l'.len : Int) = ((min o.b.toNat (fl.eraseIdx a).length : Nat) : Int) := by rw [h3]; unfold imin imax; split <;> split <;> omega
      rw [et]
      refine ⟨flc (fl.eraseIdx a), fl[a].c, s3.rowG, by rw [flc_len, h3], flc_ok _, row0 (s3.le _ _ h290) (fun j u hu => hu), rfl, by rw [← flc_one]; exact flc_ok _, by omega, by omega, by omega, by omega, by omega, fun l3 H4 s4 h4 => ?_⟩
      have ef : (flc (fl.eraseIdx a)).take (((min o.b.toNat (fl.eraseIdx a).length : Nat) : Int).toNat * 4) ++ (fl[a].c ++ (flc (fl.eraseIdx a)).drop (((min o.b.toNat (fl.eraseIdx a).length : Nat) : Int).toNat * 4)) = flc (turnL fl a fl[a] o.b) := by
        rw [Int.toNat_natCast, flc_take, flc_drop, ← flc_one, ← flc_app, ← flc_app]; rfl
      rw [ef] at s4
      have n6 : Chain [nt bn (turnL fl a fl[a] o.b)] H2 H3 := Chain.above (⟨H1, g, lb⟩ : Chain [nt bn (turnL fl a fl[a] o.b)] H2 H') (l290.trans s3.le)
      have hlen : (turnL fl a fl[a] o.b).length = fl.length := by unfold turnL; simp only [List.length_append, List.length_cons, List.length_take, List.length_drop]; omega
      exact nxt _ l3 H4 (by omega) (Chain.pull [slG FLW 4 l3 (flc (turnL fl a fl[a] o.b))] (⟨H3, s4, n6⟩ : Chain [slG FLW 4 l3 (flc (turnL fl a fl[a] o.b)), nt bn (turnL fl a fl[a] o.b)] H2 H4))
    refine br_f k5 ?_
    by_cases k6 : o.k = 6
    · refine br_t k6 (br_t rfl ⟨o.b, oh 2 _ lG rfl, ?_⟩)
      have sp : ∀ {want : Int}, want = (spoilE fl[a] o.b o.y : Int) → ladinglaw19_NetPlays.j9 F KT R1 (some (bn, 0)) lw b24 want l x i G := fun hw => spoilA hF ha hlt hw hy hb hg hn ⟨H1, cn, cs⟩ nxt
      obtain ⟨p, hp, hrow⟩ := row_fly (rw1.le cn.le) hlt
      by_cases a1 : o.b < 0
      · exact br_t a1 (sp (by rw [show spoilE fl[a] o.b o.y = 2 from if_pos (.inl a1)]; rfl))
      refine br_f a1 ⟨o.b, oh 2 _ lG rfl, a, oa lG, p, hp, by omega, by omega, fl[a].d, row_has (j := 2) hrow rfl, ?_⟩
      by_cases a2 : o.b ≥ fl[a].d.size
      · exact br_t a2 (sp (by rw [show spoilE fl[a] o.b o.y = 2 from if_pos (.inr a2)]; rfl))
      have a12 : ¬ (o.b < 0 ∨ o.b ≥ fl[a].d.size) := by omega
      refine br_f a2 ⟨o.y, oh 3 _ lG rfl, ?_⟩
      by_cases a3 : o.y = 0
      · exact br_t a3 (sp (by unfold spoilE; rw [if_neg a12, if_pos a3]; rfl))
      refine br_f a3 ⟨a, oa lG, p, hp, by omega, by omega, fl[a].q, row_has (j := 3) hrow rfl, ?_⟩
      by_cases a4 : fl[a].q = true
      · exact br_t a4 (sp (by unfold spoilE; rw [if_neg a12, if_neg a3, if_pos a4]; rfl))
      · exact br_f a4 (sp (by unfold spoilE; rw [if_neg a12, if_neg a3, if_neg a4]; rfl))
    refine br_f k6 ?_
    by_cases k7 : o.k = 7
    · exact br_t k7 (clearA hF hb hn ⟨H1, cn, cs⟩ nxt)
    · exact br_f k7 (nxt fl lw G (by omega) ⟨H1, cn, cs⟩)
theorem kindA {there : Bool} {none_ : Int} (hF : 10000 ≤ F) (h100 : ¬ (o.s.size : Int) > 100) (hb : H2 b24 = some (opO o)) (hg : H2.has (0, 0) (rtv 31)) (hn : fl.length ≤ 200) (c : St2 bn lw fl H2 G) (mid : ∀ q : Bool, ladinglaw19_NetPlays.j5 F KT R1 (some (bn, 0)) lw b24 there none_ l x i o.k q G)
    (nxt : ∀ fl' lw' G', fl'.length ≤ fl.length + 1 → St2 bn lw' fl' H2 G' → ladinglaw19_NetPlays.j3 F KT R1 (some (bn, 0)) lw' l x i G') : ladinglaw19_NetPlays.j1 F KT R1 (some (bn, 0)) lw b24 there none_ l x i G := by
  have oh : ∀ {G' : SH} (k : Nat) (v : Value), SH.le H2 G' → (opO o).cells[k]? = some v → G'.has (b24, k) v := fun k v hle' hk => ⟨_, hle' _ _ hb, hk⟩
  have hl := St2.len c
  have lG : SH.le H2 G := c.le
  refine ⟨o.k, oh 0 _ lG rfl, ?_⟩
  by_cases k0 : o.k = 0
  · have sn : ∀ {want : Int}, want = (sendE o.a o.b o.s : Int) → ladinglaw19_NetPlays.j4 F KT R1 (some (bn, 0)) lw b24 want l x i G := fun hw => sendA hF hw hb hg hn c nxt
    have one : (o.a < 0 ∨ o.a > 5 ∨ o.b < 0 ∨ o.b ≥ 5 ∨ o.a = o.b) → (1 : Int) = (sendE o.a o.b o.s : Int) := fun h => by rw [show sendE o.a o.b o.s = 1 from if_pos h]; rfl
    refine br_t k0 ⟨o.a, oh 1 _ lG rfl, ?_⟩
    by_cases c1 : o.a < 0
    · exact br_t c1 (sn (one (.inl c1)))
    refine br_f c1 ⟨o.a, oh 1 _ lG rfl, ?_⟩
    by_cases c2 : o.a > 5
    · exact br_t c2 (sn (one (.inr (.inl c2))))
    refine br_f c2 ⟨o.b, oh 2 _ lG rfl, ?_⟩
    by_cases c3 : o.b < 0
    · exact br_t c3 (sn (one (.inr (.inr (.inl c3)))))
    refine br_f c3 ⟨o.b, oh 2 _ lG rfl, ?_⟩
    by_cases c4 : o.b > 4
    · exact br_t c4 (sn (one (by omega)))
    refine br_f c4 ⟨o.a, oh 1 _ lG rfl, o.b, oh 2 _ lG rfl, ?_⟩
    by_cases c5 : o.a = o.b
    · exact br_t c5 (sn (one (.inr (.inr (.inr (.inr c5))))))
    · refine br_f c5 (sn ?_)
      unfold sendE
      rw [if_neg (by omega), if_neg (by omega)]; rfl
  refine br_f k0 ?_
  by_cases k1 : o.k = 1
  · exact br_t k1 (mid _)
  · exact br_f k1 (mid _)
theorem kindB (hF : 10000 ≤ F) (h100 : ¬ (o.s.size : Int) > 100) (hb : H2 b24 = some (opO o)) (hg : H2.has (0, 0) (rtv 31)) (hn : fl.length ≤ 200) (c : St2 bn lw fl H2 G) (mid : ∀ q : Bool, ladinglaw19_NetPlays.j16 F KT R1 (some (bn, 0)) lw b24 9 l x i o.k q G)
    (nxt : ∀ fl' lw' G', fl'.length ≤ fl.length + 1 → St2 bn lw' fl' H2 G' → ladinglaw19_NetPlays.j14 F KT R1 (some (bn, 0)) lw' l x i G') : ladinglaw19_NetPlays.j12 F KT R1 (some (bn, 0)) lw b24 9 l x i G := by
  have oh : ∀ {G' : SH} (k : Nat) (v : Value), SH.le H2 G' → (opO o).cells[k]? = some v → G'.has (b24, k) v := fun k v hle' hk => ⟨_, hle' _ _ hb, hk⟩
  have hl := St2.len c
  have lG : SH.le H2 G := c.le
  refine ⟨o.k, oh 0 _ lG rfl, ?_⟩
  by_cases k0 : o.k = 0
  · have sn : ∀ {want : Int}, want = (sendE o.a o.b o.s : Int) → ladinglaw19_NetPlays.j15 F KT R1 (some (bn, 0)) lw b24 want l x i G := fun hw => sendB hF hw hb hg hn c nxt
    have one : (o.a < 0 ∨ o.a > 5 ∨ o.b < 0 ∨ o.b ≥ 5 ∨ o.a = o.b) → (1 : Int) = (sendE o.a o.b o.s : Int) := fun h => by rw [show sendE o.a o.b o.s = 1 from if_pos h]; rfl
    refine br_t k0 ⟨o.a, oh 1 _ lG rfl, ?_⟩
    by_cases c1 : o.a < 0
    · exact br_t c1 (sn (one (.inl c1)))
    refine br_f c1 ⟨o.a, oh 1 _ lG rfl, ?_⟩
    by_cases c2 : o.a > 5
    · exact br_t c2 (sn (one (.inr (.inl c2))))
    refine br_f c2 ⟨o.b, oh 2 _ lG rfl, ?_⟩
    by_cases c3 : o.b < 0
    · exact br_t c3 (sn (one (.inr (.inr (.inl c3)))))
    refine br_f c3 ⟨o.b, oh 2 _ lG rfl, ?_⟩
    by_cases c4 : o.b > 4
    · exact br_t c4 (sn (one (by omega)))
    refine br_f c4 ⟨o.a, oh 1 _ lG rfl, o.b, oh 2 _ lG rfl, ?_⟩
    by_cases c5 : o.a = o.b
    · exact br_t c5 (sn (one (.inr (.inr (.inr (.inr c5))))))
    · refine br_f c5 (sn ?_)
      unfold sendE
      rw [if_neg (by omega), if_neg (by omega)]; rfl
  refine br_f k0 ?_
  by_cases k1 : o.k = 1
  · exact br_t k1 (mid _)
  · exact br_f k1 (mid _)
theorem NetPlays_loop {ops : List NOp} (hF : 10000 ≤ F) (hl : l.len = ops.length) (hm : ops.length ≤ 120) (hr : H0.row l.a (noc ops)) (hx : ∀ o ∈ ops, 0 ≤ o.y ∧ o.y ≤ 255) (hg : H0.has (0, 0) (rtv 31)) :
    ∀ (m i f : Nat) (fl : List Fl) (lw : Sl) (H : SH), ops.length - i = m → i ≤ ops.length → m < f → fl.length ≤ i → St2 bn lw fl H0 H →
    ladinglaw19_NetPlays.l1 F KT f (some (bn, 0)) lw l (ops.length : Int) (i : Int) H := by
  intro m
  induction m with
  | zero =>
    intro i f fl lw H hj hi hf hfl h
    obtain ⟨f, rfl⟩ : ∃ i, f = i + 1 := ⟨f - 1, by omega⟩
    exact br_f (by omega) ⟨H, .refl _, rfl⟩
  | succ m ih =>
    intro i f fl lw H hj hi hf hfl h
    obtain ⟨f, rfl⟩ : ∃ i, f = i + 1 := ⟨f - 1, by omega⟩
    have hlt : i < ops.length := by omega
    obtain ⟨p, hp, hrow⟩ := row_nop (hr.le h.le) hlt
    have hy := hx _ (List.getElem_mem hlt)
    generalize ops[i] = o at *
    refine br_t (by omega) ⟨p, hp, by omega, by omega, o.k, o.a, o.b, o.y, o.s, hrow, fun b24 hb24 => ⟨wrs_upd rfl (Nat.le_refl _), ?_⟩⟩
    rw [op_set]
    obtain ⟨H2, c, hb2, hle⟩ := h.temp hb24 (opO o)
    have c : St2 bn lw fl H2 (H.upd b24 (opO o)) := c
    have hG : H.upd b24 ⟨[.int .i64 o.k, .int .i64 o.a, .int .i64 o.b, .int .u8 o.y, .string o.s], 28, false, 5⟩ = H.upd b24 (opO o) := rfl
    rw [hG]
    generalize H.upd b24 (opO o) = G at *
    have oh : ∀ {G' : SH} (k : Nat) (v : Value), SH.le H2 G' → (opO o).cells[k]? = some v → G'.has (b24, k) v := fun k v hle' hk => ⟨_, hle' _ _ hb2, hk⟩
    have lG : SH.le H2 G := c.le
    have hg2 := hg.le hle
    have hlw := St2.len c
    have nx : ∀ (fl' : List Fl) (lw' : Sl) (G' : SH), fl'.length ≤ fl.length + 1 → St2 bn lw' fl' H2 G' → ∀ G'', SH.le G' G'' → ladinglaw19_NetPlays.l1 F KT f (some (bn, 0)) lw' l (ops.length : Int) (w64 ((i : Int) + 1)) G'' := fun fl' lw' G' h1 h2 G'' h3 => by
      rw [w64_id (by omega), show (i : Int) + 1 = ((i + 1 : Nat) : Int) by omega]
      exact ih (i + 1) f fl' lw' G'' (by omega) (by omega) (by omega) (by omega) ((Chain.below h2 hle).above h3)
    have nxA : ∀ fl' lw' G', fl'.length ≤ fl.length + 1 → St2 bn lw' fl' H2 G' → ladinglaw19_NetPlays.j3 F KT (ladinglaw19_NetPlays.l1 F KT f) (some (bn, 0)) lw' l (ops.length : Int) (i : Int) G' := fun fl' lw' G' h1 h2 => checkA hF (by omega) h2 (nx fl' lw' G' h1 h2)
    have nxB : ∀ fl' lw' G', fl'.length ≤ fl.length + 1 → St2 bn lw' fl' H2 G' → ladinglaw19_NetPlays.j14 F KT (ladinglaw19_NetPlays.l1 F KT f) (some (bn, 0)) lw' l (ops.length : Int) (i : Int) G' := fun fl' lw' G' h1 h2 => checkB hF (by omega) h2 (nx fl' lw' G' h1 h2)
    refine ⟨o.s, oh 4 _ lG rfl, ?_⟩
    by_cases z1 : (o.s.size : Int) > 100
    · exact br_t z1 ⟨G, .refl _, rfl⟩
    refine br_f z1 ⟨o.a, oh 1 _ lG rfl, ?_⟩
    by_cases z2 : o.a ≥ 0
    · refine br_t z2 ⟨o.a, oh 1 _ lG rfl, ?_⟩
      by_cases z3 : o.a < (lw.len : Int)
      · refine br_t z3 ?_
        rw [show decide (o.a < (lw.len : Int)) = true from decide_eq_true z3]
        obtain ⟨a, ha⟩ : ∃ a : Nat, o.a = a := ⟨o.a.toNat, by omega⟩
        exact kindA hF z1 hb2 hg2 (by omega) c (fun q => goodA hF ha (by omega) hy hb2 hg2 (by omega) c nxA) nxA
      · refine br_f z3 ?_
        rw [show decide (o.a < (lw.len : Int)) = false from decide_eq_false z3]
        exact kindA hF z1 hb2 hg2 (by omega) c (fun q => badA hF (by omega) hb2 hg2 (by omega) c nxA) nxA
    · exact br_f z2 (kindB hF z1 hb2 hg2 (by omega) c (fun q => badB hF (by omega) hb2 hg2 (by omega) c nxB) nxB)
theorem NetPlays_wp {ops : List NOp} (hF : 10000 ≤ F) (hl : l.len = ops.length) (hr : H.row l.a (noc ops)) (hx : ∀ o ∈ ops, 0 ≤ o.y ∧ o.y ≤ 255) (hg : H.has (0, 0) (rtv 31)) : ladinglaw19_NetPlays.wp F l H KT := by
  refine awake19_spec fun H3 h3 => br_t rfl ?_
  by_cases hm : (l.len : Int) > 120
  · exact br_t hm ⟨H3, .refl _, rfl⟩
  refine br_f hm (New19_spec fun bn H7 hbn h7 => ?_)
  rw [hl]
  have c0 : St2 bn Sl.nil [] H3 H7 := Chain.pull [slG FLW 4 Sl.nil (flc [])] (⟨H7, On.nilG FLW 4 H7, H3, h7, .refl _⟩ : Chain [slG FLW 4 Sl.nil (flc []), nt bn []] H3 H7)
  exact NetPlays_loop hF hl (by omega) (hr.le h3) hx (hg.le h3) ops.length 0 F [] Sl.nil H7 (by omega) (by omega) (by omega) (by simp) c0
end
set_option maxRecDepth 100000 in
open Go.RowKit Go.ChangeShapes Go.WideShapes Go.ChangeAt in
theorem NetPlays_walk {X : Prop} {H : Type} {enc : TypeId × Value → H} (W : World) (args : Array Value) (ds : List (DataW H)) (p : List MemPlace) (base : Nat)
    (hval : ∀ (j : Nat) t v, Tryd.f3.params[j]? = some t → args[j]? = some v → Value.okWide Tryd.prog W .any base t v) (hA : DataW.TrodAll enc Tryd.prog W 0 (fun _ => true) true Tryd.f3.params.toList args.toList ds p) (hfz : X)
    (hg : W.cell? ⟨0, 0, none⟩ = some (rtv 31)) :
    (∃ d, ds = [d]) ∧ Calls Tryd.prog 3 args W fun e w' => e = .returned (.bool true) ∧ RowKit.Below W.heap.size W w' := by
  rw [Tryd.params3] at hA hval
  obtain ⟨v0, vs0, d0, ds0, p0, q0, hargs, rfl, rfl, h0, r0⟩ := trodAll_cons hA
  obtain ⟨rfl, rfl, rfl⟩ := trodAll_nil r0
  obtain rfl : args = #[v0] := by cases args; simp_all
  obtain ⟨l, ops, rfl, hl, _, hr, hx⟩ := arg_nops (hval 0 22 v0 rfl rfl) h0
  refine ⟨⟨_, rfl⟩, ?_⟩
  have h := ladinglaw19_NetPlays.sound 10000 l (SH.of W) _ (NetPlays_wp (by omega) hl hr hx (SH.of_cell (p := (0, 0)) hg)) W (SH.of_sat W)
  refine h.mono ?_
  rintro e w' ⟨v, H', rfl, st, q, rfl, rfl⟩
  exact ⟨rfl, st.below fun b o hb => SH.of_ro hb⟩
end Go.Proofs.YtkfbmoekghbgbaaDoor.K
