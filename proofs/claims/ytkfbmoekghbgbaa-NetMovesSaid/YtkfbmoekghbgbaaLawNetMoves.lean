/- The law NetMoves: what it comes to. -/
import Derived.Test.YtkfbmoekghbgbaaArgs2
import Derived.Test.YtkfbmoekghbgbaaSpecNet
import Derived.Test.YtkfbmoekghbgbaaGladinglaw19NetMoves
set_option linter.unusedVariables false
set_option linter.unusedSimpArgs false
namespace Go.Proofs.Ytkfbmoekghbgbaa.K
open Go
/-- The packet that is sent as number i. -/
def mvP (i : Nat) : Fl := ⟨(i : Int).tmod 5, (w64 ((i : Int) + 2)).tmod 5, ⟨[UInt8.ofNat i].toArray⟩, false⟩
def mvL (k : Nat) : List Fl := (List.range k).map mvP
theorem mvP_d {i : Nat} (hi : i < 60) : bt (mvP i).d 0 = i := by
  have h : (0 : Nat) < (bs (mvP i).d).length := by simp [mvP, bs]
  have := bt_eq (s := (mvP i).d) (i := 0) h
  rw [show ((0 : Nat) : Int) = 0 from rfl] at this
  rw [this]
  simp [mvP, bs]
  omega
theorem mvP_f {i : Nat} (hi : i < 60) : (mvP i).f = (w64 (bt (mvP i).d 0)).tmod 5 := by
  rw [mvP_d hi, w64_id (by omega)]; rfl
theorem mvP_inj {i j : Nat} (hi : i < 60) (hj : j < 60) (h : (mvP i).d = (mvP j).d) : i = j := by
  have h1 := mvP_d hi
  rw [h, mvP_d hj] at h1
  omega
/-- What may lie on the net behind all turns. -/
def Moved (k : Nat) (fl : List Fl) : Prop := fl.length = k ∧ fl.Perm (mvL k)
theorem turn_perm {fl : List Fl} {i : Nat} {to : Int} (hi : i < fl.length) : (turnL fl i fl[i] to).Perm fl := by
  unfold turnL
  refine (List.perm_middle).trans ?_
  rw [List.take_append_drop]
  have h1 : fl.Perm (fl[i] :: fl.eraseIdx i) := by
    rw [erase_split]
    have h2 : fl = fl.take i ++ fl[i] :: fl.drop (i + 1) := by rw [← List.drop_eq_getElem_cons hi, List.take_append_drop]
    exact (List.Perm.of_eq h2).trans List.perm_middle
  exact h1.symm
theorem moved_mem {k : Nat} {fl : List Fl} (h : Moved k fl) {x : Fl} (hx : x ∈ fl) : ∃ i, i < k ∧ x = mvP i := by
  obtain ⟨i, hi, rfl⟩ := List.mem_map.1 (h.2.mem_iff.1 hx)
  exact ⟨i, List.mem_range.1 hi, rfl⟩
theorem moved_nodup {k : Nat} (hk : k < 60) {fl : List Fl} (h : Moved k fl) : (fl.map (·.d)).Nodup := by
  have h1 : ((mvL k).map (·.d)).Nodup := by
    unfold mvL
    rw [List.map_map]
    refine List.pairwise_map.2 (List.Pairwise.imp_of_mem (fun {a b} ha hb hab he => ?_) (List.pairwise_lt_range (n := k)))
    have ha := List.mem_range.1 ha
    have hb := List.mem_range.1 hb
    have := mvP_inj (by omega) (by omega) he
    omega
  exact (h.2.map _).nodup_iff.2 h1
/-- The texts that were seen. -/
def seenE (l : List Fl) : List (Value × Value) := l.map fun x => (.string x.d, .bool true)
theorem seen_find {s : ByteArray} : ∀ {l : List Fl}, s ∉ l.map (·.d) → mfind (.string s) (seenE l) = none
  | [], _ => rfl
  | x :: l, h => by
    simp only [List.map_cons, List.mem_cons, not_or] at h
    have : sameV (.string s) (.string x.d) = false := by
      show (s == x.d) = false
      cases hc : (s == x.d) with
      | false => rfl
      | true => exact absurd ((beq_bytes _ _).1 hc) h.1
    show (if sameV (.string s) (.string x.d) = true then _ else _) = _
    rw [this]
    exact seen_find h.2
theorem seen_put {s : ByteArray} : ∀ {l : List Fl}, s ∉ l.map (·.d) → mput (.string s) (.bool true) (seenE l) = seenE l ++ [(.string s, .bool true)]
  | [], _ => rfl
  | x :: l, h => by
    simp only [List.map_cons, List.mem_cons, not_or] at h
    have : sameV (.string s) (.string x.d) = false := by
      show (s == x.d) = false
      cases hc : (s == x.d) with
      | false => rfl
      | true => exact absurd ((beq_bytes _ _).1 hc) h.1
    show (if sameV (.string s) (.string x.d) = true then _ else _) = _
    rw [this]
    show (.string x.d, .bool true) :: mput _ _ (seenE l) = _
    rw [seen_put h.2]; rfl
theorem seen_keys (s : ByteArray) (l : List Fl) : MKeys .string (.string s) (seenE l) := by
  refine ⟨trivial, fun e he => ?_⟩
  obtain ⟨x, _, rfl⟩ := List.mem_map.1 he
  exact trivial
section
variable {F : Nat} {H H0 : SH} {bn : Nat}
abbrev KT : Bool → SH → Prop := fun b _ => b = true
theorem moves_send {l : Sl} {k : Nat} (hk : k < 60) (fin : ∀ H', On (NetI bn (mvL k)) H0 H' → ladinglaw19_NetMoves.l2 F KT F (some (bn, 0)) (k : Int) l (l.len : Int) 0 H') :
    ∀ (m i f : Nat) (H : SH), k - i = m → i ≤ k → m < f → On (NetI bn (mvL i)) H0 H → ladinglaw19_NetMoves.l1 F KT f l (some (bn, 0)) (k : Int) (i : Int) H := by
  intro m
  induction m with
  | zero =>
    intro i f H hj hi hf h
    obtain ⟨f, rfl⟩ : ∃ i, f = i + 1 := ⟨f - 1, by omega⟩
    have : i = k := by omega
    subst this
    exact br_f (by omega) (fin H h)
  | succ m ih =>
    intro i f H hj hi hf h
    obtain ⟨f, rfl⟩ : ∃ i, f = i + 1 := ⟨f - 1, by omega⟩
    refine br_t (by omega) fun b14 hb14 => ⟨[UInt8.ofNat i], rfl, row_upd ?_, ?_⟩
    · show [Value.int .u8 (IntKind.u8.wrap (i : Int))] = byteCells [UInt8.ofNat i]
      rw [u8_mod]
      simp [byteCells]
    have h' := h.above .net (le_upd (b := b14) (o := ⟨[.int .u8 (IntKind.u8.wrap (i : Int))], 5, false, 1⟩) hb14)
    have hlen : (mvL i).length = i := by simp [mvL]
    refine Send_spec (by omega) h' (fun _ H' g => o_none ?_) (fun e0 => absurd ?_ e0)
    · rw [w64_id (by omega), show (i : Int) + 1 = ((i + 1 : Nat) : Int) by omega]
      refine ih (i + 1) f H' (by omega) (by omega) (by omega) ?_
      have e : (mvL i ++ [mvP i]).drop ((mvL i ++ [mvP i]).length - 300) = mvL (i + 1) := by
        rw [List.length_append, hlen, show i + [mvP i].length - 300 = 0 by simp; omega, List.drop_zero]
        simp [mvL, List.range_succ]
      rw [← e]; exact g
    · rw [w64_id (by omega), Int.tmod_eq_emod_of_nonneg (by omega), Int.tmod_eq_emod_of_nonneg (by omega)]
      unfold sendE
      rw [if_neg (by omega), if_neg (by show ¬ (1 > 8000); omega)]
theorem pair_set {H : SH} {b : Nat} {a1 a2 c1 c2 : Int} : SH.setl (SH.upd H b ⟨[.int .u8 a1, .int .u8 a2], 39, false, 2⟩) (b, 0) [.int .u8 c1, .int .u8 c2] = SH.upd H b ⟨[.int .u8 c1, .int .u8 c2], 39, false, 2⟩ := by
  rw [setl_upd]; rfl
theorem row_pair {H : SH} {a : Option (Nat × Nat)} {xs : List (Int × Int)} {i : Nat} (hr : H.row a (xs.flatMap fun x => [.int .u8 x.1, .int .u8 x.2])) (h : i < xs.length) : ∃ p, a = some p ∧ H.row (some (p.1, p.2 + i * 2)) [.int .u8 xs[i].1, .int .u8 xs[i].2] := by
  have get : ∀ (xs : List (Int × Int)) (i j : Nat) (h : i < xs.length), j < 2 → (xs.flatMap fun x => [Value.int .u8 x.1, .int .u8 x.2])[i * 2 + j]? = [Value.int .u8 xs[i].1, .int .u8 xs[i].2][j]? := by
    intro xs
    induction xs with
    | nil => intro i j h; exact absurd h (by simp)
    | cons x xs ih =>
      intro i j h hj
      cases i with
      | zero =>
        simp only [Nat.zero_mul, Nat.zero_add, List.flatMap_cons]
        rw [List.getElem?_append_left (by simpa using hj)]; rfl
      | succ i =>
        rw [List.flatMap_cons, show (i + 1) * 2 + j = i * 2 + j + 2 by omega, List.getElem?_append_right (by simp)]
        have := ih i j (by simpa using h) hj
        simpa using this
  rcases hr with hr | ⟨p, o, ha, hb, hc⟩
  · have := get xs i 0 h (by omega)
    rw [hr] at this; simp at this
  · refine ⟨p, ha, .inr ⟨_, o, rfl, hb, fun j u hu => ?_⟩⟩
    have hj : j < 2 := by have := (List.getElem?_eq_some_iff.1 hu).1; simpa using this
    have := hc (i * 2 + j) u (by rw [get xs i j h hj]; exact hu)
    rw [← this]; congr 1; show p.2 + i * 2 + j = _; omega
theorem moves_take {k : Nat} {fl : List Fl} (hk : k < 60) (hF : 10000 ≤ F) (hm : Moved k fl) {b66 : Nat} {lw : Sl} (hlw : lw.len = fl.length) :
    ∀ (m j f : Nat) (H : SH), fl.length - j = m → j ≤ fl.length → m < f → Chain [nt bn (fl.drop j), blkL b66 (AO.map (seenE (fl.take j))), ⟨SlI PKT 3 lw (pkc fl), .sl⟩] H0 H → ladinglaw19_NetMoves.l3 F KT f (some (bn, 0)) (k : Int) b66 lw (fl.length : Int) (j : Int) H := by
  have hlen := hm.1
  intro m
  induction m with
  | zero =>
    intro j f H hj hi hf c
    obtain ⟨f, rfl⟩ : ∃ i, f = i + 1 := ⟨f - 1, by omega⟩
    have hjl : j = fl.length := by omega
    subst hjl
    have hmap := (On.blk.1 (Chain.at [nt bn (fl.drop fl.length)] c)).2.2
    refine br_f (by omega) ⟨_, hmap, br_t (by simp [seenE]; omega) (Len19_spec c.on ⟨H, .refl _, ?_⟩)⟩
    simp
  | succ m ih =>
    intro j f H hj hi hf c
    obtain ⟨f, rfl⟩ : ∃ i, f = i + 1 := ⟨f - 1, by omega⟩
    have hlt : j < fl.length := by omega
    obtain ⟨p, hp, hrow⟩ := row_pkt (Chain.at [nt bn (fl.drop j), blkL b66 (AO.map (seenE (fl.take j)))] c).row hlt
    refine br_t (by omega) ⟨p, hp, by omega, by omega, fl[j].f, fl[j].t, fl[j].d, hrow, fun b79 hb79 => ⟨wrs_upd rfl (Nat.le_refl _), ?_⟩⟩
    rw [pkt_set]
    obtain ⟨H2, c2, g79, hle⟩ := c.temp hb79 ⟨[.int .i64 fl[j].f, .int .i64 fl[j].t, .string fl[j].d], 45, false, 3⟩
    generalize H.upd b79 _ = G at *
    obtain ⟨H1, cn, cr⟩ := c2
    have cn : On (NetI bn (fl.drop j)) H1 G := cn
    have hd0 : (fl.drop j).length = fl.length - j := List.length_drop
    refine Take_spec (i := 0) (by omega) (by omega) (by omega) cn fun H86 g => ?_
    have hx : (fl.drop j)[0]'(by omega) = fl[j] := by simp
    rw [hx]
    have he : (fl.drop j).eraseIdx 0 = fl.drop (j + 1) := by rw [List.drop_eq_getElem_cons hlt]; rfl
    rw [he] at g
    intro b87 hb87
    refine ⟨wrs_upd rfl (Nat.le_refl _), ?_⟩
    rw [pkt_set]
    have c3 : Chain [nt bn (fl.drop (j + 1)), blkL b66 (AO.map (seenE (fl.take j))), ⟨SlI PKT 3 lw (pkc fl), .sl⟩] H2 H86 := ⟨H1, g, cr⟩
    obtain ⟨H3, c4, g87, hle3⟩ := c3.temp hb87 ⟨[.int .i64 fl[j].f, .int .i64 fl[j].t, .string fl[j].d], 45, false, 3⟩
    generalize H86.upd b87 _ = G4 at *
    have k79 := c4.le _ _ (hle3 _ _ g79)
    have k87 := c4.le _ _ g87
    have hmap := (On.blk.1 (Chain.at [nt bn (fl.drop (j + 1))] c4)).2.2
    have hnew : fl[j].d ∉ (fl.take j).map (·.d) := by
      have := moved_nodup hk hm
      rw [← List.take_append_drop j fl, List.map_append] at this
      have := (List.nodup_append.1 this).2.2
      intro hin
      exact this _ hin fl[j].d (List.mem_map.2 ⟨fl[j], by rw [List.drop_eq_getElem_cons hlt]; exact List.mem_cons_self, rfl⟩) rfl
    obtain ⟨x, hxk, hxe⟩ := moved_mem hm (List.getElem_mem hlt)
    refine o_none ⟨_, _, _, row0 k87 fun j u hu => hu, _, _, _, row0 k79 fun j u hu => hu, br_t ⟨rfl, rfl, rfl⟩ ⟨fl[j].d, ⟨_, k87, rfl⟩, _, hmap, seen_keys _ _, false, by rw [seen_find hnew]; rfl, br_f (by simp) ⟨fl[j].f, ⟨_, k87, rfl⟩, fl[j].d, ⟨_, k87, rfl⟩, by omega, ?_, br_f ?_ ⟨fl[j].d, ⟨_, k87, rfl⟩, _, hmap, seen_keys _ _, ?_⟩⟩⟩⟩
    · rw [hxe]; show (0 : Int) < ((1 : Nat) : Int); omega
    · rw [hxe, ← mvP_f (by omega)]; exact fun h => h rfl
    · rw [seen_put hnew, w64_id (by omega), show (j : Int) + 1 = ((j + 1 : Nat) : Int) by omega]
      obtain ⟨Hb, b9, c9⟩ := Chain.pull [nt bn (fl.drop (j + 1))] c4
      have b9 : On (Blk b66 (AO.map (seenE (fl.take j)))) Hb G4 := b9
      have b10 := On.upd (o' := AO.map (seenE (fl.take j) ++ [(.string fl[j].d, .bool true)])) b9
      have e10 : seenE (fl.take j) ++ [(.string fl[j].d, .bool true)] = seenE (fl.take (j + 1)) := by
        unfold seenE; rw [List.take_succ_eq_append_getElem hlt, List.map_append]; rfl
      rw [e10] at b10 ⊢
      refine ih (j + 1) f _ (by omega) (by omega) (by omega) ?_
      have c11 : Chain [blkL b66 (AO.map (seenE (fl.take (j + 1)))), nt bn (fl.drop (j + 1)), ⟨SlI PKT 3 lw (pkc fl), .sl⟩] H3 _ := ⟨Hb, b10, c9⟩
      exact (Chain.pull [blkL b66 (AO.map (seenE (fl.take (j + 1))))] c11).below (hle.trans hle3)
theorem moves_turn {l : Sl} {xs : List (Int × Int)} {k : Nat} (hk : k < 60) (hF : 10000 ≤ F) (hl : l.len = xs.length) (hn : xs.length ≤ 60) (hr : H0.row l.a (xs.flatMap fun x => [.int .u8 x.1, .int .u8 x.2])) (hx : ∀ x ∈ xs, (0 ≤ x.1 ∧ x.1 ≤ 255) ∧ (0 ≤ x.2 ∧ x.2 ≤ 255)) :
    ∀ (m i f : Nat) (fl : List Fl) (H : SH), xs.length - i = m → i ≤ xs.length → m < f → Moved k fl → On (NetI bn fl) H0 H → ladinglaw19_NetMoves.l2 F KT f (some (bn, 0)) (k : Int) l (xs.length : Int) (i : Int) H := by
  intro m
  induction m with
  | zero =>
    intro i f fl H hj hi hf hm h
    obtain ⟨f, rfl⟩ : ∃ i, f = i + 1 := ⟨f - 1, by omega⟩
    have hlen := hm.1
    refine br_f (by omega) (All19_spec (by omega) (by omega) h fun lw H' o' b hb => ?_)
    have hl' := o'.len
    rw [pkc_len] at hl'
    have hl' : lw.len = fl.length := by omega
    rw [hl']
    have c : Chain [blkL b (AO.map []), ⟨SlI PKT 3 lw (pkc fl), .sl⟩, nt bn fl] H0 (H'.upd b (AO.map [])) := ⟨H', On.new hb, H, o', H0, h, .refl _⟩
    exact moves_take hk hF hm hl' fl.length 0 F _ (by omega) (by omega) (by omega) (Chain.pull [blkL b (AO.map []), ⟨SlI PKT 3 lw (pkc fl), .sl⟩] c)
  | succ m ih =>
    intro i f fl H hj hi hf hm h
    obtain ⟨f, rfl⟩ : ∃ i, f = i + 1 := ⟨f - 1, by omega⟩
    have hlt : i < xs.length := by omega
    have hlen := hm.1
    obtain ⟨p, hp, hrow⟩ := row_pair (hr.le h.le) hlt
    have hb := hx _ (List.getElem_mem hlt)
    generalize xs[i] = x at *
    refine br_t (by omega) ⟨p, hp, by omega, by omega, x.1, x.2, hrow, fun b35 hb35 => ⟨wrs_upd rfl (Nat.le_refl _), ?_⟩⟩
    rw [pair_set]
    have h' := h.above .net (le_upd (b := b35) (o := ⟨[.int .u8 x.1, .int .u8 x.2], 39, false, 2⟩) hb35)
    have next : ∀ (fl' : List Fl) (G : SH), Moved k fl' → On (NetI bn fl') H0 G → ladinglaw19_NetMoves.j2 F KT (ladinglaw19_NetMoves.l2 F KT f) (some (bn, 0)) (k : Int) l (xs.length : Int) (i : Int) G := fun fl' G q1 q2 => by
      show ladinglaw19_NetMoves.l2 F KT f (some (bn, 0)) (k : Int) l (xs.length : Int) (w64 ((i : Int) + 1)) G
      rw [w64_id (by omega), show (i : Int) + 1 = ((i + 1 : Nat) : Int) by omega]
      exact ih (i + 1) f fl' G (by omega) (by omega) (by omega) q1 q2
    by_cases hk0 : (k : Int) > 0
    · refine br_t hk0 ⟨x.1, has_upd rfl, by omega, x.2, has_upd rfl, by omega, ?_⟩
      rw [w64_id (by omega), w64_id (by omega)]
      obtain ⟨j, hj1⟩ : ∃ j : Nat, x.1.tmod k = j := ⟨(x.1.tmod k).toNat, by rw [Int.tmod_eq_emod_of_nonneg (by omega)]; have := Int.emod_nonneg x.1 (b := k) (by omega); omega⟩
      have hj2 : (j : Int) < k := by rw [← hj1, Int.tmod_eq_emod_of_nonneg (by omega)]; exact Int.emod_lt_of_pos _ hk0
      rw [hj1]
      have hjl : j < fl.length := by omega
      refine Turn_spec (by omega) (by omega) hjl h' fun H' g => o_none (next _ H' ⟨?_, (turn_perm hjl).trans hm.2⟩ g)
      rw [(turn_perm hjl).length_eq]; exact hm.1
    · exact br_f hk0 (next fl _ hm h')
theorem NetMoves_wp {x : Int} {l : Sl} {xs : List (Int × Int)} (hF : 10000 ≤ F) (hx0 : 0 ≤ x ∧ x ≤ 255) (hl : l.len = xs.length) (hr : H.row l.a (xs.flatMap fun x => [.int .u8 x.1, .int .u8 x.2])) (hx : ∀ x ∈ xs, (0 ≤ x.1 ∧ x.1 ≤ 255) ∧ (0 ≤ x.2 ∧ x.2 ≤ 255)) : ladinglaw19_NetMoves.wp F x l H KT := by
  refine awake19_spec fun H3 h3 => br_t rfl ?_
  by_cases hm : (l.len : Int) > 60
  · exact br_t hm ⟨H3, .refl _, rfl⟩
  refine br_f hm (New19_spec fun bn H7 hbn h7 => ?_)
  rw [w64_id (by omega)]
  obtain ⟨k, hk⟩ : ∃ k : Nat, x.tmod 60 = k := ⟨(x.tmod 60).toNat, by rw [Int.tmod_eq_emod_of_nonneg (by omega)]; omega⟩
  have hk1 : k < 60 := by rw [Int.tmod_eq_emod_of_nonneg (by omega)] at hk; omega
  rw [hk]
  refine moves_send hk1 (fun H' g => ?_) k 0 F H7 (by omega) (by omega) (by omega) h7
  rw [hl]
  exact moves_turn hk1 hF hl (by omega) (hr.le h3) hx xs.length 0 F (mvL k) H' (by omega) (by omega) (by omega) ⟨by simp [mvL], .refl _⟩ g
end
set_option maxRecDepth 100000 in
open Go.RowKit Go.ChangeShapes Go.WideShapes Go.ChangeAt in
theorem NetMoves_walk {X : Prop} {H : Type} {enc : TypeId × Value → H} (W : World) (args : Array Value) (ds : List (DataW H)) (p : List MemPlace) (base : Nat)
    (hval : ∀ (j : Nat) t v, Try.f4.params[j]? = some t → args[j]? = some v → Value.okWide Try.prog W .any base t v) (hA : DataW.TrodAll enc Try.prog W 0 (fun _ => true) true Try.f4.params.toList args.toList ds p) (hfz : X) :
    (∃ d d2, ds = [d, d2]) ∧ Calls Try.prog 4 args W fun e w' => e = .returned (.bool true) ∧ RowKit.Below W.heap.size W w' := by
  rw [Try.params4] at hA hval
  obtain ⟨v0, vs0, d0, ds0, p0, q0, hargs, rfl, rfl, h0, r0⟩ := trodAll_cons hA
  obtain ⟨v1, vs1, d1, ds1, p1, q1, rfl, rfl, rfl, h1, r1⟩ := trodAll_cons r0
  obtain ⟨rfl, rfl, rfl⟩ := trodAll_nil r1
  obtain rfl : args = #[v0, v1] := by cases args; simp_all
  obtain ⟨x, rfl, hx0⟩ : ∃ x, v0 = .int .u8 x ∧ 0 ≤ x ∧ x ≤ 255 := by
    have := hval 0 5 v0 rfl rfl
    unfold Value.okWide at this
    rw [Try.underlying5] at this
    obtain ⟨n, rfl, h1, h2⟩ := cell_int Try.underlying5 this
    exact ⟨n, rfl, h1, h2⟩
  obtain ⟨l, xs, rfl, hl, _, hr, hx⟩ := arg_pairs Try.underlying34 Try.underlying39 Try.underlying5 (by kernel_rfl) (by kernel_rfl) (hval 1 34 v1 rfl rfl) h1
  refine ⟨⟨_, _, rfl⟩, ?_⟩
  have h := ladinglaw19_NetMoves.sound 10000 x l (SH.of W) _ (NetMoves_wp (by omega) hx0 hl hr fun x hx' => hx x hx') W (SH.of_sat W)
  refine h.mono ?_
  rintro e w' ⟨v, H', rfl, st, q, rfl, rfl⟩
  exact ⟨rfl, st.below fun b o hb => SH.of_ro hb⟩
end Go.Proofs.Ytkfbmoekghbgbaa.K
