/- The law NetNames: what it comes to. -/
import Derived.Test.YtkfbmoekghbgbaaArgNet
import Derived.Test.YtkfbmoekghbgbaaSpecNet
import Derived.Test.YtkfbmoekghbgbaaGladinglaw19NetNames
set_option linter.unusedVariables false
set_option linter.unusedSimpArgs false
namespace Go.Proofs.Ytkfbmoekghbgbaa.K
open Go
def snO (sn : List Int) : AO := ⟨sn.map fun v => .int .i64 v, 51, false, 6⟩
def namedF (sn : List Int) (x : Fl) : Prop := 0 ≤ x.f ∧ x.f ≤ 5 ∧ x.f ≠ x.t ∧ ∃ v, sn[x.f.toNat]? = some v ∧ 0 < v
theorem turn_mem {fl : List Fl} {i : Nat} {x y : Fl} {to : Int} (hx : x ∈ fl) (h : y ∈ turnL fl i x to) : y ∈ fl := by
  unfold turnL at h
  rcases List.mem_append.1 h with h | h
  · exact List.mem_of_mem_eraseIdx (List.mem_of_mem_take h)
  · rcases List.mem_cons.1 h with h | h
    · exact h ▸ hx
    · exact List.mem_of_mem_eraseIdx (List.mem_of_mem_drop h)
theorem turn_len {fl : List Fl} {i : Nat} {x : Fl} {to : Int} (hi : i < fl.length) : (turnL fl i x to).length = fl.length := by
  have := List.length_eraseIdx_of_lt hi
  unfold turnL
  simp only [List.length_append, List.length_cons, List.length_take, List.length_drop]
  omega
section
variable {F : Nat} {H H0 : SH} {bn b8 : Nat} {fl : List Fl} {sn : List Int}
theorem names_check {R1 : Option (Nat × Nat) → Nat → Sl → Int → Int → SH → Prop} {K : Bool → SH → Prop} {l : Sl} {x i : Int} (hn : fl.length ≤ 1000000) (hF : fl.length < F) (hs : ∀ y ∈ fl, namedF sn y) (h : Chain [nt bn fl, blkL b8 (snO sn)] H0 H) (k : ∀ G, SH.le H G → R1 (some (bn, 0)) b8 l x (w64 (i + 1)) G) : ladinglaw19_NetNames.j2 F K R1 (some (bn, 0)) b8 l x i H := by
  have hb8 : H b8 = some (snO sn) := (On.blk.1 (Chain.at [nt bn fl] h)).2.2
  unfold ladinglaw19_NetNames.j2 ladinglaw19_NetNames.j1
  refine All19_spec hn hF h.on fun l' H' o' => ?_
  have hl' := o'.len
  rw [pkc_len] at hl'
  have hl' : l'.len = fl.length := by omega
  rw [hl']
  have loop : ∀ (m j f : Nat) (G : SH), fl.length - j = m → j ≤ fl.length → m < f → SH.le H' G → ladinglaw19_NetNames.l2 F K R1 f (some (bn, 0)) b8 l x i l' (fl.length : Int) (j : Int) G := by
    intro m
    induction m with
    | zero =>
      intro j f G hj hi hf hG
      obtain ⟨f, rfl⟩ : ∃ i, f = i + 1 := ⟨f - 1, by omega⟩
      exact br_f (by omega) (k G (o'.le.trans hG))
    | succ m ih =>
      intro j f G hj hi hf hG
      obtain ⟨f, rfl⟩ : ∃ i, f = i + 1 := ⟨f - 1, by omega⟩
      have hlt : j < fl.length := by omega
      obtain ⟨p, hp, hrow⟩ := row_pkt (o'.row.le hG) hlt
      obtain ⟨n1, n2, n3, v, n4, n5⟩ := hs _ (List.getElem_mem hlt)
      refine br_t (by omega) ⟨p, hp, by omega, by omega, fl[j].f, fl[j].t, fl[j].d, hrow, fun b hb => ⟨wrs_upd rfl (Nat.le_refl _), ?_⟩⟩
      rw [pkt_set]
      have hG' : SH.le G (G.upd b ⟨[.int .i64 fl[j].f, .int .i64 fl[j].t, .string fl[j].d], 45, false, 3⟩) := le_upd hb
      have h8 : (G.upd b ⟨[.int .i64 fl[j].f, .int .i64 fl[j].t, .string fl[j].d], 45, false, 3⟩).has (b8, 0 + fl[j].f.toNat * 1) (.int .i64 v) :=
        ⟨_, hG' _ _ (hG _ _ (o'.le _ _ hb8)), by show ((sn.map fun v => Value.int .i64 v))[0 + fl[j].f.toNat * 1]? = _; rw [List.getElem?_map, Nat.zero_add, Nat.mul_one, n4]; rfl⟩
      refine ⟨fl[j].f, has_upd rfl, n1, by omega, v, h8, br_f (by omega) ⟨fl[j].f, has_upd rfl, fl[j].t, has_upd rfl, br_f n3 ?_⟩⟩
      rw [w64_id (by omega), show (j : Int) + 1 = ((j + 1 : Nat) : Int) by omega]
      exact ih (j + 1) f _ (by omega) (by omega) (by omega) (hG.trans hG')
  exact loop fl.length 0 F H' (by omega) (by omega) hF (.refl _)
theorem NetNames_loop {l : Sl} {ops : List NOp} (hF : 10000 ≤ F) (hl : l.len = ops.length) (hm : ops.length ≤ 100) (hr : H0.row l.a (noc ops)) (hx : ∀ o ∈ ops, 0 ≤ o.y ∧ o.y ≤ 255) :
    ∀ (m i f : Nat) (fl : List Fl) (sn : List Int) (H : SH), ops.length - i = m → i ≤ ops.length → m < f → fl.length ≤ i → sn.length = 6 → (∀ v ∈ sn, 0 ≤ v ∧ v ≤ 1000 * i) → (∀ y ∈ fl, namedF sn y) → Chain [nt bn fl, blkL b8 (snO sn)] H0 H →
    ladinglaw19_NetNames.l1 F (fun b _ => b = true) f (some (bn, 0)) b8 l (ops.length : Int) (i : Int) H := by
  intro m
  induction m with
  | zero =>
    intro i f fl sn H hj hi hf hfl hsn hv hs h
    obtain ⟨f, rfl⟩ : ∃ i, f = i + 1 := ⟨f - 1, by omega⟩
    exact br_f (by omega) ⟨H, .refl _, rfl⟩
  | succ m ih =>
    intro i f fl sn H hj hi hf hfl hsn hv hs h
    obtain ⟨f, rfl⟩ : ∃ i, f = i + 1 := ⟨f - 1, by omega⟩
    have hlt : i < ops.length := by omega
    obtain ⟨p, hp, hrow⟩ := row_nop (hr.le h.le) hlt
    have hy := hx _ (List.getElem_mem hlt)
    generalize ops[i] = o at *
    refine br_t (by omega) ⟨p, hp, by omega, by omega, o.k, o.a, o.b, o.y, o.s, hrow, fun b26 hb26 => ⟨wrs_upd rfl (Nat.le_refl _), ?_⟩⟩
    rw [op_set]
    obtain ⟨H2, c, hb2, hle⟩ := h.temp hb26 (opO o)
    have hG : H.upd b26 ⟨[.int .i64 o.k, .int .i64 o.a, .int .i64 o.b, .int .u8 o.y, .string o.s], 53, false, 5⟩ = H.upd b26 (opO o) := rfl
    rw [hG]
    have hb : (H.upd b26 (opO o)) b26 = some (opO o) := SH.upd_same _ _ _
    generalize H.upd b26 (opO o) = G at *
    have gh : ∀ {G' : SH} (k : Nat) (v : Value), SH.le H2 G' → (opO o).cells[k]? = some v → G'.has (b26, k) v := fun k v hle' hk => ⟨_, hle' _ _ hb2, hk⟩
    have nxt : ∀ (fl' : List Fl) (sn' : List Int) (G' : SH), fl'.length ≤ i + 1 → sn'.length = 6 → (∀ v ∈ sn', 0 ≤ v ∧ v ≤ 1000 * (i + 1 : Nat)) → (∀ y ∈ fl', namedF sn' y) → Chain [nt bn fl', blkL b8 (snO sn')] H2 G' → ladinglaw19_NetNames.j2 F (fun b _ => b = true) (ladinglaw19_NetNames.l1 F (fun b _ => b = true) f) (some (bn, 0)) b8 l (ops.length : Int) (i : Int) G' := by
      intro fl' sn' G' q1 q2 q3 q4 q5
      refine names_check (by omega) (by omega) q4 q5 fun G'' hG'' => ?_
      rw [w64_id (by omega), show (i : Int) + 1 = ((i + 1 : Nat) : Int) by omega]
      exact ih (i + 1) f fl' sn' G'' (by omega) (by omega) (by omega) q1 q2 q3 q4 ((Chain.below q5 hle).above hG'')
    have hv1 : ∀ v ∈ sn, 0 ≤ v ∧ v ≤ 1000 * (i + 1 : Nat) := fun v hvm => ⟨(hv v hvm).1, by have := (hv v hvm).2; omega⟩
    obtain ⟨H1, cn, cb⟩ := c
    have cn : On (NetI bn fl) H1 G := cn
    have hle1 : SH.le H2 H1 := cb.le
    have same : ∀ (fl' : List Fl) (G' : SH), fl'.length ≤ i + 1 → (∀ y ∈ fl', namedF sn y) → On (NetI bn fl') H1 G' → ladinglaw19_NetNames.j2 F (fun b _ => b = true) (ladinglaw19_NetNames.l1 F (fun b _ => b = true) f) (some (bn, 0)) b8 l (ops.length : Int) (i : Int) G' := fun fl' G' q1 q2 q3 => nxt fl' sn G' q1 hsn hv1 q2 ⟨H1, q3, cb⟩
    have hleG : SH.le H2 G := hle1.trans cn.le
    refine ⟨o.s, gh 4 _ hleG rfl, ?_⟩
    by_cases z1 : (o.s.size : Int) > 100
    · exact br_t z1 ⟨G, .refl _, rfl⟩
    refine br_f z1 ⟨o.k, gh 0 _ hleG rfl, ?_⟩
    by_cases k0 : o.k = 0
    · refine br_t k0 ⟨o.a, gh 1 _ hleG rfl, o.b, gh 2 _ hleG rfl, o.s, gh 4 _ hleG rfl, Send_spec (by omega) cn (fun e0 H' g => o_none ?_) (fun e0 => o_some (same fl G (by omega) hs cn))⟩
      have hne : ¬ (o.a < 0 ∨ o.a > 5 ∨ o.b < 0 ∨ o.b ≥ 5 ∨ o.a = o.b) := fun hb' => by
        have : sendE o.a o.b o.s = 1 := if_pos hb'
        omega
      have hleG' : SH.le H2 H' := hle1.trans g.le
      obtain ⟨Hb, b9, c9⟩ := Chain.pull [nt bn ((fl ++ [(⟨o.a, o.b, o.s, false⟩ : Fl)]).drop ((fl ++ [(⟨o.a, o.b, o.s, false⟩ : Fl)]).length - 300))] (⟨H1, g, cb⟩ : Chain [nt bn ((fl ++ [(⟨o.a, o.b, o.s, false⟩ : Fl)]).drop ((fl ++ [(⟨o.a, o.b, o.s, false⟩ : Fl)]).length - 300)), blkL b8 (snO sn)] H2 H')
      have b9 : On (Blk b8 (snO sn)) Hb H' := b9
      have ha6 : o.a.toNat < sn.length := by omega
      have hcel : (snO sn).cells[0 + o.a.toNat * 1]? = some (.int .i64 sn[o.a.toNat]) := by
        show ((sn.map fun v => Value.int .i64 v))[0 + o.a.toNat * 1]? = _
        rw [List.getElem?_map, Nat.zero_add, Nat.mul_one, List.getElem?_eq_getElem ha6]; rfl
      have hva := hv _ (List.getElem_mem ha6)
      refine ⟨o.a, gh 1 _ hleG' rfl, by omega, by omega, sn[o.a.toNat], b9.has hcel, by omega, by omega, b9.wrs rfl (by simp [snO, hsn]; omega), ?_⟩
      have e9 : w64 (sn[o.a.toNat] + 1000) = sn[o.a.toNat] + 1000 := w64_id (by omega)
      rw [e9]
      have b10 := On.setl (k := 0 + o.a.toNat * 1) (vs := [.int .i64 (sn[o.a.toNat] + 1000)]) b9
      have e10 : ({ snO sn with cells := wrl (snO sn).cells (0 + o.a.toNat * 1) [.int .i64 (sn[o.a.toNat] + 1000)] } : AO) = snO (sn.set o.a.toNat (sn[o.a.toNat] + 1000)) := by
        unfold snO
        simp only [Nat.zero_add, Nat.mul_one]
        congr 1
        apply List.ext_getElem?
        intro j
        rw [wrl_get (by simp; omega), List.getElem?_map, List.getElem?_map, List.getElem?_set]
        by_cases hj : j = o.a.toNat
        · subst hj; simp [ha6]
        · rw [if_neg hj, if_neg (fun h => hj h.symm)]
      rw [e10] at b10
      refine nxt _ (sn.set o.a.toNat (sn[o.a.toNat] + 1000)) _ ?_ (by rw [List.length_set]; exact hsn) (fun v hvm => ?_) (fun y hy' => ?_) (Chain.pull [blkL b8 (snO (sn.set o.a.toNat (sn[o.a.toNat] + 1000)))] (⟨Hb, b10, c9⟩ : Chain [blkL b8 (snO (sn.set o.a.toNat (sn[o.a.toNat] + 1000))), nt bn ((fl ++ [(⟨o.a, o.b, o.s, false⟩ : Fl)]).drop ((fl ++ [(⟨o.a, o.b, o.s, false⟩ : Fl)]).length - 300))] H2 _))
      · rw [List.length_drop, List.length_append, List.length_singleton]; omega
      · rcases List.mem_or_eq_of_mem_set hvm with h1 | h1
        · exact hv1 v h1
        · rw [h1]; omega
      · have hup : ∀ j : Nat, ∀ v, sn[j]? = some v → 0 < v → ∃ v', (sn.set o.a.toNat (sn[o.a.toNat] + 1000))[j]? = some v' ∧ 0 < v' := fun j v h1 h2 => by
          rw [List.getElem?_set]
          by_cases hj : o.a.toNat = j
          · rw [if_pos hj, if_pos (by omega)]; exact ⟨_, rfl, by omega⟩
          · rw [if_neg hj]; exact ⟨v, h1, h2⟩
        rcases List.mem_append.1 (List.mem_of_mem_drop hy') with h1 | h1
        · obtain ⟨n1, n2, n3, v, n4, n5⟩ := hs y h1
          exact ⟨n1, n2, n3, hup _ v n4 n5⟩
        · rw [List.mem_singleton.1 h1]
          refine ⟨by show 0 ≤ o.a; omega, by show o.a ≤ 5; omega, by show o.a ≠ o.b; omega, sn[o.a.toNat] + 1000, ?_, by omega⟩
          show (sn.set o.a.toNat (sn[o.a.toNat] + 1000))[o.a.toNat]? = _
          rw [List.getElem?_set, if_pos rfl, if_pos ha6]
    refine br_f k0 ?_
    by_cases k4 : o.k = 4
    · refine br_t k4 ⟨o.a, gh 1 _ hleG rfl, ?_⟩
      by_cases ha : o.a < 0 ∨ o.a ≥ fl.length
      · exact Twice_bad ha cn (same fl G (by omega) hs cn)
      · obtain ⟨j, hj⟩ : ∃ j : Nat, o.a = j := ⟨o.a.toNat, by omega⟩
        rw [hj]
        have hjl : j < fl.length := by omega
        refine Twice_spec (by omega) hjl cn fun H' g => same _ H' (by rw [List.length_drop, List.length_append, List.length_singleton]; omega) (fun y hy' => ?_) g
        rcases List.mem_append.1 (List.mem_of_mem_drop hy') with h1 | h1
        · exact hs y h1
        · rw [List.mem_singleton.1 h1]; exact hs _ (List.getElem_mem hjl)
    refine br_f k4 ?_
    by_cases k5 : o.k = 5
    · refine br_t k5 ⟨o.a, gh 1 _ hleG rfl, o.b, gh 2 _ hleG rfl, ?_⟩
      by_cases ha : o.a < 0 ∨ o.a ≥ fl.length
      · exact Turn_bad ha cn fun H' g => same fl H' (by omega) hs g
      · obtain ⟨j, hj⟩ : ∃ j : Nat, o.a = j := ⟨o.a.toNat, by omega⟩
        rw [hj]
        have hjl : j < fl.length := by omega
        exact Turn_spec (by omega) (by omega) hjl cn fun H' g => same _ H' (by rw [turn_len hjl]; omega) (fun y hy' => hs y (turn_mem (List.getElem_mem hjl) hy')) g
    refine br_f k5 ?_
    by_cases k6 : o.k = 6
    · refine br_t k6 ⟨o.a, gh 1 _ hleG rfl, o.b, gh 2 _ hleG rfl, o.y, gh 3 _ hleG rfl, ?_⟩
      by_cases ha : o.a < 0 ∨ o.a ≥ fl.length
      · exact Spoil_bad ha cn (same fl G (by omega) hs cn)
      · obtain ⟨j, hj⟩ : ∃ j : Nat, o.a = j := ⟨o.a.toNat, by omega⟩
        rw [hj]
        have hjl : j < fl.length := by omega
        refine Spoil_spec hy hjl cn (fun _ H' g => same _ H' (by rw [List.length_set]; omega) (fun y hy' => ?_) g) (fun _ => same fl G (by omega) hs cn)
        rcases List.mem_or_eq_of_mem_set hy' with h1 | h1
        · exact hs y h1
        · have q := hs fl[j] (List.getElem_mem hjl)
          rw [h1]; exact q
    exact br_f k6 (same fl G (by omega) hs cn)
theorem NetNames_wp {l : Sl} {ops : List NOp} (hF : 10000 ≤ F) (hl : l.len = ops.length) (hr : H.row l.a (noc ops)) (hx : ∀ o ∈ ops, 0 ≤ o.y ∧ o.y ≤ 255) : ladinglaw19_NetNames.wp F l H (fun b _ => b = true) := by
  refine awake19_spec fun H3 h3 => br_t rfl ?_
  by_cases hm : (l.len : Int) > 100
  · exact br_t hm ⟨H3, .refl _, rfl⟩
  refine br_f hm (New19_spec fun bn H7 hbn h7 b8 hb8 => ?_)
  obtain ⟨Hq, q1, q2⟩ := Chain.pull [blkL b8 (snO [0, 0, 0, 0, 0, 0])] (⟨H7, On.new hb8, H3, h7, .refl _⟩ : Chain [blkL b8 (snO [0, 0, 0, 0, 0, 0]), nt bn []] H3 (H7.upd b8 (snO [0, 0, 0, 0, 0, 0])))
  rw [hl]
  exact NetNames_loop hF hl (by omega) (hr.le h3) hx ops.length 0 F [] [0, 0, 0, 0, 0, 0] _ (by omega) (by omega) (by omega) (by simp) rfl (by simp) (by simp) ⟨Hq, q1, q2⟩
end
set_option maxRecDepth 100000 in
open Go.RowKit Go.ChangeShapes Go.WideShapes Go.ChangeAt in
theorem NetNames_walk {X : Prop} {H : Type} {enc : TypeId × Value → H} (W : World) (args : Array Value) (ds : List (DataW H)) (p : List MemPlace) (base : Nat)
    (hval : ∀ (j : Nat) t v, Try.f5.params[j]? = some t → args[j]? = some v → Value.okWide Try.prog W .any base t v) (hA : DataW.TrodAll enc Try.prog W 0 (fun _ => true) true Try.f5.params.toList args.toList ds p) (hfz : X) :
    (∃ d, ds = [d]) ∧ Calls Try.prog 5 args W fun e w' => e = .returned (.bool true) ∧ RowKit.Below W.heap.size W w' := by
  rw [Try.params5] at hA hval
  obtain ⟨v0, vs0, d0, ds0, p0, q0, hargs, rfl, rfl, h0, r0⟩ := trodAll_cons hA
  obtain ⟨rfl, rfl, rfl⟩ := trodAll_nil r0
  obtain rfl : args = #[v0] := by cases args; simp_all
  obtain ⟨l, ops, rfl, hl, _, hr, hx⟩ := arg_nops (hval 0 50 v0 rfl rfl) h0
  refine ⟨⟨_, rfl⟩, ?_⟩
  have h := ladinglaw19_NetNames.sound 10000 l (SH.of W) _ (NetNames_wp (by omega) hl hr hx) W (SH.of_sat W)
  refine h.mono ?_
  rintro e w' ⟨v, H', rfl, st, q, rfl, rfl⟩
  exact ⟨rfl, st.below fun b o hb => SH.of_ro hb⟩
end Go.Proofs.Ytkfbmoekghbgbaa.K
