/- Scripts of calls to a disk: what the laws DiskLasts and DiskKeeps have in common. -/
import Derived.Test.YtknhlipealekoaaDoorLawDiskFuses
set_option linter.unusedVariables false
set_option linter.unusedSimpArgs false
namespace Go.Proofs.YtknhlipealekoaaDoor.K
open Go

theorem flat_get {α : Type} {f : α → List Value} {c : Nat} (hf : ∀ a, (f a).length = c) : ∀ {l : List α} {i j : Nat} (h : i < l.length), j < c → (l.flatMap f)[i * c + j]? = (f l[i])[j]?
  | a :: l, 0, j, h, hj => by
    rw [List.flatMap_cons, Nat.zero_mul, Nat.zero_add, List.getElem?_append_left (by rw [hf]; exact hj)]; rfl
  | a :: l, i + 1, j, h, hj => by
    have e : (i + 1) * c + j = (f a).length + (i * c + j) := by rw [hf, Nat.succ_mul]; omega
    rw [List.flatMap_cons, e, List.getElem?_append_right (by omega), Nat.add_sub_cancel_left]
    exact flat_get hf (by simpa using h) hj
theorem flat_len {α : Type} {f : α → List Value} {c : Nat} (hf : ∀ a, (f a).length = c) : ∀ l : List α, (l.flatMap f).length = l.length * c
  | [] => by simp
  | a :: l => by rw [List.flatMap_cons, List.length_append, hf, flat_len hf l, List.length_cons, Nat.succ_mul]; omega
theorem row_elem {α : Type} {f : α → List Value} {c : Nat} {H : SH} (hf : ∀ a, (f a).length = c) (hc : 0 < c) {l : Sl} {xs : List α} {i : Nat} (hr : H.row l.a (xs.flatMap f)) (h : i < xs.length) : ∃ p, l.a = some p ∧ H.row (some (p.1, p.2 + i * c)) (f xs[i]) := by
  rcases hr with h0 | ⟨p, o, ha, hb, hh⟩
  · have := flat_len hf xs
    rw [h0] at this
    have : xs.length * c ≠ 0 := Nat.mul_ne_zero (by omega) (by omega)
    simp at *; omega
  · refine ⟨p, ha, .inr ⟨_, o, rfl, hb, fun j u hu => ?_⟩⟩
    have hj : j < c := by
      have := (List.getElem?_eq_some_iff.1 hu).1
      rwa [hf] at this
    have := hh (i * c + j) u (by rw [flat_get hf h hj]; exact hu)
    simpa [Nat.add_assoc] using this
theorem setl_all {H : SH} {b n : Nat} {T : TypeId} {ro : Bool} {cs vs : List Value} (h : vs.length = cs.length) : SH.setl (SH.upd H b ⟨cs, T, ro, n⟩) (b, 0) vs = SH.upd H b ⟨vs, T, ro, n⟩ := by
  rw [setl_upd]
  congr 2
  unfold wrl
  simp [h]
/-! ### scripts -/
structure DOp where
  K : Int
  N : Int
  At : Int
  By : Int
  S : ByteArray
  P : SlW
  L : Int
instance : Inhabited DOp := ⟨⟨0, 0, 0, 0, ByteArray.empty, ⟨none, 0, 0⟩, 0⟩⟩
def DOp.cells (o : DOp) : List Value := [.int .i64 o.K, .int .i64 o.N, .int .i64 o.At, .int .u8 o.By, .string o.S, swv o.P, .int .i64 o.L]
def opc (l : List DOp) : List Value := l.flatMap DOp.cells
def opZ : AO := ⟨[.int .i64 0, .int .i64 0, .int .i64 0, .int .u8 0, .string ByteArray.empty, sv Sl.nil, .int .i64 0], 41, false, 7⟩
def DOp.ao (o : DOp) : AO := ⟨o.cells, 41, false, 7⟩
theorem op_set {H : SH} {b : Nat} {o : DOp} : SH.setl (SH.upd H b opZ) (b, 0) [.int .i64 o.K, .int .i64 o.N, .int .i64 o.At, .int .u8 o.By, .string o.S, swv o.P, .int .i64 o.L] = SH.upd H b o.ao := setl_all rfl
theorem op_step {H : SH} {l : Sl} {ops : List DOp} {i : Nat} (hl : l.len = ops.length) (hr : H.row l.a (opc ops)) (h : i < ops.length) {B : Int → Int → Int → Int → ByteArray → SlW → Int → Nat → Prop}
    (k : ∀ b, H b = none → B ops[i].K ops[i].N ops[i].At ops[i].By ops[i].S ops[i].P ops[i].L b) :
    ∃ p, l.a = some p ∧ 0 ≤ (i : Int) ∧ (i : Int) < (l.len : Int) ∧ ∃ (x22 : Int) (x23 : Int) (x24 : Int) (x25 : Int) (s26 : ByteArray) (l27 : SlW) (x28 : Int),
      SH.row H (some (p.1, (p.2 + (i : Int).toNat * 7))) [.int .i64 x22, .int .i64 x23, .int .i64 x24, .int .u8 x25, .string s26, swv l27, .int .i64 x28] ∧
      ∀ b, H b = none → SH.wrs (SH.upd H b ⟨[.int .i64 0, .int .i64 0, .int .i64 0, .int .u8 0, .string ByteArray.empty, sv Sl.nil, .int .i64 0], 41, false, 7⟩) (b, 0) 7 ∧ B x22 x23 x24 x25 s26 l27 x28 b := by
  obtain ⟨p, hp, hrow⟩ := row_elem (f := DOp.cells) (c := 7) (fun _ => rfl) (by omega) hr h
  exact ⟨p, hp, by omega, by omega, ops[i].K, ops[i].N, ops[i].At, ops[i].By, ops[i].S, ops[i].P, ops[i].L, hrow, fun b hb => ⟨wrs_upd rfl (Nat.le_refl _), k b hb⟩⟩
theorem op_row {H : SH} {b : Nat} {o : DOp} (h : H b = some o.ao) : SH.row H (some (b, 0)) [.int .i64 o.K, .int .i64 o.N, .int .i64 o.At, .int .u8 o.By, .string o.S, swv o.P, .int .i64 o.L] := rowN h fun j u hu => by rw [Nat.zero_add]; exact hu
section
variable {F : Nat} {b : Nat} {m : DM} {H0 H : SH} {kk N : Nat}
theorem Great14_spec {l : Sl} {ops : List DOp} (hF : 200 ≤ F) (hl : l.len = ops.length) (hr : H.row l.a (opc ops)) {K : Bool → SH → Prop} (k1 : ∀ H', K true H') (k2 : ops.length ≤ 100 → (∀ o ∈ ops, o.S.size ≤ 300) → K false H) : ladinglaw14_Great.wp F l H K := by
  refine ⟨fun _ => ⟨H, .refl H, k1 _⟩, fun c => ?_⟩
  have h100 : ops.length ≤ 100 := by omega
  have loop : ∀ (j i f : Nat) (H1 : SH), ops.length - i = j → i ≤ ops.length → j < f → (∀ o ∈ ops.take i, o.S.size ≤ 300) → SH.le H H1 → ladinglaw14_Great.l1 F K f l (ops.length : Int) (i : Int) H1 := by
    intro j
    induction j with
    | zero =>
      intro i f H1 hj hi hf hs hle
      obtain ⟨f, rfl⟩ : ∃ i, f = i + 1 := ⟨f - 1, by omega⟩
      rw [List.take_of_length_le (by omega)] at hs
      exact br_f (by omega) ⟨H, hle, k2 h100 hs⟩
    | succ j ih =>
      intro i f H1 hj hi hf hs hle
      obtain ⟨f, rfl⟩ : ∃ i, f = i + 1 := ⟨f - 1, by omega⟩
      have hlt : i < ops.length := by omega
      refine br_t (by omega) (op_step hl (hr.le hle) hlt fun b hb => ?_)
      have e := op_set (H := H1) (b := b) (o := ops[i])
      unfold opZ at e
      rw [e]
      refine ⟨ops[i].S, has_upd rfl, fun _ => ⟨_, .refl _, k1 _⟩, fun c1 => ⟨ops[i].P, has_upd rfl, fun _ => ⟨_, .refl _, k1 _⟩, fun c2 => ?_⟩⟩
      rw [w64_id (by omega), show (i : Int) + 1 = ((i + 1 : Nat) : Int) by omega]
      refine ih (i + 1) f _ (by omega) (by omega) (by omega) (fun s h => ?_) (hle.trans (le_upd hb))
      rw [List.take_succ_eq_append_getElem hlt] at h
      rcases List.mem_append.1 h with h | h
      · exact hs s h
      · rw [List.mem_singleton.1 h]; omega
  rw [hl]
  exact loop ops.length 0 F H (by omega) (by omega) (by omega) (by simp) (.refl H)
def DM.doOp (m : DM) (o : DOp) : DM := if o.K = 0 then m.append o.S else if o.K = 1 then m.put o.N o.S else if o.K = 2 then m.sync else if o.K = 3 then m.cut o.N else if o.K = 4 then m.fuse o.N else if o.K = 6 then m.rot o.N o.At o.By else m
theorem turnD_eq (l : List Wr) (n : Int) (a : Nat) (y : Int) : ∀ k, (turnD l n a y k).map (fun w => (w.1, w.2.size)) = l.map (fun w => (w.1, w.2.size))
  | 0 => rfl
  | k + 1 => by
    unfold turnD
    split
    · rename_i h
      rw [List.map_set]
      apply List.ext_getElem?
      intro j
      rw [List.getElem?_set]
      by_cases hj : k = j
      · subst hj
        by_cases hk : k < l.length
        · rw [getD_lt hk] at h ⊢
          simp [hk, turnB_size, h]
        · simp [hk]
      · simp [hj]
    · exact turnD_eq l n a y k
theorem turnW_eq (l : List Wr) (n : Int) (a : Nat) (y : Int) : (turnW l n a y).map (fun w => (w.1, w.2.size)) = l.map (fun w => (w.1, w.2.size)) := turnD_eq l n a y _
theorem turnW_len (l : List Wr) (n : Int) (a : Nat) (y : Int) : (turnW l n a y).length = l.length := by simpa using congrArg List.length (turnW_eq l n a y)
theorem turnW_mem {l : List Wr} {n : Int} {a : Nat} {y : Int} {w : Wr} (h : w ∈ turnW l n a y) : ∃ w' ∈ l, w'.1 = w.1 ∧ w'.2.size = w.2.size := by
  have : (w.1, w.2.size) ∈ (turnW l n a y).map (fun w => (w.1, w.2.size)) := List.mem_map.2 ⟨w, h, rfl⟩
  rw [turnW_eq] at this
  obtain ⟨w', h1, h2⟩ := List.mem_map.1 this
  exact ⟨w', h1, by simpa using congrArg Prod.fst h2, by simpa using congrArg Prod.snd h2⟩
theorem turn_slots (c : Ct) (n a : Nat) (y : Int) (h : ∀ s ∈ c.slots, s.size ≤ 64) : ∀ s ∈ (c.turn n a y).slots, s.size ≤ 64 := fun s hs => by
  rcases List.mem_or_eq_of_mem_set hs with h1 | h1
  · exact h s h1
  · rw [h1, turnB_size]
    by_cases hn : n < c.slots.length
    · rw [getD_lt hn]; exact h _ (List.getElem_mem hn)
    · rw [show c.slots.getD n ByteArray.empty = ByteArray.empty by simp [List.getD, List.getElem?_eq_none (Nat.le_of_not_lt hn)]]; exact Nat.zero_le _
theorem DM.good.rot {n a y : Int} (h : m.good kk N) : (m.rot n a y).good kk N := by
  unfold DM.rot
  split
  · have e : ((turnW m.waits n a.toNat y).map fun w => w.2.size) = m.waits.map fun w => w.2.size := by
      have := congrArg (List.map Prod.snd) (turnW_eq m.waits n a.toNat y)
      simpa [List.map_map, Function.comp_def] using this
    refine ⟨⟨h.fit.log, ?_, ?_, turn_slots _ _ _ _ h.fit.nowS, turn_slots _ _ _ _ h.fit.lastS, fun w hw hn => ?_, ?_⟩, ?_, ?_, fun w hw => ?_, h.left⟩
    · show m.lasts.log.size + ((turnW m.waits n a.toNat y).map fun w => w.2.size).sum ≤ N
      rw [e]; exact h.fit.tot
    · show (turnW m.waits n a.toNat y).length ≤ N
      rw [turnW_len]; exact h.fit.len
    · obtain ⟨w', h1, h2, h3⟩ := turnW_mem hw
      rw [← h3]; exact h.fit.waitS w' h1 (by rw [h2]; exact hn)
    · show (m.now.turn n.toNat a.toNat y).slots.length ≤ 4096
      simp [Ct.turn]; exact h.fit.slots
    · show (m.now.turn n.toNat a.toNat y).slots.length = kk
      simp [Ct.turn]; exact h.now
    · show (m.lasts.turn n.toNat a.toNat y).slots.length = kk
      simp [Ct.turn]; exact h.lasts
    · obtain ⟨w', h1, h2, h3⟩ := turnW_mem hw
      rw [← h2]; exact h.waits w' h1
  · exact h
theorem DM.good.doOp {o : DOp} (h : m.good kk N) (hn : o.N ≤ 9223372036854775807) : (m.doOp o).good kk (N + o.S.size + 1) := by
  unfold DM.doOp
  split
  · exact h.append
  · split
    · exact h.put
    · split
      · exact h.sync.more (by omega)
      · split
        · exact h.cut.more (by omega)
        · split
          · exact (h.fuse hn).more (by omega)
          · split
            · exact h.rot.more (by omega)
            · exact h.more (by omega)
def dsk (b : Nat) (m : DM) : LP := ⟨DiskI b m, .disk⟩
theorem Do_chain {o : DOp} {L : List LP} (hF : 100 ≤ F) (g : m.good kk N) (hN : N < F) (hN2 : N ≤ 1000000000) (ho : o.S.size ≤ 300) (hby : 0 ≤ o.By ∧ o.By ≤ 255) (hK : o.K ≠ 5) (hg : H0.has (0, 0) (rtv 28)) (h : Chain (dsk b m :: L) H0 H) {K : Int → SH → Prop}
    (k : ∀ x H', Chain (dsk b (m.doOp o) :: L) H0 H' → K x H') : ladinglaw14_Do.wp F (some (b, 0)) o.K o.N o.At o.By o.S o.P o.L H K := by
  intro b9 hb9
  obtain ⟨H2, h2, ht, hle⟩ := h.temp hb9 o.ao
  obtain ⟨H3, d1, c1⟩ := h2
  have d1 : On (DiskI b m) H3 (H.upd b9 o.ao) := d1
  have hg3 : H3.has (0, 0) (rtv 28) := hg.le (hle.trans c1.le)
  have fin : ∀ (m' : DM) x H', m.doOp o = m' → On (DiskI b m') H3 H' → K x H' := fun m' x H' e h' => k x H' (by rw [e]; exact Chain.below ⟨H3, h', c1⟩ hle)
  have code : ∀ (e : Option EV) (m' : DM) (H' : SH), m.doOp o = m' → On (DiskI b m') H3 H' → api_Code.wp F e H' (fun x H'' => ∃ Hr, SH.le Hr H'' ∧ K x Hr) := fun e m' H' em h' => CodeD (hg3.le h'.le) ⟨H', .refl _, fin m' _ H' em h'⟩
  unfold DM.doOp at fin code
  refine ⟨o.K, has_upd rfl, ?_⟩
  by_cases k0 : o.K = 0
  · simp only [k0, if_true] at fin code
    exact br_t k0 ⟨o.S, has_upd rfl, gAppend g (by omega) (by omega) d1 fun H' h' => code _ _ H' rfl h'⟩
  refine br_f k0 ?_
  by_cases k1 : o.K = 1
  · simp only [k1, if_true] at fin code
    exact br_t k1 ⟨o.N, has_upd rfl, o.S, has_upd rfl, Put_spec (by omega) g.fit g.left d1 fun H' h' => code _ _ H' (if_neg (by omega)) h'⟩
  refine br_f k1 ?_
  by_cases k2 : o.K = 2
  · exact br_t k2 (gSync g d1 fun H' h' => code _ _ H' (by simp [k2]) h')
  refine br_f k2 ?_
  by_cases k3 : o.K = 3
  · exact br_t k3 ⟨o.N, has_upd rfl, Cut_spec g.left (by have := g.fit.slots; omega) d1 fun H' h' => code _ _ H' (by simp [k3]) h'⟩
  refine br_f k3 ?_
  by_cases k4 : o.K = 4
  · exact br_t k4 ⟨o.N, has_upd rfl, Fuse_spec d1 fun H' h' => ⟨H', .refl _, fin _ _ H' (by simp [k4]) h'⟩⟩
  refine br_f k4 (br_f hK ?_)
  by_cases k6 : o.K = 6
  · refine br_t k6 ⟨o.N, has_upd rfl, o.At, has_upd rfl, o.By, has_upd rfl, Rot_spec (by omega) hby (by rw [g.lasts, g.now]) (by have := g.fit.len; omega) (by have := g.fit.len; omega) d1 fun H' h' => ?_⟩
    exact ⟨fun _ => ⟨H', .refl _, fin _ _ H' (by simp [k6]) h'⟩, fun _ => ⟨H', .refl _, fin _ _ H' (by simp [k6]) h'⟩⟩
  · exact br_f k6 ⟨_, .refl _, fin _ _ _ (by simp [k0, k1, k2, k3, k4, k6]) d1⟩
end
open Go.RowKit Go.ChangeShapes Go.WideShapes Go.ChangeAt Go.Deep in
set_option maxRecDepth 100000 in
/-- '[]Op' as an argument. -/
theorem arg_ops {H : Type} {enc : TypeId × Value → H} {W : World} {base : Nat} {v : Value} {d : DataW H} {p : List MemPlace} (hval : Value.okWide Tryd.prog W .any base 38 v) (hd : DataW.Trod enc Tryd.prog W 0 (fun _ => true) true 38 v d p) :
    ∃ (l : Sl) (ops : List DOp), v = sv l ∧ l.len = ops.length ∧ l.len ≤ l.cap ∧ (SH.of W).row l.a (opc ops) ∧ ∀ o ∈ ops, (0 ≤ o.By ∧ o.By ≤ 255) ∧ -9223372036854775808 ≤ o.N ∧ o.N ≤ 9223372036854775807 := by
  obtain ⟨l, V, n, rfl, hl, hr, hx⟩ := arg_rowsG (c := 7) Tryd.underlying38 (by kernel_rfl) hval hd
  have each : ∀ i, i < l.len → ∃ o : DOp, (List.range 7).map (fun j => V (i * 7 + j)) = o.cells ∧ (0 ≤ o.By ∧ o.By ≤ 255) ∧ -9223372036854775808 ≤ o.N ∧ o.N ≤ 9223372036854775807 := fun i hi => by
    obtain ⟨y, hy⟩ := hx i hi
    obtain ⟨xs, n', _, _, _, hxl, hf⟩ := DataW.trod_struct Tryd.underlying41 hy
    have e : (List.range 7).map (fun j => V (i * 7 + j)) = [V (i * 7), V (i * 7 + 1), V (i * 7 + 2), V (i * 7 + 3), V (i * 7 + 4), V (i * 7 + 5), V (i * 7 + 6)] := rfl
    rw [e] at hf ⊢
    have hl6 : xs.length = 6 := hxl
    have g0 := hf 0 _ rfl
    have g1 := hf 1 _ rfl
    have g2 := hf 2 _ rfl
    have g3 := hf 3 _ rfl
    have g4 := hf 4 _ rfl
    have g5 := hf 5 _ rfl
    rw [List.getElem?_eq_getElem (by omega)] at g0 g1 g2 g3 g4 g5
    have g0' : DataW.trod enc Tryd.prog W 0 (fun _ => true) true n' 3 [V (i * 7)] = some xs[0] := g0
    have g1' : DataW.trod enc Tryd.prog W 0 (fun _ => true) true n' 3 [V (i * 7 + 1)] = some xs[1] := g1
    have g2' : DataW.trod enc Tryd.prog W 0 (fun _ => true) true n' 3 [V (i * 7 + 2)] = some xs[2] := g2
    have g3' : DataW.trod enc Tryd.prog W 0 (fun _ => true) true n' 5 [V (i * 7 + 3)] = some xs[3] := g3
    have g4' : DataW.trod enc Tryd.prog W 0 (fun _ => true) true n' 9 [V (i * 7 + 4)] = some xs[4] := g4
    have g5' : DataW.trod enc Tryd.prog W 0 (fun _ => true) true n' 36 [V (i * 7 + 5), V (i * 7 + 6)] = some xs[5] := g5
    obtain ⟨a0, h0, _, w0⟩ := DataW.trod_int Tryd.underlying3 g0'
    obtain ⟨a1, h1, _, w1⟩ := DataW.trod_int Tryd.underlying3 g1'
    obtain ⟨a2, h2, _, w2⟩ := DataW.trod_int Tryd.underlying3 g2'
    obtain ⟨a3, h3, _, w3⟩ := DataW.trod_int Tryd.underlying5 g3'
    obtain ⟨s, h4, _, _⟩ := DataW.trod_string Tryd.underlying9 g4'
    obtain ⟨ys, n2, _, _, _, hyl, hf2⟩ := DataW.trod_struct Tryd.underlying36 g5'
    have hy2 : ys.length = 2 := hyl
    have q0 := hf2 0 _ rfl
    have q1 := hf2 1 _ rfl
    rw [List.getElem?_eq_getElem (by omega)] at q0 q1
    have q0' : DataW.trod enc Tryd.prog W 0 (fun _ => true) true n2 22 [V (i * 7 + 5)] = some ys[0] := q0
    have q1' : DataW.trod enc Tryd.prog W 0 (fun _ => true) true n2 3 [V (i * 7 + 6)] = some ys[1] := q1
    obtain ⟨a6, h6, _, _⟩ := DataW.trod_int Tryd.underlying3 q1'
    obtain ⟨w, hw⟩ : ∃ w : SlW, [V (i * 7 + 5)] = [swv w] := by
      rcases open_slice Tryd.underlying22 q0' with ⟨h1, _⟩ | ⟨a', len', cap', m, n, D, Pl, h1, _⟩
      · exact ⟨⟨none, 0, 0⟩, h1⟩
      · exact ⟨⟨some a', len', cap'⟩, h1⟩
    simp only [List.cons.injEq, and_true] at h0 h1 h2 h3 h4 h6 hw
    exact ⟨⟨a0, a1, a2, a3, s, w, a6⟩, by rw [h0, h1, h2, h3, h4, h6, hw]; rfl, lit_range w3, lit_range w1⟩
  obtain ⟨f, hf⟩ := choose_lt each
  refine ⟨l, (List.range l.len).map f, rfl, by simp, hl, ?_, fun o ho => ?_⟩
  · have e : opc ((List.range l.len).map f) = cellsF (l.len * 7) V := by
      have : ∀ m, m ≤ l.len → opc ((List.range m).map f) = cellsF (m * 7) V := by
        intro m
        induction m with
        | zero => intro _; rfl
        | succ m ih =>
          intro hm
          unfold opc at ih ⊢
          rw [List.range_succ, List.map_append, List.flatMap_append, ih (by omega)]
          have g1 := (hf m (by omega)).1
          simp only [List.map_cons, List.map_nil, List.flatMap_cons, List.flatMap_nil, List.append_nil, ← g1]
          have e7 : (List.range 7).map (fun j => V (m * 7 + j)) = [V (m * 7), V (m * 7 + 1), V (m * 7 + 2), V (m * 7 + 3), V (m * 7 + 4), V (m * 7 + 5), V (m * 7 + 6)] := rfl
          rw [e7]
          simp only [cellsF, show (m + 1) * 7 = m * 7 + 1 + 1 + 1 + 1 + 1 + 1 + 1 by omega, List.range_succ, List.map_append, List.map_cons, List.map_nil]
          simp
      exact this _ (Nat.le_refl _)
    rw [e]; exact hr
  · obtain ⟨i, hi, rfl⟩ := List.mem_map.1 ho
    exact (hf i (List.mem_range.1 hi)).2
end Go.Proofs.YtknhlipealekoaaDoor.K
