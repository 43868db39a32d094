/- The law DiskKeeps: what it comes to. -/
import Derived.Test.YtknhlipealekoaaDoorLawOps
import Derived.Test.YtknhlipealekoaaDoorGladinglaw14DiskKeeps
set_option linter.unusedVariables false
set_option linter.unusedSimpArgs false
namespace Go.Proofs.YtknhlipealekoaaDoor.K
open Go

/-! ### what waits, behind what lasts, is what is -/
def Ct.sim (n : Nat) (c c' : Ct) : Prop := c.log = c'.log ∧ ∀ z, c.slots.set n z = c'.slots.set n z
theorem sim_put {n : Nat} {c c' : Ct} (h : c.sim n c') (w : Wr) : (c.put w).sim n (c'.put w) := by
  unfold Ct.put
  split
  · exact ⟨by show c.log ++ _ = c'.log ++ _; rw [h.1], h.2⟩
  · refine ⟨h.1, fun z => ?_⟩
    show (c.slots.set _ _).set n z = (c'.slots.set _ _).set n z
    by_cases hk : w.1.toNat = n
    · rw [hk, List.set_set, List.set_set]; exact h.2 z
    · rw [List.set_comm _ _ hk, List.set_comm _ _ hk, h.2 z]
theorem sim_fold {n : Nat} : ∀ (ws : List Wr) {c c' : Ct}, c.sim n c' → (ws.foldl Ct.put c).sim n (ws.foldl Ct.put c')
  | [], _, _, h => h
  | w :: ws, _, _, h => sim_fold ws (sim_put h w)
theorem sim_turn (c : Ct) (n a : Nat) (y : Int) : (c.turn n a y).sim n c := ⟨rfl, fun z => List.set_set ..⟩
theorem put_len (c : Ct) (w : Wr) : (c.put w).slots.length = c.slots.length := by unfold Ct.put; split <;> simp
theorem fold_len : ∀ (ws : List Wr) (c : Ct), (ws.foldl Ct.put c).slots.length = c.slots.length
  | [], _ => rfl
  | w :: ws, c => by show (ws.foldl Ct.put (c.put w)).slots.length = _; rw [fold_len ws, put_len]
theorem turnD_app (ws r : List Wr) (n : Int) (a : Nat) (y : Int) : ∀ k, k ≤ ws.length → turnD (ws ++ r) n a y k = turnD ws n a y k ++ r
  | 0, _ => rfl
  | k + 1, h => by
    unfold turnD
    have hk : k < ws.length := h
    rw [getD_lt (show k < (ws ++ r).length by rw [List.length_append]; omega), getD_lt hk, List.getElem_append_left hk]
    split
    · rw [List.set_append_left _ _ hk]
    · exact turnD_app ws r n a y k (by omega)
theorem fold_turn (c : Ct) {n : Nat} (a : Nat) (y : Int) (hn : n < c.slots.length) : ∀ (k : Nat) (ws : List Wr), ws.length = k → (∀ w ∈ ws, w.1 = -1 ∨ 0 ≤ w.1) → (turnW ws n a y).foldl Ct.put (c.turn n a y) = (ws.foldl Ct.put c).turn n a y
  | 0, ws, h, _ => by rw [List.eq_nil_of_length_eq_zero h]; rfl
  | k + 1, ws, h, hw => by
    have hne : ws ≠ [] := fun h0 => by rw [h0] at h; cases h
    obtain ⟨r, w, rfl⟩ : ∃ r w, ws = r ++ [w] := ⟨_, _, (List.dropLast_concat_getLast hne).symm⟩
    have hr : r.length = k := by simpa using h
    have ih := fold_turn c a y hn k r hr fun w' hw' => hw w' (by simp [hw'])
    have hww := hw w (by simp)
    unfold turnW at ih ⊢
    rw [List.length_append, List.length_singleton]
    unfold turnD
    rw [getD_lt (show r.length < (r ++ [w]).length by simp), List.getElem_concat_length rfl]
    by_cases c1 : w.1 = (n : Int)
    · rw [if_pos c1, List.set_append_right _ _ (Nat.le_refl _), Nat.sub_self, List.set_cons_zero, List.foldl_append, List.foldl_append]
      have hs := sim_fold r (sim_turn c n a y)
      have hl := fold_len r c
      generalize r.foldl Ct.put (c.turn n a y) = d at *
      generalize r.foldl Ct.put c = e at *
      show d.put ((n : Int), turnB w.2 a y) = (e.put w).turn n a y
      have p1 : d.put ((n : Int), turnB w.2 a y) = ⟨d.log, d.slots.set n (turnB w.2 a y)⟩ := if_neg (show ¬ (n : Int) = -1 by omega)
      have p2 : e.put w = ⟨e.log, e.slots.set n w.2⟩ := by
        unfold Ct.put
        rw [if_neg (by rw [c1]; omega), c1]; rfl
      rw [p1, p2]
      unfold Ct.turn
      simp only [List.set_set]
      rw [getD_lt (show n < (e.slots.set n w.2).length by rw [List.length_set]; omega), List.getElem_set_self, hs.1, hs.2]
    · rw [if_neg c1, turnD_app r [w] n a y _ (Nat.le_refl _), List.foldl_append, List.foldl_append, ih]
      have hl := fold_len r c
      generalize r.foldl Ct.put c = e at *
      show (e.turn n a y).put w = (e.put w).turn n a y
      unfold Ct.put
      split
      · rfl
      · have hne : w.1.toNat ≠ n := by omega
        unfold Ct.turn
        simp only []
        rw [List.set_comm _ _ hne]
        congr 2
        simp [List.getD, List.getElem?_set_ne hne]
theorem crash_all : ∀ (ws : List Wr) (k : Nat) (c : Ct), ws.length ≤ k → crashC 0 ((List.replicate k true).zip ws) ByteArray.empty c = ws.foldl Ct.put c
  | [], k, c, _ => by rw [List.zip_nil_right]; rfl
  | w :: ws, 0, c, h => by simp at h
  | w :: ws, k + 1, c, h => by
    rw [List.replicate_succ, List.zip_cons_cons]
    unfold crashC
    have ht : c.torn w 0 = w := by
      unfold Ct.torn
      simp only [show (max (0 : Int) 0).toNat = 0 from rfl, Nat.zero_min, Nat.sub_zero, Nat.lt_irrefl, and_false, if_false]
      rw [show w.2.extract 0 w.2.size = w.2 from bs_inj (by rw [bs_extract, ← bs_len]; simp)]
    simp only [ht, ite_self, emp_app]
    exact crash_all ws k (c.put w) (by simpa using h)
/-- The state behind i calls. -/
structure Kp (i : Nat) (m : DM) : Prop where
  good : m.good 4 (5000 + 400 * i)
  down : m.down = false
  left : m.left = -1
  fold : m.now = m.waits.foldl Ct.put m.lasts
  len : m.waits.length ≤ i
theorem does_free {m : DM} {w : Wr} (hl : m.left = -1) : m.does w = m.lies w := by
  unfold DM.does DM.burn
  simp [hl]
theorem Kp.more {i : Nat} {m : DM} (h : Kp i m) : Kp (i + 1) m := ⟨h.good.more (by omega), h.down, h.left, h.fold, by have := h.len; omega⟩
theorem Kp.lies {i : Nat} {m : DM} {w : Wr} (h : Kp i m) (g : (m.lies w).good 4 (5000 + 400 * (i + 1))) : Kp (i + 1) (m.lies w) := by
  by_cases c : w.1 = -1 ∧ w.2.size = 0
  · have e : m.lies w = m := if_pos c
    rw [e]; exact h.more
  · have e : m.lies w = { m with now := m.now.put w, waits := m.waits ++ [w] } := if_neg c
    rw [e] at g ⊢
    refine ⟨g, h.down, h.left, ?_, ?_⟩
    · show m.now.put w = (m.waits ++ [w]).foldl Ct.put m.lasts
      rw [List.foldl_append, ← h.fold]; rfl
    · show (m.waits ++ [w]).length ≤ _
      rw [List.length_append]; have := h.len; simp; omega
theorem Kp.step {i : Nat} {m : DM} {o : DOp} (h : Kp i m) (hs : o.S.size ≤ 300) (hn : o.N ≤ 9223372036854775807) (hK : o.K < 4 ∨ o.K = 6) : Kp (i + 1) (m.doOp o) := by
  have g := (h.good.doOp (o := o) hn).more (N' := 5000 + 400 * (i + 1)) (by omega)
  unfold DM.doOp at g ⊢
  split at g
  · rename_i k0
    rw [if_pos k0]
    have e : m.append o.S = m.lies (-1, o.S) := by unfold DM.append; rw [h.down]; exact does_free h.left
    rw [e] at g ⊢
    exact h.lies g
  rename_i k0
  rw [if_neg k0]
  split at g
  · rename_i k1
    rw [if_pos k1]
    unfold DM.put at g ⊢
    split at g
    · rename_i c; rw [if_pos c]; exact h.more
    · rename_i c
      rw [if_neg c]
      rw [does_free h.left] at g ⊢
      exact h.lies g
  rename_i k1
  rw [if_neg k1]
  split at g
  · rename_i k2
    rw [if_pos k2]
    rw [sync_free h.down h.left] at g ⊢
    exact ⟨g, h.down, h.left, rfl, Nat.zero_le _⟩
  rename_i k2
  rw [if_neg k2]
  split at g
  · rename_i k3
    rw [if_pos k3]
    unfold DM.cut at g ⊢
    rw [if_neg (by rw [h.down]; simp)] at g ⊢
    split at g
    · rename_i c; rw [if_pos c]; exact h.more
    · rename_i c
      rw [if_neg c]
      have hl : ¬ m.left = 0 := by rw [h.left]; decide
      rw [if_neg hl] at g ⊢
      have hb : m.burn = m := by unfold DM.burn; simp [h.left]
      rw [hb] at g ⊢
      exact ⟨g, h.down, h.left, rfl, Nat.zero_le _⟩
  rename_i k3
  rw [if_neg k3]
  split at g
  · omega
  rename_i k4
  rw [if_neg k4]
  split at g
  · rename_i k6
    rw [if_pos k6]
    unfold DM.rot at g ⊢
    split at g
    · rename_i c
      rw [if_pos c]
      have c := of_decide_eq_true c
      refine ⟨g, h.down, h.left, ?_, by show (turnW _ _ _ _).length ≤ _; rw [turnW_len]; have := h.len; omega⟩
      show m.now.turn o.N.toNat o.At.toNat o.By = (turnW m.waits o.N o.At.toNat o.By).foldl Ct.put (m.lasts.turn o.N.toNat o.At.toNat o.By)
      obtain ⟨n, hN⟩ := Int.eq_ofNat_of_zero_le c.1
      have h1 := c.2.1
      have h2 := h.good.now
      have h3 := h.good.lasts
      rw [hN] at h1 ⊢
      rw [Int.toNat_natCast, fold_turn m.lasts o.At.toNat o.By (by omega) _ m.waits rfl (fun w hw => by have := h.good.waits w hw; omega), ← h.fold]
    · rename_i c; rw [if_neg c]; exact h.more
  · rename_i k6; rw [if_neg k6]; exact h.more
section
variable {F : Nat} {a b : Nat} {m : DM} {H0 H : SH}
def trueO (i : Nat) : AO := ⟨cellsF 200 fun j => .bool (decide (j < i)), 4, false, 200⟩
theorem trues_map (n i : Nat) (h : n ≤ i) : ((List.replicate n true).map fun x => Value.bool x) = cellsF n fun j => .bool (decide (j < i)) := by
  refine cellsF_ext (by simp) fun q hq => ?_
  have : decide (q < i) = true := decide_eq_true (by omega)
  simp [hq, this]
def trues (b i : Nat) : LP := ⟨Blk b (trueO i), .blk⟩
theorem Keeps_end {b99 i : Nat} (hF : 100000 ≤ F) (hm : Kp i m) (hi : i ≤ 100) {K : Bool → SH → Prop} (k : ∀ H', K true H') :
    ∀ (j i f : Nat) (H : SH), 200 - i = j → i ≤ 200 → j < f → Chain [trues b99 i, dsk a m, dsk b m] H0 H → ladinglaw14_DiskKeeps.l2 F K f (some (a, 0)) (some (b, 0)) ⟨some (b99, 0), 200, 200⟩ 200 (i : Int) H := by
  intro j
  induction j with
  | zero =>
    intro i' f H hj hi' hf c
    obtain ⟨f, rfl⟩ : ∃ i, f = i + 1 := ⟨f - 1, by omega⟩
    have h200 : i' = 200 := by omega
    subst h200
    obtain ⟨H1, d1, c1⟩ := Chain.pull [trues b99 200] c
    have d1 : On (DiskI a m) H1 H := d1
    obtain ⟨H2, t1, c2⟩ := c1
    have t1 : On (Blk b99 (trueO 200)) H2 H1 := t1
    obtain ⟨H3, d2, c3⟩ := c2
    have d2 : On (DiskI b m) H3 H2 := d2
    have g := hm.good
    have hks : ((List.replicate 200 true).map fun x => Value.bool x) = (trueO 200).cells := trues_map 200 200 (Nat.le_refl _)
    have hrow : H1.row (⟨some (b99, 0), 200, 200⟩ : Sl).a ((List.replicate 200 true).map fun x => Value.bool x) := by
      rw [hks]; exact rowN (On.blk.1 t1).2.2 fun q u hu => by rw [Nat.zero_add]; exact hu
    refine br_f (by omega) (gCrash (ks := List.replicate 200 true) g (by omega) List.length_replicate.symm (Nat.le_refl _) (by rw [List.length_replicate]; omega) hrow d1 fun H4 h4 => ?_)
    have ec : m.crash (List.replicate 200 true) 0 = ⟨-1, false, m.now, m.now, []⟩ := by
      unfold DM.crash
      simp only []
      rw [crash_all m.waits 200 m.lasts (by have := hm.len; omega), ← hm.fold]
    have gc := g.crash (ks := List.replicate 200 true) (lack := 0)
    rw [ec] at h4 gc
    have d3 : On (DiskI b m) H3 H4 := d2.above .disk (t1.le.trans h4.le)
    have hsl : m.now.slots.length = 4 := g.now
    refine Same_spec (by rw [gc.now]; omega) (by rw [gc.now]; omega) h4 d3 ?_
    have e1 : (⟨-1, false, m.now, m.now, []⟩ : DM).same m = true := decide_eq_true ⟨rfl, rfl⟩
    rw [e1]
    refine br_t rfl (Waits_spec h4 (br_f (by simp) (gCrash (ks := []) gc (by omega) rfl (Nat.le_refl _) (by simp; omega) (.inl rfl) h4 fun H5 h5 => ?_)))
    rw [crash_none] at h5
    have d4 : On (DiskI b m) H3 H5 := d2.above .disk (t1.le.trans h5.le)
    refine Same_spec (by simp only []; omega) (by simp only []; omega) h5 d4 ?_
    have e2 : (⟨-1, false, (⟨-1, false, m.now, m.now, []⟩ : DM).lasts, (⟨-1, false, m.now, m.now, []⟩ : DM).lasts, []⟩ : DM).same m = true := decide_eq_true ⟨rfl, rfl⟩
    rw [e2]
    exact br_t rfl (Down_spec h5 ⟨H5, .refl _, k _⟩)
  | succ j ih =>
    intro i f H hj hi' hf c
    obtain ⟨f, rfl⟩ : ∃ i, f = i + 1 := ⟨f - 1, by omega⟩
    obtain ⟨H1, t1, c1⟩ := c
    have t1 : On (Blk b99 (trueO i)) H1 H := t1
    have hlt : i < 200 := by omega
    refine br_t (by omega) ⟨(b99, 0), rfl, by omega, by show (i : Int) < ((200 : Nat) : Int); omega, t1.wrs rfl ?_, ?_⟩
    · show 0 + (i : Int).toNat * 1 + 1 ≤ (cellsF 200 _).length
      rw [cellsF_len]; omega
    have t2 := On.setl (k := 0 + (i : Int).toNat * 1) (vs := [.bool true]) t1
    rw [w64_id (by omega), show (i : Int) + 1 = ((i + 1 : Nat) : Int) by omega]
    refine ih (i + 1) f _ (by omega) (by omega) (by omega) ⟨H1, ?_, c1⟩
    have e : ({ trueO i with cells := wrl (trueO i).cells (0 + (i : Int).toNat * 1) [.bool true] } : AO) = trueO (i + 1) := by
      unfold trueO
      simp only [Int.toNat_natCast, Nat.mul_one, Nat.zero_add]
      congr 1
      rw [wrl_cellsF hlt]
      refine cellsF_congr fun q hq => ?_
      by_cases h : q = i
      · rw [if_pos h, h]; simp
      · rw [if_neg h]
        have : decide (q < i) = decide (q < i + 1) := decide_eq_decide.2 (by omega)
        rw [this]
    rw [e] at t2
    exact t2
theorem Keeps_loop {l : Sl} {ops : List DOp} (hF : 100000 ≤ F) (hl : l.len = ops.length) (hr : H0.row l.a (opc ops)) (h100 : ops.length ≤ 100) (h300 : ∀ o ∈ ops, o.S.size ≤ 300) (hby : ∀ o ∈ ops, (0 ≤ o.By ∧ o.By ≤ 255) ∧ -9223372036854775808 ≤ o.N ∧ o.N ≤ 9223372036854775807)
    (hg : H0.has (0, 0) (rtv 28)) {K : Bool → SH → Prop} (k : ∀ H', K true H') :
    ∀ (j i f : Nat) (m : DM) (H : SH), ops.length - i = j → i ≤ ops.length → j < f → Kp i m → Chain [dsk a m, dsk b m] H0 H → ladinglaw14_DiskKeeps.l1 F K f (some (a, 0)) (some (b, 0)) l (ops.length : Int) (i : Int) H := by
  intro j
  induction j with
  | zero =>
    intro i f m H hj hi hf hm c
    obtain ⟨f, rfl⟩ : ∃ i, f = i + 1 := ⟨f - 1, by omega⟩
    have c0 := c
    obtain ⟨H1, d1, c1⟩ := c
    have d1 : On (DiskI a m) H1 H := d1
    obtain ⟨H2, d2, _⟩ := c1
    have d2 : On (DiskI b m) H2 H1 := d2
    have d3 : On (DiskI b m) H2 H := d2.above .disk d1.le
    have hsl : m.now.slots.length = 4 := hm.good.now
    refine br_f (by omega) (Same_spec (by omega) (by omega) d1 d3 ?_)
    have e1 : m.same m = true := decide_eq_true ⟨rfl, rfl⟩
    rw [e1]
    refine br_t rfl (Waits_spec d1 (Waits_spec d3 (br_f (by simp) ⟨by omega, by decide, fun b99 hb99 => ?_⟩)))
    have e2 : (⟨(Builtin.zeroCells (Value.cells (.bool false : Value)) (200 : Int).toNat).toList, 4, false, (200 : Int).toNat * 1⟩ : AO) = trueO 0 := by
      rw [zeroCells_cells _ _ rfl]; rfl
    rw [e2]
    have c3 := Chain.new c0 hb99 (trueO 0)
    exact Keeps_end hF hm (by omega) k 200 0 F _ (by omega) (by omega) (by omega) c3
  | succ j ih =>
    intro i f m H hj hi hf hm c
    obtain ⟨f, rfl⟩ : ∃ i, f = i + 1 := ⟨f - 1, by omega⟩
    have hlt : i < ops.length := by omega
    have hmem := List.getElem_mem hlt
    have hs := h300 _ hmem
    have hb := hby _ hmem
    have next : ∀ (m' : DM) (H' : SH), Kp (i + 1) m' → Chain [dsk a m', dsk b m'] H0 H' → ladinglaw14_DiskKeeps.j2 F K (ladinglaw14_DiskKeeps.l1 F K f) (some (a, 0)) (some (b, 0)) l (ops.length : Int) (i : Int) H' := fun m' H' hm' c' => by
      show ladinglaw14_DiskKeeps.l1 F K f (some (a, 0)) (some (b, 0)) l (ops.length : Int) (w64 ((i : Int) + 1)) H'
      rw [w64_id (by omega), show (i : Int) + 1 = ((i + 1 : Nat) : Int) by omega]
      exact ih (i + 1) f m' H' (by omega) (by omega) (by omega) hm' c'
    refine br_t (by omega) (op_step hl (hr.le c.le) hlt fun b30 hb30 => ?_)
    have e := op_set (H := H) (b := b30) (o := ops[i])
    unfold opZ at e
    rw [e]
    generalize ops[i] = o at *
    obtain ⟨H2, c2, ht, hle⟩ := c.temp hb30 o.ao
    have hg2 := hg.le hle
    have both : (o.K < 4 ∨ o.K = 6) → ∃ (x36 : Int) (x37 : Int) (x38 : Int) (x39 : Int) (s40 : ByteArray) (l41 : SlW) (x42 : Int),
        SH.row (SH.upd H b30 o.ao) (some (b30, 0)) [.int .i64 x36, .int .i64 x37, .int .i64 x38, .int .u8 x39, .string s40, swv l41, .int .i64 x42] ∧
        ladinglaw14_Do.wp F (some (a, 0)) x36 x37 x38 x39 s40 l41 x42 (SH.upd H b30 o.ao) (fun x44 H45 =>
          ∃ (x46 : Int) (x47 : Int) (x48 : Int) (x49 : Int) (s50 : ByteArray) (l51 : SlW) (x52 : Int),
          SH.row H45 (some (b30, 0)) [.int .i64 x46, .int .i64 x47, .int .i64 x48, .int .u8 x49, .string s50, swv l51, .int .i64 x52] ∧
          ladinglaw14_Do.wp F (some (b, 0)) x46 x47 x48 x49 s50 l51 x52 H45 (fun x54 H55 =>
            ladinglaw14_DiskKeeps.j2 F K (ladinglaw14_DiskKeeps.l1 F K f) (some (a, 0)) (some (b, 0)) l (ops.length : Int) (i : Int) H55)) := fun hK => by
      refine ⟨o.K, o.N, o.At, o.By, o.S, o.P, o.L, op_row (SH.upd_same _ _ _), ?_⟩
      refine Do_chain (L := [dsk b m]) (by omega) hm.good (by omega) (by omega) hs hb.1 (by omega) hg2 c2 fun x H3 c3 => ?_
      refine ⟨o.K, o.N, o.At, o.By, o.S, o.P, o.L, op_row (c3.le _ _ ht), ?_⟩
      refine Do_chain (L := [dsk a (m.doOp o)]) (by omega) hm.good (by omega) (by omega) hs hb.1 (by omega) hg2 (Chain.pull [dsk a (m.doOp o)] c3) fun x H4 c4 => ?_
      have c5 := Chain.pull [dsk b (m.doOp o)] c4
      exact next _ H4 (hm.step hs hb.2.2 hK) (Chain.below c5 hle)
    refine ⟨o.K, has_upd rfl, ?_⟩
    by_cases k4 : o.K < 4
    · exact br_t k4 (both (.inl k4))
    · refine br_f k4 ⟨o.K, has_upd rfl, ?_⟩
      by_cases k6 : o.K = 6
      · exact br_t k6 (both (.inr k6))
      · exact br_f k6 (next m _ hm.more (Chain.below c2 hle))
theorem DiskKeeps_wp {l : Sl} {ops : List DOp} (hF : 100000 ≤ F) (hl : l.len = ops.length) (hr : H.row l.a (opc ops)) (hby : ∀ o ∈ ops, (0 ≤ o.By ∧ o.By ≤ 255) ∧ -9223372036854775808 ≤ o.N ∧ o.N ≤ 9223372036854775807) (hg : H.has (0, 0) (rtv 28)) : ladinglaw14_DiskKeeps.wp F l H (fun b _ => b = true) := by
  refine awake14_spec (by omega) fun H1 hle => br_t rfl (Great14_spec (by omega) hl (hr.le hle) (fun H' => br_t rfl ⟨H', .refl _, rfl⟩) fun h100 h300 => br_f (by simp) ?_)
  refine New_spec (n := 4) (by decide) fun a H2 h2 ha => New_spec (n := 4) (by decide) fun b H3 h3 hb => ?_
  have c : Chain [dsk b (DM.new 4), dsk a (DM.new 4)] H1 H3 := ⟨H2, h3, H1, h2, .refl _⟩
  have c2 := Chain.pull [dsk b (DM.new 4)] c
  rw [hl]
  exact Keeps_loop hF hl (hr.le hle) h100 h300 hby (hg.le hle) (K := fun b _ => b = true) (fun _ => rfl) ops.length 0 F (DM.new 4) H3 (by omega) (by omega) (by omega) ⟨(good_new (by omega)).more (by omega), rfl, rfl, rfl, Nat.le_refl _⟩ c2
end
set_option maxRecDepth 100000 in
open Go.RowKit Go.ChangeShapes Go.WideShapes Go.ChangeAt Go.Deep in
theorem DiskKeeps_walk {X : Prop} {H : Type} {enc : TypeId × Value → H} (W : World) (args : Array Value) (ds : List (DataW H)) (p : List MemPlace) (base : Nat)
    (hval : ∀ (j : Nat) t v, Tryd.f5.params[j]? = some t → args[j]? = some v → Value.okWide Tryd.prog W .any base t v) (hA : DataW.TrodAll enc Tryd.prog W 0 (fun _ => true) true Tryd.f5.params.toList args.toList ds p) (hfz : X)
    (hg : W.cell? ⟨0, 0, none⟩ = some (rtv 28)) :
    (∃ d, ds = [d]) ∧ Calls Tryd.prog 5 args W fun e w' => e = .returned (.bool true) ∧ RowKit.Below W.heap.size W w' := by
  rw [Tryd.params5] at hA hval
  obtain ⟨v0, vs0, d0, ds0, p0, q0, hargs, rfl, rfl, h0, r0⟩ := trodAll_cons hA
  obtain ⟨rfl, rfl, rfl⟩ := trodAll_nil r0
  obtain rfl : args = #[v0] := by cases args; simp_all
  obtain ⟨l, ops, rfl, hl, _, hr, hx⟩ := arg_ops (hval 0 38 v0 rfl rfl) h0
  refine ⟨⟨_, rfl⟩, ?_⟩
  have h := ladinglaw14_DiskKeeps.sound 100000 l (SH.of W) _ (DiskKeeps_wp (by omega) hl hr hx (SH.of_cell (p := (0, 0)) hg)) W (SH.of_sat W)
  refine h.mono ?_
  rintro e w' ⟨v, H', rfl, st, q, rfl, rfl⟩
  exact ⟨rfl, st.below fun b o hb => SH.of_ro hb⟩
end Go.Proofs.YtknhlipealekoaaDoor.K
