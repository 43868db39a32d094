/- What a crash leaves of a journal's log, in plain Lean. -/
import Derived.Test.YtknhlipealekoaaDoorLawJournal2
set_option linter.unusedVariables false
set_option linter.unusedSimpArgs false
namespace Go.Proofs.YtknhlipealekoaaDoor.K
open Go
theorem crash_preJ (lack : Int) : ∀ (l : List (Bool × Wr)) (gap : ByteArray) (c : Ct), ∃ t, (crashC lack l gap c).log = c.log ++ t
  | [], _, c => ⟨ByteArray.empty, bs_inj (by rw [bs_append, bs_empty, List.append_nil]; rfl)⟩
  | (false, w) :: r, gap, c => crash_preJ lack r _ c
  | (true, w) :: r, gap, c => by
    unfold crashC
    simp only []
    generalize (if r.any (·.1) then w else c.torn w lack) = w'
    split
    · rename_i h
      obtain ⟨t, ht⟩ := crash_preJ lack r ByteArray.empty (c.put (w'.1, gap ++ w'.2))
      have e : c.put (w'.1, gap ++ w'.2) = ⟨c.log ++ (gap ++ w'.2), c.slots⟩ := if_pos h
      rw [e] at ht ⊢
      exact ⟨gap ++ w'.2 ++ t, by rw [ht]; apply bs_inj; simp [bs_append]⟩
    · rename_i h
      obtain ⟨t, ht⟩ := crash_preJ lack r gap (c.put w')
      have e : c.put w' = ⟨c.log, c.slots.set w'.1.toNat w'.2⟩ := if_neg h
      rw [e] at ht ⊢
      exact ⟨t, ht⟩
theorem crash_gaps (lack : Int) : ∀ (l : List (Bool × Wr)) (gap : ByteArray) (c : Ct), l.any (·.1) = false → crashC lack l gap c = c
  | [], _, _, _ => rfl
  | (false, w) :: r, gap, c, h => crash_gaps lack r _ c (by simpa using h)
  | (true, w) :: r, gap, c, h => by simp at h
def Zs (R : List UInt8) : Prop := R = [] ∨ ∃ r, R = List.replicate 6 0 ++ r
theorem sum00 : sumV [0, 0] ≠ 0 := by decide
theorem Zs.next {R : List UInt8} (h : Zs R) : ∃ c, nextL R = .no c := by
  rcases h with rfl | ⟨r, rfl⟩
  · exact ⟨3, nextL_nil⟩
  · refine ⟨5, ?_⟩
    have e : List.replicate 6 (0 : UInt8) ++ r = 0 :: 0 :: 0 :: 0 :: 0 :: 0 :: r := rfl
    rw [e]
    unfold nextL
    have e1 : ((0 :: 0 :: 0 :: 0 :: 0 :: 0 :: r : List UInt8).drop 4).take 2 = [0, 0] := rfl
    have e2 : fixV [0, 0] = 0 := rfl
    have e3 : ((0 :: 0 :: 0 :: 0 :: 0 :: 0 :: r : List UInt8).drop 4).take (2 + 0) = [0, 0] := rfl
    have e4 : fixV ((0 :: 0 :: 0 :: 0 :: 0 :: 0 :: r : List UInt8).take 4) = 0 := rfl
    rw [if_neg (by simp), e1, e2, if_neg (by omega), if_neg (by omega), e3, e4, if_pos sum00]
theorem zeroB_app (a b : Nat) : zeroB a ++ zeroB b = zeroB (a + b) := bs_inj (by rw [bs_append]; unfold zeroB; rw [bs_ofL, bs_ofL, bs_ofL, List.replicate_append_replicate])
theorem crash_gap (lack : Int) : ∀ (l : List (Bool × Wr)) (n : Nat) (c : Ct), (∀ x ∈ l, x.2.1 = -1) → 6 ≤ n → ∃ R, bs (crashC lack l (zeroB n) c).log = bs c.log ++ R ∧ Zs R
  | [], n, c, _, _ => ⟨[], by rw [List.append_nil]; rfl, .inl rfl⟩
  | (false, w) :: r, n, c, h, hn => by
    have hw : w.1 = -1 := h (false, w) (by simp)
    unfold crashC
    rw [if_pos hw, zeroB_app]
    exact crash_gap lack r (n + w.2.size) c (fun x hx => h x (by simp [hx])) (by omega)
  | (true, w) :: r, n, c, h, hn => by
    have hw : w.1 = -1 := h (true, w) (by simp)
    unfold crashC
    simp only []
    have e1 : (if r.any (·.1) then w else c.torn w lack).1 = -1 := by split <;> exact hw
    generalize (if r.any (·.1) then w else c.torn w lack) = w' at e1 ⊢
    rw [if_pos e1]
    obtain ⟨t, ht⟩ := crash_preJ lack r ByteArray.empty (c.put (w'.1, zeroB n ++ w'.2))
    have e : c.put (w'.1, zeroB n ++ w'.2) = ⟨c.log ++ (zeroB n ++ w'.2), c.slots⟩ := if_pos e1
    rw [e] at ht ⊢
    refine ⟨bs (zeroB n) ++ (bs w'.2 ++ bs t), by rw [ht]; simp [bs_append], .inr ⟨List.replicate (n - 6) 0 ++ (bs w'.2 ++ bs t), ?_⟩⟩
    unfold zeroB
    rw [bs_ofL, ← List.append_assoc (List.replicate 6 (0 : UInt8)), List.replicate_append_replicate, show 6 + (n - 6) = n by omega]
def piece (P : List ByteArray) : Wr := (-1, ofL (flatS (P.map bs)))
theorem flat_ge {P : List ByteArray} (h : P ≠ []) : 6 ≤ (flatS (P.map bs)).length := by
  cases P with
  | nil => exact absurd rfl h
  | cons s P => rw [List.map_cons, flatS_cons, List.length_append, sealL_len]; omega
theorem torn_log {c : Ct} {w : Wr} (lack : Int) (h : w.1 = -1) : ∃ n, n ≤ w.2.size ∧ c.torn w lack = (-1, w.2.extract 0 n) := by
  unfold Ct.torn
  refine ⟨w.2.size - min (max lack 0).toNat w.2.size, by omega, ?_⟩
  simp [h]
theorem take_pre {α : Type} {A B C : List α} {k : Nat} (h : A = B ++ C) (hk : k ≤ B.length) : A.take k = B.take k := by rw [h, List.take_append_of_le_length hk]
/-- What a crash leaves: the frames of the first so many records, and a rest that is none. -/
theorem crash_frames (lack : Int) : ∀ (kw : List (Bool × List ByteArray)) (base : List ByteArray) (c : Ct), (∀ x ∈ kw, x.2 ≠ [] ∧ ∀ s ∈ x.2, s.size ≤ 60000) → bs c.log = flatS (base.map bs) →
    ∃ k rest e, base.length ≤ k ∧ k ≤ (base ++ (kw.map (·.2)).flatten).length ∧ bs (crashC lack (kw.map fun x => (x.1, piece x.2)) ByteArray.empty c).log = flatS (((base ++ (kw.map (·.2)).flatten).take k).map bs) ++ rest ∧ nextL rest = .no e
  | [], base, c, _, hc => by
    refine ⟨base.length, [], 3, Nat.le_refl _, by simp, ?_, nextL_nil⟩
    simp only [List.map_nil, List.flatten_nil, List.append_nil, List.take_length]
    exact hc
  | (false, P) :: r, base, c, h, hc => by
    have hP := h (false, P) (by simp)
    have h6 := flat_ge hP.1
    obtain ⟨R, h1, h2⟩ := crash_gap lack (r.map fun x => (x.1, piece x.2)) (piece P).2.size c (fun x hx => by obtain ⟨y, _, rfl⟩ := List.mem_map.1 hx; rfl) (by show 6 ≤ (ofL _).size; rw [ofL_size]; exact h6)
    obtain ⟨e, he⟩ := h2.next
    refine ⟨base.length, R, e, Nat.le_refl _, by simp, ?_, he⟩
    have eq : (((false, P) :: r).map fun x => (x.1, piece x.2)) = (false, piece P) :: (r.map fun x => (x.1, piece x.2)) := rfl
    rw [eq]
    unfold crashC
    rw [if_pos (show (piece P).1 = -1 from rfl), emp_app, h1, hc, List.take_append_of_le_length (Nat.le_refl _), List.take_length]
  | (true, P) :: r, base, c, h, hc => by
    have hP := h (true, P) (by simp)
    have eq : (((true, P) :: r).map fun x => (x.1, piece x.2)) = (true, piece P) :: (r.map fun x => (x.1, piece x.2)) := rfl
    rw [eq]
    unfold crashC
    simp only []
    cases ha : (r.map fun x => (x.1, piece x.2)).any (·.1) with
    | true =>
      simp only [if_true, emp_app]
      have e1 : c.put ((piece P).1, (piece P).2) = ⟨c.log ++ (piece P).2, c.slots⟩ := if_pos rfl
      rw [if_pos (show (piece P).1 = -1 from rfl), e1]
      obtain ⟨k, rest, e, h1, h2, h3, h4⟩ := crash_frames lack r (base ++ P) ⟨c.log ++ (piece P).2, c.slots⟩ (fun x hx => h x (by simp [hx])) (by
        show bs (c.log ++ ofL _) = _
        rw [bs_append, hc, bs_ofL, List.map_append, flatS_append])
      refine ⟨k, rest, e, by rw [List.length_append] at h1; omega, ?_, ?_, h4⟩
      · simpa [List.append_assoc] using h2
      · rw [h3]; simp [List.append_assoc]
    | false =>
      simp only [Bool.false_eq_true, if_false, emp_app]
      obtain ⟨n, hn, ht⟩ := torn_log (c := c) (w := piece P) lack rfl
      rw [ht]
      have e1 : c.put ((-1 : Int), (piece P).2.extract 0 n) = ⟨c.log ++ (piece P).2.extract 0 n, c.slots⟩ := if_pos rfl
      rw [if_pos rfl, e1, crash_gaps _ _ _ _ ha]
      have hn' : n ≤ (flatS (P.map bs)).length := by
        have : (piece P).2.size = (flatS (P.map bs)).length := ofL_size _
        omega
      obtain ⟨many, rest, g1, g2, g3, _, _⟩ := flatS_cut (P.map bs) n (fun t ht => by obtain ⟨s, h1, rfl⟩ := List.mem_map.1 ht; rw [bs_len]; exact hP.2 s h1) hn'
      rw [List.length_map] at g1
      refine ⟨base.length + many, rest, 3, by omega, by simp; omega, ?_, g3⟩
      show bs (c.log ++ (ofL (flatS (P.map bs))).extract 0 n) = _
      rw [bs_append, hc, bs_extract, bs_ofL, List.drop_zero, g2]
      have e2 : (base ++ ((((true, P) :: r).map (·.2)).flatten)).take (base.length + many) = base ++ P.take many := by
        rw [List.take_append, Nat.add_sub_cancel_left, List.take_of_length_le (by omega)]
        simp only [List.map_cons, List.flatten_cons]
        rw [List.take_append_of_le_length g1]
      rw [e2, List.map_append, flatS_append, List.map_take, List.append_assoc]
/-! ### a journal, and what it was asked -/
structure Jst (i : Nat) (m : DM) (ja all : List ByteArray) (safe : Nat) : Prop where
  good : m.good 0 (5000 + 6500 * i)
  short : ∀ s ∈ all, s.size ≤ 100
  len : all.length ≤ 60 * i
  log : m.now.log = ofL (flatS (ja.map bs))
  pre : ∃ t, all = ja ++ t
  full : m.down = false → all = ja
  mem : ∃ (base : List ByteArray) (Ps : List (List ByteArray)), ja = base ++ Ps.flatten ∧ m.lasts.log = ofL (flatS (base.map bs)) ∧ m.waits = Ps.map piece ∧ (∀ P ∈ Ps, P ≠ []) ∧ safe ≤ base.length
theorem Jst.more {i j : Nat} {m : DM} {ja all : List ByteArray} {safe : Nat} (h : Jst i m ja all safe) (hij : i ≤ j) : Jst j m ja all safe :=
  ⟨h.good.more (by omega), h.short, by have := h.len; omega, h.log, h.pre, h.full, h.mem⟩
theorem append_cases (m : DM) (X : ByteArray) (hl : -1 ≤ m.left) : (m.appendE = 8 ∧ (m.append X).down = true ∧ (m.append X).now = m.now ∧ (m.append X).lasts = m.lasts ∧ (m.append X).waits = m.waits) ∨
    (m.appendE = 0 ∧ m.down = false ∧ (m.append X).down = false ∧ (m.append X).lasts = m.lasts ∧ ((X.size = 0 ∧ (m.append X).now = m.now ∧ (m.append X).waits = m.waits) ∨ (X.size ≠ 0 ∧ (m.append X).now.log = m.now.log ++ X ∧ (m.append X).waits = m.waits ++ [(-1, X)]))) := by
  unfold DM.append DM.appendE DM.burnE DM.does
  cases hd : m.down with
  | true => left; simp [hd]
  | false =>
    by_cases h0 : m.left = 0
    · left; simp [h0, DM.burn]
    · right
      obtain ⟨e1, e2, e3⟩ := burn_now m
      have e4 : m.burn.down = m.down := by unfold DM.burn; rw [if_neg h0]; split <;> rfl
      unfold DM.lies Ct.put
      by_cases hX : X.size = 0
      · simp [h0, hX, e1, e2, e3, e4, hd]
      · simp [h0, hX, e1, e2, e3, e4, hd]
theorem sync_cases (m : DM) (hl : -1 ≤ m.left) : (m.appendE = 8 ∧ m.sync.down = true ∧ m.sync.now = m.now ∧ m.sync.lasts = m.lasts ∧ m.sync.waits = m.waits) ∨ (m.appendE = 0 ∧ m.down = false ∧ m.sync.down = false ∧ m.sync.now = m.now ∧ m.sync.lasts = m.now ∧ m.sync.waits = []) := by
  unfold DM.sync DM.appendE DM.burnE
  cases hd : m.down with
  | true => left; simp [hd]
  | false =>
    by_cases h0 : m.left = 0
    · left; simp [h0, DM.burn]
    · right
      obtain ⟨e1, e2, e3⟩ := burn_now m
      have e4 : m.burn.down = m.down := by unfold DM.burn; rw [if_neg h0]; split <;> rfl
      unfold DM.settle
      simp [h0, e1, e2, e3, e4, hd]
def recs (L : List ByteArray) : ByteArray := ofL (flatS (L.map bs))
theorem recs_zero {L : List ByteArray} (h : (recs L).size = 0) : L = [] := by
  cases L with
  | nil => rfl
  | cons s L =>
    have := flat_ge (P := s :: L) (by simp)
    unfold recs at h
    rw [ofL_size] at h
    omega
theorem recs_app (A B : List ByteArray) : recs A ++ recs B = recs (A ++ B) := by unfold recs; rw [ofL_append, ← flatS_append, List.map_append]
/-- Records are put, or not. -/
theorem Jst.put {i : Nat} {m : DM} {ja all L : List ByteArray} {safe : Nat} (h : Jst i m ja all safe) (hL : L.length ≤ 60) (hs : ∀ s ∈ L, s.size ≤ 100) :
    (m.appendE = 0 → (m.append (recs L)).down = false ∧ all = ja ∧ Jst (i + 1) (m.append (recs L)) (ja ++ L) (all ++ L) safe) ∧ (m.appendE ≠ 0 → (m.append (recs L)).down = true ∧ m.appendE = 8 ∧ Jst (i + 1) (m.append (recs L)) ja (all ++ L) safe) := by
  have hfl := flat_le hs
  have hsz : (recs L).size ≤ 6360 := by unfold recs; rw [ofL_size]; omega
  have g : (m.append (recs L)).good 0 (5000 + 6500 * (i + 1)) := h.good.append.more (by omega)
  have hsh : ∀ s ∈ all ++ L, s.size ≤ 100 := fun s hs' => by
    rcases List.mem_append.1 hs' with h1 | h1
    · exact h.short s h1
    · exact hs s h1
  have hlen : (all ++ L).length ≤ 60 * (i + 1) := by rw [List.length_append]; have := h.len; omega
  obtain ⟨base, Ps, m1, m2, m3, m4, m5⟩ := h.mem
  rcases append_cases m (recs L) h.good.left.1 with ⟨c1, c2, c3, c4, c5⟩ | ⟨c1, c2, c3, c4, c5⟩
  · refine ⟨fun e => by omega, fun _ => ⟨c2, c1, g, hsh, hlen, by rw [c3]; exact h.log, ?_, fun e => (by rw [c2] at e; cases e), base, Ps, m1, by rw [c4]; exact m2, by rw [c5]; exact m3, m4, m5⟩⟩
    obtain ⟨t, ht⟩ := h.pre
    exact ⟨t ++ L, by rw [ht, List.append_assoc]⟩
  · have ea := h.full c2
    refine ⟨fun _ => ⟨c3, ea, g, hsh, hlen, ?_, ⟨[], by rw [ea, List.append_nil]⟩, fun _ => by rw [ea], ?_⟩, fun e => by omega⟩
    · rcases c5 with ⟨d1, d2, _⟩ | ⟨d1, d2, _⟩
      · rw [d2, h.log, recs_zero d1, List.append_nil]
      · rw [d2, h.log]; exact recs_app ja L
    · rcases c5 with ⟨d1, d2, d3⟩ | ⟨d1, d2, d3⟩
      · exact ⟨base, Ps, by rw [recs_zero d1, List.append_nil]; exact m1, by rw [c4]; exact m2, by rw [d3]; exact m3, m4, m5⟩
      · refine ⟨base, Ps ++ [L], by rw [m1]; simp, by rw [c4]; exact m2, by rw [d3, m3]; simp [piece, recs], fun P hP => ?_, m5⟩
        rcases List.mem_append.1 hP with h1 | h1
        · exact m4 P h1
        · rw [List.mem_singleton.1 h1]
          intro h0
          apply d1
          rw [h0]; rfl
theorem Jst.sync {i : Nat} {m : DM} {ja all : List ByteArray} {safe : Nat} (h : Jst i m ja all safe) :
    (m.appendE = 0 → m.sync.down = false ∧ all = ja ∧ Jst i m.sync ja all all.length) ∧ (m.appendE ≠ 0 → m.sync.down = true ∧ m.appendE = 8 ∧ Jst i m.sync ja all safe) := by
  obtain ⟨base, Ps, m1, m2, m3, m4, m5⟩ := h.mem
  rcases sync_cases m h.good.left.1 with ⟨c1, c2, c3, c4, c5⟩ | ⟨c1, c2, c3, c4, c5, c6⟩
  · exact ⟨fun e => by omega, fun _ => ⟨c2, c1, h.good.sync, h.short, h.len, by rw [c3]; exact h.log, h.pre, fun e => (by rw [c2] at e; cases e), base, Ps, m1, by rw [c4]; exact m2, by rw [c5]; exact m3, m4, m5⟩⟩
  · have ea := h.full c2
    exact ⟨fun _ => ⟨c3, ea, h.good.sync, h.short, h.len, by rw [c4]; exact h.log, h.pre, fun _ => ea, ja, [], by simp, by rw [c5]; exact h.log, by rw [c6]; rfl, by simp, by rw [ea]; exact Nat.le_refl _⟩, fun e => by omega⟩
theorem Jst.fuse {i : Nat} {m : DM} {ja all : List ByteArray} {safe : Nat} {n : Int} (h : Jst i m ja all safe) (hn : n ≤ 9223372036854775807) : Jst i (m.fuse n) ja all safe :=
  ⟨h.good.fuse hn, h.short, h.len, h.log, h.pre, h.full, h.mem⟩
theorem zip_pieces : ∀ (ks : List Bool) (Ps : List (List ByteArray)), ks.zip (Ps.map piece) = (ks.zip Ps).map fun x => (x.1, piece x.2)
  | [], _ => by simp
  | k :: ks, [] => by simp
  | k :: ks, P :: Ps => by simp [zip_pieces ks Ps]
theorem zip_pre : ∀ (ks : List Bool) (Ps : List (List ByteArray)), ∃ t, Ps.flatten = ((ks.zip Ps).map (·.2)).flatten ++ t
  | [], Ps => ⟨Ps.flatten, by simp⟩
  | k :: ks, [] => ⟨[], by simp⟩
  | k :: ks, P :: Ps => by
    obtain ⟨t, ht⟩ := zip_pre ks Ps
    exact ⟨t, by simp [ht]⟩
/-- Behind a crash: what is there is some of what was put, and all that was safe. -/
theorem Jst.crash {i : Nat} {m : DM} {ja all : List ByteArray} {safe : Nat} (h : Jst i m ja all safe) (ks : List Bool) (lack : Int) :
    ∃ k rest e, safe ≤ k ∧ k ≤ ja.length ∧ bs (m.crash ks lack).now.log = flatS ((ja.take k).map bs) ++ rest ∧ nextL rest = .no e := by
  obtain ⟨base, Ps, m1, m2, m3, m4, m5⟩ := h.mem
  have hsh : ∀ P ∈ Ps, ∀ s ∈ P, s.size ≤ 60000 := fun P hP s hs => by
    obtain ⟨t, ht⟩ := h.pre
    have := h.short s (by rw [ht, m1]; exact List.mem_append_left _ (List.mem_append_right _ (List.mem_flatten.2 ⟨P, hP, hs⟩)))
    omega
  obtain ⟨k, rest, e, h1, h2, h3, h4⟩ := crash_frames lack (ks.zip Ps) base m.lasts (fun x hx => ⟨m4 _ (List.of_mem_zip hx).2, hsh _ (List.of_mem_zip hx).2⟩) (by rw [m2, bs_ofL])
  obtain ⟨t, ht⟩ := zip_pre ks Ps
  have hja : ja = (base ++ ((ks.zip Ps).map (·.2)).flatten) ++ t := by rw [m1, ht, List.append_assoc]
  refine ⟨k, rest, e, by omega, by rw [hja, List.length_append]; omega, ?_, h4⟩
  show bs (crashC lack (ks.zip m.waits) ByteArray.empty m.lasts).log = _
  rw [m3, zip_pieces, h3, take_pre hja h2]
theorem Jst.opened {i : Nat} {m : DM} {ja all : List ByteArray} {safe : Nat} (h : Jst i m ja all safe) (ks : List Bool) (lack : Int) {k : Nat} {rest : List UInt8} (hk : k ≤ ja.length) (hb : bs (m.crash ks lack).now.log = flatS ((ja.take k).map bs) ++ rest) :
    Jst i ((m.crash ks lack).opened (flatS ((ja.take k).map bs)).length) (ja.take k) (ja.take k) k ∧ ((m.crash ks lack).opened (flatS ((ja.take k).map bs)).length).down = false ∧ ((m.crash ks lack).opened (flatS ((ja.take k).map bs)).length).left = -1 ∧ ((m.crash ks lack).opened (flatS ((ja.take k).map bs)).length).waits = [] ∧ ((m.crash ks lack).opened (flatS ((ja.take k).map bs)).length).lasts = ((m.crash ks lack).opened (flatS ((ja.take k).map bs)).length).now := by
  have hsz : (flatS ((ja.take k).map bs)).length ≤ (m.crash ks lack).now.log.size := by rw [← bs_len, hb, List.length_append]; omega
  have e := opened_free (m := m.crash ks lack) (n := (flatS ((ja.take k).map bs)).length) rfl rfl hsz (fun _ _ => rfl)
  have g := (h.good.crash (ks := ks) (lack := lack)).opened (n := (flatS ((ja.take k).map bs)).length)
  have hlog : (m.crash ks lack).now.log.extract 0 (flatS ((ja.take k).map bs)).length = ofL (flatS ((ja.take k).map bs)) := by
    apply bs_inj
    rw [bs_extract, hb, bs_ofL, List.take_left, List.drop_zero]
  obtain ⟨t, ht⟩ := h.pre
  rw [e] at g ⊢
  refine ⟨⟨g, fun s hs => h.short s (by rw [ht]; exact List.mem_append_left _ (List.mem_of_mem_take hs)), ?_, hlog, ⟨[], by rw [List.append_nil]⟩, fun _ => rfl, ja.take k, [], by simp, hlog, rfl, by simp, by rw [List.length_take]; omega⟩, rfl, rfl, rfl, rfl⟩
  have := h.len
  rw [ht, List.length_append] at this
  rw [List.length_take]; omega
theorem opened_same {m : DM} {n : Nat} (hd : m.down = false) (hl : m.left = -1) (hw : m.waits = []) (hn : n = m.now.log.size) (hs : m.lasts = m.now) : m.opened n = m := by
  unfold DM.opened
  have h1 : ¬ n < m.now.log.size := by omega
  simp [h1, hw]
end Go.Proofs.YtknhlipealekoaaDoor.K
