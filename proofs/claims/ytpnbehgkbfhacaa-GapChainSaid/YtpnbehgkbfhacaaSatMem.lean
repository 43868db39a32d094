/- Rules for append, make, copy, and the conversions between bytes and strings. -/
import Derived.Test.YtpnbehgkbfhacaaSatOps
import Derived.IntWalk
set_option linter.unusedVariables false
set_option linter.unusedSimpArgs false
namespace Go.Proofs.Ytpnbehgkbfhacaa.K
open Go

/-- What 'append' asks, and comes to: m elements with the cells 'news' behind the slice s. -/
def AppendQ (H : SH) (E : TypeId) (size bytes : Nat) (s : Sl) (m : Nat) (news : List Value) (K : Sl → SH → Prop) : Prop :=
  (s.len + m) * bytes ≤ 140737488355328 ∧ s.len + m ≤ 9223372036854775807 ∧ news.length = m * size ∧ (∀ u ∈ news, u.oneCell' = true) ∧
  (s.len + m ≤ s.cap → (s.a = none → K ⟨none, s.len + m, s.cap⟩ H) ∧
    (∀ p, s.a = some p → ∃ o, H p.1 = some o ∧ o.ro = false ∧ p.2 + s.len * size ≤ o.cells.length ∧ p.2 + (s.len + m) * size ≤ o.size ∧
      K ⟨some p, s.len + m, s.cap⟩ (H.upd p.1 { o with cells := wrl o.cells (p.2 + s.len * size) news }))) ∧
  (s.cap < s.len + m → ∃ olds, olds.length = s.len * size ∧ H.row s.a olds ∧
    ∀ b cap, H b = none → s.len + m ≤ cap → K ⟨some (b, 0), s.len + m, cap⟩ (H.upd b ⟨olds ++ news, E, false, cap * size⟩))

section
variable {P : Program} {n : Nat} {fr : Fr} {H : SH} {Q : Post} {ops : Array Oper} {o : Oper} {l : List Oper}

/-- What stands behind the slice: it is read. -/
def Reads (P : Program) (H : SH) (size : Nat) (tx : TypeId) (x : Value) (m : Nat) (news : List Value) : Prop :=
  (∃ e, P.underlying tx = some (.slice e)) ∧ (∃ s : Sl, x = sv s ∧ s.len = m ∧ H.row s.a news) ∨
  P.underlying tx = some .string ∧ size = 1 ∧ ∃ t : ByteArray, x = .string t ∧ t.size = m ∧ news = t.data.toList.map fun b => .int .u8 b.toNat

theorem Reads.len {size : Nat} {tx : TypeId} {x : Value} {m : Nat} {news : List Value} (h : Reads P H size tx x m news) (w : World) : (Builtin.lenOf x).run P w = .ok m w := by
  rcases h with ⟨_, s, rfl, rfl, _⟩ | ⟨_, _, t, rfl, rfl, _⟩ <;> rfl
theorem Reads.zeros {size : Nat} {tx : TypeId} {x : Value} {m : Nat} {news : List Value} (h : Reads P H size tx x m news) : (∃ e, P.underlying tx = some (.slice e)) ∨ P.underlying tx = some .string := by
  rcases h with ⟨⟨e, h⟩, _⟩ | ⟨h, _⟩
  · exact .inl ⟨e, h⟩
  · exact .inr h
theorem Reads.cells {size : Nat} {tx : TypeId} {x : Value} {m : Nat} {news : List Value} (h : Reads P H size tx x m news) (hl : news.length = m * size) {w : World} (hw : Sat H w) : (Builtin.firstCells size m x).run P w = .ok news.toArray w := by
  rcases h with ⟨_, s, rfl, rfl, hr⟩ | ⟨_, rfl, t, rfl, rfl, rfl⟩
  · cases hn : news with
    | nil =>
      subst hn
      have h0 : s.len * size = 0 := by simpa using hl.symm
      unfold sv
      cases s.a with
      | none => simp [Builtin.firstCells]
      | some p => simp [Builtin.firstCells, h0, loadCells, loadCellsFrom]
    | cons c cs =>
      obtain ⟨p, hp, hc⟩ := hw.row hr (by rw [hn]; simp)
      have := run_firstCells_some (P := P) w size s.len (ad p) s.len s.cap news hl hc
      unfold sv
      rw [hp, ← hn]
      exact this
  · have he : (t.extract 0 t.size).data = t.data := by
      rw [ByteArray.data_extract]
      show t.data.extract 0 t.data.size = t.data
      simp
    simp [Builtin.firstCells, he]
    rw [← Array.toList_inj]; simp

/-- The same, by what is asked of it. -/
structure ReadsG (P : Program) (H : SH) (size : Nat) (tx : TypeId) (x : Value) (m : Nat) (news : List Value) : Prop where
  len : ∀ w, (Builtin.lenOf x).run P w = .ok m w
  zeros : (∃ e, P.underlying tx = some (.slice e)) ∨ P.underlying tx = some .string
  cells : news.length = m * size → ∀ {w : World}, Sat H w → (Builtin.firstCells size m x).run P w = .ok news.toArray w
theorem Reads.g {size : Nat} {tx : TypeId} {x : Value} {m : Nat} {news : List Value} (h : Reads P H size tx x m news) : ReadsG P H size tx x m news := ⟨h.len, h.zeros, fun hl _ hw => h.cells hl hw⟩
/-- A slice with any address. -/
def SH.rowW (H : SH) (a : Option Addr) (cs : List Value) : Prop := cs = [] ∨ ∃ p, a = some (ad p) ∧ H.row (some p) cs
theorem ReadsG.wide {size : Nat} {tx : TypeId} {a : Option Addr} {len cap : Nat} {x : Value} {news : List Value} (ht : ∃ e, P.underlying tx = some (.slice e)) (hx : x = .slice a len cap) (hr : H.rowW a news) : ReadsG P H size tx x len news where
  len := fun w => by subst hx; rfl
  zeros := .inl ht
  cells := fun hl w hw => by
    subst hx
    rcases hr with rfl | ⟨p, rfl, hr⟩
    · have h0 : len * size = 0 := by simpa using hl.symm
      cases a with
      | none => simp [Builtin.firstCells]
      | some p => simp [Builtin.firstCells, h0, loadCells, loadCellsFrom]
    · exact Reads.cells (P := P) (H := H) (tx := tx) (.inl ⟨ht, ⟨some p, len, cap⟩, rfl, rfl, hr⟩) hl hw

theorem run_append {t tx ty E : TypeId} {i : TypeInfo} {z : Value} (ht : P.underlying t = some (.slice E)) (hi : P.info? E = some i) (hz : i.zero = some z) (hzs : z.cells.size = i.size)
    {s : Sl} {x : Value} {m : Nat} {news : List Value} (hr : ReadsG P H i.size tx x m news) {K : Sl → SH → Prop} (h : AppendQ H E i.size i.bytes s m news K) {w : World} (hw : Sat H w) :
    ∃ s' H' w', (Builtin.append_ #[t, tx] ty #[sv s, x]).run P w = .ok (sv s') w' ∧ St w H H' w' ∧ K s' H' := by
  obtain ⟨hb, h63, hl, h1, hroom, hgrow⟩ := h
  have hlen := fun w => hr.len w
  have hcells := hr.cells hl hw
  have hzs' := hr.zeros
  by_cases hc : s.len + m ≤ s.cap
  · obtain ⟨hn, hs⟩ := hroom hc
    cases ha : s.a with
    | none =>
      refine ⟨_, H, w, ?_, .refl hw, hn ha⟩
      rcases hzs' with ⟨e, hd⟩ | hd <;> simp [Builtin.append_, run_underlying ht, run_underlying hd, sizeOf, typeInfo, hi, hlen, sv, ha, hc, hcells]
    | some p =>
      obtain ⟨ob, hob, hro, h2, h3, hK⟩ := hs p ha
      obtain ⟨_, rest, fz, he, hsz, hfz⟩ := (hw _ ob hob).got (.inl hro)
      have hfit : p.2 + s.len * i.size + 0 + news.length ≤ (ob.cells ++ rest).toArray.size := by
        rw [hl, List.size_toArray, hsz, Nat.add_mul] at *; omega
      have hst := storeCells_row P p.1 (p.2 + s.len * i.size) ob.ty fz news 0 _ w he hfit (fun j hj => hfz hro j (.inl (by rw [← hsz]; simpa using hj))) h1
      refine ⟨_, _, _, ?_, St.setRow hw hob hro ((ob.cells ++ rest).toArray.toList.take (p.2 + s.len * i.size + 0) ++ news ++ (ob.cells ++ rest).toArray.toList.drop (p.2 + s.len * i.size + 0 + news.length)).toArray ?_ { ob with cells := wrl ob.cells (p.2 + s.len * i.size) news } rfl rfl hro ?_, hK⟩
      · have hadd : (ad p).add (s.len * i.size) = ⟨p.1, p.2 + s.len * i.size, none⟩ := add_ad p _
        simp only [Nat.add_zero] at hst ⊢
        rcases hzs' with ⟨e, hd⟩ | hd <;> simp [Builtin.append_, run_underlying ht, run_underlying hd, sizeOf, typeInfo, hi, hlen, sv, ha, hc, hcells, hadd, hst]
      · rw [List.size_toArray] at *
        simp only [Nat.add_zero] at hfit
        simp [hl, ← hsz] at *; omega
      · refine ⟨rest.drop (p.2 + s.len * i.size + news.length - ob.cells.length), ?_⟩
        simp only [wrl, Nat.add_zero]
        rw [List.take_append_of_le_length h2, List.drop_append]
        simp [List.append_assoc]
  · obtain ⟨olds, ho1, ho2, hK⟩ := hgrow (by omega)
    have hold : (Builtin.firstCells i.size s.len (sv s)).run P w = .ok olds.toArray w := by
      have := Reads.cells (P := P) (H := H) (size := i.size) (tx := t) (x := sv s) (m := s.len) (news := olds) (.inl ⟨⟨E, ht⟩, s, rfl, rfl, ho2⟩) ho1 hw
      exact this
    have hcap := grownCap_ge w (s.len + m) s.cap E
    have hfit := growslice_fits (old := s.cap) (by omega) hb
    have hw' : Sat H w.drew := hw
    have hal := St.alloc (H := H) (w := w.drew) hw' (olds.toArray ++ news.toArray ++ Builtin.zeroCells z.cells (grownCap w (s.len + m) s.cap E - (s.len + m))) E
    refine ⟨⟨some (w.heap.size, 0), s.len + m, grownCap w (s.len + m) s.cap E⟩, H.upd w.heap.size ⟨olds ++ news, E, false, grownCap w (s.len + m) s.cap E * i.size⟩,
      w.drew.alloc (.cells (olds.toArray ++ news.toArray ++ Builtin.zeroCells z.cells (grownCap w (s.len + m) s.cap E - (s.len + m))) E), ?_, ?_, hK _ _ hal.1 hcap⟩
    · have h63' : ¬ (((s.len + m : Nat) : Int) > IntKind.i64.max) := by
        have hm : IntKind.i64.max = 9223372036854775807 := rfl
        rw [hm]; omega
      have hfit' : ¬ (Builtin.nextslicecap (s.len + m) s.cap * i.bytes > 2 ^ 48) := by
        have : (2 : Nat) ^ 48 = 281474976710656 := by decide
        omega
      have hch : (choose (.appendCap (s.len + m) s.cap E)).run P w = .ok (grownCap w (s.len + m) s.cap E) w.drew := rfl
      have hask : ∀ b, (askRoom b).run P w.drew = .ok () w.drew := by intro b; unfold askRoom; split <;> rfl
      have hold' : (Builtin.firstCells i.size s.len (.slice (s.a.map ad) s.len s.cap)).run P w.drew = .ok olds.toArray w.drew :=
        Reads.cells (P := P) (H := H) (size := i.size) (tx := t) (x := sv s) (m := s.len) (news := olds) (.inl ⟨⟨E, ht⟩, s, rfl, rfl, ho2⟩) ho1 hw'
      have hnew' : (Builtin.firstCells i.size m x).run P w.drew = .ok news.toArray w.drew := hr.cells hl hw'
      have hin : (typeInfo E).run P = fun w => .ok i w := by funext w; simp [typeInfo, hi, Sem.run, program]
      rcases hzs' with ⟨e, hd⟩ | hd <;>
      · simp only [Builtin.append_, sv, List.getElem?_toArray, List.getElem?_cons_zero, List.getElem?_cons_succ, Sem.run_bind, run_underlying ht, run_underlying hd, Result.andThen_ok, sizeOf, hin, Sem.run_pure, Bool.false_eq_true, if_false, hlen, hc, Sem.run_ite, h63', false_and, hfit', hch, hask, hold', hnew', Bool.not_false, if_true, zeroValue, hz, run_newRow]
        rfl
    · have hst := hal.2
      refine ⟨hst.os, hst.tape, hst.output, hst.size, hst.keep, ?_, ?_⟩
      · intro b ob hb'
        by_cases hbs : b = w.heap.size
        · subst hbs
          rw [SH.upd_same] at hb'
          obtain rfl := Option.some.inj hb'
          refine SatO.mk rfl ⟨(Builtin.zeroCells z.cells (grownCap w (s.len + m) s.cap E - (s.len + m))).toList, (0, 0), ?_, ?_, fun _ j _ => by simp⟩
          · show (w.heap.push _)[w.heap.size]? = _
            simp
          · simp only [List.length_append, ho1, hl, Array.length_toList, size_zeroCells, hzs, ← Nat.add_mul]
            congr 1; omega
        · rw [SH.upd_ne _ _ hbs] at hb'
          exact hst.sat b ob (by rw [SH.upd_ne _ _ (by exact hbs)]; exact hb')
      · intro b ob hb'
        by_cases hbs : b = w.heap.size
        · right; subst hbs; exact Nat.le_refl _
        · rw [SH.upd_ne _ _ hbs] at hb'
          exact .inl ⟨ob, hb', id⟩

theorem SOps.appendG {t tx E : TypeId} {s' x' : Operand} {d size bytes : Nat} {z : Value} (ho : o.op = .call { callee := .builtin .append, args := #[s', x'], argTypes := #[t, tx] }) (hd : o.dst = some d) (hg : wantF n ops fr o = true)
    (ht : P.underlying t = some (.slice E)) (hi : (P.info? E).map (fun i => (i.zero, i.size, i.bytes)) = some (some z, size, bytes)) (hzs : z.cells.size = size)
    {s : Sl} {x : Value} {m : Nat} {news : List Value} (hs : evF n fr s' = sv s) (hx : evF n fr x' = x) (hr : ReadsG P H size tx x m news) (h : AppendQ H E size bytes s m news (fun s' H' => SOps P n ops l (fr.upd d (sv s')) H' Q)) :
    SOps P n ops (o :: l) fr H Q := by
  obtain ⟨i, hi', he⟩ := Option.map_eq_some_iff.1 hi
  simp only [Prod.mk.injEq] at he
  obtain ⟨hz, rfl, rfl⟩ := he
  refine SOps.step (R := fun v' H' => ∃ s', v' = sv s' ∧ SOps P n ops l (fr.upd d (sv s')) H' Q) hd hg (fun w hw => ?_) (fun v' H' ⟨s', e, h'⟩ => by subst e; exact h')
  obtain ⟨s2, H', w', hrun, hst, hK⟩ := run_append (P := P) (ty := o.type) ht hi' hz hzs hr h hw
  refine ⟨_, H', w', .inl ?_, hst, s2, rfl, hK⟩
  unfold execOp
  simp [ho, resolve, hs, hx, invoke, builtin, hrun]
theorem SOps.append {t tx E : TypeId} {s' x' : Operand} {d size bytes : Nat} {z : Value} (ho : o.op = .call { callee := .builtin .append, args := #[s', x'], argTypes := #[t, tx] }) (hd : o.dst = some d) (hg : wantF n ops fr o = true)
    (ht : P.underlying t = some (.slice E)) (hi : (P.info? E).map (fun i => (i.zero, i.size, i.bytes)) = some (some z, size, bytes)) (hzs : z.cells.size = size)
    {s : Sl} {x : Value} {m : Nat} {news : List Value} (hs : evF n fr s' = sv s) (hx : evF n fr x' = x) (hr : Reads P H size tx x m news) (h : AppendQ H E size bytes s m news (fun s' H' => SOps P n ops l (fr.upd d (sv s')) H' Q)) :
    SOps P n ops (o :: l) fr H Q := SOps.appendG ho hd hg ht hi hzs hs hx hr.g h

/-- make. -/
theorem SOps.make {T E : TypeId} {x y : Operand} {d size bytes : Nat} {z : Value} {k k' : IntKind} {m : Int} (ho : o.op = .makeSlice T x y) (hd : o.dst = some d) (hg : wantF n ops fr o = true)
    (ht : P.underlying T = some (.slice E)) (hi : (P.info? E).map (fun i => (i.zero, i.size, i.bytes)) = some (some z, size, bytes)) (hzs : z.cells.size = size) (hb1 : 0 < bytes) (hs1 : 0 < size)
    (hx : evF n fr x = .int k m) (hy : evF n fr y = .int k' m) (h0 : 0 ≤ m) (h48 : m.toNat * bytes ≤ 281474976710656)
    (hn : ∀ b, H b = none → SOps P n ops l (fr.upd d (sv ⟨some (b, 0), m.toNat, m.toNat⟩)) (H.upd b ⟨(Builtin.zeroCells z.cells m.toNat).toList, E, false, m.toNat * size⟩) Q) : SOps P n ops (o :: l) fr H Q := by
  obtain ⟨i, hi', he⟩ := Option.map_eq_some_iff.1 hi
  simp only [Prod.mk.injEq] at he
  obtain ⟨hz, rfl, rfl⟩ := he
  obtain ⟨m, rfl⟩ := Int.eq_ofNat_of_zero_le h0
  simp only [Int.toNat_natCast] at *
  have hm : m ≤ 281474976710656 := Nat.le_trans (Nat.le_mul_of_pos_right _ hb1) h48
  refine SOps.step (R := fun v' H' => ∃ b, H b = none ∧ v' = sv ⟨some (b, 0), m, m⟩ ∧ H' = H.upd b ⟨(Builtin.zeroCells z.cells m).toList, E, false, m * i.size⟩) hd hg (fun w hw => ?_) (fun v' H' ⟨b, hb, e1, e2⟩ => by subst e1; subst e2; exact hn b hb)
  have hal := St.alloc hw (Builtin.zeroCells z.cells m) E
  rw [size_zeroCells, hzs] at hal
  refine ⟨_, _, _, .inl ?_, hal.2, w.heap.size, hal.1, rfl, rfl⟩
  have hwr : IntKind.i64.wrap (m : Int) = (m : Int) := IntWalk.i64_in _ (by omega)
  have hcells : (Array.range (m * i.size)).map (fun j => (z.cells)[j % z.cells.size]!) = Builtin.zeroCells z.cells m := by
    unfold Builtin.zeroCells; rw [hzs]
  have hty : (typeInfo E).run P = fun w => .ok i w := by funext w; simp [typeInfo, hi', Sem.run, program]
  have hrun : (Instr.makeSlice T (.int k (m : Int)) (.int k' (m : Int))).run P w = .ok (sv ⟨some (w.heap.size, 0), m, m⟩) (w.alloc (.cells (Builtin.zeroCells z.cells m) E)) := by
    have h1 : ¬ ((i.bytes : Int) * (m : Int) > 2 ^ 48) := by
      have : ((2 : Int) ^ 48) = 281474976710656 := by simp
      have h48' : ((m * i.bytes : Nat) : Int) ≤ 281474976710656 := by omega
      rw [Int.natCast_mul] at h48'
      rw [this, Int.mul_comm]; omega
    have h2 : (decide ((m : Int) < 0) || decide ((i.bytes : Int) * (m : Int) > 2 ^ 48)) = false := by
      simp only [Bool.or_eq_false_iff, decide_eq_false_iff_not]; exact ⟨by omega, h1⟩
    have hask : ∀ b, (askRoom b).run P w = .ok () w := by intro b; unfold askRoom; split <;> rfl
    simp only [Instr.makeSlice, Sem.run_bind, run_underlying ht, Result.andThen_ok, asInt, asIntOf, Sem.run_pure, hty, hwr, h2]
    simp only [Bool.false_or, gt_iff_lt, Int.lt_irrefl, decide_false, Bool.or_false, Int.toNat_natCast]
    have h3 : ¬ (decide ((m : Int) < 0) = true) := by simp
    rw [if_neg h3]
    simp only [Sem.run_bind, Sem.run_pure, Result.andThen_ok, hask, sizeOf, hty]
    by_cases h0' : m * i.size = 0
    · rw [if_pos h0']
      have hm0 : m = 0 := by rcases Nat.mul_eq_zero.1 h0' with h | h <;> omega
      subst hm0
      have e0 : ∀ f : Nat → Value, Array.map f (Array.range (0 * i.size)) = #[] := by intro f; simp
      have e1 : Builtin.zeroCells z.cells 0 = #[] := by unfold Builtin.zeroCells; simp
      simp only [Sem.run_pure, Result.andThen_ok, e0, e1, Sem.run_bind, run_newRow]
      rfl
    · rw [if_neg h0']
      simp only [zeroValue, Sem.run_bind, hty, Result.andThen_ok, hz, Sem.run_pure, hcells, run_newRow]
      simp [sv]
  unfold execOp
  simp [ho, hx, hy, hrun]
end
end Go.Proofs.Ytpnbehgkbfhacaa.K
