/- Rules for the conversions between bytes and strings, copy, len, and error values. -/
import Derived.Test.YtpnbehgkbfhacaaSatMem
set_option linter.unusedVariables false
set_option linter.unusedSimpArgs false
namespace Go.Proofs.Ytpnbehgkbfhacaa.K
open Go

def byteCells (bs : List UInt8) : List Value := bs.map fun b => .int .u8 (b.toNat : Int)
section
variable {P : Program} {ρ : Operand → Value} {o : Oper} {H : SH}

/-- 'string(b)': b's bytes are known. -/
theorem ev_str {S T E : TypeId} {x : Operand} (ho : o.op = .convert S T x) (hS : P.underlying S = some (.slice E)) (hE : P.underlying E = some (.int .u8)) (hT : P.underlying T = some .string) {s : Sl} {bs : List UInt8} (hx : ρ x = sv s)
    (hl : s.len = bs.length) (hr : H.row s.a (byteCells bs)) (w : World) (hw : Sat H w) : (execOp ρ o).run P w = .ok (.value (.string ⟨bs.toArray⟩)) w := by
  have hrun : (convert S T (sv s)).run P w = .ok (.string ⟨bs.toArray⟩) w := by
    cases hb : bs with
    | nil =>
      subst hb
      unfold sv
      cases ha : s.a with
      | none => exact run_convert_bytes_nil w S E hS hE _ _ T hT
      | some p =>
        have h0 : s.len = 0 := by simpa using hl
        rw [h0]
        have := run_convert_bytes_arg w S E hS hE p.1 p.2 0 s.cap [] rfl (by simp) T hT
        exact this
    | cons b0 bs0 =>
      obtain ⟨p, hp, hc⟩ := hw.row hr (by rw [hb]; simp [byteCells])
      have := run_convert_bytes_arg w S E hS hE p.1 p.2 s.len s.cap (bs.map fun b => (b.toNat : Int)) (by simp [hl]) (fun i hi => by
        have hi' : i < bs.length := by omega
        have := hc i (.int .u8 (bs[i].toNat : Int)) (by simp [byteCells, hi'])
        rw [add_ad] at this
        rw [show (bs.map fun b => (b.toNat : Int)).getD i 0 = (bs[i].toNat : Int) by simp [List.getD_eq_getElem?_getD, hi']]
        exact this) T hT
      unfold sv
      rw [hp, ← hb]
      refine this.trans ?_
      congr 3
      simp only [strOfNums, List.map_map]
      have : ((fun n : Int => UInt8.ofNat n.toNat) ∘ fun b : UInt8 => (b.toNat : Int)) = id := by funext b; simp
      first
        | rw [this]; simp
        | simp
  unfold execOp
  simp [ho, hx, hrun]
end

section
variable {P : Program} {n : Nat} {fr : Fr} {H : SH} {Q : Post} {ops : Array Oper} {o : Oper} {l : List Oper}
/-- '[]byte(s)'. -/
theorem SOps.bytes {S T E : TypeId} {x : Operand} {d : Nat} {s : ByteArray} (ho : o.op = .convert S T x) (hd : o.dst = some d) (hg : wantF n ops fr o = true) (hS : P.underlying S = some .string) (hT : P.underlying T = some (.slice E)) (hE : P.underlying E = some (.int .u8)) (h8 : E = U8)
    (hx : evF n fr x = .string s) (hn : ∀ b cap, H b = none → s.size ≤ cap → SOps P n ops l (fr.upd d (sv ⟨some (b, 0), s.size, cap⟩)) (H.upd b ⟨byteCells s.data.toList, E, false, cap⟩) Q) : SOps P n ops (o :: l) fr H Q := by
  refine SOps.step (R := fun v' H' => ∃ b cap, H b = none ∧ s.size ≤ cap ∧ v' = sv ⟨some (b, 0), s.size, cap⟩ ∧ H' = H.upd b ⟨byteCells s.data.toList, E, false, cap⟩) hd hg (fun w hw => ?_) (fun v' H' ⟨b, cap, hb, hc, e1, e2⟩ => by subst e1; subst e2; exact hn b cap hb hc)
  have hge := grownCap_ge w s.size 0 E
  generalize hcap : grownCap w s.size 0 E = cap at hge
  let cells : Array Value := s.data.map (fun b => Value.int .u8 b.toNat) ++ Array.replicate (cap - s.size) (.int .u8 0)
  have hsz : cells.size = cap := by
    have : s.data.size = s.size := rfl
    simp [cells, this]; omega
  have hal := St.alloc (H := H) (w := w.drew) hw cells E
  have hrun : (convert S T (.string s)).run P w = .ok (sv ⟨some (w.heap.size, 0), s.size, cap⟩) ((w.drew.alloc (.cells cells E)).freeze ⟨w.heap.size, cap, none⟩ 1) := by
    have hch : (choose (.appendCap s.size 0 E)).run P w = .ok cap w.drew := by rw [← hcap]; rfl
    have hmark : (markStringish (ad (w.heap.size, 0))).run P (w.drew.alloc (.cells cells E)) = .ok () ((w.drew.alloc (.cells cells E)).freeze ⟨w.heap.size, cap, none⟩ 1) := by
      have hshape : (w.drew.alloc (.cells cells E)).shape? w.heap.size = some (E, cap) := by
        show (match (w.heap.push (Obj.cells cells E))[w.heap.size]? with | some (.cells c elem _) => some (elem, c.size) | _ => none) = _
        simp [hsz]
      unfold markStringish
      simp only [ad, shape, Sem.run_bind, Sem.run, hshape, Result.andThen_ok]
      rfl
    simp only [convert, Sem.run_bind, run_underlying hS, run_underlying hT, run_underlying hE, Result.andThen_ok, Conv.stringToBytes, hch]
    have hnr : (newRow E (s.data.map (fun b => Value.int .u8 b.toNat) ++ Array.replicate (cap - s.size) (.int .u8 0))).run P w.drew = .ok (ad (w.heap.size, 0)) (w.drew.alloc (.cells cells E)) := rfl
    rw [hnr, Result.andThen_ok, hmark, Result.andThen_ok]
    simp [sv, ad]
  refine ⟨_, _, (w.drew.alloc (.cells cells E)).freeze ⟨w.heap.size, cap, none⟩ 1, .inl ?_, ?_, w.heap.size, cap, hal.1, hge, rfl, rfl⟩
  · unfold execOp
    simp [ho, hx, hrun]
  · have hst := hal.2
    have hother : ∀ b, b ≠ w.heap.size → ((w.drew.alloc (.cells cells E)).freeze ⟨w.heap.size, cap, none⟩ 1).heap[b]? = (w.drew.alloc (.cells cells E)).heap[b]? := by
      intro b hb
      simp only [World.freeze, Nat.one_ne_zero, if_false, Array.getElem?_modify]
      rw [if_neg (fun e => hb e.symm)]
    refine ⟨hst.os, hst.tape, hst.output, ?_, ?_, ?_, ?_⟩
    · have h1 : ((w.drew.alloc (.cells cells E)).freeze ⟨w.heap.size, cap, none⟩ 1).heap.size = (w.drew.alloc (.cells cells E)).heap.size := by simp [World.freeze]
      rw [h1]; simp
    · intro b hb hr
      rw [hother b (by omega)]
      exact hst.keep b hb hr
    · intro b ob hb
      by_cases hbs : b = w.heap.size
      · subst hbs
        rw [SH.upd_same] at hb
        obtain rfl := Option.some.inj hb
        refine SatO.mk rfl ⟨List.replicate (cap - s.size) (.int .u8 0), (cap, cap + 1), ?_, ?_, ?_⟩
        · simp only [World.freeze, Nat.one_ne_zero, if_false, Array.getElem?_modify, if_true]
          show ((w.heap.push (Obj.cells cells E))[w.heap.size]?).map _ = _
          simp [cells, byteCells]
        · have : s.data.toList.length = s.size := Array.length_toList
          simp [byteCells]
          have : s.data.size = s.size := rfl
          omega
        · intro _ i hi
          have hi' : i < cap := hi.resolve_right (fun h => h h8)
          simp; omega
      · rw [SH.upd_ne _ _ hbs] at hb
        rw [hother b hbs]
        exact hst.sat b ob (by rw [SH.upd_ne _ _ (by exact hbs)]; exact hb)
    · intro b ob hb
      by_cases hbs : b = w.heap.size
      · right; subst hbs; exact Nat.le_refl _
      · rw [SH.upd_ne _ _ hbs] at hb
        exact .inl ⟨ob, hb, id⟩

/-- copy: what is read is known; it is written to a row that is there. -/
theorem SOps.copy {t tx E : TypeId} {s' x' : Operand} {d size : Nat} (ho : o.op = .call { callee := .builtin .copy, args := #[s', x'], argTypes := #[t, tx] }) (hd : o.dst = some d) (hg : wantF n ops fr o = true)
    (ht : P.underlying t = some (.slice E)) (hi : (P.info? E).map (·.size) = some size) {s : Sl} {x : Value} {m : Nat} {news : List Value} (hs : evF n fr s' = sv s) (hx : evF n fr x' = x)
    (hlen : ∀ w, (Builtin.lenOf x).run P w = .ok m w) (hr : Reads P H size tx x (Nat.min m s.len) news ∨ (∃ s2 : Sl, x = sv s2 ∧ H.row s2.a news)) (hl : news.length = Nat.min m s.len * size) (h1 : ∀ u ∈ news, u.oneCell' = true)
    (hn0 : s.a = none → SOps P n ops l (fr.upd d (.int .i64 (Nat.min m s.len : Nat))) H Q)
    (hn1 : ∀ p, s.a = some p → H.wrs p news.length ∧ SOps P n ops l (fr.upd d (.int .i64 (Nat.min m s.len : Nat))) (H.setl p news) Q) : SOps P n ops (o :: l) fr H Q := by
  obtain ⟨i, hi', rfl⟩ := Option.map_eq_some_iff.1 hi
  have hcells : ∀ w, Sat H w → (Builtin.firstCells i.size (Nat.min m s.len) x).run P w = .ok news.toArray w := by
    intro w hw
    rcases hr with hr | ⟨s2, rfl, hr⟩
    · exact hr.cells hl hw
    · have := Reads.cells (P := P) (H := H) (size := i.size) (tx := t) (x := sv ⟨s2.a, Nat.min m s.len, s2.cap⟩) (m := Nat.min m s.len) (news := news) (.inl ⟨⟨E, ht⟩, _, rfl, rfl, hr⟩) hl hw
      unfold sv at this ⊢
      cases ha : s2.a with
      | none => rw [ha] at this; simpa [Builtin.firstCells] using this
      | some p => rw [ha] at this; simpa [Builtin.firstCells] using this
  cases ha : s.a with
  | none =>
    refine SOps.step (R := fun v' H' => v' = .int .i64 (Nat.min m s.len : Nat) ∧ H' = H) hd hg (fun w hw => ?_) (fun v' H' ⟨e1, e2⟩ => by subst e1; subst e2; exact hn0 ha)
    refine ⟨_, H, w, .inl ?_, .refl hw, rfl, rfl⟩
    have hc := hcells w hw
    have hsz : (sizeOf E).run P w = .ok i.size w := by simp [sizeOf, typeInfo, hi', Sem.run, program]
    have hrun : (Builtin.copy_ #[t, tx] o.type #[.slice none s.len s.cap, x]).run P w = .ok (.int .i64 (Nat.min m s.len : Nat)) w := by
      simp only [Builtin.copy_, List.getElem?_toArray, List.getElem?_cons_zero, List.getElem?_cons_succ, Sem.run_bind, run_underlying ht, Result.andThen_ok, hlen, hsz, hc]
      rfl
    unfold execOp
    simp [ho, resolve, hs, hx, invoke, builtin, sv, ha, hrun]
  | some p =>
    obtain ⟨hw1, hn⟩ := hn1 p ha
    refine SOps.step (R := fun v' H' => v' = .int .i64 (Nat.min m s.len : Nat) ∧ H' = H.setl p news) hd hg (fun w hw => ?_) (fun v' H' ⟨e1, e2⟩ => by subst e1; subst e2; exact hn)
    obtain ⟨w', hst, hSt⟩ := storeCells_St (P := P) hw hw1 h1
    refine ⟨_, _, w', .inl ?_, hSt, rfl, rfl⟩
    have hc := hcells w hw
    have hsz : (sizeOf E).run P w = .ok i.size w := by simp [sizeOf, typeInfo, hi', Sem.run, program]
    have hrun : (Builtin.copy_ #[t, tx] o.type #[.slice (some (ad p)) s.len s.cap, x]).run P w = .ok (.int .i64 (Nat.min m s.len : Nat)) w' := by
      simp only [Builtin.copy_, List.getElem?_toArray, List.getElem?_cons_zero, List.getElem?_cons_succ, Sem.run_bind, run_underlying ht, Result.andThen_ok, hlen, hsz, hc, hst]
      rfl
    unfold execOp
    simp [ho, resolve, hs, hx, invoke, builtin, sv, ha, hrun]

/-- A store, its cells told. -/
theorem SOps.storeL {T : TypeId} {x y : Operand} {p : Nat × Nat} {v : Value} {cs : List Value} {size : Nat} (ho : o.op = .store T x y) (hd : o.dst = none) (hg : wantF n ops fr o = true) (hs : (P.info? T).map (·.size) = some size) (hx : evF n fr x = pv (some p)) (hy : evF n fr y = v)
    (hcs : v.cells = cs.toArray) (hsz : cs.length = size) (h1 : ∀ u ∈ cs, u.oneCell' = true) (hc : H.wrs p cs.length) (hn : SOps P n ops l fr (H.setl p cs) Q) : SOps P n ops (o :: l) fr H Q :=
  SOps.store (v := v) ho hd hg hs hx hy (by rw [hcs]; simpa using hsz) (by rw [hcs]; exact h1) (by rw [hcs]; exact hc) (by rw [hcs]; exact hn)

theorem AppendQ.mono {E : TypeId} {size bytes : Nat} {s : Sl} {m : Nat} {news : List Value} {K K' : Sl → SH → Prop} (h : AppendQ H E size bytes s m news K) (hk : ∀ s' H', K s' H' → K' s' H') : AppendQ H E size bytes s m news K' := by
  obtain ⟨h1, h2, h3, h4, h5, h6⟩ := h
  refine ⟨h1, h2, h3, h4, fun hc => ⟨fun ha => hk _ _ ((h5 hc).1 ha), fun p hp => ?_⟩, fun hc => ?_⟩
  · obtain ⟨o, a, b, c, d, e⟩ := (h5 hc).2 p hp
    exact ⟨o, a, b, c, d, hk _ _ e⟩
  · obtain ⟨olds, a, b, c⟩ := h6 hc
    exact ⟨olds, a, b, fun b' cap hb hcap => hk _ _ (c b' cap hb hcap)⟩

/-- A block that is not owned falls out of what append leaves. -/
theorem AppendQ.beside {E : TypeId} {size bytes : Nat} {s : Sl} {m : Nat} {news : List Value} {K : Sl → SH → Prop} (h : AppendQ H E size bytes s m news K) {b : Nat} (hb : H b = none) (ob : AO) :
    AppendQ (H.upd b ob) E size bytes s m news (fun s' H' => ∃ H'', K s' H'' ∧ ∀ c oc, H'' c = some oc → H' c = some oc) := by
  obtain ⟨h1, h2, h3, h4, h5, h6⟩ := h
  have hne : ∀ {c oc}, H c = some oc → c ≠ b := by rintro c oc hc rfl; rw [hb] at hc; cases hc
  refine ⟨h1, h2, h3, h4, fun hc => ⟨fun ha => ⟨H, (h5 hc).1 ha, fun c oc hco => by rw [SH.upd_ne _ _ (hne hco)]; exact hco⟩, fun p hp => ?_⟩, fun hc => ?_⟩
  · obtain ⟨o, a, b', c, d, e⟩ := (h5 hc).2 p hp
    refine ⟨o, by rw [SH.upd_ne _ _ (hne a)]; exact a, b', c, d, _, e, fun q oq hq => ?_⟩
    by_cases hqp : q = p.1
    · subst hqp; rw [SH.upd_same] at hq ⊢; exact hq
    · rw [SH.upd_ne _ _ hqp] at hq ⊢; rw [SH.upd_ne _ _ (hne hq)]; exact hq
  · obtain ⟨olds, a, b', c⟩ := h6 hc
    refine ⟨olds, a, ?_, fun q cap hq hcap => ?_⟩
    · rcases b' with b' | ⟨p, o, e1, e2, e3⟩
      · exact .inl b'
      · exact .inr ⟨p, o, e1, by rw [SH.upd_ne _ _ (hne e2)]; exact e2, e3⟩
    · have hqb : q ≠ b := by rintro rfl; rw [SH.upd_same] at hq; cases hq
      rw [SH.upd_ne _ _ hqb] at hq
      refine ⟨_, c q cap hq hcap, fun r or hr => ?_⟩
      by_cases hrq : r = q
      · subst hrq; rw [SH.upd_same] at hr ⊢; exact hr
      · rw [SH.upd_ne _ _ hrq] at hr ⊢; rw [SH.upd_ne _ _ (hne hr)]; exact hr

/-- 'append(s, x, y)': the slice of what is appended is made for it alone. -/
theorem SOps.litAppend {t tx E T : TypeId} {parts : Array (Nat × Operand)} {s' : Operand} {d d2 size bytes m : Nat} {z : Value} {cs : Array Value} {o2 : Oper} {s : Sl}
    (ho : o.op = .buildSlice T m parts) (hd : o.dst = some d) (hg : wantF n ops fr o = true) (hx : ∀ w, (Instr.buildSlice T m (parts.map fun (i, x) => (i, evF n fr x))).run P w = (newRow E cs >>= fun a => pure (.slice (some a) m m) : Sem Value).run P w)
    (ho2 : o2.op = .call { callee := .builtin .append, args := #[s', .tmp d], argTypes := #[t, tx] }) (hd2 : o2.dst = some d2) (hg2 : ∀ fr, wantF n ops fr o2 = true)
    (ht : P.underlying t = some (.slice E)) (htx : P.underlying tx = some (.slice E)) (hi : (P.info? E).map (fun i => (i.zero, i.size, i.bytes)) = some (some z, size, bytes)) (hzs : z.cells.size = size)
    (hdn : Nat.blt d n = true) (hs : ∀ v, evF n (fr.upd d v) s' = sv s)
    (h : AppendQ H E size bytes s m cs.toList (fun s2 H' => ∀ b, SOps P n ops l ((fr.upd d (sv ⟨some (b, 0), m, m⟩)).upd d2 (sv s2)) H' Q)) : SOps P n ops (o :: o2 :: l) fr H Q := by
  refine SOps.lit ho hd hg hx fun b hb => ?_
  refine SOps.append (s := s) (x := sv ⟨some (b, 0), m, m⟩) (m := m) (news := cs.toList) ho2 hd2 (hg2 _) ht hi hzs (hs _) ?_ (.inl ⟨⟨E, htx⟩, _, rfl, rfl, .inr ⟨(b, 0), _, rfl, SH.upd_same _ _ _, fun j u hu => by simpa using hu⟩⟩) ((h.beside hb _).mono ?_)
  · simp [evF, hdn, Fr.upd]
  · rintro s2 H' ⟨H'', hk, hsub⟩
    exact SOps.forget H'' hsub (hk b)
end

def bt (s : ByteArray) (i : Int) : Int := if h : i.toNat < s.size then ((s[i.toNat]'h).toNat : Int) else 0
theorem ev_idxB {P : Program} {ρ : Operand → Value} {o : Oper} {T : TypeId} {x ix : Operand} (ho : o.op = .index T x ix) (hT : P.underlying T = some .string) {s : ByteArray} {k : IntKind} {i : Int} (hx : ρ x = .string s) (hi : ρ ix = .int k i) (h0 : 0 ≤ i) (h1 : i < (s.size : Int)) (w : World) :
    (execOp ρ o).run P w = .ok (.value (.int .u8 (bt s i))) w := by
  have h2 : i.toNat < s.size := by omega
  rw [ev_idxS ho hT hx hi h0 h2 w]; simp [bt, h2]
@[reducible] def imin (x y : Int) : Int := if y < x then y else x
@[reducible] def imax (x y : Int) : Int := if y > x then y else x
end Go.Proofs.Ytpnbehgkbfhacaa.K
