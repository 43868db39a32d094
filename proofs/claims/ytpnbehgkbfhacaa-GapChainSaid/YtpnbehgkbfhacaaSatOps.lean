/- Rules for single operations: what is read, made, written. -/
import Derived.Test.YtpnbehgkbfhacaaSat
import Derived.Laws.Rows
import Derived.Laws.IdiomCopy
import Derived.Laws.Append
import Derived.Laws.AppendOwn
import Derived.Lib.AppendStr
import Derived.Laws.BytesArg
import Derived.WideLaws
import Derived.Lib.ConvBytes
set_option linter.unusedVariables false
set_option linter.unusedSimpArgs false
namespace Go.Proofs.Ytpnbehgkbfhacaa.K
open Go

/-! ### addresses, slices -/
def ad (p : Nat × Nat) : Addr := ⟨p.1, p.2, none⟩
def pv (p : Option (Nat × Nat)) : Value := .pointer (p.map ad)
structure Sl where
  a : Option (Nat × Nat)
  len : Nat
  cap : Nat
def Sl.nil : Sl := ⟨none, 0, 0⟩
def sv (s : Sl) : Value := .slice (s.a.map ad) s.len s.cap
theorem add_ad (p : Nat × Nat) (n : Nat) : (ad p).add n = ad (p.1, p.2 + n) := by
  unfold Addr.add ad; split <;> simp_all

/-! ### what is known of the heap -/
def SH.has (H : SH) (p : Nat × Nat) (v : Value) : Prop := ∃ o, H p.1 = some o ∧ o.cells[p.2]? = some v
def SH.wr (H : SH) (p : Nat × Nat) : Prop := ∃ o, H p.1 = some o ∧ o.ro = false ∧ p.2 < o.cells.length
def SH.set (H : SH) (p : Nat × Nat) (v : Value) : SH :=
  match H p.1 with
  | some o => H.upd p.1 { o with cells := o.cells.set p.2 v }
  | none => H
/-- A row of cells. -/
def SH.row (H : SH) (a : Option (Nat × Nat)) (cs : List Value) : Prop := cs = [] ∨ ∃ p o, a = some p ∧ H p.1 = some o ∧ ∀ j u, cs[j]? = some u → o.cells[p.2 + j]? = some u

section
variable {H : SH} {w : World}
theorem Sat.cell (h : Sat H w) {p : Nat × Nat} {v : Value} (hv : H.has p v) : w.cell? (ad p) = some v := by
  obtain ⟨o, hb, hc⟩ := hv
  obtain ⟨_, rest, fz, he, _⟩ := (h _ o hb).got (.inr (.inl (by intro e; rw [e] at hc; simp at hc)))
  have hlt : p.2 < o.cells.length := (List.getElem?_eq_some_iff.1 hc).1
  simp [World.cell?, ad, he, List.getElem?_append_left hlt, hc]
theorem Sat.row (h : Sat H w) {a : Option (Nat × Nat)} {cs : List Value} (hr : H.row a cs) (hne : cs ≠ []) : ∃ p, a = some p ∧ ∀ j v, cs[j]? = some v → w.cell? ((ad p).add j) = some v := by
  rcases hr with hr | ⟨p, o, ha, hb, hc⟩
  · exact absurd hr hne
  · refine ⟨p, ha, fun j v hv => ?_⟩
    rw [add_ad]
    exact h.cell ⟨o, hb, hc j v hv⟩
end

/-! ### what reads -/
section
variable {P : Program} {ρ : Operand → Value} {o : Oper}

theorem ev_idxS {T : TypeId} {x ix : Operand} (ho : o.op = .index T x ix) (hT : P.underlying T = some .string) {s : ByteArray} {k : IntKind} {i : Int} (hx : ρ x = .string s) (hi : ρ ix = .int k i) (h0 : 0 ≤ i) (h1 : i.toNat < s.size) (w : World) :
    (execOp ρ o).run P w = .ok (.value (.int .u8 (s[i.toNat]'h1).toNat)) w := by
  unfold execOp
  simp [ho, hx, hi, Instr.index, asIntOf, run_underlying hT, h0, h1]

theorem ev_subS {T : TypeId} {x : Operand} {lo hi : Option Operand} (ho : o.op = .slice T x lo hi none) (hT : P.underlying T = some .string) {s : ByteArray} {a b : Int} (hx : ρ x = .string s)
    (hlo : (lo.map ρ = none ∧ a = 0) ∨ ∃ k, lo.map ρ = some (.int k a)) (hhi : (hi.map ρ = none ∧ b = s.size) ∨ ∃ k, hi.map ρ = some (.int k b)) (h0 : 0 ≤ a) (h1 : a ≤ b) (h2 : b ≤ s.size) (w : World) :
    (execOp ρ o).run P w = .ok (.value (.string (s.extract a.toNat b.toNat))) w := by
  have hb0 : 0 ≤ b := by omega
  have hbb : ((b.toNat : Nat) : Int) = b := by omega
  unfold execOp
  simp only [ho, hx, Sem.run_bind, Instr.sliceAt, run_underlying hT, Result.andThen_ok, Instr.slice, Option.map_none, Option.isSome_none, Bool.false_eq_true, if_false, Instr.sliceBounds]
  rcases hlo with ⟨hlo, rfl⟩ | ⟨k, hlo⟩ <;> rcases hhi with ⟨hhi, rfl⟩ | ⟨k', hhi⟩ <;> simp [hlo, hhi, Instr.sliceBound, asIntOf, h0, h1, h2, hb0, hbb, -Int.ofNat_toNat]

theorem ev_cat {T U : TypeId} {x y : Operand} (ho : o.op = .binOp .add T x y U) {s t : ByteArray} (hx : ρ x = .string s) (hy : ρ y = .string t) (h : s.size + t.size ≤ 9223372036854775807) (w : World) :
    (execOp ρ o).run P w = .ok (.value (.string (s ++ t))) w := by
  have hm : IntKind.i64.max = 9223372036854775807 := rfl
  have h' : ¬ (((s.size + t.size : Nat) : Int) > IntKind.i64.max) := by rw [hm]; omega
  have hb : (binOp .add T (.string s) (.string t)).run P w = .ok (.string (s ++ t)) w := by
    show (if ((s.size + t.size : Nat) : Int) > IntKind.i64.max then _ else _ : Sem Value).run P w = _
    rw [if_neg h']; rfl
  unfold execOp
  simp only [ho, hx, hy, Sem.run_bind]
  have he : (eqGuard .add T x y (.string s) (.string t)).run P w = .ok () w := rfl
  rw [he, Result.andThen_ok, hb]; rfl

theorem toList_eq (s : ByteArray) : s.toList = s.data.toList := by
  have key : ∀ (n i : Nat) (r : List UInt8), s.size - i = n → ByteArray.toList.loop s i r = r.reverse ++ s.data.toList.drop i := by
    intro n
    induction n with
    | zero =>
      intro i r h
      unfold ByteArray.toList.loop
      have hl : s.data.toList.length = s.size := Array.length_toList
      rw [if_neg (by omega), List.drop_eq_nil_of_le (by omega)]
      simp
    | succ n ih =>
      intro i r h
      unfold ByteArray.toList.loop
      have hi : i < s.size := by omega
      have hl : s.data.toList.length = s.size := Array.length_toList
      have hi' : i < s.data.toList.length := by omega
      rw [if_pos hi, ih (i + 1) _ (by omega), List.drop_eq_getElem_cons hi']
      have : s.get! i = s.data.toList[i] := by
        have hi2 : i < s.data.size := hi
        show s.data.get!Internal i = _
        rw [Array.getElem_toList]
        exact getElem!_pos s.data i hi2
      simp [this]
  have h0 := key _ 0 [] rfl
  unfold ByteArray.toList
  rw [h0]; simp
theorem beq_toList (s t : ByteArray) : (s.toList == t.toList) = decide (s = t) := by
  rw [toList_eq, toList_eq, Bool.eq_iff_iff]
  simp only [beq_iff_eq, decide_eq_true_eq]
  constructor
  · intro h
    have : s.data = t.data := Array.toList_inj.1 h
    cases s; cases t; simp_all
  · rintro rfl; rfl
theorem ev_eqS {T U : TypeId} {x y : Operand} (ho : o.op = .binOp .eql T x y U) {s t : ByteArray} (hx : ρ x = .string s) (hy : ρ y = .string t) (w : World) :
    (execOp ρ o).run P w = .ok (.value (.bool (decide (s = t)))) w := by
  have hb : (binOp .eql T (.string s) (.string t)).run P w = .ok (.bool (s.toList == t.toList)) w := rfl
  have he : (eqGuard .eql T x y (.string s) (.string t)).run P w = .ok () w := rfl
  unfold execOp
  simp only [ho, hx, hy, Sem.run_bind]
  rw [he, Result.andThen_ok, hb, beq_toList]; rfl
theorem ev_neS {T U : TypeId} {x y : Operand} (ho : o.op = .binOp .neq T x y U) {s t : ByteArray} (hx : ρ x = .string s) (hy : ρ y = .string t) (w : World) :
    (execOp ρ o).run P w = .ok (.value (.bool (!decide (s = t)))) w := by
  have hb : (binOp .neq T (.string s) (.string t)).run P w = .ok (.bool (!(s.toList == t.toList))) w := rfl
  have he : (eqGuard .neq T x y (.string s) (.string t)).run P w = .ok () w := rfl
  unfold execOp
  simp only [ho, hx, hy, Sem.run_bind]
  rw [he, Result.andThen_ok, hb, beq_toList]; rfl

theorem ev_quo {T U : TypeId} {x y : Operand} (ho : o.op = .binOp .quo T x y U) {k : IntKind} {a b : Int} (hx : ρ x = .int k a) (hy : ρ y = .int k b) (h : b ≠ 0) (w : World) :
    (execOp ρ o).run P w = .ok (.value (.int k (k.wrap (a.tdiv b)))) w := by
  unfold execOp; simp [ho, hx, hy, eqGuard, binOp, Op.intDiv, h]
theorem ev_rem {T U : TypeId} {x y : Operand} (ho : o.op = .binOp .rem T x y U) {k : IntKind} {a b : Int} (hx : ρ x = .int k a) (hy : ρ y = .int k b) (h : b ≠ 0) (w : World) :
    (execOp ρ o).run P w = .ok (.value (.int k (a.tmod b))) w := by
  unfold execOp; simp [ho, hx, hy, eqGuard, binOp, Op.intDiv, h]
/-- What '<<' and '>>' come to. -/
def ishl (k : IntKind) (x y : Int) : Int := k.wrap (x * 2 ^ (min y.toNat k.bits))
def ishr (k : IntKind) (x y : Int) : Int := x.fdiv (2 ^ (min y.toNat k.bits))
theorem ev_shl {T U : TypeId} {x y : Operand} (ho : o.op = .binOp .shl T x y U) {k q : IntKind} {a b : Int} (hx : ρ x = .int k a) (hy : ρ y = .int q b) (h : 0 ≤ b) (w : World) :
    (execOp ρ o).run P w = .ok (.value (.int k (ishl k a b))) w := by
  unfold execOp; simp [ho, hx, hy, eqGuard, binOp, Op.shift, ishl, Int.not_lt.2 h]
theorem ev_shr {T U : TypeId} {x y : Operand} (ho : o.op = .binOp .shr T x y U) {k q : IntKind} {a b : Int} (hx : ρ x = .int k a) (hy : ρ y = .int q b) (h : 0 ≤ b) (w : World) :
    (execOp ρ o).run P w = .ok (.value (.int k (ishr k a b))) w := by
  unfold execOp; simp [ho, hx, hy, eqGuard, binOp, Op.shift, ishr, Int.not_lt.2 h]

theorem ev_pickT {c a b : Operand} {v : Value} (ho : o.op = .pick c a b) {t : Bool} (hc : ρ c = .bool t) (h : t = true) (hv : ρ a = v) (w : World) : (execOp ρ o).run P w = .ok (.value v) w := by
  subst h; subst hv; unfold execOp; simp [ho, hc, asBool]
theorem ev_pickF {c a b : Operand} {v : Value} (ho : o.op = .pick c a b) {t : Bool} (hc : ρ c = .bool t) (h : t = false) (hv : ρ b = v) (w : World) : (execOp ρ o).run P w = .ok (.value v) w := by
  subst h; subst hv; unfold execOp; simp [ho, hc, asBool]

/-- The address of a slice's element. -/
theorem ev_iaddr {T E : TypeId} {x ix : Operand} (ho : o.op = .indexAddr T x ix) (hT : P.underlying T = some (.slice E)) {size : Nat} (hs : (P.info? E).map (·.size) = some size) {s : Sl} {p : Nat × Nat} {k : IntKind} {i : Int}
    (hx : ρ x = sv s) (hi : ρ ix = .int k i) (hp : s.a = some p) (h0 : 0 ≤ i) (h1 : i < s.len) (w : World) :
    (execOp ρ o).run P w = .ok (.value (pv (some (p.1, p.2 + i.toNat * size)))) w := by
  obtain ⟨inf, hinf, rfl⟩ := Option.map_eq_some_iff.1 hs
  unfold execOp
  simp [ho, hx, hi, sv, hp, Instr.indexAt, asIntOf, run_underlying hT, h0, h1, sizeOf, typeInfo, hinf, add_ad, pv]

/-- A slice of a slice. -/
def Sl.sub (size : Nat) (s : Sl) (l h m : Nat) : Sl := ⟨if m = l then s.a else s.a.map (fun p => (p.1, p.2 + l * size)), h - l, m - l⟩
theorem ev_sub {T E : TypeId} {x : Operand} {lo hi : Option Operand} (ho : o.op = .slice T x lo hi none) (hT : P.underlying T = some (.slice E)) {size : Nat} (hs : (P.info? E).map (·.size) = some size) {s : Sl} {a b : Int} (hx : ρ x = sv s)
    (hlo : (lo.map ρ = none ∧ a = 0) ∨ ∃ k, lo.map ρ = some (.int k a)) (hhi : (hi.map ρ = none ∧ b = s.len) ∨ ∃ k, hi.map ρ = some (.int k b)) (h0 : 0 ≤ a) (h1 : a ≤ b) (h2 : b ≤ s.cap) (w : World) :
    (execOp ρ o).run P w = .ok (.value (sv (s.sub size a.toNat b.toNat s.cap))) w := by
  obtain ⟨inf, hinf, rfl⟩ := Option.map_eq_some_iff.1 hs
  have hb0 : 0 ≤ b := by omega
  have hbb : ((b.toNat : Nat) : Int) = b := by omega
  have e : ∀ l m : Nat, (if m = l then s.a.map ad else Option.map ((fun x => x.add (l * inf.size)) ∘ ad) s.a) = (if m = l then s.a else s.a.map (fun p => (p.1, p.2 + l * inf.size))).map ad := by
    intro l m; split
    · rfl
    · cases s.a with
      | none => rfl
      | some p => simp [add_ad]
  have e0 := e 0 s.cap
  simp at e0
  unfold execOp
  simp only [ho, hx, sv, Sem.run_bind, Instr.sliceAt, run_underlying hT, Result.andThen_ok, Instr.slice, Option.map_none, Option.isSome_none, Bool.false_eq_true, if_false, Instr.sliceBounds]
  rcases hlo with ⟨hlo, rfl⟩ | ⟨k, hlo⟩ <;> rcases hhi with ⟨hhi, rfl⟩ | ⟨k', hhi⟩ <;> simp [hlo, hhi, Instr.sliceBound, asIntOf, h0, h1, h2, hb0, hbb, sizeOf, typeInfo, hinf, Sl.sub, e, e0, -Int.ofNat_toNat]
/-- 's[l:h:m]'. -/
theorem ev_sub3 {T E : TypeId} {x hi mx : Operand} {lo : Option Operand} (ho : o.op = .slice T x lo (some hi) (some mx)) (hT : P.underlying T = some (.slice E)) {size : Nat} (hs : (P.info? E).map (·.size) = some size) {s : Sl} {a b c : Int} (hx : ρ x = sv s)
    (hlo : (lo.map ρ = none ∧ a = 0) ∨ ∃ k, lo.map ρ = some (.int k a)) {kb kc : IntKind} (hhi : ρ hi = .int kb b) (hmx : ρ mx = .int kc c) (h0 : 0 ≤ a) (h1 : a ≤ b) (h2 : b ≤ c) (h3 : c ≤ s.cap) (w : World) :
    (execOp ρ o).run P w = .ok (.value (sv (s.sub size a.toNat b.toNat c.toNat))) w := by
  obtain ⟨inf, hinf, rfl⟩ := Option.map_eq_some_iff.1 hs
  have hb0 : 0 ≤ b := by omega
  have hc0 : 0 ≤ c := by omega
  have e : ∀ l m : Nat, (if m = l then s.a.map ad else Option.map ((fun x => x.add (l * inf.size)) ∘ ad) s.a) = (if m = l then s.a else s.a.map (fun p => (p.1, p.2 + l * inf.size))).map ad := by
    intro l m; split
    · rfl
    · cases s.a with
      | none => rfl
      | some p => simp [add_ad]
  have e0 := e 0 c.toNat
  simp at e0
  have hcc : ((c.toNat : Nat) : Int) = c := by omega
  have hbb : ((b.toNat : Nat) : Int) = b := by omega
  unfold execOp
  simp only [ho, hx, sv, Sem.run_bind, Instr.sliceAt, run_underlying hT, Result.andThen_ok, Instr.slice, Option.map_some, Instr.sliceBounds, hhi, hmx]
  rcases hlo with ⟨hlo, rfl⟩ | ⟨k, hlo⟩ <;> simp [hlo, Instr.sliceBound, asIntOf, h0, h1, h2, h3, hb0, hc0, hbb, hcc, sizeOf, typeInfo, hinf, Sl.sub, e, e0, -Int.ofNat_toNat]

/-- A load of one cell. -/
theorem ev_load1 {H : SH} {T : TypeId} {x : Operand} (ho : o.op = .load T x) (hA : ∀ w, (isAgg T).run P w = .ok false w) {p : Nat × Nat} {v : Value} (hx : ρ x = pv (some p)) (hc : H.has p v) (w : World) (hw : Sat H w) :
    (execOp ρ o).run P w = .ok (.value v) w := by
  unfold execOp
  simp [ho, hx, pv, Instr.loadAt, Instr.sureAddr, loadVar, hA, hw.cell hc]
/-- A load of a struct, or of an array. -/
theorem ev_loadN {H : SH} {T : TypeId} {x : Operand} (ho : o.op = .load T x) (hA : ∀ w, (isAgg T).run P w = .ok true w) {size : Nat} (hs : (P.info? T).map (·.size) = some size) {p : Nat × Nat} {cs : List Value} (hx : ρ x = pv (some p)) (hl : cs.length = size) (hc : H.row (some p) cs) (w : World) (hw : Sat H w) :
    (execOp ρ o).run P w = .ok (.value (.agg cs.toArray)) w := by
  obtain ⟨inf, hinf, rfl⟩ := Option.map_eq_some_iff.1 hs
  have hcells : ∀ j v, cs[j]? = some v → w.cell? ((ad p).add j) = some v := by
    intro j v hv
    obtain ⟨p', hp', h'⟩ := hw.row hc (by rintro rfl; simp at hv)
    cases hp'; exact h' j v hv
  have := run_loadCells_list (P := P) w (ad p) cs hcells
  unfold execOp
  simp [ho, hx, pv, Instr.loadAt, Instr.sureAddr, loadVar, hA, sizeOf, typeInfo, hinf, ← hl, this]
end

/-! ### what writes, and makes -/
section
variable {P : Program} {n : Nat} {fr : Fr} {H : SH} {Q : Post} {ops : Array Oper} {o : Oper} {l : List Oper}

theorem St.fewer {w0 w : World} {H0 H H' : SH} (h : St w0 H0 H w) (hs : ∀ b o, H' b = some o → H b = some o) : St w0 H0 H' w :=
  { h with sat := fun b o hb => h.sat b o (hs b o hb), own := fun b o hb => h.own b o (hs b o hb) }
theorem SOps.forget (H' : SH) (hs : ∀ b o, H' b = some o → H b = some o) (h : SOps P n ops l fr H' Q) : SOps P n ops l fr H Q := fun w0 H0 w st => h w0 H0 w (st.fewer hs)
theorem SW.forget {c : Code} (H' : SH) (hs : ∀ b o, H' b = some o → H b = some o) (h : SW P n c fr H' Q) : SW P n c fr H Q := fun w0 H0 w st => h w0 H0 w (st.fewer hs)

/-- A new block. -/
theorem St.alloc {w : World} (hw : Sat H w) (cs : Array Value) (t : TypeId) : H w.heap.size = none ∧ St w H (H.upd w.heap.size ⟨cs.toList, t, false, cs.size⟩) (w.alloc (.cells cs t)) := by
  have hnew : H w.heap.size = none := by
    cases h : H w.heap.size with
    | none => rfl
    | some o => exact absurd (hw.lt h) (by omega)
  refine ⟨hnew, ?_⟩
  have hold : ∀ b, b ≠ w.heap.size → (w.alloc (.cells cs t)).heap[b]? = w.heap[b]? := by
    intro b hb
    show (w.heap.push _)[b]? = _
    rw [Array.getElem?_push, if_neg hb]
  refine ⟨rfl, rfl, rfl, by simp, fun b hb _ => hold b (by omega), ?_, ?_⟩
  · intro b ob hb
    by_cases hbs : b = w.heap.size
    · subst hbs
      rw [SH.upd_same] at hb
      obtain rfl := Option.some.inj hb
      refine SatO.mk rfl ⟨[], (0, 0), ?_, by simp, fun _ i _ => by simp⟩
      show (w.heap.push _)[w.heap.size]? = _
      simp
    · rw [SH.upd_ne _ _ hbs] at hb
      rw [hold b hbs]; exact hw b ob hb
  · intro b ob hb
    by_cases hbs : b = w.heap.size
    · right; omega
    · rw [SH.upd_ne _ _ hbs] at hb
      exact .inl ⟨ob, hb, id⟩
/-- A draw. -/
theorem St.drew {w0 w : World} {H0 H : SH} (h : St w0 H0 H w) : St w0 H0 H w.drew := ⟨h.os, h.tape, h.output, h.size, h.keep, h.sat, h.own⟩

/-- A row is written anew in its own block. -/
theorem St.setRow {w : World} (hw : Sat H w) {b : Nat} {ob : AO} (hb : H b = some ob) (hro : ob.ro = false) (cs : Array Value) (hs : cs.size = ob.size) (ob' : AO) (hty : ob'.ty = ob.ty) (hsz : ob'.size = ob.size) (hr' : ob'.ro = false)
    (hpre : ∃ rest, cs.toList = ob'.cells ++ rest) (hmp : ob'.mp = ob.mp := by rfl) : St w H (H.upd b ob') (w.setRow b cs) := by
  obtain ⟨hmn, rest, fz, he, hlen, hfz⟩ := (hw b ob hb).got (.inl hro)
  refine ⟨rfl, rfl, rfl, by simp, ?_, ?_, ?_⟩
  · intro c hc hro'
    have : c ≠ b := by rintro rfl; have := hro' ob hb; simp [AO.fix, hro] at this
    exact setRow_other w b c cs this
  · intro c oc hc
    by_cases hcb : c = b
    · subst hcb
      rw [SH.upd_same] at hc
      obtain rfl := Option.some.inj hc
      obtain ⟨rest', hrest⟩ := hpre
      refine SatO.mk (by rw [hmp]; exact hmn) ⟨rest', fz, ?_, ?_, ?_⟩
      · rw [setRow_heap w c _ cs ob.ty fz he, hty, ← hrest, Array.toArray_toList]
      · rw [← hrest, hsz, ← hs]; simp
      · intro _ i hi; rw [hsz, hty] at hi; exact hfz hro i hi
    · rw [SH.upd_ne _ _ hcb] at hc
      rw [setRow_other w b c cs hcb]; exact hw c oc hc
  · intro c oc hc
    by_cases hcb : c = b
    · subst hcb; exact .inl ⟨ob, hb, fun _ => by simp [AO.fix, hro]⟩
    · rw [SH.upd_ne _ _ hcb] at hc; exact .inl ⟨oc, hc, id⟩

theorem storeCells_row (P : Program) (g o : Nat) (t : TypeId) (fz : Nat × Nat) : ∀ (vs : List Value) (i : Nat) (cur : Array Value) (w : World), w.heap[g]? = some (.cells cur t fz) → o + i + vs.length ≤ cur.size → (∀ j, j < cur.size → ¬ (fz.1 ≤ j ∧ j < fz.2)) → (∀ v ∈ vs, v.oneCell' = true) →
    (storeCells ⟨g, o, none⟩ vs i).run P w = .ok () (w.setRow g (cur.toList.take (o + i) ++ vs ++ cur.toList.drop (o + i + vs.length)).toArray)
  | [], i, cur, w, hg, _, _, _ => by
    simp only [storeCells, List.append_nil, List.length_nil, Nat.add_zero, List.take_append_drop, Array.toArray_toList]
    rw [setRow_self w g cur t fz hg]
    rfl
  | v :: rest, i, cur, w, hg, hl, hf, h1 => by
    have hi : o + i < cur.size := by simp at hl; omega
    have hadd : (⟨g, o, none⟩ : Addr).add i = ⟨g, o + i, none⟩ := by unfold Addr.add; split <;> simp_all
    have hcell : w.cell? ⟨g, o + i, none⟩ = some cur[o + i] := by simp [World.cell?, hg, hi]
    have hfro : w.frozen? ⟨g, o + i, none⟩ = false := by
      simp only [World.frozen?, hg]
      have := hf (o + i) hi
      simpa using this
    have hst : (store ((⟨g, o, none⟩ : Addr).add i) v).run P w = .ok () (w.setRow g (cur.setIfInBounds (o + i) v)) := by
      rw [hadd, run_store P w _ v _ (h1 v (by simp)), hcell]
      simp [hfro, setCell_eq_setRow w g (o + i) cur t fz v hg]
    have ih := storeCells_row P g o t fz rest (i + 1) (cur.setIfInBounds (o + i) v) (w.setRow g (cur.setIfInBounds (o + i) v)) (setRow_heap w g cur _ t _ hg) (by simp at hl ⊢; omega) (by simpa using hf) (fun x hx => h1 x (by simp [hx]))
    simp only [storeCells, Sem.run_bind, hst, Result.andThen_ok, ih, setRow_setRow]
    congr 3
    have e := list_seg_step cur.toList (o + i) v rest (by simp at hl ⊢; omega)
    simpa [Array.toList_setIfInBounds, Nat.add_assoc] using e

/-- Cells written one behind the other. -/
def wrl (cs : List Value) (o : Nat) (vs : List Value) : List Value := cs.take o ++ vs ++ cs.drop (o + vs.length)
def SH.setl (H : SH) (p : Nat × Nat) (vs : List Value) : SH :=
  match H p.1 with
  | some o => H.upd p.1 { o with cells := wrl o.cells p.2 vs }
  | none => H
def SH.wrs (H : SH) (p : Nat × Nat) (n : Nat) : Prop := ∃ o, H p.1 = some o ∧ o.ro = false ∧ p.2 + n ≤ o.cells.length
theorem storeCells_St {w : World} (hw : Sat H w) {p : Nat × Nat} {vs : List Value} (h : H.wrs p vs.length) (h1 : ∀ v ∈ vs, v.oneCell' = true) : ∃ w', (storeCells (ad p) vs).run P w = .ok () w' ∧ St w H (H.setl p vs) w' := by
  obtain ⟨ob, hb, hro, hlen⟩ := h
  obtain ⟨_, rest, fz, he, hsz, hfz⟩ := (hw _ ob hb).got (.inl hro)
  refine ⟨_, storeCells_row P p.1 p.2 ob.ty fz vs 0 _ w he (by simp; omega) (fun j hj => hfz hro j (.inl (by rw [← hsz]; simpa using hj))) h1, ?_⟩
  have : H.setl p vs = H.upd p.1 { ob with cells := wrl ob.cells p.2 vs } := by unfold SH.setl; rw [hb]
  rw [this]
  refine St.setRow hw hb hro _ ?_ _ rfl rfl hro ?_
  · rw [← hsz]; simp; omega
  · refine ⟨rest, ?_⟩
    simp only [wrl, Nat.add_zero]
    rw [List.take_append_of_le_length (by omega), List.drop_append_of_le_length (by omega)]
    simp [List.append_assoc]

theorem run_newRow (P : Program) (E : TypeId) (cs : Array Value) (w : World) : (newRow E cs).run P w = .ok (ad (w.heap.size, 0)) (w.alloc (.cells cs E)) := rfl
/-- 'x = v' at an address. -/
theorem SOps.store {T : TypeId} {x y : Operand} {p : Nat × Nat} {v : Value} {size : Nat} (ho : o.op = .store T x y) (hd : o.dst = none) (hg : wantF n ops fr o = true) (hs : (P.info? T).map (·.size) = some size) (hx : evF n fr x = pv (some p)) (hy : evF n fr y = v)
    (hv : v.cells.size = size) (h1 : ∀ u ∈ v.cells.toList, u.oneCell' = true) (hc : H.wrs p v.cells.toList.length) (hn : SOps P n ops l fr (H.setl p v.cells.toList) Q) : SOps P n ops (o :: l) fr H Q := by
  obtain ⟨inf, hinf, rfl⟩ := Option.map_eq_some_iff.1 hs
  refine SOps.stepN (R := fun H' => H' = H.setl p v.cells.toList) hd hg (fun w hw => ?_) (fun H' e => by subst e; exact hn)
  obtain ⟨w', hr, hst⟩ := storeCells_St (P := P) hw hc h1
  refine ⟨undef, _, w', .inr ⟨?_, rfl⟩, hst, rfl⟩
  unfold execOp
  simp [ho, hx, hy, pv, Instr.storeAt, Instr.sureAddr, storeVar, sizeOf, typeInfo, hinf, hv, hr]

/-- A new variable. -/
theorem SOps.box {T : TypeId} {x : Operand} {v : Value} {d : Nat} (ho : o.op = .box T x) (hd : o.dst = some d) (hg : wantF n ops fr o = true) (hx : evF n fr x = v)
    (hn : ∀ b, H b = none → SOps P n ops l (fr.upd d (pv (some (b, 0)))) (H.upd b ⟨v.cells.toList, T, false, v.cells.size⟩) Q) : SOps P n ops (o :: l) fr H Q := by
  refine SOps.step (R := fun v' H' => ∃ b, H b = none ∧ v' = pv (some (b, 0)) ∧ H' = H.upd b ⟨v.cells.toList, T, false, v.cells.size⟩) hd hg (fun w hw => ?_) (fun v' H' ⟨b, hb, e1, e2⟩ => by subst e1; subst e2; exact hn b hb)
  have := St.alloc hw v.cells T
  refine ⟨_, _, _, .inl ?_, this.2, w.heap.size, this.1, rfl, rfl⟩
  unfold execOp
  simp [ho, hx, Instr.box, newVar, run_newRow, pv]
theorem SOps.alloc {T : TypeId} {z : Value} {d : Nat} (ho : o.op = .alloc T) (hd : o.dst = some d) (hg : wantF n ops fr o = true) (hz : (P.info? T).map (·.zero) = some (some z))
    (hn : ∀ b, H b = none → SOps P n ops l (fr.upd d (pv (some (b, 0)))) (H.upd b ⟨z.cells.toList, T, false, z.cells.size⟩) Q) : SOps P n ops (o :: l) fr H Q := by
  obtain ⟨inf, hinf, hz'⟩ := Option.map_eq_some_iff.1 hz
  refine SOps.step (R := fun v' H' => ∃ b, H b = none ∧ v' = pv (some (b, 0)) ∧ H' = H.upd b ⟨z.cells.toList, T, false, z.cells.size⟩) hd hg (fun w hw => ?_) (fun v' H' ⟨b, hb, e1, e2⟩ => by subst e1; subst e2; exact hn b hb)
  have := St.alloc hw z.cells T
  refine ⟨_, _, _, .inl ?_, this.2, w.heap.size, this.1, rfl, rfl⟩
  unfold execOp
  simp [ho, Instr.alloc, zeroValue, typeInfo, hinf, hz', newVar, run_newRow, pv]

/-- '[]T{..}'. -/
theorem SOps.lit {T E : TypeId} {m : Nat} {parts : Array (Nat × Operand)} {cs : Array Value} {d : Nat} (ho : o.op = .buildSlice T m parts) (hd : o.dst = some d) (hg : wantF n ops fr o = true)
    (hx : ∀ w, (Instr.buildSlice T m (parts.map fun (i, x) => (i, evF n fr x))).run P w = (newRow E cs >>= fun a => pure (.slice (some a) m m) : Sem Value).run P w)
    (hn : ∀ b, H b = none → SOps P n ops l (fr.upd d (sv ⟨some (b, 0), m, m⟩)) (H.upd b ⟨cs.toList, E, false, cs.size⟩) Q) : SOps P n ops (o :: l) fr H Q := by
  refine SOps.step (R := fun v' H' => ∃ b, H b = none ∧ v' = sv ⟨some (b, 0), m, m⟩ ∧ H' = H.upd b ⟨cs.toList, E, false, cs.size⟩) hd hg (fun w hw => ?_) (fun v' H' ⟨b, hb, e1, e2⟩ => by subst e1; subst e2; exact hn b hb)
  have := St.alloc hw cs E
  refine ⟨_, _, _, .inl ?_, this.2, w.heap.size, this.1, rfl, rfl⟩
  unfold execOp
  simp only [ho, Sem.run_bind, hx]
  simp [run_newRow, sv]
end
end Go.Proofs.Ytpnbehgkbfhacaa.K
