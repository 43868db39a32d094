/- Rules for maps: making one, reading it, writing it, its length. -/
import Derived.Test.YtpnbehgkbfhacaaSatDraw
set_option linter.unusedVariables false
set_option linter.unusedSimpArgs false
namespace Go.Proofs.Ytpnbehgkbfhacaa.K
open Go

theorem beq_bytes (a b : ByteArray) : (a == b) = true ↔ a = b := by
  constructor
  · intro h
    have : (a.data == b.data) = true := h
    cases a; cases b; simp at this; simp [this]
  · rintro rfl
    show (a.data == a.data) = true
    simp
/-- A key of this kind. -/
def mkind : TypeDesc → Value → Prop
  | .int q, .int k _ => k = q
  | .string, .string _ => True
  | _, _ => False
def sameV : Value → Value → Bool
  | .int _ a, .int _ b => a == b
  | .string a, .string b => a == b
  | _, _ => false
def mfind (k : Value) : List (Value × Value) → Option Value
  | [] => none
  | e :: r => if sameV k e.1 then some e.2 else mfind k r
def mput (k v : Value) : List (Value × Value) → List (Value × Value)
  | [] => [(k, v)]
  | e :: r => if sameV k e.1 then (k, v) :: r else e :: mput k v r
def mloc (k : Value) : List (Value × Value) → Nat → Option (Nat × Value)
  | [], _ => none
  | e :: r, i => if sameV k e.1 then some (i, e.2) else mloc k r (i + 1)
/-- All keys are of this kind. -/
def MKeys (d : TypeDesc) (k : Value) (es : List (Value × Value)) : Prop := mkind d k ∧ ∀ e ∈ es, mkind d e.1
theorem findNow_loc {d : TypeDesc} {k : Value} (hk : mkind d k) : ∀ (l : List MapEntry) (i : Nat), (∀ e ∈ entsOf l, mkind d e.1) → Instr.findNow d k l i = some (mloc k (entsOf l) i)
  | [], i, _ => rfl
  | e :: r, i, h => by
    have he := h (e.key, e.val) (by simp [entsOf])
    have ih := findNow_loc hk r (i + 1) fun x hx => h x (by simp [entsOf] at hx ⊢; exact .inr hx)
    have hs : Instr.sameNow d k e.key = some (sameV k e.key) := by
      revert hk he
      generalize e.key = y
      cases d <;> cases k <;> cases y <;> simp [mkind, Instr.sameNow, sameV]
      rintro rfl rfl; rfl
    unfold Instr.findNow
    rw [hs]
    show (match some (sameV k e.key) with | some true => _ | some false => _ | none => _) = some (if sameV k e.key = true then _ else _)
    cases sameV k e.key with
    | true => rfl
    | false => exact ih
theorem mloc_find (k : Value) : ∀ (es : List (Value × Value)) (i : Nat), (mloc k es i).map (·.2) = mfind k es
  | [], _ => rfl
  | e :: r, i => by
    unfold mloc mfind
    split
    · rfl
    · exact mloc_find k r (i + 1)
theorem mloc_put (k v : Value) (cl : Nat) : ∀ (l : List MapEntry) (i j : Nat) (x : Value), mloc k (entsOf l) i = some (j, x) → i ≤ j ∧ j - i < l.length ∧ sameV k ((entsOf l)[j - i]?.getD (undef, undef)).1 = true ∧ entsOf (l.modify (j - i) fun e => { e with key := k, val := v }) = mput k v (entsOf l)
  | [], i, j, x, h => by simp [entsOf, mloc] at h
  | e :: r, i, j, x, h => by
    simp only [entsOf, List.map_cons, mloc] at h
    split at h
    · rename_i hs
      simp only [Option.some.injEq, Prod.mk.injEq] at h
      obtain ⟨rfl, rfl⟩ := h
      simp [entsOf, mput, hs]
    · rename_i hs
      obtain ⟨h1, h2, h3, h4⟩ := mloc_put k v cl r (i + 1) j x h
      have e1 : j - i = (j - (i + 1)) + 1 := by omega
      refine ⟨by omega, by simp; omega, ?_, ?_⟩
      · rw [e1]; simpa [entsOf] using h3
      · rw [e1]
        simp only [entsOf, List.modify_succ_cons, List.map_cons, mput, hs] at h4 ⊢
        rw [h4]; simp
theorem mloc_none (k v : Value) : ∀ (es : List (Value × Value)) (i : Nat), mloc k es i = none → es ++ [(k, v)] = mput k v es
  | [], _, _ => rfl
  | e :: r, i, h => by
    simp only [mloc] at h
    split at h
    · cases h
    · rename_i hs
      simp only [mput, hs, List.cons_append]
      rw [mloc_none k v r (i + 1) h]; simp

section
variable {P : Program} {ρ : Operand → Value} {o : Oper} {H : SH}
theorem Sat.map {w : World} (h : Sat H w) {b : Nat} {es : List (Value × Value)} (hb : H b = some (AO.map es)) : ∃ (a : Array MapEntry) (c : Nat), w.heap[b]? = some (.map a c) ∧ entsOf a.toList = es := (h b _ hb).2
theorem checkKey_plain {d : TypeDesc} {K : TypeId} (hK : P.underlying K = some d) {k : Value} (hk : mkind d k) (em : Bool) (w : World) : (Instr.checkKey em 10000 K k).run P w = .ok () w := by
  unfold Instr.checkKey
  simp only [Sem.run_bind, run_underlying hK, Result.andThen_ok]
  cases d <;> cases k <;> simp [mkind] at hk <;> rfl
theorem findKey_loc {d : TypeDesc} {K : TypeId} (hK : P.underlying K = some d) {k : Value} (l : List MapEntry) (hk : MKeys d k (entsOf l)) (w : World) : (Instr.findKey K k l).run P w = .ok (mloc k (entsOf l) 0) w := by
  unfold Instr.findKey
  simp only [Sem.run_bind, run_underlying hK, Result.andThen_ok]
  rw [findNow_loc hk.1 l 0 hk.2]; rfl
theorem run_getObj {w : World} {b : Nat} {a : Array MapEntry} {c : Nat} (h : w.heap[b]? = some (.map a c)) : (getObj b).run P w = .ok (.map a c) w := by
  simp [getObj, Sem.run, h]
theorem ev_lookup {T K E : TypeId} {x ix : Operand} (ho : o.op = .lookup T x ix false) (hT : P.underlying T = some (.map K E)) {d : TypeDesc} (hK : P.underlying K = some d) {b : Nat} {es : List (Value × Value)} {key z v : Value} (hx : ρ x = .map (some b)) (hi : ρ ix = key)
    (hz : (P.info? E).bind (·.zero) = some z) (hm : H b = some (AO.map es)) (hk : MKeys d key es) (hv : (mfind key es).getD z = v) (w : World) (hw : Sat H w) : (execOp ρ o).run P w = .ok (.value v) w := by
  obtain ⟨a, c, h1, rfl⟩ := hw.map hm
  obtain ⟨i, hi1, hi2⟩ := Option.bind_eq_some_iff.1 hz
  subst hv
  have hf := mloc_find key (entsOf a.toList) 0
  unfold execOp
  simp only [ho, hx, hi, Sem.run_bind, Instr.lookup, run_underlying hT, Result.andThen_ok, run_getObj h1, Sem.run_pure, checkKey_plain hK hk.1, findKey_loc hK a.toList hk]
  cases hl : mloc key (entsOf a.toList) 0 with
  | none =>
    rw [hl] at hf
    have : mfind key (entsOf a.toList) = none := by simpa using hf.symm
    simp [this, zeroValue, typeInfo, hi1, hi2]
  | some p =>
    rw [hl] at hf
    have : mfind key (entsOf a.toList) = some p.2 := by simpa using hf.symm
    simp [this]
theorem ev_lookupOk {T K E : TypeId} {x ix : Operand} (ho : o.op = .lookup T x ix true) (hT : P.underlying T = some (.map K E)) {d : TypeDesc} (hK : P.underlying K = some d) {b : Nat} {es : List (Value × Value)} {key z v : Value} {q : Bool} (hx : ρ x = .map (some b)) (hi : ρ ix = key)
    (hz : (P.info? E).bind (·.zero) = some z) (hm : H b = some (AO.map es)) (hk : MKeys d key es) (hv : (mfind key es).getD z = v) (hq : (mfind key es).isSome = q) (w : World) (hw : Sat H w) : (execOp ρ o).run P w = .ok (.value (.tuple #[v, .bool q])) w := by
  obtain ⟨a, c, h1, rfl⟩ := hw.map hm
  obtain ⟨i, hi1, hi2⟩ := Option.bind_eq_some_iff.1 hz
  subst hv; subst hq
  have hf := mloc_find key (entsOf a.toList) 0
  unfold execOp
  simp only [ho, hx, hi, Sem.run_bind, Instr.lookup, run_underlying hT, Result.andThen_ok, run_getObj h1, Sem.run_pure, checkKey_plain hK hk.1, findKey_loc hK a.toList hk]
  cases hl : mloc key (entsOf a.toList) 0 with
  | none =>
    rw [hl] at hf
    have : mfind key (entsOf a.toList) = none := by simpa using hf.symm
    simp [this, zeroValue, typeInfo, hi1, hi2]
  | some p =>
    rw [hl] at hf
    have : mfind key (entsOf a.toList) = some p.2 := by simpa using hf.symm
    simp [this]
theorem ev_mlen {T K E : TypeId} {x : Operand} (hT : P.underlying T = some (.map K E)) (ho : o.op = .call { callee := .builtin .len, args := #[x], argTypes := #[T] }) {b : Nat} {es : List (Value × Value)} (hx : ρ x = .map (some b)) (hm : H b = some (AO.map es)) (w : World) (hw : Sat H w) :
    (execOp ρ o).run P w = .ok (.value (.int .i64 es.length)) w := by
  obtain ⟨a, c, h1, rfl⟩ := hw.map hm
  unfold execOp
  simp [ho, hx, resolve, invoke, builtin, Builtin.len_, run_underlying hT, run_getObj h1, entsOf, goInt]
end
section
variable {P : Program} {n : Nat} {fr : Fr} {H : SH} {Q : Post} {ops : Array Oper} {o : Oper} {l : List Oper}
theorem St.newMap {w : World} (hw : Sat H w) : H w.heap.size = none ∧ St w H (H.upd w.heap.size (AO.map [])) (w.alloc (.map #[] 0)) := by
  have hnew : H w.heap.size = none := by
    cases h : H w.heap.size with
    | none => rfl
    | some o => exact absurd (hw.lt h) (by omega)
  refine ⟨hnew, ?_⟩
  have hold : ∀ b, b ≠ w.heap.size → (w.alloc (.map #[] 0)).heap[b]? = w.heap[b]? := by
    intro b hb
    show (w.heap.push _)[b]? = _
    rw [Array.getElem?_push, if_neg hb]
  refine ⟨rfl, rfl, rfl, by simp, fun b hb _ => hold b (by omega), ?_, ?_⟩
  · intro b ob hb
    by_cases hbs : b = w.heap.size
    · subst hbs
      rw [SH.upd_same] at hb
      obtain rfl := Option.some.inj hb
      refine ⟨⟨rfl, rfl, rfl⟩, #[], 0, ?_, rfl⟩
      show (w.heap.push _)[w.heap.size]? = _
      simp
    · rw [SH.upd_ne _ _ hbs] at hb
      rw [hold b hbs]; exact hw b ob hb
  · intro b ob hb
    by_cases hbs : b = w.heap.size
    · right; omega
    · rw [SH.upd_ne _ _ hbs] at hb
      exact .inl ⟨ob, hb, id⟩
theorem SOps.makeMap {T : TypeId} {d : Nat} (ho : o.op = .makeMap T none) (hd : o.dst = some d) (hg : wantF n ops fr o = true)
    (hn : ∀ b, H b = none → SOps P n ops l (fr.upd d (.map (some b))) (H.upd b (AO.map [])) Q) : SOps P n ops (o :: l) fr H Q := by
  refine SOps.step (R := fun v H' => ∃ b, H b = none ∧ v = .map (some b) ∧ H' = H.upd b (AO.map [])) hd hg (fun w hw => ?_) (fun v H' ⟨b, h1, e1, e2⟩ => by subst e1; subst e2; exact hn b h1)
  have h := St.newMap hw
  refine ⟨_, _, w.alloc (.map #[] 0), .inl ?_, h.2, w.heap.size, h.1, rfl, rfl⟩
  unfold execOp
  simp only [ho]
  rfl
theorem St.setMap {w : World} (hw : Sat H w) {b : Nat} {es : List (Value × Value)} (hb : H b = some (AO.map es)) (a : Array MapEntry) (c : Nat) :
    St w H (H.upd b (AO.map (entsOf a.toList))) { w with heap := w.heap.setIfInBounds b (.map a c) } := by
  have hlt := hw.lt hb
  have hold : ∀ x, x ≠ b → (w.heap.setIfInBounds b (.map a c))[x]? = w.heap[x]? := fun x hx => by
    rw [Array.getElem?_setIfInBounds, if_neg (fun e => hx e.symm)]
  refine ⟨rfl, rfl, rfl, by simp, fun x hx hr => hold x ?_, ?_, ?_⟩
  · rintro rfl; exact Bool.noConfusion (hr _ hb : false = true)
  · intro x ob hx
    by_cases hxb : x = b
    · subst hxb
      rw [SH.upd_same] at hx; cases hx
      exact ⟨⟨rfl, rfl, rfl⟩, a, c, by simp [Array.getElem?_setIfInBounds, hlt], rfl⟩
    · rw [SH.upd_ne _ _ hxb] at hx
      show SatO ob (w.heap.setIfInBounds b (.map a c))[x]?
      rw [hold x hxb]; exact hw x ob hx
  · intro x ob hx
    by_cases hxb : x = b
    · subst hxb; exact .inl ⟨_, hb, fun _ => rfl⟩
    · rw [SH.upd_ne _ _ hxb] at hx; exact .inl ⟨ob, hx, id⟩
theorem sameBits_plain {d : TypeDesc} {x y : Value} (hx : mkind d x) (hy : mkind d y) (h : sameV x y = true) : Instr.sameBits 10000 y x = true := by
  cases d <;> cases x <;> simp [mkind] at hx <;> cases y <;> simp [mkind] at hy <;> simp [sameV] at h
  · subst h; subst hx; subst hy; simp [Instr.sameBits]
  · rw [(beq_bytes _ _).1 h]; unfold Instr.sameBits; exact (beq_bytes _ _).2 rfl
theorem run_setObj {w : World} {b : Nat} {x : Obj} {a : Array MapEntry} {c : Nat} (h : w.heap[b]? = some (.map a c)) : (setObj b x).run P w = .ok () { w with heap := w.heap.setIfInBounds b x } := by
  simp [setObj, Sem.run, h]
theorem SOps.mapUpdate {T K E : TypeId} {x ix y : Operand} (ho : o.op = .mapUpdate T x ix y) (hd : o.dst = none) (hg : wantF n ops fr o = true) (hT : P.underlying T = some (.map K E)) {d : TypeDesc} (hK : P.underlying K = some d) {b : Nat} {es : List (Value × Value)} {key v : Value}
    (hx : evF n fr x = .map (some b)) (hi : evF n fr ix = key) (hy : evF n fr y = v) (hm : H b = some (AO.map es)) (hk : MKeys d key es) (hn : SOps P n ops l fr (H.upd b (AO.map (mput key v es))) Q) : SOps P n ops (o :: l) fr H Q := by
  refine SOps.stepN (R := fun H' => H' = H.upd b (AO.map (mput key v es))) hd hg (fun w hw => ?_) (fun H' e => by subst e; exact hn)
  obtain ⟨a, c, h1, rfl⟩ := hw.map hm
  have hlt := hw.lt hm
  cases hl : mloc key (entsOf a.toList) 0 with
  | none =>
    have he : entsOf (a.push { key := key, val := v, born := c }).toList = mput key v (entsOf a.toList) := by
      rw [← mloc_none key v _ 0 hl]; simp [entsOf]
    have hst := St.setMap hw hm (a.push { key := key, val := v, born := c }) (c + 1)
    rw [he] at hst
    refine ⟨undef, _, _, .inr ⟨?_, rfl⟩, hst, rfl⟩
    unfold execOp
    simp only [ho, hx, hi, hy, Sem.run_bind, Instr.mapUpdate, run_underlying hT, Result.andThen_ok, run_getObj h1, checkKey_plain hK hk.1, findKey_loc hK a.toList hk, hl, run_setObj h1]
    rfl
  | some p =>
    obtain ⟨j, u⟩ := p
    obtain ⟨_, h2, h3, h4⟩ := mloc_put key v c a.toList 0 j u hl
    simp only [Nat.sub_zero] at h2 h3 h4
    have hst := St.setMap hw hm (a.modify j fun e => { e with key := key, val := v }) c
    rw [Array.toList_modify, h4] at hst
    have hj : j < a.size := by simpa using h2
    have hkey : ((a[j]?).map (·.key)).getD key = a[j].key := by simp [hj]
    have hs : sameV key a[j].key = true := by simpa [entsOf, hj] using h3
    have hb : Instr.sameBits 10000 a[j].key key = true := sameBits_plain hk.1 (hk.2 (a[j].key, a[j].val) (by simp [entsOf]; exact ⟨a[j], by simp, rfl, rfl⟩)) hs
    refine ⟨undef, _, _, .inr ⟨?_, rfl⟩, hst, rfl⟩
    unfold execOp
    simp only [ho, hx, hi, hy, Sem.run_bind, Instr.mapUpdate, run_underlying hT, Result.andThen_ok, run_getObj h1, checkKey_plain hK hk.1, findKey_loc hK a.toList hk, hl, hkey, Instr.keyThatStays, hb, if_true, Sem.run_pure, run_setObj h1]
end
end Go.Proofs.Ytpnbehgkbfhacaa.K
