/- A region that draws its order, by what holds of it at every time. -/
import Derived.Test.YtkfbmoekghbgbaaDoorSatWrit
set_option linter.unusedVariables false
set_option linter.unusedSimpArgs false
namespace Go.Proofs.YtkfbmoekghbgbaaDoor.K
open Go
def invB (l : List Oper) : Bool := (List.range l.length).all fun i => match l[i]? with
  | some o => o.after.all fun e => !Region.binds .any e || decide (e.on < i)
  | none => false
theorem invB_spec {l : List Oper} (h : invB l = true) {i : Nat} {o : Oper} (hi : i < l.length) (ho : l[i]? = some o) : ∀ e ∈ o.after, Region.binds .any e = true → e.on < i := fun e he hb => by
  unfold invB at h
  have := List.all_eq_true.1 h i (List.mem_range.2 hi)
  rw [ho] at this
  have := Array.all_eq_true_iff_forall_mem.1 this e he
  simpa [hb] using this
section
variable {P : Program} {n : Nat} {fr : Fr} {H : SH} {Q : Post}
def invQ (I : (Nat → Bool) → Fr → SH → Prop) (L : Nat → Bool) (i : Nat) : Post := fun e fr'' H'' => e = .normal ∧ ∀ L' : Nat → Bool, L' i = true → (∀ j, j ≠ i → L' j = L j) → I L' fr'' H''
theorem inv_go {l : List Oper} (hB : invB l = true) (I : (Nat → Bool) → Fr → SH → Prop)
    (step : ∀ (i : Nat) (o : Oper), l[i]? = some o → ∀ (L : Nat → Bool) (fr' : Fr) (H' : SH), L i = false → (∀ j, depB l i j = true → L j = true) → I L fr' H' → SOps P n l.toArray [o] fr' H' (invQ I L i))
    (fin : ∀ (L : Nat → Bool) (fr' : Fr) (H' : SH), (∀ i, i < l.length → L i = true) → I L fr' H' → Q .normal fr' H') (w1 : World) (H0 : SH) :
    ∀ (f : Nat) (listed : Array Bool) (fr' : Fr) (H' : SH) (w : World), cntU listed l.length = f → listed.size = l.length → St w1 H0 H' w → I (fun j => listed.getD j false) fr' H' → wpAny P .any l.toArray (lift n w1 H0 Q) f listed (mkAct n fr') w := by
  intro f
  induction f with
  | zero =>
    intro listed fr' H' w hf hsz st inv
    have hall : ∀ j, j < l.length → listed.getD j true = true := fun j hj => cntU_zero hf hj
    refine ⟨?_, ⟨fr', H', rfl, st, fin _ _ _ (fun j hj => ?_) inv⟩⟩
    · cases hr : Region.ready .any l.toArray listed with
      | nil => rfl
      | cons j r =>
        obtain ⟨h1, o, h2, _⟩ := mem_ready.1 (show j ∈ Region.ready .any l.toArray listed by rw [hr]; exact List.mem_cons_self ..)
        have hj : j < l.length := by have : (l.toArray)[j]? = some o := h2; simpa using (Array.getElem?_eq_some_iff.1 this).1
        rw [hall j hj] at h1; cases h1
    · have := hall j hj
      have hj' : j < listed.size := by omega
      simp [hj'] at this ⊢; exact this
  | succ f ih =>
    intro listed fr' H' w hf hsz st inv
    obtain ⟨i0, hi0, hu0, hlow⟩ := cntU_pos (listed := listed) (m := l.length) (by omega)
    refine ⟨fun h => ?_, fun i hi => ?_⟩
    · obtain ⟨o, ho⟩ : ∃ o, l[i0]? = some o := ⟨_, List.getElem?_eq_getElem hi0⟩
      have : i0 ∈ Region.ready .any l.toArray listed := mem_ready.2 ⟨hu0, o, by simpa using ho, fun e he hb => by
        have hlt := invB_spec hB hi0 ho e he hb
        have h1 := hlow e.on hlt
        have h2 : e.on < listed.size := by omega
        simp [h2] at h1 ⊢; exact h1⟩
      rw [h] at this; cases this
    · obtain ⟨hun, oi, hoi, hall⟩ := mem_ready.1 hi
      have hoi' : l[i]? = some oi := by simpa using hoi
      have hil : i < l.length := (List.getElem?_eq_some_iff.1 hoi').1
      have his : i < listed.size := by omega
      have h1 := step i oi hoi' (fun j => listed.getD j false) fr' H' (getD_both hun) (fun j hj => by
        obtain ⟨e, he, hb, hon⟩ := dep_on hoi' hj
        have := hall e he hb
        rwa [hon] at this) inv w1 H0 w st
      have key : ∀ (a' : Act) (w' : World), lift n w1 H0 (invQ I (fun j => listed.getD j false) i) .normal a' w' → wpAny P .any l.toArray (lift n w1 H0 Q) f (listed.setIfInBounds i true) a' w' := by
        rintro a' w' ⟨fr'', H'', rfl, st'', _, q⟩
        refine ih _ _ H'' w' (by have := cntU_set his hun hil; omega) (by simpa using hsz) st'' (q _ (by simp [his]) fun j hj => getD_set_ne false (Ne.symm hj))
      unfold wpOp
      simp only [hoi]
      unfold wpList at h1
      split
      · rename_i hw
        rw [if_pos hw] at h1
        rcases h1 with h1 | h1
        · refine .inl (wp_of_step h1 key ?_ ?_)
          · rintro c a' w' ⟨_, _, _, _, q, _⟩; cases q
          · rintro ⟨a', w', _, _, _, _, q, _⟩; cases q
        · obtain ⟨_, a', w', _, _, _, _, q, _⟩ := h1; cases q
      · rename_i hw
        rw [if_neg hw] at h1
        exact key _ _ h1
/-- **The region**, by what holds of it at every time. -/
theorem SW.inv {id : Nat} {l : List Oper} (hm : P.follows .mixedOrders = true) (hB : invB l = true) (I : (Nat → Bool) → Fr → SH → Prop) (h0 : ∀ L : Nat → Bool, (∀ j, L j = false) → I L fr H)
    (step : ∀ (i : Nat) (o : Oper), l[i]? = some o → ∀ (L : Nat → Bool) (fr' : Fr) (H' : SH), L i = false → (∀ j, depB l i j = true → L j = true) → I L fr' H' → SOps P n l.toArray [o] fr' H' (invQ I L i))
    (fin : ∀ (L : Nat → Bool) (fr' : Fr) (H' : SH), (∀ i, i < l.length → L i = true) → I L fr' H' → Q .normal fr' H') : SW P n (.region id l.toArray true) fr H Q := fun w0' H0 w st => by
  refine wp_region_any hm ?_
  have hc : cntU (Array.replicate l.length false) l.length = l.length := by
    unfold cntU
    rw [List.countP_eq_length.2]
    · simp
    · intro j hj
      have : j < l.length := List.mem_range.1 hj
      simp [this]
  have := inv_go hB I step fin w0' H0 l.length (Array.replicate l.length false) fr H { w with drawn := w.drawn + 1 } hc (by simp) ⟨st.os, st.tape, st.output, st.size, st.keep, st.sat, st.own⟩ (h0 _ (getD_replicate_false _))
  simpa using this
end
end Go.Proofs.YtkfbmoekghbgbaaDoor.K
