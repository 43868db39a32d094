/- The law GapChain: what it comes to. -/
import Derived.Test.YtpnbehgkbfhacaaSpecGap2
import Derived.Test.YtpnbehgkbfhacaaLib3
import Derived.Test.YtpnbehgkbfhacaaArgs2
import Derived.Test.YtpnbehgkbfhacaaGladinglaw06GapChain
set_option linter.unusedVariables false
set_option linter.unusedSimpArgs false
namespace Go.Proofs.Ytpnbehgkbfhacaa.K
open Go
theorem awakeC06_spec {F : Nat} (hF : 5000 ≤ F) {H : SH} {K : Bool → SH → Prop} (h : ∀ H', SH.le H H' → K true H') : ladinglaw06_awake.wp F H K := by
  intro b hb
  refine Put_spec hF (l := [3, 4, 7]) rfl (row_upd rfl) (by omega) (by omega) (by omega) (show (3 : Nat) < F by omega) (by simp) ?_
  have hw : wrongG 10 0 (-1) [3, 4, 7] = none := by decide
  rw [hw]
  refine br_t ?_ (o_none ⟨H, le_upd hb, h _ (.refl _)⟩)
  have e1 : shortL 3 = [3] := by rw [shortL_one (by omega)]; rfl
  have e2 : shortL 1 = [1] := by rw [shortL_one (by omega)]; rfl
  have e3 : shortL 0 = [0] := by rw [shortL_one (by omega)]; rfl
  have e4 : shortL 2 = [2] := by rw [shortL_one (by omega)]; rfl
  have : putG 4 [3, 4, 7] = [3, 1, 0, 2] := by
    have f1 : (turnZ (3 - 4)).toNat = 1 := by decide
    have f2 : ((4 : Int) - 3 - 1).toNat = 0 := by decide
    have f3 : ((7 : Int) - 4 - 1).toNat = 2 := by decide
    simp only [putG, putR, if_true, Bool.false_eq_true, if_false, List.length_cons, List.length_nil, f1, f2, f3, e1, e2, e3, e4]; rfl
  rw [this]; rfl

theorem o_noneC {α : Type} {A : Prop} {B : α → Prop} (h : A) : (True → A) ∧ (∀ v, (none : Option α) = some v → B v) := ⟨fun _ => h, fun _ e => (nomatch e)⟩
/-! ### sets of numbers -/
def MI (ks : List Int) (es : List (Value × Value)) : Prop := (∀ e ∈ es, mkind (.int .i64) e.1) ∧ ∀ t : Int, mfind (.int .i64 t) es = if t ∈ ks then some (.bool true) else none
theorem mfind_put {t z : Int} {v : Value} : ∀ {es : List (Value × Value)}, (∀ e ∈ es, mkind (.int .i64) e.1) → mfind (.int .i64 t) (mput (.int .i64 z) v es) = if t = z then some v else mfind (.int .i64 t) es
  | [], _ => by
    show (if (t == z) = true then some v else none) = _
    by_cases h : t = z <;> simp [h, mfind]
  | (ek, ev) :: es, h => by
    have he := h (ek, ev) (by simp)
    have ih := mfind_put (t := t) (z := z) (v := v) (es := es) fun x hx => h x (by simp [hx])
    cases ek <;> simp [mkind] at he
    rename_i k a
    subst he
    simp only [mput, sameV]
    by_cases h1 : z = a
    · subst h1
      by_cases h2 : t = z <;> simp [h2, mfind, sameV]
    · by_cases h2 : t = a
      · subst h2
        have h3 : ¬ (t = z) := fun h => h1 h.symm
        simp [h1, h3, mfind, sameV]
      · simp [h1, h2, mfind, sameV, ih]
theorem mput_kind {d : TypeDesc} {k v : Value} (hk : mkind d k) : ∀ {es : List (Value × Value)}, (∀ e ∈ es, mkind d e.1) → ∀ e ∈ mput k v es, mkind d e.1
  | [], _, e, he => by rw [List.mem_singleton.1 he]; exact hk
  | x :: es, h, e, he => by
    unfold mput at he
    split at he
    · rcases List.mem_cons.1 he with h1 | h1
      · rw [h1]; exact hk
      · exact h e (List.mem_cons_of_mem _ h1)
    · rcases List.mem_cons.1 he with h1 | h1
      · rw [h1]; exact h x List.mem_cons_self
      · exact mput_kind hk (fun y hy => h y (List.mem_cons_of_mem _ hy)) e h1
theorem MI.nil : MI [] [] := ⟨fun _ h => (nomatch h), fun t => by simp [mfind]⟩
theorem MI.put {ks : List Int} {es : List (Value × Value)} (h : MI ks es) (z : Int) : MI (ks ++ [z]) (mput (.int .i64 z) (.bool true) es) := by
  refine ⟨mput_kind (d := .int .i64) (k := .int .i64 z) rfl h.1, fun t => ?_⟩
  rw [mfind_put h.1, h.2]
  by_cases h1 : t = z
  · subst h1; simp
  · by_cases h2 : t ∈ ks <;> simp [h1, h2]
/-- The numbers below t that are in a list, in their order. -/
def rowP (ks : List Int) (t : Nat) : List Int := ((List.range t).filter fun (j : Nat) => decide ((j : Int) ∈ ks)).map fun (j : Nat) => (j : Int)
theorem rowP_succ (ks : List Int) (t : Nat) : rowP ks (t + 1) = if (t : Int) ∈ ks then rowP ks t ++ [(t : Int)] else rowP ks t := by
  unfold rowP
  rw [List.range_succ, List.filter_append, List.map_append]
  by_cases h : (t : Int) ∈ ks <;> simp [h]
theorem upG_of {nodes : Int} : ∀ (l : List Int) (last : Int), l.Pairwise (· < ·) → (∀ t ∈ l, last < t ∧ t < nodes) → upG nodes last l
  | [], _, _, _ => trivial
  | t :: l, last, hp, h => by
    obtain ⟨h1, h2⟩ := List.pairwise_cons.1 hp
    have ht := h t List.mem_cons_self
    exact ⟨ht.1, ht.2, upG_of l t h2 fun x hx => ⟨h1 x hx, (h x (List.mem_cons_of_mem _ hx)).2⟩⟩
theorem rowP_up (ks : List Int) (n : Nat) : upG n (-1) (rowP ks n) := by
  refine upG_of _ _ ?_ ?_
  · unfold rowP
    refine List.pairwise_map.2 ((List.Pairwise.filter _ (List.pairwise_lt_range (n := n))).imp fun h => by omega)
  · intro t ht
    obtain ⟨j, hj, rfl⟩ := List.mem_map.1 ht
    have := List.mem_range.1 (List.mem_filter.1 hj).1
    omega
theorem rowP_len (ks : List Int) (n : Nat) : (rowP ks n).length ≤ n := by
  have := List.length_filter_le (fun (j : Nat) => decide ((j : Int) ∈ ks)) (List.range n)
  simp only [rowP, List.length_map]; simpa using this
theorem shortLen2 {x : Nat} (h : x < 16384) : (shortL x).length ≤ 2 := by
  by_cases h1 : x < 128
  · rw [shortL_one h1]; simp
  · rw [shortL_more h1, shortL_one (by omega)]; simp
theorem putR_len {nodes : Int} (hn : nodes ≤ 4096) : ∀ (l : List Int) (first : Bool) (now : Int), 0 ≤ now → now < nodes → upG nodes (if first then -1 else now) l → (putR first now l).length ≤ 2 * l.length := by
  intro l
  induction l with
  | nil => intro first now _ _ _; simp [putR]
  | cons t l ih =>
    intro first now h0 h1 hu
    have ht0 : 0 ≤ t := by have := hu.1; cases first <;> simp at this <;> omega
    have h2 := ih false t ht0 hu.2.1 hu.2.2
    have h3 : (shortL (if first then turnZ (t - now) else t - now - 1).toNat).length ≤ 2 := by
      refine shortLen2 ?_
      have := hu.1
      cases first with
      | true => simp only [if_true]; have h4 := hu.2.1; unfold turnZ; split <;> omega
      | false => simp only [Bool.false_eq_true, if_false] at this ⊢; have h4 := hu.2.1; omega
    simp only [putR, List.length_append, List.length_cons]; omega
theorem putG_len {ks : List Int} {n v : Nat} (hn : n ≤ 40) (hv : v < n) : (putG v (rowP ks n)).length ≤ 100 := by
  have h1 := rowP_len ks n
  have h2 := putR_len (nodes := n) (by omega) (rowP ks n) true v (by omega) (by omega) (by simpa using rowP_up ks n)
  have h3 := shortLen2 (x := (rowP ks n).length) (by omega)
  simp only [putG, List.length_append]; omega
/-- All rows' bytes, one behind the other. -/
def allG (Ls : Nat → List Int) (i : Nat) : List UInt8 := (List.range i).flatMap fun (v : Nat) => putG (v : Int) (Ls v)
theorem allG_succ (Ls : Nat → List Int) (i : Nat) : allG Ls (i + 1) = allG Ls i ++ putG i (Ls i) := by
  simp [allG, List.range_succ]
theorem allG_more (Ls : Nat → List Int) (i : Nat) : ∀ k : Nat, ∃ post, allG Ls (i + k) = allG Ls i ++ post
  | 0 => ⟨[], by simp⟩
  | k + 1 => by
    obtain ⟨p, hp⟩ := allG_more Ls i k
    exact ⟨p ++ putG ((i + k : Nat) : Int) (Ls (i + k)), by rw [← Nat.add_assoc, allG_succ, hp, List.append_assoc]⟩
theorem SH.rowW.le' {H H' : SH} {a : Option Addr} {cs : List Value} (h : H.rowW a cs) (hle : SH.le H H') : H'.rowW a cs := by
  rcases h with h | ⟨p, h1, h2⟩
  · exact .inl h
  · exact .inr ⟨p, h1, h2.le hle⟩
theorem row_atW' {H : SH} {l : SlW} {cs : List Value} {i : Nat} {v : Value} {R : Nat × Nat → Prop} (hr : H.rowW l.a cs) (hv : cs[i]? = some v) (hl : i < l.len) (h : ∀ p, l.a = some (ad p) → H.has (p.1, p.2 + (i : Int).toNat * 1) v → R p) :
    ∃ p, l.a = some (ad p) ∧ 0 ≤ (i : Int) ∧ (i : Int) < (l.len : Int) ∧ R p := by
  rcases hr with h0 | ⟨p, ha, hr⟩
  · subst h0; simp at hv
  · obtain ⟨q, hq, hh⟩ := hr.get hv
    cases hq
    exact ⟨p, ha, by omega, by omega, h p ha (by simpa using hh)⟩
section
variable {F : Nat} {H0 : SH}
abbrev KT : Bool → SH → Prop := fun b _ => b = true
/-- The rows that were made: they lie in memory, the slice of them, too. -/
def Rows (H0 : SH) (Ls : Nat → List Int) (i : Nat) (l : Sl) (H : SH) : Prop :=
  ∃ (Hx : SH) (sl : List Sl), SH.le H0 Hx ∧ Own Hx H 36 1 l (sl.map sv) ∧ sl.length = i ∧ ∀ (j : Nat) (h : j < sl.length), Hx.row sl[j].a (intCells (Ls j)) ∧ sl[j].len = (Ls j).length
theorem Rows.more {Ls : Nat → List Int} {i : Nat} {l li : Sl} {H H1 H2 : SH} (h : Rows H0 Ls i l H) (hi : i ≤ 40) (hle : SH.le H H1) (ho : Own H1 H2 3 1 li (intCells (Ls i))) {K : Sl → SH → Prop} (k : ∀ l' H', Rows H0 Ls (i + 1) l' H' → K l' H') : AppendQ H2 36 1 24 l 1 [sv li] K := by
  obtain ⟨Hx, sl, e1, e2, e3, e4⟩ := h
  obtain ⟨H3, g1, g2⟩ := On.swap .sl .sl (ho.on.below hle) e2.on
  have hlen : l.len = i := by have := e2.len; simp at this; omega
  refine g1.own.append (by omega) (by omega) rfl (by simp [Value.oneCell', sv]) fun l' H' o' hl' => k l' H' ⟨H3, sl ++ [li], e1.trans g2.le, by simpa using o', by simp [e3], fun j hj => ?_⟩
  by_cases hji : j < sl.length
  · rw [List.getElem_append_left hji]
    exact ⟨(e4 j hji).1.le g2.le, (e4 j hji).2⟩
  · have : j = sl.length := by simp at hj; omega
    subst this
    rw [List.getElem_append_right (by omega)]
    simp only [Nat.sub_self, List.getElem_cons_zero]
    rw [e3]
    exact ⟨g2.row, by have := ho.len; simp [intCells] at this; omega⟩
theorem chain_row {n v : Nat} (hn : n ≤ 40) (hv : v < n) (hF : 5000 ≤ F) {ks : List Int} {es : List (Value × Value)} (hm : MI ks es) {R1 : Int → ByteArray → Sl → Sl → Int → Int → SH → Prop} {s : ByteArray} (hs : s.size ≤ 100 * v) {lo la : Sl} {b : Nat} {x53 x54 : Int} {H1 : SH} (hb : H1 b = some (AO.map es))
    (fin : ∀ li H, Own H1 H 3 1 li (intCells (rowP ks n)) → AppendQ H 36 1 24 lo 1 [sv li] fun l92 H93 => R1 n (s ++ ofL (putG v (rowP ks n))) l92 la x53 (w64 (x54 + 1)) H93) :
    ∀ (m t f : Nat) (li : Sl) (H : SH), n - t = m → t ≤ n → m < f → Own H1 H 3 1 li (intCells (rowP ks t)) → ladinglaw06_GapChain.l3 F KT R1 f (n : Int) s lo (v : Int) b li (t : Int) la x53 x54 H := by
  intro m
  induction m with
  | zero =>
    intro t f li H hj ht hf ho
    obtain ⟨f, rfl⟩ : ∃ i, f = i + 1 := ⟨f - 1, by omega⟩
    obtain rfl : t = n := by omega
    have hlen := rowP_len ks t
    refine br_f (by omega) (Put_spec hF (l := rowP ks t) (by have := ho.len; simp [intCells] at this; omega) ho.row (by omega) (by omega) (by omega) (by omega) (by omega) ?_)
    rw [(wrongG_none _ _ _).2 (rowP_up ks t)]
    have := putG_len (ks := ks) hn hv
    exact o_none ⟨by rw [ofL_size]; omega, fin li H ho⟩
  | succ m ih =>
    intro t f li H hj ht hf ho
    obtain ⟨f, rfl⟩ : ∃ i, f = i + 1 := ⟨f - 1, by omega⟩
    have hlen := rowP_len ks t
    have hl : li.len = (rowP ks t).length := by have := ho.len; simp [intCells] at this; omega
    have next : ∀ li' H', Own H1 H' 3 1 li' (intCells (rowP ks (t + 1))) → ladinglaw06_GapChain.j2 F KT R1 (ladinglaw06_GapChain.l3 F KT R1 f) (n : Int) s lo (v : Int) b li' (t : Int) la x53 x54 H' := fun li' H' ho' => by
      unfold ladinglaw06_GapChain.j2 ladinglaw06_GapChain.j1
      rw [w64_id (by omega), show (t : Int) + 1 = ((t + 1 : Nat) : Int) by omega]
      exact ih (t + 1) f li' H' (by omega) (by omega) (by omega) ho'
    have hsucc := rowP_succ ks t
    by_cases hk : (t : Int) ∈ ks
    · rw [if_pos hk] at hsucc
      refine br_t (by omega) ⟨es, ho.le _ _ hb, ⟨rfl, hm.1⟩, true, by rw [hm.2, if_pos hk]; rfl, br_t rfl ?_⟩
      refine ho.append (by omega) (by omega) rfl (by simp [Value.oneCell']) fun l' H' o' hl' => next l' H' ?_
      rw [hsucc]; simpa [intCells] using o'
    · rw [if_neg hk] at hsucc
      refine br_t (by omega) ⟨es, ho.le _ _ hb, ⟨rfl, hm.1⟩, false, by rw [hm.2, if_neg hk]; rfl, br_f (by simp) (next li H ?_)⟩
      rw [hsucc]; exact ho
/-- A row's numbers. -/
def keysOf (n : Nat) (zs : List Int) : List Int := zs.map fun z => z.tmod n
theorem chain_set {n v : Nat} (hn : n ≤ 40) (hv : v < n) {R1 : Int → ByteArray → Sl → Sl → Int → Int → SH → Prop} {s : ByteArray} {lo la : Sl} {b : Nat} {x53 x54 : Int} {H1 : SH} {w : SlW} {zs : List Int} (hw : w.len = zs.length) (hr : H1.rowW w.a (zs.map fun z => .int .u8 z)) (hz : ∀ z ∈ zs, 0 ≤ z ∧ z ≤ 255) (hmx : zs.length ≤ 9223372036854775807)
    (fin : ∀ es H, MI (keysOf n zs) es → On (Blk b (AO.map es)) H1 H → ladinglaw06_GapChain.l3 F KT R1 F (n : Int) s lo (v : Int) b Sl.nil 0 la x53 x54 H) :
    ∀ (m j f : Nat) (es : List (Value × Value)) (H : SH), zs.length - j = m → j ≤ zs.length → m < f → MI (keysOf n (zs.take j)) es → On (Blk b (AO.map es)) H1 H → ladinglaw06_GapChain.l2 F KT R1 f (n : Int) s lo (v : Int) b la x53 x54 w (zs.length : Int) (j : Int) H := by
  intro m
  induction m with
  | zero =>
    intro j f es H hj hi hf hm h
    obtain ⟨f, rfl⟩ : ∃ i, f = i + 1 := ⟨f - 1, by omega⟩
    rw [List.take_of_length_le (by omega)] at hm
    exact br_f (by omega) (fin es H hm h)
  | succ m ih =>
    intro j f es H hj hi hf hm h
    obtain ⟨f, rfl⟩ : ∃ i, f = i + 1 := ⟨f - 1, by omega⟩
    have hlt : j < zs.length := by omega
    have hzj := hz _ (List.getElem_mem hlt)
    refine br_t (by omega) (row_atW' (hr.le' h.le) (v := .int .u8 zs[j]) (by simp [hlt]) (by omega) fun p hp hh => ⟨zs[j], hh, by omega, es, (On.blk.1 h).2.2, ⟨rfl, hm.1⟩, ?_⟩)
    rw [w64_id (x := zs[j]) (by omega), w64_id (by omega), show (j : Int) + 1 = ((j + 1 : Nat) : Int) by omega]
    refine ih (j + 1) f _ _ (by omega) (by omega) (by omega) ?_ (On.upd h)
    have e : keysOf n (zs.take (j + 1)) = keysOf n (zs.take j) ++ [zs[j].tmod n] := by
      unfold keysOf; rw [List.take_succ_eq_append_getElem hlt, List.map_append]; rfl
    rw [e]
    exact hm.put _
theorem chain_read {n : Nat} (hn : n ≤ 40) (hF : 5000 ≤ F) {Ls : Nat → List Int} {kk : Nat → List Int} (hLs : ∀ j, Ls j = rowP (kk j) n) {s : ByteArray} (hs : bs s = allG Ls n) (hsz : s.size ≤ 100 * n) {lo : Sl} {sl : List Sl} (hlo : lo.len = sl.length) (hsl : sl.length = n) {Hb : SH} (hrow : Hb.row lo.a (sl.map sv)) (hin : ∀ (j : Nat) (h : j < sl.length), Hb.row sl[j].a (intCells (Ls j)) ∧ sl[j].len = (Ls j).length) :
    ∀ (m j f : Nat) (H : SH), n - j = m → j ≤ n → m < f → SH.le Hb H → ladinglaw06_GapChain.l4 F KT f (n : Int) s (((allG Ls j).length : Nat) : Int) lo (n : Int) (j : Int) H := by
  intro m
  induction m with
  | zero =>
    intro j f H hj hi hf hle
    obtain ⟨f, rfl⟩ : ∃ i, f = i + 1 := ⟨f - 1, by omega⟩
    obtain rfl : j = n := by omega
    refine br_f (by omega) ⟨H, .refl _, ?_⟩
    rw [← hs, bs_len]; simp
  | succ m ih =>
    intro j f H hj hi hf hle
    obtain ⟨f, rfl⟩ : ∃ i, f = i + 1 := ⟨f - 1, by omega⟩
    have hjl : j < sl.length := by omega
    obtain ⟨hr, hrl⟩ := hin j hjl
    obtain ⟨post, hpost⟩ := allG_more Ls (j + 1) (n - (j + 1))
    rw [show j + 1 + (n - (j + 1)) = n by omega, allG_succ] at hpost
    have hall : bs s = allG Ls j ++ putG j (Ls j) ++ post := by rw [hs]; exact hpost
    have hup : upG n (-1) (Ls j) := by rw [hLs]; exact rowP_up _ _
    have hll : (Ls j).length ≤ n := by rw [hLs]; exact rowP_len _ _
    have hsl2 : (allG Ls j).length + (putG j (Ls j)).length + post.length = s.size := by rw [← bs_len, hall]; simp; omega
    have hc : countG (bs s) (allG Ls j).length (n : Int) = .ok ((Ls j).length, (allG Ls j).length + (shortL (Ls j).length).length) := by
      have hr : readL ((bs s).drop (allG Ls j).length) 0 0 = .ok (Ls j).length (shortL (Ls j).length).length := by
        rw [hall, List.append_assoc, List.drop_left]
        unfold putG
        rw [List.append_assoc]
        exact readL_short (by omega) _
      unfold countG
      rw [hr]
      simp only
      rw [if_neg (by omega)]
    have hgot : getG (bs s) (n : Int) (Ls j).length true (j : Int) ((allG Ls j).length + (shortL (Ls j).length).length) = .ok (Ls j, (allG Ls j).length + (putG j (Ls j)).length) := by
      have := getG_put (nodes := n) (by omega) (Ls j) true j (allG Ls j ++ shortL (Ls j).length) post (by omega) (by omega) (by simpa using hup)
      rw [List.length_append] at this
      have e : bs s = allG Ls j ++ shortL (Ls j).length ++ putR true j (Ls j) ++ post := by rw [hall]; simp [putG]
      rw [e, this]
      congr 2
      simp only [putG, List.length_append]; omega
    have hskip := skipG_of_get _ _ _ _ _ _ hgot
    refine br_t (by omega) (row_at (hrow.le hle) (v := sv sl[j]) (by simp [hjl]) (by omega) fun p hp hh => ⟨sl[j], hh, ?_⟩)
    refine Count_spec (by omega) (by omega) (by omega) (by omega) (by omega) ?_
    rw [hc]
    refine Skip_spec hF (by omega) (by omega) (by omega) (by omega) ?_
    unfold SkipK
    rw [hc]
    simp only
    rw [hskip]
    refine Get_spec hF (by omega) (by omega) (by omega) (by omega) (by omega) ?_
    unfold GetK
    rw [hc]
    simp only
    rw [hgot]
    intro gl G' ho
    rw [List.nil_append] at ho
    have hgl : gl.len = (Ls j).length := by have := ho.len; simp [intCells] at this; omega
    refine o_noneC (o_noneC (o_none ?_))
    refine br_f (not_not_intro (by rw [hrl])) ?_
    refine br_f (not_not_intro rfl) ?_
    refine Ints_spec (la := Ls j) (lb := Ls j) hgl hrl ho.row (hr.le (hle.trans ho.le)) (by omega) (by omega) ?_
    rw [decide_eq_true rfl]
    refine br_t rfl ?_
    rw [w64_id (by omega), show (j : Int) + 1 = ((j + 1 : Nat) : Int) by omega]
    have e9 : (allG Ls j).length + (putG j (Ls j)).length = (allG Ls (j + 1)).length := by rw [allG_succ, List.length_append]
    rw [e9]
    exact ih (j + 1) f G' (by omega) (by omega) (by omega) (hle.trans ho.le)
theorem chain_rows {n M : Nat} (hn : n ≤ 40) (hF : 5000 ≤ F) (hFM : M < F) (hM : M ≤ 9223372036854775807) {la : Sl} (hla : la.len = n) {wl : List SlW} (hwl : wl.length = n) (hr : H0.row la.a (wl.map swv)) {rows : Nat → List Int} (hin : ∀ (j : Nat) (h : j < wl.length), H0.rowW wl[j].a ((rows j).map fun z => .int .u8 z) ∧ wl[j].len = (rows j).length ∧ (rows j).length ≤ M ∧ ∀ z ∈ rows j, 0 ≤ z ∧ z ≤ 255)
    {Ls : Nat → List Int} (hLs : ∀ j, Ls j = rowP (keysOf n (rows j)) n) :
    ∀ (m i f : Nat) (s : ByteArray) (lo : Sl) (H : SH), n - i = m → i ≤ n → m < f → bs s = allG Ls i → s.size ≤ 100 * i → Rows H0 Ls i lo H → ladinglaw06_GapChain.l1 F KT f (n : Int) s lo la (n : Int) (i : Int) H := by
  intro m
  induction m with
  | zero =>
    intro i f s lo H hj hi hf hs hsz h
    obtain ⟨f, rfl⟩ : ∃ i, f = i + 1 := ⟨f - 1, by omega⟩
    obtain rfl : i = n := by omega
    obtain ⟨Hx, sl, e1, e2, e3, e4⟩ := h
    have hlo : lo.len = sl.length := by have := e2.len; simp at this; omega
    refine br_f (by omega) ?_
    rw [hlo, e3]
    have := chain_read hn hF hLs hs hsz hlo e3 e2.row (fun j h => ⟨(e4 j h).1.le e2.le, (e4 j h).2⟩) i 0 F H (by omega) (by omega) (by omega) (.refl _)
    exact this
  | succ m ih =>
    intro i f s lo H hj hi hf hs hsz h
    obtain ⟨f, rfl⟩ : ∃ i, f = i + 1 := ⟨f - 1, by omega⟩
    have hlt : i < wl.length := by omega
    obtain ⟨q1, q2, q3, q4⟩ := hin i hlt
    have hH : SH.le H0 H := by obtain ⟨Hx, sl, e1, e2, _⟩ := h; exact e1.trans e2.le
    refine br_t (by omega) (row_at (hr.le hH) (v := swv wl[i]) (by simp [hlt]) (by omega) fun p hp hh => ⟨wl[i], hh, fun b20 hb20 => ?_⟩)
    rw [q2]
    refine chain_set (F := F) hn (by omega) q2 (q1.le' hH) q4 (by omega) (fun es H' hm hb => ?_) (rows i).length 0 F [] _ (by omega) (by omega) (by omega) (by simpa [keysOf] using MI.nil) (On.new hb20)
    refine chain_row hn (by omega) hF hm hsz (On.blk.1 hb).2.2 (fun li H'' ho => ?_) n 0 F Sl.nil H' (by omega) (by omega) (by omega) (by simpa [rowP, intCells] using Own.nil H' 3 1)
    rw [← hLs] at ho ⊢
    refine h.more (by omega) hb.le ho fun l' H3 h3 => ?_
    rw [w64_id (by omega), show (i : Int) + 1 = ((i + 1 : Nat) : Int) by omega]
    have hg := putG_len (ks := keysOf n (rows i)) hn (show i < n by omega)
    rw [← hLs] at hg
    refine ih (i + 1) f _ l' H3 (by omega) (by omega) (by omega) ?_ ?_ h3
    · rw [bs_append, hs, bs_ofL, allG_succ]
    · rw [← bs_len, bs_append, List.length_append, bs_len, bs_ofL]; omega
theorem GapChain_wp {H : SH} {M : Nat} (hF : 5000 ≤ F) (hFM : M < F) (hM : M ≤ 9223372036854775807) {la : Sl} {wl : List SlW} (hla : la.len = wl.length) (hr : H.row la.a (wl.map swv)) {rows : Nat → List Int} (hin : ∀ (j : Nat) (h : j < wl.length), H.rowW wl[j].a ((rows j).map fun z => .int .u8 z) ∧ wl[j].len = (rows j).length ∧ (rows j).length ≤ M ∧ ∀ z ∈ rows j, 0 ≤ z ∧ z ≤ 255) : ladinglaw06_GapChain.wp F la H KT := by
  refine awakeC06_spec hF fun H3 h3 => br_t rfl ?_
  by_cases hm : (la.len : Int) > 40
  · exact br_t hm ⟨H3, .refl _, rfl⟩
  refine br_f hm ?_
  by_cases h0 : (la.len : Int) = 0
  · exact br_t h0 ⟨H3, .refl _, rfl⟩
  refine br_f h0 ?_
  refine chain_rows (H0 := H3) (by omega) hF hFM hM rfl hla.symm (hr.le h3) (fun j h => ⟨(hin j h).1.le' h3, (hin j h).2⟩) (Ls := fun j => rowP (keysOf la.len (rows j)) la.len) (fun _ => rfl) la.len 0 F ByteArray.empty Sl.nil H3 (by omega) (by omega) (by omega) (by simp [allG, bs_empty]) (by show 0 ≤ _; omega) ?_
  exact ⟨H3, [], .refl _, Own.nil H3 36 1, rfl, fun j h => by simp at h⟩
end
open Go.RowKit Go.ChangeShapes Go.WideShapes Go.ChangeAt Go.Deep in
theorem cell_spot1 {W : World} {a : Addr} {v : Value} (h : W.cell? a = some v) : a = ad (a.block, a.off) := by
  unfold World.cell? at h
  split at h
  · split at h
    · cases h
    · rename_i hs
      cases a with
      | mk b o s =>
        cases s with
        | none => rfl
        | some s => simp at hs
  · cases h
open Go.RowKit Go.ChangeShapes Go.WideShapes Go.ChangeAt Go.Deep in
/-- A slice of numbers, with any address. -/
theorem cell_intsW {H : Type} {enc : TypeId × Value → H} {P : Program} {W : World} {t e : TypeId} {k : IntKind} {v : Value} {n : Nat} {y : DataW H × List MemPlace} (ht : P.underlying t = some (.slice e)) (he : P.underlying e = some (.int k)) (hc : P.cellsOf e = 1) (hd : DataW.trod enc P W 0 (fun _ => true) true n t [v] = some y) :
    ∃ (w : SlW) (zs : List Int), v = swv w ∧ w.len = zs.length ∧ zs.length ≤ maxLen ∧ (SH.of W).rowW w.a (zs.map fun z => .int k z) ∧ ∀ z ∈ zs, k.min ≤ z ∧ z ≤ k.max := by
  rcases open_ints ht he hc hd with ⟨h1, _⟩ | ⟨a, len, cap, zs, h1, _, hl, hm, hz, _, hx, hw⟩
  · obtain rfl : v = .slice none 0 0 := by simpa using h1
    exact ⟨⟨none, 0, 0⟩, [], rfl, rfl, by simp, .inl rfl, fun _ h => by cases h⟩
  · obtain rfl : v = .slice (some a) len cap := by simpa using h1
    simp only [if_true] at hz
    refine ⟨⟨some a, len, cap⟩, zs.take len, rfl, by simp; omega, by simp; omega, ?_, fun z hz' => lit_range (hw z (List.mem_of_mem_take hz'))⟩
    by_cases h0 : len = 0
    · left; subst h0; simp
    · have hz0 := hx 0 (by omega)
      have ha : a = ad (a.block, a.off) := cell_spot1 (v := .int k (zs.getD 0 0)) (by have : a.add 0 = a := rfl; rw [← this]; exact hz0)
      refine .inr ⟨(a.block, a.off), by rw [← ha], ?_⟩
      have := SH.of_row (W := W) (p := (a.block, a.off)) (n := len) (V := fun i => .int k (zs.getD i 0)) fun i hi => by rw [← ha]; exact hx i (by omega)
      have e : (zs.take len).map (fun z => Value.int k z) = cellsF len fun i => .int k (zs.getD i 0) := by
        refine cellsF_ext (by simp; omega) fun i hi => ?_
        have h2 : i < zs.length := by omega
        simp [List.getElem?_take, hi, h2, List.getD]
      rw [e]; exact this
set_option maxRecDepth 100000 in
open Go.RowKit Go.ChangeShapes Go.WideShapes Go.ChangeAt Go.Deep in
theorem GapChain_walk {X : Prop} {H : Type} {enc : TypeId × Value → H} (W : World) (args : Array Value) (ds : List (DataW H)) (p : List MemPlace) (base : Nat)
    (hval : ∀ (j : Nat) t v, Try.f7.params[j]? = some t → args[j]? = some v → Value.okWide Try.prog W .any base t v) (hA : DataW.TrodAll enc Try.prog W 0 (fun _ => true) true Try.f7.params.toList args.toList ds p) (hfz : X) :
    (∃ d, ds = [d]) ∧ Calls Try.prog 7 args W fun e w' => e = .returned (.bool true) ∧ RowKit.Below W.heap.size W w' := by
  rw [Try.params7] at hA hval
  obtain ⟨v0, vs0, d0, ds0, p0, q0, hargs, rfl, rfl, h0, r0⟩ := trodAll_cons hA
  obtain ⟨rfl, rfl, rfl⟩ := trodAll_nil r0
  obtain rfl : args = #[v0] := by cases args; simp_all
  obtain ⟨l, V, k, rfl, hl, hr, hx⟩ := arg_rowsG (c := 1) Try.underlying45 (by kernel_rfl) (hval 0 45 v0 rfl rfl) h0
  refine ⟨⟨_, rfl⟩, ?_⟩
  haveI : Inhabited SlW := ⟨⟨none, 0, 0⟩⟩
  have each : ∀ i, i < l.len → ∃ x : SlW × List Int, V i = swv x.1 ∧ (x.1.len = x.2.length ∧ x.2.length ≤ maxLen ∧ (SH.of W).rowW x.1.a (x.2.map fun z => .int .u8 z) ∧ ∀ z ∈ x.2, 0 ≤ z ∧ z ≤ 255) := fun i hi => by
    obtain ⟨y, hy⟩ := hx i hi
    have hy' : DataW.trod enc Try.prog W 0 (fun _ => true) true k 32 [V (i * 1 + 0)] = some y := hy
    rw [Nat.mul_one, Nat.add_zero] at hy'
    obtain ⟨w, zs, g1, g2, g3, g4, g5⟩ := cell_intsW Try.underlying32 Try.underlying5 (by kernel_rfl) hy'
    exact ⟨(w, zs), g1, g2, g3, g4, fun z hz => g5 z hz⟩
  obtain ⟨f, hf⟩ := choose_lt each
  have hlen : ((List.range l.len).map fun i => (f i).1).length = l.len := by simp
  have hrow : (SH.of W).row l.a (((List.range l.len).map fun i => (f i).1).map swv) := by
    have e : ((List.range l.len).map fun i => (f i).1).map swv = cellsF (l.len * 1) V := by
      refine cellsF_ext (by simp) fun i hi => ?_
      have hi' : i < l.len := by omega
      simp [hi', (hf i hi').1]
    rw [e]; exact hr
  have hM : maxLen ≤ 9223372036854775807 := by decide
  have h := ladinglaw06_GapChain.sound (maxLen + 5000) l (SH.of W) _ (GapChain_wp (M := maxLen) (by omega) (by omega) hM (wl := (List.range l.len).map fun i => (f i).1) hlen.symm hrow (rows := fun i => (f i).2) fun j hj => ?_) W (SH.of_sat W)
  · refine h.mono ?_
    rintro e w' ⟨v, H', rfl, st, q, rfl, rfl⟩
    exact ⟨rfl, st.below fun b o hb => SH.of_ro hb⟩
  · have hj' : j < l.len := by simpa using hj
    obtain ⟨g1, g2, g3, g4, g5⟩ := hf j hj'
    simp only [List.getElem_map, List.getElem_range]
    exact ⟨g4, g2, g3, g5⟩
end Go.Proofs.Ytpnbehgkbfhacaa.K
