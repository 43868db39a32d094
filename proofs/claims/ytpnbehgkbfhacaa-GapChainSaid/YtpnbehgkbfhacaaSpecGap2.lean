/- Put of package gap; what is got is what is put. -/
import Derived.Test.YtpnbehgkbfhacaaSpecGap
set_option linter.unusedVariables false
set_option linter.unusedSimpArgs false
namespace Go.Proofs.Ytpnbehgkbfhacaa.K
open Go

def wrongG (nodes : Int) : Nat → Int → List Int → Option Nat
  | _, _, [] => none
  | i, last, t :: l => if t ≤ last ∨ t ≥ nodes then some i else wrongG nodes (i + 1) t l
theorem wrongG_none {nodes : Int} : ∀ (l : List Int) (i : Nat) (last : Int), wrongG nodes i last l = none ↔ upG nodes last l
  | [], _, _ => by simp [wrongG, upG]
  | t :: l, i, last => by
    unfold wrongG upG
    by_cases h : t ≤ last ∨ t ≥ nodes
    · rw [if_pos h]; simp; omega
    · rw [if_neg h, wrongG_none l]
      constructor
      · intro h'; exact ⟨by omega, by omega, h'⟩
      · intro h'; exact h'.2.2
def PtK (K : ByteArray → Option EV → SH → Prop) (v : Int) (l : List Int) (H : SH) : Option Nat → Prop
  | some j => K ByteArray.empty (erAt j 10) H
  | none => K (ofL (putG v l)) none H
theorem Put_loop1 {F : Nat} (hF : 5000 ≤ F) {K : ByteArray → Option EV → SH → Prop} {sl : Sl} {l : List Int} {v nodes : Int} (H : SH) (hl : sl.len = l.length) (hr : H.row sl.a (intCells l)) (hv0 : 0 ≤ v) (hv1 : v < nodes) (hn : nodes ≤ 4096) (hll : l.length ≤ 4611686018427387904) :
    ∀ (m i k : Nat) (last : Int), l.length - i = m → i ≤ l.length → m < k → (wrongG nodes i last (l.drop i) = none → upG nodes (-1) l) → PtK K v l H (wrongG nodes i last (l.drop i)) →
      gap_Put.l1 F K k nodes v sl last sl (sl.len : Int) i H := by
  intro m
  induction m with
  | zero =>
    intro i k last hm hi hk hup h
    obtain ⟨k, rfl⟩ : ∃ j, k = j + 1 := ⟨k - 1, by omega⟩
    refine br_f (by omega) ?_
    rw [List.drop_eq_nil_of_le (by omega)] at h hup
    have hu := hup rfl
    have hlen := upG_len l (-1) hu (by omega)
    rw [hl]
    refine PutShort_spec (by omega) (by omega) ?_
    have hsh : (shortL l.length).length ≤ 10 := by
      by_cases h1 : l.length < 128
      · rw [shortL_one h1]; simp
      · rw [shortL_more h1, shortL_one (by omega)]; simp
    exact Put_loop2 hF H hl hr hv0 hv1 hn (by omega) (fun t ht => by have := upG_all l (-1) hu t ht; omega) l.length 0 F 0 (shortL l.length) (by omega) (by omega) (by omega) (fun h => by omega) (by simpa using hu) (by omega) h
  | succ m ih =>
    intro i k last hm hi hk hup h
    obtain ⟨k, rfl⟩ : ∃ j, k = j + 1 := ⟨k - 1, by omega⟩
    have hlt : i < l.length := by omega
    rw [List.drop_eq_getElem_cons hlt] at h hup
    unfold wrongG at h hup
    refine br_t (by omega) (row_at hr (v := .int .i64 l[i]) (by simp [intCells, hlt]) (by omega) fun p hp hh => ⟨l[i], hh, ⟨fun c => ?_, fun c => ⟨fun c2 => ?_, fun c2 => ?_⟩⟩⟩)
    · rw [if_pos (.inl c)] at h; exact wrong_spec ⟨H, .refl H, h⟩
    · rw [if_pos (.inr c2)] at h; exact wrong_spec ⟨H, .refl H, h⟩
    · rw [if_neg (by omega)] at h hup
      rw [w64_id (by omega), show (i : Int) + 1 = ((i + 1 : Nat) : Int) by omega]
      exact ih (i + 1) k l[i] (by omega) (by omega) (by omega) hup h
theorem Put_spec {F : Nat} (hF : 5000 ≤ F) {sl : Sl} {l : List Int} {v nodes : Int} {H : SH} (hl : sl.len = l.length) (hr : H.row sl.a (intCells l)) (hv0 : 0 ≤ v) (hv1 : v < nodes) (hn : nodes ≤ 4096) (hll : l.length < F) (hll2 : l.length ≤ 4611686018427387904)
    {K : ByteArray → Option EV → SH → Prop} (h : PtK K v l H (wrongG nodes 0 (-1) l)) : gap_Put.wp F nodes v sl H K :=
  may_ok (by omega) hn hv0 hv1 (o_none (Put_loop1 hF H hl hr hv0 hv1 hn hll2 l.length 0 F (-1) (by omega) (by omega) hll (fun g => (wrongG_none l 0 (-1)).1 (by simpa using g)) (by simpa using h)))
theorem Put_bad1 {F : Nat} {sl : Sl} {v nodes : Int} {H : SH} (hn : nodes < 0 ∨ nodes > 4096) {K : ByteArray → Option EV → SH → Prop} (h : K ByteArray.empty (some (.no 1)) H) : gap_Put.wp F nodes v sl H K := may_bad1 hn (o_some ⟨H, .refl H, h⟩)
theorem Put_bad2 {F : Nat} {sl : Sl} {v nodes : Int} {H : SH} (hn0 : 0 ≤ nodes) (hn1 : nodes ≤ 4096) (hv : v < 0 ∨ v ≥ nodes) {K : ByteArray → Option EV → SH → Prop} (h : K ByteArray.empty (some (.no 2)) H) : gap_Put.wp F nodes v sl H K := may_bad2 hn0 hn1 hv (o_some ⟨H, .refl H, h⟩)

/-! ### there and back -/
theorem getG_ok {s : List UInt8} {nodes : Int} : ∀ (k : Nat) (first : Bool) (now : Int) (q : Nat) (l : List Int) (q' : Nat), getG s nodes k first now q = .ok (l, q') → 0 ≤ now → now < nodes → q ≤ s.length →
    l.length = k ∧ q ≤ q' ∧ q' ≤ s.length ∧ upG nodes (if first then -1 else now) l ∧ putR first now l = (s.drop q).take (q' - q)
  | 0, first, now, q, l, q', h, h0, h1, hq => by
    simp only [getG] at h
    cases h
    exact ⟨rfl, Nat.le_refl _, hq, trivial, by simp [putR]⟩
  | k + 1, first, now, q, l, q', h, h0, h1, hq => by
    unfold getG at h
    cases hr : readL (s.drop q) 0 0 with
    | form => rw [hr] at h; cases h
    | cut => rw [hr] at h; cases h
    | ok x n =>
      rw [hr] at h
      simp only at h
      obtain ⟨g1, g2, g3, g4⟩ := shortL_read hr
      rw [List.length_drop] at g3
      generalize hd : (if first = true then backZ (x : Int) else (x : Int) + 1) = d at h
      by_cases c : d < -now ∨ d ≥ nodes - now
      · rw [if_pos c] at h; cases h
      · rw [if_neg c] at h
        cases hg : getG s nodes k false (now + d) (q + n) with
        | error e => rw [hg] at h; cases h
        | ok r =>
          obtain ⟨l2, q2⟩ := r
          rw [hg] at h
          cases h
          obtain ⟨e1, e2, e3, e4, e5⟩ := getG_ok k false (now + d) (q + n) l2 q' hg (by omega) (by omega) (by omega)
          refine ⟨by simp [e1], by omega, e3, ⟨?_, by omega, e4⟩, ?_⟩
          · cases first with
            | true => simp only [if_true]; omega
            | false => simp only [Bool.false_eq_true, if_false] at hd ⊢; omega
          · have hx : (if first = true then turnZ (now + d - now) else now + d - now - 1).toNat = x := by
              rw [show now + d - now = d by omega]
              cases first with
              | true =>
                simp only [if_true] at hd ⊢
                rw [← hd, turn_back (by omega)]; omega
              | false => simp only [Bool.false_eq_true, if_false] at hd ⊢; omega
            simp only [putR]
            rw [hx, g2, e5, show q' - q = n + (q' - (q + n)) by omega, List.take_add, List.drop_drop]
theorem getG_put {nodes : Int} (hn : nodes ≤ 4096) : ∀ (l : List Int) (first : Bool) (now : Int) (pre post : List UInt8), 0 ≤ now → now < nodes → upG nodes (if first then -1 else now) l →
    getG (pre ++ putR first now l ++ post) nodes l.length first now pre.length = .ok (l, pre.length + (putR first now l).length)
  | [], first, now, pre, post, h0, h1, hu => by simp [getG, putR]
  | t :: l, first, now, pre, post, h0, h1, ⟨u1, u2, u3⟩ => by
    have ht0 : 0 ≤ t := by cases first <;> simp at u1 <;> omega
    obtain ⟨x, hx⟩ : ∃ x : Nat, (if first = true then turnZ (t - now) else t - now - 1) = x := by
      refine ⟨(if first = true then turnZ (t - now) else t - now - 1).toNat, ?_⟩
      cases first with
      | true => simp only [if_true]; have := turnZ_range (x := t - now) (by omega) (by omega); omega
      | false => simp only [Bool.false_eq_true, if_false] at u1 ⊢; omega
    have hxb : x ≤ 72057594037927935 := by
      cases first with
      | true => simp only [if_true] at hx; have := turnZ_range (x := t - now) (by omega) (by omega); omega
      | false => simp only [Bool.false_eq_true, if_false] at hx; omega
    have hd : (if first = true then backZ (x : Int) else (x : Int) + 1) = t - now := by
      cases first with
      | true => simp only [if_true] at hx ⊢; rw [← hx, back_turn]
      | false => simp only [Bool.false_eq_true, if_false] at hx ⊢; omega
    have hp : putR first now (t :: l) = shortL x ++ putR false t l := by simp only [putR]; rw [hx]; simp
    have hr : readL ((pre ++ putR first now (t :: l) ++ post).drop pre.length) 0 0 = .ok x (shortL x).length := by
      rw [List.append_assoc, List.drop_left, hp, List.append_assoc]
      exact readL_short hxb _
    have ih := getG_put hn l false t (pre ++ shortL x) post ht0 u2 u3
    rw [List.length_append] at ih
    simp only [List.length_cons]
    unfold getG
    rw [hr]
    simp only
    rw [hd, if_neg (by omega)]
    have e : pre ++ putR first now (t :: l) ++ post = pre ++ shortL x ++ putR false t l ++ post := by rw [hp]; simp
    rw [e, show now + (t - now) = t by omega, ih, hp, List.length_append]
    simp only
    congr 2; omega
theorem skipG_of_get {s : List UInt8} {nodes : Int} : ∀ (k : Nat) (first : Bool) (now : Int) (q : Nat) (l : List Int) (q' : Nat), getG s nodes k first now q = .ok (l, q') → skipG s k q = .ok q'
  | 0, first, now, q, l, q', h => by simp only [getG] at h; cases h; rfl
  | k + 1, first, now, q, l, q', h => by
    unfold getG at h
    unfold skipG
    cases hr : readL (s.drop q) 0 0 with
    | form => rw [hr] at h; cases h
    | cut => rw [hr] at h; cases h
    | ok x n =>
      rw [hr] at h
      simp only at h ⊢
      generalize (if first = true then backZ (x : Int) else (x : Int) + 1) = d at h
      by_cases c : d < -now ∨ d ≥ nodes - now
      · rw [if_pos c] at h; cases h
      · rw [if_neg c] at h
        cases hg : getG s nodes k false (now + d) (q + n) with
        | error e => rw [hg] at h; cases h
        | ok r =>
          obtain ⟨l2, q2⟩ := r
          rw [hg] at h
          cases h
          exact skipG_of_get k false (now + d) (q + n) l2 q' hg

/-! ### Count, Skip -/
def CountK (K : Int → Option EV → SH → Prop) (H : SH) : Except (Nat × Int) (Nat × Nat) → Prop
  | .ok (n, _) => K n none H
  | .error (a, c) => K 0 (erAt a c) H
theorem Count_spec {F : Nat} (hF : 10 ≤ F) {s : ByteArray} (hs : s.size ≤ 4611686018427387904) {p : Nat} (hp : p ≤ s.size) {nodes : Int} (hn0 : 0 ≤ nodes) (hn1 : nodes ≤ 4096) {H : SH} {K : Int → Option EV → SH → Prop} (h : CountK K H (countG (bs s) p nodes)) : gap_Count.wp F s p nodes H K := by
  refine nodesFit_ok hn0 hn1 (o_none (count_spec hF hs hp ?_))
  cases hc : countG (bs s) p nodes with
  | ok r => rw [hc] at h; exact ⟨H, .refl H, h⟩
  | error e => rw [hc] at h; exact ⟨H, .refl H, h⟩
theorem Count_badp {F : Nat} {s : ByteArray} {p nodes : Int} (hp : p < 0 ∨ p > s.size) (hn0 : 0 ≤ nodes) (hn1 : nodes ≤ 4096) {H : SH} {K : Int → Option EV → SH → Prop} (h : K 0 (erAt p 1) H) : gap_Count.wp F s p nodes H K :=
  nodesFit_ok hn0 hn1 (o_none (count_bad hp ⟨H, .refl H, h⟩))
theorem Count_bad {F : Nat} {s : ByteArray} {p nodes : Int} (hn : nodes < 0 ∨ nodes > 4096) {H : SH} {K : Int → Option EV → SH → Prop} (h : K 0 (erAt p 1) H) : gap_Count.wp F s p nodes H K :=
  nodesFit_bad hn (o_some ⟨H, .refl H, h⟩)
def SkK (K : Int → Option EV → SH → Prop) (p : Int) (H : SH) : Except (Nat × Int) Nat → Prop
  | .ok q => K q none H
  | .error (a, c) => K p (erAt a c) H
theorem Skip_loop {F : Nat} (hF : 5000 ≤ F) {K : Int → Option EV → SH → Prop} {s : ByteArray} (hs : s.size ≤ 4611686018427387904) {p : Int} (H : SH) {N : Nat} (hN : N ≤ 4096) :
    ∀ (m i k q : Nat), i + m = N → m < k → q ≤ s.size → SkK K p H (skipG (bs s) m q) → gap_Skip.l1 F K k s p q none N i H := by
  intro m
  induction m with
  | zero =>
    intro i k q hm hk hq h
    obtain ⟨k, rfl⟩ : ∃ j, k = j + 1 := ⟨k - 1, by omega⟩
    exact br_f (by omega) (o_none ⟨H, .refl H, h⟩)
  | succ m ih =>
    intro i k q hm hk hq h
    obtain ⟨k, rfl⟩ : ∃ j, k = j + 1 := ⟨k - 1, by omega⟩
    refine br_t (by omega) (Short_spec (by omega) hs hq ?_)
    unfold skipG at h
    cases hr : readL ((bs s).drop q) 0 0 with
    | form => rw [hr] at h; exact o_some ⟨H, .refl H, h⟩
    | cut => rw [hr] at h; simp only [bs_len] at h; exact o_some ⟨H, .refl H, h⟩
    | ok x n =>
      rw [hr] at h
      obtain ⟨g1, g2, g3, g4⟩ := shortL_read hr
      rw [List.length_drop, bs_len] at g3
      refine o_none ?_
      rw [w64_id (by omega), show (i : Int) + 1 = ((i + 1 : Nat) : Int) by omega, show (q : Int) + (n : Int) = ((q + n : Nat) : Int) by omega]
      exact ih (i + 1) k (q + n) (by omega) (by omega) (by omega) h
def SkipK (K : Int → Option EV → SH → Prop) (s : ByteArray) (p : Nat) (nodes : Int) (H : SH) : Prop :=
  match countG (bs s) p nodes with
  | .error (a, c) => K p (erAt a c) H
  | .ok (n, q) => SkK K p H (skipG (bs s) n q)
theorem Skip_spec {F : Nat} (hF : 5000 ≤ F) {s : ByteArray} (hs : s.size ≤ 4611686018427387904) {p : Nat} (hp : p ≤ s.size) {nodes : Int} (hn0 : 0 ≤ nodes) (hn1 : nodes ≤ 4096) {H : SH} {K : Int → Option EV → SH → Prop} (h : SkipK K s p nodes H) : gap_Skip.wp F s p nodes H K := by
  refine nodesFit_ok hn0 hn1 (o_none (count_spec (by omega) hs hp ?_))
  unfold SkipK at h
  cases hc : countG (bs s) p nodes with
  | error e =>
    obtain ⟨a, c⟩ := e
    rw [hc] at h
    obtain ⟨k, rfl⟩ : ∃ j, F = j + 1 := ⟨F - 1, by omega⟩
    exact br_f (by omega) (o_some ⟨H, .refl H, h⟩)
  | ok r =>
    obtain ⟨n, q⟩ := r
    rw [hc] at h
    obtain ⟨g1, g2, g3, g4, g5, g6⟩ := countG_ok hc
    rw [bs_len] at g3
    exact Skip_loop hF hs H (N := n) (by omega) n 0 F q (by omega) (by omega) (by omega) h
theorem Skip_badp {F : Nat} (hF : 1 ≤ F) {s : ByteArray} {p nodes : Int} (hp : p < 0 ∨ p > s.size) (hn0 : 0 ≤ nodes) (hn1 : nodes ≤ 4096) {H : SH} {K : Int → Option EV → SH → Prop} (h : K p (erAt p 1) H) : gap_Skip.wp F s p nodes H K := by
  obtain ⟨k, rfl⟩ : ∃ j, F = j + 1 := ⟨F - 1, by omega⟩
  exact nodesFit_ok hn0 hn1 (o_none (count_bad hp (br_f (by omega) (o_some ⟨H, .refl H, h⟩))))
theorem Skip_bad {F : Nat} {s : ByteArray} {p nodes : Int} (hn : nodes < 0 ∨ nodes > 4096) {H : SH} {K : Int → Option EV → SH → Prop} (h : K p (erAt p 1) H) : gap_Skip.wp F s p nodes H K :=
  nodesFit_bad hn (o_some ⟨H, .refl H, h⟩)

/-! ### Ints -/
theorem Ints_spec {F : Nat} {a b : Sl} {la lb : List Int} {H : SH} (ha : a.len = la.length) (hb : b.len = lb.length) (hra : H.row a.a (intCells la)) (hrb : H.row b.a (intCells lb)) (hF : la.length < F) (h63 : la.length ≤ 4611686018427387904)
    {K : Bool → SH → Prop} (h : K (decide (la = lb)) H) : ladingref05_Ints.wp F a b H K := by
  refine ⟨fun c => ⟨H, .refl H, ?_⟩, fun c => ?_⟩
  · rw [decide_eq_false (by rintro rfl; omega)] at h; exact h
  · have hlen : la.length = lb.length := by omega
    have key : ∀ (m i k : Nat), la.length - i = m → i ≤ la.length → m < k → (∀ j, j < i → la[j]? = lb[j]?) → ladingref05_Ints.l1 F K k a b i H := by
      intro m
      induction m with
      | zero =>
        intro i k hm hi hk he
        obtain ⟨k, rfl⟩ : ∃ j, k = j + 1 := ⟨k - 1, by omega⟩
        refine br_f (by omega) ⟨H, .refl H, ?_⟩
        have : la = lb := by
          apply List.ext_getElem?
          intro j
          by_cases hj : j < i
          · exact he j hj
          · rw [List.getElem?_eq_none (by omega), List.getElem?_eq_none (by omega)]
        rw [decide_eq_true this] at h; exact h
      | succ m ih =>
        intro i k hm hi hk he
        obtain ⟨k, rfl⟩ : ∃ j, k = j + 1 := ⟨k - 1, by omega⟩
        have h1 : i < la.length := by omega
        have h2 : i < lb.length := by omega
        refine br_t (by omega) (row_at hra (v := .int .i64 la[i]) (by simp [intCells, h1]) (by omega) fun p hp hh => ⟨la[i], hh, row_at hrb (v := .int .i64 lb[i]) (by simp [intCells, h2]) (by omega) fun p2 hp2 hh2 => ⟨lb[i], hh2, ⟨fun c2 => ⟨H, .refl H, ?_⟩, fun c2 => ?_⟩⟩⟩)
        · rw [decide_eq_false (by rintro rfl; exact c2 rfl)] at h; exact h
        · rw [w64_id (by omega), show (i : Int) + 1 = ((i + 1 : Nat) : Int) by omega]
          refine ih (i + 1) k (by omega) (by omega) (by omega) fun j hj => ?_
          by_cases hji : j = i
          · subst hji
            rw [List.getElem?_eq_getElem h1, List.getElem?_eq_getElem h2, Decidable.not_not.1 c2]
          · exact he j (by omega)
    exact key la.length 0 F (by omega) (by omega) hF (fun j hj => by omega)
end Go.Proofs.Ytpnbehgkbfhacaa.K
