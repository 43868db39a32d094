/- The law OctetRows: what it comes to. -/
import Derived.Test.YtpnbehgkbfhacaaDoorSpecText
import Derived.Test.YtpnbehgkbfhacaaDoorApi2
import Derived.Test.YtpnbehgkbfhacaaDoorArgs
import Derived.Test.YtpnbehgkbfhacaaDoorGladinglaw01OctetRows
set_option linter.unusedVariables false
set_option linter.unusedSimpArgs false
namespace Go.Proofs.YtpnbehgkbfhacaaDoor.K
open Go
theorem CodeR {F : Nat} {e : Option EV} {H : SH} {K : Int → SH → Prop} (hg : H.has (0, 0) (rtv 24)) (h : K (codeV e) H) : api_Code.wp F e H K := ⟨hg, h⟩
theorem PlaceR {F : Nat} {e : Option EV} {H : SH} {K : Int → SH → Prop} (hg : H.has (0, 0) (rtv 24)) (h : K (placeV e) H) : api_Place.wp F e H K := ⟨hg, h⟩
theorem awakeR_spec {F : Nat} (hF : 10 ≤ F) {H : SH} {K : Bool → SH → Prop} (h : K true H) : ladinglaw01_awake.wp F H K := by
  have h1 : ofL (shortL 300) = (⟨#[172, 2]⟩ : ByteArray) := by
    rw [shortL_more (by omega), shortL_one (by omega)]; rfl
  refine PutShort_spec (x := 300) hF (by omega) (br_t h1 (o_none (Turn_spec (by omega) (by omega) ⟨H, .refl H, ?_⟩)))
  exact h
theorem RdK_okR {K : Int → Int → Option EV → SH → Prop} {s : ByteArray} {p : Int} {H : SH} {x n : Nat} (h : K x (p + n) none H) : RdK K s p H (.ok x n) := h
theorem RdK_cutR {K : Int → Int → Option EV → SH → Prop} {s : ByteArray} {p : Int} {H : SH} (h : K 0 p (some (EV.mk s.size (some (.no 3)))) H) : RdK K s p H .cut := h
theorem RdT_okR {K : Int → Int → Option EV → SH → Prop} {s : ByteArray} {p : Int} {H : SH} {x n : Nat} (h : K (backZ x) (p + n) none H) : RdT K s p H (.ok x n) := h
def numsL (l : List Nat) : List UInt8 := l.flatMap shortL
theorem numsL_take {l : List Nat} {i : Nat} (h : i < l.length) : numsL (l.take (i + 1)) = numsL (l.take i) ++ shortL l[i] := by
  unfold numsL
  rw [List.take_succ_eq_append_getElem h, List.flatMap_append]
  simp only [List.flatMap_cons, List.flatMap_nil, List.append_nil]
theorem numsL_split {l : List Nat} {i : Nat} (h : i < l.length) : numsL l = numsL (l.take i) ++ (shortL l[i] ++ numsL (l.drop (i + 1))) := by
  have e : l = l.take i ++ (l[i] :: l.drop (i + 1)) := by rw [← List.drop_eq_getElem_cons h, List.take_append_drop]
  have := congrArg numsL e
  refine this.trans ?_
  unfold numsL
  rw [List.flatMap_append, List.flatMap_cons]
theorem shortL_pos (x : Nat) : 0 < (shortL x).length := by
  by_cases h : x < 128
  · rw [shortL_one h]; simp
  · rw [shortL_more h]; simp
theorem textL_pos (t : List UInt8) : 0 < (textL t).length := by
  unfold textL
  have := shortL_pos t.length
  rw [List.length_append]; omega
theorem numsL_len {l : List Nat} (h : ∀ x ∈ l, x ≤ 72057594037927935) : ∀ i, (numsL (l.take i)).length ≤ 8 * i := by
  intro i
  induction i with
  | zero => simp [numsL]
  | succ i ih =>
    by_cases hi : i < l.length
    · rw [numsL_take hi, List.length_append]
      have := shortL_len_le 7 l[i] (by have := h _ (List.getElem_mem hi); have : (128 : Nat) ^ (7 + 1) = 72057594037927936 := by decide
                                       omega)
      omega
    · rw [List.take_of_length_le (by omega)]; rw [List.take_of_length_le (by omega)] at ih; omega
theorem textsL_take {l : List ByteArray} {i : Nat} (h : i < l.length) : textsL ((l.take (i + 1)).map bs) = textsL ((l.take i).map bs) ++ textL (bs l[i]) := by
  rw [List.take_succ_eq_append_getElem h, List.map_append, textsL_append]
  simp only [textsL, List.map_cons, List.map_nil, List.flatMap_cons, List.flatMap_nil, List.append_nil]
theorem textsL_split {l : List ByteArray} {i : Nat} (h : i < l.length) : textsL (l.map bs) = textsL ((l.take i).map bs) ++ (textL (bs l[i]) ++ textsL ((l.drop (i + 1)).map bs)) := by
  have e : l = l.take i ++ (l[i] :: l.drop (i + 1)) := by rw [← List.drop_eq_getElem_cons h, List.take_append_drop]
  have := congrArg (fun l => textsL (l.map bs)) e
  refine this.trans ?_
  rw [List.map_append, textsL_append]
  simp only [textsL, List.map_cons, List.flatMap_cons]
theorem textL_le {t : List UInt8} (h : t.length ≤ 300) : (textL t).length ≤ 303 := by
  have := shortL_len_le 2 t.length (by have : (128 : Nat) ^ (2 + 1) = 2097152 := by decide
                                       omega)
  unfold textL
  rw [List.length_append]; omega
theorem textsL_len {l : List ByteArray} (h : ∀ t ∈ l, t.size ≤ 300) : ∀ i, (textsL ((l.take i).map bs)).length ≤ 303 * i := by
  intro i
  induction i with
  | zero => simp [textsL]
  | succ i ih =>
    by_cases hi : i < l.length
    · rw [textsL_take hi, List.length_append]
      have := textL_le (t := bs l[i]) (by rw [bs_len]; exact h _ (List.getElem_mem hi))
      omega
    · rw [List.take_of_length_le (by omega)]; rw [List.take_of_length_le (by omega)] at ih; omega
section
variable {F : Nat} {H : SH}
theorem Short_at {s : ByteArray} {pre rest : List UInt8} {x : Nat} (hF : 10 ≤ F) (hs : s.size ≤ 100000) (hb : bs s = pre ++ (shortL x ++ rest)) (hx : x ≤ 72057594037927935) {K : Int → Int → Option EV → SH → Prop} (k : K x (((pre ++ shortL x).length : Nat) : Int) none H) : octet_Short.wp F s (pre.length : Int) H K := by
  have hsz : s.size = pre.length + (shortL x).length + rest.length := by rw [← bs_len, hb]; simp; omega
  refine Short_spec hF (by omega) (by omega) ?_
  rw [hb, List.drop_left, readL_short hx]
  refine RdK_okR ?_
  rw [List.length_append] at k
  rw [show (pre.length : Int) + ((shortL x).length : Int) = ((pre.length + (shortL x).length : Nat) : Int) by omega]
  exact k
theorem Turned_at {s : ByteArray} {pre rest : List UInt8} {x : Int} (hF : 10 ≤ F) (hs : s.size ≤ 100000) (h0 : -36028797018963968 ≤ x) (h1 : x < 36028797018963968) (hb : bs s = pre ++ (shortL (turnZ x).toNat ++ rest)) {K : Int → Int → Option EV → SH → Prop} (k : K x (((pre ++ shortL (turnZ x).toNat).length : Nat) : Int) none H) : octet_Turned.wp F s (pre.length : Int) H K := by
  have hr := turnZ_range h0 h1
  have hsz : s.size = pre.length + (shortL (turnZ x).toNat).length + rest.length := by rw [← bs_len, hb]; simp; omega
  refine Turned_spec hF (by omega) (by omega) ?_
  rw [hb, List.drop_left, readL_short (by omega)]
  refine RdT_okR ?_
  rw [List.length_append] at k
  rw [show (pre.length : Int) + ((shortL (turnZ x).toNat).length : Int) = ((pre.length + (shortL (turnZ x).toNat).length : Nat) : Int) by omega, show (((turnZ x).toNat : Nat) : Int) = turnZ x by omega, back_turn]
  exact k
theorem Text_at {s t : ByteArray} {pre rest : List UInt8} (hF : 10 ≤ F) (hs : s.size ≤ 100000) (ht : t.size ≤ 300) (hb : bs s = pre ++ (textL (bs t) ++ rest)) {K : ByteArray → Int → Option EV → SH → Prop} (k : K t (((pre ++ textL (bs t)).length : Nat) : Int) none H) : octet_Text.wp F s (pre.length : Int) 300 H K := by
  have hl : (bs t).length = t.size := bs_len t
  have hb2 : bs s = pre ++ (shortL (bs t).length ++ (bs t ++ rest)) := by rw [hb]; unfold textL; rw [List.append_assoc]
  have hsz : s.size = pre.length + (shortL (bs t).length).length + (bs t).length + rest.length := by rw [← bs_len, hb2]; simp; omega
  refine Short_at hF hs hb2 (by omega) (o_none (br_f (by omega) (br_f ?_ ⟨by omega, ?_, ?_, H, .refl H, ?_⟩)))
  · rw [List.length_append, w64_id (by omega)]; omega
  · rw [List.length_append, w64_id (by omega)]; omega
  · rw [List.length_append, w64_id (by omega)]; omega
  · rw [List.length_append, w64_id (by omega)]
    have e1 : ((pre.length + (shortL (bs t).length).length : Nat) : Int) + ((bs t).length : Int) = (((pre ++ textL (bs t)).length : Nat) : Int) := by unfold textL; simp; omega
    rw [e1, Int.toNat_natCast, Int.toNat_natCast]
    have e2 : s.extract (pre.length + (shortL (bs t).length).length) (pre ++ textL (bs t)).length = t := by
      apply bs_inj
      have e3 : bs s = (pre ++ textL (bs t)) ++ rest := by rw [hb, List.append_assoc]
      rw [bs_extract, e3, List.take_left]
      have e4 : pre ++ textL (bs t) = (pre ++ shortL (bs t).length) ++ bs t := by unfold textL; rw [List.append_assoc]
      rw [e4, ← List.length_append, List.drop_left]
    rw [e2]; exact k
theorem Text_cut {s : ByteArray} {pre t : List UInt8} (hF : 10 ≤ F) (hs : s.size ≤ 100000) (ht : t.length ≤ 300) (hb : bs s = pre ++ (textL t).dropLast) {K : ByteArray → Int → Option EV → SH → Prop} (k : K ByteArray.empty (pre.length : Int) (some (EV.mk (s.size : Int) (some (.no 3)))) H) : octet_Text.wp F s (pre.length : Int) 300 H K := by
  by_cases h0 : t = []
  · subst h0
    have e : (textL []).dropLast = [] := by
      have : textL [] = [0] := by unfold textL; rw [List.length_nil, shortL_one (by omega)]; rfl
      rw [this]; rfl
    rw [e, List.append_nil] at hb
    have hsz : s.size = pre.length := by rw [← bs_len, hb]
    refine Short_spec hF (by omega) (by omega) ?_
    rw [hb, List.drop_eq_nil_of_le (Nat.le_refl _)]
    exact RdK_cutR (o_some ⟨H, .refl H, k⟩)
  · have hd : (textL t).dropLast = shortL t.length ++ t.dropLast := by unfold textL; rw [List.dropLast_append_of_ne_nil h0]
    rw [hd] at hb
    have hl : t.dropLast.length = t.length - 1 := List.length_dropLast
    have hpos : 0 < t.length := List.length_pos_iff.2 h0
    have hsz : s.size = pre.length + (shortL t.length).length + (t.length - 1) := by rw [← bs_len, hb]; simp; omega
    refine Short_at hF hs hb (by omega) (o_none (br_f (by omega) (br_t ?_ (fault_spec ⟨H, .refl H, k⟩))))
    rw [List.length_append, w64_id (by omega)]; omega
/-- What the law is given. -/
structure Orw (H : SH) (l1 l2 l3 : Sl) (xs : List Nat) (ys : List Int) (ts : List ByteArray) : Prop where
  n1 : l1.len = xs.length
  n2 : l2.len = ys.length
  n3 : l3.len = ts.length
  r1 : H.row l1.a (xs.map fun (x : Nat) => .int .u32 (x : Int))
  r2 : H.row l2.a (ys.map fun y => .int .i32 y)
  r3 : H.row l3.a (ts.map fun s => .string s)
  h1 : ∀ x ∈ xs, x ≤ 4294967295
  h2 : ∀ y ∈ ys, -2147483648 ≤ y ∧ y ≤ 2147483647
  c1 : xs.length ≤ 30
  c2 : ys.length ≤ 30
  c3 : ts.length ≤ 30
def tz (ys : List Int) : List Nat := ys.map fun y => (turnZ y).toNat
variable {l1 l2 l3 : Sl} {xs : List Nat} {ys : List Int} {ts : List ByteArray} {K : Bool → SH → Prop}
theorem Orw.tz (o : Orw H l1 l2 l3 xs ys ts) : (∀ x ∈ xs, x ≤ 72057594037927935) ∧ ∀ x ∈ tz ys, x ≤ 72057594037927935 := by
  refine ⟨fun x hx => by have := o.h1 x hx; omega, fun x hx => ?_⟩
  obtain ⟨y, hy, rfl⟩ := List.mem_map.1 hx
  have := o.h2 y hy
  have := turnZ_range (x := y) (by omega) (by omega)
  omega
theorem Rows6 (hF : 100 ≤ F) (o : Orw H l1 l2 l3 xs ys ts) (hg : H.has (0, 0) (rtv 24)) (h300 : ∀ t ∈ ts, t.size ≤ 300) {all : ByteArray} {pre : List UInt8} (hp : pre.length ≤ 1000) (hall : bs all = pre ++ textsL (ts.map bs)) (k : K true H) :
    ∀ (j i f : Nat), ts.length - i = j → i ≤ ts.length → j < f → ladinglaw01_OctetRows.l6 F K f l3 all (((pre ++ textsL ((ts.take i).map bs)).length : Nat) : Int) l3 (ts.length : Int) (i : Int) H := by
  have c3 := o.c3
  have n3 := o.n3
  have hlen := textsL_len h300 ts.length
  rw [List.take_length] at hlen
  have hsz : all.size = pre.length + (textsL (ts.map bs)).length := by rw [← bs_len, hall, List.length_append]
  intro j
  induction j with
  | zero =>
    intro i f hj hi hf
    obtain ⟨f, rfl⟩ : ∃ i, f = i + 1 := ⟨f - 1, by omega⟩
    refine br_f (by omega) ⟨H, .refl H, ?_⟩
    rw [List.take_of_length_le (by omega)]
    have : ((((pre ++ textsL (ts.map bs)).length : Nat) : Int) == (all.size : Int)) = true := by rw [List.length_append, hsz]; simp
    rw [this]; exact k
  | succ j ih =>
    intro i f hj hi hf
    obtain ⟨f, rfl⟩ : ∃ i, f = i + 1 := ⟨f - 1, by omega⟩
    have hlt : i < ts.length := by omega
    have ht := h300 _ (List.getElem_mem hlt)
    have hsp : bs all = (pre ++ textsL ((ts.take i).map bs)) ++ (textL (bs ts[i]) ++ textsL ((ts.drop (i + 1)).map bs)) := by rw [hall, textsL_split hlt, List.append_assoc]
    have next : ladinglaw01_OctetRows.j1 F K (ladinglaw01_OctetRows.l6 F K f) l3 all (((pre ++ textsL ((ts.take i).map bs)).length : Nat) : Int) ts[i] l3 (ts.length : Int) (i : Int) H := by
      refine Text_at (by omega) (by omega) ht hsp (br_t rfl (o_none ?_))
      rw [w64_id (by omega), show (i : Int) + 1 = ((i + 1 : Nat) : Int) by omega, List.append_assoc, ← textsL_take hlt]
      exact ih (i + 1) f (by omega) (by omega) (by omega)
    refine br_t (by omega) (row_at o.r3 (v := .string ts[i]) (by simp [hlt]) (by omega) fun p hp2 hh => ⟨ts[i], hh, ?_⟩)
    rw [n3, w64_id (by omega)]
    by_cases hlast : (i : Int) = (ts.length : Int) - 1
    · have hpos : 0 < all.size := by
        have := textL_pos (bs ts[i])
        rw [← bs_len, hsp]; simp only [List.length_append]; omega
      refine br_t hlast ?_
      rw [w64_id (by omega)]
      have e1 : ((all.size : Int) - 1).toNat = all.size - 1 := by omega
      refine ⟨by omega, by omega, by omega, ?_⟩
      rw [e1]
      have hdrop : ts.drop (i + 1) = [] := List.drop_eq_nil_of_le (by omega)
      have hcut : bs (all.extract (0 : Int).toNat (all.size - 1)) = (pre ++ textsL ((ts.take i).map bs)) ++ (textL (bs ts[i])).dropLast := by
        rw [bs_extract]
        show ((bs all).take (all.size - 1)).drop 0 = _
        have e2 : bs all = (pre ++ textsL ((ts.take i).map bs)) ++ textL (bs ts[i]) := by rw [hsp, hdrop]; simp [textsL]
        have hne : textL (bs ts[i]) ≠ [] := by
          intro h0
          have := congrArg List.length h0
          have h1 := textL_pos (bs ts[i])
          rw [List.length_nil] at this
          omega
        rw [List.drop_zero, ← bs_len, ← List.dropLast_eq_take, e2, List.dropLast_append_of_ne_nil hne]
      have hcs : (all.extract (0 : Int).toNat (all.size - 1)).size ≤ all.size := by
        rw [ByteArray.size_extract]; omega
      refine Text_cut (by omega) (by omega) (by rw [bs_len]; exact ht) hcut (CodeR hg (br_f (fun h => h rfl) (PlaceR hg (br_f (fun h => h rfl) next))))
    · exact br_f hlast next
theorem Rows5 (hF : 100 ≤ F) (o : Orw H l1 l2 l3 xs ys ts) (hg : H.has (0, 0) (rtv 24)) (h300 : ∀ t ∈ ts, t.size ≤ 300) {all : ByteArray} (hall : bs all = (numsL xs ++ numsL (tz ys)) ++ textsL (ts.map bs)) (k : K true H) :
    ∀ (j i f : Nat), ys.length - i = j → i ≤ ys.length → j < f → ladinglaw01_OctetRows.l5 F K f l3 all (((numsL xs ++ numsL ((tz ys).take i)).length : Nat) : Int) l2 (ys.length : Int) (i : Int) H := by
  have c1 := o.c1
  have c2 := o.c2
  have c3 := o.c3
  obtain ⟨t1, t2⟩ := o.tz
  have g1 := numsL_len t1 xs.length
  have g2 := numsL_len t2 (tz ys).length
  have hlen := textsL_len h300 ts.length
  rw [List.take_length] at g1 g2 hlen
  have htl : (tz ys).length = ys.length := List.length_map _
  have hsz : all.size = (numsL xs).length + (numsL (tz ys)).length + (textsL (ts.map bs)).length := by rw [← bs_len, hall]; simp; omega
  intro j
  induction j with
  | zero =>
    intro i f hj hi hf
    obtain ⟨f, rfl⟩ : ∃ i, f = i + 1 := ⟨f - 1, by omega⟩
    refine br_f (by omega) ?_
    rw [List.take_of_length_le (by omega), o.n3]
    have := Rows6 hF o hg h300 (pre := numsL xs ++ numsL (tz ys)) (by rw [List.length_append]; omega) hall k ts.length 0 F (by omega) (by omega) (by omega)
    simpa [textsL] using this
  | succ j ih =>
    intro i f hj hi hf
    obtain ⟨f, rfl⟩ : ∃ i, f = i + 1 := ⟨f - 1, by omega⟩
    have hlt : i < ys.length := by omega
    have hlt2 : i < (tz ys).length := by omega
    have hy := o.h2 _ (List.getElem_mem hlt)
    have eg : (tz ys)[i] = (turnZ ys[i]).toNat := by simp [tz]
    have hsp : bs all = (numsL xs ++ numsL ((tz ys).take i)) ++ (shortL (turnZ ys[i]).toNat ++ (numsL ((tz ys).drop (i + 1)) ++ textsL (ts.map bs))) := by rw [hall, numsL_split hlt2, eg]; simp
    refine br_t (by omega) (row_at o.r2 (v := .int .i32 ys[i]) (by simp [hlt]) (by have := o.n2; omega) fun p hp2 hh => ⟨ys[i], hh, Turned_at (by omega) (by omega) (by omega) (by omega) hsp (br_f (fun h => h (w64_id (by omega)).symm) (o_none ?_))⟩)
    rw [w64_id (by omega), show (i : Int) + 1 = ((i + 1 : Nat) : Int) by omega, List.append_assoc, ← eg, ← numsL_take hlt2]
    exact ih (i + 1) f (by omega) (by omega) (by omega)
theorem Rows4 (hF : 100 ≤ F) (o : Orw H l1 l2 l3 xs ys ts) (hg : H.has (0, 0) (rtv 24)) (h300 : ∀ t ∈ ts, t.size ≤ 300) {all : ByteArray} (hall : bs all = (numsL xs ++ numsL (tz ys)) ++ textsL (ts.map bs)) (k : K true H) :
    ∀ (j i f : Nat), xs.length - i = j → i ≤ xs.length → j < f → ladinglaw01_OctetRows.l4 F K f l2 l3 all (((numsL (xs.take i)).length : Nat) : Int) l1 (xs.length : Int) (i : Int) H := by
  have c1 := o.c1
  have c2 := o.c2
  have c3 := o.c3
  obtain ⟨t1, t2⟩ := o.tz
  have g1 := numsL_len t1 xs.length
  have g2 := numsL_len t2 (tz ys).length
  have hlen := textsL_len h300 ts.length
  rw [List.take_length] at g1 g2 hlen
  have htl : (tz ys).length = ys.length := List.length_map _
  have hsz : all.size = (numsL xs).length + (numsL (tz ys)).length + (textsL (ts.map bs)).length := by rw [← bs_len, hall]; simp; omega
  intro j
  induction j with
  | zero =>
    intro i f hj hi hf
    obtain ⟨f, rfl⟩ : ∃ i, f = i + 1 := ⟨f - 1, by omega⟩
    refine br_f (by omega) ?_
    rw [List.take_of_length_le (by omega), o.n2]
    have := Rows5 hF o hg h300 hall k ys.length 0 F (by omega) (by omega) (by omega)
    simpa [numsL] using this
  | succ j ih =>
    intro i f hj hi hf
    obtain ⟨f, rfl⟩ : ∃ i, f = i + 1 := ⟨f - 1, by omega⟩
    have hlt : i < xs.length := by omega
    have hx := o.h1 _ (List.getElem_mem hlt)
    have hsp : bs all = numsL (xs.take i) ++ (shortL xs[i] ++ (numsL (xs.drop (i + 1)) ++ (numsL (tz ys) ++ textsL (ts.map bs)))) := by rw [hall, numsL_split hlt]; simp
    refine br_t (by omega) (row_at o.r1 (v := .int .u32 (xs[i] : Int)) (by simp [hlt]) (by have := o.n1; omega) fun p hp2 hh => ⟨(xs[i] : Int), hh, Short_at (by omega) (by omega) hsp (by omega) (br_f (fun h => h (w64_id (by omega)).symm) (o_none ?_))⟩)
    rw [w64_id (by omega), show (i : Int) + 1 = ((i + 1 : Nat) : Int) by omega, ← numsL_take hlt]
    exact ih (i + 1) f (by omega) (by omega) (by omega)
theorem Rows3 (hF : 100 ≤ F) (o : Orw H l1 l2 l3 xs ys ts) (hg : H.has (0, 0) (rtv 24)) {s : ByteArray} (hs : bs s = numsL xs ++ numsL (tz ys)) (k : ∀ H', K true H') :
    ∀ (j i f : Nat), ts.length - i = j → i ≤ ts.length → j < f → (∀ t ∈ ts.take i, t.size ≤ 300) → ladinglaw01_OctetRows.l3 F K f l1 l2 l3 s l3 (ts.length : Int) (i : Int) H := by
  have c1 := o.c1
  have c2 := o.c2
  have c3 := o.c3
  obtain ⟨t1, t2⟩ := o.tz
  have g1 := numsL_len t1 xs.length
  have g2 := numsL_len t2 (tz ys).length
  rw [List.take_length] at g1 g2
  have htl : (tz ys).length = ys.length := List.length_map _
  have hsz : s.size = (numsL xs).length + (numsL (tz ys)).length := by rw [← bs_len, hs]; simp
  intro j
  induction j with
  | zero =>
    intro i f hj hi hf hh
    obtain ⟨f, rfl⟩ : ∃ i, f = i + 1 := ⟨f - 1, by omega⟩
    rw [List.take_of_length_le (by omega)] at hh
    have hlen := textsL_len hh ts.length
    rw [List.take_length] at hlen
    refine br_f (by omega) (PutText_spec (by omega) o.n3 o.r3 (by omega) (by omega) (fun t ht => by have := hh t ht; omega) ⟨by rw [ofL_size]; omega, ?_⟩)
    rw [o.n1]
    have := Rows4 (all := s ++ ofL (textsL (ts.map bs))) hF o hg hh (by rw [bs_append, hs, bs_ofL]) (k H) xs.length 0 F (by omega) (by omega) (by omega)
    simpa [numsL] using this
  | succ j ih =>
    intro i f hj hi hf hh
    obtain ⟨f, rfl⟩ : ∃ i, f = i + 1 := ⟨f - 1, by omega⟩
    have hlt : i < ts.length := by omega
    refine br_t (by omega) (row_at o.r3 (v := .string ts[i]) (by simp [hlt]) (by have := o.n3; omega) fun p hp2 hh2 => ⟨ts[i], hh2, fun _ => ⟨H, .refl H, k H⟩, fun c => ?_⟩)
    rw [w64_id (by omega), show (i : Int) + 1 = ((i + 1 : Nat) : Int) by omega]
    refine ih (i + 1) f (by omega) (by omega) (by omega) fun t ht => ?_
    rw [List.take_succ_eq_append_getElem hlt] at ht
    rcases List.mem_append.1 ht with h | h
    · exact hh t h
    · rw [List.mem_singleton.1 h]; omega
theorem Rows2 (hF : 100 ≤ F) (o : Orw H l1 l2 l3 xs ys ts) (hg : H.has (0, 0) (rtv 24)) (k : ∀ H', K true H') :
    ∀ (j i f : Nat), ys.length - i = j → i ≤ ys.length → j < f → ladinglaw01_OctetRows.l2 F K f l1 l2 l3 (ofL (numsL xs ++ numsL ((tz ys).take i))) l2 (ys.length : Int) (i : Int) H := by
  have c1 := o.c1
  have c2 := o.c2
  have c3 := o.c3
  obtain ⟨t1, t2⟩ := o.tz
  have g1 := numsL_len t1 xs.length
  rw [List.take_length] at g1
  have htl : (tz ys).length = ys.length := List.length_map _
  intro j
  induction j with
  | zero =>
    intro i f hj hi hf
    obtain ⟨f, rfl⟩ : ∃ i, f = i + 1 := ⟨f - 1, by omega⟩
    refine br_f (by omega) ?_
    rw [List.take_of_length_le (by omega), o.n3]
    exact Rows3 hF o hg (by rw [bs_ofL]) k ts.length 0 F (by omega) (by omega) (by omega) (by simp)
  | succ j ih =>
    intro i f hj hi hf
    obtain ⟨f, rfl⟩ : ∃ i, f = i + 1 := ⟨f - 1, by omega⟩
    have hlt : i < ys.length := by omega
    have hlt2 : i < (tz ys).length := by omega
    have hy := o.h2 _ (List.getElem_mem hlt)
    have eg : (tz ys)[i] = (turnZ ys[i]).toNat := by simp [tz]
    have g2 := numsL_len t2 i
    refine br_t (by omega) (row_at o.r2 (v := .int .i32 ys[i]) (by simp [hlt]) (by have := o.n2; omega) fun p hp2 hh => ⟨ys[i], hh, ?_⟩)
    rw [w64_id (x := ys[i]) (by omega)]
    have hr := turnZ_range (x := ys[i]) (by omega) (by omega)
    have h8 := shortL_len_le 7 (turnZ ys[i]).toNat (by have : (128 : Nat) ^ (7 + 1) = 72057594037927936 := by decide
                                                       omega)
    refine PutTurned_spec (by omega) (by omega) (by omega) (o_none ⟨by rw [ofL_size, ofL_size, List.length_append]; omega, ?_⟩)
    rw [w64_id (by omega), show (i : Int) + 1 = ((i + 1 : Nat) : Int) by omega, ofL_append, List.append_assoc, ← eg, ← numsL_take hlt2]
    exact ih (i + 1) f (by omega) (by omega) (by omega)
theorem Rows1 (hF : 100 ≤ F) (o : Orw H l1 l2 l3 xs ys ts) (hg : H.has (0, 0) (rtv 24)) (k : ∀ H', K true H') :
    ∀ (j i f : Nat), xs.length - i = j → i ≤ xs.length → j < f → ladinglaw01_OctetRows.l1 F K f l1 l2 l3 (ofL (numsL (xs.take i))) l1 (xs.length : Int) (i : Int) H := by
  have c1 := o.c1
  have c2 := o.c2
  have c3 := o.c3
  obtain ⟨t1, t2⟩ := o.tz
  intro j
  induction j with
  | zero =>
    intro i f hj hi hf
    obtain ⟨f, rfl⟩ : ∃ i, f = i + 1 := ⟨f - 1, by omega⟩
    refine br_f (by omega) ?_
    rw [List.take_of_length_le (by omega), o.n2]
    have := Rows2 hF o hg k ys.length 0 F (by omega) (by omega) (by omega)
    simpa [numsL] using this
  | succ j ih =>
    intro i f hj hi hf
    obtain ⟨f, rfl⟩ : ∃ i, f = i + 1 := ⟨f - 1, by omega⟩
    have hlt : i < xs.length := by omega
    have hx := o.h1 _ (List.getElem_mem hlt)
    have g1 := numsL_len t1 i
    refine br_t (by omega) (row_at o.r1 (v := .int .u32 (xs[i] : Int)) (by simp [hlt]) (by have := o.n1; omega) fun p hp2 hh => ⟨(xs[i] : Int), hh, ?_⟩)
    rw [w64_id (x := (xs[i] : Int)) (by omega)]
    have h8 := shortL_len_le 7 xs[i] (by have : (128 : Nat) ^ (7 + 1) = 72057594037927936 := by decide
                                         omega)
    refine PutShort_spec (by omega) (by omega) (o_none ⟨by rw [ofL_size, ofL_size]; omega, ?_⟩)
    rw [w64_id (by omega), show (i : Int) + 1 = ((i + 1 : Nat) : Int) by omega, ofL_append, ← numsL_take hlt]
    exact ih (i + 1) f (by omega) (by omega) (by omega)
theorem OctetRows_wp (hF : 100 ≤ F) (n1 : l1.len = xs.length) (n2 : l2.len = ys.length) (n3 : l3.len = ts.length) (r1 : H.row l1.a (xs.map fun (x : Nat) => .int .u32 (x : Int))) (r2 : H.row l2.a (ys.map fun y => .int .i32 y)) (r3 : H.row l3.a (ts.map fun s => .string s))
    (h1 : ∀ x ∈ xs, x ≤ 4294967295) (h2 : ∀ y ∈ ys, -2147483648 ≤ y ∧ y ≤ 2147483647) (hg : H.has (0, 0) (rtv 24)) : ladinglaw01_OctetRows.wp F l1 l2 l3 H (fun b _ => b = true) := by
  refine awakeR_spec (by omega) (br_t rfl ⟨fun _ => ⟨H, .refl H, rfl⟩, fun c1 => ⟨fun _ => ⟨H, .refl H, rfl⟩, fun c2 => ⟨fun _ => ⟨H, .refl H, rfl⟩, fun c3 => ?_⟩⟩⟩)
  have o : Orw H l1 l2 l3 xs ys ts := ⟨n1, n2, n3, r1, r2, r3, h1, h2, by omega, by omega, by omega⟩
  rw [n1]
  have := Rows1 (K := fun b _ => b = true) hF o hg (fun _ => rfl) xs.length 0 F (by omega) (by omega) (by omega)
  exact this
end
open Go.RowKit Go.ChangeShapes Go.WideShapes Go.ChangeAt in
theorem arg_intsR {H : Type} {enc : TypeId × Value → H} {P : Program} {W : World} {base : Nat} {t e : TypeId} {k : IntKind} {v : Value} {d : DataW H} {p : List MemPlace} (ht : P.underlying t = some (.slice e)) (he : P.underlying e = some (.int k)) (hc : P.cellsOf e = 1) (hval : Value.okWide P W .any base t v) (hd : DataW.Trod enc P W 0 (fun _ => true) true t v d p) :
    ∃ (l : Sl) (zs : List Int), v = sv l ∧ l.len = zs.length ∧ l.len ≤ l.cap ∧ (SH.of W).row l.a (zs.map fun z => .int k z) ∧ ∀ z ∈ zs, k.min ≤ z ∧ z ≤ k.max := by
  obtain ⟨a, len, cap, rfl⟩ := Go.WideShapes.okWide_slice ht hval
  obtain ⟨fuel, hf⟩ := hd
  have hv : Cell.okWide P W .any base t (.slice a len cap) := by
    unfold Value.okWide at hval
    rw [ht] at hval
    exact hval
  exact cell_ints ht he hc hv hf
set_option maxRecDepth 100000 in
open Go.RowKit Go.ChangeShapes Go.WideShapes Go.ChangeAt in
theorem OctetRows_walk {X : Prop} {H : Type} {enc : TypeId × Value → H} (W : World) (args : Array Value) (ds : List (DataW H)) (p : List MemPlace) (base : Nat)
    (hval : ∀ (j : Nat) t v, Tryd.f6.params[j]? = some t → args[j]? = some v → Value.okWide Tryd.prog W .any base t v) (hA : DataW.TrodAll enc Tryd.prog W 0 (fun _ => true) true Tryd.f6.params.toList args.toList ds p) (hfz : X)
    (hg : W.cell? ⟨0, 0, none⟩ = some (rtv 24)) :
    (∃ d d2 d3, ds = [d, d2, d3]) ∧ Calls Tryd.prog 6 args W fun e w' => e = .returned (.bool true) ∧ RowKit.Below W.heap.size W w' := by
  rw [Tryd.params6] at hA hval
  obtain ⟨v0, vs0, d0, ds0, p0, q0, hargs, rfl, rfl, h0, r0⟩ := trodAll_cons hA
  obtain ⟨v1, vs1, d1, ds1, p1, q1, rfl, rfl, rfl, h1, r1⟩ := trodAll_cons r0
  obtain ⟨v2, vs2, d2, ds2, p2, q2, rfl, rfl, rfl, h2, r2⟩ := trodAll_cons r1
  obtain ⟨rfl, rfl, rfl⟩ := trodAll_nil r2
  obtain rfl : args = #[v0, v1, v2] := by cases args; simp_all
  obtain ⟨l1, zs, rfl, n1, _, g1, z1⟩ := arg_intsR Tryd.underlying48 Tryd.underlying51 (by kernel_rfl) (hval 0 48 v0 rfl rfl) h0
  obtain ⟨l2, ys, rfl, n2, _, g2, z2⟩ := arg_intsR Tryd.underlying49 Tryd.underlying21 (by kernel_rfl) (hval 1 49 v1 rfl rfl) h1
  obtain ⟨l3, ts, rfl, n3, _, g3, _⟩ := arg_strs Tryd.underlying50 Tryd.underlying9 (by kernel_rfl) (hval 2 50 v2 rfl rfl) h2
  have z1 : ∀ z ∈ zs, 0 ≤ z ∧ z ≤ 4294967295 := z1
  have z2 : ∀ z ∈ ys, -2147483648 ≤ z ∧ z ≤ 2147483647 := z2
  obtain ⟨xs, hxs⟩ : ∃ xs : List Nat, zs = xs.map fun (x : Nat) => (x : Int) := by
    refine ⟨zs.map Int.toNat, ?_⟩
    rw [List.map_map]
    conv => lhs; rw [← List.map_id zs]
    apply List.map_congr_left
    intro z hz
    have := (z1 z hz).1
    show z = ((z.toNat : Nat) : Int)
    omega
  subst hxs
  refine ⟨⟨_, _, _, rfl⟩, ?_⟩
  have h := ladinglaw01_OctetRows.sound 500 l1 l2 l3 (SH.of W) _ (OctetRows_wp (xs := xs) (ys := ys) (ts := ts) (by omega) (by simpa using n1) n2 n3 (by simpa [List.map_map, Function.comp_def] using g1) g2 g3 (fun x hx => by have := (z1 (x : Int) (List.mem_map.2 ⟨x, hx, rfl⟩)).2; omega) z2 (SH.of_cell (p := (0, 0)) hg)) W (SH.of_sat W)
  refine h.mono ?_
  rintro e w' ⟨v, H', rfl, st, q, rfl, rfl⟩
  exact ⟨rfl, st.below fun b o hb => SH.of_ro hb⟩
end Go.Proofs.YtpnbehgkbfhacaaDoor.K
