/- Texts and pairs, sorted in place; texts put out of a slice. -/
import Derived.Test.YtnagibpmfabkjaaGreatDoorK
import Derived.Test.YtnagibpmfabkjaaGreatDoorStr
import Derived.Test.YtnagibpmfabkjaaGreatDoorOp
import Derived.Test.YtnagibpmfabkjaaGreatDoorSeal
import Derived.Shelf.SlicesE.DeleteFunc
import Derived.Sort.EncStr
import Derived.Shelf.SlSortCmp.NoneTotal
set_option linter.unusedSimpArgs false
set_option linter.unusedVariables false
namespace Go.Tri
open Go.RowKit Go.Sort Go.Proofs
theorem rdl_str {B : Base} : ∀ {css : List (List Value)} {xs : List (List UInt8)}, RdL rStr B css xs → css.flatten = xs.map encStr
  | [], [], _ => rfl
  | [], _ :: _, h => h.elim
  | _ :: _, [], h => h.elim
  | c :: css, x :: xs, ⟨h1, h2⟩ => by
    have h1 : c = [.string (txb x)] := h1
    rw [List.flatten_cons, rdl_str h2, h1]; rfl
theorem rdl_str' {B : Base} : ∀ xs : List (List UInt8), RdL rStr B (xs.map fun x => [encStr x]) xs
  | [] => trivial
  | x :: xs => ⟨rfl, rdl_str' xs⟩
theorem flat_str (xs : List (List UInt8)) : (xs.map fun x => [encStr x]).flatten = xs.map encStr := by
  induction xs with
  | nil => rfl
  | cons x xs ih => simp [ih]
section
variable {w0 w : World} {ls : List HP} {e : TypeId} {b cap : Nat} {xs : List (List UInt8)}
/-- What stands in a slice of texts of one's own is written over. -/
theorem St.putStr (H : St w0 w ls) (i : Nat) (hi : ls[i]? = some (HP.ow rStr e (some ⟨b, 0, none⟩) cap xs)) : Holds encStr w b 0 xs.toArray ∧ b < w.heap.size ∧ xs.length ≤ cap ∧
    ∀ (d' : List (List UInt8)) (k n : Nat) (os : Array Obj), d'.length = xs.length → k ≤ d'.length → St w0 (grow (putRow encStr (Sort.ahead w n) b 0 d'.toArray) os) (ls.set i (HP.ow rStr e (some ⟨b, 0, none⟩) cap (d'.take k))) := by
  obtain ⟨B, H⟩ := H.out
  obtain ⟨S0, css, c0, ⟨hl0, ⟨h, h'⟩ | ⟨g, cap', cur, h, hb0, hg, hnc, hm, hsz, ht⟩⟩, hS⟩ := H.at hi
  · cases h
  cases h
  have h1 : rStr.n = 1 := rfl
  have hbl : b < w.heap.size := (Array.getElem?_eq_some_iff.1 hg).1
  rw [rdl_str c0, h1, Nat.mul_one] at ht
  have hF : ∀ t (hx : t < xs.length), cur[t]? = some (encStr xs[t]) := by
    intro t hx
    have e3 : (xs.map encStr)[t]? = some (encStr xs[t]) := by simp [hx]
    rw [← ht, List.getElem?_take_of_lt hx] at e3
    simpa using e3
  refine ⟨fun t h5 => ?_, hbl, hnc, fun d' k n os hd hk => ?_⟩
  · have h2 : t < xs.length := by simpa using h5
    refine ⟨?_, ?_⟩
    · unfold World.cell?
      simp only [hg, Nat.zero_add]
      rw [hF t h2]
      simp [getElem!_pos, h2]
    · unfold World.frozen?
      simp only [hg]
      simp
  · have hw : (grow (putRow encStr (Sort.ahead w n) b 0 d'.toArray) os).heap = (w.heap.modify b (onCells (putCells encStr 0 d'.toArray))) ++ os := rfl
    have hold : ∀ k, k < w.heap.size → k ≠ b → (grow (putRow encStr (Sort.ahead w n) b 0 d'.toArray) os).heap[k]? = w.heap[k]? := by
      intro k hk hne
      rw [hw, Array.getElem?_append_left (by simpa using hk), Array.getElem?_modify, if_neg (Ne.symm hne)]
    have hnew : (grow (putRow encStr (Sort.ahead w n) b 0 d'.toArray) os).heap[b]? = some (.cells (putCells encStr 0 d'.toArray cur) e (0, 0)) := by
      rw [hw, Array.getElem?_append_left (by simpa using hbl), Array.getElem?_modify, if_pos rfl, hg]; rfl
    have hsz2 : w.heap.size ≤ (grow (putRow encStr (Sort.ahead w n) b 0 d'.toArray) os).heap.size := by rw [hw]; simp
    have hpc : ((putCells encStr 0 d'.toArray cur).toList).take k = (d'.take k).map encStr := by
      apply List.ext_getElem?
      intro t
      by_cases h : t < k
      · have hts : t < cur.size := by rw [hsz, h1]; omega
        have hfs : t < d'.length := by omega
        rw [List.getElem?_take_of_lt h]
        simp only [Array.getElem?_toList, List.getElem?_map, List.getElem?_take_of_lt h]
        unfold putCells
        rw [Array.getElem?_mapIdx, Array.getElem?_eq_getElem hts, Option.map_some, if_pos ⟨Nat.zero_le _, by simpa using hfs⟩, List.getElem?_eq_getElem hfs]
        simp [getElem!_pos, hfs]
      · rw [List.getElem?_eq_none (by simp; omega), List.getElem?_eq_none (by simp; omega)]
    refine (H.st).upd i hi (fun {B} S hA hb => ?_) rfl rfl rfl hsz2
    obtain ⟨css1, c1, hA1, hA2⟩ := hA
    have hSb : S b := hA2 b rfl
    have hkl : (d'.take k).length = k := by rw [List.length_take, Nat.min_eq_left hk]
    refine ⟨S, ⟨_, rdl_str' (d'.take k), ⟨?_, .inr ⟨b, cap, _, rfl, Nat.zero_le _, hnew, ?_, hm, ?_, ?_⟩⟩, fun b' hb' => hA2 b' hb'⟩, fun k hk => .inl hk, fun k hk => Nat.lt_of_lt_of_le (hb k hk).1 hsz2, fun k hk hn => hold k hk (fun e => hn (e ▸ hSb))⟩
    · rw [flat_str]; simp [h1]
    · rw [hkl]; omega
    · rw [← hsz]; simp [putCells]
    · rw [flat_str, hkl, h1, Nat.mul_one]; exact hpc
end
/-! ### Pairs -/
abbrev PE (B : Base) := {p : List Value × (List UInt8 × List UInt8) // rP2.rd B p.1 p.2}
instance (B : Base) : Inhabited (PE B) := ⟨⟨([.slice none 0 0, .slice none 0 0], ([], [])), ⟨[.slice none 0 0], [.slice none 0 0], rfl, rSl_nil _ _, rSl_nil _ _⟩⟩⟩
def encP {B : Base} (x : PE B) : List Value := x.1.1
def cmpP {B : Base} (x y : PE B) : Int := Lib.compareBytes x.1.2.1 y.1.2.1
theorem encP_len {B : Base} (x : PE B) : (encP x).length = 2 := rP2.len x.2
theorem encP_one {B : Base} (x : PE B) : ∀ v ∈ encP x, v.oneCell' = true := fun v hv => rP2.flat x.2 v hv
theorem cmpP_swo {B : Base} : SWO (ltOf (cmpP (B := B))) where
  irrefl x := by simp [ltOf, cmpP, cmp_self]
  trans x y z h1 h2 := decide_eq_true (cmp_trans _ _ _ (of_decide_eq_true h1) (of_decide_eq_true h2))
  ntrans x y z h1 h2 := by
    replace h1 : ¬ Lib.compareBytes x.1.2.1 y.1.2.1 < 0 := of_decide_eq_false h1
    replace h2 : ¬ Lib.compareBytes y.1.2.1 z.1.2.1 < 0 := of_decide_eq_false h2
    refine decide_eq_false fun h3 => ?_
    replace h3 : Lib.compareBytes x.1.2.1 z.1.2.1 < 0 := h3
    by_cases hz : Lib.compareBytes y.1.2.1 x.1.2.1 = 0
    · rw [cmp_zero _ _ hz] at h2; exact h2 h3
    · have : Lib.compareBytes y.1.2.1 x.1.2.1 < 0 := by rw [cmp_swap]; rw [cmp_swap] at hz; omega
      exact h2 (cmp_trans _ _ _ this h3)
theorem rdl_pe {B : Base} : ∀ {css : List (List Value)} {xs : List (List UInt8 × List UInt8)}, RdL rP2 B css xs → ∃ d : List (PE B), d.map (·.1.2) = xs ∧ css = d.map encP
  | [], [], _ => ⟨[], rfl, rfl⟩
  | c :: css, x :: xs, h => by
    obtain ⟨d, h1, h2⟩ := rdl_pe h.2
    exact ⟨⟨(c, x), h.1⟩ :: d, by simp [h1], by simp [h2, encP]⟩
  | [], _ :: _, h => h.elim
  | _ :: _, [], h => h.elim
theorem rdl_pe' {B : Base} : ∀ d : List (PE B), RdL rP2 B (d.map encP) (d.map (·.1.2))
  | [] => trivial
  | x :: d => ⟨x.2, rdl_pe' d⟩
theorem pflat_len {B : Base} (d : List (PE B)) : (d.map encP).flatten.length = d.length * 2 := by
  induction d with
  | nil => rfl
  | cons x d ih => simp only [List.map_cons, List.flatten_cons, List.length_append, encP_len, ih, List.length_cons]; omega
theorem pflat_get {B : Base} (d : List (PE B)) (t : Nat) (h : t < d.length * 2) : (d.map encP).flatten[t]? = (encP ((d.toArray)[t / 2]!))[t % 2]? := by
  have hj : t / 2 < d.length := by omega
  have hc : (d.map encP)[t / 2]? = some (encP (d[t / 2]'hj)) := by simp [List.getElem?_eq_getElem hj]
  have h1 := flatK_at (K := 2) (css := d.map encP) (fun c hc => by obtain ⟨x, _, rfl⟩ := List.mem_map.1 hc; exact encP_len x) hc
  have e1 : (d.toArray)[t / 2]! = d[t / 2]'hj := by simp [getElem!_pos, hj]
  rw [e1, ← h1, List.getElem?_take_of_lt (by omega), List.getElem?_drop]
  congr 1; omega
theorem pflat_list {B : Base} (d : List (PE B)) : (flatK encP 2 d.toArray).toList = (d.map encP).flatten := by
  apply List.ext_getElem?
  intro t
  by_cases h : t < d.length * 2
  · have e2 : t < (flatK encP 2 d.toArray).size := by simpa using h
    rw [pflat_get d t h]
    have e3 := get_flatK encP 2 d.toArray t (by simpa using h)
    rw [getElem!_pos (flatK encP 2 d.toArray) t e2] at e3
    rw [Array.getElem?_toList, Array.getElem?_eq_getElem e2, e3]
    have e4 : t % 2 < (encP (d.toArray[t / 2]!)).length := by rw [encP_len]; omega
    rw [List.getElem?_eq_getElem e4, getElem!_pos (encP (d.toArray[t / 2]!)) _ e4]
  · rw [List.getElem?_eq_none (by simpa using h), List.getElem?_eq_none (by rw [pflat_len]; omega)]
section
variable {w0 w : World} {ls : List HP} {e : TypeId} {b cap : Nat} {xs : List (List UInt8 × List UInt8)}
theorem St.sortP (H : St w0 w ls) (i : Nat) (hi : ls[i]? = some (HP.ow rP2 e (some ⟨b, 0, none⟩) cap xs)) : ∃ (B : Base) (d : List (PE B)), d.map (·.1.2) = xs ∧ HoldsK encP 2 w b 0 d.toArray ∧ b < w.heap.size ∧
    (∀ (d' : Array (PE B)) (n : Nat) (os : Array Obj), Sub B (sortWorldK encP 2 w b 0 n d' os)) ∧
    ∀ (d' : Array (PE B)) (n : Nat) (os : Array Obj), d'.size = d.length → St w0 (sortWorldK encP 2 w b 0 n d' os) (ls.set i (HP.ow rP2 e (some ⟨b, 0, none⟩) cap (d'.toList.map (·.1.2)))) := by
  obtain ⟨hv, B, f, hs, g1, g2, g3⟩ := H
  obtain ⟨css, c0, ⟨hl0, ⟨h, h'⟩ | ⟨g, cap', cur, h, hb0, hg, hnc, hm, hsz, ht⟩⟩, hS⟩ := g1 i _ hi
  · cases h
  cases h
  have hil : i < ls.length := (List.getElem?_eq_some_iff.1 hi).1
  obtain ⟨d, hd, rfl⟩ := rdl_pe c0
  have hlen : d.length = xs.length := by rw [← hd]; simp
  have hn2 : rP2.n = 2 := rfl
  have hbl : b < w.heap.size := (Array.getElem?_eq_some_iff.1 hg).1
  have hBb : B b = none := (g3 i b hil (hS b rfl)).2.1
  have hF : ∀ t, t < d.length * 2 → cur[t]? = some ((flatK encP 2 d.toArray)[t]!) := by
    intro t h1
    have e2 : t < (flatK encP 2 d.toArray).size := by simpa using h1
    have e3 : (flatK encP 2 d.toArray).toList[t]? = some ((flatK encP 2 d.toArray)[t]!) := by
      rw [Array.getElem?_toList, Array.getElem?_eq_getElem e2, getElem!_pos _ t e2]
    rw [pflat_list, ← ht, List.getElem?_take_of_lt (by rw [hn2, ← hlen]; exact h1)] at e3
    simpa using e3
  have hold : ∀ (d' : Array (PE B)) (n : Nat) (os : Array Obj) k, k < w.heap.size → k ≠ b → (sortWorldK encP 2 w b 0 n d' os).heap[k]? = w.heap[k]? := by
    intro d' n os k hk hne
    have hw : (sortWorldK encP 2 w b 0 n d' os).heap = (w.heap.modify b (onCells (putCells id 0 (flatK encP 2 d')))) ++ os := rfl
    rw [hw, Array.getElem?_append_left (by simpa using hk), Array.getElem?_modify, if_neg (Ne.symm hne)]
  refine ⟨B, d, hd, fun t h1 => ?_, hbl, fun d' n os b' o hb' => ?_, fun d' n os hs2 => ?_⟩
  · have h2 := hF t (by simpa using h1)
    refine ⟨?_, ?_⟩
    · unfold World.cell?
      simp only [hg, Nat.zero_add]
      exact h2
    · unfold World.frozen?
      simp only [hg]
      simp
  · rw [hold d' n os b' (hs.lt hb') (fun e => by rw [e, hBb] at hb'; cases hb')]; exact hs b' o hb'
  · have hw : (sortWorldK encP 2 w b 0 n d' os).heap = (w.heap.modify b (onCells (putCells id 0 (flatK encP 2 d')))) ++ os := rfl
    have hnew : (sortWorldK encP 2 w b 0 n d' os).heap[b]? = some (.cells (putCells id 0 (flatK encP 2 d') cur) e (0, 0)) := by
      rw [hw, Array.getElem?_append_left (by simpa using hbl), Array.getElem?_modify, if_pos rfl, hg]; rfl
    have hsz2 : w.heap.size ≤ (sortWorldK encP 2 w b 0 n d' os).heap.size := by rw [hw]; simp
    have hcap : xs.length * 2 ≤ cap * 2 := Nat.mul_le_mul_right _ hnc
    have hpc : ((putCells id 0 (flatK encP 2 d') cur).toList).take (xs.length * 2) = (d'.toList.map encP).flatten := by
      rw [← pflat_list, Array.toArray_toList]
      apply List.ext_getElem?
      intro t
      by_cases h : t < xs.length * 2
      · have hts : t < cur.size := by rw [hsz, hn2]; omega
        have hfs : t < (flatK encP 2 d').size := by simp; rw [hs2, hlen]; exact h
        rw [List.getElem?_take_of_lt h]
        simp only [Array.getElem?_toList]
        unfold putCells
        rw [Array.getElem?_mapIdx, Array.getElem?_eq_getElem hts, Option.map_some, if_pos ⟨Nat.zero_le _, by omega⟩, Array.getElem?_eq_getElem hfs]
        rw [Nat.sub_zero, getElem!_pos (flatK encP 2 d') t hfs]; rfl
      · rw [List.getElem?_eq_none (by simp; omega), List.getElem?_eq_none (by simp; rw [hs2, hlen]; omega)]
    have hSb : f i b := hS b rfl
    have hA' : (HP.ow rP2 e (some ⟨b, 0, none⟩) cap (d'.toList.map (·.1.2))).pr B (sortWorldK encP 2 w b 0 n d' os) (f i) := by
      refine ⟨d'.toList.map encP, rdl_pe' _, ⟨?_, .inr ⟨b, cap, _, ?_, Nat.zero_le _, hnew, ?_, hm, ?_, ?_⟩⟩, fun b' hb' => hS b' hb'⟩
      · rw [pflat_len]; simp [hn2]
      · simp [hs2, hlen]
      · simp [hs2, hlen]; exact hnc
      · rw [← hsz]; simp [putCells]
      · rw [hn2, show (d'.toList.map (·.1.2)).length = xs.length by simp [hs2, hlen]]; exact hpc
    refine ⟨⟨hv.1, hv.2.1, hv.2.2.1, Nat.le_trans hv.2.2.2 hsz2⟩, B, f, fun b' o hb' => ?_, fun j C hj => ?_, fun j k b' hj hk => g2 j k b' (by simpa using hj) (by simpa using hk), fun j b' hj hf => ?_⟩
    · rw [hold d' n os b' (hs.lt hb') (fun e => by rw [e, hBb] at hb'; cases hb')]; exact hs b' o hb'
    · rw [List.getElem?_set] at hj
      by_cases e1 : i = j
      · subst e1; rw [if_pos rfl, if_pos hil] at hj; cases hj; exact hA'
      · rw [if_neg e1] at hj
        have hjl := (List.getElem?_eq_some_iff.1 hj).1
        exact C.loc (g1 j C hj) fun b' hb' => hold d' n os b' (g3 j b' hjl hb').1 fun e => e1 (g2 i j b hil hjl hSb (e ▸ hb'))
    · have := g3 j b' (by simpa using hj) hf
      exact ⟨Nat.lt_of_lt_of_le this.1 hsz2, this.2⟩
end
/-- A text of a pair, as it lies in memory. -/
theorem pe_key {B : Base} {w : World} (hs : Sub B w) (x : PE B) : ∃ q c v, x.1.1 = [.slice q x.1.2.1.length c, v] ∧ Sl w (.slice q x.1.2.1.length c) x.1.2.1.length (bcells x.1.2.1) := by
  obtain ⟨c1, d1, h1, ⟨q, c, h2, css, h3, h4⟩, ⟨q2, c2, h5, _⟩⟩ := x.2
  refine ⟨q, c, .slice q2 x.1.2.2.length c2, by rw [h1, h2, h5]; rfl, ?_⟩
  have := h4 w hs
  rwa [rdl_bytes_flat h3] at this
/-! ### Pairs in order -/
abbrev P2 := List UInt8 × List UInt8
def leP (a b : P2) : Bool := decide (Lib.compareBytes a.1 b.1 ≤ 0)
/-- Pairs, sorted by their keys, which are all unlike. -/
def sortPairs (xs : List P2) : List P2 := xs.mergeSort leP
def sortPO (xs : List P2) : Option (List P2) := if (xs.map (·.1)).Nodup ∧ xs.length ≤ 100000000 then some (sortPairs xs) else none
theorem sortPO_some {xs r : List P2} (h : sortPO xs = some r) : (xs.map (·.1)).Nodup ∧ xs.length ≤ 100000000 ∧ r = sortPairs xs := by
  unfold sortPO at h
  split at h
  · rename_i h0; cases h; exact ⟨h0.1, h0.2, rfl⟩
  · cases h
def ltP (a b : P2) : Prop := ltK a.1 b.1
theorem pairs_same : ∀ {l l' : List P2}, l.Pairwise ltP → l'.Pairwise ltP → (∀ k, k ∈ l ↔ k ∈ l') → l = l'
  | [], [], _, _, _ => rfl
  | [], b :: l', _, _, h => absurd ((h b).2 (by simp)) (by simp)
  | a :: l, [], _, _, h => absurd ((h a).1 (by simp)) (by simp)
  | a :: l, b :: l', h1, h2, h => by
    obtain ⟨h3, h4⟩ := List.pairwise_cons.1 h1
    obtain ⟨h5, h6⟩ := List.pairwise_cons.1 h2
    have hirr : ∀ x, ¬ ltP x x := fun x hx => by unfold ltP ltK at hx; rw [cmp_self] at hx; omega
    have hab : a = b := by
      rcases List.mem_cons.1 ((h a).1 (by simp)) with e | e
      · exact e
      · rcases List.mem_cons.1 ((h b).2 (by simp)) with e2 | e2
        · exact e2.symm
        · exact absurd (show ltP a a from cmp_trans _ _ _ (h3 b e2) (h5 a e)) (hirr a)
    subst hab
    rw [pairs_same h4 h6 fun k => ?_]
    constructor
    · intro hk
      rcases List.mem_cons.1 ((h k).1 (List.mem_cons_of_mem _ hk)) with e | e
      · subst e; exact absurd (h3 k hk) (hirr k)
      · exact e
    · intro hk
      rcases List.mem_cons.1 ((h k).2 (List.mem_cons_of_mem _ hk)) with e | e
      · subst e; exact absurd (h5 k hk) (hirr k)
      · exact e
theorem strict_of {l : List P2} (hn : (l.map (·.1)).Nodup) (h : l.Pairwise (fun a b => ¬ ltK b.1 a.1)) : l.Pairwise ltP := by
  have hn' : l.Pairwise (fun a b => a.1 ≠ b.1) := by rw [List.nodup_iff_pairwise_ne, List.pairwise_map] at hn; exact hn
  refine (h.and hn').imp fun {a b} h => ?_
  obtain ⟨h1, h2⟩ := h
  unfold ltP
  unfold ltK at *
  have h3 := cmp_zero a.1 b.1
  have h4 := cmp_swap a.1 b.1
  have : Lib.compareBytes a.1 b.1 ≠ 0 := fun e => h2 (h3 e)
  omega
theorem leP_trans (a b c : P2) (h1 : leP a b = true) (h2 : leP b c = true) : leP a c = true := leK_trans a.1 b.1 c.1 h1 h2
theorem leP_total (a b : P2) : (leP a b || leP b a) = true := leK_total a.1 b.1
theorem sortPairs_strict {xs : List P2} (hn : (xs.map (·.1)).Nodup) : (sortPairs xs).Pairwise ltP := by
  have hp := List.mergeSort_perm xs leP
  refine strict_of ((hp.map _).nodup_iff.2 hn) ?_
  refine (List.pairwise_mergeSort (fun a b c => leP_trans a b c) (fun a b => leP_total a b) xs).imp fun {a b} h => ?_
  have h : Lib.compareBytes a.1 b.1 ≤ 0 := of_decide_eq_true h
  have := cmp_swap a.1 b.1
  unfold ltK; omega
theorem sortPairs_eq {xs ks : List P2} (hn : (xs.map (·.1)).Nodup) (hp : ks.Perm xs) (hs : ks.Pairwise (fun a b => ¬ ltK b.1 a.1)) : ks = sortPairs xs :=
  pairs_same (strict_of ((hp.map _).nodup_iff.2 hn) hs) (sortPairs_strict hn) fun k => (hp.trans (List.mergeSort_perm xs leP).symm).mem_iff
theorem sort_pairs {B : Base} {d : List (PE B)} {d' : Array (PE B)} (hp : PermIn 0 d.toArray.size d.toArray d') (hs : SortedIn (ltOf cmpP) 0 d.toArray.size d') : d'.size = d.length ∧ (d'.toList.map (·.1.2)).Perm (d.map (·.1.2)) ∧ (d'.toList.map (·.1.2)).Pairwise (fun a b => ¬ ltK b.1 a.1) := by
  obtain ⟨h1, _, h2⟩ := hp
  have hsz : d'.size = d.length := by simpa using h1
  have e1 : (d'.extract 0 d.toArray.size).toList = d'.toList := by simp [← hsz]
  have e2 : (d.toArray.extract 0 d.toArray.size).toList = d := by simp
  rw [e1, e2] at h2
  refine ⟨hsz, h2.map _, ?_⟩
  rw [List.pairwise_map, List.pairwise_iff_getElem]
  intro i j hi hj hij
  have hi' : i < d'.size := by simpa using hi
  have hj' : j < d'.size := by simpa using hj
  have := hs i j (Nat.zero_le _) hij (by simpa [hsz] using hj')
  rw [getElem!_pos d' j hj', getElem!_pos d' i hi'] at this
  have h5 : ¬ (Lib.compareBytes (d'[j]).1.2.1 (d'[i]).1.2.1 < 0) := of_decide_eq_false this
  show ¬ ltK _ _
  simpa [ltK] using h5
def sortTO (xs : List (List UInt8)) : Option (List (List UInt8)) := if xs.length ≤ 100000000 then some (xs.mergeSort fun x y => decide (x ≤ y)) else none
theorem sortTO_some {xs r : List (List UInt8)} (h : sortTO xs = some r) : xs.length ≤ 100000000 ∧ r = xs.mergeSort fun x y => decide (x ≤ y) := by
  unfold sortTO at h
  split at h
  · rename_i h0; cases h; exact ⟨h0, rfl⟩
  · cases h
/-- Texts that are not put out: those behind a text. -/
def delO (xs : List (List UInt8)) (to : List UInt8) : Option (List (List UInt8)) := if xs.length ≤ 100000000 then some (xs.filter fun x => !leqB x to) else none
theorem delO_some {xs r : List (List UInt8)} {to : List UInt8} (h : delO xs to = some r) : xs.length ≤ 100000000 ∧ r = xs.filter fun x => !leqB x to := by
  unfold delO at h
  split at h
  · rename_i h0; cases h; exact ⟨h0, rfl⟩
  · cases h
/-- A block that stands beside a slice of one's own. -/
theorem St.apart {w0 w : World} {ls : List HP} {e : TypeId} {b b3 cap : Nat} {xs : List (List UInt8)} {cs : List Value} {t : TypeId} (H : St w0 w ls) (i j : Nat) (hi : ls[i]? = some (HP.ow rStr e (some ⟨b, 0, none⟩) cap xs)) (hj : ls[j]? = some (HP.blk b3 cs t)) (hij : i ≠ j) : Blk w b3 cs t ∧ b3 < w.heap.size ∧ b3 ≠ b := by
  obtain ⟨_, B, f, hs, g1, g2, g3⟩ := H
  have hil := (List.getElem?_eq_some_iff.1 hi).1
  have hjl := (List.getElem?_eq_some_iff.1 hj).1
  obtain ⟨css, c0, _, hS⟩ := g1 i _ hi
  obtain ⟨k1, k2⟩ := g1 j _ hj
  exact ⟨k1, (g3 j b3 hjl k2).1, fun e => hij (g2 i j b hil hjl (hS b rfl) (e ▸ k2))⟩
end Go.Tri
