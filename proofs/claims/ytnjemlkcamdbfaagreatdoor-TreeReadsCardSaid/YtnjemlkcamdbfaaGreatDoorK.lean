/- Keys of a map, sorted. -/
import Derived.Test.YtnjemlkcamdbfaaGreatDoorS
import Derived.Shelf.SlSortCmp.WholeK
set_option linter.unusedSimpArgs false
set_option linter.unusedVariables false
namespace Go.Tri
open Go.RowKit Go.Sort Go.Proofs
/-! ### The order of texts -/
theorem cmp_self : ∀ a : List UInt8, Lib.compareBytes a a = 0
  | [] => rfl
  | a :: as' => by simp [Lib.compareBytes, cmp_self as']
theorem cmp_zero : ∀ a b : List UInt8, Lib.compareBytes a b = 0 → a = b
  | [], [], _ => rfl
  | [], _ :: _, h => by simp [Lib.compareBytes] at h
  | _ :: _, [], h => by simp [Lib.compareBytes] at h
  | a :: as', b :: bs, h => by
    simp only [Lib.compareBytes] at h
    split at h
    · simp at h
    · split at h
      · simp at h
      · rename_i h1 h2
        have : a = b := UInt8.le_antisymm (UInt8.not_lt.1 h2) (UInt8.not_lt.1 h1)
        rw [this, cmp_zero as' bs h]
theorem cmp_swap : ∀ a b : List UInt8, Lib.compareBytes b a = - Lib.compareBytes a b
  | [], [] => rfl
  | [], _ :: _ => rfl
  | _ :: _, [] => rfl
  | a :: as', b :: bs => by
    simp only [Lib.compareBytes]
    by_cases h1 : a < b
    · have h2 : ¬ b < a := UInt8.not_lt.2 (UInt8.le_of_lt h1)
      simp [h1, h2]
    · by_cases h2 : b < a
      · simp [h1, h2]
      · simp [h1, h2, cmp_swap as' bs]
theorem cmp_trans : ∀ a b c : List UInt8, Lib.compareBytes a b < 0 → Lib.compareBytes b c < 0 → Lib.compareBytes a c < 0
  | [], [], c, h, _ => by simp [Lib.compareBytes] at h
  | [], _ :: _, [], _, h => by simp [Lib.compareBytes] at h
  | [], _ :: _, _ :: _, _, _ => by simp [Lib.compareBytes]
  | _ :: _, [], _, h, _ => by simp [Lib.compareBytes] at h
  | _ :: _, _ :: _, [], _, h => by simp [Lib.compareBytes] at h
  | a :: as', b :: bs, c :: cs, h1, h2 => by
    simp only [Lib.compareBytes] at *
    by_cases ab : a < b
    · by_cases bc : b < c
      · simp [UInt8.lt_trans ab bc]
      · by_cases cb : c < b
        · simp [bc, cb] at h2
        · have : b = c := UInt8.le_antisymm (UInt8.not_lt.1 cb) (UInt8.not_lt.1 bc)
          subst this; simp [ab]
    · by_cases ba : b < a
      · simp [ab, ba] at h1
      · have : a = b := UInt8.le_antisymm (UInt8.not_lt.1 ba) (UInt8.not_lt.1 ab)
        subst this
        simp only [UInt8.lt_irrefl, if_false] at h1
        by_cases bc : a < c
        · simp [bc]
        · by_cases cb : c < a
          · simp [bc, cb] at h2
          · simp only [bc, cb, if_false] at h2 ⊢
            exact cmp_trans as' bs cs h1 h2
def ltK (a b : List UInt8) : Prop := Lib.compareBytes a b < 0
/-! ### The keys of a map, in order -/
def SortedKeys {β : Type} (m : List UInt8 → Option β) (l : List (List UInt8)) : Prop := l.Pairwise ltK ∧ ∀ k, k ∈ l ↔ (m k).isSome = true
theorem sorted_same : ∀ {l l' : List (List UInt8)}, l.Pairwise ltK → l'.Pairwise ltK → (∀ k, k ∈ l ↔ k ∈ l') → l = l'
  | [], [], _, _, _ => rfl
  | [], b :: l', _, _, h => absurd ((h b).2 (by simp)) (by simp)
  | a :: l, [], _, _, h => absurd ((h a).1 (by simp)) (by simp)
  | a :: l, b :: l', h1, h2, h => by
    obtain ⟨h3, h4⟩ := List.pairwise_cons.1 h1
    obtain ⟨h5, h6⟩ := List.pairwise_cons.1 h2
    have hirr : ∀ x, ¬ ltK x x := fun x hx => by unfold ltK at hx; rw [cmp_self] at hx; omega
    have hab : a = b := by
      rcases List.mem_cons.1 ((h a).1 (by simp)) with e | e
      · exact e
      · rcases List.mem_cons.1 ((h b).2 (by simp)) with e2 | e2
        · exact e2.symm
        · exact absurd (cmp_trans _ _ _ (h3 b e2) (h5 a e)) (hirr a)
    subst hab
    rw [sorted_same h4 h6 fun k => ?_]
    constructor
    · intro hk
      rcases List.mem_cons.1 ((h k).1 (List.mem_cons_of_mem _ hk)) with e | e
      · subst e; exact absurd (h3 k hk) (hirr k)
      · exact e
    · intro hk
      rcases List.mem_cons.1 ((h k).2 (List.mem_cons_of_mem _ hk)) with e | e
      · subst e; exact absurd (h5 k hk) (hirr k)
      · exact e
noncomputable def sortKeys {β : Type} (m : List UInt8 → Option β) : List (List UInt8) := open Classical in if h : ∃ l, SortedKeys m l then Classical.choose h else []
theorem sortKeys_eq {β : Type} {m : List UInt8 → Option β} {l : List (List UInt8)} (h : SortedKeys m l) : sortKeys m = l := by
  have hx : ∃ l, SortedKeys m l := ⟨l, h⟩
  unfold sortKeys
  rw [dif_pos hx]
  have h2 := Classical.choose_spec hx
  exact sorted_same h2.1 h.1 fun k => (h2.2 k).trans (h.2 k).symm
noncomputable def sortKeysO {β : Type} (m : List UInt8 → Option β) : Option (List (List UInt8)) := if flen m ≤ 100000000 then some (sortKeys m) else none
theorem sortKeysO_some {β : Type} {m : List UInt8 → Option β} {l : List (List UInt8)} (h : sortKeysO m = some l) : flen m ≤ 100000000 ∧ l = sortKeys m := by
  unfold sortKeysO at h
  split at h
  · cases h; exact ⟨‹_›, rfl⟩
  · cases h
/-! ### Rows of digests -/
abbrev H32 := {l : List UInt8 // l.length = 32}
instance : Inhabited H32 := ⟨⟨List.replicate 32 0, by simp⟩⟩
def encH (x : H32) : List Value := bcells x.1
def cmpH (x y : H32) : Int := Lib.compareBytes x.1 y.1
theorem encH_len (x : H32) : (encH x).length = 32 := by unfold encH; rw [bcells_length]; exact x.2
theorem encH_one (x : H32) : ∀ v ∈ encH x, v.oneCell' = true := fun v hv => bcells_flat _ v hv
theorem cmpH_swo : SWO (ltOf cmpH) where
  irrefl x := by simp [ltOf, cmpH, cmp_self]
  trans x y z h1 h2 := decide_eq_true (cmp_trans _ _ _ (of_decide_eq_true h1) (of_decide_eq_true h2))
  ntrans x y z h1 h2 := by
    replace h1 : ¬ Lib.compareBytes x.1 y.1 < 0 := of_decide_eq_false h1
    replace h2 : ¬ Lib.compareBytes y.1 z.1 < 0 := of_decide_eq_false h2
    refine decide_eq_false fun h3 => ?_
    replace h3 : Lib.compareBytes x.1 z.1 < 0 := h3
    by_cases hz : Lib.compareBytes y.1 x.1 = 0
    · rw [cmp_zero _ _ hz] at h2; exact h2 h3
    · have : Lib.compareBytes y.1 x.1 < 0 := by rw [cmp_swap]; rw [cmp_swap] at hz; omega
      exact h2 (cmp_trans _ _ _ this h3)
theorem rdl_hash {B : Base} : ∀ {css : List (List Value)} {xs : List (List UInt8)}, RdL (rBytesN 32) B css xs → ∃ d : List H32, d.map (·.1) = xs ∧ css = d.map encH
  | [], [], _ => ⟨[], rfl, rfl⟩
  | c :: css, x :: xs, h => by
    obtain ⟨d, h1, h2⟩ := rdl_hash h.2
    obtain ⟨h3, h4⟩ := h.1
    exact ⟨⟨x, h4⟩ :: d, by simp [h1], by simp [h2, encH, h3]⟩
  | [], _ :: _, h => h.elim
  | _ :: _, [], h => h.elim
theorem rdl_hash' {B : Base} : ∀ d : List H32, RdL (rBytesN 32) B (d.map encH) (d.map (·.1))
  | [] => trivial
  | x :: d => ⟨⟨rfl, x.2⟩, rdl_hash' d⟩
theorem flat_len (d : List H32) : (d.map encH).flatten.length = d.length * 32 := by
  induction d with
  | nil => rfl
  | cons x d ih => simp only [List.map_cons, List.flatten_cons, List.length_append, encH_len, ih, List.length_cons]; omega
theorem flat_get (d : List H32) (t : Nat) (h : t < d.length * 32) : (d.map encH).flatten[t]? = (encH ((d.toArray)[t / 32]!))[t % 32]? := by
  have hj : t / 32 < d.length := by omega
  have hc : (d.map encH)[t / 32]? = some (encH (d[t / 32]'hj)) := by simp [List.getElem?_eq_getElem hj]
  have h1 := flatK_at (K := 32) (css := d.map encH) (fun c hc => by obtain ⟨x, _, rfl⟩ := List.mem_map.1 hc; exact encH_len x) hc
  have e1 : (d.toArray)[t / 32]! = d[t / 32]'hj := by simp [getElem!_pos, hj]
  rw [e1, ← h1, List.getElem?_take_of_lt (by omega), List.getElem?_drop]
  congr 1; omega
theorem flatK_list (d : List H32) : (flatK encH 32 d.toArray).toList = (d.map encH).flatten := by
  apply List.ext_getElem?
  intro t
  by_cases h : t < d.length * 32
  · have e2 : t < (flatK encH 32 d.toArray).size := by simpa using h
    rw [flat_get d t h]
    have e3 := get_flatK encH 32 d.toArray t (by simpa using h)
    rw [getElem!_pos (flatK encH 32 d.toArray) t e2] at e3
    rw [Array.getElem?_toList, Array.getElem?_eq_getElem e2, e3]
    have e4 : t % 32 < (encH (d.toArray[t / 32]!)).length := by rw [encH_len]; omega
    rw [List.getElem?_eq_getElem e4, getElem!_pos (encH (d.toArray[t / 32]!)) _ e4]
  · rw [List.getElem?_eq_none (by simpa using h), List.getElem?_eq_none (by rw [flat_len]; omega)]
section
variable {w0 w : World} {ls : List HP} {e : TypeId} {b cap : Nat} {xs : List (List UInt8)}
/-- What stands in a slice of one's own is sorted in place. -/
theorem St.sortK (H : St w0 w ls) (i : Nat) (hi : ls[i]? = some (HP.ow (rBytesN 32) e (some ⟨b, 0, none⟩) cap xs)) : ∃ d : List H32, d.map (·.1) = xs ∧ HoldsK encH 32 w b 0 d.toArray ∧ b < w.heap.size ∧
    ∀ (d' : Array H32) (n : Nat) (os : Array Obj), d'.size = d.length → St w0 (sortWorldK encH 32 w b 0 n d' os) (ls.set i (HP.ow (rBytesN 32) e (some ⟨b, 0, none⟩) cap (d'.toList.map (·.1)))) := by
  obtain ⟨B, H⟩ := H.out
  obtain ⟨S0, css, c0, ⟨hl0, ⟨h, h'⟩ | ⟨g, cap', cur, h, hb0, hg, hnc, hm, hsz, ht⟩⟩, hS⟩ := H.at hi
  · cases h
  cases h
  obtain ⟨d, hd, rfl⟩ := rdl_hash c0
  have hlen : d.length = xs.length := by rw [← hd]; simp
  have hn32 : (rBytesN 32).n = 32 := rfl
  have hbl : b < w.heap.size := (Array.getElem?_eq_some_iff.1 hg).1
  have hF : ∀ t, t < d.length * 32 → cur[t]? = some ((flatK encH 32 d.toArray)[t]!) := by
    intro t h1
    have e2 : t < (flatK encH 32 d.toArray).size := by simpa using h1
    have e3 : (flatK encH 32 d.toArray).toList[t]? = some ((flatK encH 32 d.toArray)[t]!) := by
      rw [Array.getElem?_toList, Array.getElem?_eq_getElem e2, getElem!_pos _ t e2]
    rw [flatK_list, ← ht, List.getElem?_take_of_lt (by rw [hn32, ← hlen]; exact h1)] at e3
    simpa using e3
  refine ⟨d, hd, fun t h1 => ?_, hbl, fun d' n os hs => ?_⟩
  · have h2 := hF t (by simpa using h1)
    refine ⟨?_, ?_⟩
    · unfold World.cell?
      simp only [hg, Nat.zero_add]
      exact h2
    · unfold World.frozen?
      simp only [hg]
      simp
  · have hw : (sortWorldK encH 32 w b 0 n d' os).heap = (w.heap.modify b (onCells (putCells id 0 (flatK encH 32 d')))) ++ os := rfl
    have hcap : xs.length * 32 ≤ cap * 32 := Nat.mul_le_mul_right _ hnc
    have hold : ∀ k, k < w.heap.size → k ≠ b → (sortWorldK encH 32 w b 0 n d' os).heap[k]? = w.heap[k]? := by
      intro k hk hne
      rw [hw, Array.getElem?_append_left (by simpa using hk), Array.getElem?_modify, if_neg (Ne.symm hne)]
    have hnew : (sortWorldK encH 32 w b 0 n d' os).heap[b]? = some (.cells (putCells id 0 (flatK encH 32 d') cur) e (0, 0)) := by
      rw [hw, Array.getElem?_append_left (by simpa using hbl), Array.getElem?_modify, if_pos rfl, hg]; rfl
    have hsz2 : w.heap.size ≤ (sortWorldK encH 32 w b 0 n d' os).heap.size := by rw [hw]; simp
    have hpc : ((putCells id 0 (flatK encH 32 d') cur).toList).take (xs.length * 32) = (d'.toList.map encH).flatten := by
      rw [← flatK_list, Array.toArray_toList]
      apply List.ext_getElem?
      intro t
      by_cases h : t < xs.length * 32
      · have hts : t < cur.size := by rw [hsz, hn32]; omega
        have hfs : t < (flatK encH 32 d').size := by simp; rw [hs, hlen]; exact h
        rw [List.getElem?_take_of_lt h]
        simp only [Array.getElem?_toList]
        unfold putCells
        rw [Array.getElem?_mapIdx, Array.getElem?_eq_getElem hts, Option.map_some, if_pos ⟨Nat.zero_le _, by omega⟩, Array.getElem?_eq_getElem hfs]
        rw [Nat.sub_zero, getElem!_pos (flatK encH 32 d') t hfs]; rfl
      · rw [List.getElem?_eq_none (by simp; omega), List.getElem?_eq_none (by simp; rw [hs, hlen]; omega)]
    refine (H.st).upd i hi (fun {B} S hA hb => ?_) rfl rfl rfl hsz2
    obtain ⟨css1, c1, hA1, hA2⟩ := hA
    have hSb : S b := hA2 b rfl
    refine ⟨S, ⟨d'.toList.map encH, rdl_hash' _, ⟨?_, .inr ⟨b, cap, _, ?_, Nat.zero_le _, hnew, ?_, hm, ?_, ?_⟩⟩, fun b' hb' => hA2 b' hb'⟩, fun k hk => .inl hk, fun k hk => Nat.lt_of_lt_of_le (hb k hk).1 hsz2, fun k hk hn => hold k hk (fun e => hn (e ▸ hSb))⟩
    · rw [flat_len]; simp [hn32]
    · simp [hs, hlen]
    · simp [hs, hlen]; exact hnc
    · rw [← hsz]; simp [putCells]
    · rw [hn32, show (d'.toList.map (·.1)).length = xs.length by simp [hs, hlen]]; exact hpc
end
/-! ### Ranges over keys -/
def KAdm {β : Type} (m : List UInt8 → Option β) (pre : List (List UInt8)) (x : List UInt8) : Prop := x.length = 32 ∧ ∃ kv post, Enum m kv ∧ kv.map (·.1) = pre ++ x :: post
def KAll {β : Type} (m : List UInt8 → Option β) (pre : List (List UInt8)) : Prop := ∃ kv, Enum m kv ∧ kv.map (·.1) = pre
theorem rn_app : ∀ {pre : List (List UInt8)} {g0 g : List (List UInt8) × Option Addr × Nat}, Rn (fun g x g' => g'.1 = g.1 ++ [x]) g0 pre g → g.1 = g0.1 ++ pre
  | [], g0, g, h => by cases h; simp
  | x :: pre, g0, g, ⟨g1, h1, h2⟩ => by rw [rn_app h2, h1]; simp
theorem pv_app {κ β : Type} {es : List (κ × (List Value × β))} {vis : List Nat} {q : Nat} {k : κ} {v : β} (h : pv es (vis ++ [q]) = pv es vis ++ [(k, v)]) (r : List Nat) : (pv es (vis ++ [q] ++ r)).map (·.1) = (pv es vis).map (·.1) ++ k :: (pv es r).map (·.1) := by
  have : pv es (vis ++ [q] ++ r) = pv es (vis ++ [q]) ++ pv es r := by simp only [pv, List.filterMap_append]
  rw [this, h]; simp
/-! ### Comparing -/
theorem y_ext {P : Program} {N : Fs} {a : Act} {l : List (Nat × Value)} {o : Oper} {w : World} {v : Value} (F : Fr N a l) {f : FuncId} {xs : List Operand} {ts : Array TypeId} (ho : o.op = .call { callee := .value (.func f), args := xs.toArray, argTypes := ts }) {vs : List Value} (hv : evs l xs = some vs)
    (he : (callFunc f vs.toArray).run P w = .ok (.value v) w) : (execOp a.eval o).run P w = .ok (.value v) w := by
  have := F.evals hv
  unfold execOp
  simp [ho, resolve, Act.eval, Deferred.ofValue, invoke, he, this]
theorem blk_sl {w : World} {b : Nat} {xs : List UInt8} {t : TypeId} {n : Nat} (h : Blk w b (bcells xs) t) (hn : xs.length = n) : Sl w (.slice (shp (some ⟨b, 0, none⟩) n 0 1) xs.length (n - 0)) xs.length (bcells xs) := by
  subst hn
  unfold shp
  split
  · exact .inr (.inr ⟨b, 0, xs.length, rfl, Nat.le_refl _, h.row⟩)
  · exact .inr (.inr ⟨b, 0, xs.length, by simp [Addr.add], Nat.le_refl _, h.row⟩)
/-! ### What is sorted -/
theorem sort_list {d : List H32} {d' : Array H32} (hp : PermIn 0 d.toArray.size d.toArray d') (hs : SortedIn (ltOf cmpH) 0 d.toArray.size d') : d'.size = d.length ∧ (d'.toList.map (·.1)).Perm (d.map (·.1)) ∧ (d'.toList.map (·.1)).Pairwise (fun a b => ¬ ltK b a) := by
  obtain ⟨h1, _, h2⟩ := hp
  have hsz : d'.size = d.length := by simpa using h1
  have e1 : (d'.extract 0 d.toArray.size).toList = d'.toList := by simp [← hsz]
  have e2 : (d.toArray.extract 0 d.toArray.size).toList = d := by simp
  rw [e1, e2] at h2
  refine ⟨hsz, h2.map _, ?_⟩
  rw [List.pairwise_map, List.pairwise_iff_getElem]
  intro i j hi hj hij
  have hi' : i < d'.size := by simpa using hi
  have hj' : j < d'.size := by simpa using hj
  have := hs i j (Nat.zero_le _) hij (by simpa [hsz] using hj')
  rw [getElem!_pos d' j hj', getElem!_pos d' i hi'] at this
  have h5 : ¬ (Lib.compareBytes (d'[j]).1 (d'[i]).1 < 0) := of_decide_eq_false this
  show ¬ ltK _ _
  simpa [ltK] using h5
theorem aget_isSome {κ β : Type} [DecidableEq κ] (k : κ) : ∀ l : List (κ × β), (aget k l).isSome = true ↔ k ∈ l.map (·.1)
  | [] => by simp [aget]
  | (k', v) :: l => by
    simp only [aget]
    split
    · rename_i h; simp [h]
    · rename_i h
      rw [aget_isSome k l]; simp [Ne.symm h]
theorem sortedKeys_of {β : Type} {m : List UInt8 → Option β} {ks ks' : List (List UInt8)} (h : KAll m ks) (hp : ks'.Perm ks) (hs : ks'.Pairwise (fun a b => ¬ ltK b a)) : SortedKeys m ks' := by
  obtain ⟨kv, hE, rfl⟩ := h
  have hnd : ks'.Nodup := hp.nodup_iff.2 hE.1
  refine ⟨(hs.and hnd).imp (fun {a b} h => ?_), fun k => ?_⟩
  · obtain ⟨h1, h2⟩ := h
    unfold ltK at *
    have h3 := cmp_zero a b
    have h4 := cmp_swap a b
    have : Lib.compareBytes a b ≠ 0 := fun e => h2 (h3 e)
    omega
  · rw [hp.mem_iff, hE.2 k, aget_isSome]
theorem kall_len {β : Type} {m : List UInt8 → Option β} {ks : List (List UInt8)} (h : KAll m ks) : ks.length = flen m := by
  obtain ⟨kv, hE, rfl⟩ := h
  rw [flen_eq hE]; simp
theorem kadm_len {β : Type} {m : List UInt8 → Option β} {pre : List (List UInt8)} {x : List UInt8} (hm : flen m ≤ 100000000) (h : KAdm m pre x) : x.length = 32 ∧ pre.length < 100000000 := by
  obtain ⟨h1, kv, post, hE, he⟩ := h
  refine ⟨h1, ?_⟩
  have h2 := flen_eq hE
  have h3 := congrArg List.length he
  simp at h3; omega
theorem St.owCase {α : Type} {R : Rp α} {w0 w : World} {ls : List HP} {e : TypeId} {p : Option Addr} {cap : Nat} {xs : List α} (H : St w0 w ls) (i : Nat) (hi : ls[i]? = some (HP.ow R e p cap xs)) : (p = none ∧ cap = 0 ∧ xs = []) ∨ ∃ b, p = some ⟨b, 0, none⟩ := by
  obtain ⟨B, H⟩ := H.out
  obtain ⟨S0, css, c0, ⟨hl0, ⟨h, h'⟩ | ⟨g, cap', cur, h, hb0, hg, hnc, hm, hsz, ht⟩⟩, hS⟩ := H.at hi
  · injection h with h1 h2 h3
    exact .inl ⟨h1, h3, List.eq_nil_of_length_eq_zero h2⟩
  · injection h with h1
    exact .inr ⟨g, h1⟩
theorem AggT.run_szOf {P : Program} {t : TypeId} {n : Nat} {z : List Value} (h : AggT P t n z) (w : World) : (Go.sizeOf t).run P w = .ok n w := by
  obtain ⟨i, hi, he⟩ := Option.map_eq_some_iff.1 h.info
  injection he with h1 _
  subst h1
  simp [Go.sizeOf, typeInfo, Sem.run, hi]
/-! ### There is such a list -/
def leK (a b : List UInt8) : Bool := decide (Lib.compareBytes a b ≤ 0)
theorem leK_trans (a b c : List UInt8) (h1 : leK a b = true) (h2 : leK b c = true) : leK a c = true := by
  have h1 : Lib.compareBytes a b ≤ 0 := of_decide_eq_true h1
  have h2 : Lib.compareBytes b c ≤ 0 := of_decide_eq_true h2
  refine decide_eq_true ?_
  by_cases e1 : Lib.compareBytes a b = 0
  · rw [cmp_zero _ _ e1]; exact h2
  · by_cases e2 : Lib.compareBytes b c = 0
    · rw [← cmp_zero _ _ e2]; exact h1
    · have := cmp_trans a b c (by omega) (by omega)
      omega
theorem leK_total (a b : List UInt8) : (leK a b || leK b a) = true := by
  have := cmp_swap a b
  unfold leK
  by_cases h : Lib.compareBytes a b ≤ 0
  · simp [h]
  · have : Lib.compareBytes b a ≤ 0 := by omega
    simp [this]
theorem enum_of {β : Type} {m : List UInt8 → Option β} : ∀ (ks : List (List UInt8)) (m : List UInt8 → Option β), ks.Nodup → (∀ k, k ∈ ks ↔ (m k).isSome = true) → ∃ kv, Enum m kv ∧ kv.map (·.1) = ks
  | ks, m, hn, hk => by
    have key : ∀ l : List (List UInt8), (∀ k ∈ l, (m k).isSome = true) → ∃ kv : List (List UInt8 × β), kv.map (·.1) = l ∧ ∀ k v, (k, v) ∈ kv → m k = some v := by
      intro l
      induction l with
      | nil => intro _; exact ⟨[], rfl, fun k v h => by cases h⟩
      | cons a l ih =>
        intro h
        obtain ⟨kv, h1, h2⟩ := ih fun k hk => h k (List.mem_cons_of_mem _ hk)
        obtain ⟨v, hv⟩ := Option.isSome_iff_exists.1 (h a (by simp))
        refine ⟨(a, v) :: kv, by simp [h1], fun k v' hm => ?_⟩
        rcases List.mem_cons.1 hm with e | e
        · cases e; exact hv
        · exact h2 k v' e
    obtain ⟨kv, h1, h2⟩ := key ks fun k h => (hk k).1 h
    refine ⟨kv, ⟨by rw [h1]; exact hn, fun k => ?_⟩, h1⟩
    by_cases hi : k ∈ ks
    · have h3 := (aget_isSome k kv).2 (by rw [h1]; exact hi)
      obtain ⟨v, hv⟩ := Option.isSome_iff_exists.1 h3
      rw [hv]; exact h2 k v (aget_mem' hv)
    · have h3 : (aget k kv) = none := by
        rcases hx : aget k kv with _ | v
        · rfl
        · exact absurd (by rw [← h1]; exact (aget_isSome k kv).1 (by rw [hx]; rfl)) hi
      have h4 : m k = none := by
        rcases hx : m k with _ | v
        · rfl
        · exact absurd ((hk k).2 (by rw [hx]; rfl)) hi
      rw [h3, h4]
theorem sortKeys_of {β : Type} {m : List UInt8 → Option β} (ks : List (List UInt8)) (hn : ks.Nodup) (hk : ∀ k, k ∈ ks ↔ (m k).isSome = true) (hl : ks.length ≤ 100000000) : ∃ l, sortKeysO m = some l ∧ l.Perm ks ∧ SortedKeys m l := by
  obtain ⟨kv, hE, h1⟩ := enum_of (m := m) ks m hn hk
  have hp := List.mergeSort_perm ks leK
  have hs : (ks.mergeSort leK).Pairwise (fun a b => leK a b = true) := List.pairwise_mergeSort (fun a b c => leK_trans a b c) (fun a b => leK_total a b) ks
  have hsk : SortedKeys m (ks.mergeSort leK) := by
    refine sortedKeys_of (ks := ks) ⟨kv, hE, h1⟩ hp (hs.imp fun {a b} h => ?_)
    have h : Lib.compareBytes a b ≤ 0 := of_decide_eq_true h
    have := cmp_swap a b
    unfold ltK; omega
  refine ⟨_, ?_, hp, hsk⟩
  unfold sortKeysO
  rw [if_pos (by rw [flen_eq hE]; have := congrArg List.length h1; simp at this; omega), sortKeys_eq hsk]
end Go.Tri
