/- What is committed, in plain terms. -/
import Derived.Test.YtchcoenpnmgnhaaTalQ
import Derived.Test.YtchcoenpnmgnhaaTalC
import Derived.Test.YtchcoenpnmgnhaaB
set_option linter.unusedSimpArgs false
set_option linter.unusedVariables false
namespace Go.Proofs.Ytchcoenpnmgnhaa
open Go.ChangeShapes Go.WideShapes Go.ChangeAt Go.RowKit Go.Tri
theorem keyMap : KeyT Try.prog 3 (Value.int .i64) (fun _ => True) := keyInt Try.underlying3
/-- The greatest generation of each node. -/
def cstep (l : List (Int × Int)) (x : Mrk) : List (Int × Int) := aset x.node (max ((aget x.node l).getD 0) x.gen) l
def cmap (xs : List Mrk) : List (Int × Int) := xs.foldl cstep []
theorem cmap_succ {xs : List Mrk} {k : Nat} {x : Mrk} (hx : xs[k]? = some x) : cmap (xs.take (k + 1)) = aset x.node (max ((aget x.node (cmap (xs.take k))).getD 0) x.gen) (cmap (xs.take k)) := by
  rw [List.take_add_one, hx]; simp [cmap, cstep]
theorem aget_vmap (k : Int) : ∀ l : List (Int × Int), aget k (vmap l) = (aget k l).map (Value.int .u64)
  | [] => rfl
  | (k', v) :: r => by
    simp only [vmap, List.map_cons, aget]
    have := aget_vmap k r
    unfold vmap at this
    split <;> simp [this]
theorem aset_vmap (k v : Int) : ∀ l : List (Int × Int), aset k (.int .u64 v) (vmap l) = vmap (aset k v l)
  | [] => rfl
  | (k', v') :: r => by
    simp only [vmap, List.map_cons, aset]
    have := aset_vmap k v r
    unfold vmap at this
    split <;> simp [this]
theorem aget_getD_vmap (k : Int) (l : List (Int × Int)) : (aget k (vmap l)).getD (.int .u64 0) = .int .u64 ((aget k l).getD 0) := by
  rw [aget_vmap]; cases aget k l <;> rfl
theorem aset_len {K V : Type} [DecidableEq K] (k : K) (v : V) : ∀ l : List (K × V), (aset k v l).length ≤ l.length + 1
  | [] => by simp [aset]
  | (k', v') :: r => by
    simp only [aset]
    split
    · simp
    · have := aset_len k v r; simp; omega
theorem cmap_len (xs : List Mrk) : (cmap xs).length ≤ xs.length := by
  have : ∀ (ys : List Mrk) (l : List (Int × Int)), (ys.foldl cstep l).length ≤ l.length + ys.length := by
    intro ys
    induction ys with
    | nil => intro l; simp
    | cons y ys ih => intro l; have h1 := ih (cstep l y); have h2 := aset_len y.node (max ((aget y.node l).getD 0) y.gen) l; unfold cstep at h1 ⊢; simp only [List.foldl_cons, List.length_cons]; omega
  simpa [cmap] using this xs []
def majN (n : Int) : Nat := (max n 0 / 2 + 1).toNat
/-- How many are at least c. -/
def cnt (c : Int) (vs : List Int) : Nat := vs.countP fun v => decide (c ≤ v)
/-- c is the m-th greatest of vs, or there aren't m. -/
def Com (vs : List Int) (m : Nat) (c : Int) : Prop := (vs.length < m ∧ c = 0) ∨ (m ≤ vs.length ∧ c ∈ vs ∧ m ≤ cnt c vs ∧ ∀ u, c < u → cnt u vs < m)
theorem Com.uniq {vs : List Int} {m : Nat} {c d : Int} (h : Com vs m c) (k : Com vs m d) : c = d := by
  rcases h with ⟨h1, rfl⟩ | ⟨h1, h2, h3, h4⟩ <;> rcases k with ⟨k1, rfl⟩ | ⟨k1, k2, k3, k4⟩
  · rfl
  · omega
  · omega
  · rcases Int.lt_trichotomy c d with e | e | e
    · have := h4 d e; omega
    · exact e
    · have := k4 c e; omega
theorem cnt_perm {vs us : List Int} (h : vs.Perm us) (c : Int) : cnt c vs = cnt c us := h.countP_eq _
theorem Com.perm {vs us : List Int} (h : vs.Perm us) {m : Nat} {c : Int} (k : Com vs m c) : Com us m c := by
  unfold Com at *
  rw [h.length_eq, h.mem_iff] at k
  simpa only [cnt_perm h] using k
theorem com_sorted {ys : List Int} (hs : Srt ltI 0 ys.length ys) {m : Nat} (hm : 1 ≤ m) (h : m ≤ ys.length) {x : Int} (hx : ys[ys.length - m]? = some x) : Com ys m x := by
  refine .inr ⟨h, List.mem_of_getElem? hx, ?_, fun u hu => ?_⟩
  · have h1 : cnt x (ys.drop (ys.length - m)) = (ys.drop (ys.length - m)).length := by
      refine List.countP_eq_length.2 fun v hv => ?_
      obtain ⟨i, hi⟩ := List.getElem?_of_mem hv
      rw [List.getElem?_drop] at hi
      by_cases e : i = 0
      · subst e; rw [Nat.add_zero, hx] at hi; cases hi; simp
      · have hl := (List.getElem?_eq_some_iff.1 hi).1
        have := hs _ _ x v (Nat.zero_le _) (by omega) hl hx hi
        simp [ltI] at this; simp; omega
    have h2 : cnt x ys = cnt x (ys.take (ys.length - m)) + cnt x (ys.drop (ys.length - m)) := by
      unfold cnt; rw [← List.countP_append, List.take_append_drop]
    rw [List.length_drop] at h1
    omega
  · have h1 : cnt u (ys.take (ys.length - m + 1)) = 0 := by
      refine List.countP_eq_zero.2 fun v hv => ?_
      obtain ⟨i, hi⟩ := List.getElem?_of_mem hv
      have hl := (List.getElem?_eq_some_iff.1 hi).1
      rw [List.length_take] at hl
      rw [List.getElem?_take_of_lt (by omega)] at hi
      by_cases e : i = ys.length - m
      · subst e; rw [hx] at hi; cases hi; simp; omega
      · have := hs _ _ v x (Nat.zero_le _) (by omega) (by omega) hi hx
        simp [ltI] at this; simp; omega
    have h2 : cnt u ys = cnt u (ys.take (ys.length - m + 1)) + cnt u (ys.drop (ys.length - m + 1)) := by
      unfold cnt; rw [← List.countP_append, List.take_append_drop]
    have h3 : cnt u (ys.drop (ys.length - m + 1)) ≤ (ys.drop (ys.length - m + 1)).length := List.countP_le_length
    rw [List.length_drop] at h3
    omega
theorem mrk_wf {n g : Int} (h1 : -9223372036854775808 ≤ n) (h2 : n ≤ 9223372036854775807) (h3 : 0 ≤ g) (h4 : g ≤ 18446744073709551615) : (Mrk.mk n g).wf := ⟨by simp [Lit.wf, IntKind.min, IntKind.max, IntKind.signed, IntKind.bits]; omega, by simp [Lit.wf, IntKind.min, IntKind.max, IntKind.signed, IntKind.bits]; omega⟩
/-- Generations, the i-th that of node i. -/
def marksL (gs : List Int) : List Mrk := gs.zipIdx.map fun p => ⟨p.2, p.1⟩
theorem marksL_succ {gs : List Int} {k : Nat} {x : Int} (hx : gs[k]? = some x) : marksL (gs.take (k + 1)) = marksL (gs.take k) ++ [⟨k, x⟩] := by
  have h := (List.getElem?_eq_some_iff.1 hx).1
  rw [List.take_add_one, hx]
  simp [marksL, List.zipIdx_append, List.length_take, Nat.min_eq_left (Nat.le_of_lt h)]
theorem marksL_len (gs : List Int) : (marksL gs).length = gs.length := by simp [marksL]
theorem marksL_wf {gs : List Int} (hb : ∀ g ∈ gs, 0 ≤ g ∧ g ≤ 18446744073709551615) (hl : gs.length ≤ 1000) : ∀ x ∈ marksL gs, x.wf := by
  intro x hx
  obtain ⟨p, hp, rfl⟩ := List.mem_map.1 hx
  obtain ⟨h1, h2⟩ := List.mem_zipIdx' hp
  have := hb p.1 (by rw [h2]; exact List.getElem_mem _)
  exact mrk_wf (by omega) (by omega) this.1 this.2
theorem com_539_3 {c : Int} (h : Com ((cmap (marksL [5, 3, 9])).map (·.2)) (majN 3) c) : c = 5 := by
  refine h.uniq (.inr ⟨by decide, by decide, by decide, fun u hu => ?_⟩)
  show [(5 : Int), 3, 9].countP (fun v => decide (u ≤ v)) < 2
  simp only [List.countP_cons, List.countP_nil, decide_eq_true_eq]
  repeat' split
  all_goals omega
theorem com_539_5 {c : Int} (h : Com ((cmap (marksL [5, 3, 9])).map (·.2)) (majN 5) c) : c = 3 := by
  refine h.uniq (.inr ⟨by decide, by decide, by decide, fun u hu => ?_⟩)
  show [(5 : Int), 3, 9].countP (fun v => decide (u ≤ v)) < 3
  simp only [List.countP_cons, List.countP_nil, decide_eq_true_eq]
  repeat' split
  all_goals omega
theorem com_53_5 {c : Int} (h : Com ((cmap (marksL [5, 3])).map (·.2)) (majN 5) c) : c = 0 := h.uniq (.inl ⟨by decide, rfl⟩)
theorem com_few {ys : List Int} {m : Nat} (h : ys.length < m) : Com ys m 0 := .inl ⟨h, rfl⟩
theorem adm_len {l : List (Int × Int)} {xs : List Int} {x : Int} (h : ∃ ys, (xs ++ x :: ys).Perm (l.map (·.2))) : xs.length < l.length := by
  obtain ⟨ys, h⟩ := h
  have := h.length_eq
  simp at this; omega
end Go.Proofs.Ytchcoenpnmgnhaa
