/- The contracts of clone, search and insert in the engine's form; vote.Add as a plain function. -/
import Derived.Test.YtoohllmhlbgamaaVoteM
import Derived.Test.YtoohllmhlbgamaaZ
set_option linter.unusedSimpArgs false
set_option linter.unusedVariables false
namespace Go.Tri
open Go.RowKit
theorem st_of_own {w w' : World} {e : TypeId} {size : Nat} {r : Value} {n : Nat} {cs : List Value} (h : w'.ownsRow w.heap.size e size r n cs) (hb : Below w.heap.size w w') : St w w' [HP.own e size r n cs] := by
  refine ⟨hb, fun _ b => r.ownBlock = some b, ?_, ?_, ?_⟩
  · intro i A hi
    cases i with
    | succ i => simp at hi
    | zero =>
      simp at hi; subst hi
      refine ⟨⟨h.1, ?_⟩, fun b hb => hb⟩
      rcases h.2 with h | ⟨g, cap, cur, hv, hb, hr⟩
      · exact .inl h
      · exact .inr ⟨g, cap, cur, hv, Nat.zero_le _, hr⟩
  · intro i j b hi hj _ _; simp at hi hj; omega
  · intro i b _ hf; exact h.lt b hf
theorem own_base {w : World} {e : TypeId} {size : Nat} {r : Value} {n : Nat} {cs : List Value} (h : w.ownsRow 0 e size r n cs) {base : Nat} (hb : ∀ b, r.ownBlock = some b → base ≤ b) : w.ownsRow base e size r n cs := by
  refine ⟨h.1, ?_⟩
  rcases h.2 with h | ⟨g, cap, cur, rfl, _, hr⟩
  · exact .inl h
  · exact .inr ⟨g, cap, cur, rfl, hb g rfl, hr⟩
end Go.Tri
namespace Go.Proofs.Ytoohllmhlbgamaa
open Go.ChangeShapes Go.WideShapes Go.ChangeAt Go.RowKit Go.Tri
theorem cloneSt (v : Value) (n : Nat) (cs : List Value) (w : World) (hv : Sl w v n cs) (hl : cs.length = n * 37) (hf : Flat cs) (hn : n ≤ 1000) :
    Calls Try.prog 19 [v].toArray w fun e w' => ∃ r, e = .returned r ∧ St w w' [HP.own 28 37 r n cs] :=
  (clone v n cs w hv hl hf hn).mono fun e w' ⟨r, he, ho, hb⟩ => ⟨r, he, st_of_own ho hb⟩
theorem searchSt (xs : List Vote) (hw : ∀ x ∈ xs, x.wf) (hn : xs.length ≤ 1000) (s : Value) (v : Vote) (hv : v.wf) (w : World) (hs : Sl w s xs.length (votes xs)) :
    Calls Try.prog 20 [s, .agg v.cells.toArray, .func (.func 21) #[] #[]].toArray w fun e w' =>
      e = .returned (.tuple [.int .i64 ((findAt xs v : Nat) : Int), .bool (foundAt xs v)].toArray) ∧ St w w' [] := by
  obtain ⟨p, cap, rfl, hr⟩ := hs.form
  exact (search_core xs hw hn p cap v hv w hr).mono fun e w' h => ⟨h.1, St.ofBelow h.2⟩
theorem insertSt {w0 w : World} {ls : List HP} (H : St w0 w ls) (i j : Nat) (hij : i ≠ j) {s : Value} {n k : Nat} {xs : List Value} (hi : ls[i]? = some (HP.own 28 37 s n xs)) {bv cv : Nat} {cs : List Value} {tv : TypeId} (hj : ls[j]? = some (HP.blk bv cs tv))
    (hfx : Flat xs) (hn : n ≤ 1000) (hk : k ≤ n) (hcs : cs.length = 37) (hfc : Flat cs) :
    Calls Try.prog 23 [s, .int .i64 (k : Int), .slice (some ⟨bv, 0, none⟩) 1 (cv + 1)].toArray w fun e w' => ∃ r, e = .returned r ∧ St w0 w' [HP.own 28 37 r (n + 1) (xs.take (k * 37) ++ cs ++ xs.drop (k * 37))] := by
  have H' := H
  obtain ⟨hb, f, h1, h2, h3⟩ := H
  have hil : i < ls.length := (List.getElem?_eq_some_iff.1 hi).1
  have hjl : j < ls.length := (List.getElem?_eq_some_iff.1 hj).1
  have hA := h1 i _ hi
  have hB := h1 j _ hj
  have hne : s.ownBlock ≠ some bv := fun e => hij (h2 i j bv hil hjl (hA.2 bv e) hB.2)
  have hown := own_base (base := w0.heap.size) hA.1 (fun b hbb => (h3 i b hil (hA.2 b hbb)).1)
  refine (insert w0.heap.size s n k xs w hown hfx hb.size hn hk bv cv cs tv hB.1 hcs hfc hne).mono fun e w' ⟨r, he, ho, hg⟩ => ⟨r, he, st_of_own ho ?_⟩
  exact hb.grown hg hb.size (fun b hbb => (h3 i b hil (hA.2 b hbb)).1)
/-- Votes with one more. -/
def addV (xs : List Vote) (v : Vote) : List Vote :=
  if foundAt xs v = true then (match xs[findAt xs v]? with | some x => if x.view ≤ v.view then xs.set (findAt xs v) v else xs | none => xs)
  else xs.take (findAt xs v) ++ v :: xs.drop (findAt xs v)
theorem findAt_le (xs : List Vote) (v : Vote) : findAt xs v ≤ xs.length := (bsL_le _ 0 xs.length (Nat.zero_le _)).2
theorem votes_app (xs ys : List Vote) : votes (xs ++ ys) = votes xs ++ votes ys := by simp [votes]
theorem votes_take (xs : List Vote) (hw : ∀ x ∈ xs, x.wf) (k : Nat) (hk : k ≤ xs.length) : votes (xs.take k) = (votes xs).take (k * 37) := by
  have h : votes xs = votes (xs.take k) ++ votes (xs.drop k) := by rw [← votes_app, List.take_append_drop]
  have hl := votes_len (xs.take k) (fun x hx => hw x (List.mem_of_mem_take hx))
  rw [List.length_take, Nat.min_eq_left hk] at hl
  rw [h, ← hl, List.take_left]
theorem votes_drop (xs : List Vote) (hw : ∀ x ∈ xs, x.wf) (k : Nat) (hk : k ≤ xs.length) : votes (xs.drop k) = (votes xs).drop (k * 37) := by
  have h : votes xs = votes (xs.take k) ++ votes (xs.drop k) := by rw [← votes_app, List.take_append_drop]
  have hl := votes_len (xs.take k) (fun x hx => hw x (List.mem_of_mem_take hx))
  rw [List.length_take, Nat.min_eq_left hk] at hl
  rw [h, ← hl, List.drop_left]
theorem votes_set (xs : List Vote) (hw : ∀ x ∈ xs, x.wf) (k : Nat) (hk : k < xs.length) (v : Vote) : votes (xs.set k v) = (votes xs).take (k * 37) ++ v.cells ++ (votes xs).drop (k * 37 + 37) := by
  rw [List.set_eq_take_append_cons_drop, if_pos hk, votes_app, ← votes_take xs hw k (by omega), show k * 37 + 37 = (k + 1) * 37 by omega, ← votes_drop xs hw (k + 1) (by omega)]
  simp [votes]
theorem found_at {xs : List Vote} {v : Vote} (h : foundAt xs v = true) : ∃ x, xs[findAt xs v]? = some x ∧ x.node = v.node := by
  unfold foundAt at h
  cases e : xs[findAt xs v]? with
  | none => simp [e] at h
  | some x => simp [e] at h; exact ⟨x, rfl, h⟩
theorem addV_not {xs : List Vote} {v : Vote} (h : foundAt xs v = false) : addV xs v = xs.take (findAt xs v) ++ v :: xs.drop (findAt xs v) := by simp [addV, h]
theorem addV_set {xs : List Vote} {v x : Vote} (h : foundAt xs v = true) (hx : xs[findAt xs v]? = some x) (hv : x.view ≤ v.view) : addV xs v = xs.set (findAt xs v) v := by simp [addV, h, hx, hv]
theorem addV_keep {xs : List Vote} {v x : Vote} (h : foundAt xs v = true) (hx : xs[findAt xs v]? = some x) (hv : ¬ x.view ≤ v.view) : addV xs v = xs := by simp [addV, h, hx, hv]
theorem ent_clone : ∀ args w, (callFunc 19 args).run Try.prog w = .ok (.enter 19 args) w := enters Try.func19 (by kernel_rfl) rfl
theorem ent_search : ∀ args w, (callFunc 20 args).run Try.prog w = .ok (.enter 20 args) w := enters Try.func20 (by kernel_rfl) rfl
theorem ent_insert : ∀ args w, (callFunc 23 args).run Try.prog w = .ok (.enter 23 args) w := enters Try.func23 (by kernel_rfl) rfl
theorem ent_add : ∀ args w, (callFunc 14 args).run Try.prog w = .ok (.enter 14 args) w := enters Try.func14 (by kernel_rfl) rfl
theorem ent_radd : ∀ args w, (callFunc 16 args).run Try.prog w = .ok (.enter 16 args) w := enters Try.func16 (by kernel_rfl) rfl
theorem ent_same : ∀ args w, (callFunc 15 args).run Try.prog w = .ok (.enter 15 args) w := enters Try.func15 (by kernel_rfl) rfl
theorem ent_speaks : ∀ args w, (callFunc 8 args).run Try.prog w = .ok (.enter 8 args) w := enters Try.func8 (by kernel_rfl) rfl
theorem fld0 : FieldT Try.prog 28 0 0 := by unfold FieldT; kernel_rfl
theorem fld1 : FieldT Try.prog 28 1 1 := by unfold FieldT; kernel_rfl
theorem plInt : Plain Try.prog 3 := by unfold Plain; kernel_rfl
theorem plU64 : Plain Try.prog 23 := by unfold Plain; kernel_rfl
end Go.Proofs.Ytoohllmhlbgamaa
