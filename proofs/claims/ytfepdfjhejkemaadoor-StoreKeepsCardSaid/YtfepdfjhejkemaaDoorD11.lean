/- Data: noughts behind an owned slice; bytes over an owned slice. -/
import Derived.Test.YtfepdfjhejkemaaDoorD10
set_option linter.unusedSimpArgs false
set_option linter.unusedVariables false
namespace Go.Tri
open Go.RowKit
section
variable {P : Program} {w0 w : World} {ls : List HP} {t ti e : TypeId} {bytes : Nat} {z : Value}
theorem zeroCells_one (z : Value) (m : Nat) : (Builtin.zeroCells #[z] m).toList = List.replicate m z := by
  apply List.ext_getElem
  · simp [Builtin.zeroCells]
  · intro i h1 h2; simp [Builtin.zeroCells, Nat.mod_one]
/-- append(s, make(.., m)...), one cell each. -/
theorem run_appMake (H : St w0 w ls) (i : Nat) {v : Value} {n : Nat} {xs : List Value} (hi : ls[i]? = some (HP.own e 1 v n xs)) (hE : ElemT P t e 1 bytes z) (hz1 : z.cells = #[z]) (ht : P.underlying ti = some (.int .i64)) (hfz : z.oneCell' = true) (hn0 : 0 < n) {m : Nat} (h63 : n + m ≤ maxLen) (hbytes : (n + m) * bytes ≤ 140737488355328) (ty : TypeId) :
    ∃ v' w', (Builtin.append_ #[t, ti] ty #[v, .int .i64 (m : Int)]).run P w = .ok v' w' ∧ St w0 w' (ls.set i (HP.own e 1 v' (n + m) (xs ++ List.replicate m z))) := by
  obtain ⟨j, hj, hz0, hs1, hs2⟩ := info_parts hE.hi
  have ho := H.owns i hi
  have hml : m ≤ maxLen := by omega
  have hw : IntKind.i64.wrap (m : Int) = m := wrap_i64 rfl (by omega) (by unfold maxLen at hml; omega)
  have hmb : m * bytes ≤ 140737488355328 := by
    have : m * bytes ≤ (n + m) * bytes := Nat.mul_le_mul_right _ (by omega)
    omega
  have hnb : ¬ ((281474976710656 : Int) < (m : Int) * ((j.bytes : Nat) : Int)) := by rw [hs2, ← Int.natCast_mul]; omega
  obtain ⟨hlx, ⟨rfl, rfl⟩ | ⟨g, cap, cur, rfl, _, hg, hnc, hcm, hcs, htake⟩⟩ := ho
  · omega
  · have hrep : Flat (List.replicate m z) := fun v hv => by rw [(List.mem_replicate.1 hv).2]; exact hfz
    have happ : ∀ u : World, (if m * 1 = 0 then pure #[] else do pure (Builtin.zeroCells (← zeroValue e).cells m) : Sem (Array Value)).run P u = .ok (List.replicate m z).toArray u := by
      intro u
      by_cases hm0 : m = 0
      · subst hm0; simp
      · rw [if_neg (by omega)]
        have hzv : (zeroValue e).run P u = .ok z u := by
          unfold zeroValue
          rw [Sem.run_bind, run_typeInfo hj]
          show Sem.run P (match j.zero with | some v => pure v | none => _) u = _
          rw [hz0]; rfl
        rw [Sem.run_bind, hzv]
        simp only [Result.andThen_ok, Sem.run_pure, hz1]
        rw [← zeroCells_one z m]
    have hsz : (sizeOf e).run P w = .ok 1 w := by unfold sizeOf; rw [Sem.run_bind, run_typeInfo hj, ← hs1]; rfl
    have hti : ∀ u : World, (typeInfo e).run P u = .ok j u := fun u => run_typeInfo hj u
    have hneg : ¬ ((m : Int) < 0) := by omega
    by_cases hroom : n + m ≤ cap
    · have hst := run_storeCells_at (P := P) g (n * 1) e (List.replicate m z) 0 cur w hg (by simp; omega) hrep
      simp only [Nat.add_zero] at hst
      have hrun : (Builtin.append_ #[t, ti] ty #[.slice (some ⟨g, 0, none⟩) n cap, .int .i64 (m : Int)]).run P w = .ok (.slice (some ⟨g, 0, none⟩) (n + m) cap) (w.setRow g (cur.toList.take (n * 1) ++ List.replicate m z ++ cur.toList.drop (n * 1 + (List.replicate m z).length)).toArray) := by
        unfold Builtin.append_
        simp [Go.run_underlying hE.ht, Go.run_underlying ht, hsz, asInt, asIntOf, hw, hti, hnb, hneg, hroom, happ w, Addr.add_lit, hst]
        have hzv : (zeroValue e).run P w = .ok z w := by
          unfold zeroValue
          rw [Sem.run_bind, run_typeInfo hj]
          show Sem.run P (match j.zero with | some v => pure v | none => _) w = _
          rw [hz0]; rfl
        have hst' := hst
        rw [Nat.mul_one] at hst'
        by_cases hm0 : m = 0
        · subst hm0
          rw [if_pos rfl]
          simp only [List.replicate_zero] at hst'
          rw [hst']; simp
        · rw [if_neg hm0, hzv]
          simp only [Result.andThen_ok, hz1, zeroCells_one, hst']
          simp
      refine ⟨_, _, hrun, H.chg i hi (fun S hA => hA.2 g rfl) (Chg.setRow w g _) fun S hA => ⟨⟨?_, .inr ⟨g, cap, _, rfl, Nat.zero_le _, setRow_heap w g cur _ e _ hg, hroom, hcm, ?_, ?_⟩⟩, hA.2⟩⟩
      · simp [hlx]
      · simp only [List.size_toArray, List.length_append, List.length_take, List.length_drop, Array.length_toList, List.length_replicate]; omega
      · rw [htake]
        have : (n + m) * 1 = (xs ++ List.replicate m z).length := by simp [hlx]
        rw [this]; exact List.take_left
    · have hfit := growslice_fits (need := n + m) (old := cap) (bytes := j.bytes) (by omega) (by rw [hs2]; exact hbytes)
      have hge := grownCap_ge w (n + m) cap e
      have hcm' := grownCap_le_maxLen w (n + m) cap e h63
      have holds : ∀ k x, xs[k]? = some x → w.cell? ((⟨g, 0, none⟩ : Addr).add k) = some x := (H.owns i hi).cells (g := g) rfl
      have hfo := run_firstCells_some (P := P) (w := w.drew) 1 n ⟨g, 0, none⟩ n cap xs hlx (by simpa using holds)
      have h63' : ¬ (9223372036854775807 < ((n : Int) + (m : Int))) := by unfold maxLen at h63; omega
      have h48' : ¬ (281474976710656 < Builtin.nextslicecap (n + m) cap * j.bytes) := by omega
      have hrun : (Builtin.append_ #[t, ti] ty #[.slice (some ⟨g, 0, none⟩) n cap, .int .i64 (m : Int)]).run P w = .ok (.slice (some ⟨w.heap.size, 0, none⟩) (n + m) (grownCap w (n + m) cap e)) (w.drew.alloc (.cells (xs.toArray ++ (List.replicate m z).toArray ++ Builtin.zeroCells z.cells (grownCap w (n + m) cap e - (n + m))) e)) := by
        have hd := happ w.drew
        unfold Builtin.append_
        simp [Go.run_underlying hE.ht, Go.run_underlying ht, hsz, asInt, asIntOf, hw, hti, hnb, hneg, hroom, h63', h48', Question.forced, hfo, newRow, grownCap, zeroValue, hj, hz0, hz1]
        have hza : Builtin.zeroCells #[z] m = Array.replicate m z := by apply Array.ext'; rw [zeroCells_one]; simp
        by_cases hm0 : m = 0
        · subst hm0; simp
        · rw [if_neg hm0, hza]
      refine ⟨_, _, hrun, H.upd i hi (fun S hA hS => ⟨fun b => b = w.heap.size, ⟨⟨?_, .inr ⟨w.heap.size, _, _, rfl, Nat.zero_le _, heap_alloc_new w.drew _, hge, hcm', ?_, ?_⟩⟩, fun b hb => by simp [Value.ownBlock] at hb; exact hb.symm⟩, fun b hb => .inr (by omega), fun b hb => by simp; omega, fun b hb _ => heapOld w.drew _ b hb⟩) rfl rfl rfl (by simp)⟩
      · simp [hlx]
      · simp only [Array.size_append, List.size_toArray, size_zeroCells, hz1, hlx, List.length_replicate, Nat.mul_one]; simp only [List.length_cons, List.length_nil]; omega
      · simp only [Array.toList_append, List.append_assoc]
        have : (n + m) * 1 = (xs ++ List.replicate m z).length := by simp [hlx]
        rw [← List.append_assoc, this]
        exact List.take_left
variable {ops : Array Oper} {rest : List Oper} {o : Oper} {a : Act} {W : List Oper → Act → World → Prop} {N : Fs} {sl : List (Nat × Value)} {d : Nat}
/-- So many noughts behind a slice that isn't empty. -/
def appMkO {α : Type} (xs : List α) (m : Int) (z : α) : Option (List α) := if 0 < xs.length ∧ 0 ≤ m ∧ room xs.length m.toNat then some (xs ++ List.replicate m.toNat z) else none
theorem s_appMk {α : Type} {R : Rp α} {p : Option Addr} {cap : Nat} {xs : List α} (k : Walk P ops W) (F : Fr N a sl) (hg : o.guard = none) (hd : o.dst = some d) (hN : Nat.blt d N.n = true) {s x : Operand} (ho : o.op = .call { callee := .builtin .append, args := #[s, x], argTypes := #[t, ti] })
    (hs : ev sl s = some (.slice p xs.length cap)) {m : Int} (hx : ev sl x = some (.int .i64 m)) (hE : ElemT P t e 1 bytes z) (hR : R.n = 1) (hb : Nat.ble bytes 512 = true) (hz1 : z.cells = #[z]) (ht : P.underlying ti = some (.int .i64)) (hfz : z.oneCell' = true) {z' : α} (hz : ∀ B, R.rd B [z] z') {zs : List α} (hzs : appMkO xs m z' = some zs)
    (H : St w0 w ls) (i : Nat) (hi : ls[i]? = some (HP.ow R e p cap xs))
    (hk : ∀ p' c' w' a', St w0 w' (ls.set i (HP.ow R e p' c' zs)) → Fr N a' ((d, .slice p' zs.length c') :: sl) → W rest a' w') : W (o :: rest) a w := by
  unfold appMkO at hzs
  split at hzs
  · rename_i hc
    cases hzs
    obtain ⟨h0, hm, hr⟩ := hc
    unfold room at hr
    have hil : i < ls.length := (List.getElem?_eq_some_iff.1 hi).1
    have hset : ∀ X : HP, (ls.set i X)[i]? = some X := fun X => by simp [List.getElem?_set, hil]
    obtain ⟨css, c1, H2⟩ := H.owOpen i hi
    rw [hR] at H2
    have hb' := Nat.le_of_ble_eq_true hb
    have hmul : (xs.length + m.toNat) * bytes ≤ 274877906944 * 512 := Nat.mul_le_mul hr hb'
    obtain ⟨v', w', hrun, H3⟩ := run_appMake (P := P) (t := t) (ti := ti) (z := z) H2 (i + 1) (hset _) hE hz1 ht hfz h0 (m := m.toNat) (by unfold maxLen; omega) (by omega) o.type
    simp only [List.set_cons_succ, List.set_set] at H3
    obtain ⟨p', c', rfl, _, _⟩ := H3.ownForm (i + 1) (hset _)
    have hmm : ((m.toNat : Nat) : Int) = m := by omega
    rw [hmm] at hrun
    obtain ⟨B, H4⟩ := H3.out
    obtain ⟨_, r1⟩ := H4.at (i := 0) (A := HP.rdl R css xs) rfl
    have hrd : ∀ q : Nat, RdL R B (List.replicate q [z]) (List.replicate q z') := by
      intro q
      induction q with
      | zero => trivial
      | succ q ih => exact ⟨hz B, ih⟩
    have r3 := RdL.append r1 (hrd m.toNat)
    have hfl : (List.replicate m.toNat [z]).flatten = List.replicate m.toNat z := by
      generalize m.toNat = q
      induction q with
      | zero => rfl
      | succ q ih => simp [List.replicate_succ, ih]
    have H5 := (H4.set (i + 1) (C := HP.ow R e p' c' (xs ++ List.replicate m.toNat z')) (hset _) fun S h => ⟨css ++ List.replicate m.toNat [z], r3, by rw [List.flatten_append, hfl, List.length_append, List.length_replicate, hR]; exact h⟩).st
    simp only [List.set_cons_succ, List.set_set] at H5
    refine s_val (v := .slice p' (xs ++ List.replicate m.toNat z').length c') (w' := w') k F hg hd hN (by rw [ho]; rfl) ?_ (fun a' F' => hk p' c' w' a' H5.tail F')
    unfold execOp
    simp [ho, resolve, invoke, builtin, F.eval hs, F.eval hx, hrun]
  · cases hzs
end
end Go.Tri
