/- A map that stands in memory when the call begins, with digests as keys. -/
import Derived.Test.YtnjemlkcamdbfaaGreatDoorOq
import Derived.Test.YtnjemlkcamdbfaaGreatDoorRec
import Derived.WideKeyElems3
set_option linter.unusedSimpArgs false
set_option linter.unusedVariables false
namespace Go.Tri
open Go.RowKit Go.ChangeShapes Go.WideShapes Go.ChangeAt Go.Deep
section
variable {β H : Type} {enc : TypeId × Value → H} {P : Program} {w : World} {base : Nat} {spare : Nat → Bool} {held : Bool} {R : Rp β} {t k e u e2 : TypeId} {n : Nat}
theorem bcells_of : ∀ (cs : List Value), (∀ i, i < cs.length → ∃ m : Int, 0 ≤ m ∧ m ≤ 255 ∧ cs[i]? = some (.int .u8 m)) → ∃ x : List UInt8, x.length = cs.length ∧ cs = bcells x
  | [], _ => ⟨[], rfl, rfl⟩
  | c :: cs, h => by
    obtain ⟨x, h1, h2⟩ := bcells_of cs fun i hi => by
      obtain ⟨m, h1, h2, h3⟩ := h (i + 1) (by simpa using hi)
      exact ⟨m, h1, h2, by simpa using h3⟩
    obtain ⟨m, h3, h4, h5⟩ := h 0 (by simp)
    simp at h5
    refine ⟨UInt8.ofNat m.toNat :: x, by simp [h1], ?_⟩
    have : ((UInt8.ofNat m.toNat).toNat : Int) = m := by simp; omega
    simp only [bcells, List.map_cons, this]
    rw [h5, h2]; rfl
theorem key_bytes (hk : P.underlying k = some (.array n u)) (hu : P.underlying u = some (.int .u8)) (hcu : P.cellsOf u = 1) (hck : P.cellsOf k = n) {v : Value} {l : Lit} (h : keyOf P k v = some l) : ∃ x : List UInt8, v = hv x ∧ x.length = n := by
  unfold keyOf at h
  simp only [hk] at h
  split at h
  · rename_i hf
    rw [Bool.and_eq_true] at hf
    obtain ⟨_, hf⟩ := hf
    obtain ⟨ls, hls, _⟩ := Option.map_eq_some_iff.1 h
    cases v with
    | agg a =>
      have hls : P.keyLits (P.types.size + 1) k a.toList = some ls := hls
      unfold Program.keyLits at hls
      simp only [hk] at hls
      split at hls
      · rename_i hlen
        rw [hck] at hlen
        obtain ⟨ys, hys, _⟩ := Option.map_eq_some_iff.1 hls
        obtain ⟨x, h1, h2⟩ := bcells_of a.toList fun i hi => by
          obtain ⟨y, hy⟩ := mapM_each hys i (by simp; omega)
          rw [hcu, Nat.mul_one] at hy
          have hd : (a.toList.drop i).take 1 = [a.toList[i]] := by rw [List.drop_eq_getElem_cons hi]; rfl
          rw [hd] at hy
          have hg : a.toList[i]? = some a.toList[i] := List.getElem?_eq_getElem hi
          generalize a.toList[i] = v at hy hg
          cases hs : P.types.size with
          | zero => rw [hs] at hy; simp [Program.keyLits] at hy
          | succ d =>
            rw [hs] at hy
            unfold Program.keyLits at hy
            rw [hu] at hy
            cases v with
            | int q n' =>
              simp only at hy
              split at hy
              · rename_i hw
                obtain ⟨rfl, hw⟩ := hw
                refine ⟨n', ?_, ?_, hg⟩
                all_goals simp [Lit.wf, IntKind.min, IntKind.max, IntKind.signed, IntKind.bits] at hw; omega
              · cases hy
            | _ => cases hy
        exact ⟨x, by unfold hv; rw [← h2], by omega⟩
      · cases hls
    | _ => simp [Value.formed, hk] at hf
  · cases h
theorem es_of {B : Base} : ∀ (l : List MapEntry), (∀ x ∈ l, ∃ (key : List UInt8) (cs : List Value) (y : β), x.key = hv key ∧ x.val = mkV false cs ∧ key.length = n ∧ R.rd B cs y) →
    ∃ es : List (List UInt8 × (List Value × β)), l.map (fun e => (e.key, e.val)) = ment hv false es ∧ ∀ p ∈ es, p.1.length = n ∧ R.rd B p.2.1 p.2.2
  | [], _ => ⟨[], rfl, fun p hp => by cases hp⟩
  | x :: l, h => by
    obtain ⟨es, h1, h2⟩ := es_of l fun y hy => h y (List.mem_cons_of_mem _ hy)
    obtain ⟨key, cs, y, e1, e2, e3, e4⟩ := h x (by simp)
    refine ⟨(key, cs, y) :: es, ?_, fun p hp => ?_⟩
    · rw [List.map_cons, h1, e1, e2]; rfl
    · rcases List.mem_cons.1 hp with rfl | hp
      · exact ⟨e3, e4⟩
      · exact h2 p hp
theorem opn_fmH (ht : P.underlying t = some (.map k e)) (hk : P.underlying k = some (.array n u)) (hu : P.underlying u = some (.int .u8)) (hcu : P.cellsOf u = 1) (hck : P.cellsOf k = n) (he : P.underlying e = some (.slice e2))
    (hO : Opn enc P w base spare held R e) {fuel : Nat} {cs : List Value} {x : DataW H × List MemPlace} (h : DataW.trod enc P w base spare held fuel t cs = some x) :
    ∃ (q : Option Nat) (m : List UInt8 → Option β) (kv : List (List UInt8 × β)), cs = [.map q] ∧ (∀ (w' : World) (S : Nat → Prop), (HP.fm q hv false R (fun l => l.length = n) m).pr (baseOf w) w' S) ∧ Enum m kv := by
  rcases WideElems.open_map ht h with ⟨rfl, _⟩ | ⟨b, es, clock, nn, rfl, rfl, hb, hbase, F, _⟩
  · exact ⟨none, fnil, [], rfl, fun _ _ => ⟨[], ⟨List.nodup_nil, fun p hp => (by cases hp), fun p hp => (by cases hp), fun _ => rfl⟩, rfl⟩, List.nodup_nil, fun _ => rfl⟩
  · obtain ⟨s1, s2, s3⟩ := (MapKept.stamped_iff es clock).1 F.stamped
    obtain ⟨es', h1, h2⟩ := es_of (R := R) (B := baseOf w) (n := n) es.toList fun y hy => by
      obtain ⟨z, hz⟩ := F.reads y hy
      obtain ⟨key, e1, e2⟩ := key_bytes hk hu hcu hck (WideElems.rd_key hz)
      obtain ⟨z2, hz2, _⟩ := WideElems.rd_val hz
      unfold WideElems.elemAt at hz2
      split at hz2
      · rename_i hf
        obtain ⟨v, hv2⟩ := hO _ _ _ hz2
        refine ⟨key, y.val.cells.toList, v, e1, ?_, e2, hv2⟩
        cases hval : y.val <;> rw [hval] at hf <;> first | rfl | (simp [Value.formed, he] at hf)
      · cases hz2
    have hkeys : es.toList.map (·.key) = es'.map (fun p => hv p.1) := by
      have := congrArg (List.map (·.1)) h1
      simpa [ment, mkv, List.map_map, Function.comp_def] using this
    have hnd : (es'.map (·.1)).Nodup := by
      have h3 : (es.toList.map (·.key)).Pairwise (· ≠ ·) := List.pairwise_map.2 s3
      rw [hkeys, List.pairwise_map] at h3
      exact List.pairwise_map.2 (h3.imp fun {a c} hne e => hne (by rw [e]))
    refine ⟨some b, fun k => (aget k es').map (·.2), prs es', rfl, fun _ _ => ⟨es', ⟨hnd, fun p hp => (h2 p hp).1, fun p hp => (h2 p hp).2, fun _ => rfl⟩, es, clock, hb, h1, s2, s1⟩, ?_, fun j => (aget_mapG (·.2) j es').symm⟩
    unfold prs
    rw [List.map_map]
    exact hnd
end
end Go.Tri
