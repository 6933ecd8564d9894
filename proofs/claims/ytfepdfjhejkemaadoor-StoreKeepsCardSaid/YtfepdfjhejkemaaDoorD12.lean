/- Data: maps as functions; their values read as anything. -/
import Derived.Test.YtfepdfjhejkemaaDoorF
import Derived.MapKept
set_option linter.unusedSimpArgs false
set_option linter.unusedVariables false
namespace Go.Tri
open Go.RowKit
/-! ### Lists of pairs as functions -/
section
variable {κ β : Type} [DecidableEq κ]
theorem aget_aset {β : Type} (j k : κ) (v : β) : ∀ l : List (κ × β), aget j (aset k v l) = if j = k then some v else aget j l
  | [] => by
    simp only [aset, aget]
    by_cases h : j = k
    · subst h; simp
    · simp [h, Ne.symm h]
  | (k', u) :: l => by
    simp only [aset]
    by_cases hk : k' = k
    · subst hk
      simp only [if_true, aget]
      by_cases h : j = k'
      · subst h; simp
      · simp [h, Ne.symm h]
    · simp only [if_neg hk, aget]
      rw [aget_aset j k v l]
      by_cases h : k' = j
      · subst h; simp [hk]
      · simp [h]
theorem aset_keys {β : Type} (k : κ) (v : β) : ∀ l : List (κ × β), (aset k v l).map (·.1) = if k ∈ l.map (·.1) then l.map (·.1) else l.map (·.1) ++ [k]
  | [] => by simp [aset]
  | (k', u) :: l => by
    simp only [aset]
    by_cases hk : k' = k
    · subst hk; simp
    · simp only [if_neg hk, List.map_cons, aset_keys k v l]
      have : ¬ k = k' := fun e => hk e.symm
      by_cases hm : k ∈ l.map (·.1)
      · simp only [hm, if_true]; simp [hm]
      · simp only [hm, if_false]; simp [hm, this]
theorem aget_none {β : Type} {k : κ} : ∀ {l : List (κ × β)}, k ∉ l.map (·.1) → aget k l = none
  | [], _ => rfl
  | (k', u) :: l, h => by
    simp only [List.map_cons, List.mem_cons, not_or] at h
    simp only [aget, if_neg (fun e : k' = k => h.1 e.symm)]
    exact aget_none h.2
theorem aget_mem' {β : Type} {k : κ} {v : β} : ∀ {l : List (κ × β)}, aget k l = some v → (k, v) ∈ l
  | [], h => by simp [aget] at h
  | (k', u) :: l, h => by
    simp only [aget] at h
    split at h
    · rename_i e; subst e; cases h; simp
    · exact List.mem_cons_of_mem _ (aget_mem' h)
theorem aget_of_mem {β : Type} {k : κ} {v : β} : ∀ {l : List (κ × β)}, (l.map (·.1)).Nodup → (k, v) ∈ l → aget k l = some v
  | [], _, h => by simp at h
  | (k', u) :: l, hn, h => by
    simp only [List.map_cons, List.nodup_cons] at hn
    rcases List.mem_cons.1 h with h | h
    · cases h; simp [aget]
    · simp only [aget]
      rw [if_neg, aget_of_mem hn.2 h]
      intro e; subst e
      exact hn.1 (List.mem_map.2 ⟨_, h, rfl⟩)
theorem aget_adel {β : Type} (j k : κ) : ∀ l : List (κ × β), (l.map (·.1)).Nodup → aget j (adel k l) = if j = k then none else aget j l
  | [], _ => by simp [adel, aget]
  | (k', u) :: l, hn => by
    simp only [List.map_cons, List.nodup_cons] at hn
    simp only [adel]
    by_cases hk : k' = k
    · subst hk
      simp only [if_true, aget]
      by_cases h : j = k'
      · subst h; simp [aget_none hn.1]
      · simp [h, Ne.symm h]
    · simp only [if_neg hk, aget]
      rw [aget_adel j k l hn.2]
      by_cases h : k' = j
      · subst h; simp [hk]
      · simp [h]
theorem adel_keys {β : Type} (k : κ) : ∀ l : List (κ × β), (adel k l).map (·.1) = (l.map (·.1)).erase k
  | [] => by simp [adel]
  | (k', u) :: l => by
    simp only [adel]
    by_cases hk : k' = k
    · subst hk; simp
    · simp [hk, adel_keys k l, List.erase_cons]
/-- A map with a key more, and with one less. -/
def fset (k : κ) (x : β) (m : κ → Option β) : κ → Option β := fun j => if j = k then some x else m j
def fdel (k : κ) (m : κ → Option β) : κ → Option β := fun j => if j = k then none else m j
def fnil : κ → Option β := fun _ => none
/-- The pairs of a map, in some order. -/
def Enum (m : κ → Option β) (kv : List (κ × β)) : Prop := (kv.map (·.1)).Nodup ∧ ∀ k, m k = aget k kv
theorem Enum.perm {m : κ → Option β} {l l' : List (κ × β)} (h : Enum m l) (h' : Enum m l') : l.Perm l' := by
  have nd : ∀ {l : List (κ × β)}, (l.map (·.1)).Nodup → l.Nodup := fun {l} h => (List.pairwise_map.1 h).imp fun hne e => hne (by rw [e])
  refine (List.perm_ext_iff_of_nodup (nd h.1) (nd h'.1)).2 fun p => ?_
  obtain ⟨k, v⟩ := p
  constructor
  · intro hm
    exact aget_mem' (by rw [← h'.2, h.2]; exact aget_of_mem h.1 hm)
  · intro hm
    exact aget_mem' (by rw [← h.2, h'.2]; exact aget_of_mem h'.1 hm)
open Classical in
/-- How many keys a map has. -/
noncomputable def flen (m : κ → Option β) : Nat := if h : ∃ kv, Enum m kv then (Classical.choose h).length else 0
open Classical in
end
/-! ### The piece -/
def mkV (agg : Bool) (cs : List Value) : Value := match agg with | true => .agg cs.toArray | false => cs.headD undef
section
variable {κ β : Type} [DecidableEq κ]
def ment (ek : κ → Value) (agg : Bool) (es : List (κ × (List Value × β))) : List (Value × Value) := mkv ek (es.map fun p => (p.1, mkV agg p.2.1))
structure EsOk (R : Rp β) (ok : κ → Prop) (B : Base) (es : List (κ × (List Value × β))) (m : κ → Option β) : Prop where
  nodup : (es.map (·.1)).Nodup
  ok : ∀ p ∈ es, ok p.1
  rd : ∀ p ∈ es, R.rd B p.2.1 p.2.2
  get : ∀ k, m k = (aget k es).map (·.2)
theorem EsOk.mono {R : Rp β} {ok : κ → Prop} {B B' : Base} {es : List (κ × (List Value × β))} {m : κ → Option β} (h : EsOk R ok B es m) (hl : B.le B') : EsOk R ok B' es m := ⟨h.nodup, h.ok, fun p hp => R.mono (h.rd p hp) hl, h.get⟩
/-- A map with these entries. -/
def HP.mx (p : Option Nat) (ek : κ → Value) (agg : Bool) (R : Rp β) (ok : κ → Prop) (es : List (κ × (List Value × β))) (m : κ → Option β) : HP :=
  ⟨fun B w S => EsOk R ok B es m ∧ match p with | none => es = [] | some b => MapW w b (ment ek agg es) ∧ S b, fun {B w w' S} h hS => by
    refine ⟨h.1, ?_⟩
    cases p with
    | none => exact h.2
    | some b =>
      obtain ⟨_, ⟨es, c, h1, h2⟩, h3⟩ := h
      exact ⟨⟨es, c, by rw [hS _ h3]; exact h1, h2⟩, h3⟩, fun h hl => ⟨h.1.mono hl, h.2⟩⟩
def HP.mm (p : Option Nat) (ek : κ → Value) (agg : Bool) (R : Rp β) (ok : κ → Prop) (m : κ → Option β) : HP :=
  ⟨fun B w S => ∃ es, (HP.mx p ek agg R ok es m).pr B w S, fun ⟨es, h⟩ hS => ⟨es, HP.loc _ h hS⟩, fun ⟨es, h⟩ hl => ⟨es, HP.mono _ h hl⟩⟩
variable {R : Rp β} {P : Program} {T K E : TypeId} {ek : κ → Value} {ok : κ → Prop} {agg : Bool} {w0 w : World} {b : Nat} {p : Option Nat} {m : κ → Option β} {es : List (κ × (List Value × β))} {ls : List HP}
theorem St.mmOpen (H : St w0 w ls) (i : Nat) (hi : ls[i]? = some (HP.mm p ek agg R ok m)) : ∃ es, St w0 w (ls.set i (HP.mx p ek agg R ok es m)) := by
  obtain ⟨B, H⟩ := H.out
  obtain ⟨hv, hs, f, h1, h2, h3⟩ := H
  obtain ⟨es, h4⟩ := h1 i _ hi
  have hil : i < ls.length := (List.getElem?_eq_some_iff.1 hi).1
  refine ⟨es, hv, B, f, hs, fun j E hj => ?_, by simpa using h2, by simpa using h3⟩
  rw [List.getElem?_set] at hj
  by_cases ee : i = j
  · subst ee; rw [if_pos rfl, if_pos hil] at hj; cases hj; exact h4
  · rw [if_neg ee] at hj; exact h1 j E hj
theorem St.mxShut (H : St w0 w ls) (i : Nat) (hi : ls[i]? = some (HP.mx p ek agg R ok es m)) : St w0 w (ls.set i (HP.mm p ek agg R ok m)) :=
  H.convAt i hi fun S h => ⟨es, h⟩
theorem St.mxOk (H : St w0 w ls) (i : Nat) (hi : ls[i]? = some (HP.mx p ek agg R ok es m)) : ∃ B, Sub B w ∧ EsOk R ok B es m ∧ match p with | none => es = [] | some b => MapW w b (ment ek agg es) := by
  obtain ⟨B, S, hs, h, _⟩ := H.get i hi
  refine ⟨B, hs, h.1, ?_⟩
  have h2 := h.2
  cases p with
  | none => exact h2
  | some b => exact h2.1
/-- What stands at a key, as cells. -/
def esGet (es : List (κ × (List Value × β))) (k : κ) (zc : List Value) : List Value := ((aget k es).map (·.1)).getD zc
theorem St.mxGet (H : St w0 w ls) (i : Nat) (hi : ls[i]? = some (HP.mx p ek agg R ok es m)) (k : κ) {zc : List Value} {z0 : β} (hz : ∀ B, R.rd B zc z0) : ∃ cs, esGet es k zc = cs ∧ St w0 w (HP.rc R cs ((m k).getD z0) :: ls) := by
  obtain ⟨B, H⟩ := H.out
  obtain ⟨S, h⟩ := H.at hi
  refine ⟨_, rfl, (H.more (A := HP.rc R (esGet es k zc) ((m k).getD z0)) ?_).st⟩
  show R.rd B _ _
  rw [h.1.get k]
  unfold esGet
  cases e : aget k es with
  | none => exact hz B
  | some q => exact h.1.rd _ (aget_mem' e)
variable {ops : Array Oper} {rest : List Oper} {o : Oper} {a : Act} {W : List Oper → Act → World → Prop} {N : Fs} {sl : List (Nat × Value)} {d : Nat} {x y z : Operand}
theorem s_mmNew (ek : κ → Value) (agg : Bool) (R : Rp β) (ok : κ → Prop) (k : Walk P ops W) (F : Fr N a sl) (hg : o.guard = none) (hd : o.dst = some d) (hN : Nat.blt d N.n = true) (ho : o.op = .makeMap T none) (H : St w0 w ls)
    (hk : ∀ b w' a', St w0 w' (HP.mm (some b) ek agg R ok fnil :: ls) → Fr N a' ((d, .map (some b)) :: sl) → W rest a' w') : W (o :: rest) a w :=
  s_makeMap k F hg hd hN ho H fun b w' a' H' F' => hk b w' a' (H'.conv fun S h => ⟨[], ⟨List.nodup_nil, by simp, by simp, fun k => rfl⟩, h⟩) F'
omit [DecidableEq κ] in
theorem es_ok (h : ∀ q ∈ es, ok q.1) : ∀ q ∈ es.map (fun p => (p.1, mkV agg p.2.1)), ok q.1 := fun q hq => by
  obtain ⟨r, hr, rfl⟩ := List.mem_map.1 hq; exact h r hr
theorem s_mmSet (kw : Walk P ops W) (F : Fr N a sl) (hg : o.guard = none) (hd : o.dst = none) (hT : P.underlying T = some (.map K E)) (hK : KeyT P K ek ok) (ho : o.op = .mapUpdate T x y z) (H : St w0 w ls) (i : Nat) (hi : ls[i]? = some (HP.mm (some b) ek agg R ok m))
    (hx : ev sl x = some (.map (some b))) {k : κ} (hy : ev sl y = some (ek k)) {cs : List Value} (hz : ev sl z = some (mkV agg cs)) (hkk : ok k) {v : β} (hrd : ∀ {B : Base}, (∀ (j : Nat) (C : HP), ls[j]? = some C → ∃ S, C.pr B w S) → R.rd B cs v)
    (hk : ∀ w', St w0 w' (ls.set i (HP.mm (some b) ek agg R ok (fset k v m))) → W rest a w') : W (o :: rest) a w := by
  obtain ⟨es, H⟩ := H.mmOpen i hi
  have hil : i < ls.length := (List.getElem?_eq_some_iff.1 hi).1
  have hi' : (ls.set i (HP.mx (some b) ek agg R ok es m))[i]? = some (HP.mx (some b) ek agg R ok es m) := by simp [List.getElem?_set, hil]
  obtain ⟨_, _, hes, hm⟩ := H.mxOk i hi'
  obtain ⟨w', hr, hm', hc⟩ := run_mapUpdateW hT hK hm (es_ok hes.ok) k hkk (mkV agg cs)
  have hrun : (execOp a.eval o).run P w = .ok .skip w' := by
    unfold execOp
    simp only [ho, F.eval hx, F.eval hy, F.eval hz, Sem.run_bind, hr, Result.andThen_ok, Sem.run_pure]
  refine s_none kw F hg hd (by rw [ho]; rfl) hrun ?_
  obtain ⟨B, HB⟩ := H.out
  have hcs : R.rd B cs v := hrd (B := B) fun j C hj => by
    by_cases e : i = j
    · subst e
      rw [hi] at hj; cases hj
      obtain ⟨S, h⟩ := HB.at hi'
      exact ⟨S, es, h⟩
    · exact HB.at (by rw [List.getElem?_set, if_neg e]; exact hj)
  have H2 := (HB.chg (A' := HP.mm (some b) ek agg R ok (fset k v m)) i hi' (g := b) (fun S hA => hA.2.2) hc (fun S hA => ⟨aset k (cs, v) es, ⟨?_, ?_, ?_, ?_⟩, ?_, hA.2.2⟩)).st
  · rw [List.set_set] at H2; exact hk w' H2
  · rw [aset_keys]
    split
    · exact hA.1.nodup
    · rename_i hn
      exact List.nodup_append.2 ⟨hA.1.nodup, by simp, fun x hx y hy e => by simp at hy; subst hy; subst e; exact hn hx⟩
  · intro q hq
    have : q.1 ∈ (aset k (cs, v) es).map (·.1) := List.mem_map.2 ⟨q, hq, rfl⟩
    rw [aset_keys] at this
    have key : ∀ j, j ∈ es.map (·.1) → ok j := fun j hj => by obtain ⟨r, hr, rfl⟩ := List.mem_map.1 hj; exact hA.1.ok r hr
    split at this
    · exact key _ this
    · rcases List.mem_append.1 this with h | h
      · exact key _ h
      · simp at h; rw [h]; exact hkk
  · rintro ⟨q1, q2⟩ hq
    have hnd : ((aset k (cs, v) es).map (·.1)).Nodup := by
      rw [aset_keys]
      split
      · exact hA.1.nodup
      · rename_i hn
        exact List.nodup_append.2 ⟨hA.1.nodup, by simp, fun x hx y hy e => by simp at hy; subst hy; subst e; exact hn hx⟩
    have h1 := aget_of_mem (k := q1) (v := q2) hnd hq
    rw [aget_aset] at h1
    split at h1
    · cases h1; exact hcs
    · exact hA.1.rd _ (aget_mem' h1)
  · intro j
    show fset k v m j = _
    rw [aget_aset]
    unfold fset
    split
    · rfl
    · exact hA.1.get j
  · have : ment ek agg (aset k (cs, v) es) = mkv ek (aset k (mkV agg cs) (es.map fun p => (p.1, mkV agg p.2.1))) := by
      unfold ment; rw [← aset_map (vv := fun q : List Value × β => mkV agg q.1) k (cs, v) es]
    rw [this]; exact hm'
theorem mx_look {p : Option Nat} (hT : P.underlying T = some (.map K E)) (hK : KeyT P K ek ok) {zc : List Value} (hz : ∀ w, (zeroValue E).run P w = .ok (mkV agg zc) w) (H : St w0 w ls) (i : Nat) (hi : ls[i]? = some (HP.mx p ek agg R ok es m)) (k : κ) (hkk : ok k) (c : Bool) :
    (Instr.lookup T (.map p) (ek k) c).run P w = .ok (if c then .tuple #[mkV agg (esGet es k zc), .bool (m k).isSome] else mkV agg (esGet es k zc)) w := by
  obtain ⟨B, _, hes, hm⟩ := H.mxOk i hi
  cases p with
  | some b =>
    rw [run_lookupW hT hK hz hm (es_ok hes.ok) k hkk]
    rw [hes.get k]
    unfold esGet
    have := aget_map (vv := fun q : List Value × β => mkV agg q.1) k es
    rw [this]
    cases aget k es <;> cases c <;> rfl
  | none =>
    have hm : es = [] := hm
    have h1 := hK.check true k w hkk
    have h2 := hK.find k [] [] w hkk (by simp) rfl
    rw [hes.get k]
    unfold Instr.lookup
    rw [Sem.run_bind, run_underlying hT]
    simp only [Result.andThen_ok]
    cases c <;> simp [h1, h2, findI, hz, aget, esGet, hm]
theorem y_mxGet {p : Option Nat} {zc cs : List Value} (F : Fr N a sl) (hT : P.underlying T = some (.map K E)) (hK : KeyT P K ek ok) (hz : ∀ w, (zeroValue E).run P w = .ok (mkV agg zc) w) (ho : o.op = .lookup T x y false) (H : St w0 w ls) (i : Nat) (hi : ls[i]? = some (HP.mx p ek agg R ok es m)) (hx : ev sl x = some (.map p)) {k : κ} (hy : ev sl y = some (ek k)) (hkk : ok k) (hcs : esGet es k zc = cs) :
    (execOp a.eval o).run P w = .ok (.value (mkV agg cs)) w := by
  unfold execOp
  simp only [ho, F.eval hx, F.eval hy, Sem.run_bind, mx_look hT hK hz H i hi k hkk false, Result.andThen_ok, Sem.run_pure, hcs]
  rfl
theorem y_mxGet2 {p : Option Nat} {zc cs : List Value} (F : Fr N a sl) (hT : P.underlying T = some (.map K E)) (hK : KeyT P K ek ok) (hz : ∀ w, (zeroValue E).run P w = .ok (mkV agg zc) w) (ho : o.op = .lookup T x y true) (H : St w0 w ls) (i : Nat) (hi : ls[i]? = some (HP.mx p ek agg R ok es m)) (hx : ev sl x = some (.map p)) {k : κ} (hy : ev sl y = some (ek k)) (hkk : ok k) (hcs : esGet es k zc = cs) :
    (execOp a.eval o).run P w = .ok (.value (.tuple [mkV agg cs, .bool (m k).isSome].toArray)) w := by
  unfold execOp
  simp only [ho, F.eval hx, F.eval hy, Sem.run_bind, mx_look hT hK hz H i hi k hkk true, Result.andThen_ok, Sem.run_pure, hcs]
  rfl
end
/-! ### Strings as keys -/
end Go.Tri
