/- Ranges over maps. -/
import Derived.Test.YtnjemlkcamdbfaaGreatDoorN
set_option linter.unusedSimpArgs false
set_option linter.unusedVariables false
namespace Go.Tri
open Go.RowKit
section
variable {w0 w : World} {l : List HP} {p : Option Addr} {cap : Nat} {e : TypeId}
end
theorem set_self {α : Type} : ∀ {l : List α} {i : Nat} {A : α}, l[i]? = some A → l.set i A = l
  | [], _, _, _ => rfl
  | _ :: _, 0, _, h => by cases h; rfl
  | _ :: l, i + 1, A, h => by
    have : l[i]? = some A := by simpa using h
    simp [set_self this]
/-- A map that is gone through: its entries, as they stand. -/
def HP.mo (p : Option Nat) (raw : Array MapEntry) (c : Nat) : HP :=
  HP.of (fun _ w S => match p with
    | none => raw = #[]
    | some b => w.heap[b]? = some (.map raw c) ∧ S b)
    (fun {B w w' S} h hS => by
      cases p with
      | none => exact h
      | some b => exact ⟨by rw [hS _ h.2]; exact h.1, h.2⟩)
    (fun h _ => h)
def mit (p : Option Nat) (c : Nat) (seen : Array Nat) : Obj := match p with
  | none => .mapIter none 0 #[] 0
  | some b => .mapIter (some b) c seen c
section
variable {κ β : Type} [DecidableEq κ]
def HP.es (R : Rp β) (ok : κ → Prop) (es : List (κ × (List Value × β))) (m : κ → Option β) : HP := HP.pe (fun B => EsOk R ok B es m) (fun h hl => h.mono hl)
structure MRaw (ek : κ → Value) (agg : Bool) (es : List (κ × (List Value × β))) (raw : Array MapEntry) (c : Nat) : Prop where
  ent : raw.toList.map (fun e => (e.key, e.val)) = ment ek agg es
  nd : (raw.toList.map (·.born)).Nodup
  lt : ∀ e ∈ raw.toList, e.born < c
def prs (es : List (κ × (List Value × β))) : List (κ × β) := es.map fun p => (p.1, p.2.2)
/-- The pairs that were met. -/
def pv (es : List (κ × (List Value × β))) (vis : List Nat) : List (κ × β) := vis.filterMap fun i => (prs es)[i]?
def bornsOf (raw : Array MapEntry) (vis : List Nat) : Array Nat := (vis.map fun i => (raw[i]?.map (·.born)).getD 0).toArray
def VisOk (n : Nat) (vis : List Nat) : Prop := vis.Nodup ∧ ∀ i ∈ vis, i < n
theorem VisOk.nil (n : Nat) : VisOk n [] := ⟨by simp, by simp⟩
theorem VisOk.snoc {n : Nat} {vis : List Nat} (h : VisOk n vis) {q : Nat} (hq : q < n) (hn : q ∉ vis) : VisOk n (vis ++ [q]) := by
  refine ⟨?_, fun i hi => ?_⟩
  · rw [List.nodup_append]; exact ⟨h.1, by simp, fun x hx y hy => by simp at hy; subst hy; exact fun e => hn (e ▸ hx)⟩
  · rcases List.mem_append.1 hi with hi | hi
    · exact h.2 i hi
    · simp at hi; omega
omit [DecidableEq κ] in
theorem MRaw.len {ek : κ → Value} {agg : Bool} {es : List (κ × (List Value × β))} {raw : Array MapEntry} {c : Nat} (h : MRaw ek agg es raw c) : raw.size = es.length := by
  have := congrArg List.length h.ent; simpa [ment, mkv] using this
omit [DecidableEq κ] in
theorem MRaw.at {ek : κ → Value} {agg : Bool} {es : List (κ × (List Value × β))} {raw : Array MapEntry} {c : Nat} (h : MRaw ek agg es raw c) {q : Nat} {k : κ} {cs : List Value} {v : β} (hq : es[q]? = some (k, cs, v)) : ∃ e, raw[q]? = some e ∧ e.key = ek k ∧ e.val = mkV agg cs := by
  have hl := h.len
  have hlt := (List.getElem?_eq_some_iff.1 hq).1
  obtain ⟨e, he⟩ : ∃ e, raw[q]? = some e := ⟨raw[q]'(by omega), Array.getElem?_eq_getElem (by omega)⟩
  have h1 := congrArg (fun l => l[q]?) h.ent
  have he' : raw.toList[q]? = some e := by simpa using he
  simp only [List.getElem?_map, he', ment, mkv, hq, Option.map_some, Option.some.injEq, Prod.mk.injEq] at h1
  exact ⟨e, he, h1.1, h1.2⟩
theorem bornsOf_push (raw : Array MapEntry) (vis : List Nat) {q : Nat} {e : MapEntry} (he : raw[q]? = some e) : (bornsOf raw vis).push e.born = bornsOf raw (vis ++ [q]) := by
  simp [bornsOf, he]
omit [DecidableEq κ] in
theorem bornsOf_has {ek : κ → Value} {agg : Bool} {es : List (κ × (List Value × β))} {raw : Array MapEntry} {c : Nat} (h : MRaw ek agg es raw c) {vis : List Nat} (hv : VisOk es.length vis) {q : Nat} {e : MapEntry} (he : raw[q]? = some e) : (bornsOf raw vis).contains e.born = true ↔ q ∈ vis := by
  have hl := h.len
  simp only [bornsOf, List.contains_toArray, List.contains_eq_mem, decide_eq_true_eq, List.mem_map]
  constructor
  · rintro ⟨i, hi, hb⟩
    have hil := hv.2 i hi
    have e2 : raw[i]? = some (raw[i]'(by omega)) := Array.getElem?_eq_getElem (by omega)
    rw [e2] at hb
    simp only [Option.map_some, Option.getD_some] at hb
    have hq := (Array.getElem?_eq_some_iff.1 he)
    obtain ⟨hql, hqe⟩ := hq
    have : i = q := by
      rcases Nat.lt_trichotomy i q with hlt | hlt | hlt
      · exfalso
        have := List.pairwise_iff_getElem.1 h.nd i q (by simp; omega) (by simp; omega) hlt
        apply this; simp [hb, ← hqe]
      · exact hlt
      · exfalso
        have := List.pairwise_iff_getElem.1 h.nd q i (by simp; omega) (by simp; omega) hlt
        apply this; simp [hb, ← hqe]
    exact this ▸ hi
  · intro hq; exact ⟨q, hq, by rw [he]; rfl⟩
end
section
variable {κ β : Type} [DecidableEq κ] {R : Rp β} {ek : κ → Value} {agg : Bool} {ok : κ → Prop} {P : Program} {w0 w : World} {ls : List HP} {m : κ → Option β} {p : Option Nat} {es : List (κ × (List Value × β))} {raw : Array MapEntry} {c : Nat} {ops : Array Oper} {rest : List Oper} {o : Oper} {a : Act} {W : List Oper → Act → World → Prop} {N : Fs} {sl : List (Nat × Value)} {d : Nat} {x : Operand} {T K E : TypeId} {vis : List Nat}
theorem St.moOpen (H : St w0 w ls) (i : Nat) (hi : ls[i]? = some (HP.mm p ek agg R ok m)) : ∃ raw c es, MRaw ek agg es raw c ∧ Enum m (prs es) ∧ St w0 w (HP.es R ok es m :: ls.set i (HP.mo p raw c)) := by
  obtain ⟨es, H⟩ := H.mmOpen i hi
  have hil : i < ls.length := (List.getElem?_eq_some_iff.1 hi).1
  have hi' : (ls.set i (HP.mx p ek agg R ok es m))[i]? = some (HP.mx p ek agg R ok es m) := by simp [hil]
  have key : ∃ raw c, MRaw ek agg es raw c ∧ St w0 w ((ls.set i (HP.mx p ek agg R ok es m)).set i (HP.mo p raw c)) := by
    cases p with
    | none =>
      obtain ⟨B, _, h1, h2⟩ := H.mxOk i hi'
      simp only at h2
      subst h2
      exact ⟨#[], 0, ⟨rfl, by simp, by simp⟩, H.convAt i hi' fun S _ => rfl⟩
    | some b =>
      obtain ⟨B, _, h1, raw, c, h3, h4, h5, h6⟩ := H.mxOk i hi'
      refine ⟨raw, c, ⟨h4, h5, h6⟩, H.convAt i hi' fun S h => ⟨h3, h.2.2⟩⟩
  obtain ⟨raw, c, hM, H2⟩ := key
  obtain ⟨B, S, hs, h1, _⟩ := H.get i hi'
  refine ⟨raw, c, es, hM, h1.1.enum, ?_⟩
  rw [List.set_set] at H2
  have H3 : St w0 w (HP.es R ok es m :: ls.set i (HP.mx p ek agg R ok es m)) := H.more fun B hB hp => by
    obtain ⟨S, hS⟩ := hp i _ hi'
    exact hS.1
  have := H3.upd (w' := w) (i + 1) (A := HP.mx p ek agg R ok es m) (A' := HP.mo p raw c) (by simpa using hi') (fun {B} S hA hb => ⟨S, by
    cases p with
    | none =>
      obtain ⟨h1, h2⟩ := hA
      simp only at h2
      subst h2
      have := hM.len
      exact Array.eq_empty_of_size_eq_zero (by simpa using this)
    | some b =>
      obtain ⟨h1, h2, h3⟩ := hA
      refine ⟨?_, h3⟩
      have := H2.get i (A := HP.mo (some b) raw c) (by simp [hil])
      obtain ⟨_, _, _, h7, _⟩ := this
      exact h7.1, fun b h => .inl h, fun b h => (hb b h).1, fun _ _ _ => rfl⟩) rfl rfl rfl (Nat.le_refl _)
  simpa using this
theorem St.moMx (H : St w0 w ls) (i j : Nat) (hM : MRaw ek agg es raw c) (hi : ls[i]? = some (HP.mo p raw c)) (hj : ls[j]? = some (HP.es R ok es m)) : St w0 w (ls.set i (HP.mx p ek agg R ok es m)) := by
  obtain ⟨hv, B, f, hs, h1, h2, h3⟩ := H
  have hil : i < ls.length := (List.getElem?_eq_some_iff.1 hi).1
  refine ⟨hv, B, f, hs, fun q A hA => ?_, by simpa using h2, by simpa using h3⟩
  rw [List.getElem?_set] at hA
  split at hA
  · rename_i e
    subst e
    cases hA
    refine ⟨h1 j _ hj, ?_⟩
    have := h1 i _ hi
    cases p with
    | none =>
      simp only at this ⊢
      have hl := hM.len
      have h0 : raw = #[] := this
      rw [h0] at hl
      exact List.eq_nil_of_length_eq_zero (by simpa using hl.symm)
    | some b => exact ⟨⟨raw, c, this.1, hM.ent, hM.nd, hM.lt⟩, this.2⟩
  · exact h1 q A hA
theorem St.moMm (H : St w0 w ls) (i j : Nat) (hM : MRaw ek agg es raw c) (hi : ls[i]? = some (HP.mo p raw c)) (hj : ls[j]? = some (HP.es R ok es m)) : St w0 w (ls.set i (HP.mm p ek agg R ok m)) := by
  have hil : i < ls.length := (List.getElem?_eq_some_iff.1 hi).1
  have h1 := H.moMx i j hM hi hj
  have h2 : (ls.set i (HP.mx p ek agg R ok es m))[i]? = some (HP.mx p ek agg R ok es m) := by simp [hil]
  have := h1.mxShut i h2
  rwa [List.set_set] at this
theorem St.esEl (H : St w0 w ls) (i : Nat) (hi : ls[i]? = some (HP.es R ok es m)) {q : Nat} {k : κ} {cs : List Value} {v : β} (hq : es[q]? = some (k, cs, v)) : ok k ∧ St w0 w (HP.rc R cs v :: ls) := by
  obtain ⟨B, S, hs, h, _⟩ := H.get i hi
  have hm := List.mem_of_getElem? hq
  refine ⟨h.ok _ hm, H.more fun B hB hp => ?_⟩
  obtain ⟨S, hS⟩ := hp i _ hi
  exact hS.rd _ hm
/-- 'range' over a map. -/
theorem s_rngM (kw : Walk P ops W) (F : Fr N a sl) (hg : o.guard = none) (hd : o.dst = some d) (hN : Nat.blt d N.n = true) (hT : P.underlying T = some (.map K E)) (ho : o.op = .range T x) (H : St w0 w ls) (i : Nat) (hi : ls[i]? = some (HP.mo p raw c)) (hx : ev sl x = some (.map p))
    (hk : ∀ r w' a', St w0 w' (HP.obj r (mit p c (bornsOf raw [])) :: ls) → Fr N a' ((d, .pointer (some ⟨r, 0, none⟩)) :: sl) → W rest a' w') : W (o :: rest) a w := by
  cases p with
  | none =>
    refine s_val kw F hg hd hN (by rw [ho]; rfl) (v := .pointer (some ⟨w.heap.size, 0, none⟩)) (w' := w.alloc (.mapIter none 0 #[] 0)) ?_ fun a' F' => hk _ _ a' (H.newObj _) F'
    unfold execOp
    simp [ho, F.eval hx, Instr.range, Go.run_underlying hT, newObj, Sem.run]
  | some b =>
    refine s_val kw F hg hd hN (by rw [ho]; rfl) (v := .pointer (some ⟨w.heap.size, 0, none⟩)) (w' := w.alloc (.mapIter (some b) c #[] c)) ?_ fun a' F' => hk _ _ a' (H.newObj _) F'
    have hh : w.heap[b]? = some (.map raw c) := by obtain ⟨_, _, _, h, _⟩ := H.get i hi; exact h.1
    unfold execOp
    have hg := run_getObj (P := P) w b raw c hh
    simp [ho, F.eval hx, Instr.range, Go.run_underlying hT, hg, newObj, Sem.run]
theorem St.moObj {b : Nat} (H : St w0 w ls) (i : Nat) (hi : ls[i]? = some (HP.mo (some b) raw c)) : St w0 w (ls.set i (HP.obj b (.map raw c))) := H.convAt i hi fun S h => h
theorem St.objMo {b : Nat} (H : St w0 w ls) (i : Nat) (hi : ls[i]? = some (HP.obj b (.map raw c))) : St w0 w (ls.set i (HP.mo (some b) raw c)) := H.convAt i hi fun S h => h
omit [DecidableEq κ] in
/-- 'next': none is left, or another one. -/
theorem s_nxtM (kw : Walk P ops W) (F : Fr N a sl) (hg : o.guard = none) (hd : o.dst = some d) (hN : Nat.blt d N.n = true) (ho : o.op = .next x false) {r : Nat} (hx : ev sl x = some (.pointer (some ⟨r, 0, none⟩))) (hM : MRaw ek agg es raw c) (hv : VisOk es.length vis) (H : St w0 w ls) (i j : Nat) (hi : ls[i]? = some (HP.mo p raw c)) (hj : ls[j]? = some (HP.obj r (mit p c (bornsOf raw vis)))) (hij : Nat.beq i j = false)
    (h0 : (∀ q, q < es.length → q ∈ vis) → ∀ w' a', St w0 w' ls → Fr N a' ((d, .tuple [.bool false].toArray) :: sl) → W rest a' w')
    (h1 : ∀ q k cs v, es[q]? = some (k, cs, v) → q ∉ vis → ∀ w' a', St w0 w' (ls.set j (HP.obj r (mit p c (bornsOf raw (vis ++ [q]))))) → Fr N a' ((d, .tuple [.bool true, ek k, mkV agg cs].toArray) :: sl) → W rest a' w') : W (o :: rest) a w := by
  have hl := hM.len
  have hne : i ≠ j := Nat.ne_of_beq_eq_false hij
  have hil : i < ls.length := (List.getElem?_eq_some_iff.1 hi).1
  cases p with
  | none =>
    have h00 : raw = #[] := by obtain ⟨_, _, _, h, _⟩ := H.get i hi; exact h
    have hz : es.length = 0 := by rw [← hl, h00]; rfl
    refine s_val kw F hg hd hN (by rw [ho]; rfl) (v := .tuple [.bool false].toArray) (w' := w) ?_ fun a' F' => h0 (fun q hq => by omega) _ a' H F'
    have hr := H.objAt j hj
    have g1 : (getObj r).run P w = .ok (.mapIter none 0 #[] 0) w := by unfold getObj Sem.run; rw [hr]; rfl
    unfold execOp
    simp only [ho, F.eval hx]
    unfold Instr.next
    simp only
    rw [Sem.run_bind, Sem.run_bind, g1]
    rfl
  | some b =>
    have H2 := H.moObj i hi
    have hi2 : (ls.set i (HP.obj b (.map raw c)))[i]? = some (HP.obj b (.map raw c)) := by simp [hil]
    have hj2 : (ls.set i (HP.obj b (.map raw c)))[j]? = some (HP.obj r (.mapIter (some b) c (bornsOf raw vis) c)) := by rw [List.getElem?_set_ne hne]; exact hj
    refine s_next kw F hg hd hN ho hx H2 i j hi2 hj2 hM.lt (fun hall w' a' H' F' => ?_) (fun e he hnot w' a' H' F' => ?_)
    · have H3 := H'.objMo i hi2
      have e3 : (ls.set i (HP.obj b (.map raw c))).set i (HP.mo (some b) raw c) = ls := by
        rw [List.set_set]; exact set_self hi
      rw [e3] at H3
      refine h0 (fun q hq => ?_) w' a' H3 F'
      have e2 : raw[q]? = some (raw[q]'(by omega)) := Array.getElem?_eq_getElem (by omega)
      exact (bornsOf_has hM hv e2).1 (hall _ (by simp))
    · obtain ⟨q, hq, rfl⟩ := List.getElem_of_mem he
      have hql : q < es.length := by rw [← hl]; simpa using hq
      obtain ⟨k, cs, v, hes⟩ : ∃ k cs v, es[q]? = some (k, cs, v) := ⟨_, _, _, List.getElem?_eq_getElem hql⟩
      obtain ⟨e', he', hk', hv'⟩ := hM.at hes
      have hee : raw.toList[q] = e' := by
        have : raw[q]? = some raw.toList[q] := by simp [Array.getElem?_eq_getElem (show q < raw.size by omega)]
        rw [this] at he'; exact Option.some.inj he'
      rw [hee] at hnot H' F'
      have hnv : q ∉ vis := fun hin => by rw [(bornsOf_has hM hv he').2 hin] at hnot; cases hnot
      rw [hk', hv'] at F'
      rw [bornsOf_push raw vis he'] at H'
      have H3 := H'.objMo i (by rw [List.getElem?_set_ne (Ne.symm hne)]; exact hi2)
      have e3 : ((ls.set i (HP.obj b (.map raw c))).set j (HP.obj r (.mapIter (some b) c (bornsOf raw (vis ++ [q])) c))).set i (HP.mo (some b) raw c) = ls.set j (HP.obj r (mit (some b) c (bornsOf raw (vis ++ [q])))) := by
        have e4 := List.set_comm (l := ls) (HP.obj b (.map raw c)) (HP.obj r (.mapIter (some b) c (bornsOf raw (vis ++ [q])) c)) hne
        rw [e4, List.set_set]
        exact set_self (by rw [List.getElem?_set_ne (Ne.symm hne)]; exact hi)
      rw [e3] at H3
      exact h1 q k cs v hes hnv w' a' H3 F'
omit [DecidableEq κ] in
theorem y_entM (F : Fr N a sl) (ho : o.op = .entry x) {r : Nat} (hx : ev sl x = some (.pointer (some ⟨r, 0, none⟩))) (hM : MRaw ek agg es raw c) {q : Nat} {k : κ} {cs : List Value} {v : β} (hq : es[q]? = some (k, cs, v)) (H : St w0 w ls) (i j : Nat) (hi : ls[i]? = some (HP.mo p raw c)) (hj : ls[j]? = some (HP.obj r (mit p c (bornsOf raw (vis ++ [q]))))) (hij : Nat.beq i j = false) :
    (execOp a.eval o).run P w = .ok (.value (.tuple [ek k, mkV agg cs].toArray)) w := by
  have hne : i ≠ j := Nat.ne_of_beq_eq_false hij
  have hil : i < ls.length := (List.getElem?_eq_some_iff.1 hi).1
  obtain ⟨e, he, hk', hv'⟩ := hM.at hq
  have hem : e ∈ raw.toList := by simpa using Array.mem_of_getElem? he
  cases p with
  | none =>
    have h00 : raw = #[] := by obtain ⟨_, _, _, h, _⟩ := H.get i hi; exact h
    rw [h00] at hem; simp at hem
  | some b =>
    have H2 := H.moObj i hi
    have hi2 : (ls.set i (HP.obj b (.map raw c)))[i]? = some (HP.obj b (.map raw c)) := by simp [hil]
    have hj2 : (ls.set i (HP.obj b (.map raw c)))[j]? = some (HP.obj r (.mapIter (some b) c ((bornsOf raw vis).push e.born) c)) := by rw [List.getElem?_set_ne hne, bornsOf_push raw vis he]; exact hj
    have := y_entry (P := P) F ho hx H2 i j hi2 hj2 hem hM.nd
    rwa [hk', hv'] at this
end
theorem visAll {n : Nat} {vis : List Nat} (h : VisOk n vis) (hall : ∀ q, q < n → q ∈ vis) : vis.Perm (List.range n) := by
  refine (List.perm_ext_iff_of_nodup h.1 List.nodup_range).2 fun a => ?_
  rw [List.mem_range]; exact ⟨h.2 a, hall a⟩
/-! ### One answer for every order -/
section
variable {κ β σ ρ τ : Type} [DecidableEq κ] {m : κ → Option β} {es : List (κ × (List Value × β))} {f : σ → κ × β → Option (σ ⊕ ρ)} {s0 s : σ} {K : σ ⊕ ρ → Option τ} {R : τ} {vis : List Nat}
structure Rng (es : List (κ × (List Value × β))) (f : σ → κ × β → Option (σ ⊕ ρ)) (s0 : σ) (vis : List Nat) (s : σ) : Prop where
  ok : VisOk es.length vis
  st : foldO f s0 (pv es vis) = some (.inl s)
omit [DecidableEq κ] in
theorem Rng.start (es : List (κ × (List Value × β))) (f : σ → κ × β → Option (σ ⊕ ρ)) (s0 : σ) : Rng es f s0 [] s0 := ⟨VisOk.nil _, rfl⟩
theorem foldO_app {α : Type} (f : σ → α → Option (σ ⊕ ρ)) : ∀ (xs ys : List α) (s0 s : σ), foldO f s0 xs = some (.inl s) → foldO f s0 (xs ++ ys) = foldO f s ys
  | [], ys, s0, s, h => by cases h; rfl
  | x :: xs, ys, s0, s, h => by
    simp only [foldO] at h
    show (f s0 x).bind _ = _
    obtain ⟨o, ho, h⟩ := ob h
    rw [ho]
    cases o with
    | inl s' => exact foldO_app f xs ys s' s h
    | inr r => cases h
omit [DecidableEq κ] in
theorem pv_perm (es : List (κ × (List Value × β))) {l : List Nat} (h : l.Perm (List.range es.length)) : (pv es l).Perm (prs es) := by
  have h1 : (pv es l).Perm (pv es (List.range es.length)) := List.Perm.filterMap _ h
  have h2 : pv es (List.range es.length) = prs es := by
    have hl : es.length = (prs es).length := by simp [prs]
    unfold pv
    rw [hl]
    generalize prs es = l
    induction l with
    | nil => rfl
    | cons a r ih =>
      rw [List.length_cons, List.range_succ_eq_map]
      simp only [List.filterMap_cons, List.getElem?_cons_zero, List.filterMap_map]
      congr 1
  rw [h2] at h1; exact h1
theorem aget_perm {l l' : List (κ × β)} (h : l.Perm l') (hn : (l.map (·.1)).Nodup) (k : κ) : aget k l = aget k l' := by
  have hn' : (l'.map (·.1)).Nodup := (h.map _).nodup_iff.1 hn
  cases hx : aget k l with
  | some v => exact (aget_of_mem hn' (h.mem_iff.1 (aget_mem' hx))).symm
  | none =>
    cases hy : aget k l' with
    | none => rfl
    | some v => rw [aget_of_mem hn (h.mem_iff.2 (aget_mem' hy))] at hx; cases hx
theorem Enum.ofPerm {l l' : List (κ × β)} (h : Enum m l) (hp : l'.Perm l) : Enum m l' := by
  have hn : (l'.map (·.1)).Nodup := (hp.map _).nodup_iff.2 h.1
  exact ⟨hn, fun k => by rw [h.2 k]; exact (aget_perm hp hn k).symm⟩
theorem sub_range : ∀ {vis : List Nat} {n : Nat}, VisOk n vis → ∃ r, (vis ++ r).Perm (List.range n)
  | vis, n, h => by
    refine ⟨(List.range n).filter (fun i => !decide (i ∈ vis)), ?_⟩
    have hnd : (vis ++ (List.range n).filter (fun i => !decide (i ∈ vis))).Nodup := by
      rw [List.nodup_append]
      exact ⟨h.1, List.nodup_range.filter _, fun a ha b hb e => by subst e; simp at hb; exact hb.2 ha⟩
    refine (List.perm_ext_iff_of_nodup hnd List.nodup_range).2 fun a => ?_
    simp only [List.mem_append, List.mem_filter, List.mem_range, Bool.not_eq_true', decide_eq_false_iff_not]
    constructor
    · rintro (ha | ha)
      · exact h.2 a ha
      · exact ha.1
    · intro ha
      by_cases hv : a ∈ vis
      · exact .inl hv
      · exact .inr ⟨ha, hv⟩
omit [DecidableEq κ] in
theorem pv_snoc {q : Nat} {k : κ} {cs : List Value} {v : β} (hq : es[q]? = some (k, cs, v)) : pv es (vis ++ [q]) = pv es vis ++ [(k, v)] := by
  have hpq : (prs es)[q]? = some (k, v) := by simp [prs, hq]
  simp [pv, hpq]
theorem Rng.done (hE : Enum m (prs es)) (h : Rng es f s0 vis s) (hall : ∀ q, q < es.length → q ∈ vis) (hm : detM m (fun l => (foldO f s0 l).bind K) = some R) : K (.inl s) = some R := by
  have hp : vis.Perm (List.range es.length) := by
    refine (List.perm_ext_iff_of_nodup h.ok.1 List.nodup_range).2 fun a => ?_
    rw [List.mem_range]; exact ⟨h.ok.2 a, hall a⟩
  have := (detM_some hm).2 _ (hE.ofPerm (pv_perm es hp))
  rw [h.st] at this; exact this
theorem Rng.step (hE : Enum m (prs es)) (h : Rng es f s0 vis s) {q : Nat} {k : κ} {cs : List Value} {v : β} (hq : es[q]? = some (k, cs, v)) (hn : q ∉ vis) (hm : detM m (fun l => (foldO f s0 l).bind K) = some R) :
    ∃ o, f s (k, v) = some o ∧ (∀ s', o = .inl s' → Rng es f s0 (vis ++ [q]) s') ∧ (∀ r, o = .inr r → K (.inr r) = some R) := by
  have hql := (List.getElem?_eq_some_iff.1 hq).1
  have hv2 := h.ok.snoc hql hn
  obtain ⟨r, hr⟩ := sub_range hv2
  have hk := (detM_some hm).2 _ (hE.ofPerm (pv_perm es hr))
  have hpq : (prs es)[q]? = some (k, v) := by simp [prs, hq]
  have e1 : pv es (vis ++ [q] ++ r) = pv es vis ++ (k, v) :: pv es r := by simp [pv, hpq]
  rw [e1, foldO_app f _ _ _ _ h.st] at hk
  simp only [foldO] at hk
  obtain ⟨o', ho', hk⟩ := ob hk
  obtain ⟨o, ho, hk2⟩ := ob ho'
  refine ⟨o, ho, fun s' e => ⟨hv2, ?_⟩, fun r' e => ?_⟩
  · have e2 : pv es (vis ++ [q]) = pv es vis ++ [(k, v)] := by simp [pv, hpq]
    rw [e2, foldO_app f _ _ _ _ h.st]
    simp only [foldO, ho, Option.bind_some, e]
  · subst e
    cases hk2
    exact hk
end
section
variable {P : Program} {κ β σ ρ : Type} [DecidableEq κ] {es : List (κ × (List Value × β))} {f : σ → κ × β → Option (σ ⊕ ρ)} {s0 : σ} {Q : Exit → Act → World → Prop} {a : Act} {w : World} {ro : Option Nat}
theorem vis_le {n : Nat} {vis : List Nat} (h : VisOk n vis) : vis.length ≤ n := by
  obtain ⟨r, hr⟩ := sub_range h
  have := hr.length_eq
  simp at this; omega
theorem x_loopM {τ : Type} {m : κ → Option β} {K : σ ⊕ ρ → Option τ} {R : τ} {c : Code} (es : List (κ × (List Value × β))) (hm : detM m (fun l => (foldO f s0 l).bind K) = some R) (J : σ → List Nat → Act → World → Prop) (h0 : J s0 [] a w)
    (round : ∀ s vis a w, Rng es f s0 vis s → J s vis a w → c.wp P (Exit.then (fun a' w' => ∃ s' q, Rng es f s0 (vis ++ [q]) s' ∧ J s' (vis ++ [q]) a' w') Q) a w) : (Code.loop c).wp P Q a w := by
  refine x_loop (fun (g : σ × List Nat) a w => Rng es f s0 g.2 g.1 ∧ J g.1 g.2 a w) (fun g => es.length - g.2.length) (s0, []) ⟨Rng.start es f s0, h0⟩ fun g a w hI => ?_
  refine wp_mono (round g.1 g.2 a w hI.1 hI.2) fun e a' w' h => ?_
  cases e with
  | normal =>
    obtain ⟨s', q, hr, hj⟩ := h
    refine ⟨(s', g.2 ++ [q]), ⟨hr, hj⟩, ?_⟩
    have h1 := vis_le hr.ok
    simp only [List.length_append, List.length_cons, List.length_nil] at h1 ⊢
    omega
  | _ => exact h
theorem elimS {σ τ : Type} {f : σ → Option τ} {a r : τ} (h : Sum.elim f some (Sum.inr a) = some r) : a = r := Option.some.inj h
end
end Go.Tri
