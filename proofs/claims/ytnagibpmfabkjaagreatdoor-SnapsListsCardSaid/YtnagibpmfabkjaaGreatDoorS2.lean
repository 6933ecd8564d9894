/- Ranges over maps whose entries are written while they are gone through, each at its own round. -/
import Derived.Test.YtnagibpmfabkjaaGreatDoorS
set_option linter.unusedSimpArgs false
set_option linter.unusedVariables false
namespace Go.Tri
open Go.RowKit
/-! ### Maps whose slices are their own -/
abbrev Hdr : Type := Option Addr × Nat × Nat
def hdrV (h : Hdr) : Value := .slice h.1 h.2.1 h.2.2
def rHdr : Rp Hdr := Rp.enc 1 (fun h => [hdrV h]) (fun _ => rfl) (fun _ v hv => by simp at hv; subst hv; rfl)
def noK {κ : Type} : κ → Prop := fun _ => False
def atK {κ : Type} (k : κ) : κ → Prop := fun i => i = k
section
variable {κ : Type} [DecidableEq κ]
/-- The slices of a map, each in a block of its own; but for those that h tells. -/
def HP.mos (e : TypeId) (hm : κ → Option Hdr) (m : κ → Option (List UInt8)) (h : κ → Prop) : HP :=
  HP.of (fun B w S => ∃ f : κ → Nat → Prop, (∀ k, (hm k).isSome = (m k).isSome) ∧ (∀ k v x, hm k = some v → m k = some x → v.2.1 = x.length ∧ (¬ h k → (HP.ow rByte e v.1 v.2.2 x).pr B w (f k))) ∧ (∀ i j b, f i b → f j b → i = j) ∧ ∀ i b, f i b → S b)
    (fun ⟨f, h0, h1, h2, h3⟩ hS => ⟨f, h0, fun k v x hv hx => ⟨(h1 k v x hv hx).1, fun hn => HP.loc _ ((h1 k v x hv hx).2 hn) fun b hb => hS b (h3 k b hb)⟩, h2, h3⟩)
    (fun ⟨f, h0, h1, h2⟩ hl => ⟨f, h0, fun k v x hv hx => ⟨(h1 k v x hv hx).1, fun hn => HP.mono _ ((h1 k v x hv hx).2 hn) hl⟩, h2⟩)
variable {w0 w : World} {l : List HP} {e : TypeId} {hm : κ → Option Hdr} {m : κ → Option (List UInt8)}
omit [DecidableEq κ] in
theorem St.mosNil (H : St w0 w l) (e : TypeId) : St w0 w (HP.mos e (fnil : κ → Option Hdr) (fnil : κ → Option (List UInt8)) noK :: l) :=
  H.more fun B _ _ => ⟨fun _ _ => False, fun _ => rfl, fun k v x h => by simp [fnil] at h, by simp, by simp⟩
omit [DecidableEq κ] in
/-- One of them is taken out. -/
theorem St.mosTake (H : St w0 w (HP.mos e hm m noK :: l)) (k : κ) : ∃ q c, (hm k).getD (none, 0, 0) = (q, ((m k).getD []).length, c) ∧ St w0 w (HP.ow rByte e q c ((m k).getD []) :: HP.mos e hm m (atK k) :: l) := by
  obtain ⟨B, S, hs, ⟨f, h0, h1, h2, h3⟩, _⟩ := H.get 0 rfl
  cases hk : hm k with
  | none =>
    have hm0 : m k = none := by have := h0 k; rw [hk] at this; cases h : m k with
      | none => rfl
      | some x => rw [h] at this; cases this
    rw [hm0]
    refine ⟨none, 0, rfl, ?_⟩
    obtain ⟨_, H2⟩ := H.split (ι := Unit) (C := fun _ => HP.ow rByte e none 0 []) (D := fun _ => HP.mos e hm m (atK k)) fun {B S} ⟨f, h0, h1, h2, h3⟩ => by
      refine ⟨(), fun _ => False, S, ?_, ⟨f, h0, fun i v x hv hx => ⟨(h1 i v x hv hx).1, fun hn => (h1 i v x hv hx).2 fun h => h⟩, h2, h3⟩, fun b h _ => h, fun b h => h.elim, fun b h => h⟩
      obtain ⟨_, _, _, hh, _⟩ := (H.owNil rByte e).get 0 rfl
      obtain ⟨css, c1, c2⟩ := hh
      exact ⟨[], trivial, ⟨rfl, .inl ⟨rfl, rfl⟩⟩, fun b hb => by simp [Value.ownBlock] at hb⟩
    exact H2
  | some v =>
    obtain ⟨q, n, c⟩ := v
    obtain ⟨x, hx⟩ : ∃ x, m k = some x := by have := h0 k; rw [hk] at this; exact Option.isSome_iff_exists.1 this.symm
    obtain ⟨hn, _⟩ := h1 k _ x hk hx
    simp only at hn
    rw [hx]
    refine ⟨q, c, by simp [hn], ?_⟩
    obtain ⟨_, H2⟩ := H.split (ι := Unit) (C := fun _ => HP.ow rByte e q c x) (D := fun _ => HP.mos e hm m (atK k)) fun {B S} ⟨f, h0, h1, h2, h3⟩ => by
      refine ⟨(), f k, fun b => ∃ i, i ≠ k ∧ f i b, (h1 k _ x hk hx).2 fun h => h, ⟨fun i b => i ≠ k ∧ f i b, h0, fun i v y hv hy => ⟨(h1 i v y hv hy).1, fun hn => ?_⟩, fun i j b ⟨_, hi⟩ ⟨_, hj⟩ => h2 i j b hi hj, fun i b hb => ⟨i, hb⟩⟩, fun b hb ⟨i, hi, hf⟩ => hi (h2 i k b hf hb), fun b hb => h3 k b hb, fun b ⟨i, _, hf⟩ => h3 i b hf⟩
      have he : (fun b => i ≠ k ∧ f i b) = f i := by
        funext b
        have : i ≠ k := hn
        simp [this]
      show (HP.ow rByte e v.fst v.snd.snd y).pr B w (fun b => i ≠ k ∧ f i b)
      rw [he]
      exact (h1 i v y hv hy).2 fun h => h
    exact H2
/-- It is put back, with other bytes. -/
theorem St.mosPut {k : κ} {q : Option Addr} {c : Nat} {x : List UInt8} (H : St w0 w (HP.ow rByte e q c x :: HP.mos e hm m (atK k) :: l)) : St w0 w (HP.mos e (fset k (q, x.length, c) hm) (fset k x m) noK :: l) := by
  refine H.join fun {B} S T h1 h2 hd => ?_
  obtain ⟨f, h0, h2, h3, h4⟩ := h2
  refine ⟨fun i b => if i = k then S b else f i b ∧ T b, fun i => ?_, fun i v y hv hy => ?_, fun i j b hi hj => ?_, fun i b hb => ?_⟩
  · by_cases e : i = k
    · simp [fset, e]
    · simp [fset, e, h0 i]
  · by_cases e : i = k
    · subst e
      simp only [fset, if_true, Option.some.injEq] at hv hy
      subst hv; subst hy
      exact ⟨rfl, fun _ => by simpa using h1⟩
    · simp only [fset, e, if_false] at hv hy
      refine ⟨(h2 i v y hv hy).1, fun _ => ?_⟩
      have he : (fun b => if i = k then S b else f i b ∧ T b) = f i := by
        funext b
        rw [if_neg e]
        exact propext ⟨fun h => h.1, fun h => ⟨h, h4 i b h⟩⟩
      show (HP.ow rByte _ v.fst v.snd.snd y).pr B w (fun b => if i = k then S b else f i b ∧ T b)
      rw [he]
      exact (h2 i v y hv hy).2 e
  · replace hi : if i = k then S b else f i b ∧ T b := hi
    replace hj : if j = k then S b else f j b ∧ T b := hj
    by_cases e1 : i = k
    · by_cases e2 : j = k
      · rw [e1, e2]
      · simp only [if_pos e1, if_neg e2] at hi hj
        exact (hd b hi hj.2).elim
    · by_cases e2 : j = k
      · simp only [if_neg e1, if_pos e2] at hi hj
        exact (hd b hj hi.2).elim
      · simp only [if_neg e1, if_neg e2] at hi hj
        exact h3 i j b hi.1 hj.1
  · replace hb : if i = k then S b else f i b ∧ T b := hb
    by_cases e : i = k
    · rw [if_pos e] at hb; exact .inl hb
    · rw [if_neg e] at hb; exact .inr hb.2
/-- They stay from now on. -/
theorem St.mosFrz {p : Option Nat} {ek : κ → Value} {ok : κ → Prop} (H : St w0 w (HP.mos e hm m noK :: HP.mm p ek false rHdr ok hm :: l)) : St w0 w (HP.mm p ek false (rSl rByte) ok m :: l) := by
  have H1 : St w0 w (HP.pe (fun B => (∀ k, (hm k).isSome = (m k).isSome) ∧ ∀ k v x, hm k = some v → m k = some x → (rSl rByte).rd B [hdrV v] x) (fun h hl => ⟨h.1, fun k v x hv hx => (rSl rByte).mono (h.2 k v x hv hx) hl⟩) :: HP.mm p ek false rHdr ok hm :: l) := by
    refine H.freezeH fun {B B'} S h hle hw => ?_
    obtain ⟨f, h0, h1, h2, h3⟩ := h
    refine ⟨h0, fun k v x hv hx => ?_⟩
    obtain ⟨hn, ho⟩ := h1 k v x hv hx
    obtain ⟨cs0, r1, r2⟩ := ho (fun h => h)
    exact ⟨v.1, v.2.2, by unfold hdrV; rw [hn], cs0, r1.mono hle, fun w' hw' => ownsRow_sl (HP.loc _ r2 (fun b hb => hw w' hw' b (h3 k b hb))).1⟩
  obtain ⟨B, HB⟩ := H1.out
  obtain ⟨_, hp⟩ := HB.at (i := 0) rfl
  obtain ⟨hd, hp⟩ : (∀ k, (hm k).isSome = (m k).isSome) ∧ ∀ k v x, hm k = some v → m k = some x → (rSl rByte).rd B [hdrV v] x := hp
  have H2 := HB.set 1 (A := HP.mm p ek false rHdr ok hm) (C := HP.mm p ek false (rSl rByte) ok m) rfl fun S ⟨es, hes, hmp⟩ => by
    have hex : ∀ es : List (κ × (List Value × Hdr)), (es.map (·.1)).Nodup → (∀ q ∈ es, rHdr.rd B q.2.1 q.2.2 ∧ hm q.1 = some q.2.2) → ∃ es' : List (κ × (List Value × List UInt8)), es'.map (fun q => (q.1, q.2.1)) = es.map (fun q => (q.1, q.2.1)) ∧ ∀ q ∈ es', (rSl rByte).rd B q.2.1 q.2.2 ∧ m q.1 = some q.2.2 := by
      intro es
      induction es with
      | nil => exact fun _ _ => ⟨[], rfl, by simp⟩
      | cons q es ih =>
        intro hn hq
        simp only [List.map_cons, List.nodup_cons] at hn
        obtain ⟨es', e1, e2⟩ := ih hn.2 fun q hq' => hq q (List.mem_cons_of_mem _ hq')
        obtain ⟨k, cs, v⟩ := q
        obtain ⟨g1, g2⟩ := hq (k, cs, v) List.mem_cons_self
        simp only at g1 g2
        obtain ⟨x, hx⟩ : ∃ x, m k = some x := by have := hd k; rw [g2] at this; exact Option.isSome_iff_exists.1 this.symm
        have g3 : cs = [hdrV v] := g1
        refine ⟨(k, cs, x) :: es', by simp [e1], fun q' hq' => ?_⟩
        rcases List.mem_cons.1 hq' with rfl | hq'
        · exact ⟨by rw [g3]; exact hp k v x g2 hx, hx⟩
        · exact e2 q' hq'
    have hget : ∀ q ∈ es, hm q.1 = some q.2.2 := fun q hq => by
      rw [hes.get q.1, aget_of_mem hes.nodup (v := q.2) (by obtain ⟨a, b⟩ := q; exact hq)]; rfl
    obtain ⟨es', e1, e2⟩ := hex es hes.nodup fun q hq => ⟨hes.rd q hq, hget q hq⟩
    have hk : es'.map (·.1) = es.map (·.1) := by
      have := congrArg (List.map (·.1)) e1
      rw [List.map_map, List.map_map] at this
      exact this
    have hment : ment ek false es' = ment ek false es := by
      have := congrArg (List.map fun q : κ × List Value => (ek q.1, mkV false q.2)) e1
      simpa [ment, mkv, List.map_map, Function.comp_def] using this
    refine ⟨es', ⟨by rw [hk]; exact hes.nodup, fun q hq => ?_, fun q hq => (e2 q hq).1, fun k => ?_⟩, ?_⟩
    · have : q.1 ∈ es'.map (·.1) := List.mem_map.2 ⟨q, hq, rfl⟩
      rw [hk] at this
      obtain ⟨r, hr, h9⟩ := List.mem_map.1 this
      rw [← h9]; exact hes.ok r hr
    · cases h5 : aget k es' with
      | some u =>
        rw [(e2 (k, u) (aget_mem' h5)).2]; rfl
      | none =>
        have hnone : hm k = none := by
          rw [hes.get k]
          cases h6 : aget k es with
          | none => rfl
          | some u =>
            have : k ∈ es.map (·.1) := List.mem_map.2 ⟨(k, u), aget_mem' h6, rfl⟩
            rw [← hk] at this
            obtain ⟨r, hr, h9⟩ := List.mem_map.1 this
            have hn' : (es'.map (·.1)).Nodup := by rw [hk]; exact hes.nodup
            rw [aget_of_mem hn' (v := r.2) (by rw [← h9]; exact hr)] at h5; cases h5
        have := hd k
        rw [hnone] at this
        cases h : m k with
        | none => rfl
        | some x => rw [h] at this; cases this
    · cases p with
      | none =>
        simp only at hmp ⊢
        subst hmp
        have := congrArg List.length hk
        exact List.eq_nil_of_length_eq_zero (by simpa using this)
      | some b => exact ⟨by rw [hment]; exact hmp.1, hmp.2⟩
  exact H2.st.tail
end
section
variable {κ β : Type} [DecidableEq κ]
theorem findI_of {k : κ} : ∀ {l : List (κ × Value)} {i q : Nat} {u : Value}, (l.map (·.1)).Nodup → l[q]? = some (k, u) → findI k l i = some (i + q, u)
  | [], _, _, _, _, h => by simp at h
  | (k', v) :: r, i, 0, u, hn, h => by
    simp only [List.getElem?_cons_zero, Option.some.injEq, Prod.mk.injEq] at h
    unfold findI
    rw [if_pos h.1, h.2]; rfl
  | (k', v) :: r, i, q + 1, u, hn, h => by
    simp only [List.getElem?_cons_succ] at h
    simp only [List.map_cons, List.nodup_cons] at hn
    have hne : ¬ k' = k := fun e => hn.1 (by rw [e]; exact List.mem_map.2 ⟨(k, u), List.mem_of_getElem? h, rfl⟩)
    unfold findI
    rw [if_neg hne, findI_of hn.2 h]
    congr 2; omega
/-- What became of the entries: the same keys, as old; those that were not met stand as they stood. -/
structure RawUp (es : List (κ × (List Value × β))) (raw : Array MapEntry) (vis : List Nat) (es' : List (κ × (List Value × β))) (raw' : Array MapEntry) : Prop where
  key : es'.map (·.1) = es.map (·.1)
  born : raw'.toList.map (·.born) = raw.toList.map (·.born)
  off : ∀ q, q ∉ vis → es'[q]? = es[q]?
omit [DecidableEq κ] in
theorem RawUp.refl (es : List (κ × (List Value × β))) (raw : Array MapEntry) (vis : List Nat) : RawUp es raw vis es raw := ⟨rfl, rfl, fun _ _ => rfl⟩
omit [DecidableEq κ] in
theorem RawUp.at {es es' : List (κ × (List Value × β))} {raw raw' : Array MapEntry} {vis : List Nat} (h : RawUp es raw vis es' raw') {q : Nat} {x : κ × (List Value × β)} (hq : es'[q]? = some x) (hn : q ∉ vis) : es[q]? = some x := by
  rw [← h.off q hn]; exact hq
omit [DecidableEq κ] in
theorem RawUp.next {es es' : List (κ × (List Value × β))} {raw raw' : Array MapEntry} {vis : List Nat} (h : RawUp es raw vis es' raw') (q : Nat) : RawUp es raw (vis ++ [q]) es' raw' :=
  ⟨h.key, h.born, fun i hi => h.off i fun hh => hi (List.mem_append_left _ hh)⟩
omit [DecidableEq κ] in
theorem RawUp.len {es es' : List (κ × (List Value × β))} {raw raw' : Array MapEntry} {vis : List Nat} (h : RawUp es raw vis es' raw') : es'.length = es.length := by
  have := congrArg List.length h.key; simpa using this
omit [DecidableEq κ] in
theorem RawUp.all {es es' : List (κ × (List Value × β))} {raw raw' : Array MapEntry} {vis : List Nat} (h : RawUp es raw vis es' raw') (ha : ∀ q, q < es'.length → q ∈ vis) : ∀ q, q < es.length → q ∈ vis := fun q hq => ha q (by rw [h.len]; exact hq)
omit [DecidableEq κ] in
theorem RawUp.vok {es es' : List (κ × (List Value × β))} {raw raw' : Array MapEntry} {vis : List Nat} (h : RawUp es raw vis es' raw') (hv : VisOk es.length vis) : VisOk es'.length vis := by rw [h.len]; exact hv
omit [DecidableEq κ] in
theorem borns_eq {raw raw' : Array MapEntry} (h : raw'.toList.map (·.born) = raw.toList.map (·.born)) (vis : List Nat) : bornsOf raw' vis = bornsOf raw vis := by
  unfold bornsOf
  congr 1
  refine List.map_congr_left fun i _ => ?_
  have := congrArg (fun l => l[i]?) h
  simp only [List.getElem?_map, Array.getElem?_toList] at this
  rw [this]
end
section
variable {κ β : Type} [DecidableEq κ] {R : Rp β} {ek : κ → Value} {agg : Bool} {ok : κ → Prop} {P : Program} {w0 w : World} {ls : List HP} {m : κ → Option β} {b : Nat} {es es0 : List (κ × (List Value × β))} {raw raw0 : Array MapEntry} {c : Nat} {ops : Array Oper} {rest : List Oper} {o : Oper} {a : Act} {W : List Oper → Act → World → Prop} {N : Fs} {sl : List (Nat × Value)} {d : Nat} {x y z : Operand} {T K E : TypeId} {vis : List Nat}
/-- The entry of the round is written. -/
theorem s_moSet (kw : Walk P ops W) (F : Fr N a sl) (hg : o.guard = none) (hd : o.dst = none) (hT : P.underlying T = some (.map K E)) (hK : KeyT P K ek ok) (ho : o.op = .mapUpdate T x y z) (hM : MRaw ek agg es raw c) {q : Nat} (hU : RawUp es0 raw0 (vis ++ [q]) es raw)
    {k : κ} {cs0 : List Value} {v0 : β} (hq : es[q]? = some (k, cs0, v0)) (H : St w0 w ls) (i j : Nat) (hi : ls[i]? = some (HP.mo (some b) raw c)) (hj : ls[j]? = some (HP.es R ok es m)) (hij : Nat.beq i j = false)
    (hx : ev sl x = some (.map (some b))) (hy : ev sl y = some (ek k)) {cs : List Value} (hz : ev sl z = some (mkV agg cs)) {v : β} (hrd : ∀ {B : Base}, (∀ (j : Nat) (C : HP), ls[j]? = some C → ∃ S, C.pr B w S) → R.rd B cs v)
    (hk : ∀ es' raw' w', MRaw ek agg es' raw' c → RawUp es0 raw0 (vis ++ [q]) es' raw' → bornsOf raw' (vis ++ [q]) = bornsOf raw (vis ++ [q]) → St w0 w' ((ls.set i (HP.mo (some b) raw' c)).set j (HP.es R ok es' (fset k v m))) → W rest a w') : W (o :: rest) a w := by
  have hne : i ≠ j := Nat.ne_of_beq_eq_false hij
  obtain ⟨B, HB⟩ := H.out
  obtain ⟨S1, hmo⟩ := HB.at hi
  obtain ⟨S2, hes⟩ := HB.at hj
  replace hes : EsOk R ok B es m := hes
  have hil : i < ls.length := (List.getElem?_eq_some_iff.1 hi).1
  have hjl : j < ls.length := (List.getElem?_eq_some_iff.1 hj).1
  obtain ⟨hb, hfb⟩ := hmo
  have hbl : b < w.heap.size := (Array.getElem?_eq_some_iff.1 hb).1
  have hql := (List.getElem?_eq_some_iff.1 hq).1
  have hl := hM.len
  have hkk : ok k := hes.ok _ (List.mem_of_getElem? hq)
  let l : List (κ × Value) := es.map fun p => (p.1, mkV agg p.2.1)
  have hlk : l.map (·.1) = es.map (·.1) := by simp [l]
  have hlq : l[q]? = some (k, mkV agg cs0) := by simp [l, hq]
  have hfI : findI k l 0 = some (q, mkV agg cs0) := by
    have := findI_of (i := 0) (by rw [hlk]; exact hes.nodup) hlq
    simpa using this
  have hf := hK.find k raw.toList l w hkk (es_ok hes.ok) hM.ent
  rw [hfI] at hf
  obtain ⟨e, he, hek, hev⟩ := hM.at hq
  have hrun : (Instr.mapUpdate T (.map (some b)) (ek k) (mkV agg cs)).run P w = .ok () (w.putObj b (.map (raw.modify q fun e => { e with key := ek k, val := mkV agg cs }) c)) := by
    unfold Instr.mapUpdate
    rw [Sem.run_bind, Go.run_underlying hT]
    simp only [Result.andThen_ok]
    rw [Sem.run_bind, run_getObj w b raw c hb]
    simp only [Result.andThen_ok]
    rw [Sem.run_bind, hK.check false k w hkk]
    simp only [Result.andThen_ok]
    rw [Sem.run_bind, hf]
    simp only [Result.andThen_ok]
    have hkey : ((raw[q]?).map (·.key)).getD (ek k) = ek k := by rw [he]; exact hek
    rw [hkey, Sem.run_bind, hK.stays k w hkk]
    simp only [Result.andThen_ok]
    exact run_setObj w b raw c _ hb
  let es' := es.set q (k, cs, v)
  let raw' := raw.modify q fun e => { e with key := ek k, val := mkV agg cs }
  have hent : raw'.toList.map (fun e => (e.key, e.val)) = ment ek agg es' := by
    have h0 := hM.ent
    show (raw.modify q _).toList.map _ = mkv ek ((es.set q (k, cs, v)).map _)
    simp only [Array.toList_modify, ment, mkv, List.map_set] at h0 ⊢
    apply List.ext_getElem?
    intro t
    have ht := congrArg (fun l => l[t]?) h0
    simp only [List.getElem?_map, List.getElem?_modify, List.getElem?_set, List.length_map] at ht ⊢
    by_cases e1 : q = t
    · subst e1
      have : raw.toList[q]? = some e := by rw [Array.getElem?_toList]; exact he
      simp [this, hql]
    · simp only [e1, if_false]
      cases h5 : raw.toList[t]? with
      | none => rw [h5] at ht; simp at ht ⊢; exact ht
      | some e5 => rw [h5] at ht; simp at ht ⊢; exact ht
  have hborn : raw'.toList.map (·.born) = raw.toList.map (·.born) := by
    show (raw.modify q _).toList.map _ = _
    rw [Array.toList_modify]
    apply List.ext_getElem?
    intro t
    simp only [List.getElem?_map, List.getElem?_modify]
    by_cases e1 : q = t
    · subst e1
      cases raw.toList[q]? <;> simp
    · simp only [e1, if_false]
      cases raw.toList[t]? <;> simp
  have hM' : MRaw ek agg es' raw' c := by
    refine ⟨hent, by rw [hborn]; exact hM.nd, fun e5 h5 => ?_⟩
    have h6 : e5.born ∈ raw'.toList.map (·.born) := List.mem_map.2 ⟨e5, h5, rfl⟩
    rw [hborn] at h6
    obtain ⟨e7, h7, h8⟩ := List.mem_map.1 h6
    rw [← h8]; exact hM.lt e7 h7
  have hkeys : es'.map (·.1) = es.map (·.1) := by
    show (es.set q (k, cs, v)).map _ = _
    rw [List.map_set]
    refine set_self ?_
    rw [List.getElem?_map, hq]; rfl
  have hU' : RawUp es0 raw0 (vis ++ [q]) es' raw' := by
    refine ⟨hkeys.trans hU.key, hborn.trans hU.born, fun t ht => ?_⟩
    have hqt : q ≠ t := fun e => ht (by rw [← e]; simp)
    show (es.set q _)[t]? = _
    rw [List.getElem?_set_ne hqt]; exact hU.off t ht
  have hcs : R.rd B cs v := hrd (B := B) fun j C hj => HB.at hj
  have hes' : EsOk R ok B es' (fset k v m) := by
    refine ⟨by rw [hkeys]; exact hes.nodup, fun p hp => ?_, fun p hp => ?_, fun k' => ?_⟩
    · have : p.1 ∈ es'.map (·.1) := List.mem_map.2 ⟨p, hp, rfl⟩
      rw [hkeys] at this
      obtain ⟨r, hr, h9⟩ := List.mem_map.1 this
      rw [← h9]; exact hes.ok r hr
    · rcases List.mem_or_eq_of_mem_set hp with hp | rfl
      · exact hes.rd p hp
      · exact hcs
    · have hnd' : (es'.map (·.1)).Nodup := by rw [hkeys]; exact hes.nodup
      by_cases e1 : k' = k
      · subst e1
        have : (k', cs, v) ∈ es' := List.mem_of_getElem? (i := q) (by show (es.set q _)[q]? = _; simp [hql])
        rw [aget_of_mem hnd' this]; simp [fset]
      · simp only [fset, e1, if_false]
        rw [hes.get k']
        congr 1
        cases h5 : aget k' es with
        | some u =>
          have hmem := aget_mem' h5
          obtain ⟨t, ht1, ht2⟩ := List.getElem_of_mem hmem
          have hqt : q ≠ t := fun e => by subst e; rw [List.getElem?_eq_getElem ht1, ht2] at hq; injection hq with hq; injection hq with hq _; exact e1 hq
          have : (k', u) ∈ es' := List.mem_of_getElem? (i := t) (by show (es.set q _)[t]? = _; rw [List.getElem?_set_ne hqt, List.getElem?_eq_getElem ht1, ht2])
          exact (aget_of_mem hnd' this).symm
        | none =>
          cases h6 : aget k' es' with
          | none => rfl
          | some u =>
            have hmem := aget_mem' h6
            rcases List.mem_or_eq_of_mem_set hmem with hm' | hm'
            · rw [aget_of_mem hes.nodup hm'] at h5; cases h5
            · injection hm' with hm' _; exact absurd hm' e1
  have hexec : (execOp a.eval o).run P w = .ok .skip (w.putObj b (.map raw' c)) := by
    unfold execOp
    simp only [ho, F.eval hx, F.eval hy, F.eval hz, Sem.run_bind, hrun, Result.andThen_ok, Sem.run_pure]
    rfl
  refine s_none kw F hg hd (by rw [ho]; rfl) hexec (hk es' raw' _ hM' hU' (borns_eq hborn _) ?_)
  have H1 := HB.chg i hi (A' := HP.mo (some b) raw' c) (g := b) (fun S hA => hA.2) (chg_putObj _ _ _) fun S hA => ⟨World.putObj_heap_same hbl, hA.2⟩
  exact (H1.set j (C := HP.es R ok es' (fset k v m)) (by rw [List.getElem?_set_ne hne]; exact hj) fun S _ => hes').st
end
end Go.Tri
