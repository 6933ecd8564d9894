/- Maps whose slices are their own, as one piece; maps whose entries are written while they are gone through. -/
import Derived.Test.YtnagibpmfabkjaaGreatDoorS2
import Derived.Shelf.SlMaps.Clone
set_option linter.unusedSimpArgs false
set_option linter.unusedVariables false
namespace Go.Tri
open Go.RowKit
section
variable {κ : Type} [DecidableEq κ] {P : Program} {w0 w : World} {l ls : List HP} {e : TypeId} {p : Option Nat} {ek : κ → Value} {ok : κ → Prop} {m : κ → Option (List UInt8)} {hm : κ → Option Hdr} {N : Fs} {a : Act} {sl : List (Nat × Value)} {o : Oper} {x y : Operand} {T K E : TypeId}
/-- A map of byte slices, each in a block of its own. -/
def HP.mw (e : TypeId) (p : Option Nat) (ek : κ → Value) (ok : κ → Prop) (m : κ → Option (List UInt8)) : HP := HP.ex fun hm : κ → Option Hdr => [HP.mos e hm m noK, HP.mm p ek false rHdr ok hm]
theorem St.mwNil (H : St w0 w (HP.mm p ek false rHdr ok (fnil : κ → Option Hdr) :: l)) (e : TypeId) : St w0 w (HP.mw e p ek ok (fnil : κ → Option (List UInt8)) :: l) := St.exShut (fnil : κ → Option Hdr) (H.mosNil e)
theorem St.mwTake (H : St w0 w (HP.mw e p ek ok m :: l)) (k : κ) : ∃ hm q c, (hm k).getD (none, 0, 0) = (q, ((m k).getD []).length, c) ∧ St w0 w (HP.ow rByte e q c ((m k).getD []) :: HP.mos e hm m (atK k) :: HP.mm p ek false rHdr ok hm :: l) := by
  obtain ⟨hm, H⟩ := H.exOpen
  obtain ⟨q, c, h, H⟩ := St.mosTake H k
  exact ⟨hm, q, c, h, H⟩
theorem St.mwPut {k : κ} {q : Option Addr} {c : Nat} {x : List UInt8} (H : St w0 w (HP.ow rByte e q c x :: HP.mos e hm m (atK k) :: HP.mm p ek false rHdr ok (fset k (q, x.length, c) hm) :: l)) : St w0 w (HP.mw e p ek ok (fset k x m) :: l) := St.exShut (fset k (q, x.length, c) hm) H.mosPut
theorem St.mwFrz (H : St w0 w (HP.mw e p ek ok m :: l)) : St w0 w (HP.mm p ek false (rSl rByte) ok m :: l) := by
  obtain ⟨hm, H⟩ := H.exOpen
  exact H.mosFrz
theorem y_mmGetH (F : Fr N a sl) (hT : P.underlying T = some (.map K E)) (hK : KeyT P K ek ok) (hz : ∀ w, (zeroValue E).run P w = .ok (.slice none 0 0) w) (ho : o.op = .lookup T x y false) (H : St w0 w ls) (i : Nat) (hi : ls[i]? = some (HP.mm p ek false rHdr ok hm)) (hx : ev sl x = some (.map p)) {k : κ} (hy : ev sl y = some (ek k)) (hkk : ok k) {q : Option Addr} {n c : Nat} (hh : (hm k).getD (none, 0, 0) = (q, n, c)) :
    (execOp a.eval o).run P w = .ok (.value (.slice q n c)) w := by
  obtain ⟨es, H1⟩ := H.mmOpen i hi
  have hil : i < ls.length := (List.getElem?_eq_some_iff.1 hi).1
  have hi' : (ls.set i (HP.mx p ek false rHdr ok es hm))[i]? = some (HP.mx p ek false rHdr ok es hm) := by simp [hil]
  obtain ⟨cs, hcs, H2⟩ := H1.mxGet i hi' k (zc := [.slice none 0 0]) (z0 := ((none, 0, 0) : Hdr)) (fun _ => rfl)
  have hr : cs = [hdrV ((hm k).getD (none, 0, 0))] := by
    obtain ⟨_, _, _, h, _⟩ := H2.get 0 rfl
    exact h
  have := y_mxGet (agg := false) (zc := [.slice none 0 0]) F hT hK hz ho H1 i hi' hx hy hkk hcs
  rw [hr, hh] at this
  exact this
end
section
variable {κ β : Type} [DecidableEq κ] {R : Rp β} {ek : κ → Value} {agg : Bool} {ok : κ → Prop} {P : Program} {w0 w : World} {ls : List HP} {m : κ → Option β} {p : Option Nat} {es es0 : List (κ × (List Value × β))} {raw raw0 : Array MapEntry} {c : Nat} {ops : Array Oper} {rest : List Oper} {o : Oper} {a : Act} {W : List Oper → Act → World → Prop} {N : Fs} {sl : List (Nat × Value)} {d : Nat} {x y z : Operand} {T K E : TypeId} {vis : List Nat} {r : Nat}
/-- A map that is gone through, and written. -/
def HP.mr (p : Option Nat) (ek : κ → Value) (agg : Bool) (R : Rp β) (ok : κ → Prop) (es0 : List (κ × (List Value × β))) (raw0 : Array MapEntry) (c : Nat) (vis : List Nat) (m : κ → Option β) : HP :=
  HP.ex fun (i : List (κ × (List Value × β)) × Array MapEntry) => [HP.mo p i.2 c, HP.es R ok i.1 m, HP.fact (RawUp es0 raw0 vis i.1 i.2 ∧ MRaw ek agg i.1 i.2 c)]
theorem St.mrStart (H : St w0 w (HP.mo p raw c :: HP.es R ok es m :: ls)) (hM : MRaw ek agg es raw c) : St w0 w (HP.mr p ek agg R ok es raw c [] m :: ls) := by
  have H1 := (H.addFact (show RawUp es raw [] es raw ∧ MRaw ek agg es raw c from ⟨RawUp.refl _ _ _, hM⟩)).pm 3 [1, 2, 0] rfl
  exact St.exShut (es, raw) H1
theorem St.mrOpen (H : St w0 w (HP.mr p ek agg R ok es0 raw0 c vis m :: ls)) : ∃ es raw, RawUp es0 raw0 vis es raw ∧ MRaw ek agg es raw c ∧ St w0 w (HP.mo p raw c :: HP.es R ok es m :: HP.fact (RawUp es0 raw0 vis es raw ∧ MRaw ek agg es raw c) :: ls) := by
  obtain ⟨⟨es, raw⟩, H⟩ := H.exOpen
  have h := H.factP 2 rfl
  exact ⟨es, raw, h.1, h.2, H⟩
theorem St.mrShut (hU : RawUp es0 raw0 vis es raw) (hM : MRaw ek agg es raw c) (H : St w0 w (HP.mo p raw c :: HP.es R ok es m :: ls)) : St w0 w (HP.mr p ek agg R ok es0 raw0 c vis m :: ls) :=
  St.exShut (es, raw) ((H.addFact (show RawUp es0 raw0 vis es raw ∧ MRaw ek agg es raw c from ⟨hU, hM⟩)).pm 3 [1, 2, 0] rfl)
theorem St.mrSkip (H : St w0 w (HP.mr p ek agg R ok es0 raw0 c vis m :: ls)) (q : Nat) : St w0 w (HP.mr p ek agg R ok es0 raw0 c (vis ++ [q]) m :: ls) := by
  obtain ⟨es, raw, hU, hM, H⟩ := H.mrOpen
  exact St.mrShut (hU.next q) hM ((H.pm 3 [0, 1, 2] rfl).pm 3 [0, 1, 2] rfl |>.pm 3 [2, 0, 1] rfl).tail
theorem St.mrMm (H : St w0 w (HP.mr p ek agg R ok es0 raw0 c vis m :: ls)) : St w0 w (HP.mm p ek agg R ok m :: ls) := by
  obtain ⟨es, raw, hU, hM, H⟩ := H.mrOpen
  have H1 := H.moMm 0 1 hM rfl rfl
  exact (H1.pm 3 [1, 2, 0] rfl).tail.tail
/-- 'next' of a map that is written. -/
theorem s_nxtR (kw : Walk P ops W) (F : Fr N a sl) (hg : o.guard = none) (hd : o.dst = some d) (hN : Nat.blt d N.n = true) (ho : o.op = .next x false) (hx : ev sl x = some (.pointer (some ⟨r, 0, none⟩))) (hv : VisOk es0.length vis) (H : St w0 w (HP.obj r (mit p c (bornsOf raw0 vis)) :: HP.mr p ek agg R ok es0 raw0 c vis m :: ls))
    (h0 : (∀ q, q < es0.length → q ∈ vis) → ∀ w' a', St w0 w' (HP.obj r (mit p c (bornsOf raw0 vis)) :: HP.mr p ek agg R ok es0 raw0 c vis m :: ls) → Fr N a' ((d, .tuple [.bool false].toArray) :: sl) → W rest a' w')
    (h1 : ∀ q k cs v, es0[q]? = some (k, cs, v) → q ∉ vis → ∀ w' a', St w0 w' (HP.obj r (mit p c (bornsOf raw0 (vis ++ [q]))) :: HP.mr p ek agg R ok es0 raw0 c vis m :: ls) → Fr N a' ((d, .tuple [.bool true, ek k, mkV agg cs].toArray) :: sl) → W rest a' w') : W (o :: rest) a w := by
  obtain ⟨es, raw, hU, hM, H1⟩ := (H.pm 2 [1, 0] rfl).mrOpen
  have hb : ∀ v, bornsOf raw v = bornsOf raw0 v := fun v => borns_eq hU.born v
  have H2 := H1.pm 4 [3, 0, 1, 2] rfl
  rw [← hb] at H2
  refine s_nxtM kw F hg hd hN ho hx hM (hU.vok hv) H2 1 0 rfl rfl rfl (fun hall w' a' H' F' => ?_) (fun q k cs v hq hn w' a' H' F' => ?_)
  · rw [hb] at H'
    exact h0 (fun q hq => hU.all hall q hq) w' a' ((St.mrShut hU hM ((H'.pm 4 [3, 1, 2, 0] rfl).tail)).pm 2 [1, 0] rfl) F'
  · replace H' : St w0 w' (HP.obj r (mit p c (bornsOf raw (vis ++ [q]))) :: HP.mo p raw c :: HP.es R ok es m :: HP.fact (RawUp es0 raw0 vis es raw ∧ MRaw ek agg es raw c) :: ls) := H'
    rw [hb] at H'
    exact h1 q k cs v (hU.at hq hn) hn w' a' ((St.mrShut hU hM ((St.pm (l := HP.obj r (mit p c (bornsOf raw0 (vis ++ [q]))) :: HP.mo p raw c :: HP.es R ok es m :: HP.fact (RawUp es0 raw0 vis es raw ∧ MRaw ek agg es raw c) :: ls) H' 4 [3, 1, 2, 0] rfl).tail)).pm 2 [1, 0] rfl) F'
theorem y_entR (F : Fr N a sl) (ho : o.op = .entry x) (hx : ev sl x = some (.pointer (some ⟨r, 0, none⟩))) {q : Nat} {k : κ} {cs : List Value} {v : β} (hq : es0[q]? = some (k, cs, v)) (hn : q ∉ vis) (H : St w0 w (HP.obj r (mit p c (bornsOf raw0 (vis ++ [q]))) :: HP.mr p ek agg R ok es0 raw0 c vis m :: ls)) :
    (execOp a.eval o).run P w = .ok (.value (.tuple [ek k, mkV agg cs].toArray)) w := by
  obtain ⟨es, raw, hU, hM, H1⟩ := (H.pm 2 [1, 0] rfl).mrOpen
  have H2 := H1.pm 4 [3, 0, 1, 2] rfl
  rw [← borns_eq hU.born] at H2
  exact y_entM F ho hx hM (by rw [hU.off q hn]; exact hq) H2 1 0 rfl rfl rfl
theorem St.mrEl (H : St w0 w (HP.mr p ek agg R ok es0 raw0 c vis m :: ls)) {q : Nat} {k : κ} {cs : List Value} {v : β} (hq : es0[q]? = some (k, cs, v)) (hn : q ∉ vis) : ok k ∧ St w0 w (HP.rc R cs v :: HP.mr p ek agg R ok es0 raw0 c vis m :: ls) := by
  obtain ⟨es, raw, hU, hM, H1⟩ := H.mrOpen
  obtain ⟨h, H2⟩ := H1.esEl 1 rfl (show es[q]? = some (k, cs, v) by rw [hU.off q hn]; exact hq)
  exact ⟨h, (St.mrShut hU hM ((H2.pm 4 [3, 1, 2, 0] rfl).tail)).pm 2 [1, 0] rfl⟩
/-- The entry of the round is written. -/
theorem s_mrSet (kw : Walk P ops W) (F : Fr N a sl) (hg : o.guard = none) (hd : o.dst = none) (hT : P.underlying T = some (.map K E)) (hK : KeyT P K ek ok) (ho : o.op = .mapUpdate T x y z) {q : Nat} {k : κ} {cs0 : List Value} {v0 : β} (hq : es0[q]? = some (k, cs0, v0)) (H : St w0 w (HP.mr p ek agg R ok es0 raw0 c (vis ++ [q]) m :: ls))
    (hx : ev sl x = some (.map p)) (hy : ev sl y = some (ek k)) {cs : List Value} (hz : ev sl z = some (mkV agg cs)) {v : β} (hrd : ∀ {B : Base}, (∀ (j : Nat) (C : HP), ls[j]? = some C → ∃ S, C.pr B w S) → R.rd B cs v)
    (hk : ∀ w', St w0 w' (HP.mr p ek agg R ok es0 raw0 c (vis ++ [q]) (fset k v m) :: ls) → W rest a w') : W (o :: rest) a w := by
  obtain ⟨es, raw, hU, hM, H1⟩ := H.mrOpen
  have hkq : (es.map (·.1))[q]? = some k := by rw [hU.key, List.getElem?_map, hq]; rfl
  obtain ⟨u, hu, hu1⟩ : ∃ u, es[q]? = some u ∧ u.1 = k := by
    rw [List.getElem?_map] at hkq
    cases h : es[q]? with
    | none => rw [h] at hkq; cases hkq
    | some u => rw [h] at hkq; exact ⟨u, rfl, Option.some.inj hkq⟩
  obtain ⟨k', cs1, v1⟩ := u
  simp only at hu1
  subst hu1
  cases p with
  | none =>
    have h00 : raw = #[] := by obtain ⟨_, _, _, h, _⟩ := H1.get 0 rfl; exact h
    have hl := hM.len
    have := (List.getElem?_eq_some_iff.1 hu).1
    rw [h00] at hl
    simp at hl; omega
  | some b =>
    refine s_moSet kw F hg hd hT hK ho hM hU hu H1 0 1 rfl rfl rfl hx hy hz (fun gg => hrd fun j C hj => gg (j + 3) C (by simpa using hj)) fun es' raw' w' hM' hU' _ H' => hk w' ?_
    exact St.mrShut hU' hM' (St.pm (l := HP.mo (some b) raw' c :: HP.es R ok es' (fset k' v m) :: HP.fact (RawUp es0 raw0 (vis ++ [q]) es raw ∧ MRaw ek agg es raw c) :: ls) H' 3 [2, 0, 1] rfl).tail
/-- A map with the same entries, in a block of its own. -/
theorem St.mmClone (H : St w0 w (HP.mm p ek agg R ok m :: ls)) : (p = none ∧ St w0 w (HP.mm none ek agg R ok m :: HP.mm p ek agg R ok m :: ls)) ∨ ∃ b raw c, p = some b ∧ w.heap[b]? = some (.map raw c) ∧ St w0 (w.alloc (.map raw c)) (HP.mm (some w.heap.size) ek agg R ok m :: HP.mm p ek agg R ok m :: ls) := by
  cases p with
  | none =>
    refine .inl ⟨rfl, H.more fun B hB hp => ?_⟩
    obtain ⟨S, es, hS⟩ := hp 0 _ rfl
    exact ⟨es, hS⟩
  | some b =>
    obtain ⟨raw, c, es, hM, hE, H1⟩ := H.moOpen 0 rfl
    replace H1 : St w0 w (HP.es R ok es m :: HP.mo (some b) raw c :: ls) := H1
    have hh : w.heap[b]? = some (.map raw c) := by obtain ⟨_, _, _, h, _⟩ := H1.get 1 rfl; exact h.1
    refine .inr ⟨b, raw, c, rfl, hh, ?_⟩
    have H2 : St w0 (w.alloc (.map raw c)) (HP.mo (some w.heap.size) raw c :: HP.es R ok es m :: HP.mo (some b) raw c :: ls) := (H1.newObj (.map raw c)).objMo 0 rfl
    have H3 : St w0 (w.alloc (.map raw c)) (HP.mm (some w.heap.size) ek agg R ok m :: HP.es R ok es m :: HP.mo (some b) raw c :: ls) := H2.moMm 0 1 hM rfl rfl
    have H4 : St w0 (w.alloc (.map raw c)) (HP.mm (some w.heap.size) ek agg R ok m :: HP.es R ok es m :: HP.mm (some b) ek agg R ok m :: ls) := H3.moMm 2 1 hM rfl rfl
    exact (H4.pm 3 [1, 0, 2] rfl).tail
end
end Go.Tri
