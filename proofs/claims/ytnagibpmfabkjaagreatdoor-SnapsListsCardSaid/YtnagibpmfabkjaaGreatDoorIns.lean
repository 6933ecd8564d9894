/- slices.Insert of one element and slices.Delete of one, at a slice of one's own: what hangs on no program. -/
import Derived.Test.YtnagibpmfabkjaaGreatDoorN
set_option linter.unusedSimpArgs false
set_option linter.unusedVariables false
namespace Go.Tri
open Go.RowKit Go.WideShapes
section
variable {P : Program} {t e : TypeId} {size bytes : Nat} {z : Value} {ops : Array Oper} {rest : List Oper} {o : Oper} {a : Act} {w0 w : World} {Q : Exit → Act → World → Prop} {ls : List HP}
theorem wl_appendSt (hE : ElemT P t e size bytes z) {s x : Operand} (ho : o.op = .call { callee := .builtin .append, args := #[s, x], argTypes := #[t, t] }) (hgd : Region.wanted o (yielded ops a.tmps) = true) {v u : Value} (hs : a.eval s = v) (hx : a.eval x = u)
    (H : St w0 w ls) (i : Nat) {n m : Nat} {xs news : List Value} (hi : ls[i]? = some (HP.own e size v n xs)) (hsrc : Sl w u m news) (hl : news.length = m * size) (h1 : Flat news) (h63 : n + m ≤ maxLen) (hbytes : (n + m) * bytes ≤ 140737488355328)
    (hk : ∀ v' w', St w0 w' (ls.set i (HP.own e size v' (n + m) (xs ++ news))) → wpList P ops Q rest (a.put o.dst v') w') : wpList P ops Q (o :: rest) a w := by
  refine BigFrame.wpList_want hgd fun K' hK' => ?_
  obtain ⟨v', w', hrun, H2⟩ := run_appendSt (P := P) H i hi hE hsrc hl h1 h63 hbytes o.type
  have ex : execOp a.eval o = (do pure (.value (← Builtin.append_ #[t, t] o.type #[v, u]))) := by
    unfold execOp; rw [ho]; simp [resolve, invoke, Go.builtin, hs, hx]
  unfold Oper.wp
  rw [ex, Sem.run_bind, hrun]
  exact hK' _ _ (hk v' w' H2)
/-- append with room, at a whole block. -/
theorem run_appendR (hE : ElemT P t e size bytes z) {b n cap bo so m c : Nat} {cur news : List Value} {u ty : TypeId} (hb : Blk w b cur u) (hr : Row w bo so news) (hn : news.length = m * size) (hf : Flat news) (hroom : n + m ≤ cap) (hfit : n * size + news.length ≤ cur.length) :
    (Builtin.append_ #[t, t] ty #[.slice (some ⟨b, 0, none⟩) n cap, .slice (some ⟨bo, so, none⟩) m c]).run P w =
      .ok (.slice (some ⟨b, 0, none⟩) (n + m) cap) (w.setRow b (cur.take (n * size) ++ news ++ cur.drop (n * size + news.length)).toArray) := by
  obtain ⟨i, hi, _, hs, _⟩ := hE.parts
  have hfc := run_firstCells_some (P := P) w size m ⟨bo, so, none⟩ m c news hn (fun j v hj => by rw [add_none]; exact hr j v hj)
  have hst := run_storeCells_at (P := P) b (n * size) u news 0 cur.toArray w hb (by simpa using hfit) hf
  simp only [Nat.add_zero] at hst
  simp [Builtin.append_, Go.run_underlying hE.ht, sizeOf, typeInfo, hi, hs, Builtin.lenOf, hroom, hfc, Addr.add_lit, hst]
theorem wl_appendR (hE : ElemT P t e size bytes z) {s x : Operand} (ho : o.op = .call { callee := .builtin .append, args := #[s, x], argTypes := #[t, t] }) (hgd : Region.wanted o (yielded ops a.tmps) = true) {b n cap : Nat} (hs : a.eval s = .slice (some ⟨b, 0, none⟩) n cap)
    {bo so m c : Nat} (hx : a.eval x = .slice (some ⟨bo, so, none⟩) m c) {cur news : List Value} {u : TypeId} (hb : Blk w b cur u) (hr : Row w bo so news) (hn : news.length = m * size) (hf : Flat news) (hroom : n + m ≤ cap) (hfit : n * size + news.length ≤ cur.length)
    (hk : ∀ w', Blk w' b (cur.take (n * size) ++ news ++ cur.drop (n * size + news.length)) u → Chg b w w' → wpList P ops Q rest (a.put o.dst (.slice (some ⟨b, 0, none⟩) (n + m) cap)) w') : wpList P ops Q (o :: rest) a w := by
  refine BigFrame.wpList_want hgd fun K' hK' => ?_
  have ex : execOp a.eval o = (do pure (.value (← Builtin.append_ #[t, t] o.type #[.slice (some ⟨b, 0, none⟩) n cap, .slice (some ⟨bo, so, none⟩) m c]))) := by
    unfold execOp; rw [ho]; simp [resolve, invoke, Go.builtin, hs, hx]
  unfold Oper.wp
  rw [ex, Sem.run_bind, run_appendR hE hb hr hn hf hroom hfit]
  exact hK' _ _ (hk _ (hb.set_same _) (Chg.setRow w b _))
theorem run_clearR (hE : ElemT P t e size bytes z) {b off n : Nat} {cur : List Value} {u : TypeId} (hb : Blk w b cur u) (hn : 0 < n) (hfl : Flat z.cells.toList) (hfit : off + n * size ≤ cur.length) :
    ∃ zs : List Value, zs.length = n * size ∧ ∀ (c : Nat) (ty : TypeId), (Builtin.clear_ #[t] ty #[.slice (some ⟨b, off, none⟩) n c]).run P w = .ok (.tuple #[]) (w.setRow b (cur.take off ++ zs ++ cur.drop (off + zs.length)).toArray) := by
  obtain ⟨i, hi, hz, hs, _⟩ := hE.parts
  have hzl : (Builtin.zeroCells z.cells n).toList.length = n * size := by
    rw [Array.length_toList, size_zeroCells, hE.hz]
  have hzf : Flat (Builtin.zeroCells z.cells n).toList := by
    intro v hv
    simp only [Builtin.zeroCells, Array.toList_map, List.mem_map, Array.toList_range, List.mem_range] at hv
    obtain ⟨q, hq, rfl⟩ := hv
    have h0 : 0 < z.cells.size := Nat.pos_of_ne_zero fun h => by rw [h, Nat.mul_zero] at hq; omega
    exact hfl _ (by rw [getElem!_pos z.cells _ (Nat.mod_lt _ h0)]; exact Array.getElem_mem_toList _)
  refine ⟨_, hzl, fun c ty => ?_⟩
  have hst := run_storeCells_at (P := P) b off u (Builtin.zeroCells z.cells n).toList 0 cur.toArray w hb (by rw [hzl]; simpa using hfit) hzf
  simp only [Nat.add_zero] at hst
  have hv : ∀ w, (zeroValue e).run P w = .ok z w := fun w => by unfold zeroValue; rw [Sem.run_bind, run_typeInfo hi]; show Sem.run P (match i.zero with | some v => pure v | none => _) w = _; rw [hz]; rfl
  obtain ⟨m, rfl⟩ : ∃ m, n = m + 1 := ⟨n - 1, by omega⟩
  simp [Builtin.clear_, Go.run_underlying hE.ht, hv, hst]
end
theorem Chg.trans {g : Nat} {w1 w2 w3 : World} (h : Chg g w1 w2) (k : Chg g w2 w3) : Chg g w1 w3 :=
  ⟨k.os.trans h.os, k.tape.trans h.tape, k.output.trans h.output, k.size.trans h.size, fun q hq => (k.oth q hq).trans (h.oth q hq)⟩
theorem Chg.drewN (g : Nat) (w : World) (n : Nat) : Chg g w (w.drewN n) := ⟨rfl, rfl, rfl, rfl, fun _ _ => rfl⟩
theorem cut_room (cur xs zs : List Value) (a b k : Nat) (hx : cur.take (a + k + b) = xs) (hl : a + k + b ≤ cur.length) (hz : zs.length = k) (C1 C2 : List Value) (h1 : C1 = cur.take a ++ xs.drop (a + k) ++ cur.drop (a + b)) (h2 : C2 = C1.take (a + b) ++ zs ++ C1.drop (a + b + zs.length)) :
    C1.length = cur.length ∧ C2.length = cur.length ∧ C2.take (a + b) = xs.take a ++ xs.drop (a + k) := by
  have hxl : xs.length = a + k + b := by rw [← hx, List.length_take]; omega
  have e1 : C1.length = cur.length := by rw [h1]; simp only [List.length_append, List.length_take, List.length_drop]; omega
  have e2 : C1.take (a + b) = xs.take a ++ xs.drop (a + k) := by
    rw [h1, List.take_append_of_le_length (by simp only [List.length_append, List.length_take, List.length_drop]; omega), List.take_of_length_le (by simp only [List.length_append, List.length_take, List.length_drop]; omega), ← hx, List.take_take, Nat.min_eq_left (by omega)]
  refine ⟨e1, ?_, ?_⟩
  · rw [h2]; simp only [List.length_append, List.length_take, List.length_drop]; omega
  · rw [h2, List.append_assoc, List.take_append_of_le_length (by simp only [List.length_take]; omega), List.take_take, Nat.min_self, e2]
/-- What slices.Insert of one element answers. -/
def InsSt (e size : Nat) (w0 : World) (l : List HP) (i n q : Nat) (xs cs : List Value) (en : Ending) (w' : World) : Prop :=
  ∃ v', en = .returned v' ∧ St w0 w' (l.set i (HP.own e size v' (n + 1) (xs.take (q * size) ++ cs ++ xs.drop (q * size))))
def DelSt (e size : Nat) (w0 : World) (l : List HP) (i g cap q r : Nat) (xs : List Value) (en : Ending) (w' : World) : Prop :=
  en = .returned (.slice (some ⟨g, 0, none⟩) (q + r) cap) ∧ St w0 w' (l.set i (HP.own e size (.slice (some ⟨g, 0, none⟩) (q + r) cap) (q + r) (xs.take (q * size) ++ xs.drop ((q + 1) * size))))
def insO {α : Type} (xs : List α) (i : Int) (vs : List α) : Option (List α) := if 0 ≤ i ∧ i ≤ xs.length ∧ xs.length ≤ 1000 ∧ vs.length = 1 then some (xs.take i.toNat ++ vs ++ xs.drop i.toNat) else none
def cutO {α : Type} (xs : List α) (i j : Int) : Option (List α) := if 0 ≤ i ∧ j = i + 1 ∧ j ≤ xs.length then some (xs.take i.toNat ++ xs.drop (i.toNat + 1)) else none
theorem ins_st {P : Program} {f : FuncId} {e k : Nat} {α : Type} {R : Rp α} (hk : R.n = k) (hp : 0 < k)
    (hEnd : ∀ {w0 w : World} {l : List HP} {s : Value} {n : Nat} {xs : List Value} (_ : St w0 w l) (i : Nat) (_ : l[i]? = some (HP.own e k s n xs)) (_ : n ≤ 1000) (bv cv : Nat) (cs : List Value) (_ : Row w bv 0 cs) (_ : cs.length = k) (_ : Flat cs),
      Calls P f #[s, .int .i64 n, .slice (some ⟨bv, 0, none⟩) 1 (cv + 1)] w (InsSt e k w0 l i n n xs cs))
    (hRoom : ∀ {w0 w : World} {l : List HP} {g cap n q : Nat} {xs cur : List Value} (_ : St w0 w l) (i : Nat) (_ : l[i]? = some (HP.own e k (.slice (some ⟨g, 0, none⟩) n cap) n xs)) (_ : Blk w g cur e) (_ : cur.length = cap * k) (_ : cur.take (n * k) = xs) (_ : Flat xs) (_ : cap ≤ maxLen) (_ : n ≤ 1000) (_ : q < n) (_ : n + 1 ≤ cap)
      (bv cv : Nat) (cs cb : List Value) (_ : Blk w bv cb e) (_ : Row w bv 0 cs) (_ : cs.length = k) (_ : Flat cs) (_ : cb ≠ []) (_ : bv ≠ g),
      Calls P f #[.slice (some ⟨g, 0, none⟩) n cap, .int .i64 q, .slice (some ⟨bv, 0, none⟩) 1 (cv + 1)] w (InsSt e k w0 l i n q xs cs))
    (hGrow : ∀ {w0 w : World} {l : List HP} {g n q : Nat} {xs : List Value} (_ : St w0 w l) (i : Nat) (_ : l[i]? = some (HP.own e k (.slice (some ⟨g, 0, none⟩) n n) n xs)) (_ : Row w g 0 xs) (_ : xs.length = n * k) (_ : Flat xs) (_ : g < w.heap.size) (_ : n ≤ 1000) (_ : q < n)
      (bv cv : Nat) (cs : List Value) (_ : Row w bv 0 cs) (_ : cs.length = k) (_ : Flat cs) (_ : bv < w.heap.size),
      Calls P f #[.slice (some ⟨g, 0, none⟩) n n, .int .i64 q, .slice (some ⟨bv, 0, none⟩) 1 (cv + 1)] w (InsSt e k w0 l i n q xs cs))
    {p q : Option Addr} {cap c2 : Nat} {xs vs zs : List α} {i : Int} (em : insO xs i vs = some zs) {w0 w : World} {l : List HP} (H : St w0 w (HP.ow R e p cap xs :: HP.ow R e q c2 vs :: l)) :
    Calls P f [.slice p xs.length cap, .int .i64 i, .slice q vs.length c2].toArray w fun en w' => ∃ v, en = .returned v ∧ ∃ (p' : Option Addr) (c' : Nat), v = .slice p' zs.length c' ∧ St w0 w' (HP.ow R e p' c' zs :: l) := by
  subst hk
  unfold insO at em
  split at em
  · rename_i hc
    obtain ⟨hi0, hil, hn, hv1⟩ := hc
    cases em
    obtain ⟨x, rfl⟩ : ∃ x, vs = [x] := List.length_eq_one_iff.1 hv1
    obtain ⟨k, rfl⟩ := Int.eq_ofNat_of_zero_le hi0
    simp only [Int.toNat_natCast]
    obtain ⟨css, c1, H1⟩ := H.owOpen 0 rfl
    obtain ⟨dss, d1, H2⟩ := H1.owOpen 2 rfl
    simp only [List.set_cons_succ, List.set_cons_zero] at H2
    have o1 := H2.owns 2 rfl
    have o2 := H2.owns 3 rfl
    have hfx : Flat css.flatten := by obtain ⟨B, S, hs, h, _⟩ := H2.get 1 (A := HP.rdl R css xs) rfl; exact RdL.flat h
    have hfd : Flat dss.flatten := by obtain ⟨B, S, hs, h, _⟩ := H2.get 0 (A := HP.rdl R dss [x]) rfl; exact RdL.flat h
    have hdl : dss.flatten.length = R.n := by rw [d1]; simp
    have hne : ∀ b, (Value.slice p xs.length cap).ownBlock = some b → (Value.slice q [x].length c2).ownBlock = some b → False := by
      obtain ⟨hv, B, f, hs, h1, h2, h3⟩ := H2
      intro b hb hb'
      have a1 := (h1 2 _ rfl).2 b hb
      have a2 := (h1 3 _ rfl).2 b hb'
      have := h2 2 3 b (by simp) (by simp) a1 a2
      omega
    obtain ⟨_, ⟨h, h'⟩ | ⟨g2, cap2, cur2, h, _, hg2, hc2, hm2, hs2, ht2⟩⟩ := o2
    · simp at h'
    cases h
    obtain ⟨cv, rfl⟩ : ∃ cv, c2 = cv + 1 := ⟨c2 - 1, by simp at hc2; omega⟩
    have hb2 : Blk w g2 cur2.toList e := by unfold Blk; simpa using hg2
    have hrow2 : Row w g2 0 dss.flatten := by
      have := hb2.row
      rw [← List.take_append_drop ([x].length * R.n) cur2.toList, ht2] at this
      exact this.left
    have hcb : ∀ (cur2 : Array Value) (cv : Nat), cur2.size = (cv + 1) * R.n → cur2.toList ≠ [] := fun cur2 cv hs h0 => by
      have h1 : cur2.size = 0 := by rw [← Array.length_toList, h0]; rfl
      rw [h1] at hs
      exact absurd hs (Nat.ne_of_lt (Nat.mul_pos (Nat.succ_pos cv) hp))
    have key : Calls P f #[.slice p xs.length cap, .int .i64 (k : Int), .slice (some ⟨g2, 0, none⟩) 1 (cv + 1)] w (InsSt e R.n w0 (HP.rdl R dss [x] :: HP.rdl R css xs :: HP.own e R.n (.slice p xs.length cap) xs.length css.flatten :: HP.own e R.n (.slice (some ⟨g2, 0, none⟩) [x].length (cv + 1)) [x].length dss.flatten :: l) 2 xs.length k css.flatten dss.flatten) := by
      by_cases hk : k = xs.length
      · subst hk
        exact hEnd H2 2 rfl hn g2 cv _ hrow2 hdl hfd
      · obtain ⟨_, ⟨h, h'⟩ | ⟨g, cap', cur, h, _, hg, hc, hm, hs, ht⟩⟩ := o1
        · simp only [h', Int.ofNat_zero] at hil; omega
        cases h
        have hbk : Blk w g cur.toList e := by unfold Blk; simpa using hg
        have hgb : g2 ≠ g := fun he => hne g rfl (by rw [he]; rfl)
        by_cases hr : xs.length + 1 ≤ cap
        · exact hRoom H2 2 rfl hbk (by simpa using hs) ht hfx hm hn (by omega) hr g2 cv _ cur2.toList hb2 hrow2 hdl hfd (hcb cur2 cv hs2) hgb
        · obtain rfl : cap = xs.length := by omega
          have hrow : Row w g 0 css.flatten := by
            have := hbk.row
            rw [← List.take_append_drop (xs.length * R.n) cur.toList, ht] at this
            exact this.left
          exact hGrow H2 2 rfl hrow c1 hfx hbk.lt hn (by omega) g2 cv _ hrow2 hdl hfd hb2.lt
    refine key.mono ?_
    rintro en w' ⟨v', rfl, H3⟩
    simp only [List.set_cons_succ, List.set_cons_zero] at H3
    obtain ⟨p', c', rfl, _, _⟩ := H3.ownForm 2 rfl
    have hzl : (xs.take k ++ [x] ++ xs.drop k).length = xs.length + 1 := by simp; omega
    refine ⟨_, rfl, p', c', by rw [hzl], ?_⟩
    obtain ⟨B, H4⟩ := H3.out
    obtain ⟨_, r1⟩ := H4.at (i := 0) (A := HP.rdl R dss [x]) rfl
    obtain ⟨_, r2⟩ := H4.at (i := 1) (A := HP.rdl R css xs) rfl
    have r3 : RdL R B (css.take k ++ dss ++ css.drop k) (xs.take k ++ [x] ++ xs.drop k) := (RdL.append (RdL.append (RdL.take k r2) r1) (RdL.drop k r2))
    have hfl : (css.take k ++ dss ++ css.drop k).flatten = css.flatten.take (k * R.n) ++ dss.flatten ++ css.flatten.drop (k * R.n) := by
      rw [List.flatten_append, List.flatten_append, flat_take k r2, flat_drop k r2]
    have H5 := (H4.set 2 (C := HP.ow R e p' c' (xs.take k ++ [x] ++ xs.drop k)) rfl fun S h => ⟨_, r3, by rw [hfl, hzl]; exact h⟩).st
    simp only [List.set_cons_succ, List.set_cons_zero] at H5
    exact H5.pm 4 [2] rfl
  · cases em
theorem del_st {P : Program} {f : FuncId} {e k : Nat} {α : Type} {R : Rp α} (hk : R.n = k) (hp : 0 < k)
    (hDel : ∀ {w0 w : World} {l : List HP} {g cap q r : Nat} {xs cur : List Value} (_ : St w0 w l) (i : Nat) (_ : l[i]? = some (HP.own e k (.slice (some ⟨g, 0, none⟩) (q + 1 + r) cap) (q + 1 + r) xs)) (_ : Blk w g cur e) (_ : cur.length = cap * k) (_ : cur.take ((q + 1 + r) * k) = xs) (_ : Flat xs) (_ : cap ≤ maxLen) (_ : q + 1 + r ≤ cap),
      Calls P f #[.slice (some ⟨g, 0, none⟩) (q + 1 + r) cap, .int .i64 (q : Int), .int .i64 ((q + 1 : Nat) : Int)] w (DelSt e k w0 l i g cap q r xs))
    {p : Option Addr} {cap : Nat} {xs zs : List α} {i j : Int} (em : cutO xs i j = some zs) {w0 w : World} {l : List HP} (H : St w0 w (HP.ow R e p cap xs :: l)) :
    Calls P f [.slice p xs.length cap, .int .i64 i, .int .i64 j].toArray w fun en w' => ∃ v, en = .returned v ∧ ∃ (p' : Option Addr) (c' : Nat), v = .slice p' zs.length c' ∧ St w0 w' (HP.ow R e p' c' zs :: l) := by
  subst hk
  unfold cutO at em
  split at em
  · rename_i hc
    obtain ⟨hi0, rfl, hjl⟩ := hc
    cases em
    obtain ⟨q, rfl⟩ := Int.eq_ofNat_of_zero_le hi0
    simp only [Int.toNat_natCast]
    obtain ⟨r, hr⟩ : ∃ r, xs.length = q + 1 + r := ⟨xs.length - (q + 1), by omega⟩
    obtain ⟨css, c1, H1⟩ := H.owOpen 0 rfl
    simp only [List.set_cons_zero] at H1
    have o1 := H1.owns 1 rfl
    have hfx : Flat css.flatten := by obtain ⟨B, S, hs, h, _⟩ := H1.get 0 (A := HP.rdl R css xs) rfl; exact RdL.flat h
    obtain ⟨_, ⟨h, h'⟩ | ⟨g, cap', cur, h, _, hg, hc, hm, hs, ht⟩⟩ := o1
    · omega
    cases h
    have hbk : Blk w g cur.toList e := by unfold Blk; simpa using hg
    have key := hDel (q := q) (r := r) (cap := cap) H1 1 (by rw [← hr]; rfl) hbk (by simpa using hs) (by rw [← hr]; exact ht) hfx hm (by omega)
    rw [← hr] at key
    have hz : (xs.take q ++ xs.drop (q + 1)).length = q + r := by simp; omega
    refine key.mono ?_
    rintro en w' ⟨rfl, H3⟩
    simp only [List.set_cons_succ, List.set_cons_zero] at H3
    refine ⟨_, rfl, _, cap, by rw [hz], ?_⟩
    obtain ⟨B, H4⟩ := H3.out
    obtain ⟨_, r2⟩ := H4.at (i := 0) (A := HP.rdl R css xs) rfl
    have r3 : RdL R B (css.take q ++ css.drop (q + 1)) (xs.take q ++ xs.drop (q + 1)) := RdL.append (RdL.take q r2) (RdL.drop (q + 1) r2)
    have hfl : (css.take q ++ css.drop (q + 1)).flatten = css.flatten.take (q * R.n) ++ css.flatten.drop ((q + 1) * R.n) := by
      rw [List.flatten_append, flat_take q r2, flat_drop (q + 1) r2]
    have H5 := (H4.set 1 (C := HP.ow R e (some ⟨g, 0, none⟩) cap (xs.take q ++ xs.drop (q + 1))) rfl fun S h => ⟨_, r3, by rw [hfl, hz]; exact h⟩).st
    simp only [List.set_cons_succ, List.set_cons_zero] at H5
    exact H5.tail
  · cases em
end Go.Tri
