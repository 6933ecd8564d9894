/- Data: lists whose elements are owned slices of bytes; bytes copied over an owned slice. -/
import Derived.Test.YtfepdfjhejkemaaDoorD14
set_option linter.unusedSimpArgs false
set_option linter.unusedVariables false
namespace Go.Tri
open Go.RowKit
theorem St.split {w0 w : World} {A : HP} {l : List HP} (H : St w0 w (A :: l)) {ι : Type} {C D : ι → HP} (hS : ∀ {B : Base} {S : Nat → Prop}, A.pr B w S → ∃ i S1 S2, (C i).pr B w S1 ∧ (D i).pr B w S2 ∧ (∀ b, S1 b → S2 b → False) ∧ (∀ b, S1 b → S b) ∧ (∀ b, S2 b → S b)) : ∃ i, St w0 w (C i :: D i :: l) := by
  obtain ⟨hv, B, f, hs, h1, h2, h3⟩ := H
  obtain ⟨i, S1, S2, hC, hD, hd, s1, s2⟩ := hS (h1 0 A rfl)
  refine ⟨i, hv, B, fun j => match j with | 0 => S1 | 1 => S2 | j + 2 => f (j + 1), hs, ?_, ?_, ?_⟩
  · intro j E hj
    match j with
    | 0 => simp at hj; subst hj; exact hC
    | 1 => simp at hj; subst hj; exact hD
    | j + 2 => exact h1 (j + 1) E (by simpa using hj)
  · intro j k b hj hk hfj hfk
    simp only [List.length_cons] at hj hk
    match j, k with
    | 0, 0 => rfl
    | 0, 1 => exact (hd b hfj hfk).elim
    | 0, k + 2 => have := h2 0 (k + 1) b (by simp) (by simp; omega) (s1 b hfj) hfk; omega
    | 1, 0 => exact (hd b hfk hfj).elim
    | 1, 1 => rfl
    | 1, k + 2 => have := h2 0 (k + 1) b (by simp) (by simp; omega) (s2 b hfj) hfk; omega
    | j + 2, 0 => have := h2 0 (j + 1) b (by simp) (by simp; omega) (s1 b hfk) hfj; omega
    | j + 2, 1 => have := h2 0 (j + 1) b (by simp) (by simp; omega) (s2 b hfk) hfj; omega
    | j + 2, k + 2 => have := h2 (j + 1) (k + 1) b (by simp; omega) (by simp; omega) hfj hfk; omega
  · intro j b hj hf
    simp only [List.length_cons] at hj
    match j with
    | 0 => exact h3 0 b (by simp) (s1 b hf)
    | 1 => exact h3 0 b (by simp) (s2 b hf)
    | j + 2 => exact h3 (j + 1) b (by simp; omega) hf
/-- Owned slices of bytes, whose headers are the cells css; but for those that h tells. -/
def HP.os (e1 : TypeId) (css : List (List Value)) (xs : List (List UInt8)) (h : Nat → Prop) : HP :=
  ⟨fun B w S => ∃ f : Nat → Nat → Prop, css.length = xs.length ∧ (∀ (i : Nat) (cs : List Value) (x : List UInt8), css[i]? = some cs → xs[i]? = some x → ∃ q c, cs = [.slice q x.length c] ∧ (¬ h i → (HP.ow rByte e1 q c x).pr B w (f i))) ∧ (∀ i j b, f i b → f j b → i = j) ∧ (∀ i b, f i b → S b),
    fun ⟨f, h0, h1, h2, h3⟩ hS => ⟨f, h0, fun i cs x hc hx => by
      obtain ⟨q, c, e, ho⟩ := h1 i cs x hc hx
      exact ⟨q, c, e, fun hn => HP.loc _ (ho hn) fun b hb => hS b (h3 i b hb)⟩, h2, h3⟩,
    fun ⟨f, h0, h1, h2⟩ hl => ⟨f, h0, fun i cs x hc hx => by
      obtain ⟨q, c, e, ho⟩ := h1 i cs x hc hx
      exact ⟨q, c, e, fun hn => HP.mono _ (ho hn) hl⟩, h2⟩⟩
def noh : Nat → Prop := fun _ => False
def ath (k : Nat) : Nat → Prop := fun i => i = k
section
variable {w0 w : World} {l : List HP} {e1 : TypeId} {css : List (List Value)} {xs : List (List UInt8)}
theorem St.osNil (H : St w0 w l) (e1 : TypeId) : St w0 w (HP.os e1 [] [] noh :: l) :=
  H.more fun B _ _ => ⟨fun _ _ => False, rfl, by simp, by simp, by simp⟩
theorem St.osHdr (H : St w0 w l) (i : Nat) {h : Nat → Prop} (hi : l[i]? = some (HP.os e1 css xs h)) {k : Nat} {x : List UInt8} (hx : xs[k]? = some x) : ∃ q c, css[k]? = some [.slice q x.length c] := by
  obtain ⟨B, S, _, ⟨f, h0, h1, _⟩, _⟩ := H.get i hi
  have hk : k < css.length := by rw [h0]; exact (List.getElem?_eq_some_iff.1 hx).1
  obtain ⟨q, c, e, _⟩ := h1 k _ x (List.getElem?_eq_getElem hk) hx
  exact ⟨q, c, by rw [List.getElem?_eq_getElem hk, e]⟩
/-- One of them is taken out. -/
theorem St.osTake (H : St w0 w (HP.os e1 css xs noh :: l)) {k : Nat} {x : List UInt8} (hx : xs[k]? = some x) : ∃ q c, css[k]? = some [.slice q x.length c] ∧ St w0 w (HP.ow rByte e1 q c x :: HP.os e1 css xs (ath k) :: l) := by
  obtain ⟨q, c, hc⟩ := H.osHdr 0 rfl hx
  obtain ⟨_, H2⟩ := H.split (ι := Unit) (C := fun _ => HP.ow rByte e1 q c x) (D := fun _ => HP.os e1 css xs (ath k)) fun {B S} ⟨f, h0, h1, h2, h3⟩ => by
    refine ⟨(), f k, fun b => ∃ i, i ≠ k ∧ f i b, ?_, ⟨fun i b => i ≠ k ∧ f i b, h0, fun i cs y hcs hy => ?_, fun i j b ⟨_, hi⟩ ⟨_, hj⟩ => h2 i j b hi hj, fun i b hb => ⟨i, hb⟩⟩, fun b hb ⟨i, hi, hf⟩ => hi (h2 i k b hf hb), fun b hb => h3 k b hb, fun b ⟨i, _, hf⟩ => h3 i b hf⟩
    · obtain ⟨q', c', e, ho⟩ := h1 k _ x hc hx
      simp only [List.cons.injEq, and_true, Value.slice.injEq] at e
      obtain ⟨rfl, _, rfl⟩ := e
      exact ho (fun h => h)
    · obtain ⟨q', c', e, ho⟩ := h1 i cs y hcs hy
      refine ⟨q', c', e, fun hn => ?_⟩
      have he : (fun b => i ≠ k ∧ f i b) = f i := by
        funext b
        have : i ≠ k := hn
        simp [this]
      have h5 := ho (fun h => h)
      rw [← he] at h5
      exact h5
  exact ⟨q, c, hc, H2⟩
/-- It is put back, perhaps with other bytes. -/
theorem St.osPut {k : Nat} {q : Option Addr} {c : Nat} {x : List UInt8} (H : St w0 w (HP.ow rByte e1 q c x :: HP.os e1 css xs (ath k) :: l)) (hc : css[k]? = some [.slice q x.length c]) : St w0 w (HP.os e1 css (xs.set k x) noh :: l) := by
  refine H.join fun {B} S T h1 h2 hd => ?_
  obtain ⟨f, h0, h2, h3, h4⟩ := h2
  refine ⟨fun i b => if i = k then S b else f i b ∧ T b, by rw [h0, List.length_set], fun i cs y hcs hy => ?_, fun i j b hi hj => ?_, fun i b hb => ?_⟩
  · rw [List.getElem?_set] at hy
    by_cases e : k = i
    · subst e
      rw [if_pos rfl] at hy
      split at hy
      · cases hy
        rw [hc] at hcs; cases hcs
        exact ⟨q, c, rfl, fun _ => by simpa using h1⟩
      · cases hy
    · rw [if_neg e] at hy
      obtain ⟨q', c', e2, ho⟩ := h2 i cs y hcs hy
      refine ⟨q', c', e2, fun _ => ?_⟩
      have he : (fun b => if i = k then S b else f i b ∧ T b) = f i := by
        funext b
        rw [if_neg (fun h => e h.symm)]
        exact propext ⟨fun h => h.1, fun h => ⟨h, h4 i b h⟩⟩
      show (HP.ow rByte e1 q' c' y).pr B w (fun b => if i = k then S b else f i b ∧ T b)
      rw [he]
      exact ho fun h => e h.symm
  · by_cases e1 : i = k
    · by_cases e2 : j = k
      · omega
      · simp only [if_pos e1, if_neg e2] at hi hj
        exact (hd b hi hj.2).elim
    · by_cases e2 : j = k
      · simp only [if_neg e1, if_pos e2] at hi hj
        exact (hd b hj hi.2).elim
      · simp only [if_neg e1, if_neg e2] at hi hj
        exact h3 i j b hi.1 hj.1
  · by_cases e : i = k
    · simp only [if_pos e] at hb; exact .inl hb
    · simp only [if_neg e] at hb; exact .inr hb.2
/-- One more behind them. -/
theorem St.osSnoc {q : Option Addr} {c : Nat} {x : List UInt8} (H : St w0 w (HP.ow rByte e1 q c x :: HP.os e1 css xs noh :: l)) : St w0 w (HP.os e1 (css ++ [[.slice q x.length c]]) (xs ++ [x]) noh :: l) := by
  refine H.join fun {B} S T h1 h2 hd => ?_
  obtain ⟨f, h0, h2, h3, h4⟩ := h2
  refine ⟨fun i b => if i = xs.length then S b else f i b ∧ T b, by simp [h0], fun i cs y hcs hy => ?_, fun i j b hi hj => ?_, fun i b hb => ?_⟩
  · by_cases e : i = xs.length
    · subst e
      rw [List.getElem?_append_right (Nat.le_refl _), Nat.sub_self] at hy
      rw [← h0, List.getElem?_append_right (Nat.le_refl _), Nat.sub_self] at hcs
      cases hy; cases hcs
      exact ⟨q, c, rfl, fun _ => by simpa using h1⟩
    · have hi : i < xs.length := by
        have := (List.getElem?_eq_some_iff.1 hy).1
        simp at this; omega
      rw [List.getElem?_append_left hi] at hy
      rw [List.getElem?_append_left (by omega)] at hcs
      obtain ⟨q', c', e2, ho⟩ := h2 i cs y hcs hy
      refine ⟨q', c', e2, fun _ => ?_⟩
      have he : (fun b => if i = xs.length then S b else f i b ∧ T b) = f i := by
        funext b
        rw [if_neg e]
        exact propext ⟨fun h => h.1, fun h => ⟨h, h4 i b h⟩⟩
      show (HP.ow rByte e1 q' c' y).pr B w (fun b => if i = xs.length then S b else f i b ∧ T b)
      rw [he]
      exact ho fun h => h
  · by_cases e1 : i = xs.length
    · by_cases e2 : j = xs.length
      · omega
      · simp only [if_pos e1, if_neg e2] at hi hj
        exact (hd b hi hj.2).elim
    · by_cases e2 : j = xs.length
      · simp only [if_neg e1, if_pos e2] at hi hj
        exact (hd b hj hi.2).elim
      · simp only [if_neg e1, if_neg e2] at hi hj
        exact h3 i j b hi.1 hj.1
  · by_cases e : i = xs.length
    · simp only [if_pos e] at hb; exact .inl hb
    · simp only [if_neg e] at hb; exact .inr hb.2
/-- They are written no more. -/
theorem St.osFrz (H : St w0 w (HP.os e1 css xs noh :: l)) : St w0 w (HP.rdl (rSl rByte) css xs :: l) := by
  refine H.freezeH fun {B B'} S h hle hw => ?_
  obtain ⟨f, h0, h1, h2, h3⟩ := h
  have key : ∀ (css : List (List Value)) (xs : List (List UInt8)), css.length = xs.length → (∀ (i : Nat) (cs : List Value) (x : List UInt8), css[i]? = some cs → xs[i]? = some x → (rSl rByte).rd B' cs x) → RdL (rSl rByte) B' css xs := by
    intro css
    induction css with
    | nil =>
      intro xs hl _
      cases xs with
      | nil => trivial
      | cons x xs => simp at hl
    | cons cs css ih =>
      intro xs hl hr
      cases xs with
      | nil => simp at hl
      | cons x xs => exact ⟨hr 0 cs x rfl rfl, ih xs (by simpa using hl) fun i c y hc hy => hr (i + 1) c y (by simpa using hc) (by simpa using hy)⟩
  refine key css xs h0 fun i cs x hc hx => ?_
  obtain ⟨q, c, e, ho⟩ := h1 i cs x hc hx
  obtain ⟨cs0, r1, r2⟩ := ho (fun h => h)
  exact ⟨q, c, e, cs0, r1.mono hle, fun w' hw' => ownsRow_sl (HP.loc _ r2 (fun b hb => hw w' hw' b (h3 i b hb))).1⟩
end
/-! ### Bytes over an owned slice -/
section
variable {P : Program} {t e : TypeId} {w0 w : World} {ls : List HP} {ops : Array Oper} {rest : List Oper} {o : Oper} {a : Act} {W : List Oper → Act → World → Prop} {N : Fs} {l : List (Nat × Value)} {d : Nat} {x y : Operand}
theorem run_copyOw {t' ty : TypeId} {bytes : Nat} {z : Value} (hE : ElemT P t e 1 bytes z) (H : St w0 w ls) (i : Nat) {p : Option Addr} {cap : Nat} {xs zs : List UInt8} {e0 : TypeId} (hi : ls[i]? = some (HP.ow rByte e0 p cap xs)) {dp : Option Addr} {q dn dc : Nat} (hdp : 0 < dn → ∃ b, p = some ⟨b, 0, none⟩ ∧ dp = some ⟨b, q, none⟩) (hfit : q + dn ≤ xs.length) {p2 : Option Addr} {c2 : Nat} (hs : Sl w (.slice p2 zs.length c2) zs.length (bcells zs)) :
    ∃ w', (Builtin.copy_ #[t, t'] ty #[.slice dp dn dc, .slice p2 zs.length c2]).run P w = .ok (.int .i64 ((min zs.length dn : Nat) : Int)) w' ∧ St w0 w' (ls.set i (HP.ow rByte e0 p cap (putAt xs q (zs.take dn)))) := by
  by_cases h0 : dn = 0
  · subst h0
    have hfc : (Builtin.firstCells 1 0 (.slice p2 zs.length c2)).run P w = .ok #[] w := by
      cases p2 with
      | none => rfl
      | some ad =>
        have := run_firstCells_some (P := P) (w := w) 1 0 ad zs.length c2 [] rfl (by simp)
        simpa using this
    refine ⟨w, ?_, ?_⟩
    · unfold Builtin.copy_
      cases dp with
      | none => simp [Go.run_underlying hE.ht, Builtin.lenOf, hE.run_size, hfc, goInt]
      | some ad =>
        have hst : (storeCells ad []).run P w = .ok () w := rfl
        simp [Go.run_underlying hE.ht, Builtin.lenOf, hE.run_size, hfc, goInt, hst]
    · have : putAt xs q (zs.take 0) = xs := by simp [putAt]
      rw [this, set_same hi]; exact H
  · obtain ⟨b, rfl, rfl⟩ := hdp (by omega)
    obtain ⟨B, HB⟩ := H.out
    obtain ⟨S0, css0, c0, ⟨hl0, ⟨h, h'⟩ | ⟨g, cap', cur, h, hb0, hg, hnc, hm, hsz, ht⟩⟩, hS⟩ := HB.at hi
    · cases h
    · cases h
      have e1 : rByte.n = 1 := rfl
      rw [rdl_bytes_flat c0] at ht hl0
      rw [e1, Nat.mul_one] at ht hsz hl0
      have hb : Blk w b cur.toList e0 := by unfold Blk; simpa using hg
      have hflat : Flat (bcells zs) := bcells_flat _
      have hszl : cur.toList.length = cap := by simpa using hsz
      have hr := run_copyBlk (P := P) (t' := t') (ty := ty) (dc := dc) hE hb hs (bcells_length _) (d := q) (dn := dn) (by omega) hflat
      refine ⟨_, hr, (HB.chg (A' := HP.ow rByte e0 (some ⟨b, 0, none⟩) cap (putAt xs q (zs.take dn))) i hi (g := b) (fun S hA => by obtain ⟨_, _, _, h⟩ := hA; exact h b rfl) (Chg.setRow w b _) (fun S hA => ?_)).st⟩
      have hSb : S b := by obtain ⟨_, _, _, h⟩ := hA; exact h b rfl
      have hlen : (putAt xs q (zs.take dn)).length = xs.length := putAt_len _ _ _ (by simp; omega)
      refine ⟨_, rdl_bytes B (putAt xs q (zs.take dn)), ⟨?_, .inr ⟨b, cap, _, by rw [hlen], Nat.zero_le _, hb.set_same _, by rw [hlen]; exact hnc, hm, ?_, ?_⟩⟩, fun b' hb' => by simp [Value.ownBlock] at hb'; subst hb'; exact hSb⟩
      · rw [rdl_bytes_flat (rdl_bytes B _), bcells_length, e1, Nat.mul_one]
      · simp only [List.size_toArray, List.length_append, List.length_take, List.length_drop, hszl, bcells_length, e1, Nat.mul_one]; omega
      · rw [rdl_bytes_flat (rdl_bytes B _), e1, Nat.mul_one, hlen]
        have hx : bcells xs = cur.toList.take xs.length := ht.symm
        have h1 : bcells (putAt xs q (zs.take dn)) = (bcells xs).take q ++ (bcells zs).take dn ++ (bcells xs).drop (q + ((bcells zs).take dn).length) := by
          simp only [putAt, bcells, List.map_append, List.map_take, List.map_drop, List.length_take, List.length_map]
        rw [h1, hx]
        have h2 : (List.take dn (bcells zs)).length ≤ dn := by rw [List.length_take]; exact Nat.min_le_left _ _
        simp only [List.toList_toArray]
        rw [List.take_append, List.take_append, List.take_take, List.length_take, hszl, List.drop_take, List.length_append, List.length_take, hszl]
        have e2 : min q cap = q := by omega
        simp only [e2]
        have e3 : List.take (xs.length - q) (List.take dn (bcells zs)) = List.take dn (bcells zs) := List.take_of_length_le (by omega)
        rw [e3, List.take_take, Nat.min_eq_left (show q ≤ xs.length by omega)]
        rw [Nat.min_eq_right (show q ≤ xs.length by omega)]
theorem s_cpyO (k : Walk P ops W) (F : Fr N a l) (hg : o.guard = none) (hd : o.dst = some d) (hN : Nat.blt d N.n = true) {t' : TypeId} {bytes : Nat} {z : Value} (hE : ElemT P t e 1 bytes z) (ho : o.op = .call { callee := .builtin .copy, args := #[x, y], argTypes := #[t, t'] })
    (H : St w0 w ls) (i j : Nat) {p : Option Addr} {cap : Nat} {xs zs : List UInt8} {e0 : TypeId} (hi : ls[i]? = some (HP.ow rByte e0 p cap xs)) {dp : Option Addr} {q dn dc : Nat} (hx : ev l x = some (.slice dp dn dc)) (hdp : 0 < dn → ∃ b, p = some ⟨b, 0, none⟩ ∧ dp = some ⟨b, q, none⟩) (hfit : q + dn ≤ xs.length) {p2 : Option Addr} {c2 : Nat} (hy : ev l y = some (.slice p2 zs.length c2)) (hj : ls[j]? = some (HP.sl rByte p2 c2 zs))
    (hk : ∀ w' a', St w0 w' (ls.set i (HP.ow rByte e0 p cap (putAt xs q (zs.take dn)))) → Fr N a' ((d, .int .i64 ((min zs.length dn : Nat) : Int)) :: l) → W rest a' w') : W (o :: rest) a w := by
  obtain ⟨B, S, hs, ⟨css, c1, c2'⟩, _⟩ := H.get j hj
  have hsl := c2' w hs
  rw [rdl_bytes_flat c1] at hsl
  obtain ⟨w', hr, H'⟩ := run_copyOw (P := P) (t' := t') (ty := o.type) (dc := dc) hE H i hi hdp hfit hsl
  refine s_val (v := .int .i64 ((min zs.length dn : Nat) : Int)) (w' := w') k F hg hd hN (by rw [ho]; rfl) ?_ fun a' F' => hk w' a' H' F'
  unfold execOp
  simp [ho, resolve, invoke, builtin, F.eval hx, F.eval hy, hr]
/-- Where an owned slice's rest lies. -/
theorem ow_sub {p : Option Addr} {cap : Nat} {xs zs : List UInt8} {e0 : TypeId} (H : St w0 w ls) (i : Nat) (hi : ls[i]? = some (HP.ow rByte e0 p cap xs)) {lo hi' : Int} (hz : slcO xs lo hi' = some zs) : (0 < zs.length → ∃ b, p = some ⟨b, 0, none⟩ ∧ shp p cap lo.toNat 1 = some ⟨b, lo.toNat, none⟩) ∧ lo.toNat + zs.length ≤ xs.length := by
  obtain ⟨h1, rfl, h2⟩ := slcO_some hz
  have hcap := H.owForm i hi
  have hlen : ((xs.take hi'.toNat).drop lo.toNat).length = hi'.toNat - lo.toNat := by simp; omega
  refine ⟨fun h0 => ?_, by rw [hlen]; omega⟩
  rw [hlen] at h0
  have hx : 0 < xs.length := by omega
  obtain ⟨b, rfl⟩ := H.owP i hi (List.getElem?_eq_getElem hx)
  refine ⟨b, rfl, ?_⟩
  rw [shp_ne (by omega)]
  simp
end
end Go.Tri
