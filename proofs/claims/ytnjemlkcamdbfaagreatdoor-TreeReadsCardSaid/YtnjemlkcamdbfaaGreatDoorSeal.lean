/- Calls in a sealed world: what they make is new; pieces that are lent. -/
import Derived.Test.YtnjemlkcamdbfaaGreatDoorOp
set_option linter.unusedSimpArgs false
set_option linter.unusedVariables false
namespace Go.Tri
open Go.RowKit
/-- What stays, from the block n on. -/
def Base.ge (B : Base) (n : Nat) : Base := fun b => if n ≤ b then B b else none
theorem Base.ge_le (B : Base) (n : Nat) : (B.ge n).le B := fun b o h => by
  unfold Base.ge at h
  split at h
  · exact h
  · cases h
theorem Base.ge_mono {B B' : Base} (h : B.le B') (n : Nat) : (B.ge n).le (B'.ge n) := fun b o hb => by
  unfold Base.ge at hb ⊢
  split at hb
  · rename_i hn; rw [if_pos hn]; exact h b o hb
  · cases hb
section
variable {α : Type} {R : Rp α} {w0 w w' : World} {l : List HP} {p : Option Addr} {cap n0 : Nat} {xs : List α} {e : TypeId}
/-- A slice that stays, all of it in memory from the block n0 on. -/
def HP.nsl (n0 : Nat) (R : Rp α) (p : Option Addr) (cap : Nat) (xs : List α) : HP :=
  HP.pe (fun B => (HP.sl R p cap xs).pr (B.ge n0) default (fun _ => False) ∧ (0 < xs.length → ∃ b cur e, p = some ⟨b, 0, none⟩ ∧ (B.ge n0) b = some (.cells cur e (0, 0)) ∧ xs.length ≤ maxLen))
    (fun h hl => ⟨HP.mono (HP.sl R p cap xs) h.1 (Base.ge_mono hl n0), fun h0 => by obtain ⟨b, cur, e, h1, h2, h3⟩ := h.2 h0; exact ⟨b, cur, e, h1, Base.ge_mono hl n0 _ _ h2, h3⟩⟩)
def rSlN (n0 : Nat) (R : Rp α) : Rp (List α) := ⟨1, fun B cs xs => ∃ p cap, cs = [.slice p xs.length cap] ∧ (HP.nsl n0 R p cap xs).pr B default (fun _ => False), fun ⟨p, cap, h, k⟩ hl => ⟨p, cap, h, HP.mono _ k hl⟩, fun ⟨p, cap, h, k⟩ => by rw [h]; rfl, fun ⟨p, cap, h, k⟩ => by rw [h]; intro v hv; simp at hv; subst hv; rfl⟩
theorem rSlN_weak {B : Base} {cs : List Value} (h : (rSlN n0 R).rd B cs xs) : (rSl R).rd B cs xs := by
  obtain ⟨p, cap, h1, h2⟩ := h
  exact ⟨p, cap, h1, HP.mono (HP.sl R p cap xs) h2.1 (Base.ge_le B n0)⟩
/-- An owned slice is written no more: it stands in new memory. -/
theorem St.frzN (H : St w0 w l) (i : Nat) (hR : ∀ {B B' : Base} {css : List (List Value)}, RdL R B css xs → B.le B' → RdL R (B'.ge w0.heap.size) css xs) (hi : l[i]? = some (HP.ow R e p cap xs)) : St w0 w (HP.nsl w0.heap.size R p cap xs :: l.eraseIdx i) := by
  have H1 := H.mv i hi
  have hn : ∀ {B : Base} (S : Nat → Prop), (∀ b, S b → w0.heap.size ≤ b) → True := fun _ _ => trivial
  classical
  obtain ⟨hv, B, f, hs, h1, h2, h3⟩ := H1
  let B' : Base := fun b => if f 0 b then w.heap[b]? else B b
  have hle : B.le B' := by
    intro b o hb
    have : ¬ f 0 b := fun hf => by have := (h3 0 b (by simp) hf).2.1; rw [hb] at this; cases this
    show (if f 0 b then _ else _) = _
    rw [if_neg this]; exact hb
  have hsub : Sub B' w := by
    intro b o hb
    have hb' : (if f 0 b then w.heap[b]? else B b) = some o := hb
    split at hb'
    · exact hb'
    · exact hs b o hb'
  refine ⟨hv, B', fun i => match i with | 0 => fun _ => False | i + 1 => f (i + 1), hsub, ?_, ?_, ?_⟩
  · intro i D hi
    cases i with
    | zero =>
      simp at hi; subst hi
      obtain ⟨css, c1, c2⟩ := h1 0 _ rfl
      have hin : ∀ b, f 0 b → (B'.ge w0.heap.size) b = w.heap[b]? := fun b hf => by
        have hge := (h3 0 b (by simp) hf).2.2
        unfold Base.ge
        rw [if_pos hge]
        show (if f 0 b then _ else _) = _
        rw [if_pos hf]
      refine ⟨⟨css, hR c1 hle, fun w' hw' => ?_⟩, fun h0 => ?_⟩
      · refine ownsRow_sl (HP.loc _ c2 (w' := w') fun b hf => ?_).1
        have hlt := (h3 0 b (by simp) hf).1
        have : (B'.ge w0.heap.size) b = some w.heap[b] := by rw [hin b hf]; exact Array.getElem?_eq_getElem hlt
        rw [hw' b _ this]; exact (Array.getElem?_eq_getElem hlt).symm
      · obtain ⟨⟨_, ⟨hx, hx0⟩ | ⟨g, cap', cur, hx, _, hheap, hm1, hm2, _⟩⟩, hS⟩ := c2
        · omega
        · obtain ⟨rfl, _, _⟩ := Value.slice.inj hx
          exact ⟨g, cur, e, rfl, by rw [hin g (hS g rfl)]; exact hheap, Nat.le_trans hm1 hm2⟩
    | succ i => exact D.mono (h1 (i + 1) D (by simpa using hi)) hle
  · intro i j b hi hj hfi hfj
    cases i with
    | zero => exact hfi.elim
    | succ i =>
      cases j with
      | zero => exact hfj.elim
      | succ j => exact h2 (i + 1) (j + 1) b hi hj hfi hfj
  · intro i b hi hf
    cases i with
    | zero => exact hf.elim
    | succ i =>
      have h4 := h3 (i + 1) b hi hf
      refine ⟨h4.1, ?_, h4.2.2⟩
      show (if f 0 b then _ else _) = _
      rw [if_neg (fun h0 => by have := h2 0 (i + 1) b (by simp) hi h0 hf; omega)]
      exact h4.2.1
theorem St.nslSl (H : St w0 w l) (i : Nat) (hi : l[i]? = some (HP.nsl n0 R p cap xs)) : St w0 w (HP.sl R p cap xs :: l) :=
  H.more fun B _ g => by
    obtain ⟨S, h⟩ := g i _ hi
    exact HP.mono (HP.sl R p cap xs) (w := default) (S := fun _ => False) h.1 (Base.ge_le B n0)
/-- What is known of a world in which all stays. -/
def Sealed (w : World) (L : List HP) : Prop := ∀ A ∈ L, A.pr (baseOf w) w (fun _ => False)
theorem sealN (w : World) : Sealed w [HP.all w] := by
  intro A hA
  simp only [List.mem_cons, List.not_mem_nil, or_false] at hA
  subst hA; exact all_start _ _ _
theorem sealC {A : HP} {L : List HP} (h : A.pr (baseOf w) w (fun _ => False)) (hL : Sealed w L) : Sealed w (A :: L) := by
  intro C hC
  rcases List.mem_cons.1 hC with rfl | hC
  · exact h
  · exact hL C hC
theorem Sealed.st {L : List HP} (h : Sealed w L) : St w w L := St.start0 w L h
theorem sub_le {B : Base} (h : Sub B w) : B.le (baseOf w) := fun b o hb => h b o hb
theorem St.sealP (H : St w0 w l) (i : Nat) {A : HP} (hi : l[i]? = some A) (hp : A.ps = true) : A.pr (baseOf w) w (fun _ => False) := by
  obtain ⟨B, S, hs, h, _⟩ := H.get i hi
  exact A.mono (A.pok hp h) (sub_le hs)
/-- Behind a call in a sealed world. -/
theorem St.unseal (H : St w0 w l) {rs rs' : List HP} (hl : rs'.length = rs.length) (hT : ∀ (i : Nat) (A A' : HP), rs[i]? = some A → rs'[i]? = some A' → ∀ {B : Base} {S : Nat → Prop}, A.pr B w' S → A'.pr (B.ge w.heap.size) w' S) (H' : St w w' (rs ++ [HP.all w])) : St w0 w' (rs' ++ l) := by
  obtain ⟨hv, B, f, hs, h1, h2, h3⟩ := H
  obtain ⟨hv', B2, f2, hs2, k1, k2, k3⟩ := H'
  have hall : ∀ b o, w.heap[b]? = some o → B2 b = some o := k1 rs.length (HP.all w) (by simp)
  have hold : ∀ b, b < w.heap.size → w'.heap[b]? = w.heap[b]? := fun b hb => by
    rw [Array.getElem?_eq_getElem hb]; exact hs2 b _ (hall b _ (Array.getElem?_eq_getElem hb))
  let Bn : Base := fun b => if b < w.heap.size then B b else B2 b
  have hle : B.le Bn := fun b o hb => by
    show (if b < w.heap.size then B b else B2 b) = _
    rw [if_pos (hs.lt hb)]; exact hb
  have hge : (B2.ge w.heap.size).le Bn := fun b o hb => by
    unfold Base.ge at hb
    split at hb
    · show (if b < w.heap.size then B b else B2 b) = _
      rw [if_neg (by omega)]; exact hb
    · cases hb
  refine ⟨⟨hv'.1.trans hv.1, hv'.2.1.trans hv.2.1, hv'.2.2.1.trans hv.2.2.1, Nat.le_trans hv.2.2.2 hv'.2.2.2⟩, Bn, fun i => if i < rs'.length then f2 i else f (i - rs'.length), ?_, ?_, ?_, ?_⟩
  · intro b o hb
    have hb' : (if b < w.heap.size then B b else B2 b) = some o := hb
    split at hb'
    · rename_i hlt; rw [hold b hlt]; exact hs b o hb'
    · exact hs2 b o hb'
  · intro i A hi
    rw [List.getElem?_append] at hi
    by_cases e : i < rs'.length
    · rw [if_pos e] at hi
      simp only [if_pos e]
      have hA : rs[i]? = some rs[i] := List.getElem?_eq_getElem (by omega)
      exact A.mono (hT i _ A hA hi (k1 i _ (by rw [List.getElem?_append, if_pos (by omega)]; exact hA))) hge
    · rw [if_neg e] at hi
      simp only [if_neg e]
      exact A.mono (A.loc (h1 _ A hi) fun b hb => hold b (h3 _ b (List.getElem?_eq_some_iff.1 hi).1 hb).1) hle
  · intro i j b hi hj hfi hfj
    rw [List.length_append] at hi hj
    by_cases e1 : i < rs'.length
    · by_cases e2 : j < rs'.length
      · simp only [if_pos e1, if_pos e2] at hfi hfj
        exact k2 i j b (by simp; omega) (by simp; omega) hfi hfj
      · simp only [if_pos e1, if_neg e2] at hfi hfj
        have := (k3 i b (by simp; omega) hfi).2.2
        have := (h3 _ b (by omega) hfj).1
        omega
    · by_cases e2 : j < rs'.length
      · simp only [if_neg e1, if_pos e2] at hfi hfj
        have := (k3 j b (by simp; omega) hfj).2.2
        have := (h3 _ b (by omega) hfi).1
        omega
      · simp only [if_neg e1, if_neg e2] at hfi hfj
        have := h2 _ _ b (by omega) (by omega) hfi hfj
        omega
  · intro i b hi hf
    rw [List.length_append] at hi
    by_cases e1 : i < rs'.length
    · simp only [if_pos e1] at hf
      have h4 := k3 i b (by simp; omega) hf
      refine ⟨h4.1, ?_, Nat.le_trans hv.2.2.2 h4.2.2⟩
      show (if b < w.heap.size then B b else B2 b) = none
      rw [if_neg (by omega)]; exact h4.2.1
    · simp only [if_neg e1] at hf
      have h4 := h3 _ b (by omega) hf
      refine ⟨Nat.lt_of_lt_of_le h4.1 hv'.2.2.2, ?_, h4.2.2⟩
      show (if b < w.heap.size then B b else B2 b) = none
      rw [if_pos h4.1]; exact h4.2.1
theorem St.unseal0 (H : St w0 w l) (H' : St w w' [HP.all w]) : St w0 w' l := H.unseal (rs := []) (rs' := []) rfl (fun i A A' h => by simp at h) H'
theorem St.unseal1 (H : St w0 w l) {A A' : HP} (hT : ∀ {B : Base} {S : Nat → Prop}, A.pr B w' S → A'.pr (B.ge w.heap.size) w' S) (H' : St w w' [A, HP.all w]) : St w0 w' (A' :: l) :=
  H.unseal (rs := [A]) (rs' := [A']) rfl (fun i C C' h h' => by
    cases i with
    | zero => simp at h h'; subst h; subst h'; exact hT
    | succ i => simp at h) H'
end
section
variable {κ β : Type} [DecidableEq κ] {w0 w w' : World} {l : List HP} {p : Option Nat} {ek : κ → Value} {agg : Bool} {R R' : Rp β} {ok : κ → Prop} {m : κ → Option β}
theorem EsOk.conv {B B' : Base} {es : List (κ × (List Value × β))} (hR : ∀ {cs : List Value} {x : β}, R.rd B cs x → R'.rd B' cs x) (h : EsOk R ok B es m) : EsOk R' ok B' es m := ⟨h.nodup, h.ok, fun p hp => hR (h.rd p hp), h.get⟩
theorem mm_conv {B B' : Base} {S : Nat → Prop} (hR : ∀ {cs : List Value} {x : β}, R.rd B cs x → R'.rd B' cs x) (h : (HP.mm p ek agg R ok m).pr B w S) : (HP.mm p ek agg R' ok m).pr B' w S := by
  obtain ⟨es, h1, h2⟩ := h
  exact ⟨es, h1.conv hR, h2⟩
theorem St.mmN {n0 : Nat} {m : κ → Option (List UInt8)} (H : St w0 w l) (i : Nat) (hi : l[i]? = some (HP.mm p ek false (rSlN n0 rByte) ok m)) : St w0 w (l.set i (HP.mm p ek false (rSl rByte) ok m)) :=
  H.convAt i hi fun S h => mm_conv (fun h => rSlN_weak h) h
end
section
variable {α : Type} {R R' : Rp α} {B B' : Base} {n0 : Nat}
theorem rdl_conv (h : ∀ {cs : List Value} {x : α}, R.rd B cs x → R'.rd B' cs x) : ∀ {css : List (List Value)} {xs : List α}, RdL R B css xs → RdL R' B' css xs
  | [], [], _ => trivial
  | [], _ :: _, h' => h'.elim
  | _ :: _, [], h' => h'.elim
  | _ :: _, _ :: _, ⟨h1, h2⟩ => ⟨h h1, rdl_conv h h2⟩
theorem sl_conv {p : Option Addr} {cap : Nat} {xs : List α} (hB : B.le B') (h : ∀ {cs : List Value} {x : α}, R.rd B cs x → R'.rd B' cs x) (hs : (HP.sl R p cap xs).pr B default (fun _ => False)) : (HP.sl R' p cap xs).pr B' default (fun _ => False) := by
  obtain ⟨css, h1, h2⟩ := hs
  exact ⟨css, rdl_conv h h1, fun w hw => h2 w (hw.mono hB)⟩
theorem ge_ge {B B' : Base} (h : B.le B') (n : Nat) : (B.ge n).le ((B'.ge n).ge n) := fun b o hb => by
  unfold Base.ge at hb ⊢
  split at hb
  · rename_i hn; simp only [if_pos hn]; exact h b o hb
  · cases hb
theorem rSlN_up {cs : List Value} {xs : List α} (h : (rSlN n0 R).rd B cs xs) (hl : B.le B') : (rSlN n0 R).rd (B'.ge n0) cs xs := by
  obtain ⟨p, cap, h1, h2⟩ := h
  exact ⟨p, cap, h1, HP.mono (HP.sl R p cap xs) (w := default) (S := fun _ => False) h2.1 (ge_ge hl n0), fun h0 => by obtain ⟨b, cur, e, h3, h4, h5⟩ := h2.2 h0; exact ⟨b, cur, e, h3, ge_ge hl n0 _ _ h4, h5⟩⟩
/-- Pairs of texts, in new memory. -/
abbrev rP2 : Rp (List UInt8 × List UInt8) := rPair (rSl rByte) (rSl rByte)
abbrev rP2N (n0 : Nat) : Rp (List UInt8 × List UInt8) := rPair (rSlN n0 rByte) (rSlN n0 rByte)
theorem p2N_up {cs : List Value} {x : List UInt8 × List UInt8} (hl : B.le B') (h : (rP2N n0).rd B cs x) : (rP2N n0).rd (B'.ge n0) cs x := by
  obtain ⟨c, d, h1, h2, h3⟩ := h
  exact ⟨c, d, h1, rSlN_up h2 hl, rSlN_up h3 hl⟩
theorem p2N_weak {cs : List Value} {x : List UInt8 × List UInt8} (h : (rP2N n0).rd B cs x) : rP2.rd B cs x := by
  obtain ⟨c, d, h1, h2, h3⟩ := h
  exact ⟨c, d, h1, rSlN_weak h2, rSlN_weak h3⟩
theorem St.frzP2 {w0 w : World} {l : List HP} {p : Option Addr} {cap : Nat} {xs : List (List UInt8 × List UInt8)} {e : TypeId} (H : St w0 w l) (i : Nat) (hi : l[i]? = some (HP.ow (rP2N w0.heap.size) e p cap xs)) : St w0 w (HP.nsl w0.heap.size (rP2N w0.heap.size) p cap xs :: l.eraseIdx i) :=
  H.frzN i (fun h hl => rdl_conv (fun h => p2N_up hl h) h) hi
theorem St.frzNB {w0 w : World} {l : List HP} {p : Option Addr} {cap : Nat} {xs : List UInt8} {e : TypeId} (H : St w0 w l) (i : Nat) (hi : l[i]? = some (HP.ow rByte e p cap xs)) : St w0 w (HP.nsl w0.heap.size rByte p cap xs :: l.eraseIdx i) :=
  H.frzN i (fun {B B' css} h hl => rdl_conv (R := rByte) (R' := rByte) (B := B) (B' := B'.ge w0.heap.size) (fun h => h) h) hi
end
section
variable {w0 w w' : World} {l : List HP} {p : Option Addr} {cap n0 : Nat} {xs : List (List UInt8 × List UInt8)}
theorem Base.ge_zero (B : Base) : B.ge 0 = B := by funext b; unfold Base.ge; rw [if_pos (Nat.zero_le _)]
theorem rSlN_zero {α : Type} {R : Rp α} {B : Base} {cs : List Value} {xs : List α} (h : (rSlN n0 R).rd B cs xs) : (rSlN 0 R).rd (B.ge n0) cs xs := by
  obtain ⟨p, cap, h1, h2, h3⟩ := h
  refine ⟨p, cap, h1, ?_, ?_⟩
  · rw [Base.ge_zero]; exact h2
  · rw [Base.ge_zero]; exact h3
theorem nsl_zero {B : Base} {w : World} {S : Nat → Prop} (h : (HP.nsl n0 (rP2N n0) p cap xs).pr B w S) : (HP.nsl 0 (rP2N 0) p cap xs).pr (B.ge n0) default (fun _ => False) := by
  obtain ⟨h1, h2⟩ := h
  refine ⟨?_, ?_⟩
  · rw [Base.ge_zero]
    refine sl_conv (fun _ _ h => h) (fun {cs x} h => ?_) h1
    obtain ⟨c, d, e1, e2, e3⟩ := h
    have e4 := rSlN_zero e2
    have e5 := rSlN_zero e3
    exact ⟨c, d, e1, (rSlN 0 rByte).mono e4 (Base.ge_le _ _), (rSlN 0 rByte).mono e5 (Base.ge_le _ _)⟩
  · rw [Base.ge_zero]; exact h2
/-- Pairs that are one's own with all that they reach. -/
def HP.box (p : Option Addr) (cap : Nat) (xs : List (List UInt8 × List UInt8)) : HP :=
  HP.of (fun _ w S => ∃ B : Base, (∀ b o, B b = some o → S b ∧ w.heap[b]? = some o) ∧ (HP.nsl 0 (rP2N 0) p cap xs).pr B default (fun _ => False))
    (fun ⟨B, h1, h2⟩ hS => ⟨B, fun b o hb => ⟨(h1 b o hb).1, by rw [hS b (h1 b o hb).1]; exact (h1 b o hb).2⟩, h2⟩)
    (fun h _ => h)
theorem St.sealB (H : St w0 w l) (i : Nat) (hi : l[i]? = some (HP.box p cap xs)) : (HP.sl rP2 p cap xs).pr (baseOf w) w (fun _ => False) := by
  obtain ⟨_, S, _, ⟨B, h1, h2⟩, _⟩ := H.get i hi
  have h3 := h2.1
  rw [Base.ge_zero] at h3
  exact sl_conv (B' := baseOf w) (fun b o hb => (h1 b o hb).2) (fun h => rP2.mono (p2N_weak h) fun b o hb => (h1 b o hb).2) h3
/-- What is new is one's own. -/
theorem St.unsealP2 (H : St w0 w l) (H' : St w w' [HP.nsl w.heap.size (rP2N w.heap.size) p cap xs, HP.all w]) : St w0 w' (HP.box p cap xs :: l) := by
  obtain ⟨hv, B, f, hs, h1, h2, h3⟩ := H
  obtain ⟨hv', B2, f2, hs2, k1, k2, k3⟩ := H'
  have hall : ∀ b o, w.heap[b]? = some o → B2 b = some o := k1 1 (HP.all w) rfl
  have hold : ∀ b, b < w.heap.size → w'.heap[b]? = w.heap[b]? := fun b hb => by
    rw [Array.getElem?_eq_getElem hb]; exact hs2 b _ (hall b _ (Array.getElem?_eq_getElem hb))
  have hgb : ∀ b o, (B2.ge w.heap.size) b = some o → w.heap.size ≤ b ∧ B2 b = some o := fun b o hb => by
    unfold Base.ge at hb
    split at hb
    · rename_i h; exact ⟨h, hb⟩
    · cases hb
  refine ⟨⟨hv'.1.trans hv.1, hv'.2.1.trans hv.2.1, hv'.2.2.1.trans hv.2.2.1, Nat.le_trans hv.2.2.2 hv'.2.2.2⟩, B, fun i => match i with | 0 => fun b => ∃ o, (B2.ge w.heap.size) b = some o | i + 1 => f i, ?_, ?_, ?_, ?_⟩
  · intro b o hb
    rw [hold b (hs.lt hb)]; exact hs b o hb
  · intro i A hi
    cases i with
    | zero =>
      simp at hi; subst hi
      exact ⟨B2.ge w.heap.size, fun b o hb => ⟨⟨o, hb⟩, hs2 b o (hgb b o hb).2⟩, nsl_zero (k1 0 _ rfl)⟩
    | succ i => exact A.loc (h1 i A (by simpa using hi)) fun b hb => hold b (h3 i b (List.getElem?_eq_some_iff.1 (by simpa using hi)).1 hb).1
  · intro i j b hi hj hfi hfj
    cases i with
    | zero =>
      cases j with
      | zero => rfl
      | succ j =>
        obtain ⟨o, ho⟩ := hfi
        have := (hgb b o ho).1
        have := (h3 j b (by simpa using hj) hfj).1
        omega
    | succ i =>
      cases j with
      | zero =>
        obtain ⟨o, ho⟩ := hfj
        have := (hgb b o ho).1
        have := (h3 i b (by simpa using hi) hfi).1
        omega
      | succ j => have := h2 i j b (by simpa using hi) (by simpa using hj) hfi hfj; omega
  · intro i b hi hf
    cases i with
    | zero =>
      obtain ⟨o, ho⟩ := hf
      obtain ⟨g1, g2⟩ := hgb b o ho
      refine ⟨hs2.lt g2, ?_, Nat.le_trans hv.2.2.2 g1⟩
      cases e : B b with
      | none => rfl
      | some o' => have := hs.lt e; omega
    | succ i =>
      have h4 := h3 i b (by simpa using hi) hf
      exact ⟨Nat.lt_of_lt_of_le h4.1 hv'.2.2.2, h4.2⟩
end
end Go.Tri
