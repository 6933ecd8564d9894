/- Data: what cells read as, frozen and owned slices. -/
import Derived.Test.YtfepdfjhejkemaaDoorD
set_option linter.unusedSimpArgs false
set_option linter.unusedVariables false
namespace Go.Tri
open Go.RowKit
/-- What cells read as. -/
structure Rp (α : Type) where
  n : Nat
  rd : Base → List Value → α → Prop
  mono : ∀ {B B' : Base} {cs : List Value} {x : α}, rd B cs x → B.le B' → rd B' cs x
  len : ∀ {B : Base} {cs : List Value} {x : α}, rd B cs x → cs.length = n
  flat : ∀ {B : Base} {cs : List Value} {x : α}, rd B cs x → Flat cs
def Rp.enc {α : Type} (n : Nat) (e : α → List Value) (hl : ∀ x, (e x).length = n) (hf : ∀ x, Flat (e x)) : Rp α :=
  ⟨n, fun _ cs x => cs = e x, fun h _ => h, fun h => by rw [h]; exact hl _, fun h => by rw [h]; exact hf _⟩
def rByte : Rp UInt8 := Rp.enc 1 (fun c => [.int .u8 c.toNat]) (fun _ => rfl) (fun _ v hv => by simp at hv; subst hv; rfl)
def rInt (k : IntKind) : Rp Int := Rp.enc 1 (fun n => [.int k n]) (fun _ => rfl) (fun _ v hv => by simp at hv; subst hv; rfl)
/-- An array of so many bytes. -/
def rBytesN (n : Nat) : Rp (List UInt8) := ⟨n, fun _ cs l => cs = bcells l ∧ l.length = n, fun h _ => h, fun h => by rw [h.1, bcells_length]; exact h.2, fun h => by rw [h.1]; exact bcells_flat _⟩
section
variable {α : Type}
def RdL (R : Rp α) (B : Base) : List (List Value) → List α → Prop
  | [], [] => True
  | c :: cs, x :: xs => R.rd B c x ∧ RdL R B cs xs
  | _, _ => False
theorem RdL.mono {R : Rp α} {B B' : Base} (hl : B.le B') : ∀ {css : List (List Value)} {xs : List α}, RdL R B css xs → RdL R B' css xs
  | [], [], _ => trivial
  | _ :: _, _ :: _, h => ⟨R.mono h.1 hl, RdL.mono hl h.2⟩
  | [], _ :: _, h => h.elim
  | _ :: _, [], h => h.elim
theorem RdL.len {R : Rp α} {B : Base} : ∀ {css : List (List Value)} {xs : List α}, RdL R B css xs → css.length = xs.length
  | [], [], _ => rfl
  | _ :: _, _ :: _, h => by simp [RdL.len h.2]
  | [], _ :: _, h => h.elim
  | _ :: _, [], h => h.elim
theorem RdL.flen {R : Rp α} {B : Base} : ∀ {css : List (List Value)} {xs : List α}, RdL R B css xs → css.flatten.length = xs.length * R.n
  | [], [], _ => by simp
  | _ :: _, x :: xs, h => by
    simp only [List.flatten_cons, List.length_append, R.len h.1, RdL.flen h.2, List.length_cons, Nat.succ_mul]; omega
  | [], _ :: _, h => h.elim
  | _ :: _, [], h => h.elim
theorem RdL.flat {R : Rp α} {B : Base} : ∀ {css : List (List Value)} {xs : List α}, RdL R B css xs → Flat css.flatten
  | [], [], _ => by intro v hv; simp at hv
  | _ :: _, _ :: _, h => by
    intro v hv
    simp only [List.flatten_cons, List.mem_append] at hv
    rcases hv with hv | hv
    · exact R.flat h.1 v hv
    · exact RdL.flat h.2 v hv
  | [], _ :: _, h => h.elim
  | _ :: _, [], h => h.elim
theorem RdL.append {R : Rp α} {B : Base} : ∀ {css ds : List (List Value)} {xs ys : List α}, RdL R B css xs → RdL R B ds ys → RdL R B (css ++ ds) (xs ++ ys)
  | [], _, [], _, _, k => k
  | _ :: _, _, _ :: _, _, h, k => ⟨h.1, RdL.append h.2 k⟩
  | [], _, _ :: _, _, h, _ => h.elim
  | _ :: _, _, [], _, h, _ => h.elim
theorem RdL.at {R : Rp α} {B : Base} : ∀ {css : List (List Value)} {xs : List α}, RdL R B css xs → ∀ {k : Nat} {x : α}, xs[k]? = some x → ∃ c, css[k]? = some c ∧ R.rd B c x
  | [], [], _, k, x, h => by simp at h
  | c :: _, y :: _, h, 0, x, hx => by simp at hx; subst hx; exact ⟨c, rfl, h.1⟩
  | _ :: _, _ :: _, h, k + 1, x, hx => RdL.at h.2 (by simpa using hx)
  | [], _ :: _, h, _, _, _ => h.elim
  | _ :: _, [], h, _, _, _ => h.elim
theorem RdL.drop {R : Rp α} {B : Base} : ∀ {css : List (List Value)} {xs : List α} (k : Nat), RdL R B css xs → RdL R B (css.drop k) (xs.drop k)
  | _, _, 0, h => h
  | [], [], _ + 1, _ => trivial
  | _ :: _, _ :: _, k + 1, h => RdL.drop k h.2
  | [], _ :: _, _ + 1, h => h.elim
  | _ :: _, [], _ + 1, h => h.elim
theorem RdL.take {R : Rp α} {B : Base} : ∀ {css : List (List Value)} {xs : List α} (k : Nat), RdL R B css xs → RdL R B (css.take k) (xs.take k)
  | _, _, 0, h => trivial
  | [], [], _ + 1, _ => trivial
  | _ :: _, _ :: _, k + 1, h => ⟨h.1, RdL.take k h.2⟩
  | [], _ :: _, _ + 1, h => h.elim
  | _ :: _, [], _ + 1, h => h.elim
theorem RdL.set {R : Rp α} {B : Base} {c : List Value} {x : α} (hc : R.rd B c x) : ∀ {css : List (List Value)} {xs : List α} (k : Nat), RdL R B css xs → RdL R B (css.set k c) (xs.set k x)
  | [], [], _, _ => trivial
  | _ :: _, _ :: _, 0, h => ⟨hc, h.2⟩
  | _ :: _, _ :: _, k + 1, h => ⟨h.1, RdL.set hc k h.2⟩
  | [], _ :: _, _, h => h.elim
  | _ :: _, [], _, h => h.elim
theorem flat_drop {R : Rp α} {B : Base} : ∀ {css : List (List Value)} {xs : List α} (k : Nat), RdL R B css xs → (css.drop k).flatten = css.flatten.drop (k * R.n)
  | _, _, 0, h => by simp
  | [], [], _ + 1, _ => by simp
  | c :: cs, _ :: _, k + 1, h => by
    have hl := R.len h.1
    simp only [List.drop_succ_cons, List.flatten_cons]
    rw [flat_drop k h.2, Nat.succ_mul, Nat.add_comm, ← List.drop_drop, List.drop_left' hl]
  | [], _ :: _, _ + 1, h => h.elim
  | _ :: _, [], _ + 1, h => h.elim
theorem flat_take {R : Rp α} {B : Base} : ∀ {css : List (List Value)} {xs : List α} (k : Nat), RdL R B css xs → (css.take k).flatten = css.flatten.take (k * R.n)
  | _, _, 0, h => by simp
  | [], [], _ + 1, _ => by simp
  | c :: cs, _ :: _, k + 1, h => by
    have hl := R.len h.1
    simp only [List.take_succ_cons, List.flatten_cons]
    rw [flat_take k h.2, Nat.succ_mul, List.take_append, hl, List.take_of_length_le (l := c) (by omega), Nat.add_sub_cancel]
  | [], _ :: _, _ + 1, h => h.elim
  | _ :: _, [], _ + 1, h => h.elim
theorem flat_at {R : Rp α} {B : Base} {css : List (List Value)} {xs : List α} (h : RdL R B css xs) {k : Nat} {c : List Value} (hc : css[k]? = some c) (hn : c.length = R.n) : (css.flatten.drop (k * R.n)).take R.n = c := by
  rw [← flat_drop k h, List.drop_eq_getElem?_toList_append, hc]
  simp [List.take_append, hn]

/-! ### Pieces -/
/-- A piece that needs no block of its own, and no world. -/
def Pers (A : HP) : Prop := ∀ {B : Base} {w w' : World} {S S' : Nat → Prop}, A.pr B w S → A.pr B w' S'
def HP.rc (R : Rp α) (cs : List Value) (x : α) : HP := ⟨fun B _ _ => R.rd B cs x, fun h _ => h, fun h hl => R.mono h hl⟩
/-- Cells that stay. -/
def HP.row (b off : Nat) (cs : List Value) : HP := ⟨fun B _ _ => ∀ w, Sub B w → Row w b off cs, fun h _ => h, fun h hl w hw => h w (hw.mono hl)⟩
theorem pers_row {b off : Nat} {cs : List Value} : Pers (HP.row b off cs) := fun h => h
/-- A slice of memory that stays. -/
def HP.sl (R : Rp α) (p : Option Addr) (cap : Nat) (xs : List α) : HP :=
  ⟨fun B _ _ => ∃ css, RdL R B css xs ∧ ∀ w, Sub B w → Sl w (.slice p xs.length cap) xs.length css.flatten, fun h _ => h, fun ⟨css, h1, h2⟩ hl => ⟨css, h1.mono hl, fun w hw => h2 w (hw.mono hl)⟩⟩
theorem pers_sl {R : Rp α} {p : Option Addr} {cap : Nat} {xs : List α} : Pers (HP.sl R p cap xs) := fun h => h
/-- A slice at the head of a block of its own. -/
def HP.ow (R : Rp α) (e : TypeId) (p : Option Addr) (cap : Nat) (xs : List α) : HP :=
  ⟨fun B w S => ∃ css, RdL R B css xs ∧ (HP.own e R.n (.slice p xs.length cap) xs.length css.flatten).pr B w S, fun ⟨css, h1, h2⟩ hS => ⟨css, h1, HP.loc _ h2 hS⟩, fun ⟨css, h1, h2⟩ hl => ⟨css, h1.mono hl, HP.mono _ h2 hl⟩⟩
end
section
variable {α : Type} {R : Rp α} {w0 w : World} {l : List HP} {p : Option Addr} {cap : Nat} {xs : List α}
theorem St.cp (H : St w0 w l) (i : Nat) {A : HP} (hi : l[i]? = some A) (hA : Pers A) : St w0 w (A :: l) :=
  H.more fun B _ g => hA (g i A hi).choose_spec
theorem St.mv (H : St w0 w l) (i : Nat) {A : HP} (hi : l[i]? = some A) : St w0 w (A :: l.eraseIdx i) := by
  obtain ⟨hv, B, f, hs, h1, h2, h3⟩ := H
  have hil : i < l.length := (List.getElem?_eq_some_iff.1 hi).1
  let g : Nat → Nat := fun k => match k with | 0 => i | k + 1 => if k < i then k else k + 1
  have hlen : (l.eraseIdx i).length = l.length - 1 := List.length_eraseIdx_of_lt hil
  have glt : ∀ k, k < (A :: l.eraseIdx i).length → g k < l.length := by
    intro k hk
    simp only [List.length_cons, hlen] at hk
    cases k with
    | zero => exact hil
    | succ k => simp only [g]; split <;> omega
  refine ⟨hv, B, fun k => f (g k), hs, ?_, ?_, ?_⟩
  · intro k C hk
    refine h1 _ C ?_
    cases k with
    | zero => simp at hk; subst hk; exact hi
    | succ k =>
      simp only [List.getElem?_cons_succ, List.getElem?_eraseIdx] at hk
      simp only [g]
      split at hk
      · rename_i e; rw [if_pos e]; exact hk
      · rename_i e; rw [if_neg e]; exact hk
  · intro a b c ha hb hfa hfb
    have := h2 _ _ c (glt a ha) (glt b hb) hfa hfb
    cases a with
    | zero =>
      cases b with
      | zero => rfl
      | succ b => simp only [g] at this; split at this <;> omega
    | succ a =>
      cases b with
      | zero => simp only [g] at this; split at this <;> omega
      | succ b =>
        simp only [g] at this
        split at this <;> split at this <;> omega
  · intro a b ha hf
    exact h3 _ b (glt a ha) hf
theorem St.dp (H : St w0 w l) (i : Nat) {A : HP} (hi : l[i]? = some A) : St w0 w (l.eraseIdx i) := (H.mv i hi).tail
theorem Sl.rowAt {v : Value} {n : Nat} {cs : List Value} (h : Sl w v n cs) {c cap : Nat} (hv : v = .slice p n cap) (hn : 0 < n) : ∃ b off, p = some ⟨b, off, none⟩ ∧ Row w b off cs := by
  rcases h with ⟨rfl, rfl, _⟩ | ⟨a, cap, rfl, rfl, _⟩ | ⟨b, off, cap, rfl, _, hr⟩
  · omega
  · omega
  · cases hv; exact ⟨b, off, rfl, hr⟩
/-- Where a slice with elements lies. -/
theorem St.slP (H : St w0 w l) (i : Nat) (hi : l[i]? = some (HP.sl R p cap xs)) {k : Nat} {x : α} (hx : xs[k]? = some x) : ∃ b off, p = some ⟨b, off, none⟩ := by
  obtain ⟨B, S, hs, ⟨css, h1, h2⟩, _⟩ := H.get i hi
  have hk := (List.getElem?_eq_some_iff.1 hx).1
  obtain ⟨b, off, hp, _⟩ := (h2 w hs).rowAt (c := 0) rfl (by omega)
  exact ⟨b, off, hp⟩
/-- An element's cells. -/
theorem St.slEl (H : St w0 w l) (i : Nat) (hi : l[i]? = some (HP.sl R p cap xs)) {b off : Nat} (hp : p = some ⟨b, off, none⟩) {k : Nat} {x : α} (hx : xs[k]? = some x) : ∃ cs, cs.length = R.n ∧ St w0 w (HP.row b (off + k * R.n) cs :: HP.rc R cs x :: l) := by
  obtain ⟨hv, B, f, hs, h1, h2, h3⟩ := H
  obtain ⟨css, c1, c2⟩ := h1 i _ hi
  obtain ⟨c, hc, hr⟩ := c1.at hx
  have hn := R.len hr
  have hk := (List.getElem?_eq_some_iff.1 hx).1
  have hrow : ∀ w', Sub B w' → Row w' b (off + k * R.n) c := by
    intro w' hw'
    obtain ⟨b', off', hp', hr'⟩ := (c2 w' hw').rowAt (c := 0) rfl (by omega)
    rw [hp] at hp'; cases hp'
    have := hr'.sub (k * R.n) R.n
    rw [flat_at c1 hc hn] at this; exact this
  refine ⟨c, hn, hv, B, fun i => match i with | 0 => fun _ => False | 1 => fun _ => False | i + 2 => f i, hs, ?_, ?_, ?_⟩
  · intro j C hj
    match j with
    | 0 => simp at hj; subst hj; exact hrow
    | 1 => simp at hj; subst hj; exact hr
    | j + 2 => exact h1 j C (by simpa using hj)
  · intro i j b hi hj hfi hfj
    match i, j with
    | 0, _ => exact hfi.elim
    | 1, _ => exact hfi.elim
    | _, 0 => exact hfj.elim
    | _, 1 => exact hfj.elim
    | i + 2, j + 2 => have := h2 i j b (by simpa using hi) (by simpa using hj) hfi hfj; omega
  · intro i b hi hf
    match i with
    | 0 => exact hf.elim
    | 1 => exact hf.elim
    | i + 2 => exact h3 i b (by simpa using hi) hf
theorem St.rowAt (H : St w0 w l) (i : Nat) {b off : Nat} {cs : List Value} (hi : l[i]? = some (HP.row b off cs)) : Row w b off cs := by
  obtain ⟨B, S, hs, h1, _⟩ := H.get i hi; exact h1 w hs
theorem St.slCap (H : St w0 w l) (i : Nat) (hi : l[i]? = some (HP.sl R p cap xs)) : xs.length ≤ cap := by
  obtain ⟨B, S, hs, ⟨css, h1, h2⟩, _⟩ := H.get i hi
  rcases h2 w hs with ⟨h, hn, _⟩ | ⟨a, c, h, hn, _⟩ | ⟨b, off, c, h, hc, _⟩
  · rw [hn]; omega
  · rw [hn]; omega
  · cases h; exact hc
/-- nil is a slice of nothing. -/
theorem St.slNil (H : St w0 w l) (R : Rp α) : St w0 w (HP.sl R none 0 [] :: l) :=
  H.more fun B _ _ => ⟨[], trivial, fun w _ => .inl ⟨rfl, rfl, rfl⟩⟩
theorem St.owNil (H : St w0 w l) (R : Rp α) (e : TypeId) : St w0 w (HP.ow R e none 0 [] :: l) :=
  H.more fun B _ _ => ⟨[], trivial, World.ownsRow_nil w 0 e R.n, fun b hb => by simp [Value.ownBlock] at hb⟩
/-- An owned slice is written no more. -/
theorem St.frz (H : St w0 w l) (i : Nat) {e : TypeId} (hi : l[i]? = some (HP.ow R e p cap xs)) : St w0 w (HP.sl R p cap xs :: l.eraseIdx i) :=
  (H.mv i hi).freezeH fun {B B'} S ⟨css, h1, h2⟩ hle hw => ⟨css, h1.mono hle, fun w' hw' => ownsRow_sl (HP.loc _ h2 (fun b hb => hw w' hw' b hb)).1⟩
theorem St.owForm (H : St w0 w l) (i : Nat) {e : TypeId} (hi : l[i]? = some (HP.ow R e p cap xs)) : xs.length ≤ cap := by
  obtain ⟨B, S, hs, ⟨css, h1, ⟨hl, ⟨h, h'⟩ | ⟨g, cap', cur, h, _, _, hc, _⟩⟩, _⟩, _⟩ := H.get i hi
  · omega
  · cases h; exact hc
end
end Go.Tri
