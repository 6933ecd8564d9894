/- Values that stand in memory when the call begins, and what their size says. -/
import Derived.Test.YtnjemlkcamdbfaaGreatDoorOp
import GoSem.ClaimJoined
set_option linter.unusedSimpArgs false
set_option linter.unusedVariables false
namespace Go.Tri
open Go.RowKit Go.ChangeShapes Go.WideShapes Go.ChangeAt Go.Deep
section
variable {α β H : Type} (enc : TypeId × Value → H) (P : Program) (w : World) (base : Nat) (spare : Nat → Bool) (held : Bool)
/-- What is read at type e, and fits into memory, reads as R, and is one of p. -/
def OpnW (R : Rp α) (e : TypeId) (p : α → Prop) : Prop := ∀ (fuel : Nat) (cs : List Value) (x : DataW H × List MemPlace), DataW.trod enc P w base spare held fuel e cs = some x → (x.1.weights P e).all (· ≤ reachBytes) = true → ∃ y, R.rd (baseOf w) cs y ∧ p y
end
section
variable {α β H : Type} {enc : TypeId × Value → H} {P : Program} {w : World} {base : Nat} {spare : Nat → Bool} {held : Bool} {R : Rp α} {Q : Rp β} {e t : TypeId} {p : α → Prop} {q : β → Prop}
theorem opnW_any (h : Opn enc P w base spare held R e) : OpnW enc P w base spare held R e (fun _ => True) := fun fuel cs x hx _ => by
  obtain ⟨y, hy⟩ := h fuel cs x hx
  exact ⟨y, hy, trivial⟩
theorem all_mem {ns : List Nat} (h : ns.all (· ≤ reachBytes) = true) {n : Nat} (hn : n ∈ ns) : n ≤ reachBytes := by simpa using List.all_eq_true.1 h n hn
theorem weightsAll_mem : ∀ {ds : List (DataW H)} {d : DataW H} {n : Nat}, d ∈ ds → n ∈ d.weights P e → n ∈ DataW.weightsAll P e ds
  | c :: ds, d, n, hd, hn => by
    unfold DataW.weightsAll
    rcases List.mem_cons.1 hd with rfl | hd
    · exact List.mem_append_left _ hn
    · exact List.mem_append_right _ (weightsAll_mem hd hn)
theorem opnW_slice (hO : OpnW enc P w base spare held R e p) (ht : P.underlying t = some (.slice e)) (hC : P.cellsOf e = R.n) (hs : 0 < R.n) {fuel : Nat} {cs : List Value} {x : DataW H × List MemPlace} (h : DataW.trod enc P w base spare held fuel t cs = some x) (hw : (x.1.weights P t).all (· ≤ reachBytes) = true) :
    ∃ a xs cap, cs = [.slice a xs.length cap] ∧ (∀ (w' : World) (S : Nat → Prop), (HP.sl R a cap xs).pr (baseOf w) w' S) ∧ (∀ x ∈ xs, p x) ∧ xs.length * P.bytesOf e ≤ reachBytes := by
  rcases DataW.trod_slice ht h with ⟨rfl, rfl⟩ | ⟨a, len, cap, elems, rest, n, _, rfl, rfl, hb, hl, hm, hlen, hel, _, _⟩
  · exact ⟨none, [], 0, rfl, fun _ _ => ⟨[], trivial, fun w' hw => .inl ⟨rfl, rfl, rfl⟩⟩, (fun x hx => absurd hx (by simp)), by simp⟩
  · simp only [DataW.weights, ht] at hw
    have hw0 : (elems.map (·.1)).length + (rest.map (·.1)).length = elems.length + rest.length := by simp
    rw [hw0] at hw
    have hsz : (elems.length + rest.length) * P.bytesOf e ≤ reachBytes := all_mem hw List.mem_cons_self
    have hwe : ∀ y ∈ elems, (y.1.weights P e).all (· ≤ reachBytes) = true := fun y hy => List.all_eq_true.2 fun k hk => by
      have := all_mem hw (List.mem_cons_of_mem _ (List.mem_append_left _ (weightsAll_mem (List.mem_map_of_mem hy) hk)))
      simpa using this
    obtain ⟨css, hcl, hp⟩ := exists_list (p := fun i (c : List Value) => c.length = R.n ∧ (∃ y, R.rd (baseOf w) c y ∧ p y) ∧ ∀ j u, c[j]? = some u → w.cell? ((a.add (i * R.n)).add j) = some u) len (fun i hin => by
      have hi := hel i hin
      rw [List.getElem?_eq_getElem (by omega : i < elems.length)] at hi
      obtain ⟨cs', hc, ht'⟩ := Option.bind_eq_some_iff.1 hi
      obtain ⟨y, hy, hpy⟩ := hO _ _ _ ht' (hwe _ (List.getElem_mem _))
      obtain ⟨_, hcl, hat⟩ := World.cells?_some hc
      have hln := R.len hy
      refine ⟨cs', hln, ⟨y, hy, hpy⟩, fun j u hj => ?_⟩
      rw [← hC, hat j (by rw [hC, ← hln]; exact (List.getElem?_eq_some_iff.1 hj).1)]; exact hj)
    obtain ⟨xs, hxl, hx⟩ := exists_list (p := fun i (y : α) => p y ∧ ∃ c, css[i]? = some c ∧ R.rd (baseOf w) c y) len (fun i hin => by
      obtain ⟨c, hc⟩ : ∃ c, css[i]? = some c := ⟨_, List.getElem?_eq_getElem (by omega)⟩
      obtain ⟨_, ⟨y, hy, hpy⟩, _⟩ := hp i c hc
      exact ⟨y, hpy, c, hc, hy⟩)
    have hrdl : RdL R (baseOf w) css xs := rdl_of (by omega) fun i c y hc hy => by
      obtain ⟨_, c', h1, h2⟩ := hx i y hy
      rw [hc] at h1
      injection h1 with h1
      rw [h1]; exact h2
    have hsl : Sl w (.slice (some a) len cap) len css.flatten := by
      by_cases h0 : len = 0
      · obtain rfl : css = [] := List.length_eq_zero_iff.1 (by omega)
        subst h0
        exact .inr (.inl ⟨a, cap, rfl, rfl, rfl⟩)
      · obtain ⟨c0, hc0⟩ : ∃ c, css[0]? = some c := ⟨_, List.getElem?_eq_getElem (by omega)⟩
        obtain ⟨hl0, _, hq0⟩ := hp 0 c0 hc0
        obtain ⟨u0, hu0⟩ : ∃ u, c0[0]? = some u := ⟨_, List.getElem?_eq_getElem (by omega)⟩
        have hcell := hq0 0 u0 hu0
        rw [Nat.zero_mul] at hcell
        obtain ⟨b, off, spot⟩ := a
        have hspot : spot = none := by simpa [Addr.add] using World.cell?_spot hcell
        subst hspot
        refine .inr (.inr ⟨b, off, cap, rfl, by omega, ?_⟩)
        have := row_flat (w := w) (fun c : List Value => c) (ok := fun c => c.length = R.n) (fun c hc => hc) css off (b := b) (fun c hc => by
          obtain ⟨i, hi, rfl⟩ := List.getElem_of_mem hc
          exact (hp i _ (List.getElem?_eq_getElem hi)).1) fun i c hc => by
          intro j u hj
          have := (hp i c hc).2.2 j u hj
          rw [add_none, add_none] at this; exact this
        rw [List.flatMap_id'] at this
        exact this
    subst hxl
    refine ⟨some a, xs, cap, rfl, fun _ _ => ⟨css, hrdl, fun w' hw' => sub_sl hw' hsl⟩, fun y hy => ?_, Nat.le_trans (Nat.mul_le_mul_right _ (by omega)) hsz⟩
    obtain ⟨i, hi, rfl⟩ := List.getElem_of_mem hy
    exact (hx i _ (List.getElem?_eq_getElem hi)).1
where
  rdl_of {α : Type} {R : Rp α} {B : Base} : ∀ {css : List (List Value)} {xs : List α}, css.length = xs.length → (∀ i c y, css[i]? = some c → xs[i]? = some y → R.rd B c y) → RdL R B css xs
    | [], [], _, _ => trivial
    | c :: css, x :: xs, hl, h => ⟨h 0 c x rfl rfl, rdl_of (by simpa using hl) fun i c' y h1 h2 => h (i + 1) c' y (by simpa using h1) (by simpa using h2)⟩
theorem opnW_rSl (hO : OpnW enc P w base spare held R e p) (ht : P.underlying t = some (.slice e)) (hC : P.cellsOf e = R.n) (hs : 0 < R.n) : OpnW enc P w base spare held (rSl R) t (fun xs => (∀ x ∈ xs, p x) ∧ xs.length * P.bytesOf e ≤ reachBytes) := fun fuel cs x h hw => by
  obtain ⟨a, xs, cap, e1, e2, e3, e4⟩ := opnW_slice hO ht hC hs h hw
  exact ⟨xs, ⟨a, cap, e1, e2 _ _⟩, e3, e4⟩
/-- The parts of a struct, from one place on. -/
def OpnFs (enc : TypeId × Value → H) (P : Program) (w : World) (base : Nat) (spare : Nat → Bool) (held : Bool) (R : Rp α) (off : Nat) (fs : List Field) (p : α → Prop) : Prop :=
  ∀ (n : Nat) (cs : List Value) (xs : List (DataW H × List MemPlace)), xs.length = fs.length → (∀ (i : Nat) (f : Field), fs[i]? = some f → DataW.trod enc P w base spare held n f.type ((cs.drop f.offset).take (P.cellsOf f.type)) = xs[i]?) →
    (DataW.weightsEach P (fs.map (·.type)) (xs.map (·.1))).all (· ≤ reachBytes) = true → ∃ y, R.rd (baseOf w) ((cs.drop off).take R.n) y ∧ p y
theorem opnFs_one {f : Field} {off : Nat} (hO : OpnW enc P w base spare held R f.type p) (ho : f.offset = off) (hC : P.cellsOf f.type = R.n) : OpnFs enc P w base spare held R off [f] p := fun n cs xs hl hx hw => by
  match xs, hl with
  | [x], _ =>
    have h := hx 0 f rfl
    rw [ho, hC] at h
    refine hO _ _ _ h ?_
    simpa [DataW.weightsEach] using hw
theorem opnFs_cons {f : Field} {fs : List Field} {off : Nat} (hO : OpnW enc P w base spare held R f.type p) (ho : f.offset = off) (hC : P.cellsOf f.type = R.n) (hF : OpnFs enc P w base spare held Q (off + R.n) fs q) : OpnFs enc P w base spare held (rPair R Q) off (f :: fs) (fun y => p y.1 ∧ q y.2) := fun n cs xs hl hx hw => by
  match xs, hl with
  | x :: xs, hl =>
    have h := hx 0 f rfl
    rw [ho, hC] at h
    simp only [List.map_cons, DataW.weightsEach, List.all_append, Bool.and_eq_true] at hw
    obtain ⟨y, hy, hpy⟩ := hO _ _ _ h hw.1
    obtain ⟨z, hz, hqz⟩ := hF n cs xs (by simpa using hl) (fun i g hg => by simpa using hx (i + 1) g (by simpa using hg)) hw.2
    refine ⟨(y, z), ⟨_, _, ?_, hy, hz⟩, hpy, hqz⟩
    show (cs.drop off).take (R.n + Q.n) = _
    rw [List.take_add, List.drop_drop]
theorem opnW_struct {fs : List Field} (ht : P.underlying t = some (.struct fs.toArray)) (hF : OpnFs enc P w base spare held R 0 fs p) (hC : P.cellsOf t = R.n) : OpnW enc P w base spare held R t p := fun fuel cs x h hw => by
  obtain ⟨xs, n, _, rfl, hl, hxl, hx⟩ := DataW.trod_struct ht h
  simp only [DataW.weights, ht] at hw
  obtain ⟨y, hy, hp⟩ := hF n cs xs (by simpa using hxl) (fun i f hf => hx i f (by simpa using hf)) (by simpa using hw)
  rw [List.drop_zero, List.take_of_length_le (by omega)] at hy
  exact ⟨y, hy, hp⟩
end
theorem opn_bytes {H : Type} {enc : TypeId × Value → H} {P : Program} {w : World} {base : Nat} {spare : Nat → Bool} {held : Bool} {t e : TypeId} {n : Nat} (ht : P.underlying t = some (.array n e)) (he : P.underlying e = some (.int .u8)) (hc : P.cellsOf e = 1) (hC : P.cellsOf t = n) : Opn enc P w base spare held (rBytesN n) t := fun fuel cs x h => by
  obtain ⟨l, h1, h2⟩ := open_bytes ht he hc hC h
  exact ⟨l, h2, h1⟩
end Go.Tri
