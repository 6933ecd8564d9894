/- Slices as lists of cells, bytes in memory, and bytes.Compare's own entry. -/
import Derived.Test.YtodggokkklfopaaDoorLibM
import Derived.Test.YtodggokkklfopaaDoorLibR
import Derived.Lib.Bytealg
import Derived.Laws.AppendOwnNone
set_option linter.unusedSimpArgs false
set_option linter.unusedVariables false
namespace Go.Tri
open Go.RowKit

/-- Bytes as cells. -/
def bcells (l : List UInt8) : List Value := l.map fun c => .int .u8 c.toNat
theorem bcells_length (l : List UInt8) : (bcells l).length = l.length := by simp [bcells]
theorem bcells_flat (l : List UInt8) : Flat (bcells l) := by
  intro v hv; simp only [bcells, List.mem_map] at hv; obtain ⟨c, _, rfl⟩ := hv; rfl

/-- The slice v has n elements, and its first cells are cs. -/
def Sl (w : World) (v : Value) (n : Nat) (cs : List Value) : Prop :=
  (v = .slice none 0 0 ∧ n = 0 ∧ cs = []) ∨ (∃ a cap, v = .slice (some a) 0 cap ∧ n = 0 ∧ cs = []) ∨ ∃ b off cap, v = .slice (some ⟨b, off, none⟩) n cap ∧ n ≤ cap ∧ Row w b off cs
theorem Row.grow {w w' : World} {b off : Nat} {cs : List Value} (h : Row w b off cs) (hb : Below w.heap.size w w') : Row w' b off cs := by
  intro j v hj
  have := h j v hj
  rw [hb.cell (p := ⟨b, off + j, none⟩) (ltOfCell this)]; exact this
theorem Sl.grow {w w' : World} {v : Value} {n : Nat} {cs : List Value} (h : Sl w v n cs) (hb : Below w.heap.size w w') : Sl w' v n cs := by
  rcases h with h | h | ⟨b, off, cap, h1, h2, h3⟩
  · exact .inl h
  · exact .inr (.inl h)
  · exact .inr (.inr ⟨b, off, cap, h1, h2, h3.grow hb⟩)

theorem Sl.alloc {w : World} {v : Value} {n : Nat} {cs : List Value} (h : Sl w v n cs) (o : Obj) : Sl (w.alloc o) v n cs := by
  rcases h with h | h | ⟨b, off, cap, h1, h2, h3⟩
  · exact .inl h
  · exact .inr (.inl h)
  · exact .inr (.inr ⟨b, off, cap, h1, h2, h3.alloc o⟩)
theorem ownsRow_empty (w : World) (base : Nat) (e : TypeId) (size : Nat) (h : base ≤ w.heap.size) : (w.alloc (.cells #[] e)).ownsRow base e size (.slice (some ⟨w.heap.size, 0, none⟩) 0 0) 0 [] := by
  refine ⟨by simp, .inr ⟨_, 0, #[], rfl, h, heapNew w _, Nat.le_refl _, by simp [maxLen], by simp, by simp⟩⟩
theorem _root_.Go.RowKit.Below.grownNew {a w w' : World} {row : Option Nat} (h : Below a.heap.size a w) (hg : w.grownBy w' row) (hr : ∀ k, row = some k → a.heap.size ≤ k) : Below a.heap.size a w' := h.grown hg h.size hr
theorem run_eq_nilSlice {P : Program} {t e : TypeId} (h : P.underlying t = some (.slice e)) (a : Addr) (n c : Nat) (w : World) : (binOp .eql t (.slice (some a) n c) (.slice none 0 0)).run P w = .ok (.bool false) w := by
  have h1 : ∀ d : Nat, (Op.equalIn (d + 1) t (.slice (some a) n c) (.slice none 0 0)).run P w = .ok false w := fun d => by
    unfold Op.equalIn; rw [Sem.run_bind, run_underlying h]; rfl
  have h2 := h1 9999
  simp only [binOp, Op.equal, Op.maxDepth]
  rw [Sem.run_bind, h2]; rfl
/-- A slice type t of elements of type e. -/
structure ElemT (P : Program) (t e : TypeId) (size bytes : Nat) (z : Value) : Prop where
  ht : P.underlying t = some (.slice e)
  hi : (P.info? e).map (fun i => (i.zero, i.size, i.bytes)) = some (some z, size, bytes)
  hz : z.cells.size = size
  hs : 0 < size

theorem ownsRow_sl {w : World} {base : Nat} {e : TypeId} {size : Nat} {v : Value} {n : Nat} {xs : List Value} (h : w.ownsRow base e size v n xs) : Sl w v n xs := by
  obtain ⟨hl, ⟨rfl, rfl⟩ | ⟨g, cap, cur, rfl, hb, hg, hc, hm, hs, ht⟩⟩ := h
  · refine .inl ⟨rfl, rfl, ?_⟩
    rw [Nat.zero_mul] at hl; exact List.length_eq_zero_iff.1 hl
  · refine .inr (.inr ⟨g, 0, cap, rfl, hc, ?_⟩)
    intro j u hj
    unfold World.cell?
    simp only [hg, Nat.zero_add]
    rw [← ht] at hj
    have : (cur.toList.take (n * size))[j]? = if j < n * size then cur.toList[j]? else none := List.getElem?_take ..
    rw [this] at hj
    split at hj
    · simpa using hj
    · cases hj

/-- x is put behind what the call itself has made. -/
theorem wl_append {P : Program} {t e : TypeId} {size bytes : Nat} {z : Value} {ops : Array Oper} {rest : List Oper} {o : Oper} {a : Act} {w : World} {Q : Exit → Act → World → Prop} (hE : ElemT P t e size bytes z) {s x : Operand}
    (ho : o.op = .call { callee := .builtin .append, args := #[s, x], argTypes := #[t, t] }) (hgd : o.guard = none)
    {v u : Value} (hs : a.eval s = v) (hx : a.eval x = u) {base n m : Nat} {xs news : List Value} (hown : w.ownsRow base e size v n xs) (hsrc : Sl w u m news) (hl : news.length = m * size) (h1 : Flat news)
    (h63 : n + m ≤ maxLen) (hbytes : (n + m) * bytes ≤ 140737488355328) (hbase : base ≤ w.heap.size)
    (h : ∀ v' w', w'.ownsRow base e size v' (n + m) (xs ++ news) → w.grownBy w' v.ownBlock → wpList P ops Q rest (a.put o.dst v') w') : wpList P ops Q (o :: rest) a w := by
  obtain ⟨i, hi, hz0, hz1, hz2⟩ := info_parts hE.hi
  rcases hsrc with ⟨rfl, h0, hnil⟩ | ⟨ad, cap, rfl, h0, hnil⟩ | ⟨b, off, cap, rfl, _, hr⟩
  · subst h0
    subst hnil
    refine wpList_append_own_none hgd s x t ho base e i size hE.ht hi v n xs hs hown hx (h v w (by simpa using hown) ⟨rfl, rfl, rfl, Nat.le_refl _, fun _ _ _ => rfl⟩)
  · subst h0
    subst hnil
    exact wpList_append_own w hgd s x t ho base e i z size bytes hE.ht hi hz0 hz1 hz2 hE.hz hE.hs v n xs hs hown ad 0 cap [] hx (by simp) (fun j u hj => by simp at hj) (fun u hu => by simp at hu) h63 hbytes hbase (fun v' w' h2 h3 _ => h v' w' h2 h3)
  · exact wpList_append_own w hgd s x t ho base e i z size bytes hE.ht hi hz0 hz1 hz2 hE.hz hE.hs v n xs hs hown ⟨b, off, none⟩ m cap news hx hl (fun j u hj => by rw [add_none]; exact hr j u hj) h1 h63 hbytes hbase (fun v' w' h2 h3 _ => h v' w' h2 h3)

theorem Blk.grown {w w' : World} {b : Nat} {cs : List Value} {t : TypeId} {row : Option Nat} (h : Blk w b cs t) (hg : w.grownBy w' row) (hne : some b ≠ row) : Blk w' b cs t := by
  unfold Blk; rw [hg.block b h.lt hne]; exact h
theorem run_loadBytes {P : Program} (w : World) (b : Nat) : ∀ (l : List UInt8) (off : Nat) (acc : ByteArray), Row w b off (bcells l) →
    (Extern.Bytes.loadBytes ⟨b, off, none⟩ l.length acc).run P w = .ok ⟨(acc.data.toList ++ l).toArray⟩ w := by
  intro l
  induction l with
  | nil => intro off acc _; simp [Extern.Bytes.loadBytes]
  | cons c l ih =>
    intro off acc h
    have h0 := h 0 (.int .u8 c.toNat) rfl
    rw [Nat.add_zero] at h0
    have hr : Row w b (off + 1) (bcells l) := by
      intro j v hj
      have := h (j + 1) v (by simpa [bcells] using hj)
      rw [show off + 1 + j = off + (j + 1) from by omega]; exact this
    have hl : (Go.load (⟨b, off, none⟩ : Addr)).run P w = .ok (.int .u8 c.toNat) w := by rw [run_load, h0]
    simp only [List.length_cons, Extern.Bytes.loadBytes]
    rw [Sem.run_bind, hl]
    simp only [Result.andThen_ok, add_none]
    rw [ih (off + 1) _ hr]
    have hc : (c.toNat : Int).toNat.toUInt8 = c := by simp
    rw [hc]
    simp [ByteArray.push]
theorem run_bytesOf {P : Program} {w : World} {v : Value} {l : List UInt8} (h : Sl w v l.length (bcells l)) :
    (Extern.Bytes.bytesOf v).run P w = .ok ⟨l.toArray⟩ w := by
  rcases h with ⟨rfl, hn, _⟩ | ⟨ad, cap, rfl, hn, _⟩ | ⟨b, off, cap, rfl, _, hr⟩
  · obtain rfl : l = [] := by cases l <;> simp_all
    rfl
  · obtain rfl : l = [] := by cases l <;> simp_all
    rfl
  · have := run_loadBytes (P := P) w b l off .empty hr
    simpa [Extern.Bytes.bytesOf] using this
theorem run_compare {P : Program} {w : World} {v u : Value} {l m : List UInt8} (h : Sl w v l.length (bcells l)) (k : Sl w u m.length (bcells m)) :
    (Extern.BytealgCompare.compare #[v, u]).run P w = .ok (.int .i64 (Lib.compareBytes l m)) w := by
  show Sem.run P (do pure (goInt (Extern.BytealgCompare.cmp (← Extern.Bytes.bytesOf v) (← Extern.Bytes.bytesOf u)))) w = _
  simp only [Sem.run_bind, run_bytesOf h, run_bytesOf k, Result.andThen_ok, Lib.cmp_eq, Sem.run_pure, goInt]
end Go.Tri
