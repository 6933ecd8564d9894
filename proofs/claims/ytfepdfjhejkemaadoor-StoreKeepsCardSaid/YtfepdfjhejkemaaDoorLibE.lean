/- Equality of structs and arrays of plain cells: == on two aggregates tells whether their literals are one. -/
import Derived.Test.YtfepdfjhejkemaaDoorLibB
import Derived.DeepKeys
set_option linter.unusedSimpArgs false
set_option linter.unusedVariables false
namespace Go.Tri
open Go.RowKit

theorem mapM_some {α β : Type} {f : α → Option β} {g : α → β} : ∀ (l : List α), (∀ i ∈ l, f i = some (g i)) → l.mapM f = some (l.map g)
  | [], _ => rfl
  | a :: l, h => by
    rw [List.mapM_cons, h a (by simp), mapM_some l (fun i hi => h i (by simp [hi]))]
    rfl

section
variable {P : Program}
theorem keyLits_int {t : TypeId} {q : IntKind} (h : P.underlying t = some (.int q)) (D : Nat) (n : Int) (hw : (Lit.int q n).wf = true) : P.keyLits (D + 1) t [.int q n] = some [.int q n] := by
  simp [Program.keyLits, h, hw]
theorem wf_byte (c : UInt8) : (Lit.int .u8 c.toNat).wf = true := by
  have := c.toNat_lt
  simp [Lit.wf, IntKind.min, IntKind.max, IntKind.signed, IntKind.bits] <;> omega
theorem keyLits_bytes {t e : TypeId} {n : Nat} (h : P.underlying t = some (.array n e)) (he : P.underlying e = some (.int .u8)) (hc : P.cellsOf e = 1) (hC : P.cellsOf t = n) (D : Nat) (l : List UInt8) (hl : l.length = n) :
    P.keyLits (D + 2) t (bcells l) = some (l.map fun c => .int .u8 c.toNat) := by
  unfold Program.keyLits
  simp only [h]
  rw [if_pos (by rw [bcells_length, hC, hl]), hc]
  rw [mapM_some (g := fun i => [Lit.int .u8 (l.getD i 0).toNat])]
  · simp only [Option.map_some, Option.some.injEq]
    apply List.ext_getElem?
    intro i
    rw [← hl]
    have : ((List.range l.length).map fun i => [Lit.int .u8 (l.getD i 0).toNat]).flatten = l.map fun c => Lit.int .u8 c.toNat := by
      clear hl
      induction l with
      | nil => rfl
      | cons c l ih =>
        rw [List.length_cons, List.range_succ_eq_map, List.map_cons, List.flatten_cons, List.map_map]
        simpa [Function.comp_def] using ih
    rw [this]
  · intro i hi
    have hi' : i < l.length := by rw [hl]; simpa using hi
    have : ((bcells l).drop (i * 1)).take 1 = [Value.int .u8 (l.getD i 0).toNat] := by
      rw [Nat.mul_one, List.take_one]
      simp [bcells, List.head?_drop, hi', List.getD]
    rw [this]
    exact keyLits_int he D _ (wf_byte _)
theorem lits_inj : ∀ (l m : List UInt8), (l.map fun c => Lit.int .u8 c.toNat) = (m.map fun c => Lit.int .u8 c.toNat) → l = m
  | [], [], _ => rfl
  | [], _ :: _, h => by simp at h
  | _ :: _, [], h => by simp at h
  | a :: l, b :: m, h => by
    simp only [List.map_cons, List.cons.injEq, Lit.int.injEq, true_and] at h
    rw [lits_inj l m h.2]
    have : a.toNat = b.toNat := by omega
    rw [UInt8.toNat_inj.1 this]

/-- == on two aggregates: r is whether their literals are one. -/
theorem run_eqAgg {t : TypeId} {m : Nat} (hm : m ≤ 10000) (hk : P.keyTypeAt m t = true) {cs ds : List Value} (hc : (Value.agg cs.toArray).formed P t = true) (hd : (Value.agg ds.toArray).formed P t = true)
    {D D' : Nat} {la lb : List Lit} (ha : P.keyLits D t cs = some la) (hb : P.keyLits D' t ds = some lb) (hg : P.eqGuardType P.depth t = false) (w : World) (x y : Operand) (c : Bool) (hcc : c = true ↔ la = lb) :
    (do eqGuard .eql t x y (.agg cs.toArray) (.agg ds.toArray); binOp .eql t (.agg cs.toArray) (.agg ds.toArray)).run P w = .ok (.bool c) w ∧
    (do eqGuard .neq t x y (.agg cs.toArray) (.agg ds.toArray); binOp .neq t (.agg cs.toArray) (.agg ds.toArray)).run P w = .ok (.bool (!c)) w := by
  have E := run_equalIn_deep (P := P) (10000 - m) m t hk
  rw [Nat.sub_add_cancel hm] at E
  obtain ⟨r, hr, hi⟩ := E w D D' _ _ la lb hc hd (by simpa [Value.cells] using ha) (by simpa [Value.cells] using hb)
  have : r = c := by
    rw [Bool.eq_iff_iff]; exact hi.trans hcc.symm
  subst this
  constructor
  · rw [Sem.run_bind, run_eqGuard_agg w _ _ _ _ _ _ hg, Result.andThen_ok, run_eql_struct, hr]; rfl
  · rw [Sem.run_bind, run_eqGuard_agg w _ _ _ _ _ _ hg, Result.andThen_ok, run_neq_struct, hr]; rfl

variable {ops : Array Oper} {rest : List Oper} {o : Oper} {a : Act} {w : World} {Q : Exit → Act → World → Prop}
end
end Go.Tri
