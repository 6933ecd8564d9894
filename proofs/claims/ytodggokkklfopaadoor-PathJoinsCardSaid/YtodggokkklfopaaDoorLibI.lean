/- The address of a slice's element. -/
import Derived.Test.YtodggokkklfopaaDoorLibB
set_option linter.unusedSimpArgs false
set_option linter.unusedVariables false
namespace Go.Tri
theorem run_indexAt {P : Program} {t e : TypeId} {size bytes : Nat} {z : Value} (hE : ElemT P t e size bytes z) (b off n cap i : Nat) (h : i < n) (w : World) :
    (Instr.indexAt t (.slice (some ⟨b, off, none⟩) n cap) (.int .i64 (i : Int))).run P w = .ok (.pointer (some ⟨b, off + i * size, none⟩)) w := by
  obtain ⟨j, hj, _, hs, _⟩ := info_parts hE.hi
  have hz : (Go.sizeOf e).run P w = .ok size w := by
    unfold sizeOf; rw [Sem.run_bind, run_typeInfo hj, ← hs]; rfl
  have hc : (0 : Int) ≤ (i : Int) ∧ (i : Int) < (n : Int) := by omega
  simp [Instr.indexAt, asIntOf, Go.run_underlying hE.ht, hz, add_none, h]

theorem enters {P : Program} {f : FuncId} {fn : Func} {c : Code} (hf : P.funcs[f]? = some fn) (hname : (fn.name == "runtime.NumGoroutine") = false) (hb : fn.body = some c) : ∀ args w, (callFunc f args).run P w = .ok (.enter f args) w := by
  intro args w
  have h1 : fn.name ≠ "runtime.NumGoroutine" := by simpa using hname
  simp [callFunc, hf, h1, hb, mark]
section
variable {P : Program} {ρ : Operand → Value} {o : Oper} {t t' : TypeId} {x y : Operand} {w : World}
theorem ex_lss {k : IntKind} {a b : Int} (ho : o.op = .binOp .lss t x y t') (hx : ρ x = .int k a) (hy : ρ y = .int k b) {c : Bool} (hc : decide (a < b) = c) : (execOp ρ o).run P w = .ok (.value (.bool c)) w := by
  subst hc; unfold execOp; simp [ho, hx, hy, eqGuard, binOp, Op.intCmp]
theorem ex_eqi {k : IntKind} {a b : Int} (ho : o.op = .binOp .eql t x y t') (hx : ρ x = .int k a) (hy : ρ y = .int k b) {c : Bool} (hc : (a == b) = c) : (execOp ρ o).run P w = .ok (.value (.bool c)) w := by
  subst hc; unfold execOp; simp [ho, hx, hy, eqGuard, binOp, Op.intCmp]
theorem ex_index {e : TypeId} {size bytes : Nat} {z : Value} (hE : ElemT P t e size bytes z) (ho : o.op = .indexAddr t x y) {b off n cap i : Nat} (hx : ρ x = .slice (some ⟨b, off, none⟩) n cap) (hy : ρ y = .int .i64 (i : Int)) (h : i < n) :
    (execOp ρ o).run P w = .ok (.value (.pointer (some ⟨b, off + i * size, none⟩))) w := by
  unfold execOp; simp only [ho, hx, hy]; rw [Sem.run_bind, run_indexAt hE b off n cap i h w]; rfl
theorem ex_call2 {f : Operand} {g : FuncId} {ts : Array TypeId} (ho : o.op = .call { callee := .value f, args := #[x, y], argTypes := ts }) (hf : ρ f = .func (.func g) #[] #[]) {u v : Value} (hx : ρ x = u) (hy : ρ y = v)
    (he : ∀ args w, (callFunc g args).run P w = .ok (.enter g args) w) : (execOp ρ o).run P w = .ok (.enter g #[u, v]) w := by
  unfold execOp; simp [ho, resolve, hf, hx, hy, Deferred.ofValue, invoke, he]
end
end Go.Tri
