/- Shifts, bytes of a string. -/
import Derived.Test.YtodggokkklfopaaDoorSort
import Derived.Laws.Tables
set_option linter.unusedSimpArgs false
set_option linter.unusedVariables false
namespace Go.Tri
open Go.RowKit
theorem shr_k (k : IntKind) {m r n D : Int} (s : Nat) (hn : n.toNat = s) (hs : s ≤ k.bits) (hD : (2 : Int) ^ s = D) (h : 0 ≤ m) (hr : m / D = r) : m.fdiv (2 ^ min n.toNat k.bits) = r := by
  have : min n.toNat k.bits = s := by omega
  rw [this, hD, Int.fdiv_eq_ediv_of_nonneg _ (by rw [← hD]; exact Int.pow_nonneg (by decide))]
  exact hr
theorem wrap_u8 {x r : Int} (h : x = r) (h1 : 0 ≤ r) (h2 : r ≤ 255) : IntKind.u8.wrap x = r := by
  subst h
  simp [IntKind.wrap, IntKind.signed, IntKind.bits]
  omega
theorem s_indexStr {P : Program} {ops : Array Oper} {rest : List Oper} {o : Oper} {a : Act} {w : World} {W : List Oper → Act → World → Prop} {N : Fs} {l : List (Nat × Value)} {d : Nat} {x y : Operand} {t : TypeId} {bs : ByteArray} {k' : IntKind} {i : Int}
    (kw : Walk P ops W) (F : Fr N a l) (hg : o.guard = none) (hd : o.dst = some d) (hN : Nat.blt d N.n = true) (hu : P.underlying t = some .string) (ho : o.op = .index t x y) (hx : ev l x = some (.string bs)) (hsz : bs.size = 256) (hy : ev l y = some (.int k' i)) (h0 : 0 ≤ i) (h1 : i < 256) (Q : Nat → Nat → Prop) (hQ : ∀ j (hj : j < bs.size), Q j (bs[j]'hj).toNat)
    (hk : ∀ (b : Nat) a', b ≤ 255 → Q i.toNat b → Fr N a' ((d, .int .u8 (b : Int)) :: l) → W rest a' w) : W (o :: rest) a w := by
  have hi : i.toNat < bs.size := by omega
  refine s_val kw F hg hd hN (by rw [ho]; rfl) (v := .int .u8 (((bs[i.toNat]'hi).toNat : Nat) : Int)) (w' := w) ?_ fun a' F' => hk _ a' ?_ (hQ _ hi) F'
  · unfold execOp
    simp [ho, F.eval hx, F.eval hy, Instr.index, asIntOf, Go.run_underlying hu, h0, getElem?_pos bs i.toNat hi]
  · have := (bs[i.toNat]'hi).toNat_lt; omega
/-- Parts of a struct or an array that is put together. -/
def evp (l : List (Nat × Value)) : List (Nat × Operand) → Option (List (Nat × Value))
  | [] => some []
  | x :: r => match ev l x.2, evp l r with | some v, some vs => some ((x.1, v) :: vs) | _, _ => none
theorem Fr.evalp {N : Fs} {a : Act} {l : List (Nat × Value)} (F : Fr N a l) : ∀ {xs : List (Nat × Operand)} {vs : List (Nat × Value)}, evp l xs = some vs → xs.map (fun p => (p.1, a.eval p.2)) = vs
  | [], vs, h => by simp [evp] at h; subst h; rfl
  | x :: r, vs, h => by
    simp only [evp] at h
    split at h
    · rename_i v us h1 h2
      cases h
      rw [List.map_cons, F.eval h1, F.evalp h2]
    · cases h
theorem y_build {P : Program} {o : Oper} {a : Act} {w : World} {N : Fs} {l : List (Nat × Value)} {t : TypeId} (F : Fr N a l) {parts : List (Nat × Operand)} (ho : o.op = .build t parts.toArray) {vs : List (Nat × Value)} (hv : evp l parts = some vs) {cs : List Value} (hb : P.built t vs = some cs.toArray) : (execOp a.eval o).run P w = .ok (.value (.agg cs.toArray)) w := by
  have h1 := F.evalp hv
  have h2 : (parts.toArray.map fun (p : Nat × Operand) => (p.1, a.eval p.2)) = vs.toArray := by rw [List.map_toArray, h1]
  unfold execOp
  simp only [ho]
  rw [h2, Sem.run_bind, run_build w t vs.toArray cs.toArray hb]
  rfl
theorem s_andLow {P : Program} {ops : Array Oper} {rest : List Oper} {o : Oper} {a : Act} {w : World} {W : List Oper → Act → World → Prop} {N : Fs} {l : List (Nat × Value)} {d : Nat} {x y : Operand} {t t' : TypeId} {n : Int} {m : Nat}
    (kw : Walk P ops W) (F : Fr N a l) (hg : o.guard = none) (hd : o.dst = some d) (hN : Nat.blt d N.n = true) (ho : o.op = .binOp .and t x y t') (hx : ev l x = some (.int .i64 n)) (hy : ev l y = some (.int .i64 (m : Int))) (hm : m < 9223372036854775808)
    (hk : ∀ (r : Nat) a', r ≤ m → Fr N a' ((d, .int .i64 (r : Int)) :: l) → W rest a' w) : W (o :: rest) a w := by
  have hb : (BitVec.ofInt 64 (m : Int)).toNat = m := by
    rw [BitVec.ofInt_natCast, BitVec.toNat_ofNat]; exact Nat.mod_eq_of_lt (by omega)
  have hr : (BitVec.ofInt 64 n &&& BitVec.ofInt 64 (m : Int)).toNat ≤ m := by
    rw [BitVec.toNat_and, hb]; exact Nat.and_le_right
  refine s_val kw F hg hd hN (by rw [ho]; rfl) (v := .int .i64 (((BitVec.ofInt 64 n &&& BitVec.ofInt 64 (m : Int)).toNat : Nat) : Int)) (w' := w) ?_ fun a' F' => hk _ a' hr F'
  have hw := wrap_i64 (x := (((BitVec.ofInt 64 n &&& BitVec.ofInt 64 (m : Int)).toNat : Nat) : Int)) rfl (by omega) (by omega)
  have h1 : (binOp .and t (.int .i64 n) (.int .i64 (m : Int))).run P w = .ok (.int .i64 (((BitVec.ofInt 64 n &&& BitVec.ofInt 64 (m : Int)).toNat : Nat) : Int)) w := by
    have : (binOp .and t (.int .i64 n) (.int .i64 (m : Int))).run P w = .ok (.int .i64 (IntKind.i64.wrap (((BitVec.ofInt 64 n &&& BitVec.ofInt 64 (m : Int)).toNat : Nat) : Int))) w := rfl
    rw [this, hw]
  unfold execOp
  simp [ho, F.eval hx, F.eval hy, eqGuard, h1]
theorem y_nilCheck {P : Program} {o : Oper} {a : Act} {w : World} {N : Fs} {l : List (Nat × Value)} {x : Operand} {ad : Addr} (F : Fr N a l) (ho : o.op = .nilCheck x) (hx : ev l x = some (.pointer (some ad))) : (execOp a.eval o).run P w = .ok (.value (.pointer (some ad))) w := by
  unfold execOp
  simp [ho, F.eval hx]
def xorU (x y : Int) : Int := IntKind.u64.wrap (((BitVec.ofInt 64 x ^^^ BitVec.ofInt 64 y).toNat : Nat) : Int)
theorem y_xorU {P : Program} {o : Oper} {a : Act} {w : World} {N : Fs} {l : List (Nat × Value)} {x y : Operand} {t t' : TypeId} {m n : Int} (F : Fr N a l) (ho : o.op = .binOp .xor t x y t') (hx : ev l x = some (.int .u64 m)) (hy : ev l y = some (.int .u64 n)) : (execOp a.eval o).run P w = .ok (.value (.int .u64 (xorU m n))) w := by
  have h1 : (binOp .xor t (.int .u64 m) (.int .u64 n)).run P w = .ok (.int .u64 (xorU m n)) w := rfl
  unfold execOp
  simp [ho, F.eval hx, F.eval hy, eqGuard, h1]
theorem y_shl {P : Program} {o : Oper} {a : Act} {w : World} {N : Fs} {l : List (Nat × Value)} {x y : Operand} {t t' : TypeId} {k k' : IntKind} {m n r : Int} (F : Fr N a l) (ho : o.op = .binOp .shl t x y t') (hx : ev l x = some (.int k m)) (hy : ev l y = some (.int k' n)) (hn : 0 ≤ n) (hr : k.wrap (m * 2 ^ min n.toNat k.bits) = r) : (execOp a.eval o).run P w = .ok (.value (.int k r)) w := by
  unfold execOp
  have h0 : ¬ n < 0 := by omega
  simp [ho, F.eval hx, F.eval hy, eqGuard, binOp, Op.shift, h0, hr]
theorem s_andLowU {P : Program} {ops : Array Oper} {rest : List Oper} {o : Oper} {a : Act} {w : World} {W : List Oper → Act → World → Prop} {N : Fs} {l : List (Nat × Value)} {d : Nat} {x y : Operand} {t t' : TypeId} {n : Int} {m : Nat}
    (kw : Walk P ops W) (F : Fr N a l) (hg : o.guard = none) (hd : o.dst = some d) (hN : Nat.blt d N.n = true) (ho : o.op = .binOp .and t x y t') (hx : ev l x = some (.int .u64 n)) (hy : ev l y = some (.int .u64 (m : Int))) (hm : m < 9223372036854775808)
    (hk : ∀ (r : Nat) a', r ≤ m → Fr N a' ((d, .int .u64 (r : Int)) :: l) → W rest a' w) : W (o :: rest) a w := by
  have hb : (BitVec.ofInt 64 (m : Int)).toNat = m := by
    rw [BitVec.ofInt_natCast, BitVec.toNat_ofNat]; exact Nat.mod_eq_of_lt (by omega)
  have hr : (BitVec.ofInt 64 n &&& BitVec.ofInt 64 (m : Int)).toNat ≤ m := by
    rw [BitVec.toNat_and, hb]; exact Nat.and_le_right
  refine s_val kw F hg hd hN (by rw [ho]; rfl) (v := .int .u64 (((BitVec.ofInt 64 n &&& BitVec.ofInt 64 (m : Int)).toNat : Nat) : Int)) (w' := w) ?_ fun a' F' => hk _ a' hr F'
  have hw := wrap_u64 (x := (((BitVec.ofInt 64 n &&& BitVec.ofInt 64 (m : Int)).toNat : Nat) : Int)) rfl (by omega) (by omega)
  have h1 : (binOp .and t (.int .u64 n) (.int .u64 (m : Int))).run P w = .ok (.int .u64 (((BitVec.ofInt 64 n &&& BitVec.ofInt 64 (m : Int)).toNat : Nat) : Int)) w := by
    have : (binOp .and t (.int .u64 n) (.int .u64 (m : Int))).run P w = .ok (.int .u64 (IntKind.u64.wrap (((BitVec.ofInt 64 n &&& BitVec.ofInt 64 (m : Int)).toNat : Nat) : Int))) w := rfl
    rw [this, hw]
  unfold execOp
  simp [ho, F.eval hx, F.eval hy, eqGuard, h1]
def shlU (x n : Int) : Int := IntKind.u64.wrap (x * 2 ^ min n.toNat IntKind.u64.bits)
def shrU (x n : Int) : Int := x.fdiv (2 ^ min n.toNat IntKind.u64.bits)
theorem shl_one {k x : Nat} (h : 2 ^ k ≤ 2 * x) (hx : x ≤ 1000000) : IntKind.u64.wrap (1 * 2 ^ min ((k : Nat) : Int).toNat IntKind.u64.bits) = ((2 ^ k : Nat) : Int) := by
  have hk : k < 22 := (Nat.pow_lt_pow_iff_right (a := 2) (by decide)).1 (by omega)
  have : min ((k : Nat) : Int).toNat IntKind.u64.bits = k := by
    show min ((k : Nat) : Int).toNat 64 = k
    omega
  rw [this, Int.one_mul]
  have e : (2 : Int) ^ k = ((2 ^ k : Nat) : Int) := by simp
  rw [e]
  generalize 2 ^ k = T at h
  exact wrap_u64 rfl (by omega) (by omega)
end Go.Tri
