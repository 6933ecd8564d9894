/- Data: numbers, products, what is read of cells. -/
import Derived.Test.YtfepdfjhejkemaaDoorD4
set_option linter.unusedSimpArgs false
set_option linter.unusedVariables false
namespace Go.Tri
open Go.RowKit
def andI (k : IntKind) (x y : Int) : Int := k.wrap (((BitVec.ofInt k.bits x &&& BitVec.ofInt k.bits y).toNat : Nat) : Int)
def orI (k : IntKind) (x y : Int) : Int := k.wrap (((BitVec.ofInt k.bits x ||| BitVec.ofInt k.bits y).toNat : Nat) : Int)
def xorI (k : IntKind) (x y : Int) : Int := k.wrap (((BitVec.ofInt k.bits x ^^^ BitVec.ofInt k.bits y).toNat : Nat) : Int)
def notI (k : IntKind) (x : Int) : Int := xorI k (if k.signed then -1 else k.max) x
def shlI (k : IntKind) (x n : Int) : Int := k.wrap (x * 2 ^ min n.toNat k.bits)
def shrI (k : IntKind) (x n : Int) : Int := x.fdiv (2 ^ min n.toNat k.bits)
def shlO (k : IntKind) (x n : Int) : Option Int := if 0 ≤ n then some (shlI k x n) else none
def shrO (k : IntKind) (x n : Int) : Option Int := if 0 ≤ n then some (shrI k x n) else none
def quoO (k : IntKind) (x y : Int) : Option Int := if y = 0 then none else some (k.wrap (x.tdiv y))
def remO (x y : Int) : Option Int := if y = 0 then none else some (x.tmod y)
section
variable {P : Program} {o : Oper} {a : Act} {w : World} {N : Fs} {l : List (Nat × Value)} {x y : Operand} {t t' : TypeId} {k k' : IntKind} {m n r : Int}
theorem i_add (F : Fr N a l) (ho : o.op = .binOp .add t x y t') (hx : ev l x = some (.int k m)) (hy : ev l y = some (.int k n)) : (execOp a.eval o).run P w = .ok (.value (.int k (k.wrap (m + n)))) w := y_add F ho hx hy rfl
theorem i_sub (F : Fr N a l) (ho : o.op = .binOp .sub t x y t') (hx : ev l x = some (.int k m)) (hy : ev l y = some (.int k n)) : (execOp a.eval o).run P w = .ok (.value (.int k (k.wrap (m - n)))) w := y_sub F ho hx hy rfl
theorem i_mul (F : Fr N a l) (ho : o.op = .binOp .mul t x y t') (hx : ev l x = some (.int k m)) (hy : ev l y = some (.int k n)) : (execOp a.eval o).run P w = .ok (.value (.int k (k.wrap (m * n)))) w := y_mul F ho hx hy rfl
theorem i_and (F : Fr N a l) (ho : o.op = .binOp .and t x y t') (hx : ev l x = some (.int k m)) (hy : ev l y = some (.int k n)) : (execOp a.eval o).run P w = .ok (.value (.int k (andI k m n))) w := by
  unfold execOp; simp [ho, F.eval hx, F.eval hy, eqGuard, binOp, Op.intBits, andI]
theorem i_or (F : Fr N a l) (ho : o.op = .binOp .or t x y t') (hx : ev l x = some (.int k m)) (hy : ev l y = some (.int k n)) : (execOp a.eval o).run P w = .ok (.value (.int k (orI k m n))) w := by
  unfold execOp; simp [ho, F.eval hx, F.eval hy, eqGuard, binOp, Op.intBits, orI]
theorem i_xor (F : Fr N a l) (ho : o.op = .binOp .xor t x y t') (hx : ev l x = some (.int k m)) (hy : ev l y = some (.int k n)) : (execOp a.eval o).run P w = .ok (.value (.int k (xorI k m n))) w := by
  unfold execOp; simp [ho, F.eval hx, F.eval hy, eqGuard, binOp, Op.intBits, xorI]
theorem i_not (F : Fr N a l) (ho : o.op = .unOp .xor t x) (hx : ev l x = some (.int k m)) : (execOp a.eval o).run P w = .ok (.value (.int k (notI k m))) w := by
  have h1 : (Op.unary .xor (.int k m)).run P w = .ok (.int k (notI k m)) w := rfl
  unfold execOp; simp [ho, F.eval hx, h1]
theorem i_neg (F : Fr N a l) (ho : o.op = .unOp .neg t x) (hx : ev l x = some (.int k m)) : (execOp a.eval o).run P w = .ok (.value (.int k (k.wrap (0 - m)))) w := by
  have h1 : (Op.unary .neg (.int k m)).run P w = .ok (.int k (k.wrap (0 - m))) w := rfl
  unfold execOp; simp [ho, F.eval hx, h1]
theorem i_shl (F : Fr N a l) (ho : o.op = .binOp .shl t x y t') (hx : ev l x = some (.int k m)) (hy : ev l y = some (.int k' n)) (hn : 0 ≤ n) : (execOp a.eval o).run P w = .ok (.value (.int k (shlI k m n))) w := by
  unfold execOp
  have h0 : ¬ n < 0 := by omega
  simp [ho, F.eval hx, F.eval hy, eqGuard, binOp, Op.shift, h0, shlI]
theorem i_shr (F : Fr N a l) (ho : o.op = .binOp .shr t x y t') (hx : ev l x = some (.int k m)) (hy : ev l y = some (.int k' n)) (hn : 0 ≤ n) : (execOp a.eval o).run P w = .ok (.value (.int k (shrI k m n))) w := by
  unfold execOp
  have h0 : ¬ n < 0 := by omega
  simp [ho, F.eval hx, F.eval hy, eqGuard, binOp, Op.shift, h0, shrI]
theorem shlO_some (h : shlO k m n = some r) : 0 ≤ n ∧ r = shlI k m n := by
  unfold shlO at h; split at h
  · rename_i h0; exact ⟨h0, (Option.some.inj h).symm⟩
  · cases h
theorem shrO_some (h : shrO k m n = some r) : 0 ≤ n ∧ r = shrI k m n := by
  unfold shrO at h; split at h
  · rename_i h0; exact ⟨h0, (Option.some.inj h).symm⟩
  · cases h
theorem i_shlO (F : Fr N a l) (ho : o.op = .binOp .shl t x y t') (hx : ev l x = some (.int k m)) (hy : ev l y = some (.int k' n)) (h : shlO k m n = some r) : (execOp a.eval o).run P w = .ok (.value (.int k r)) w := by
  obtain ⟨h0, rfl⟩ := shlO_some h; exact i_shl F ho hx hy h0
theorem i_shrO (F : Fr N a l) (ho : o.op = .binOp .shr t x y t') (hx : ev l x = some (.int k m)) (hy : ev l y = some (.int k' n)) (h : shrO k m n = some r) : (execOp a.eval o).run P w = .ok (.value (.int k r)) w := by
  obtain ⟨h0, rfl⟩ := shrO_some h; exact i_shr F ho hx hy h0
theorem i_quo (F : Fr N a l) (ho : o.op = .binOp .quo t x y t') (hx : ev l x = some (.int k m)) (hy : ev l y = some (.int k n)) (h : quoO k m n = some r) : (execOp a.eval o).run P w = .ok (.value (.int k r)) w := by
  unfold quoO at h
  split at h
  · cases h
  · rename_i h0; cases h
    unfold execOp
    simp [ho, F.eval hx, F.eval hy, eqGuard, binOp, Op.intDiv, h0]
theorem i_rem (F : Fr N a l) (ho : o.op = .binOp .rem t x y t') (hx : ev l x = some (.int k m)) (hy : ev l y = some (.int k n)) (h : remO m n = some r) : (execOp a.eval o).run P w = .ok (.value (.int k r)) w := by
  unfold remO at h
  split at h
  · cases h
  · rename_i h0; cases h
    unfold execOp
    simp [ho, F.eval hx, F.eval hy, eqGuard, binOp, Op.intDiv, h0]
theorem y_conv {k₀ : IntKind} (F : Fr N a l) {d : TypeDesc} (hs : P.underlying t = some d) (hd : P.underlying t' = some (.int k)) (ho : o.op = .convert t t' x) (hx : ev l x = some (.int k₀ m)) (hr : k.wrap m = r) : (execOp a.eval o).run P w = .ok (.value (.int k r)) w := by
  unfold execOp
  simp only [ho, F.eval hx]
  have : (convert t t' (.int k₀ m)).run P w = .ok (.int k r) w := by
    unfold convert
    rw [Sem.run_bind, Go.Tri.run_underlying hs]
    simp only [Result.andThen_ok]
    rw [Sem.run_bind, Go.Tri.run_underlying hd]
    simp only [Result.andThen_ok, Conv.intToInt, hr]
    cases d <;> rfl
  rw [Sem.run_bind, this]; rfl
theorem i_conv (F : Fr N a l) (ht : P.underlying t = some (.int k)) (ht' : P.underlying t' = some (.int k')) (ho : o.op = .convert t t' x) (hx : ev l x = some (.int k m)) : (execOp a.eval o).run P w = .ok (.value (.int k' (k'.wrap m))) w := y_conv F ht ht' ho hx rfl
end
/-- Numbers in an array. -/
def icells (k : IntKind) (xs : List Int) : List Value := xs.map (Value.int k)
theorem icells_length (k : IntKind) (xs : List Int) : (icells k xs).length = xs.length := by simp [icells]
theorem icells_flat (k : IntKind) (xs : List Int) : Flat (icells k xs) := by
  intro v hv; simp only [icells, List.mem_map] at hv; obtain ⟨c, _, rfl⟩ := hv; rfl
theorem icells_at {k : IntKind} {xs : List Int} {i : Nat} {x : Int} (h : xs[i]? = some x) : (icells k xs)[i]? = some (.int k x) := by simp [icells, h]
theorem icells_set (k : IntKind) (xs : List Int) (i : Nat) (x : Int) : (icells k xs).set i (.int k x) = icells k (xs.set i x) := by simp [icells, List.map_set]
/-- A number as a byte. -/
def u8 (n : Int) : UInt8 := UInt8.ofNat n.toNat
def u8O (n : Int) : Option UInt8 := if 0 ≤ n ∧ n < 256 then some (u8 n) else none
theorem u8O_some {n : Int} {c : UInt8} (h : u8O n = some c) : ((c.toNat : Nat) : Int) = n := by
  unfold u8O at h; split at h
  · rename_i h0; cases h; unfold u8; simp; omega
  · cases h
theorem bcells_set (xs : List UInt8) (i : Nat) {n : Int} {c : UInt8} (h : u8O n = some c) : (bcells xs).set i (.int .u8 n) = bcells (xs.set i c) := by
  rw [← u8O_some h]; simp [bcells, List.map_set]
/-- A slice as one cell. -/
def rSl {α : Type} (R : Rp α) : Rp (List α) := ⟨1, fun B cs xs => ∃ p cap, cs = [.slice p xs.length cap] ∧ (HP.sl R p cap xs).pr B default (fun _ => False), fun ⟨p, cap, h, k⟩ hl => ⟨p, cap, h, HP.mono _ k hl⟩, fun ⟨p, cap, h, k⟩ => by rw [h]; rfl, fun ⟨p, cap, h, k⟩ => by rw [h]; intro v hv; simp at hv; subst hv; rfl⟩
def rPair {α β : Type} (R : Rp α) (Q : Rp β) : Rp (α × β) := ⟨R.n + Q.n, fun B cs x => ∃ c d, cs = c ++ d ∧ R.rd B c x.1 ∧ Q.rd B d x.2, fun ⟨c, d, h, h1, h2⟩ hl => ⟨c, d, h, R.mono h1 hl, Q.mono h2 hl⟩, fun ⟨c, d, h, h1, h2⟩ => by rw [h, List.length_append, R.len h1, Q.len h2], fun ⟨c, d, h, h1, h2⟩ => by
  rw [h]; intro v hv
  rcases List.mem_append.1 hv with hv | hv
  · exact R.flat h1 v hv
  · exact Q.flat h2 v hv⟩
section
variable {α β : Type} {R : Rp α} {Q : Rp β} {w0 w : World} {l : List HP}
theorem St.rcPair (H : St w0 w l) (i : Nat) {cs : List Value} {x : α × β} (hi : l[i]? = some (HP.rc (rPair R Q) cs x)) : ∃ c d, cs = c ++ d ∧ St w0 w (HP.rc R c x.1 :: HP.rc Q d x.2 :: l) := by
  obtain ⟨B, H⟩ := H.out
  obtain ⟨S, c, d, h, h1, h2⟩ := H.at hi
  exact ⟨c, d, h, ((H.more (A := HP.rc Q d x.2) h2).more (A := HP.rc R c x.1) h1).st⟩
theorem St.rcSl (H : St w0 w l) (i : Nat) {cs : List Value} {x : List α} (hi : l[i]? = some (HP.rc (rSl R) cs x)) : ∃ p cap, cs = [.slice p x.length cap] ∧ St w0 w (HP.sl R p cap x :: l) := by
  obtain ⟨B, H⟩ := H.out
  obtain ⟨S, p, cap, h, h1⟩ := H.at hi
  exact ⟨p, cap, h, (H.more (A := HP.sl R p cap x) h1).st⟩
theorem St.rcI (H : St w0 w l) (i : Nat) {k : IntKind} {cs : List Value} {x : Int} (hi : l[i]? = some (HP.rc (rInt k) cs x)) : cs = [.int k x] := by
  obtain ⟨_, S, _, h, _⟩ := H.get i hi; exact h
theorem St.rcB (H : St w0 w l) (i : Nat) {cs : List Value} {x : UInt8} (hi : l[i]? = some (HP.rc rByte cs x)) : cs = [.int .u8 x.toNat] := by
  obtain ⟨_, S, _, h, _⟩ := H.get i hi; exact h
theorem St.rcBN (H : St w0 w l) (i : Nat) {n : Nat} {cs : List Value} {x : List UInt8} (hi : l[i]? = some (HP.rc (rBytesN n) cs x)) : cs = bcells x ∧ x.length = n := by
  obtain ⟨_, S, _, h, _⟩ := H.get i hi; exact h
/-- A new owned slice out of a block of cells. -/
theorem St.blkOw (H : St w0 w l) (i : Nat) {b : Nat} {cs : List Value} {e : TypeId} (hi : l[i]? = some (HP.blk b cs e)) {xs : List α} (hx : ∀ {B : Base}, (∀ (j : Nat) (C : HP), l[j]? = some C → ∃ S, C.pr B w S) → ∃ css, css.flatten = cs ∧ RdL R B css xs) (hm : xs.length ≤ 1000000) :
    St w0 w (l.set i (HP.ow R e (some ⟨b, 0, none⟩) xs.length xs)) := by
  obtain ⟨B, H⟩ := H.out
  obtain ⟨css, hc, hr⟩ := hx (B := B) fun j C hj => H.at hj
  refine (H.set i (C := HP.ow R e (some ⟨b, 0, none⟩) xs.length xs) hi fun S h => ⟨css, hr, ⟨hr.flen, .inr ⟨b, xs.length, cs.toArray, rfl, Nat.zero_le _, h.1, Nat.le_refl _, by unfold maxLen; omega, ?_, ?_⟩⟩, fun g hg => by simp [Value.ownBlock] at hg; subst hg; exact h.2⟩).st
  · rw [← hc]; simp [hr.flen]
  · show List.take _ cs = _; rw [← hc, ← hr.flen, List.take_length]
end
end Go.Tri
