/- Plain: where groups end. -/
import Derived.Test.YtnjemlkcamdbfaaGreatDoorTrB
set_option linter.unusedSimpArgs false
set_option linter.unusedVariables false
namespace Go.Proofs.YtnjemlkcamdbfaaGreatDoor
open Go.RowKit Go.Tri
theorem xor_lt32 {a c : Nat} (ha : a < 4294967296) (hc : c < 256) : a ^^^ c < 4294967296 := Nat.xor_lt_two_pow (n := 32) ha (by omega)
theorem xor32 (a c : Nat) (ha : a < 4294967296) (hc : c < 256) : xorI .u32 (a : Int) (c : Int) = ((a ^^^ c : Nat) : Int) := by
  unfold xorI
  have h := xor_lt32 ha hc
  have e2 : (BitVec.ofInt IntKind.u32.bits (a : Int) ^^^ BitVec.ofInt IntKind.u32.bits (c : Int)).toNat = a ^^^ c := by
    rw [BitVec.toNat_xor, BitVec.toNat_ofInt, BitVec.toNat_ofInt]
    have hb : ((2 ^ IntKind.u32.bits : Nat) : Int) = 4294967296 := by decide
    rw [hb, show ((a : Int) % 4294967296).toNat = a by omega, show ((c : Int) % 4294967296).toNat = c by omega]
  rw [e2, wrap_u32']; omega
theorem xor64 (a c : Nat) (ha : a < 4294967296) (hc : c < 256) : xorI .u64 (a : Int) (c : Int) = ((a ^^^ c : Nat) : Int) := by
  unfold xorI
  have h := xor_lt32 ha hc
  have e2 : (BitVec.ofInt IntKind.u64.bits (a : Int) ^^^ BitVec.ofInt IntKind.u64.bits (c : Int)).toNat = a ^^^ c := by
    rw [BitVec.toNat_xor, BitVec.toNat_ofInt, BitVec.toNat_ofInt]
    have hb : ((2 ^ IntKind.u64.bits : Nat) : Int) = 18446744073709551616 := by decide
    rw [hb, show ((a : Int) % 18446744073709551616).toNat = a by omega, show ((c : Int) % 18446744073709551616).toNat = c by omega]
  rw [e2, wrap_u64']; omega
theorem and3 (a : Nat) (ha : a < 4294967296) : andI .u32 (a : Int) 3 = ((a % 4 : Nat) : Int) := by
  unfold andI
  have e2 : (BitVec.ofInt IntKind.u32.bits (a : Int) &&& BitVec.ofInt IntKind.u32.bits 3).toNat = a % 4 := by
    rw [BitVec.toNat_and, BitVec.toNat_ofInt]
    have hb : ((2 ^ IntKind.u32.bits : Nat) : Int) = 4294967296 := by decide
    rw [hb, show ((a : Int) % 4294967296).toNat = a by omega, show (BitVec.ofInt IntKind.u32.bits 3).toNat = 2 ^ 2 - 1 by decide, Nat.and_two_pow_sub_one_eq_mod]
  rw [e2, wrap_u32']; omega
def mkS (h : Nat) (c : UInt8) : Nat := (h ^^^ c.toNat) * 16777619 % 4294967296
/-- A key's sum. -/
def mkN (key : List UInt8) : Nat := key.foldl mkS 2166136261
theorem mkN_lt (key : List UInt8) : mkN key < 4294967296 := by
  unfold mkN
  have : ∀ (l : List UInt8) (h : Nat), h < 4294967296 → l.foldl mkS h < 4294967296 := by
    intro l
    induction l with
    | nil => exact fun h hh => hh
    | cons c l ih => exact fun h _ => ih _ (Nat.mod_lt _ (by omega))
  exact this key _ (by omega)
/-- Does a key end a group? -/
def mark (key : List UInt8) (lv : Nat) : Bool := decide (mkN key / 4 ^ lv % 4 = 0)
theorem run_inl {α σ ρ : Type} (g : σ → α → σ) (fin : σ → ρ) : ∀ (l : List α) (s : σ), runE (fun s c => (.inl (g s c) : σ ⊕ ρ)) fin l s = fin (l.foldl g s)
  | [], s => rfl
  | c :: l, s => run_inl g fin l (g s c)
theorem mk_run (l : List UInt8) (h : Nat) : runE (fun (h : Nat) (c : UInt8) => (.inl (mkS h c) : Nat ⊕ Int)) (fun h => (h : Int)) l h = ((l.foldl mkS h : Nat) : Int) := run_inl mkS _ l h
theorem pMark_eq (key : List UInt8) (lv : Nat) (hl : lv ≤ 15) (hk : key.length ≤ 1000000) : m_shape_Mark key (lv : Int) = some (mark key lv) := by
  unfold m_shape_Mark
  rw [if_neg (by omega), if_neg (by omega)]
  refine (congrArg (fun o => Option.bind o _) (loop_xs0 (s0 := 2166136261) key (fun (h : Nat) (i : Int) => ((h : Int), i)) (fun h c => .inl (mkS h c)) (fun h => (h : Int)) (fun i h => h < 4294967296) (by decide) (fun i h c hc hI => ?_) (fun h hI => by rw [if_neg (by omega)]))).trans ?_
  · have hi := (List.getElem?_eq_some_iff.1 hc).1
    have h1 := c.toNat_lt
    simp only
    rw [if_pos (by omega), idxO_nat hc]
    simp only [Option.bind_some, Sum.elim_inl]
    rw [show IntKind.u32.wrap ((c.toNat : Nat) : Int) = ((c.toNat : Nat) : Int) by rw [wrap_u32']; omega, xor32 _ _ hI h1, wrap_u32', i64_id (by omega) (by omega)]
    refine ⟨?_, fun s' hs' => ?_⟩
    · congr 3
    · cases hs'; exact Nat.mod_lt _ (by omega)
  · rw [mk_run]
    simp only [Option.bind_some]
    have e : IntKind.i64.wrap (2 * (lv : Int)) = ((2 * lv : Nat) : Int) := by rw [i64_id (by omega) (by omega)]; omega
    rw [e]
    have hsh : shrO .u32 ((key.foldl mkS 2166136261 : Nat) : Int) ((2 * lv : Nat) : Int) = some (shrI .u32 ((key.foldl mkS 2166136261 : Nat) : Int) ((2 * lv : Nat) : Int)) := by unfold shrO; rw [if_pos (by omega)]
    rw [hsh]
    simp only [Option.bind_some]
    have hlt := mkN_lt key
    unfold mkN at hlt
    rw [shrI_nat .u32 _ _ (by show 2 * lv ≤ 32; omega), Nat.pow_mul, show 2 ^ 2 = 4 from rfl, and3 _ (Nat.lt_of_le_of_lt (Nat.div_le_self _ _) hlt)]
    unfold mark mkN
    congr 1
    rw [decide_eq_decide]; omega
theorem rMark_eq (key : List UInt8) (lv : Nat) (hl : lv ≤ 15) (hk : key.length ≤ 1000000) : m_triremeref06_Mark key (lv : Int) = some (mark key lv) := by
  unfold m_triremeref06_Mark
  rw [if_neg (by omega), if_neg (by omega)]
  refine (congrArg (fun o => Option.bind o _) (loop_xs0 (s0 := 2166136261) key (fun (h : Nat) (i : Int) => ((h : Int), i)) (fun h c => .inl (mkS h c)) (fun h => (h : Int)) (fun i h => h < 4294967296) (by decide) (fun i h c hc hI => ?_) (fun h hI => by rw [if_neg (by omega)]))).trans ?_
  · have hi := (List.getElem?_eq_some_iff.1 hc).1
    have h1 := c.toNat_lt
    have h2 := xor_lt32 hI h1
    simp only
    rw [if_pos (by omega), idxO_nat hc]
    simp only [Option.bind_some, Sum.elim_inl]
    rw [show IntKind.u64.wrap ((c.toNat : Nat) : Int) = ((c.toNat : Nat) : Int) by rw [wrap_u64']; omega, xor64 _ _ hI h1, show IntKind.u64.wrap (((h ^^^ c.toNat : Nat) : Int) * 16777619) = (((h ^^^ c.toNat) * 16777619 : Nat) : Int) by rw [wrap_u64']; omega, show remO (((h ^^^ c.toNat) * 16777619 : Nat) : Int) 4294967296 = _ from remO_nat _ 4294967296 (by omega), i64_id (by omega) (by omega)]
    simp only [Option.bind_some]
    exact ⟨rfl, fun s' hs' => by cases hs'; exact Nat.mod_lt _ (by omega)⟩
  · rw [mk_run]
    simp only [Option.bind_some]
    have hlt := mkN_lt key
    unfold mkN at hlt
    have hq : ∀ m : Nat, m < 4294967296 → quoO .u64 (m : Int) 4 = some ((m / 4 : Nat) : Int) := fun m hm => by
      unfold quoO
      rw [if_neg (by omega), show (m : Int).tdiv 4 = ((m / 4 : Nat) : Int) from (Int.ofNat_tdiv m 4).symm, u64_id (by omega) (by omega)]
    have hrun : ∀ (k : Nat) (h : Nat), runE (fun (h : Nat) (_ : Unit) => (.inl (h / 4) : Nat ⊕ Int)) (fun h => (h : Int)) (List.replicate k ()) h = ((h / 4 ^ k : Nat) : Int) := by
      intro k
      induction k with
      | zero => intro h; simp [runE]
      | succ k ih => intro h; simp only [List.replicate_succ, runE]; rw [ih, Nat.pow_succ, Nat.mul_comm, ← Nat.div_div_eq_div_mul]
    refine (congrArg (fun o => Option.bind o _) (loop_xs0 (s0 := key.foldl mkS 2166136261) (List.replicate lv ()) (fun (h : Nat) (i : Int) => ((h : Int), i)) (fun h _ => .inl (h / 4)) (fun h => (h : Int)) (fun i h => h < 4294967296) hlt (fun i h c hc hI => ?_) (fun h hI => by rw [List.length_replicate]; rw [if_neg (by omega)]))).trans ?_
    · have hi := (List.getElem?_eq_some_iff.1 hc).1
      rw [List.length_replicate] at hi
      simp only
      rw [if_pos (by omega), hq h hI]
      simp only [Option.bind_some, Sum.elim_inl]
      rw [i64_id (by omega) (by omega)]
      exact ⟨rfl, fun s' hs' => by cases hs'; exact Nat.lt_of_le_of_lt (Nat.div_le_self _ _) hI⟩
    · rw [hrun]
      simp only [Option.bind_some]
      rw [show remO ((key.foldl mkS 2166136261 / 4 ^ lv : Nat) : Int) 4 = _ from remO_nat _ 4 (by omega)]
      simp only [Option.bind_some]
      unfold mark mkN
      congr 1
      rw [decide_eq_decide]; omega
end Go.Proofs.YtnjemlkcamdbfaaGreatDoor
