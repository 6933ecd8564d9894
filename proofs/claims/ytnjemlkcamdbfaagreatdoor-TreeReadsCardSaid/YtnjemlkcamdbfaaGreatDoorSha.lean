/- Plain: both digests are one function. -/
import Derived.Test.YtnjemlkcamdbfaaGreatDoorP
import Derived.Test.YtnjemlkcamdbfaaGreatDoorMod
set_option linter.unusedSimpArgs false
set_option linter.unusedVariables false
namespace Go.Proofs.YtnjemlkcamdbfaaGreatDoor
open Go.RowKit Go.Tri
/-! ### The function -/
def w32 (n : Int) : Int := IntKind.u32.wrap n
def sg0 (x : Int) : Int := xorI .u32 (xorI .u32 (rot x 7) (rot x 18)) (shrI .u32 x 3)
def sg1 (x : Int) : Int := xorI .u32 (xorI .u32 (rot x 17) (rot x 19)) (shrI .u32 x 10)
def bg0 (x : Int) : Int := xorI .u32 (xorI .u32 (rot x 2) (rot x 13)) (rot x 22)
def bg1 (x : Int) : Int := xorI .u32 (xorI .u32 (rot x 6) (rot x 11)) (rot x 25)
def word4 (blk : List UInt8) (i : Nat) : Int := ((((((blk.getD (4 * i) 0).toNat * 256 + (blk.getD (4 * i + 1) 0).toNat) * 256 + (blk.getD (4 * i + 2) 0).toNat) * 256 + (blk.getD (4 * i + 3) 0).toNat : Nat)) : Int)
def schedStep (blk : List UInt8) (i : Nat) (w : List Int) : List Int :=
  w.set i (if i < 16 then word4 blk i else w32 (w32 (w32 (w.getD (i - 16) 0 + sg0 (w.getD (i - 15) 0)) + w.getD (i - 7) 0) + sg1 (w.getD (i - 2) 0)))
def sched (blk : List UInt8) : List Int := iterF (schedStep blk) 64 0 (List.replicate 64 0)
def tOne (w : List Int) (i : Nat) (e f g h : Int) : Int :=
  w32 (w32 (w32 (w32 (h + bg1 e) + xorI .u32 (andI .u32 e f) (andI .u32 (xorI .u32 4294967295 e) g)) + shaRounds.getD i 0) + w.getD i 0)
def roundStep (w : List Int) (i : Nat) (v : List Int) : List Int :=
  let t := tOne w i (v.getD 4 0) (v.getD 5 0) (v.getD 6 0) (v.getD 7 0)
  [w32 (w32 (t + bg0 (v.getD 0 0)) + xorI .u32 (xorI .u32 (andI .u32 (v.getD 0 0) (v.getD 1 0)) (andI .u32 (v.getD 0 0) (v.getD 2 0))) (andI .u32 (v.getD 1 0) (v.getD 2 0))), v.getD 0 0, v.getD 1 0, v.getD 2 0, w32 (v.getD 3 0 + t), v.getD 4 0, v.getD 5 0, v.getD 6 0]
def addStep (st : List Int) (i : Nat) (v : List Int) : List Int := v.set i (w32 (v.getD i 0 + st.getD i 0))
def comp (st : List Int) (blk : List UInt8) : List Int := iterF (addStep st) 8 0 (iterF (roundStep (sched blk)) 64 0 st)
def absorbN : Nat → List Int → List UInt8 → List Int
  | 0, st, _ => st
  | n + 1, st, m => absorbN n (comp st (m.take 64)) (m.drop 64)
def len8 (n : Nat) : List UInt8 := (List.range 8).map fun k => u8 (((n * 8 / 256 ^ (7 - k) % 256 : Nat)) : Int)
def padZ (n : Nat) : Nat := (119 - n % 64) % 64
def padB (b : List UInt8) : List UInt8 := b ++ [128] ++ List.replicate (padZ b.length) 0 ++ len8 b.length
def outByte (st : List Int) (i : Nat) : UInt8 := u8 (IntKind.u8.wrap (shrI .u32 (st.getD (i / 4) 0) ((24 - 8 * (i % 4) : Nat) : Int)))
def digest (st : List Int) : List UInt8 := (List.range 32).map (outByte st)
/-- The digest of bytes. -/
def Hs (b : List UInt8) : List UInt8 := digest (absorbN ((padB b).length / 64) shaStart (padB b))
theorem Hs_len (b : List UInt8) : (Hs b).length = 32 := by simp [Hs, digest]
theorem rt (x : Int) (c : Nat) (hc : c ≤ 32) : rotr x (c : Int) = some (rot x c) := rotr_eq (fun _ _ => rfl) x c hc
theorem rConst_eq : rConst = some shaRounds := rfl
theorem iterF_len {step : Nat → List Int → List Int} {k : Nat} (h : ∀ i w, w.length = k → (step i w).length = k) : ∀ (m i : Nat) (w : List Int), w.length = k → (iterF step m i w).length = k
  | 0, _, _, hw => hw
  | m + 1, i, w, hw => iterF_len h m (i + 1) (step i w) (h i w hw)
theorem sched_len (blk : List UInt8) : (sched blk).length = 64 := iterF_len (fun i w h => by simp [schedStep, h]) 64 0 _ (by simp)
theorem round_len (w : List Int) (m i : Nat) (v : List Int) (h : v.length = 8) : (iterF (roundStep w) m i v).length = 8 := iterF_len (fun i w h => by simp [roundStep]) m i v h
theorem comp_len (st : List Int) (blk : List UInt8) (h : st.length = 8) : (comp st blk).length = 8 :=
  iterF_len (fun i w h => by simp [addStep, h]) 8 0 _ (round_len _ 64 0 st h)
/-- Block by block. -/
theorem loop_blocks {f : List Int × Int → Option ((List Int × Int) ⊕ List Int)} (m : List UInt8) (nb : Nat)
    (hs : ∀ j st, j < nb → st.length = 8 → f (st, ((64 * j : Nat) : Int)) = some (.inl (comp st ((m.drop (64 * j)).take 64), ((64 * (j + 1) : Nat) : Int)))) (he : ∀ st, f (st, ((64 * nb : Nat) : Int)) = some (.inr st)) :
    ∀ (n j : Nat) (st : List Int), j + n = nb → st.length = 8 → loopO f (st, ((64 * j : Nat) : Int)) = some (absorbN n st (m.drop (64 * j)))
  | 0, j, st, h, _ => by
    have : j = nb := by omega
    subst this
    rw [loopO_eq, he]; rfl
  | n + 1, j, st, h, hl => by
    rw [loopO_eq, hs j st (by omega) hl]
    show loopO f (comp st ((m.drop (64 * j)).take 64), ((64 * (j + 1) : Nat) : Int)) = _
    rw [loop_blocks m nb hs he n (j + 1) _ (by omega) (comp_len _ _ hl)]
    show _ = some (absorbN n (comp st ((m.drop (64 * j)).take 64)) ((m.drop (64 * j)).drop 64))
    rw [List.drop_drop, show 64 * j + 64 = 64 * (j + 1) by omega]
theorem loop_blocks0 {f : List Int × Int → Option ((List Int × Int) ⊕ List Int)} (m : List UInt8) (nb : Nat)
    (hs : ∀ j st, j < nb → st.length = 8 → f (st, ((64 * j : Nat) : Int)) = some (.inl (comp st ((m.drop (64 * j)).take 64), ((64 * (j + 1) : Nat) : Int)))) (he : ∀ st, f (st, ((64 * nb : Nat) : Int)) = some (.inr st)) (st : List Int) (h8 : st.length = 8) :
    loopO f (st, 0) = some (absorbN nb st m) := by
  have := loop_blocks m nb hs he nb 0 st (by omega) h8
  simpa using this
theorem list8 {v : List Int} (h : v.length = 8) : ∃ a b c d e f g i, v = [a, b, c, d, e, f, g, i] := by
  match v, h with
  | [a, b, c, d, e, f, g, i], _ => exact ⟨a, b, c, d, e, f, g, i, rfl⟩
theorem rSum_main (b m : List UInt8) (hp : rPad b = some m) (nb : Nat) (hm : m.length = 64 * nb) (hb : m.length ≤ 140737488355328) : rSum b = some (digest (absorbN nb shaStart m)) := by
  unfold rSum
  rw [rConst_eq, hp]
  simp only [Option.bind_some]
  rw [loop_blocks0 m nb ?hs ?he _ rfl]
  case he => intro st; simp only [hm, Int.lt_irrefl, if_false]
  case hs =>
    intro j st hj h8
    have hlt : ((64 * j : Nat) : Int) < (m.length : Int) := by omega
    simp only [hlt, if_true]
    rw [(loop_for0 (schedStep ((m.drop (64 * j)).take 64)) (fun w => w) 64 (fun _ w => w.length = 64) ?hs2 ?he2 (by rfl)).1]
    case he2 => intro s _; rfl
    case hs2 =>
      intro i w hi hw
      have h64 : ((i : Nat) : Int) < 64 := by omega
      refine ⟨?_, by simp [schedStep, hw]⟩
      simp only [h64, if_true]
      have hw4 : IntKind.i64.wrap (4 * (i : Int)) = ((4 * i : Nat) : Int) := by rw [i64_id (by omega) (by omega)]; omega
      have hat : IntKind.i64.wrap (((64 * j : Nat) : Int) + ((4 * i : Nat) : Int)) = ((64 * j + 4 * i : Nat) : Int) := by rw [i64_id (by omega) (by omega)]; omega
      by_cases h16 : i < 16
      · have h16' : ((i : Nat) : Int) < 16 := by omega
        simp only [h16', if_true, hw4, hat]
        have hc : ∀ c : Nat, c < 4 → idxO m (((64 * j + 4 * i + c : Nat) : Int)) = some (((m.drop (64 * j)).take 64).getD (4 * i + c) 0) := by
          intro c hc
          rw [idxO_getD 0 rfl (by omega)]
          simp only [List.getD_eq_getElem?_getD, List.getElem?_take, List.getElem?_drop]
          rw [if_pos (by omega), Nat.add_assoc]
        have e0 := hc 0 (by omega)
        have e1 : IntKind.i64.wrap (((64 * j + 4 * i : Nat) : Int) + 1) = ((64 * j + 4 * i + 1 : Nat) : Int) := by rw [i64_id (by omega) (by omega)]; omega
        have e2 : IntKind.i64.wrap (((64 * j + 4 * i : Nat) : Int) + 2) = ((64 * j + 4 * i + 2 : Nat) : Int) := by rw [i64_id (by omega) (by omega)]; omega
        have e3 : IntKind.i64.wrap (((64 * j + 4 * i : Nat) : Int) + 3) = ((64 * j + 4 * i + 3 : Nat) : Int) := by rw [i64_id (by omega) (by omega)]; omega
        simp only [Nat.add_zero] at e0
        rw [e0, e1, e2, e3, hc 1 (by omega), hc 2 (by omega), hc 3 (by omega), idxO_getD 0 rfl (by omega)]
        simp only [Option.bind_some]
        rw [word_or, i64_id (by omega) (by omega)]
        simp only [schedStep, if_pos h16, word4, Int.toNat_natCast]
        rfl
      · have h16' : ¬ ((i : Nat) : Int) < 16 := by omega
        simp only [h16', if_false]
        have hk : ∀ c : Nat, c ≤ 16 → IntKind.i64.wrap ((i : Int) - (c : Int)) = ((i - c : Nat) : Int) := fun c hc => by rw [i64_id (by omega) (by omega)]; omega
        have k15 : IntKind.i64.wrap ((i : Int) - 15) = ((i - 15 : Nat) : Int) := hk 15 (by omega)
        have k2 : IntKind.i64.wrap ((i : Int) - 2) = ((i - 2 : Nat) : Int) := hk 2 (by omega)
        have k16 : IntKind.i64.wrap ((i : Int) - 16) = ((i - 16 : Nat) : Int) := hk 16 (by omega)
        have k7 : IntKind.i64.wrap ((i : Int) - 7) = ((i - 7 : Nat) : Int) := hk 7 (by omega)
        rw [k15, k2, k16, k7, idxO_getD 0 rfl (by omega), idxO_getD 0 rfl (by omega), idxO_getD 0 rfl (by omega), idxO_getD 0 rfl (by omega), idxO_getD 0 rfl (by omega)]
        simp only [Option.bind_some]
        rw [show rotr (w.getD (i - 15) 0) 7 = _ from rt _ 7 (by omega), show rotr (w.getD (i - 15) 0) 18 = _ from rt _ 18 (by omega), show rotr (w.getD (i - 2) 0) 17 = _ from rt _ 17 (by omega), show rotr (w.getD (i - 2) 0) 19 = _ from rt _ 19 (by omega)]
        simp only [Option.bind_some]
        rw [i64_id (by omega) (by omega)]
        simp only [schedStep, if_neg h16, Int.toNat_natCast]
        rfl
    simp only [Option.bind_some]
    rw [show iterF (schedStep ((m.drop (64 * j)).take 64)) 64 0 ([0, 0, 0, 0, 0, 0, 0, 0, 0, 0, 0, 0, 0, 0, 0, 0, 0, 0, 0, 0, 0, 0, 0, 0, 0, 0, 0, 0, 0, 0, 0, 0, 0, 0, 0, 0, 0, 0, 0, 0, 0, 0, 0, 0, 0, 0, 0, 0, 0, 0, 0, 0, 0, 0, 0, 0, 0, 0, 0, 0, 0, 0, 0, 0] : List Int) = sched ((m.drop (64 * j)).take 64) from rfl]
    rw [(loop_for0 (roundStep (sched ((m.drop (64 * j)).take 64))) (fun w => w) 64 (fun _ v => v.length = 8) ?hs3 ?he3 h8).1]
    case he3 => intro s _; rfl
    case hs3 =>
      intro i v hi hv
      have h64 : ((i : Nat) : Int) < 64 := by omega
      refine ⟨?_, by simp [roundStep]⟩
      have hw := sched_len ((m.drop (64 * j)).take 64)
      generalize sched ((m.drop (64 * j)).take 64) = w at hw ⊢
      obtain ⟨a, b, c, d, e, f, g, h, rfl⟩ := list8 hv
      simp only [h64, if_true]
      rw [idxO_getD 0 rfl (show i < shaRounds.length by rw [shaRounds_len]; exact hi), idxO_getD 0 rfl (show i < w.length by omega)]
      rw [show idxO [a, b, c, d, e, f, g, h] 0 = some a from rfl, show idxO [a, b, c, d, e, f, g, h] 1 = some b from rfl, show idxO [a, b, c, d, e, f, g, h] 2 = some c from rfl, show idxO [a, b, c, d, e, f, g, h] 3 = some d from rfl, show idxO [a, b, c, d, e, f, g, h] 4 = some e from rfl, show idxO [a, b, c, d, e, f, g, h] 5 = some f from rfl, show idxO [a, b, c, d, e, f, g, h] 6 = some g from rfl, show idxO [a, b, c, d, e, f, g, h] 7 = some h from rfl]
      simp only [Option.bind_some]
      rw [show rotr e 6 = _ from rt _ 6 (by omega), show rotr e 11 = _ from rt _ 11 (by omega), show rotr e 25 = _ from rt _ 25 (by omega), show rotr a 2 = _ from rt _ 2 (by omega), show rotr a 13 = _ from rt _ 13 (by omega), show rotr a 22 = _ from rt _ 22 (by omega)]
      simp only [Option.bind_some]
      rw [i64_id (by omega) (by omega)]
      rfl
    simp only [Option.bind_some]
    have hv := round_len (sched ((m.drop (64 * j)).take 64)) 64 0 st h8
    have hcomp : comp st ((m.drop (64 * j)).take 64) = iterF (addStep st) 8 0 (iterF (roundStep (sched ((m.drop (64 * j)).take 64))) 64 0 st) := rfl
    rw [hcomp]
    generalize iterF (roundStep (sched ((m.drop (64 * j)).take 64))) 64 0 st = v at hv ⊢
    rw [(loop_for0 (addStep v) (fun w => w) 8 (fun _ s => s.length = 8) ?hs4 ?he4 h8).1]
    case he4 => intro s _; rfl
    case hs4 =>
      intro i s hi hs
      have h64 : ((i : Nat) : Int) < 8 := by omega
      refine ⟨?_, by simp [addStep, hs]⟩
      simp only [h64, if_true]
      rw [idxO_getD 0 rfl (show i < s.length by omega), idxO_getD 0 rfl (show i < v.length by omega)]
      simp only [Option.bind_some]
      rw [i64_id (by omega) (by omega)]
      rfl
    have hadd : iterF (addStep v) 8 0 st = iterF (addStep st) 8 0 v := by
      obtain ⟨a, b, c, d, e, f, g, h, rfl⟩ := list8 hv
      obtain ⟨a', b', c', d', e', f', g', h', rfl⟩ := list8 h8
      simp [iterF, addStep, Int.add_comm]
    rw [hadd, i64_id (by omega) (by omega)]
    simp only [Option.bind_some]
    congr 4
  simp only [Option.bind_some]
  have hab : (absorbN nb [1779033703, 3144134277, 1013904242, 2773480762, 1359893119, 2600822924, 528734635, 1541459225] m) = absorbN nb shaStart m := rfl
  rw [hab]
  have hl8 : (absorbN nb shaStart m).length = 8 := by
    have : ∀ (n : Nat) (st : List Int) (m : List UInt8), st.length = 8 → (absorbN n st m).length = 8 := by
      intro n
      induction n with
      | zero => intro st m h; exact h
      | succ n ih => intro st m h; exact ih _ _ (comp_len _ _ h)
    exact this nb _ m rfl
  generalize absorbN nb shaStart m = st at hl8 ⊢
  rw [(loop_for0 (fun i s => s.set i (outByte st i)) (fun w => w) 32 (fun _ s => s.length = 32) ?hs5 ?he5 (by simp)).1]
  case he5 => intro s _; rfl
  case hs5 =>
    intro i s hi hs
    have h64 : ((i : Nat) : Int) < 32 := by omega
    refine ⟨?_, by simp [hs]⟩
    simp only [h64, if_true]
    rw [show quoO .i64 (i : Int) 4 = _ from quoO_nat i 4 (by omega) (by omega), show remO (i : Int) 4 = _ from remO_nat i 4 (by omega)]
    simp only [Option.bind_some]
    rw [idxO_getD 0 rfl (show i / 4 < st.length by omega), idxO_getD 0 rfl (show i < s.length by omega)]
    simp only [Option.bind_some]
    have h8 : IntKind.i64.wrap (8 * ((i % 4 : Nat) : Int)) = ((8 * (i % 4) : Nat) : Int) := by rw [i64_id (by omega) (by omega)]; omega
    have h24 : IntKind.i64.wrap (24 - ((8 * (i % 4) : Nat) : Int)) = ((24 - 8 * (i % 4) : Nat) : Int) := by rw [i64_id (by omega) (by omega)]; omega
    rw [h8, h24, u64_id (by omega) (by omega)]
    have hsh : shrO .u32 (st.getD (i / 4) 0) ((24 - 8 * (i % 4) : Nat) : Int) = some (shrI .u32 (st.getD (i / 4) 0) ((24 - 8 * (i % 4) : Nat) : Int)) := by unfold shrO; rw [if_pos (by omega)]
    rw [hsh]
    simp only [Option.bind_some]
    rw [u8O_of (by rw [wrap_u8']; omega) (by rw [wrap_u8']; omega)]
    simp only [Option.bind_some]
    rw [i64_id (by omega) (by omega)]
    rfl
  simp only [Option.bind_some]
  rw [iter_set_all _ _ _ (by simp)]
  rfl
/-- Noughts up to a place. -/
theorem loop_pad {f : List UInt8 → Option (List UInt8 ⊕ List UInt8)} (r : Nat) (ok : Nat → Prop) (hs : ∀ s, s.length ≤ 140737488355000 → ¬ ok s.length → f s = some (.inl (s ++ [0]))) (he : ∀ s, s.length ≤ 140737488355000 → ok s.length → f s = some (.inr s)) :
    ∀ (k : Nat) (s : List UInt8), s.length + k ≤ 140737488355000 → ok (s.length + k) → (∀ j, j < k → ¬ ok (s.length + j)) → loopO f s = some (s ++ List.replicate k 0)
  | 0, s, hl, h, _ => by rw [loopO_eq, he s hl h]; simp
  | k + 1, s, hl, h, hn => by
    rw [loopO_eq, hs s (by omega) (hn 0 (by omega))]
    show loopO f (s ++ [0]) = _
    have e : (s ++ [(0 : UInt8)]).length = s.length + 1 := by simp
    rw [loop_pad r ok hs he k (s ++ [0]) (by omega) (by rw [e, Nat.add_assoc, Nat.add_comm 1 k]; exact h) (fun j hj => by rw [e, Nat.add_assoc, Nat.add_comm 1 j]; exact hn (j + 1) (by omega))]
    simp [List.replicate_succ]
theorem len8_step (n : Nat) (hn : n ≤ 140737488351232) (k : Nat) (hk : k < 8) : IntKind.u8.wrap (shrI .u64 (((n * 8 : Nat)) : Int) ((8 * k : Nat) : Int)) = ((n * 8 / 256 ^ k % 256 : Nat) : Int) := by
  rw [shrI_nat .u64 _ _ (by show 8 * k ≤ 64; omega), wrap_u8', Nat.pow_mul]; rfl
theorem foldl_app {α β : Type} (g : β → α) : ∀ (l : List β) (s : List α), l.foldl (fun s i => s ++ [g i]) s = s ++ l.map g
  | [], s => by simp
  | b :: l, s => by simp [foldl_app g l]
theorem len8_eq (n : Nat) (s : List UInt8) : (List.range 8).reverse.foldl (fun (s : List UInt8) k => s ++ [u8 ((n * 8 / 256 ^ k % 256 : Nat) : Int)]) s = s ++ len8 n := by
  rw [foldl_app (fun k => u8 ((n * 8 / 256 ^ k % 256 : Nat) : Int))]
  rfl
theorem rPad_eq (b : List UInt8) (hb : b.length ≤ 140737488351232) : rPad b = some (padB b) := by
  unfold rPad
  rw [appO_byte (by simp; omega)]
  simp only [Option.bind_some, List.nil_append]
  rw [show u8O 128 = some 128 from rfl]
  simp only [Option.bind_some]
  rw [appO_byte (by simp; omega)]
  simp only [Option.bind_some]
  rw [loop_pad 0 (fun n => n % 64 = 56) ?hs ?he (padZ b.length) _ (by simp [padZ]; omega) (by simp [padZ]; omega) (by intro j hj; simp [padZ] at hj ⊢; omega)]
  case hs =>
    intro s hl hn
    rw [show remO (s.length : Int) 64 = _ from remO_nat s.length 64 (by omega)]
    simp only [Option.bind_some]
    rw [if_neg (by omega), show u8O 0 = some 0 from rfl]
    simp only [Option.bind_some]
    rw [appO_byte (by simp; omega)]
    rfl
  case he =>
    intro s hl hn
    rw [show remO (s.length : Int) 64 = _ from remO_nat s.length 64 (by omega)]
    simp only [Option.bind_some]
    rw [if_pos (by omega)]
  simp only [Option.bind_some]
  have hL : IntKind.u64.wrap (IntKind.u64.wrap (b.length : Int) * 8) = ((b.length * 8 : Nat) : Int) := by
    rw [u64_id (n := (b.length : Int)) (by omega) (by omega), u64_id (by omega) (by omega)]; omega
  rw [hL]
  rw [show (7 : Int) = ((8 : Nat) : Int) - 1 from rfl, loop_down (fun (k : Nat) (s : List UInt8) => s ++ [u8 ((b.length * 8 / 256 ^ k % 256 : Nat) : Int)]) (fun s => s) (fun (k : Nat) (s : List UInt8) => k ≤ 8 ∧ s.length ≤ 140737488355000 - k) ?hs2 ?he2 8 _ ⟨by omega, by simp [padZ]; omega⟩]
  case he2 => intro s _; rw [if_neg (by omega)]
  case hs2 =>
    intro k s ⟨hk, hl⟩
    refine ⟨?_, by omega, by simp; omega⟩
    rw [if_pos (by omega)]
    have h8 : IntKind.i64.wrap (8 * (k : Int)) = ((8 * k : Nat) : Int) := by rw [i64_id (by omega) (by omega)]; omega
    rw [h8, u64_id (by omega) (by omega)]
    have hsh : shrO .u64 ((b.length * 8 : Nat) : Int) ((8 * k : Nat) : Int) = some (shrI .u64 ((b.length * 8 : Nat) : Int) ((8 * k : Nat) : Int)) := by unfold shrO; rw [if_pos (by omega)]
    rw [hsh]
    simp only [Option.bind_some]
    rw [len8_step b.length hb k (by omega), u8O_of (by omega) (by omega)]
    simp only [Option.bind_some]
    rw [appO_byte (by simp; omega)]
    simp only [Option.bind_some]
    rw [i64_id (by omega) (by omega)]
  simp only [Option.bind_some]
  rw [len8_eq]
  rfl
theorem padB_len (b : List UInt8) : (padB b).length = 64 * ((padB b).length / 64) ∧ (padB b).length ≤ b.length + 72 + 64 := by
  simp only [padB, List.length_append, List.length_replicate, List.length_cons, List.length_nil, len8, List.length_map, List.length_range, padZ]
  omega
theorem rSum_eq (b : List UInt8) (hb : b.length ≤ 140737488351232) : rSum b = some (Hs b) := by
  have h := padB_len b
  exact rSum_main b (padB b) (rPad_eq b hb) _ h.1 (by omega)
/-! ### The program's digest -/
theorem rl (x : Int) (c : Nat) (h0 : c ≠ 0) (hc : c < 32) : rotL32 x (IntKind.i64.wrap (0 - (c : Int))) = some (rot x c) := rotL_eq (fun _ _ => rfl) x c h0 hc
theorem turn_true (x : Int) (a b c : Nat) (ha : a ≠ 0 ∧ a < 32) (hb : b ≠ 0 ∧ b < 32) (hc : c ≠ 0 ∧ c < 32) : turn x a b c true = some (xorI .u32 (xorI .u32 (rot x a) (rot x b)) (shrI .u32 x c)) := by
  unfold turn
  rw [rl x c hc.1 hc.2, rl x a ha.1 ha.2, rl x b hb.1 hb.2]
  have : shrO .u32 x (c : Int) = some (shrI .u32 x c) := by unfold shrO; rw [if_pos (by omega)]
  simp [this]
theorem turn_false (x : Int) (a b c : Nat) (ha : a ≠ 0 ∧ a < 32) (hb : b ≠ 0 ∧ b < 32) (hc : c ≠ 0 ∧ c < 32) : turn x a b c false = some (xorI .u32 (xorI .u32 (rot x a) (rot x b)) (rot x c)) := by
  unfold turn
  rw [rl x c hc.1 hc.2, rl x a ha.1 ha.2, rl x b hb.1 hb.2]
  simp
theorem word_shl (b0 b1 b2 b3 : UInt8) : orI .u32 (shlI .u32 (orI .u32 (shlI .u32 (orI .u32 (shlI .u32 (orI .u32 (shlI .u32 0 8) (IntKind.u32.wrap (b0.toNat : Int))) 8) (IntKind.u32.wrap (b1.toNat : Int))) 8) (IntKind.u32.wrap (b2.toNat : Int))) 8) (IntKind.u32.wrap (b3.toNat : Int)) = ((((b0.toNat * 256 + b1.toNat) * 256 + b2.toNat) * 256 + b3.toNat : Nat) : Int) := by
  have h0 := b0.toNat_lt
  have h1 := b1.toNat_lt
  have h2 := b2.toNat_lt
  have h3 := b3.toNat_lt
  have w : ∀ n : Nat, n < 256 → IntKind.u32.wrap (n : Int) = n := fun n h => by rw [wrap_u32']; omega
  rw [w _ h0, w _ h1, w _ h2, w _ h3]
  generalize b0.toNat = a0 at h0 ⊢
  generalize b1.toNat = a1 at h1 ⊢
  generalize b2.toNat = a2 at h2 ⊢
  generalize b3.toNat = a3 at h3 ⊢
  rw [shl_or (x := 0) (b := (a0 : Int)) (by omega) (by omega) (by omega) (by omega), shl_or (b := (a1 : Int)) (by omega) (by omega) (by omega) (by omega), shl_or (b := (a2 : Int)) (by omega) (by omega) (by omega) (by omega), shl_or (b := (a3 : Int)) (by omega) (by omega) (by omega) (by omega)]
  omega
theorem set_set {α : Type} (w : List α) (i : Nat) (x y : α) : (w.set i x).set i y = w.set i y := by simp
theorem mix_eq (st : List Int) (p : List UInt8) (h8 : st.length = 8) (hp : p.length = 64) : mix st p = some (comp st p) := by
  unfold mix
  rw [(loop_for0 (schedStep p) (fun w => w) 64 (fun i w => w.length = 64 ∧ ∀ k, i ≤ k → w.getD k 0 = 0) ?hs2 ?he2 ⟨List.length_replicate, fun k _ => by rw [List.getD_eq_getElem?_getD, List.getElem?_replicate]; split <;> rfl⟩).1]
  case he2 => intro s _; rfl
  case hs2 =>
    intro i w hi ⟨hw, hz⟩
    have h64 : ((i : Nat) : Int) < 64 := by omega
    refine ⟨?_, by simp [schedStep, hw], fun k hk => by unfold schedStep; rw [set_getD, if_neg (by omega)]; exact hz k (by omega)⟩
    simp only [h64, if_true]
    by_cases h16 : i < 16
    · have h16' : ((i : Nat) : Int) < 16 := by omega
      simp only [h16', if_true]
      have e1 : IntKind.i64.wrap (4 * (i : Int)) = ((4 * i : Nat) : Int) := by rw [i64_id (by omega) (by omega)]; omega
      have e2 : IntKind.i64.wrap ((i : Int) + 1) = ((i + 1 : Nat) : Int) := by rw [i64_id (by omega) (by omega)]; omega
      have e3 : IntKind.i64.wrap (4 * ((i + 1 : Nat) : Int)) = ((4 * (i + 1) : Nat) : Int) := by rw [i64_id (by omega) (by omega)]; omega
      rw [e1, e2, e3, slcO_of (by omega) (by omega)]
      simp only [Option.bind_some]
      have hl : ((p.take (4 * (i + 1))).drop (4 * i)).length = 4 := by simp; omega
      have hg : ∀ c : Nat, c < 4 → ((p.take (4 * (i + 1))).drop (4 * i)).getD c 0 = p.getD (4 * i + c) 0 := by
        intro c hc
        simp only [List.getD_eq_getElem?_getD, List.getElem?_drop, List.getElem?_take]
        rw [if_pos (by omega)]
      generalize (p.take (4 * (i + 1))).drop (4 * i) = q at hl hg ⊢
      rw [(loop_for0 (fun c (w : List Int) => w.set i (orI .u32 (shlI .u32 (w.getD i 0) 8) (IntKind.u32.wrap ((q.getD c 0).toNat : Int)))) (fun w => w) 4 (fun _ w => w.length = 64) ?hs3 ?he3 hw).1]
      case he3 => intro s _; rw [if_neg (by rw [hl]; exact Int.lt_irrefl _)]
      case hs3 =>
        intro c s hc hs
        refine ⟨?_, by simp [hs]⟩
        rw [if_pos (by omega), idxO_getD 0 rfl (show c < q.length by omega), idxO_getD 0 rfl (show i < s.length by omega)]
        simp only [Option.bind_some]
        rw [i64_id (by omega) (by omega)]
        rfl
      simp only [Option.bind_some]
      have hit : iterF (fun c (w : List Int) => w.set i (orI .u32 (shlI .u32 (w.getD i 0) 8) (IntKind.u32.wrap ((q.getD c 0).toNat : Int)))) 4 0 w = schedStep p i w := by
        have gs : ∀ (x : Int), (w.set i x).getD i 0 = x := fun x => by rw [set_getD, if_pos ⟨rfl, by omega⟩]
        show ((((w.set i _).set i _).set i _).set i _) = _
        simp only [set_set, gs]
        rw [hz i (Nat.le_refl _), hg 0 (by omega), hg 1 (by omega), hg 2 (by omega), hg 3 (by omega), word_shl]
        simp only [schedStep, if_pos h16, word4, Nat.add_zero]
      rw [hit]
    · have h16' : ¬ ((i : Nat) : Int) < 16 := by omega
      simp only [h16', if_false]
      have hk : ∀ c : Nat, c ≤ 16 → IntKind.i64.wrap ((i : Int) - (c : Int)) = ((i - c : Nat) : Int) := fun c hc => by rw [i64_id (by omega) (by omega)]; omega
      have k15 : IntKind.i64.wrap ((i : Int) - 15) = ((i - 15 : Nat) : Int) := hk 15 (by omega)
      have k2 : IntKind.i64.wrap ((i : Int) - 2) = ((i - 2 : Nat) : Int) := hk 2 (by omega)
      have k16 : IntKind.i64.wrap ((i : Int) - 16) = ((i - 16 : Nat) : Int) := hk 16 (by omega)
      have k7 : IntKind.i64.wrap ((i : Int) - 7) = ((i - 7 : Nat) : Int) := hk 7 (by omega)
      rw [k15, k2, k16, k7, idxO_getD 0 rfl (by omega), idxO_getD 0 rfl (by omega), idxO_getD 0 rfl (by omega), idxO_getD 0 rfl (by omega), idxO_getD 0 rfl (by omega)]
      simp only [Option.bind_some]
      rw [show turn (w.getD (i - 2) 0) 17 19 10 true = _ from turn_true _ 17 19 10 (by decide) (by decide) (by decide), show turn (w.getD (i - 15) 0) 7 18 3 true = _ from turn_true _ 7 18 3 (by decide) (by decide) (by decide)]
      simp only [Option.bind_some]
      rw [i64_id (by omega) (by omega)]
      have hsum : IntKind.u32.wrap (IntKind.u32.wrap (IntKind.u32.wrap (xorI .u32 (xorI .u32 (rot (w.getD (i - 2) 0) 17) (rot (w.getD (i - 2) 0) 19)) (shrI .u32 (w.getD (i - 2) 0) (10 : Nat)) + w.getD (i - 7) 0) + xorI .u32 (xorI .u32 (rot (w.getD (i - 15) 0) 7) (rot (w.getD (i - 15) 0) 18)) (shrI .u32 (w.getD (i - 15) 0) (3 : Nat))) + w.getD (i - 16) 0) = w32 (w32 (w32 (w.getD (i - 16) 0 + sg0 (w.getD (i - 15) 0)) + w.getD (i - 7) 0) + sg1 (w.getD (i - 2) 0)) := by
        have a1 : sg1 (w.getD (i - 2) 0) = xorI .u32 (xorI .u32 (rot (w.getD (i - 2) 0) 17) (rot (w.getD (i - 2) 0) 19)) (shrI .u32 (w.getD (i - 2) 0) (10 : Nat)) := rfl
        have a2 : sg0 (w.getD (i - 15) 0) = xorI .u32 (xorI .u32 (rot (w.getD (i - 15) 0) 7) (rot (w.getD (i - 15) 0) 18)) (shrI .u32 (w.getD (i - 15) 0) (3 : Nat)) := rfl
        rw [← a1, ← a2]
        unfold w32
        simp only [wrap_u32']
        omega
      rw [hsum]
      simp only [schedStep, if_neg h16, Int.toNat_natCast]
      rfl
  simp only [Option.bind_some]
  rw [show iterF (schedStep p) 64 0 (List.replicate 64 0) = sched p from rfl]
  rw [(loop_for0 (roundStep (sched p)) (fun w => w) 64 (fun _ v => v.length = 8) ?hs4 ?he4 h8).1]
  case he4 => intro s _; rfl
  case hs4 =>
    intro i v hi hv
    have h64 : ((i : Nat) : Int) < 64 := by omega
    refine ⟨?_, by simp [roundStep]⟩
    have hw := sched_len p
    generalize sched p = w at hw ⊢
    obtain ⟨a, b, c, d, e, f, g, h, rfl⟩ := list8 hv
    simp only [h64, if_true]
    rw [idxO_getD 0 rfl (show i < shaRounds.length by rw [shaRounds_len]; exact hi), idxO_getD 0 rfl (show i < w.length by omega)]
    rw [show idxO [a, b, c, d, e, f, g, h] 0 = some a from rfl, show idxO [a, b, c, d, e, f, g, h] 1 = some b from rfl, show idxO [a, b, c, d, e, f, g, h] 2 = some c from rfl, show idxO [a, b, c, d, e, f, g, h] 4 = some e from rfl, show idxO [a, b, c, d, e, f, g, h] 5 = some f from rfl, show idxO [a, b, c, d, e, f, g, h] 6 = some g from rfl, show idxO [a, b, c, d, e, f, g, h] 7 = some h from rfl]
    simp only [Option.bind_some]
    rw [show turn e 6 11 25 false = _ from turn_false e 6 11 25 (by decide) (by decide) (by decide), show turn a 2 13 22 false = _ from turn_false a 2 13 22 (by decide) (by decide) (by decide)]
    simp only [Option.bind_some]
    rw [show slcO [a, b, c, d, e, f, g, h] 1 (([a, b, c, d, e, f, g, h].length : Nat) : Int) = some [b, c, d, e, f, g, h] from rfl, show slcO [a, b, c, d, e, f, g, h] 0 7 = some [a, b, c, d, e, f, g] from rfl]
    simp only [Option.bind_some]
    rw [show putAt [a, b, c, d, e, f, g, h] (1 : Int).toNat ([a, b, c, d, e, f, g].take [b, c, d, e, f, g, h].length) = [a, a, b, c, d, e, f, g] from rfl]
    rw [show idxO [a, a, b, c, d, e, f, g] 4 = some d from rfl]
    simp only [Option.bind_some]
    rw [i64_id (by omega) (by omega)]
    rfl
  simp only [Option.bind_some]
  rw [(loop_for0 (addStep st) (fun w => w) 8 (fun _ s => s.length = 8) ?hs5 ?he5 (round_len _ 64 0 st h8)).1]
  case he5 => intro s _; rfl
  case hs5 =>
    intro i s hi hs
    have h64 : ((i : Nat) : Int) < 8 := by omega
    refine ⟨?_, by simp [addStep, hs]⟩
    simp only [h64, if_true]
    rw [idxO_getD 0 rfl (show i < st.length by omega), idxO_getD 0 rfl (show i < s.length by omega)]
    simp only [Option.bind_some]
    rw [i64_id (by omega) (by omega)]
    rfl
  rfl
theorem absorbN_len : ∀ (n : Nat) (st : List Int) (m : List UInt8), st.length = 8 → (absorbN n st m).length = 8
  | 0, _, _, h => h
  | n + 1, st, m, h => absorbN_len n (comp st (m.take 64)) (m.drop 64) (comp_len _ _ h)
theorem absorbN_add : ∀ (n k : Nat) (st : List Int) (m : List UInt8), absorbN (n + k) st m = absorbN k (absorbN n st m) (m.drop (64 * n))
  | 0, k, st, m => by simp [absorbN]
  | n + 1, k, st, m => by
    rw [show n + 1 + k = (n + k) + 1 by omega]
    show absorbN (n + k) (comp st (m.take 64)) (m.drop 64) = absorbN k (absorbN n (comp st (m.take 64)) (m.drop 64)) _
    rw [absorbN_add n k, List.drop_drop, show 64 + 64 * n = 64 * (n + 1) by omega]
theorem absorbN_app : ∀ (n : Nat) (st : List Int) (a b : List UInt8), 64 * n ≤ a.length → absorbN n st (a ++ b) = absorbN n st a
  | 0, _, _, _, _ => rfl
  | n + 1, st, a, b, h => by
    show absorbN n (comp st ((a ++ b).take 64)) ((a ++ b).drop 64) = absorbN n (comp st (a.take 64)) (a.drop 64)
    rw [List.take_append_of_le_length (by omega), List.drop_append_of_le_length (by omega), absorbN_app n _ _ _ (by simp; omega)]
theorem loop_abs {f : List Int × List UInt8 → Option ((List Int × List UInt8) ⊕ (List Int × List UInt8))}
    (hs : ∀ st m, st.length = 8 → 64 ≤ m.length → f (st, m) = some (.inl (comp st (m.take 64), m.drop 64))) (he : ∀ st m, m.length < 64 → f (st, m) = some (.inr (st, m))) :
    ∀ (n : Nat) (st : List Int) (m : List UInt8), st.length = 8 → m.length / 64 = n → loopO f (st, m) = some (absorbN n st m, m.drop (64 * n))
  | 0, st, m, h8, h => by rw [loopO_eq, he st m (by omega)]; rfl
  | n + 1, st, m, h8, h => by
    rw [loopO_eq, hs st m h8 (by omega)]
    show loopO f (comp st (m.take 64), m.drop 64) = _
    rw [loop_abs hs he n _ _ (comp_len _ _ h8) (by simp; omega), List.drop_drop, show 64 + 64 * n = 64 * (n + 1) by omega]
    rfl
theorem shaAdd_eq (st : List Int) (rest : List UInt8) (n : Int) (b : List UInt8) (h8 : st.length = 8) (hl : rest.length + b.length ≤ 140737488355328) :
    shaAdd (st, rest, n) b = some (absorbN ((rest ++ b).length / 64) st (rest ++ b), (rest ++ b).drop (64 * ((rest ++ b).length / 64)), IntKind.u64.wrap (n + IntKind.u64.wrap (b.length : Int))) := by
  unfold shaAdd
  rw [appO_byte hl]
  simp only [Option.bind_some]
  rw [loop_abs ?hs ?he _ st (rest ++ b) h8 rfl]
  case hs =>
    intro st m h8 hm
    simp only
    rw [if_pos (by omega), show slcO m 0 64 = some ((m.take 64).drop 0) from slcO_of (i := 0) (j := 64) (by omega) hm]
    have h64 : (m.take 64).length = 64 := by simp; omega
    simp only [Option.bind_some, List.drop_zero]
    rw [show arrO 64 (m.take 64) = some (m.take 64) from by unfold arrO; simp [h64], mix_eq st _ h8 h64]
    simp only [Option.bind_some]
    rw [show slcO m 64 ((m.length : Nat) : Int) = some ((m.take m.length).drop 64) from slcO_of (i := 64) hm (Nat.le_refl _), List.take_length]
    rfl
  case he =>
    intro st m hm
    simp only
    rw [if_neg (by omega)]
  rfl
/-- The output, word by word. -/
theorem iter_four {f : Nat → List UInt8 → List UInt8} {g : Nat → Nat → List UInt8 → List UInt8} (hg : ∀ i j s, j < 4 → g i j s = f (4 * i + j) s) : ∀ (m i : Nat) (s : List UInt8), iterF (fun i s => iterF (g i) 4 0 s) m i s = iterF f (4 * m) (4 * i) s
  | 0, _, _ => rfl
  | m + 1, i, s => by
    show iterF (fun i s => iterF (g i) 4 0 s) m (i + 1) (g i 3 (g i 2 (g i 1 (g i 0 s)))) = _
    rw [iter_four hg m (i + 1), hg i 0 _ (by omega), hg i 1 _ (by omega), hg i 2 _ (by omega), hg i 3 _ (by omega)]
    rw [show 4 * (m + 1) = 4 * m + 1 + 1 + 1 + 1 by omega, show 4 * (i + 1) = 4 * i + 1 + 1 + 1 + 1 by omega]
    rfl
theorem out_eq (st : List Int) : iterF (fun i s => iterF (fun j (s : List UInt8) => s.set (4 * i + j) (u8 (IntKind.u8.wrap (shrI .u32 (st.getD i 0) ((8 * (3 - j) : Nat) : Int))))) 4 0 s) 8 0 (List.replicate 32 0) = digest st := by
  rw [iter_four (f := fun k s => s.set k (outByte st k)) ?_ 8 0 _]
  · exact iter_set_all _ _ _ (by simp)
  · intro i j s hj
    simp only [outByte]
    rw [show (4 * i + j) / 4 = i by omega, show 24 - 8 * ((4 * i + j) % 4) = 8 * (3 - j) by omega]
theorem shaHSum_eq (st : List Int) (rest : List UInt8) (b : List UInt8) (h8 : st.length = 8) (hr : rest.length = b.length % 64) (hb : b.length ≤ 140737488351232) :
    shaHSum (st, rest, ((b.length : Nat) : Int)) = some (digest (absorbN ((rest ++ ([128] ++ List.replicate (padZ b.length) 0 ++ len8 b.length)).length / 64) st (rest ++ ([128] ++ List.replicate (padZ b.length) 0 ++ len8 b.length))), (st, rest, ((b.length : Nat) : Int))) := by
  unfold shaHSum
  have hrl : rest.length < 64 := by omega
  rw [appO_byte (by simp; omega)]
  simp only [Option.bind_some, List.nil_append]
  rw [show u8O 128 = some 128 from rfl]
  simp only [Option.bind_some]
  rw [loop_pad 0 (fun n => (rest.length + n) % 64 = 56) ?hs ?he (padZ b.length) [128] (by simp [padZ]; omega) (by simp [padZ]; omega) (by intro j hj; simp [padZ] at hj ⊢; omega)]
  case hs =>
    intro s hl hn
    rw [i64_id (n := ((rest.length : Int) + (s.length : Int))) (by omega) (by omega), i64_id (by omega) (by omega)]
    rw [show remO ((rest.length : Int) + (s.length : Int) + 8) 64 = some (((rest.length + s.length + 8) % 64 : Nat) : Int) from remO_nat (rest.length + s.length + 8) 64 (by omega)]
    simp only [Option.bind_some]
    rw [if_neg (by omega), show u8O 0 = some 0 from rfl]
    simp only [Option.bind_some]
    rw [appO_byte (by simp; omega)]
    rfl
  case he =>
    intro s hl hn
    rw [i64_id (n := ((rest.length : Int) + (s.length : Int))) (by omega) (by omega), i64_id (by omega) (by omega)]
    rw [show remO ((rest.length : Int) + (s.length : Int) + 8) 64 = some (((rest.length + s.length + 8) % 64 : Nat) : Int) from remO_nat (rest.length + s.length + 8) 64 (by omega)]
    simp only [Option.bind_some]
    rw [if_pos (by omega)]
  simp only [Option.bind_some]
  have hL : IntKind.u64.wrap ((b.length : Int) * 8) = ((b.length * 8 : Nat) : Int) := by
    rw [u64_id (by omega) (by omega)]; omega
  rw [hL]
  rw [show (7 : Int) = ((8 : Nat) : Int) - 1 from rfl, loop_down (fun (k : Nat) (s : List UInt8) => s ++ [u8 ((b.length * 8 / 256 ^ k % 256 : Nat) : Int)]) (fun s => s) (fun (k : Nat) (s : List UInt8) => k ≤ 8 ∧ s.length ≤ 140737488355000 - k) ?hs2 ?he2 8 _ ⟨by omega, by simp [padZ]; omega⟩]
  case he2 => intro s _; rw [if_neg (by omega)]
  case hs2 =>
    intro k s ⟨hk, hl⟩
    refine ⟨?_, by omega, by simp; omega⟩
    rw [if_pos (by omega)]
    have h8 : IntKind.i64.wrap (8 * (k : Int)) = ((8 * k : Nat) : Int) := by rw [i64_id (by omega) (by omega)]; omega
    rw [h8]
    have hsh : shrO .u64 ((b.length * 8 : Nat) : Int) ((8 * k : Nat) : Int) = some (shrI .u64 ((b.length * 8 : Nat) : Int) ((8 * k : Nat) : Int)) := by unfold shrO; rw [if_pos (by omega)]
    rw [hsh]
    simp only [Option.bind_some]
    rw [len8_step b.length hb k (by omega), u8O_of (by omega) (by omega)]
    simp only [Option.bind_some]
    rw [appO_byte (by simp; omega)]
    simp only [Option.bind_some]
    rw [i64_id (by omega) (by omega)]
  simp only [Option.bind_some]
  rw [len8_eq]
  rw [shaAdd_eq _ _ _ _ h8 (by simp [padZ, len8]; omega)]
  simp only [Option.bind_some]
  have hl8 := absorbN_len ((rest ++ ([128] ++ List.replicate (padZ b.length) 0 ++ len8 b.length)).length / 64) st (rest ++ ([128] ++ List.replicate (padZ b.length) 0 ++ len8 b.length)) h8
  generalize absorbN ((rest ++ ([128] ++ List.replicate (padZ b.length) 0 ++ len8 b.length)).length / 64) st (rest ++ ([128] ++ List.replicate (padZ b.length) 0 ++ len8 b.length)) = v at hl8 ⊢
  rw [(loop_for0 (fun i s => iterF (fun j (s : List UInt8) => s.set (4 * i + j) (u8 (IntKind.u8.wrap (shrI .u32 (v.getD i 0) ((8 * (3 - j) : Nat) : Int))))) 4 0 s) (fun s => s) 8 (fun _ s => s.length = 32) ?hs5 ?he5 (by simp)).1]
  case he5 => intro s _; rfl
  case hs5 =>
    intro i s hi hs
    have h64 : ((i : Nat) : Int) < 8 := by omega
    simp only [h64, if_true]
    rw [idxO_getD 0 rfl (show i < v.length by omega)]
    simp only [Option.bind_some]
    have hin := loop_for0 (f := fun (s406 : (List UInt8) × Int) => if s406.2 < 4 then ((shrO .u32 (v.getD i 0) (IntKind.i64.wrap (8 * (IntKind.i64.wrap (3 - s406.2))))).bind fun x409 =>
      (idxO s406.1 (IntKind.i64.wrap ((IntKind.i64.wrap (4 * (i : Int))) + s406.2))).bind fun x410 =>
      (u8O (IntKind.u8.wrap (x409))).bind fun x412 =>
      some (.inl ((s406.1).set (IntKind.i64.wrap ((IntKind.i64.wrap (4 * (i : Int))) + s406.2) : Int).toNat x412, IntKind.i64.wrap (s406.2 + 1))))
      else (some (.inr s406.1))) (fun j (s : List UInt8) => s.set (4 * i + j) (u8 (IntKind.u8.wrap (shrI .u32 (v.getD i 0) ((8 * (3 - j) : Nat) : Int))))) (fun s => s) 4 (fun _ s => s.length = 32) ?hs6 ?he6 hs
    case he6 => intro s _; rfl
    case hs6 =>
      intro j s hj hs
      have h64 : ((j : Nat) : Int) < 4 := by omega
      refine ⟨?_, by simp [hs]⟩
      simp only [h64, if_true]
      have e3 : IntKind.i64.wrap (8 * IntKind.i64.wrap (3 - (j : Int))) = ((8 * (3 - j) : Nat) : Int) := by rw [i64_id (n := 3 - (j : Int)) (by omega) (by omega), i64_id (by omega) (by omega)]; omega
      have e4 : IntKind.i64.wrap (IntKind.i64.wrap (4 * (i : Int)) + (j : Int)) = ((4 * i + j : Nat) : Int) := by rw [i64_id (n := 4 * (i : Int)) (by omega) (by omega), i64_id (by omega) (by omega)]; omega
      rw [e3, e4]
      have hsh : shrO .u32 (v.getD i 0) ((8 * (3 - j) : Nat) : Int) = some (shrI .u32 (v.getD i 0) ((8 * (3 - j) : Nat) : Int)) := by unfold shrO; rw [if_pos (by omega)]
      rw [hsh, idxO_getD 0 rfl (show 4 * i + j < s.length by omega)]
      simp only [Option.bind_some]
      rw [u8O_of (by rw [wrap_u8']; omega) (by rw [wrap_u8']; omega)]
      simp only [Option.bind_some]
      rw [i64_id (by omega) (by omega)]
      rfl
    refine ⟨?_, hin.2⟩
    rw [hin.1]
    simp only [Option.bind_some]
    rw [i64_id (by omega) (by omega)]
    rfl
  simp only [Option.bind_some]
  rw [out_eq]
/-- The program's digest is the function. -/
theorem shaSum_eq (b : List UInt8) (hb : b.length ≤ 140737488351232) : shaSum b = some (Hs b) := by
  unfold shaSum
  rw [show shaNew = some (shaStart, ([] : List UInt8), (0 : Int)) from rfl]
  simp only [Option.bind_some]
  rw [shaAdd_eq _ _ _ _ rfl (by simp; omega)]
  simp only [Option.bind_some, List.nil_append]
  rw [show IntKind.u64.wrap (0 + IntKind.u64.wrap (b.length : Int)) = ((b.length : Nat) : Int) by rw [u64_id (n := (b.length : Int)) (by omega) (by omega), u64_id (by omega) (by omega)]; omega]
  rw [shaHSum_eq _ _ b (absorbN_len _ _ _ rfl) (by simp; omega) hb]
  simp only [Option.bind_some]
  unfold Hs
  have hp : padB b = b ++ ([128] ++ List.replicate (padZ b.length) 0 ++ len8 b.length) := by unfold padB; simp [List.append_assoc]
  rw [hp]
  generalize ([128] ++ List.replicate (padZ b.length) 0 ++ len8 b.length) = t
  have hd : b.drop (64 * (b.length / 64)) ++ t = (b ++ t).drop (64 * (b.length / 64)) := by rw [List.drop_append_of_le_length (by omega)]
  rw [hd, ← absorbN_app (b.length / 64) shaStart b t (by omega), ← absorbN_add]
  congr 3
  simp; omega
end Go.Proofs.YtnjemlkcamdbfaaGreatDoor
