/- The votes as data; the walks of cmp.Compare, bytes.Compare and of vote's functions. -/
import Derived.Test.YtoohllmhlbgamaaLibB
import Derived.Test.YtoohllmhlbgamaaRows
set_option linter.unusedSimpArgs false
set_option linter.unusedVariables false
namespace Go.Tri
structure Vote where
  node : Int
  view : Int
  normal : Int
  gen : Int
  commit : Int
  head : List UInt8

def Vote.cells (x : Vote) : List Value := .int .i64 x.node :: .int .u64 x.view :: .int .u64 x.normal :: .int .u64 x.gen :: .int .u64 x.commit :: bcells x.head
def Vote.zero : Vote := ⟨0, 0, 0, 0, 0, [0, 0, 0, 0, 0, 0, 0, 0, 0, 0, 0, 0, 0, 0, 0, 0, 0, 0, 0, 0, 0, 0, 0, 0, 0, 0, 0, 0, 0, 0, 0, 0]⟩
def Vote.val (x : Vote) : Value := .agg x.cells.toArray
structure Vote.wf (x : Vote) : Prop where
  node : (Lit.int .i64 x.node).wf = true
  view : (Lit.int .u64 x.view).wf = true
  normal : (Lit.int .u64 x.normal).wf = true
  gen : (Lit.int .u64 x.gen).wf = true
  commit : (Lit.int .u64 x.commit).wf = true
  len : x.head.length = 32
theorem Vote.len_cells {x : Vote} (h : x.wf) : x.cells.length = 37 := by simp [Vote.cells, bcells_length, h.len]
theorem Vote.flat (x : Vote) : Flat x.cells := by
  intro v hv
  simp only [Vote.cells, List.mem_cons] at hv
  rcases hv with rfl | rfl | rfl | rfl | rfl | hv
  case inr.inr.inr.inr.inr => exact bcells_flat _ _ hv
  all_goals rfl
end Go.Tri
namespace Go.Proofs.Ytoohllmhlbgamaa
open Go.ChangeShapes Go.WideShapes Go.ChangeAt Go.RowKit Go.Tri

theorem aggVote : AggT Try.prog 28 37 Vote.zero.cells := ⟨by kernel_rfl, by kernel_rfl, rfl⟩
theorem aggHash : AggT Try.prog 26 32 (bcells Vote.zero.head) := ⟨by kernel_rfl, by kernel_rfl, rfl⟩

theorem isNaN_int (n : Int) (w : World) : Calls Try.prog 28 #[.int .i64 n] w fun e w' => e = .returned (.bool false) ∧ w = w' := by
  go_enter Try.func28, Try.ntmps28
  go_wp2
  go_ret
  exact ⟨by simp, rfl⟩
theorem isNaN_u64 (n : Int) (w : World) : Calls Try.prog 31 #[.int .u64 n] w fun e w' => e = .returned (.bool false) ∧ w = w' := by
  go_enter Try.func31, Try.ntmps31
  go_wp2
  go_ret
  exact ⟨by simp, rfl⟩

def cmp3 (x y : Int) : Int := if x < y then -1 else if y < x then 1 else 0

theorem compare_int (x y : Int) (w : World) : Calls Try.prog 22 #[.int .i64 x, .int .i64 y] w fun e w' => e = .returned (.int .i64 (cmp3 x y)) ∧ w = w' := by
  unfold cmp3
  go_enter Try.func22, Try.ntmps22
  go_wp2_with (go_at_call 28; refine (isNaN_int _ _).mono ?_; rintro e w' ⟨rfl, rfl⟩)
  all_goals go_ret
  all_goals (refine ⟨?_, rfl⟩; simp [*])
theorem compare_u64 (x y : Int) (w : World) : Calls Try.prog 25 #[.int .u64 x, .int .u64 y] w fun e w' => e = .returned (.int .i64 (cmp3 x y)) ∧ w = w' := by
  unfold cmp3
  go_enter Try.func25, Try.ntmps25
  go_wp2_with (go_at_call 31; refine (isNaN_u64 _ _).mono ?_; rintro e w' ⟨rfl, rfl⟩)
  all_goals go_ret
  all_goals (refine ⟨?_, rfl⟩; simp [*])
theorem bytes_compare {w : World} {v u : Value} {l m : List UInt8} (h : Sl w v l.length (bcells l)) (k : Sl w u m.length (bcells m)) :
    Calls Try.prog 26 #[v, u] w fun e w' => e = .returned (.int .i64 (Lib.compareBytes l m)) ∧ w = w' := by
  go_enter Try.func26, Try.ntmps26
  go_wp2
  rw [run_callFunc_extern Try.func32 (by kernel_rfl) (by kernel_rfl) (by kernel_rfl) (e := Extern.BytealgCompare.compare) (by kernel_rfl), run_compare h k]
  simp only [Result.andThen]
  rw [Oper.upon_value]
  go_wp2
  go_ret
  exact ⟨rfl, rfl⟩

/-- The first number that isn't 0. -/
def firstNot (zs : List Int) : Int := (zs.find? (fun z => z != 0)).getD 0
theorem firstNot_hit (zs : List Int) (k : Nat) (z : Int) (h : zs[k]? = some z) (hz : z ≠ 0) (h0 : ∀ j, j < k → zs[j]? = some 0) : firstNot zs = z := by
  induction zs generalizing k with
  | nil => simp at h
  | cons x zs ih =>
    cases k with
    | zero => simp at h; subst h; simp [firstNot, hz]
    | succ k =>
      have hx : x = 0 := by have := h0 0 (by omega); simpa using this
      subst hx
      have := ih k (by simpa using h) (fun j hj => by have := h0 (j + 1) (by omega); simpa using this)
      simpa [firstNot] using this
theorem firstNot_none (zs : List Int) (h0 : ∀ j, j < zs.length → zs[j]? = some 0) : firstNot zs = 0 := by
  have : zs.find? (fun z => z != 0) = none := by
    rw [List.find?_eq_none]
    intro x hx
    obtain ⟨j, hj, rfl⟩ := List.getElem_of_mem hx
    have := h0 j hj
    rw [List.getElem?_eq_getElem hj] at this
    simp at this; simp [this]
  simp [firstNot, this]

theorem cmp_or (b n : Nat) (zs : List Int) (hn : zs.length = n) (cap : Nat) (w : World) (hr : Row w b 0 (zs.map (Value.int .i64))) (hl : zs.length ≤ 100) :
    Calls Try.prog 24 #[.slice (some ⟨b, 0, none⟩) n cap] w fun e w' => e = .returned (.int .i64 (firstNot zs)) ∧ w = w' := by
  subst hn
  go_enter Try.func24, Try.ntmps24
  go_wp2
  have HR := Lib.hid hr; clear hr
  go_loop [8] (fun i => ∃ k : Nat, k ≤ zs.length ∧ i = .int .i64 k ∧ Hid (∀ j, j < k → zs[j]? = some 0)) (fun i => zs.length - (intOf i).toNat)
  case atStart => exact ⟨0, Nat.zero_le _, rfl, fun j hj => by omega⟩
  case round =>
    obtain ⟨k, hk, rfl, H0⟩ := hrel
    by_cases hlt : k < zs.length
    · obtain ⟨z, hz⟩ : ∃ z, zs[k]? = some z := ⟨_, List.getElem?_eq_getElem hlt⟩
      have hc : w.cell? ⟨b, k, none⟩ = some (.int .i64 z) := by have := HR.out k (.int .i64 z) (by simp [hz]); simpa using this
      have HZ := Lib.hid hz; clear hz
      by_cases h0 : z = 0
      · have hb : (z != 0) = false := by simp [h0]
        have H00 := Lib.hid h0; clear h0
        go_wp2
        go_round
        case rel => exact ⟨k + 1, by omega, by go_num, fun j hj => by
          by_cases e : j = k
          · subst e; rw [HZ.out, H00.out]
          · exact H0.out j (by omega)⟩
        case measure => simp [intOf]; omega
      · have hb : (z != 0) = true := by simp [h0]
        go_wp2
        go_ret
        exact ⟨by rw [firstNot_hit zs k z HZ.out h0 H0.out]; rfl, rfl⟩
    · go_wp2
      go_ret
      exact ⟨by rw [firstNot_none zs (fun j hj => H0.out j (by omega))]; rfl, rfl⟩
end Go.Proofs.Ytoohllmhlbgamaa
