/- The reference's Less, above, Majority and Choose. -/
import Derived.Test.YtoohllmhlbgamaaVoteC
import Derived.Test.YtoohllmhlbgamaaLibE
set_option linter.unusedSimpArgs false
set_option linter.unusedVariables false
namespace Go.Tri
theorem compare_at : ∀ (l m : List UInt8) (k : Nat) (a b : UInt8), (∀ j, j < k → l[j]? = m[j]?) → l[k]? = some a → m[k]? = some b → a ≠ b → Lib.compareBytes l m = if a < b then -1 else 1
  | [], _, k, a, b, _, h, _, _ => by simp at h
  | _ :: _, [], k, a, b, _, _, h, _ => by simp at h
  | x :: l, y :: m, 0, a, b, _, h, h', hne => by
    simp at h h'; subst h; subst h'
    unfold Lib.compareBytes
    split
    · rfl
    · rename_i hl
      have h1 : ¬ x.toNat < y.toNat := by simpa [UInt8.lt_iff_toNat_lt] using hl
      have h2 : x.toNat ≠ y.toNat := fun e => hne (UInt8.toNat_inj.1 e)
      rw [if_pos (by rw [UInt8.lt_iff_toNat_lt]; omega)]
  | x :: l, y :: m, k + 1, a, b, hj, h, h', hne => by
    have h0 := hj 0 (by omega)
    simp at h0; subst h0
    unfold Lib.compareBytes
    rw [if_neg (by simp [UInt8.lt_iff_toNat_lt]), if_neg (by simp [UInt8.lt_iff_toNat_lt])]
    exact compare_at l m k a b (fun j hjk => by have := hj (j + 1) (by omega); simpa using this) (by simpa using h) (by simpa using h') hne
theorem compare_self : ∀ l : List UInt8, Lib.compareBytes l l = 0
  | [] => rfl
  | x :: l => by
    unfold Lib.compareBytes
    rw [if_neg (by simp [UInt8.lt_iff_toNat_lt]), if_neg (by simp [UInt8.lt_iff_toNat_lt])]
    exact compare_self l
end Go.Tri
namespace Go.Proofs.Ytoohllmhlbgamaa
open Go.ChangeShapes Go.WideShapes Go.ChangeAt Go.RowKit Go.Tri

set_option maxRecDepth 100000 in
set_option maxHeartbeats 1000000 in
theorem less (l m : List UInt8) (hl : l.length = 32) (hm : m.length = 32) (w : World) :
    Calls Try.prog 27 #[.agg (bcells l).toArray, .agg (bcells m).toArray] w fun e w' => e = .returned (.bool (decide (Lib.compareBytes l m < 0))) ∧ Below w.heap.size w w' := by
  have HL := Lib.hid hl; have HM := Lib.hid hm; clear hl hm
  go_enter Try.func27, Try.ntmps27
  go_wp2
  have hB0 : Below w.heap.size w ((w.alloc (.cells (bcells l).toArray 26)).alloc (.cells (bcells m).toArray 26)) := ((Below.refl _ _).alloc (Nat.le_refl _) _).alloc (by simp) _
  have hbl : Blk ((w.alloc (.cells (bcells l).toArray 26)).alloc (.cells (bcells m).toArray 26)) w.heap.size (bcells l) 26 := (Blk.new w _ _).alloc _
  have hbm : Blk ((w.alloc (.cells (bcells l).toArray 26)).alloc (.cells (bcells m).toArray 26)) (w.heap.size + 1) (bcells m) 26 := by
    have := Blk.new (w.alloc (.cells (bcells l).toArray 26)) (bcells m) 26; rw [World.size_alloc] at this; exact this
  generalize (w.alloc (.cells (bcells l).toArray 26)).alloc (.cells (bcells m).toArray 26) = W at *
  have HB := Lib.hid hB0; have HBL := Lib.hid hbl; have HBM := Lib.hid hbm; clear hB0 hbl hbm
  go_loopw [5] (fun i wr => ∃ k n : Nat, k ≤ 32 ∧ i = .int .i64 k ∧ wr = W.drewN n ∧ Hid (∀ j, j < k → l[j]? = m[j]?)) (fun i _ => 32 - (intOf i).toNat)
  case atStart => exact ⟨0, 0, Nat.zero_le _, rfl, rfl, fun j hj => by omega⟩
  case round =>
    obtain ⟨k, n, hk, rfl, rfl, H0⟩ := hrel
    by_cases hlt : k < 32
    · obtain ⟨a, ha⟩ : ∃ a, l[k]? = some a := ⟨_, List.getElem?_eq_getElem (by rw [HL.out]; exact hlt)⟩
      obtain ⟨b, hb⟩ : ∃ b, m[k]? = some b := ⟨_, List.getElem?_eq_getElem (by rw [HM.out]; exact hlt)⟩
      have ca : W.cell? ⟨w.heap.size, k, none⟩ = some (.int .u8 a.toNat) := by rw [HBL.out.cell]; simp [bcells, ha]
      have cb : W.cell? ⟨w.heap.size + 1, k, none⟩ = some (.int .u8 b.toNat) := by rw [HBM.out.cell]; simp [bcells, hb]
      have HA := Lib.hid ha; have HBb := Lib.hid hb; clear ha hb
      by_cases he : a = b
      · have hne : ((a.toNat : Int) != (b.toNat : Int)) = false := by simp [he]
        have HE := Lib.hid he; clear he
        go_wp2
        go_quiet (fail)
        go_wp2
        go_roundw
        case rel => exact ⟨k + 1, n + nq, by omega, by go_num, rfl, fun j hj => by
          by_cases e : j = k
          · subst e; rw [HA.out, HBb.out, HE.out]
          · exact H0.out j (by omega)⟩
        case measure => simp [intOf]; omega
      · have hnn : a.toNat ≠ b.toNat := fun e => he (UInt8.toNat_inj.1 e)
        have hne : ((a.toNat : Int) != (b.toNat : Int)) = true := by simp; omega
        have hcmp := Lib.hid (compare_at l m k a b H0.out HA.out HBb.out he)
        clear he
        go_wp2
        go_quiet (fail)
        go_wp2
        go_quiet (fail)
        go_wp2
        go_ret
        refine ⟨ret_bool (a := decide (a.toNat < b.toNat)) ?_, (((HB.out.drewN _).drewN _).drewN _)⟩
        rw [hcmp.out]
        by_cases hab : a < b
        · rw [if_pos hab]; rw [UInt8.lt_iff_toNat_lt] at hab; simp [hab]
        · rw [if_neg hab]; rw [UInt8.lt_iff_toNat_lt] at hab; simp; omega
    · go_wp2
      go_ret
      have : l = m := List.ext_getElem? fun j => by
        by_cases hj : j < k
        · exact H0.out j hj
        · rw [List.getElem?_eq_none (by rw [HL.out]; omega), List.getElem?_eq_none (by rw [HM.out]; omega)]
      refine ⟨?_, HB.out.drewN _⟩
      rw [this, compare_self]; rfl

/-- The reference's order of votes. -/
def aboveB (a b : Vote) : Bool :=
  if a.normal ≠ b.normal then decide (b.normal < a.normal) else if a.gen ≠ b.gen then decide (b.gen < a.gen) else if a.head ≠ b.head then decide (Lib.compareBytes b.head a.head < 0)
  else if a.node ≠ b.node then decide (a.node < b.node) else decide (b.commit < a.commit)

theorem lits_hash (D : Nat) (l : List UInt8) (hl : l.length = 32) : Try.prog.keyLits (D + 2) 26 (bcells l) = some (l.map fun c => .int .u8 c.toNat) :=
  keyLits_bytes Try.underlying26 Try.underlying5 (by kernel_rfl) (by kernel_rfl) D l hl
theorem formed_hash (l : List UInt8) (hl : l.length = 32) : (Value.agg (bcells l).toArray).formed Try.prog 26 = true := by
  have h : Try.prog.cellsOf 26 = 32 := by kernel_rfl
  simp [Value.formed, Try.underlying26, h, bcells_length, hl]
theorem run_ne_hash (l m : List UInt8) (hl : l.length = 32) (hm : m.length = 32) (x y : Operand) (w : World) :
    (do eqGuard .neq 26 x y (.agg (bcells l).toArray) (.agg (bcells m).toArray); binOp .neq 26 (.agg (bcells l).toArray) (.agg (bcells m).toArray)).run Try.prog w = .ok (.bool (!decide (l = m))) w := by
  have h := (run_eqAgg (P := Try.prog) (t := 26) (m := 3) (by decide) (by kernel_rfl) (formed_hash l hl) (formed_hash m hm) (lits_hash 0 l hl) (lits_hash 0 m hm) (by kernel_rfl) w x y (decide (l = m)) (by rw [decide_eq_true_iff]; exact ⟨fun e => by rw [e], lits_inj l m⟩)).2
  exact h

set_option maxRecDepth 100000 in
set_option maxHeartbeats 1000000 in
theorem above (x y : Vote) (hx : x.wf) (hy : y.wf) (w : World) :
    Calls Try.prog 18 #[.agg x.cells.toArray, .agg y.cells.toArray] w fun e w' => e = .returned (.bool (aboveB x y)) ∧ Below w.heap.size w w' := by
  have x0 : x.cells[0]? = some (.int .i64 x.node) := rfl
  have x2 : x.cells[2]? = some (.int .u64 x.normal) := rfl
  have x3 : x.cells[3]? = some (.int .u64 x.gen) := rfl
  have x4 : x.cells[4]? = some (.int .u64 x.commit) := rfl
  have y0 : y.cells[0]? = some (.int .i64 y.node) := rfl
  have y2 : y.cells[2]? = some (.int .u64 y.normal) := rfl
  have y3 : y.cells[3]? = some (.int .u64 y.gen) := rfl
  have y4 : y.cells[4]? = some (.int .u64 y.commit) := rfl
  have RX := Lib.hid (show Row ((w.alloc (.cells x.cells.toArray 28)).alloc (.cells y.cells.toArray 28)) w.heap.size 5 (bcells x.head) from
    ((Row.new w x.cells 28 (0, 0)).alloc _).right (xs := [_, _, _, _, _]))
  have RY := Lib.hid (show Row ((w.alloc (.cells x.cells.toArray 28)).alloc (.cells y.cells.toArray 28)) (w.heap.size + 1) 5 (bcells y.head) from by
    have h := (Row.new (w.alloc (.cells x.cells.toArray 28)) y.cells 28 (0, 0)).right (xs := [_, _, _, _, _])
    rw [World.size_alloc] at h; exact h)
  have hB : Below w.heap.size w ((w.alloc (.cells x.cells.toArray 28)).alloc (.cells y.cells.toArray 28)) := ((Below.refl _ _).alloc (Nat.le_refl _) _).alloc (by simp) _
  have HB := Lib.hid hB; clear hB
  by_cases h2 : x.normal = y.normal
  · have h2b : (x.normal != y.normal) = false := by simp [h2]
    have H2 := Lib.hid h2; clear h2
    by_cases h3 : x.gen = y.gen
    · have h3b : (x.gen != y.gen) = false := by simp [h3]
      have H3 := Lib.hid h3; clear h3
      by_cases h5 : x.head = y.head
      · have h5b : decide (x.head = y.head) = true := by simp [h5]
        have H5 := Lib.hid h5; clear h5
        by_cases h0 : x.node = y.node
        · have h0b : (x.node != y.node) = false := by simp [h0]
          have H0 := Lib.hid h0; clear h0
          go_enter Try.func18, Try.ntmps18
          go_wp2_with (first
                | (refine wl_load aggHash rfl rfl rfl RX.out (by rw [bcells_length]; exact hx.len) ?_)
                | (refine wl_load aggHash rfl rfl rfl RY.out (by rw [bcells_length]; exact hy.len) ?_)
                | (refine wl_neAgg rfl rfl rfl rfl (run_ne_hash _ _ hx.len hy.len _ _ _) ?_; rw [h5b])
                | (go_at_call 27; refine (less _ _ hy.len hx.len _).mono ?_; rintro e w1 ⟨rfl, hb1⟩; have HB1 := Lib.hid (HB.out.trans (hb1.mono (by simp; omega))); clear hb1))
          go_ret
          refine ⟨ret_bool ?_, HB.out⟩
          simp [aboveB, H2.out, H3.out, H5.out, H0.out]
        · have h0b : (x.node != y.node) = true := by simp [h0]
          go_enter Try.func18, Try.ntmps18
          go_wp2_with (first
                | (refine wl_load aggHash rfl rfl rfl RX.out (by rw [bcells_length]; exact hx.len) ?_)
                | (refine wl_load aggHash rfl rfl rfl RY.out (by rw [bcells_length]; exact hy.len) ?_)
                | (refine wl_neAgg rfl rfl rfl rfl (run_ne_hash _ _ hx.len hy.len _ _ _) ?_; rw [h5b])
                | (go_at_call 27; refine (less _ _ hy.len hx.len _).mono ?_; rintro e w1 ⟨rfl, hb1⟩; have HB1 := Lib.hid (HB.out.trans (hb1.mono (by simp; omega))); clear hb1))
          go_ret
          refine ⟨ret_bool ?_, HB.out⟩
          simp [aboveB, H2.out, H3.out, H5.out, h0]
      · have h5b : decide (x.head = y.head) = false := by simp [h5]
        go_enter Try.func18, Try.ntmps18
        go_wp2_with (first
              | (refine wl_load aggHash rfl rfl rfl RX.out (by rw [bcells_length]; exact hx.len) ?_)
              | (refine wl_load aggHash rfl rfl rfl RY.out (by rw [bcells_length]; exact hy.len) ?_)
              | (refine wl_neAgg rfl rfl rfl rfl (run_ne_hash _ _ hx.len hy.len _ _ _) ?_; rw [h5b])
              | (go_at_call 27; refine (less _ _ hy.len hx.len _).mono ?_; rintro e w1 ⟨rfl, hb1⟩; have HB1 := Lib.hid (HB.out.trans (hb1.mono (by simp; omega))); clear hb1))
        go_ret
        refine ⟨ret_bool ?_, HB1.out⟩
        simp [aboveB, H2.out, H3.out, h5]
    · have h3b : (x.gen != y.gen) = true := by simp [h3]
      go_enter Try.func18, Try.ntmps18
      go_wp2_with (first
            | (refine wl_load aggHash rfl rfl rfl RX.out (by rw [bcells_length]; exact hx.len) ?_)
            | (refine wl_load aggHash rfl rfl rfl RY.out (by rw [bcells_length]; exact hy.len) ?_)
            | (refine wl_neAgg rfl rfl rfl rfl (run_ne_hash _ _ hx.len hy.len _ _ _) ?_; rw [h5b])
            | (go_at_call 27; refine (less _ _ hy.len hx.len _).mono ?_; rintro e w1 ⟨rfl, hb1⟩; have HB1 := Lib.hid (HB.out.trans (hb1.mono (by simp; omega))); clear hb1))
      go_ret
      refine ⟨ret_bool ?_, HB.out⟩
      simp [aboveB, H2.out, h3]
  · have h2b : (x.normal != y.normal) = true := by simp [h2]
    go_enter Try.func18, Try.ntmps18
    go_wp2_with (first
          | (refine wl_load aggHash rfl rfl rfl RX.out (by rw [bcells_length]; exact hx.len) ?_)
          | (refine wl_load aggHash rfl rfl rfl RY.out (by rw [bcells_length]; exact hy.len) ?_)
          | (refine wl_neAgg rfl rfl rfl rfl (run_ne_hash _ _ hx.len hy.len _ _ _) ?_; rw [h5b])
          | (go_at_call 27; refine (less _ _ hy.len hx.len _).mono ?_; rintro e w1 ⟨rfl, hb1⟩; have HB1 := Lib.hid (HB.out.trans (hb1.mono (by simp; omega))); clear hb1))
    go_ret
    refine ⟨ret_bool ?_, HB.out⟩
    simp [aboveB, h2]
end Go.Proofs.Ytoohllmhlbgamaa
