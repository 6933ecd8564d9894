/- slices.Clone; the search by a node's number. -/
import Derived.Test.YtoohllmhlbgamaaVoteJ
import Derived.WalkSpells
set_option linter.unusedSimpArgs false
set_option linter.unusedVariables false
namespace Go.Proofs.Ytoohllmhlbgamaa
open Go.ChangeShapes Go.WideShapes Go.ChangeAt Go.RowKit Go.Tri

def OwnPost (n : Nat) (cs : List Value) (w : World) (e : Ending) (w' : World) : Prop :=
  ∃ v', e = .returned v' ∧ w'.ownsRow w.heap.size 28 37 v' n cs ∧ Below w.heap.size w w'

set_option maxRecDepth 100000 in
theorem clone (v : Value) (n : Nat) (cs : List Value) (w : World) (hv : Sl w v n cs) (hl : cs.length = n * 37) (hf : Flat cs) (hn : n ≤ 1000) :
    Calls Try.prog 19 #[v] w (OwnPost n cs w) := by
  have HV := Lib.hid hv; have HL := Lib.hid hl; clear hl
  have hsl : (v = .slice none 0 0 ∧ n = 0 ∧ cs = []) ∨ ∃ a m cap, v = .slice (some a) m cap := by
    rcases hv with h | ⟨a, cap, rfl, _⟩ | ⟨b, off, cap, rfl, _⟩
    · exact .inl h
    · exact .inr ⟨_, _, _, rfl⟩
    · exact .inr ⟨_, _, _, rfl⟩
  clear hv
  rcases hsl with ⟨rfl, rfl, rfl⟩ | ⟨a, m, cap, rfl⟩
  · have hq := fun u => Lib.run_eql_slice_nil (P := Try.prog) u
    go_enter Try.func19, Try.ntmps19
    go_wp2
    go_ret
    exact ⟨_, rfl, World.ownsRow_nil _ _ _ _, Below.refl _ _⟩
  · have hq := fun u => run_eq_nilSlice (P := Try.prog) Try.underlying22 a m cap u
    go_enter Try.func19, Try.ntmps19
    go_wp2_with ((with_reducible refine wl_append (base := w.heap.size) elemVote rfl ?_ ?_ ?_ (ownsRow_empty _ _ _ _ (Nat.le_refl _)) (HV.out.alloc _) HL.out hf (by unfold maxLen; omega) (by omega) (by simp) ?_); exact rfl; exact rfl; exact rfl; intro v' w2 ho2 hg2; rw [Nat.zero_add, List.nil_append] at ho2; have H2 := Lib.hid (And.intro ho2 (((Below.refl w.heap.size w).alloc (Nat.le_refl _) (.cells #[] 28)).grownNew hg2 (fun k hk => by simp [Value.ownBlock] at hk; omega))); clear ho2 hg2)
    go_ret
    exact ⟨_, rfl, H2.out.1, H2.out.2⟩

theorem byNode (x y : Vote) (w : World) : Calls Try.prog 21 #[.agg x.cells.toArray, .agg y.cells.toArray] w fun e w' => e = .returned (.int .i64 (cmp3 x.node y.node)) ∧ Below w.heap.size w w' := by
  have x0 : x.cells[0]? = some (.int .i64 x.node) := rfl
  have y0 : y.cells[0]? = some (.int .i64 y.node) := rfl
  go_enter Try.func21, Try.ntmps21
  go_wp2_with (go_at_call 22; refine (compare_int _ _ _).mono ?_; rintro e w' ⟨rfl, rfl⟩)
  go_ret
  exact ⟨rfl, ((Below.refl _ _).alloc (Nat.le_refl _) _).alloc (by simp) _⟩

/-- Where the search by halves ends. -/
def bsL (f : Nat → Bool) (i j : Nat) : Nat := if h : i < j then (if f ((i + j) / 2) then bsL f ((i + j) / 2 + 1) j else bsL f i ((i + j) / 2)) else i
termination_by j - i
decreasing_by all_goals omega
theorem bsL_le (f : Nat → Bool) (i j : Nat) (h : i ≤ j) : i ≤ bsL f i j ∧ bsL f i j ≤ j := by
  induction i, j using bsL.induct f with
  | case1 i j hlt hf ih => rw [bsL, dif_pos hlt, if_pos hf]; have := ih (by omega); omega
  | case2 i j hlt hf ih => rw [bsL, dif_pos hlt, if_neg hf]; have := ih (by omega); omega
  | case3 i j hlt => rw [bsL, dif_neg hlt]; omega
/-- Is the node at place k below the one that is sought? -/
def belowAt (xs : List Vote) (v : Vote) (k : Nat) : Bool := match xs[k]? with | some x => decide (x.node < v.node) | none => false
def findAt (xs : List Vote) (v : Vote) : Nat := bsL (belowAt xs v) 0 xs.length
def foundAt (xs : List Vote) (v : Vote) : Bool := match xs[findAt xs v]? with | some x => x.node == v.node | none => false

end Go.Proofs.Ytoohllmhlbgamaa
