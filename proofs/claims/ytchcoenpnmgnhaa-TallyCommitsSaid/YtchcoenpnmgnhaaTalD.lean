/- slices.AppendSeq. -/
import Derived.Test.YtchcoenpnmgnhaaTalC
set_option linter.unusedSimpArgs false
set_option linter.unusedVariables false
namespace Go.Proofs.Ytchcoenpnmgnhaa
open Go.ChangeShapes Go.WideShapes Go.ChangeAt Go.RowKit Go.Tri
theorem rn_app {α V : Type} : ∀ {xs : List α} {g g' : List α × V}, Rn (fun (g : List α × V) x g' => g'.1 = g.1 ++ [x]) g xs g' → g'.1 = g.1 ++ xs
  | [], g, g', h => by cases h; simp
  | x :: xs, g, g', ⟨g1, h1, h2⟩ => by
    have e1 : g1.1 = g.1 ++ [x] := h1
    have e2 := rn_app h2
    rw [e2, e1]; simp
set_option maxRecDepth 100000 in
set_option maxHeartbeats 2000000 in
theorem appendSeq {gf : FuncId} {lb : List Value} {own : List HP} {Adm : List Int → Int → Prop} {SS : List Int → Prop} (hS : SeqC Try.prog gf lb (inC .u64) own Adm SS) (hent : ∀ args w, (callFunc gf args).run Try.prog w = .ok (.enter gf args) w) (hbnd : ∀ xs x, Adm xs x → xs.length < 1000000) {w0 w : World} {ls : List HP} (H : St w0 w (own ++ ls)) :
    Calls Try.prog 31 [.slice none 0 0, .func (.func gf) #[] lb.toArray].toArray w (fun e w' => ∃ r, e = .returned r ∧ ∃ xs, SS xs ∧ St w0 w' (HP.own 24 1 r xs.length (rows (inC .u64) xs) :: (own ++ ls))) := by
  refine xi_enter Try.func31 rfl rfl rfl ?_
  intro a0 F0
  replace F0 : Fr ⟨13, []⟩ a0 [(0, .slice none 0 0), (1, .func (.func gf) #[] lb.toArray)] := F0
  have H0 : St w0 w ([] ++ (own ++ ls)) := H
  refine wpIn_seq ?_
  refine ri_lit ?_
  refine s_box1 wkI F0 rfl rfl rfl rfl rfl rfl H0 ?_; intro Bs w1 a1 H1 F1; clear F0
  refine s_val wkI F1 rfl rfl rfl rfl (y_assign F1 rfl rfl) ?_; intro a2 F2; clear F1
  refine wpListIn_nil ?_
  refine c_then ?_
  refine wpIn_seq ?_
  refine wpIn_seq ?_
  refine ri_lit ?_
  refine s_val wkI F2 rfl rfl rfl rfl (y_move F2 rfl rfl) ?_; intro a3 F3; clear F2
  refine wpListIn_nil ?_
  refine c_then ?_
  refine wpIn_block ?_
  have H5 : St w0 w1 ([HP.blk Bs ([.slice none 0 0]) 33, HP.own 24 1 (.slice none 0 0) (0) ([])] ++ (own ++ ls)) := St.pickT (A := [HP.own 24 1 (.slice none 0 0) 0 [], HP.blk Bs ([.slice none 0 0]) 33]) [1, 0] (H1.ownNil 24 1) (by decide) rfl
  have F6 := F3.cut [(2, .pointer (some ⟨Bs, 0, none⟩)), (4, .slice none 0 0), (6, .func (.func gf) #[] lb.toArray)] ⟨rfl, rfl, rfl, trivial⟩
  refine xi_range (E := Empty) (Mid := Unit) F6 rfl hent hS (fun g => [HP.blk Bs [g.2] 33, HP.own 24 1 g.2 g.1.length (rows (inC .u64) g.1)]) (fun k => k.elim) (fun _ => .skip) (fun g x g' => g'.1 = g.1 ++ [x]) (fun _ _ _ => False) ([], .slice none 0 0) (H5) (fun _ => rfl) rfl (fun g x _ => [(2, .pointer (some ⟨Bs, 0, none⟩)), (5, .int .u64 x)]) (fun g x _ => [HP.blk Bs [g.2] 33, HP.own 24 1 g.2 g.1.length (rows (inC .u64) g.1)]) ?_ ?_ ?_ ?_
  · skip
    rintro L xs1 ⟨xs, v⟩ x a7 w7 fr1 hadm hrn F7 H7
    replace F7 : Fr ⟨13, []⟩ a7 [(7, .int .u64 (x)), (2, .pointer (some ⟨Bs, 0, none⟩)), (4, .slice none 0 0), (6, .func (.func gf) #[] lb.toArray)] := F7
    replace H7 : St w0 w7 ([HP.blk Bs [v] 33, HP.own 24 1 v (xs.length) (rows (inC .u64) xs)] ++ fr1) := H7
    refine ri_lit ?_
    refine s_val wkI F7 rfl rfl rfl rfl (y_assign F7 rfl rfl) ?_; intro a8 F8; clear F7
    refine wpListIn_nil ?_
    refine c_then ?_
    exact ⟨(), F8.cut _ ⟨rfl, rfl, trivial⟩, H7⟩
  · skip
    rintro L xs1 ⟨xs, v⟩ x ⟨⟩ a9 w9 fr1 hadm hrn F9 H9
    replace F9 : Fr ⟨13, []⟩ a9 [(2, .pointer (some ⟨Bs, 0, none⟩)), (5, .int .u64 (x))] := F9
    replace H9 : St w0 w9 ([HP.blk Bs [v] 33, HP.own 24 1 v (xs.length) (rows (inC .u64) xs)] ++ fr1) := H9
    have hb := hbnd xs1 x hadm
    have hxl : xs = xs1 := by have := rn_app hrn; simpa using this
    replace hxl : xs1.length = xs.length := by rw [hxl]
    refine wpIn_block ?_
    refine ri_lit ?_
    refine s_val wkI F9 rfl rfl rfl rfl (y_load1 F9 plSU64 rfl rfl (((H9.blk 0 rfl).cell _).trans rfl)) ?_; intro a10 F10; clear F9
    refine s_val wkI F10 rfl rfl rfl rfl (y_move F10 rfl rfl) ?_; intro a11 F11; clear F10
    refine s_buildC wkI F11 rfl rfl rfl elemU64 z1U64 rfl rfl rfl rfl (by simp [Value.cells]) (by decide) H9 ?_; intro b12 w12 a12 H12 F12; clear F11
    refine s_append wkI F12 rfl rfl rfl rfl H12 2 rfl rfl elemU64 rfl (.inr (.inr ⟨_, _, _, rfl, Nat.le_refl _, (H12.blk 0 rfl).row⟩)) (by rw [Nat.one_mul]; exact rfl) ((inC_flat .u64) _) (by unfold maxLen; first | omega | (simp; omega)) (by first | omega | (simp; omega)) ?_; intro s13 w13 a13 h13 F13; clear F12
    have H13 : St w0 w13 ([HP.blk b12 ([.int .u64 (x)]) 24, HP.blk Bs [v] 33, HP.own 24 1 s13 ((xs ++ [x]).length) (rows (inC .u64) (xs ++ [x]))] ++ fr1) := by rw [rows_snoc, List.length_append]; exact h13
    clear h13
    obtain ⟨p16, cap16, rfl, hcap16, hp16⟩ := H13.ownForm 2 rfl
    refine s_store1 wkI F13 rfl rfl z1SU64 rfl rfl rfl rfl rfl H13 1 rfl (by simp) ?_; intro w15 h15
    have H15 : St w0 w15 ([HP.blk b12 ([.int .u64 (x)]) 24, HP.blk Bs [.slice p16 ((xs ++ [x]).length) cap16] 33, HP.own 24 1 (.slice p16 ((xs ++ [x]).length) cap16) ((xs ++ [x]).length) (rows (inC .u64) (xs ++ [x]))] ++ fr1) := h15
    refine wpListIn_nil ?_
    refine c_blkN ?_
    exact ⟨(xs ++ [x], (.slice p16 ((xs ++ [x]).length) cap16)), rfl, St.pickT (A := [HP.blk b12 ([.int .u64 (x)]) 24, HP.blk Bs [.slice p16 ((xs ++ [x]).length) cap16] 33, HP.own 24 1 (.slice p16 ((xs ++ [x]).length) cap16) ((xs ++ [x]).length) (rows (inC .u64) (xs ++ [x]))]) (B := [HP.blk Bs [.slice p16 ((xs ++ [x]).length) cap16] 33, HP.own 24 1 (.slice p16 ((xs ++ [x]).length) cap16) ((xs ++ [x]).length) (rows (inC .u64) (xs ++ [x]))]) [1, 2] H15 (by decide) rfl⟩
  · skip
    rintro D xs1 ⟨xs, v⟩ a17 w17 hS1 hrn F17 H17
    replace H17 : St w0 w17 ([HP.obj D (.deferred (some [])), HP.blk Bs [v] 33, HP.own 24 1 v (xs.length) (rows (inC .u64) xs)] ++ (own ++ ls)) := H17
    obtain rfl : xs = xs1 := by have := rn_app hrn; simpa using this
    refine c_blkN ?_
    refine c_then ?_
    refine wpIn_seq ?_
    refine ri_lit ?_
    refine s_val wkI F17 rfl rfl rfl rfl (y_load1 F17 plSU64 rfl rfl (((H17.blk 1 rfl).cell _).trans rfl)) ?_; intro a18 F18; clear F17
    refine s_val wkI F18 rfl rfl rfl rfl (y_assign F18 rfl rfl) ?_; intro a19 F19; clear F18
    refine wpListIn_nil ?_
    refine c_then ?_
    refine wpIn_ret ?_
    refine xm_ret1 F19 H17 0 rfl rfl rfl ?_; intro w20 h20
    have H20 : St w0 w20 ([HP.obj D (.deferred none), HP.blk Bs [v] 33, HP.own 24 1 v (xs.length) (rows (inC .u64) xs)] ++ (own ++ ls)) := h20
    exact ⟨_, rfl, xs, hS1, St.pickT (A := [HP.obj D (.deferred none), HP.blk Bs [v] 33, HP.own 24 1 v (xs.length) (rows (inC .u64) xs)]) (B := [HP.own 24 1 v (xs.length) (rows (inC .u64) xs)]) [2] H20 (by decide) rfl⟩
  · skip
    intro _ _ _ _ k; exact k.elim
theorem ent31 : ∀ args w, (callFunc 31 args).run Try.prog w = .ok (.enter 31 args) w := enters Try.func31 (by kernel_rfl) rfl
end Go.Proofs.Ytchcoenpnmgnhaa
