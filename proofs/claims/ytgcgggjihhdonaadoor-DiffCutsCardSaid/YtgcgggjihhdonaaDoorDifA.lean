/- slices -/
import Derived.Test.YtgcgggjihhdonaaDoorMod
import Derived.Test.YtgcgggjihhdonaaDoorProg
set_option linter.unusedSimpArgs false
set_option linter.unusedVariables false
namespace Go.Proofs.YtgcgggjihhdonaaDoor
open Go.RowKit Go.Tri
theorem elem22 : ElemT Tryd.prog 22 32 32 32 (.agg [.int .u8 0, .int .u8 0, .int .u8 0, .int .u8 0, .int .u8 0, .int .u8 0, .int .u8 0, .int .u8 0, .int .u8 0, .int .u8 0, .int .u8 0, .int .u8 0, .int .u8 0, .int .u8 0, .int .u8 0, .int .u8 0, .int .u8 0, .int .u8 0, .int .u8 0, .int .u8 0, .int .u8 0, .int .u8 0, .int .u8 0, .int .u8 0, .int .u8 0, .int .u8 0, .int .u8 0, .int .u8 0, .int .u8 0, .int .u8 0, .int .u8 0, .int .u8 0].toArray) := ⟨Tryd.underlying22, by kernel_rfl, by kernel_rfl, by decide⟩
theorem plain22 : Plain Tryd.prog 22 := by unfold Plain; rw [Tryd.underlying22]; rfl
theorem plain3 : Plain Tryd.prog 3 := by unfold Plain; rw [Tryd.underlying3]; rfl
theorem w_mk8 (p : Option Addr) (n c : Nat) (x : Int) {m : Nat} (hx : x = ((m : Nat) : Int)) (hm : 0 < m) (w0 w : World) (l : List HP) (H : St w0 w l) :
  Calls Tryd.prog 8 [.slice p n c, .int .i64 x].toArray w (fun e w' => ∃ v, e = .returned v ∧ ∃ b0 b1, v = .func (.func 15) #[] [.pointer (some ⟨b0, 0, none⟩), .pointer (some ⟨b1, 0, none⟩)].toArray ∧ St w0 w' (HP.blk b1 [.int .i64 ((m : Nat) : Int)] 3 :: HP.blk b0 [.slice p n c] 22 :: l)) := by
 subst hx
 refine x_enter Tryd.func8 rfl rfl rfl ?_
 intro a F
 replace F : Fr ⟨9, []⟩ a [(0, .slice p n c), (1, .int .i64 ((m : Nat) : Int))] := F
 refine wp_seq ?_
 refine r_lit ?_
 refine s_box1 wkP F rfl rfl rfl rfl rfl rfl H ?_; clear F H; intro b0 w a H F
 refine s_box1 wkP F rfl rfl rfl rfl rfl rfl H ?_; clear F H; intro b1 w a H F
 refine s_val wkP F rfl rfl rfl rfl (y_assign F rfl rfl) ?_; clear F; intro a F
 refine wpList_nil ?_
 refine c_then ?_
 refine wp_seq ?_
 refine wp_seq ?_
 refine r_lit ?_
 refine s_val wkP F rfl rfl rfl rfl (y_load1 F plain3 rfl rfl ((H.blk 0 rfl).cell _)) ?_; clear F; intro a F
 refine s_val wkP F rfl rfl rfl rfl (y_lss F rfl rfl rfl) ?_; clear F; intro a F
 refine wpList_nil ?_
 refine c_then ?_
 refine x_condP F rfl (fun hc => absurd hc (by omega)) (fun hc => ?_)
 refine wp_skip ?_
 refine c_then ?_
 refine wp_seq ?_
 refine r_lit ?_
 refine s_val wkP F rfl rfl rfl rfl (y_makeFunc F rfl rfl) ?_; clear F; intro a F
 refine s_val wkP F rfl rfl rfl rfl (y_assign F rfl rfl) ?_; clear F; intro a F
 refine wpList_nil ?_
 refine c_then ?_
 refine wp_ret ?_
 refine x_ret1 F rfl rfl ?_
 exact ⟨_, rfl, b0, b1, rfl, H⟩
set_option maxHeartbeats 2000000 in
theorem seq15 (b0 b1 : Nat) (p : Option Addr) (c : Nat) (xs : List (List UInt8)) (n : Nat) (hn : 0 < n) (hm : n ≤ 9223372036854775807) (hmx : xs.length ≤ 1152921504606846976) :
    SeqC Tryd.prog 15 [.pointer (some ⟨b0, 0, none⟩), .pointer (some ⟨b1, 0, none⟩)] (fun z : Nat × List (List UInt8) => [.slice (shp p (z.1 + z.2.length) z.1 32) z.2.length z.2.length]) [HP.blk b1 [.int .i64 ((n : Nat) : Int)] 3, HP.blk b0 [.slice p xs.length c] 22, HP.sl (rBytesN 32) p c xs] (fun pre x => ∃ post, chunkZ n xs = pre ++ x :: post) (fun pre => pre = chunkZ n xs) := by
 intro L w0 G E J KK next stop g0 hY W fr H
 refine xii_enter Tryd.func15 rfl rfl rfl ?_
 intro a F
 replace F : Fr ⟨31, []⟩ a [(0, .func (.yield L) #[] #[]), (1, .pointer (some ⟨b0, 0, none⟩)), (2, .pointer (some ⟨b1, 0, none⟩))] := F
 have H : St w0 W ([HP.blk b1 [.int .i64 ((n : Nat) : Int)] 3, HP.blk b0 [.slice p xs.length c] 22, HP.sl (rBytesN 32) p c xs] ++ (J g0 ++ fr)) := H.perm perm_mid
 have hcap := H.slCap 2 rfl
 refine wpIn_seq ?_
 refine ri_lit ?_
 refine s_val wkI F rfl rfl rfl rfl (y_assign F rfl rfl) ?_; clear F; intro a F
 refine wpListIn_nil ?_
 refine c_then ?_
 refine wpIn_block ?_
 refine xi_loop (fun (q : G × Nat × Int) aa ww => (q.2.2 = ((q.2.1 * n : Nat) : Int)) ∧ Rn next g0 ((chunkZ n xs).take q.2.1) q.1 ∧ Fr ⟨31, []⟩ aa [(0, .func (.yield L) #[] #[]), (1, .pointer (some ⟨b0, 0, none⟩)), (2, .pointer (some ⟨b1, 0, none⟩)), (4, .int .i64 q.2.2)] ∧ St w0 ww ([HP.blk b1 [.int .i64 ((n : Nat) : Int)] 3, HP.blk b0 [.slice p xs.length c] 22, HP.sl (rBytesN 32) p c xs] ++ (J q.1 ++ fr))) (fun q => xs.length - q.2.1) (g0, 0, 0) ⟨by simp, by show Rn next g0 ((chunkZ n xs).take 0) g0; rw [List.take_zero]; rfl, F.cut _ ⟨rfl, rfl, rfl, rfl, trivial⟩, H⟩ ?_
 clear F H
 rintro ⟨g, k, i⟩ a w ⟨hi, hrn, F, H⟩
 simp only at hi hrn F H
 refine wpIn_seq ?_
 refine wpIn_seq ?_
 refine ri_lit ?_
 refine s_val wkI F rfl rfl rfl rfl (y_move F rfl rfl) ?_; clear F; intro a F
 refine s_val wkI F rfl rfl rfl rfl (y_load1 F plain22 rfl rfl ((H.blk 1 rfl).cell _)) ?_; clear F; intro a F
 refine s_val wkI F rfl rfl rfl rfl (y_lenS F rfl Tryd.underlying22 rfl) ?_; clear F; intro a F
 refine s_val wkI F rfl rfl rfl rfl (y_lss F rfl rfl rfl) ?_; clear F; intro a F
 refine wpListIn_nil ?_
 refine c_then ?_
 refine xi_condP F rfl (fun hc => ?_) (fun hc => ?_)
 · refine wpIn_skip ?_
   refine c_then ?_
   have hkl : k * n < xs.length := by omega
   have hat := chunkZ_at hn hkl
   obtain ⟨y, hy⟩ : ∃ y, y = (xs.drop (k * n)).take n := ⟨_, rfl⟩
   rw [← hy] at hat
   have hmem : (k * n, y) ∈ chunkZ n xs := List.mem_of_getElem? hat
   have hyl : y.length = min n (xs.length - k * n) := by rw [hy]; simp
   have hsl := chunk_slc hkl hy
   have hsl1 : slcO xs ((k * n : Nat) : Int) ((xs.length : Nat) : Int) = some (xs.drop (k * n)) := by unfold slcO; rw [if_pos (by omega), Int.toNat_natCast, Int.toNat_natCast, List.take_length]
   have hkn : 0 < k → n ≤ k * n := fun h => Nat.le_mul_of_pos_left n h
   have hs2 : (k + 1) * n = k * n + n := Nat.succ_mul k n
   have hle : (k + 1) * n ≤ 9223372036854775807 := by
     rcases Nat.eq_zero_or_pos k with h0 | h0
     · subst h0; omega
     · have := hkn h0; omega
   have hw1 : IntKind.i64.wrap (((k * n : Nat) : Int) + ((y.length : Nat) : Int)) = ((k * n + y.length : Nat) : Int) := wrap_i64 (by omega) (by omega) (by omega)
   have hw2 : IntKind.i64.wrap (((k * n : Nat) : Int) + ((n : Nat) : Int)) = (((k + 1) * n : Nat) : Int) := wrap_i64 (by omega) (by omega) (by omega)
   subst hi
   refine wpIn_seq ?_
   refine wpIn_block ?_
   refine wpIn_seq ?_
   refine qri H (by kernel_rfl) (by kernel_rfl) ?_
   refine q_val F rfl rfl rfl (fun u hu => y_load1 F plain3 rfl rfl ((hu.blk 0 rfl).cell _)) ?_; clear F; intro a F
   refine q_val F rfl rfl rfl (fun u hu => y_load1 F plain22 rfl rfl ((hu.blk 1 rfl).cell _)) ?_; clear F; intro a F
   refine q_val F rfl rfl rfl (fun u hu => y_move F rfl rfl) ?_; clear F; intro a F
   refine q_val F rfl rfl rfl (fun u hu => y_slL F elem22 rfl rfl rfl hsl1 hcap) ?_; clear F; intro a F
   refine q_val F rfl rfl rfl (fun u hu => y_lenS F rfl Tryd.underlying22 rfl) ?_; clear F; intro a F
   refine q_val F rfl rfl rfl (fun u hu => y_min F rfl rfl rfl (r := ((y.length : Nat) : Int)) (by rw [List.length_drop, hyl]; omega)) ?_; clear F; intro a F
   refine q_val F rfl rfl rfl (fun u hu => y_assign F rfl rfl) ?_; clear F; intro a F
   refine q_nil ?_
   clear H; intro w H
   refine c_then ?_
   refine wpIn_seq ?_
   refine ri_lit ?_
   refine s_val wkI F rfl rfl rfl rfl (y_move F rfl rfl) ?_; clear F; intro a F
   refine s_val wkI F rfl rfl rfl rfl (y_load1 F plain22 rfl rfl ((H.blk 1 rfl).cell _)) ?_; clear F; intro a F
   refine s_val wkI F rfl rfl rfl rfl (y_move F rfl rfl) ?_; clear F; intro a F
   refine s_val wkI F rfl rfl rfl rfl (y_move F rfl rfl) ?_; clear F; intro a F
   refine s_val wkI F rfl rfl rfl rfl (y_move F rfl rfl) ?_; clear F; intro a F
   refine s_val wkI F rfl rfl rfl rfl (y_add F rfl rfl rfl hw1) ?_; clear F; intro a F
   refine s_val wkI F rfl rfl rfl rfl (y_move F rfl rfl) ?_; clear F; intro a F
   refine s_val wkI F rfl rfl rfl rfl (y_move F rfl rfl) ?_; clear F; intro a F
   refine s_val wkI F rfl rfl rfl rfl (y_add F rfl rfl rfl hw1) ?_; clear F; intro a F
   refine s_val wkI F rfl rfl rfl rfl (y_slLHM F elem22 rfl rfl rfl rfl rfl hsl hcap) ?_; clear F; intro a F
   rw [Int.toNat_natCast, Int.toNat_natCast, Nat.add_sub_cancel_left] at F
   have hadm : ∃ post, chunkZ n xs = (chunkZ n xs).take k ++ (k * n, y) :: post := by
     refine ⟨(chunkZ n xs).drop (k + 1), ?_⟩
     obtain ⟨h2, h3⟩ := List.getElem?_eq_some_iff.1 hat
     rw [← h3, ← List.drop_eq_getElem_cons h2, List.take_append_drop]
   refine si_yield F rfl rfl rfl rfl rfl rfl (R := fun bo W' => (bo = true ∧ ∃ g', next g (k * n, y) g' ∧ St w0 W' (J g' ++ ([HP.blk b1 [.int .i64 ((n : Nat) : Int)] 3, HP.blk b0 [.slice p xs.length c] 22, HP.sl (rBytesN 32) p c xs] ++ fr))) ∨ (bo = false ∧ ∃ kk, stop g (k * n, y) kk ∧ St w0 W' (KK kk ++ ([HP.blk b1 [.int .i64 ((n : Nat) : Int)] 3, HP.blk b0 [.slice p xs.length c] 22, HP.sl (rBytesN 32) p c xs] ++ fr)))) (YieldI.mono (hY _ g (k * n, y) _ ([HP.blk b1 [.int .i64 ((n : Nat) : Int)] 3, HP.blk b0 [.slice p xs.length c] 22, HP.sl (rBytesN 32) p c xs] ++ fr) hadm hrn (H.perm (perm_mid (A := [HP.blk b1 [.int .i64 ((n : Nat) : Int)] 3, HP.blk b0 [.slice p xs.length c] 22, HP.sl (rBytesN 32) p c xs])))) ?_) ?_
   · rintro ee W' (⟨g', rfl, hn, H'⟩ | ⟨kk, rfl, hs, H'⟩)
     · exact ⟨true, rfl, .inl ⟨rfl, g', hn, H'⟩⟩
     · exact ⟨false, rfl, .inr ⟨rfl, kk, hs, H'⟩⟩
   intro bo w a hR F
   refine s_val wkI F rfl rfl rfl rfl (y_not F rfl rfl) ?_; clear F; intro a F
   refine wpListIn_nil ?_
   refine c_then ?_
   rcases hR with ⟨rfl, g', hn2, H⟩ | ⟨rfl, kk, hst, H⟩
   · refine xi_condF F rfl ?_
     refine wpIn_skip ?_
     refine c_blkN ?_
     refine c_then ?_
     replace H : St w0 w ([HP.blk b1 [.int .i64 ((n : Nat) : Int)] 3, HP.blk b0 [.slice p xs.length c] 22, HP.sl (rBytesN 32) p c xs] ++ (J g' ++ fr)) := H.perm (perm_mid (A := J g'))
     refine ri_lit ?_
     refine s_val wkI F rfl rfl rfl rfl (y_move F rfl rfl) ?_; clear F; intro a F
     refine s_val wkI F rfl rfl rfl rfl (y_load1 F plain3 rfl rfl ((H.blk 0 rfl).cell _)) ?_; clear F; intro a F
     refine s_val wkI F rfl rfl rfl rfl (y_add F rfl rfl rfl hw2) ?_; clear F; intro a F
     refine s_val wkI F rfl rfl rfl rfl (y_assign F rfl rfl) ?_; clear F; intro a F
     refine wpListIn_nil ?_
     refine c_then ⟨(g', k + 1, _), ⟨rfl, ?_, F.cut _ ⟨rfl, rfl, rfl, rfl, trivial⟩, H⟩, ?_⟩
     · show Rn next g0 ((chunkZ n xs).take (k + 1)) g'
       rw [List.take_add_one, hat]
       exact Rn.snoc hrn hn2
     · show xs.length - (k + 1) < xs.length - k
       have : k ≤ k * n := Nat.le_mul_of_pos_right k hn
       omega
   · refine xi_condT F rfl ?_
     refine wpIn_ret ?_
     refine c_blkR ?_
     refine c_thenR ?_
     refine c_thenR ?_
     refine c_blkR ?_
     refine xi_ret0 F rfl ?_
     exact ⟨_, rfl, .inr ⟨_, g, (k * n, y), kk, hadm, hrn, hst, H⟩⟩
 · refine wpIn_exit ?_
   refine c_thenX ?_
   refine c_thenX ?_
   refine c_hit ?_
   refine xi_end0 F rfl ?_
   rw [chunkZ_all hn (by omega)] at hrn
   exact ⟨_, rfl, .inl ⟨_, g, rfl, hrn, H.perm (perm_mid (A := [HP.blk b1 [.int .i64 ((n : Nat) : Int)] 3, HP.blk b0 [.slice p xs.length c] 22, HP.sl (rBytesN 32) p c xs]))⟩⟩
set_option maxRecDepth 100000 in
set_option maxHeartbeats 4000000 in
theorem w_m_slices_Clone___api_Hash_api_Hash_ {x0_ : List (List UInt8)} {p1 : Option Addr} {c1 : Nat} {w0 w : World} {l : List HP}  {r : (List (List UInt8))} (hm : m_slices_Clone___api_Hash_api_Hash_ x0_ = some r) (H : St w0 w (HP.sl (rBytesN 32) p1 c1 x0_ :: l)) :
  Calls Tryd.prog 9 [.slice p1 (x0_).length c1].toArray w (fun e w' => ∃ v, e = .returned v ∧ ∃ (p2 : Option Addr) (c2 : Nat), v = .slice p2 (r).length c2 ∧ St w0 w' (HP.sl (rBytesN 32) p2 c2 r :: l)) := by
 unfold m_slices_Clone___api_Hash_api_Hash_ at hm
 refine x_enter Tryd.func9 rfl rfl rfl ?_
 intro a F
 refine sr (bk [0] F H rfl trivial ?_); clear F; intro a F
 refine nl (sq (sr (bk [0] F H rfl trivial ?_))); clear F; intro a F
 obtain _ | ad := p1
 obtain ⟨hx0, hc0⟩ := H.slNone 0 rfl; subst hc0; try subst hx0
 replace H := H.dp 0 rfl
 refine s_val wkP F rfl rfl rfl rfl (y_eqNil F rfl Tryd.underlying22 rfl rfl (by simp)) ?_; clear F; intro a F
 refine nl (cT F rfl ?_)
 refine sr (bk [0] F H rfl trivial ?_); clear F; intro a F
 refine nl (wr (tr ?_))
 replace H := H.slNil (rBytesN 32)
 cases hm
 refine x_ret1 F rfl rfl ?_
 exact ⟨_, rfl, none, 0, rfl, H⟩
 refine s_val wkP F rfl rfl rfl rfl (y_eqSome F rfl Tryd.underlying22 rfl rfl (by simp)) ?_; clear F; intro a F
 refine nl (cF F rfl ?_)
 refine sk (ct (sr (s_build0O (R := (rBytesN 32)) wkP F rfl rfl rfl elem22 rfl H ?_))); clear F H; intro b3 w a H F
 refine bk [0] F H rfl trivial ?_; clear F; intro a F
 obtain ⟨x5, ex5, hm⟩ := ob hm
 refine s_app wkP F rfl rfl rfl rfl rfl rfl elem22 rfl ex5 H 0 1 rfl rfl ?_; clear F H; intro p4 c4 w a H F
 refine bk [0] F H rfl trivial ?_; clear F; intro a F
 replace H := H.nf 2 rfl
 refine nl (wr ?_)
 replace H := H.frz 0 rfl
 cases hm
 refine x_ret1 F rfl rfl ?_
 exact ⟨_, rfl, p4, c4, rfl, (H.pm 2 [0] rfl:)⟩
theorem agg32 : AggT Tryd.prog 32 32 (List.replicate 32 (.int .u8 0)) := ⟨by rw [Tryd.underlying32]; rfl, by kernel_rfl, by kernel_rfl⟩
theorem key32 : KeyA Tryd.prog 32 32 := KeyA.make (by kernel_rfl) (by kernel_rfl) Tryd.underlying32 Tryd.underlying5 (by kernel_rfl) (by kernel_rfl) (by kernel_rfl)
set_option maxRecDepth 100000 in
set_option maxHeartbeats 4000000 in
theorem w_m_triremeref05_Same {x0_ : List (List UInt8)} {x1_ : List (List UInt8)} {p1 : Option Addr} {c1 : Nat} {p2 : Option Addr} {c2 : Nat} {w0 w : World} {l : List HP}  {r : Bool} (hm : m_triremeref05_Same x0_ x1_ = some r) (H : St w0 w (HP.sl (rBytesN 32) p1 c1 x0_ :: HP.sl (rBytesN 32) p2 c2 x1_ :: l)) :
  Calls Tryd.prog 6 [.slice p1 (x0_).length c1, .slice p2 (x1_).length c2].toArray w (fun e w' => ∃ v, e = .returned v ∧ v = .bool (r) ∧ St w0 w' (l)) := by
 unfold m_triremeref05_Same at hm
 refine x_enter Tryd.func6 rfl rfl rfl ?_
 intro a F
 refine sr (bk [0] F H rfl trivial ?_); clear F; intro a F
 refine nl (sq (sr (bk (List.replicate 5 0) F H rfl ⟨⟨_, Tryd.underlying22⟩, ⟨_, Tryd.underlying22⟩, trivial⟩ ?_))); clear F; intro a F
 refine nl (cN F rfl (fun hg3 => ?_) (fun hg3 => ?_))
 replace hm := ifF hg3 hm
 refine sr (bk [0] F H rfl trivial ?_); clear F; intro a F
 refine nl (wr (tr ?_))
 cases hm
 refine x_ret1 F rfl rfl ?_
 exact ⟨_, rfl, rfl, (H.pm 2 [] rfl:)⟩
 replace hm := ifT hg3 hm
 refine sk (ct (sq (sr (bk [0] F H rfl trivial ?_)))); clear F; intro a F
 refine nl ?_
 obtain ⟨o35, eo35, hm35⟩ := ob hm; clear hm; revert eo35; intro hm
 refine x_mid (fun aa ww => ∃ r35, o35 = Sum.inl r35 ∧ Fr ⟨26, []⟩ aa [] ∧ St w0 ww (l)) ?_ ?_
 refine bl (x_loopO _ (fun (s56 : Int) aa ww => Fr ⟨26, []⟩ aa [(0, .slice p1 (x0_).length c1), (1, .slice p2 (x1_).length c2), (5, .int .i64 (s56))] ∧ St w0 ww (HP.sl (rBytesN 32) p1 c1 x0_ :: HP.sl (rBytesN 32) p2 c2 x1_ :: l)) hm ⟨F.sl rfl, H⟩ ?_)
 clear F H hm
 rintro s56 a w o ⟨F, H⟩ hm
 refine sq (sr (bk [0, 0, 0, 0] F H rfl ⟨⟨_, Tryd.underlying22⟩, trivial⟩ ?_)); clear F; intro a F
 refine nl (cP F rfl (fun hg57 => ?_) (fun hg57 => ?_))
 replace hm := ifT hg57 hm
 refine sk (ct (sq (bl (sq ?_))))
 obtain ⟨x58, ex58, hm⟩ := ob hm
 obtain ⟨b59, o59, hp59⟩ := H.slP 0 rfl (idxO_some ex58).2
 obtain ⟨cs60, hcl60, H⟩ := H.slEl 0 rfl hp59 (idxO_some ex58).2
 obtain ⟨rfl, hl61⟩ := H.rcBN 1 rfl
 replace H := H.dp 1 rfl
 clear hcl60
 obtain ⟨x62, ex62, hm⟩ := ob hm
 obtain ⟨b63, o63, hp63⟩ := H.slP 2 rfl (idxO_some ex62).2
 obtain ⟨cs64, hcl64, H⟩ := H.slEl 2 rfl hp63 (idxO_some ex62).2
 obtain ⟨rfl, hl65⟩ := H.rcBN 1 rfl
 replace H := H.dp 1 rfl
 clear hcl64
 refine qr H (by kernel_rfl) (by kernel_rfl) ?_
 refine qbk [0, 0] F rfl trivial ?_; clear F; intro a F
 refine q_val F rfl rfl rfl (fun u hu => y_idxS F elem22 rfl rfl rfl hp59 ex58) ?_; clear F; intro a F
 refine qbk [1999, 0, 0] F rfl ⟨rfl, (aggn agg32 ((bcells_length _).trans hl61)), trivial⟩ ?_; clear F; intro a F
 refine q_val F rfl rfl rfl (fun u hu => y_idxS F elem22 rfl rfl rfl hp63 ex62) ?_; clear F; intro a F
 refine qbk [999] F rfl ⟨rfl, (aggn agg32 ((bcells_length _).trans hl65)), trivial⟩ ?_; clear F; intro a F
 refine q_val F rfl rfl rfl (fun u hu => y_neqA F key32 rfl rfl rfl hl61 hl65) ?_; clear F; intro a F
 refine q_nil ?_; clear H; intro w H
 refine ct (cN F rfl (fun hg66 => ?_) (fun hg66 => ?_))
 replace hm := ifF hg66 hm
 refine sr (bk [0] F H rfl trivial ?_); clear F; intro a F
 refine nl (wr (br (tr (tr ?_)))); cases hm; refine ⟨_, rfl, ?_⟩; rintro rfl
 refine br (tr ?_)
 replace hm := elimR hm35
 refine tr ?_
 cases hm
 refine x_ret1 F rfl rfl ?_
 exact ⟨_, rfl, rfl, (H.pm 4 [] rfl:)⟩
 replace hm := ifT hg66 hm
 refine sk (bn (ct (rl (bk [0, 0, 0] F H rfl trivial ?_)))); clear F; intro a F
 refine lz (ct ?_); cases hm
 exact ⟨_, rfl, ⟨F.sl rfl, (H.pm 4 [2, 3] rfl:)⟩⟩
 replace hm := ifF hg57 hm
 refine ex (cx (cx ?_)); cases hm; refine ⟨_, rfl, ?_⟩; rintro rfl
 refine ch (ct ?_)
 exact ⟨_, rfl, F.cut _ trivial, (H.pm 2 [] rfl:)⟩
 clear F H hm
 rintro a w ⟨r35, rfl, F, H⟩; have hm := elimL hm35; clear hm35
 refine ct (sr (bk [0] F H rfl trivial ?_)); clear F; intro a F
 refine nl (wr ?_)
 cases hm
 refine x_ret1 F rfl rfl ?_
 exact ⟨_, rfl, rfl, H⟩
end Go.Proofs.YtgcgggjihhdonaaDoor
