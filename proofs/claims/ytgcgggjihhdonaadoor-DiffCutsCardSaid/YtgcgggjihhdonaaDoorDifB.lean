/- cut -/
import Derived.Test.YtgcgggjihhdonaaDoorDifA
set_option linter.unusedSimpArgs false
set_option linter.unusedVariables false
namespace Go.Proofs.YtgcgggjihhdonaaDoor
open Go.RowKit Go.Tri
theorem zero24 : Zero1 Tryd.prog 24 (.slice none 0 0) := ⟨by kernel_rfl, rfl⟩
theorem ent8 : ∀ args w, (callFunc 8 args).run Tryd.prog w = .ok (.enter 8 args) w := enters Tryd.func8 (by kernel_rfl) rfl
theorem plain24 : Plain Tryd.prog 24 := by unfold Plain; rw [Tryd.underlying24]; rfl
theorem ent9 : ∀ args w, (callFunc 9 args).run Tryd.prog w = .ok (.enter 9 args) w := enters Tryd.func9 (by kernel_rfl) rfl
theorem elem24 : ElemT Tryd.prog 24 22 1 24 (.slice none 0 0) := ⟨Tryd.underlying24, by kernel_rfl, by kernel_rfl, by decide⟩
theorem zero22 : Zero1 Tryd.prog 22 (.slice none 0 0) := ⟨by kernel_rfl, rfl⟩
theorem ent15 : ∀ args w, (callFunc 15 args).run Tryd.prog w = .ok (.enter 15 args) w := enters Tryd.func15 (by kernel_rfl) rfl
set_option maxRecDepth 100000 in
set_option maxHeartbeats 4000000 in
theorem w_m_diff_Cut {x0_ : List (List UInt8)} {x1_ : Int} {p1 : Option Addr} {c1 : Nat} {w0 w : World} {l : List HP}  {r : (List (List (List UInt8)))} (hm : m_diff_Cut x0_ x1_ = some r) (H : St w0 w (HP.sl (rBytesN 32) p1 c1 x0_ :: l)) :
  Calls Tryd.prog 5 [.slice p1 (x0_).length c1, .int .i64 (x1_)].toArray w (fun e w' => ∃ v, e = .returned v ∧ ∃ (p2 : Option Addr) (c2 : Nat), v = .slice p2 (r).length c2 ∧ St w0 w' (HP.sl (rSl (rBytesN 32)) p2 c2 r :: l)) := by
 unfold m_diff_Cut at hm
 refine xk_enter Tryd.func5 rfl rfl rfl ?_
 intro a F
 replace H := H.mks0
 refine sr ?_
 replace H := H.owNil (rSl (rBytesN 32)) 22
 refine s_alloc1 wkP F rfl rfl rfl zero24 rfl H ?_; clear F H; intro b3 w a H F
 replace H := H.nf 4 rfl
 refine nl (sq (sr (bk [0, 0] F H rfl trivial ?_))); clear F; intro a F
 refine nl ?_
 obtain ⟨r5, er5, hm5⟩ := ob hm; clear hm; revert er5; intro hm
 refine x_mid (fun aa ww => ∃ (Ds6 : List Nat), Fr ⟨21, marks Ds6⟩ aa [(0, .slice p1 (x0_).length c1), (1, .int .i64 (r5)), (4, .pointer (some ⟨b3, 0, none⟩))] ∧ St w0 ww (HP.blk b3 ([.slice none (([] : List (List (List UInt8)))).length 0]) 24 :: HP.ow (rSl (rBytesN 32)) 22 none 0 ([] : List (List (List UInt8))) :: HP.mks Ds6 :: HP.sl (rBytesN 32) p1 c1 x0_ :: l)) ?_ ?_
 refine cP F rfl (fun hg7 => ?_) (fun hg7 => ?_)
 replace hm := ifT hg7 hm
 refine rl (bk [0, 0] F H rfl ⟨⟨_, Tryd.underlying22⟩, trivial⟩ ?_); clear F; intro a F
 refine s_val wkP F rfl rfl rfl rfl (y_max F rfl rfl rfl rfl) ?_; clear F; intro a F
 refine bk [0] F H rfl trivial ?_; clear F; intro a F
 refine lz ?_
 cases hm
 refine ct ?_
 exact ⟨[], F.sl rfl, H⟩
 replace hm := ifF hg7 hm
 refine sk ?_
 cases hm
 refine ct ?_
 exact ⟨[], F.sl rfl, H⟩
 clear F H hm
 rintro a w ⟨Ds6, F, H⟩; have hm := hm5; clear hm5
 refine ct (sq (sr (bk [0, 0] F H rfl trivial ?_))); clear F; intro a F
 obtain ⟨x9, ex9, hm⟩ := ob hm
 refine s_call wkP F rfl rfl rfl rfl (y_call F rfl rfl ent8) (w_mk8 p1 _ c1 r5 (chunkN_some ex9).1 (chunkN_some ex9).2.1 w0 _ _ H) ?_; clear F H; rintro _ w a ⟨b10, b11, rfl, H⟩ F
 replace H := H.nf 6 rfl
 refine nl (bl ?_)
 obtain ⟨_, hn12, hm12, hq12⟩ := chunkN_some ex9
 replace H := (H.pm 6 [5, 0, 1, 2, 3, 4, 5] rfl:)
 replace H : St w0 w (HP.sl (rBytesN 32) p1 c1 x0_ :: HP.blk b11 ([.int .i64 (((x9 : Nat) : Int))]) 3 :: HP.blk b10 ([.slice p1 (x0_).length c1]) 22 :: HP.blk b3 ([.slice none (([] : List (List (List UInt8)))).length 0]) 24 :: HP.ow (rSl (rBytesN 32)) 22 none 0 ([] : List (List (List UInt8))) :: HP.mks Ds6 :: HP.sl (rBytesN 32) p1 c1 x0_ :: l) := H
 obtain ⟨o25, eo25, hm25⟩ := ob hm; clear hm
 refine x_range (gf := 15) (lb := [.pointer (some ⟨b10, 0, none⟩), .pointer (some ⟨b11, 0, none⟩)]) (ps := [14]) (zs := (chunkZ x9 x0_)) (enc := (fun z : Nat × List (List UInt8) => [.slice (shp p1 (z.1 + z.2.length) z.1 32) z.2.length z.2.length])) (l := [(4, .pointer (some ⟨b3, 0, none⟩)), (13, .func (.func 15) #[] [.pointer (some ⟨b10, 0, none⟩), .pointer (some ⟨b11, 0, none⟩)].toArray)]) (own := [HP.blk b11 ([.int .i64 (((x9 : Nat) : Int))]) 3, HP.blk b10 ([.slice p1 (x0_).length c1]) 22, HP.sl (rBytesN 32) p1 c1 x0_]) (fr := l) (fun z => z.2) (F.cut _ ⟨rfl, rfl, trivial⟩) rfl ent15 (seq15 b10 b11 p1 c1 x0_ x9 hn12 hm12 hq12) (fun (s25 : (List (List (List UInt8)))) (i25 : (Option Addr) × Nat) => [HP.blk b3 ([.slice i25.1 (s25).length i25.2]) 24, HP.sl (rBytesN 32) p1 c1 x0_, HP.ow (rSl (rBytesN 32)) 22 i25.1 i25.2 s25]) (fun (_ : Empty) (_ : Unit) => []) (fun _ => Code.skip) _ ([] : List (List (List UInt8))) (none, 0) (eo25) ((H.pm 7 [5, 3, 6, 4, 1, 2, 0, 0, 6] rfl:).keep 7 2) (fun _ => rfl) rfl (fun (s25 : (List (List (List UInt8)))) (i25 : (Option Addr) × Nat) (x25 : Nat × List (List UInt8)) (m25 : Unit) => [(4, .pointer (some ⟨b3, 0, none⟩)), (5, .slice (shp p1 (x25.1 + (x25.2).length) x25.1 32) (x25.2).length ((x25.2).length)), (13, .func (.func 15) #[] [.pointer (some ⟨b10, 0, none⟩), .pointer (some ⟨b11, 0, none⟩)].toArray), (14, .slice (shp p1 (x25.1 + (x25.2).length) x25.1 32) (x25.2).length ((x25.2).length))]) (fun (s25 : (List (List (List UInt8)))) (i25 : (Option Addr) × Nat) (x25 : Nat × List (List UInt8)) (m25 : Unit) => [HP.sl (rBytesN 32) (shp p1 (x25.1 + (x25.2).length) x25.1 32) ((x25.2).length) x25.2, HP.blk b3 ([.slice i25.1 (s25).length i25.2]) 24, HP.sl (rBytesN 32) p1 c1 x0_, HP.ow (rSl (rBytesN 32)) 22 i25.1 i25.2 s25]) ?_ ?_ ?_ ?_
 clear F H
 rintro L s25 ⟨p26, c26⟩ ⟨kx12, yx12⟩ a w l hx F H
 replace F : Fr ⟨21, []⟩ a [(14, .slice (shp p1 (kx12 + (yx12).length) kx12 32) (yx12).length ((yx12).length)), (4, .pointer (some ⟨b3, 0, none⟩)), (13, .func (.func 15) #[] [.pointer (some ⟨b10, 0, none⟩), .pointer (some ⟨b11, 0, none⟩)].toArray)] := F
 replace H : St w0 w (HP.blk b3 ([.slice p26 (s25).length c26]) 24 :: HP.sl (rBytesN 32) p1 c1 x0_ :: HP.ow (rSl (rBytesN 32)) 22 p26 c26 s25 :: l) := H
 replace H := H.chunkEl 32 rfl 1 rfl hn12 hx
 replace H : St w0 w (HP.sl (rBytesN 32) (shp p1 (kx12 + (yx12).length) kx12 32) ((yx12).length) yx12 :: HP.blk b3 ([.slice p26 (s25).length c26]) 24 :: HP.sl (rBytesN 32) p1 c1 x0_ :: HP.ow (rSl (rBytesN 32)) 22 p26 c26 s25 :: l) := H
 refine rli (bki [0] F H rfl trivial ?_); clear F; intro a F
 refine lzi (ct ?_)
 exact ⟨(), F.cut _ ⟨rfl, rfl, rfl, rfl, trivial⟩, H⟩
 clear F H
 rintro L s25 ⟨p26, c26⟩ ⟨kx12, yx12⟩ _ o a w l hx hm F H
 replace F : Fr ⟨21, []⟩ a [(4, .pointer (some ⟨b3, 0, none⟩)), (5, .slice (shp p1 (kx12 + (yx12).length) kx12 32) (yx12).length ((yx12).length)), (13, .func (.func 15) #[] [.pointer (some ⟨b10, 0, none⟩), .pointer (some ⟨b11, 0, none⟩)].toArray), (14, .slice (shp p1 (kx12 + (yx12).length) kx12 32) (yx12).length ((yx12).length))] := F
 replace H : St w0 w (HP.sl (rBytesN 32) (shp p1 (kx12 + (yx12).length) kx12 32) ((yx12).length) yx12 :: HP.blk b3 ([.slice p26 (s25).length c26]) 24 :: HP.sl (rBytesN 32) p1 c1 x0_ :: HP.ow (rSl (rBytesN 32)) 22 p26 c26 s25 :: l) := H
 refine bli (mix_regionI [2, 3, 4, 5] [5] (.step 0 0 (.step 0 1 (.step 2 2 (.step 2 3 (.step 2 4 (.step 3 5 .done)))))) (fun u => ∃ ls, St w0 u (HP.blk b3 ([.slice p26 (s25).length c26]) 24 :: ls)) (by kernel_rfl) (by kernel_rfl) ⟨_, (H.drew.pm 4 [1, 0, 2, 3] rfl:)⟩ ?_)
 replace H := H.drew
 generalize w.drew = w at H ⊢
 refine m_pure F rfl rfl rfl rfl (fun u hu => y_load1 F plain24 rfl rfl ((hu.choose_spec.blk 0 rfl).cell _)) ?_; clear F; intro a F
 refine mbk [0] F H rfl trivial ?_; clear F; intro a F
 refine m_heavy rfl rfl ?_
 obtain ⟨x27, ex27, hm⟩ := ob hm
 refine sc wkP F rfl ent9 (w_m_slices_Clone___api_Hash_api_Hash_ ex27 (H.pm 4 [0, 0, 1, 2, 3] rfl:):) ?_; clear F H; rintro _ w a ⟨p28, c28, rfl, H⟩ F
 refine lz ?_; refine ct ⟨⟨_, (H.pm 5 [2, 0, 1, 3, 4] rfl:)⟩, ?_⟩
 refine m_heavy rfl rfl ?_
 refine s_buildC wkP F rfl rfl rfl elem24 zero22 rfl rfl rfl rfl (by simp [Value.cells]) (by decide) H ?_; clear F H; intro b29 w a H F
 replace H := H.blkOw1 (R := (rSl (rBytesN 32))) (x := x27) (fun gg => ⟨_, _, rfl, (gg 1 _ rfl).choose_spec⟩)
 refine lz ?_; refine ct ⟨⟨_, (H.pm 6 [3, 0, 1, 2, 4, 5] rfl:)⟩, ?_⟩
 refine m_heavy rfl rfl ?_
 replace H := H.frz 0 rfl
 obtain ⟨x31, ex31, hm⟩ := ob hm
 refine s_app wkP F rfl rfl rfl rfl rfl rfl elem24 rfl ex31 H 5 0 rfl rfl ?_; clear F H; intro p30 c30 w a H F
 refine lz ?_; refine ct ⟨⟨_, (H.pm 6 [3, 0, 1, 2, 4, 5] rfl:)⟩, ?_⟩
 refine m_last rfl rfl ?_
 refine s_st1 wkP F rfl rfl zero24 rfl rfl rfl rfl rfl H 3 rfl rfl ?_; clear H; intro w H
 refine lz ?_; refine ct ?_
 refine m_nil ?_
 refine bn ?_
 cases hm; exact rq_n x31 (p30, c30) rfl (H.pm 6 [3, 4, 5] rfl:)
 clear F H
 rintro s25 ⟨p26, c26⟩ Ds32 a w ho F H; subst ho; have hm := elimL hm25; clear hm25 eo25
 replace F : Fr ⟨21, marks Ds32⟩ a [(4, .pointer (some ⟨b3, 0, none⟩)), (13, .func (.func 15) #[] [.pointer (some ⟨b10, 0, none⟩), .pointer (some ⟨b11, 0, none⟩)].toArray)] := F
 replace H : St w0 w (HP.mks Ds32 :: HP.blk b3 ([.slice p26 (s25).length c26]) 24 :: HP.sl (rBytesN 32) p1 c1 x0_ :: HP.ow (rSl (rBytesN 32)) 22 p26 c26 s25 :: HP.blk b11 ([.int .i64 (((x9 : Nat) : Int))]) 3 :: HP.blk b10 ([.slice p1 (x0_).length c1]) 22 :: HP.sl (rBytesN 32) p1 c1 x0_ :: l) := H
 refine bn (ct (sr (bk [1000] F H rfl ⟨rfl, plain24, trivial⟩ ?_))); clear F; intro a F
 refine s_st1 wkP F rfl rfl zero24 rfl rfl rfl rfl rfl H 1 rfl rfl ?_; clear H; intro w H
 replace H := H.nf 7 rfl
 refine nl (wr ?_)
 replace H := H.frz 3 rfl
 cases hm
 refine xk_resC1 F rfl ((H.pm 7 [1, 0, 2, 3, 4, 5, 6] rfl:)) (fun w H => ⟨_, rfl, ld1 plain24 ((H.blk 1 rfl).cell _)⟩) ?_; clear H; intro w H
 exact ⟨_, rfl, p26, c26, rfl, (H.pm 6 [0] rfl:)⟩
 intro r; exact r.elim
end Go.Proofs.YtgcgggjihhdonaaDoor
