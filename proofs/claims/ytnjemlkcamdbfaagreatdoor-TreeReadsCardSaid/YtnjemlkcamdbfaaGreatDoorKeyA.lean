/- keys in order -/
import Derived.Test.YtnjemlkcamdbfaaGreatDoorRefA
import Derived.Test.YtnjemlkcamdbfaaGreatDoorKeyL
set_option linter.unusedSimpArgs false
set_option linter.unusedVariables false
namespace Go.Proofs.YtnjemlkcamdbfaaGreatDoor
open Go.RowKit Go.Tri
set_option maxRecDepth 100000
set_option maxHeartbeats 4000000
theorem plain23 : Plain Tryz.prog 23 := by unfold Plain; rw [Tryz.underlying23]; rfl
theorem w_mk27 (q0 : Option Nat) (w0 w : World) (l : List HP) (H : St w0 w l) :
  Calls Tryz.prog 27 [.map q0].toArray w (fun e w' => ∃ v, e = .returned v ∧ ∃ b0, v = .func (.func 48) #[] [.pointer (some ⟨b0, 0, none⟩)].toArray ∧ St w0 w' (HP.blk b0 ([.map q0]) 23 :: l)) := by
 refine x_enter Tryz.func27 rfl rfl rfl ?_
 intro a F
 replace F : Fr ⟨4, []⟩ a [(0, .map q0)] := F
 refine wp_seq ?_
 refine r_lit ?_
 refine s_box1 wkP F rfl rfl rfl rfl rfl rfl H fun b0 w a H F => ?_
 refine sv F rfl (y_assign F rfl rfl) fun a F => ?_
 refine wpList_nil ?_
 refine c_then ?_
 refine wp_seq ?_
 refine r_lit ?_
 refine sv F rfl (y_makeFunc F rfl rfl) fun a F => ?_
 refine sv F rfl (y_assign F rfl rfl) fun a F => ?_
 refine wpList_nil ?_
 refine c_then ?_
 refine wp_ret ?_
 refine x_ret1 F rfl rfl ?_
 exact ⟨_, rfl, b0, rfl, H⟩
theorem seq48 (bb : Nat) (p : Option Nat) (m : List UInt8 → Option (List UInt8)) :
    SeqC Tryz.prog 48 [.pointer (some ⟨bb, 0, none⟩)] (fun x : List UInt8 => [hv x]) [HP.blk bb [.map p] 23, HP.mm p hv false (rSl rByte) (fun l => l.length = 32) m] (KAdm m) (KAll m) := by
 intro L w0 G E J KK next stop g0 hY W fr H
 refine xii_enter Tryz.func48 rfl rfl rfl ?_
 intro a F
 replace F : Fr ⟨14, []⟩ a [(0, .func (.yield L) #[] #[]), (1, .pointer (some ⟨bb, 0, none⟩))] := F
 have H : St w0 W (HP.blk bb [.map p] 23 :: HP.mm p hv false (rSl rByte) (fun l => l.length = 32) m :: (J g0 ++ fr)) := H.perm perm_mid
 obtain ⟨raw, c, es, hM, hE, H⟩ := H.moOpen 1 rfl
 refine wpIn_seq ?_
 refine ri_lit ?_
 refine s_val wkI F rfl rfl rfl rfl (y_load1 F plain23 rfl rfl ((H.blk 1 rfl).cell _)) fun a F => ?_
 refine s_rngM wkI F rfl rfl rfl Tryz.underlying23 rfl H 2 rfl rfl fun r w a H F => ?_
 refine wpListIn_nil ?_
 refine c_then ?_
 refine wpIn_block ?_
 refine xi_loop (fun (q : G × List Nat) aa ww => VisOk es.length q.2 ∧ Rn next g0 ((pv es q.2).map (·.1)) q.1 ∧ Fr ⟨14, []⟩ aa [(0, .func (.yield L) #[] #[]), (1, .pointer (some ⟨bb, 0, none⟩)), (5, .pointer (some ⟨r, 0, none⟩))] ∧ St w0 ww (HP.obj r (mit p c (bornsOf raw q.2)) :: HP.es (rSl rByte) (fun l => l.length = 32) es m :: HP.blk bb [.map p] 23 :: HP.mo p raw c :: (J q.1 ++ fr))) (fun q => es.length - q.2.length) (g0, []) ⟨VisOk.nil _, rfl, F.cut _ ⟨rfl, rfl, rfl, trivial⟩, H⟩ ?_
 clear F H
 rintro ⟨g, vis⟩ a w ⟨hv1, hrn, F, H⟩
 refine wpIn_seq ?_
 refine ri_lit ?_
 refine s_nxtM wkI F rfl rfl rfl rfl rfl hM hv1 H 3 0 rfl rfl rfl ?_ ?_
 · clear F H; intro hall w a H F
   refine s_val wkI F rfl rfl rfl rfl (y_extract F rfl rfl rfl) fun a F => ?_
   refine wpListIn_nil ?_
   refine c_then ?_
   refine wpIn_seq ?_
   refine xi_condF F rfl ?_
   refine wpIn_exit ?_
   refine c_thenX ?_
   refine c_thenX ?_
   refine c_hit ?_
   refine xi_end0 F rfl ?_
   replace H := H.moMm 3 1 hM rfl rfl
   replace H : St w0 w ([HP.blk bb [.map p] 23, HP.mm p hv false (rSl rByte) (fun l => l.length = 32) m] ++ (J g ++ fr)) := H.tail.tail
   exact ⟨_, rfl, .inl ⟨_, g, ⟨_, hE.ofPerm (pv_perm es (visAll hv1 hall)), rfl⟩, hrn, H.perm perm_mid⟩⟩
 · clear F H; intro q k cs v hq hn w a H F
   replace H : St w0 w (HP.obj r (mit p c (bornsOf raw (vis ++ [q]))) :: HP.es (rSl rByte) (fun l => l.length = 32) es m :: HP.blk bb [.map p] 23 :: HP.mo p raw c :: (J g ++ fr)) := H
   obtain ⟨hk, _⟩ := H.esEl 1 rfl hq
   have hv2 := hv1.snoc (List.getElem?_eq_some_iff.1 hq).1 hn
   have hsn := pv_snoc (vis := vis) hq
   have hadm : KAdm m ((pv es vis).map (·.1)) k := by
     obtain ⟨rr, hr⟩ := sub_range hv2
     exact ⟨hk, _, _, hE.ofPerm (pv_perm es hr), pv_app hsn rr⟩
   refine s_val wkI F rfl rfl rfl rfl (y_extract F rfl rfl rfl) fun a F => ?_
   refine wpListIn_nil ?_
   refine c_then ?_
   refine wpIn_seq ?_
   refine xi_condT F rfl ?_
   refine wpIn_skip ?_
   refine c_then ?_
   refine wpIn_block ?_
   refine wpIn_seq ?_
   refine ri_lit ?_
   refine s_val wkI F rfl rfl rfl rfl (y_entM F rfl rfl hM hq H 3 0 rfl rfl rfl) fun a F => ?_
   refine s_val wkI F rfl rfl rfl rfl (y_extract F rfl rfl rfl) fun a F => ?_
   refine s_allocA wkI F rfl rfl rfl agz25 rfl H fun b3 w a H F => ?_
   refine s_storeA wkI F rfl rfl agg25 rfl rfl rfl H 0 rfl ((bcells_length _).trans hk) ((bcells_length _).trans (List.length_replicate (n := 32))) (bcells_flat _) fun w H => ?_
   refine wpListIn_nil ?_
   refine c_then ?_
   refine wpIn_seq ?_
   refine ri_lit ?_
   refine s_val wkI F rfl rfl rfl rfl (y_move F rfl rfl) fun a F => ?_
   refine s_val wkI F rfl rfl rfl rfl (y_loadA F agg25 rfl rfl ((H.blk 0 rfl).row) ((bcells_length _).trans hk)) fun a F => ?_
   obtain ⟨ow, how⟩ : ∃ ow, ow = [HP.blk b3 (bcells k) 25, HP.obj r (mit p c (bornsOf raw (vis ++ [q]))), HP.es (rSl rByte) (fun l => l.length = 32) es m, HP.blk bb [.map p] 23, HP.mo p raw c] := ⟨_, rfl⟩
   replace H : St w0 w (ow ++ (J g ++ fr)) := by rw [how]; exact H
   refine si_yield F rfl rfl rfl rfl rfl rfl (R := fun bo W' => (bo = true ∧ ∃ g', next g k g' ∧ St w0 W' (J g' ++ (ow ++ fr))) ∨ (bo = false ∧ ∃ kk, stop g k kk ∧ St w0 W' (KK kk ++ (ow ++ fr)))) (YieldI.mono (hY _ g k _ (ow ++ fr) hadm hrn (H.perm perm_mid)) ?_) ?_
   · rintro ee W' (⟨g', rfl, hn, H'⟩ | ⟨k, rfl, hs, H'⟩)
     · exact ⟨true, rfl, .inl ⟨rfl, g', hn, H'⟩⟩
     · exact ⟨false, rfl, .inr ⟨rfl, k, hs, H'⟩⟩
   intro bo w a hR F
   refine s_val wkI F rfl rfl rfl rfl (y_not F rfl rfl) fun a F => ?_
   refine wpListIn_nil ?_
   refine c_then ?_
   rcases hR with ⟨rfl, g', hn2, H⟩ | ⟨rfl, kk, hst, H⟩
   · refine xi_condF F rfl ?_
     refine wpIn_skip ?_
     refine c_blkN ?_
     replace H := H.perm perm_mid
     rw [how] at H
     refine ⟨(g', vis ++ [q]), ⟨hv2, ?_, F.cut _ ⟨rfl, rfl, rfl, trivial⟩, H.tail⟩, ?_⟩
     · show Rn next g0 ((pv es (vis ++ [q])).map (·.1)) g'
       rw [hsn, List.map_append]
       exact hrn.snoc hn2
     · have := vis_le hv2
       simp only [List.length_append, List.length_cons, List.length_nil] at this ⊢
       omega
   · refine xi_condT F rfl ?_
     refine wpIn_ret ?_
     refine c_blkR ?_
     refine c_thenR ?_
     refine c_blkR ?_
     refine xi_ret0 F rfl ?_
     replace H := H.perm perm_mid
     rw [how] at H
     replace H := H.tail
     replace H := H.moMm 3 1 hM rfl rfl
     replace H : St w0 w ([HP.blk bb [.map p] 23, HP.mm p hv false (rSl rByte) (fun l => l.length = 32) m] ++ (KK kk ++ fr)) := H.tail.tail
     exact ⟨_, rfl, .inr ⟨_, g, k, kk, hadm, hrn, hst, H.perm perm_mid⟩⟩
theorem w_appSeq62 {gf : FuncId} {caps : List Value} {own : List HP} {Adm : List (List UInt8) → List UInt8 → Prop} {S : List (List UInt8) → Prop} {w0 w : World} {l : List HP} (hS : SeqC Tryz.prog gf caps (fun x : List UInt8 => [hv x]) own Adm S) (eg : ∀ args w, (callFunc gf args).run Tryz.prog w = .ok (.enter gf args) w) (hA : ∀ pre x, Adm pre x → x.length = 32 ∧ pre.length < 100000000) (H : St w0 w (own ++ l)) :
  Calls Tryz.prog 62 [.slice none 0 0, .func (.func gf) #[] caps.toArray].toArray w (fun e w' => ∃ v, e = .returned v ∧ ∃ p c ks, v = .slice p ks.length c ∧ S ks ∧ St w0 w' (HP.ow (rBytesN 32) 25 p c ks :: (own ++ l))) := by
 refine xk_enter Tryz.func62 rfl rfl rfl ?_
 intro a F
 replace F : Fr ⟨13, marks []⟩ a [(0, .slice none 0 0), (1, .func (.func gf) #[] caps.toArray)] := F
 replace H := H.mks0
 replace H := H.owNil (rBytesN 32) 25
 refine wp_seq (r_lit ?_)
 refine s_box1 wkP F rfl rfl rfl rfl rfl rfl H fun b w a H F => ?_
 refine sv F rfl (y_assign F rfl rfl) fun a F => ?_
 refine wpList_nil (c_then ?_)
 refine wp_seq (wp_seq (r_lit ?_))
 refine sv F rfl (y_move F rfl rfl) fun a F => ?_
 refine wpList_nil (c_then ?_)
 refine wp_block ?_
 replace H : St w0 w (([HP.blk b [.slice none 0 0] 41, HP.ow (rBytesN 32) 25 none 0 []] ++ (HP.mks [] :: (own ++ l)))) := H
 replace F := F.cut [(0, .slice none 0 0), (1, .func (.func gf) #[] caps.toArray), (2, .pointer (some ⟨b, 0, none⟩)), (6, .func (.func gf) #[] caps.toArray)] ⟨rfl, rfl, rfl, rfl, trivial⟩
 refine inF (xi_range (ps := [7]) (G := List (List UInt8) × Option Addr × Nat) (E := Empty) (Mid := Nat) (fr := HP.mks [] :: l) F rfl eg hS (fun g => [HP.blk b [.slice g.2.1 g.1.length g.2.2] 41, HP.ow (rBytesN 32) 25 g.2.1 g.2.2 g.1]) (fun k => k.elim) (fun k => k.elim) (fun g x g' => g'.1 = g.1 ++ [x]) (fun _ _ k => k.elim) ([], none, 0) (H.perm (List.Perm.append_left _ (List.perm_middle (l₁ := own)).symm)) (fun _ => rfl) rfl
  (fun g x b5 => [(5, .pointer (some ⟨b5, 0, none⟩)), (2, .pointer (some ⟨b, 0, none⟩))]) (fun g x b5 => [HP.blk b5 (bcells x) 25, HP.blk b [.slice g.2.1 g.1.length g.2.2] 41, HP.ow (rBytesN 32) 25 g.2.1 g.2.2 g.1]) ?_ ?_ ?_ (fun _ _ _ _ k => k.elim))
 · clear F H
   rintro L pre g x a w fr hx hrn F H
   obtain ⟨hk, _⟩ := hA _ _ hx
   replace F : Fr ⟨13, []⟩ a [(7, hv x), (0, .slice none 0 0), (1, .func (.func gf) #[] caps.toArray), (2, .pointer (some ⟨b, 0, none⟩)), (6, .func (.func gf) #[] caps.toArray)] := F
   refine ri_lit ?_
   refine s_allocA wkI F rfl rfl rfl agz25 rfl H fun b5 w a H F => ?_
   refine s_storeA wkI F rfl rfl agg25 rfl rfl rfl H 0 rfl ((bcells_length _).trans hk) ((bcells_length _).trans (List.length_replicate (n := 32))) (bcells_flat _) fun w H => ?_
   refine wpListIn_nil (c_then ?_)
   exact ⟨b5, F.cut _ ⟨rfl, rfl, trivial⟩, H⟩
 · clear F H
   rintro L pre ⟨ks, p, c⟩ x b5 a w fr hx hrn F H
   obtain ⟨hk, hlt⟩ := hA _ _ hx
   have hks := rn_app hrn
   replace hks : ks = pre := by simpa using hks
   refine wpIn_block (ri_lit ?_)
   refine s_val wkI F rfl rfl rfl rfl (y_load1 F plain41 rfl rfl ((H.blk 1 rfl).cell _)) fun a F => ?_
   refine s_val wkI F rfl rfl rfl rfl (y_loadA F agg25 rfl rfl ((H.blk 0 rfl).row) ((bcells_length _).trans hk)) fun a F => ?_
   refine s_build1 wkI F rfl rfl rfl agg25 elem41 rfl rfl ((bcells_length _).trans hk) (by decide) H fun b10 w a H F => ?_
   replace H := (H.blkOw (R := rBytesN 32) (xs := [x]) 0 rfl (fun gg => ⟨[bcells x], by simp, ⟨rfl, hk⟩, trivial⟩) (by simp)).frz 0 rfl
   have hroom : ks.length + [x].length ≤ 274877906944 := by subst hks; simp only [List.length_cons, List.length_nil]; omega
   have happ : appO ks [x] = some (ks ++ [x]) := by unfold appO; rw [if_pos (Nat.le_trans hroom Cap.le)]
   refine s_app (R := rBytesN 32) wkI F rfl rfl rfl rfl rfl rfl elem41 rfl happ H 3 0 rfl rfl fun p2 c2 w a H F => ?_
   refine s_store1 wkI F rfl rfl zero41 rfl rfl rfl rfl rfl H 2 rfl (by simp) fun w H => ?_
   refine wpListIn_nil ?_
   replace H : St w0 w (HP.sl (rBytesN 32) (some ⟨b10, 0, none⟩) 1 [x] :: HP.blk b5 (bcells x) 25 :: HP.blk b [.slice p2 (ks ++ [x]).length c2] 41 :: HP.ow (rBytesN 32) 25 p2 c2 (ks ++ [x]) :: fr) := H
   refine c_blkN ?_
   exact ⟨(ks ++ [x], p2, c2), rfl, H.tail.tail⟩
 · clear F H
   rintro D pre ⟨ks, p, c⟩ a w hs hrn F H
   have hks := rn_app hrn
   replace hks : ks = pre := by simpa using hks
   subst hks
   replace H := St.mks1 (H.perm (List.Perm.cons _ perm_m))
   refine c_blkN (c_then ?_)
   refine wp_seq (r_lit ?_)
   refine sv F rfl (y_load1 F plain41 rfl rfl ((H.blk 1 rfl).cell _)) fun a F => ?_
   refine sv F rfl (y_assign F rfl rfl) fun a F => ?_
   refine wpList_nil (c_then ?_)
   refine wp_ret ?_
   refine xk_ret1 (v := .slice p ks.length c) F rfl rfl H fun w H => ?_
   exact ⟨_, rfl, p, c, ks, rfl, hs, H.tail⟩
theorem ent62 : En Tryz.prog 62 := enters Tryz.func62 (by kernel_rfl) rfl
theorem w_collect46 {gf : FuncId} {caps : List Value} {own : List HP} {Adm : List (List UInt8) → List UInt8 → Prop} {S : List (List UInt8) → Prop} {w0 w : World} {l : List HP} (hS : SeqC Tryz.prog gf caps (fun x : List UInt8 => [hv x]) own Adm S) (eg : ∀ args w, (callFunc gf args).run Tryz.prog w = .ok (.enter gf args) w) (hA : ∀ pre x, Adm pre x → x.length = 32 ∧ pre.length < 100000000) (H : St w0 w (own ++ l)) :
  Calls Tryz.prog 46 [.func (.func gf) #[] caps.toArray].toArray w (fun e w' => ∃ v, e = .returned v ∧ ∃ p c ks, v = .slice p ks.length c ∧ S ks ∧ St w0 w' (HP.ow (rBytesN 32) 25 p c ks :: (own ++ l))) := by
 refine x_enter Tryz.func46 rfl rfl rfl ?_
 intro a F
 replace F : Fr ⟨5, []⟩ a [(0, .func (.func gf) #[] caps.toArray)] := F
 refine wp_seq (r_lit ?_)
 refine sv F rfl (y_assign F rfl rfl) fun a F => ?_
 refine wpList_nil (c_then ?_)
 refine wp_seq (r_lit ?_)
 refine sv F rfl (y_move F rfl rfl) fun a F => ?_
 refine s_call wkP F rfl rfl rfl rfl (y_call F rfl rfl ent62) (w_appSeq62 hS eg hA H) ?_; rintro _ w a ⟨p, c, ks, rfl, hs, H⟩ F
 refine sv F rfl (y_assign F rfl rfl) fun a F => ?_
 refine wpList_nil (c_then ?_)
 refine wp_ret ?_
 refine x_ret1 F rfl rfl ?_
 exact ⟨_, rfl, p, c, ks, rfl, hs, H⟩
theorem ent28 : En Tryz.prog 28 := enters Tryz.func28 (by kernel_rfl) rfl
theorem w_cmpc28 (x y : H32) (w : World) : Calls Tryz.prog 28 [.agg (encH x).toArray, .agg (encH y).toArray].toArray w (fun e w' => e = .returned (.int .i64 (cmpH x y)) ∧ ∃ q os', w' = Go.Sort.grow (w.drewN q) os') := by
 refine x_enter Tryz.func28 rfl rfl rfl ?_
 intro a F
 replace F : Fr ⟨8, []⟩ a [(0, .agg (bcells x.1).toArray), (1, .agg (bcells y.1).toArray)] := F
 refine wp_seq (r_lit ?_)
 refine sv F rfl (y_boxA F rfl rfl) fun a F => ?_
 refine sv F rfl (y_boxA F rfl rfl) fun a F => ?_
 refine sv F rfl (y_assign F rfl rfl) fun a F => ?_
 refine wpList_nil (c_then ?_)
 obtain ⟨w2, hw2⟩ : ∃ w2, w2 = (w.alloc (.cells (bcells x.1).toArray 25)).alloc (.cells (bcells y.1).toArray 25) := ⟨_, rfl⟩
 have hb1 : Blk w2 w.heap.size (bcells x.1) 25 := by rw [hw2]; exact (Blk.new w _ _).alloc _
 have hb2 : Blk w2 (w.alloc (.cells (bcells x.1).toArray 25)).heap.size (bcells y.1) 25 := by rw [hw2]; exact Blk.new _ _ _
 rw [← hw2]
 generalize w.heap.size = b1 at *
 generalize (w.alloc (.cells (bcells x.1).toArray 25)).heap.size = b2 at *
 refine wp_seq (q_region (C := fun u => ∃ q, u = w2.drewN q) (by kernel_rfl) (by kernel_rfl) ⟨1, rfl⟩ ?_)
 refine qv F rfl (fun u _ => y_slAW F arr25 rfl rfl x.2) fun a F => ?_
 refine qv F rfl (fun u _ => y_slAW F arr25 rfl rfl y.2) fun a F => ?_
 refine q_call F rfl rfl rfl (fun u _ => y_call F rfl rfl ent29) (v := .int .i64 (cmpH x y)) (fun u hu => (w_cmp29 (x := x.1) (y := y.1) (by obtain ⟨q, rfl⟩ := hu; exact blk_sl (n := 32) hb1 x.2) (by obtain ⟨q, rfl⟩ := hu; exact blk_sl (n := 32) hb2 y.2)).mono fun e w' h => ⟨h.1, h.2 ▸ hu⟩) fun a F => ?_
 refine qv F rfl (fun u _ => y_assign F rfl rfl) fun a F => ?_
 refine q_nil ?_
 rintro u ⟨q, rfl⟩
 refine c_then ?_
 refine wp_ret ?_
 refine x_ret1 F rfl rfl ?_
 refine ⟨rfl, q, #[Obj.cells (bcells x.1).toArray 25 (0, 0), Obj.cells (bcells y.1).toArray 25 (0, 0)], ?_⟩
 rw [hw2, Go.Sort.alloc_eq_grow, Go.Sort.alloc_eq_grow, Go.Sort.grow_grow]
 rfl
theorem ent63 : En Tryz.prog 63 := enters Tryz.func63 (by kernel_rfl) rfl
theorem ent64 : En Tryz.prog 64 := enters Tryz.func64 (by kernel_rfl) rfl
theorem ent79 : En Tryz.prog 79 := enters Tryz.func79 (by kernel_rfl) rfl
theorem w_nil79 (f : Value) (w : World) : Calls Tryz.prog 79 [.slice none 0 0, .int .i64 0, .int .i64 0, f].toArray w (fun e w' => e = .returned (.tuple #[]) ∧ w' = w) := by
 refine x_enter Tryz.func79 rfl rfl rfl ?_
 intro a F
 replace F : Fr ⟨53, []⟩ a [(0, .slice none 0 0), (1, .int .i64 0), (2, .int .i64 0), (3, f)] := F
 refine wp_seq (r_lit ?_)
 refine sv F rfl (y_move F rfl rfl) fun a F => ?_
 refine sv F rfl (y_add F rfl rfl rfl (r := 1) rfl) fun a F => ?_
 refine sv F rfl (y_assign F rfl rfl) fun a F => ?_
 refine wpList_nil (c_then ?_)
 refine wp_block ?_
 refine x_loop (fun (_ : Unit) aa ww => Fr ⟨53, []⟩ aa [(0, .slice none 0 0), (1, .int .i64 0), (2, .int .i64 0), (3, f), (8, .int .i64 1)] ∧ ww = w) (fun _ => 0) () ⟨F.cut _ ⟨rfl, rfl, rfl, rfl, rfl, trivial⟩, rfl⟩ ?_
 clear F
 rintro _ a w ⟨F, rfl⟩
 refine wp_seq (wp_seq (r_lit ?_))
 refine sv F rfl (y_move F rfl rfl) fun a F => ?_
 refine sv F rfl (y_move F rfl rfl) fun a F => ?_
 refine sv F rfl (y_lss F rfl rfl rfl) fun a F => ?_
 refine wpList_nil (c_then ?_)
 refine x_condF F rfl ?_
 refine wp_exit ?_
 repeat (first | refine c_thenX ?_)
 refine c_hit ?_
 refine x_end0 F rfl ?_
 exact ⟨rfl, rfl⟩
theorem w_nil63 (f : Value) (lim : Int) (w : World) : Calls Tryz.prog 63 [.slice none 0 0, .int .i64 0, .int .i64 0, .int .i64 lim, f].toArray w (fun e w' => e = .returned (.tuple #[]) ∧ w' = w) := by
 refine x_enter Tryz.func63 rfl rfl rfl ?_
 intro a F
 replace F : Fr ⟨148, []⟩ a [(0, .slice none 0 0), (1, .int .i64 0), (2, .int .i64 0), (3, .int .i64 lim), (4, f)] := F
 refine wp_seq (r_lit ?_)
 refine sv F rfl (y_assign F rfl rfl) fun a F => ?_
 refine wpList_nil (c_then ?_)
 refine wp_seq (r_lit ?_)
 refine sv F rfl (y_assign F rfl rfl) fun a F => ?_
 refine wpList_nil (c_then ?_)
 refine wp_block ?_
 refine x_loop (fun (_ : Unit) aa ww => Fr ⟨148, []⟩ aa [(0, .slice none 0 0), (1, .int .i64 0), (2, .int .i64 0), (3, .int .i64 lim), (4, f)] ∧ ww = w) (fun _ => 0) () ⟨F.cut _ ⟨rfl, rfl, rfl, rfl, rfl, trivial⟩, rfl⟩ ?_
 clear F
 rintro _ a w ⟨F, rfl⟩
 refine wp_block (wp_seq (r_lit ?_))
 refine sv F rfl (y_move F rfl rfl) fun a F => ?_
 refine sv F rfl (y_move F rfl rfl) fun a F => ?_
 refine sv F rfl (y_sub F rfl rfl rfl (r := 0) rfl) fun a F => ?_
 refine sv F rfl (y_assign F rfl rfl) fun a F => ?_
 refine wpList_nil (c_then ?_)
 refine wp_seq (wp_seq (r_lit ?_))
 refine sv F rfl (y_move F rfl rfl) fun a F => ?_
 refine sv F rfl (y_leq F rfl rfl rfl) fun a F => ?_
 refine wpList_nil (c_then ?_)
 refine x_condT F rfl ?_
 refine wp_seq (r_lit ?_)
 refine sv F rfl (y_move F rfl rfl) fun a F => ?_
 refine sv F rfl (y_move F rfl rfl) fun a F => ?_
 refine sv F rfl (y_move F rfl rfl) fun a F => ?_
 refine sv F rfl (y_move F rfl rfl) fun a F => ?_
 refine s_callV wkP F rfl rfl rfl rfl (y_call F rfl rfl ent79) (R := fun w' => w' = _) (w_nil79 f _) ?_; rintro w a rfl F
 refine wpList_nil (c_then ?_)
 refine wp_ret ?_
 repeat (first | refine c_thenR ?_ | refine c_blkR ?_)
 refine x_ret0 F rfl ?_
 exact ⟨rfl, rfl⟩
theorem w_nil47 (f : Value) (w : World) : Calls Tryz.prog 47 [.slice none 0 0, f].toArray w (fun e w' => e = .returned (.tuple #[]) ∧ w' = w) := by
 refine x_enter Tryz.func47 rfl rfl rfl ?_
 intro a F
 replace F : Fr ⟨14, []⟩ a [(0, .slice none 0 0), (1, f)] := F
 refine wp_seq (r_lit ?_)
 refine sv F rfl (y_move F rfl rfl) fun a F => ?_
 refine sv F rfl (y_lenS F rfl Tryz.underlying41 rfl) fun a F => ?_
 refine sv F rfl (y_assign F rfl rfl) fun a F => ?_
 refine wpList_nil (c_then ?_)
 refine r_lit ?_
 refine sv F rfl (y_move F rfl rfl) fun a F => ?_
 refine sv F rfl (y_move F rfl rfl) fun a F => ?_
 refine sv F rfl (y_move F rfl rfl) fun a F => ?_
 refine sv F rfl (y_conv (r := 0) F Tryz.underlying3 Tryz.underlying98 rfl rfl rfl) fun a F => ?_
 refine s_callV (v := .int .i64 (Lib.bitLen 0 : Nat)) wkP F rfl rfl rfl rfl (y_call F rfl rfl ent64) (R := fun w' => w' = _) (Any.bits_Len (SlLaysF0.n15.bits (P := Tryz.prog) (ρ := Tryz.lays47_ren) { Tryz.lays47 with }) 0 _ (by omega) (by omega)) ?_; rintro w a rfl F
 refine sv F rfl (y_move F rfl rfl) fun a F => ?_
 refine s_callV wkP F rfl rfl rfl rfl (y_call F rfl rfl ent63) (R := fun w' => w' = _) (w_nil63 f _ _) ?_; rintro w a rfl F
 refine wpList_nil ?_
 refine x_end0 F rfl ?_
 exact ⟨rfl, rfl⟩
theorem w_sortFunc47 {g : FuncId} (hc : ∀ (x y : H32) (w : World), Calls Tryz.prog g [.agg (encH x).toArray, .agg (encH y).toArray].toArray w (fun e w' => e = .returned (.int .i64 (cmpH x y)) ∧ ∃ q os', w' = Go.Sort.grow (w.drewN q) os')) (eg : ∀ args w, (callFunc g args).run Tryz.prog w = .ok (.enter g args) w) {p : Option Addr} {c : Nat} {ks : List (List UInt8)} {w0 w : World} {l : List HP} (hn : ks.length ≤ 100000000) (H : St w0 w (HP.ow (rBytesN 32) 25 p c ks :: l)) :
  Calls Tryz.prog 47 [.slice p ks.length c, .func (.func g) #[] #[]].toArray w (fun e w' => ∃ v, e = .returned v ∧ ∃ ks' : List (List UInt8), ks'.Perm ks ∧ ks'.Pairwise (fun a b => ¬ ltK b a) ∧ St w0 w' (HP.ow (rBytesN 32) 25 p c ks' :: l)) := by
 rcases H.owCase 0 rfl with ⟨rfl, rfl, rfl⟩ | ⟨b, rfl⟩
 · refine (w_nil47 (.func (.func g) #[] #[]) w).mono ?_
   rintro e w' ⟨rfl, rfl⟩
   exact ⟨_, rfl, [], List.Perm.nil, List.Pairwise.nil, H⟩
 · obtain ⟨d, hd, hH, hb, hK⟩ := H.sortK 0 rfl
   have hlen : d.toArray.size = ks.length := by rw [← hd]; simp
   have := AnyQ.slices_SortFunc Tryz.lays47 32 agg25.run_isAgg agg25.run_szOf encH encH_len encH_one cmpH cmpH_swo g #[] b 0 c d.toArray w eg (fun m os dk hs x y => hc x y _) hH hb (by rw [hlen]; omega)
   rw [hlen] at this
   refine this.mono ?_
   rintro e w' ⟨rfl, d', n, os, hp, hs, rfl⟩
   rw [← hlen] at hp hs
   obtain ⟨h1, h2, h3⟩ := sort_list hp hs
   exact ⟨_, rfl, _, hd ▸ h2, h3, hK d' n os h1⟩
theorem ent46 : En Tryz.prog 46 := enters Tryz.func46 (by kernel_rfl) rfl
theorem ent47 : En Tryz.prog 47 := enters Tryz.func47 (by kernel_rfl) rfl
theorem w_sortedFunc26 {β : Type} {m : List UInt8 → Option β} {ks : List (List UInt8)} {gf g : FuncId} {caps : List Value} {own : List HP} {w0 w : World} {l : List HP} (hm : sortKeysO m = some ks) (hS : SeqC Tryz.prog gf caps (fun x : List UInt8 => [hv x]) own (KAdm m) (KAll m)) (egf : ∀ args w, (callFunc gf args).run Tryz.prog w = .ok (.enter gf args) w) (hc : ∀ (x y : H32) (w : World), Calls Tryz.prog g [.agg (encH x).toArray, .agg (encH y).toArray].toArray w (fun e w' => e = .returned (.int .i64 (cmpH x y)) ∧ ∃ q os', w' = Go.Sort.grow (w.drewN q) os')) (eg : ∀ args w, (callFunc g args).run Tryz.prog w = .ok (.enter g args) w) (H : St w0 w (own ++ l)) :
  Calls Tryz.prog 26 [.func (.func gf) #[] caps.toArray, .func (.func g) #[] #[]].toArray w (fun e w' => ∃ v, e = .returned v ∧ ∃ p c, v = .slice p ks.length c ∧ St w0 w' (HP.ow (rBytesN 32) 25 p c ks :: (own ++ l))) := by
 obtain ⟨hfl, rfl⟩ := sortKeysO_some hm
 refine x_enter Tryz.func26 rfl rfl rfl ?_
 intro a F
 replace F : Fr ⟨12, []⟩ a [(0, .func (.func gf) #[] caps.toArray), (1, .func (.func g) #[] #[])] := F
 refine wp_seq (r_lit ?_)
 refine sv F rfl (y_assign F rfl rfl) fun a F => ?_
 refine wpList_nil (c_then ?_)
 refine wp_seq (r_lit ?_)
 refine sv F rfl (y_move F rfl rfl) fun a F => ?_
 refine s_call wkP F rfl rfl rfl rfl (y_call F rfl rfl ent46) (w_collect46 hS egf (fun pre x h => kadm_len hfl h) H) ?_; rintro _ w a ⟨p, c, ks, rfl, hs, H⟩ F
 refine sv F rfl (y_assign F rfl rfl) fun a F => ?_
 refine wpList_nil (c_then ?_)
 refine wp_seq (r_lit ?_)
 refine sv F rfl (y_move F rfl rfl) fun a F => ?_
 refine sv F rfl (y_move F rfl rfl) fun a F => ?_
 refine s_call wkP F rfl rfl rfl rfl (y_call F rfl rfl ent47) (w_sortFunc47 hc eg (by rw [kall_len hs]; exact hfl) H) ?_; rintro _ w a ⟨ks', hp, hsd, H⟩ F
 have hk := sortKeys_eq (sortedKeys_of hs hp hsd)
 rw [← hp.length_eq] at F
 subst hk
 refine wpList_nil (c_then ?_)
 refine wp_seq (r_lit ?_)
 refine sv F rfl (y_move F rfl rfl) fun a F => ?_
 refine sv F rfl (y_assign F rfl rfl) fun a F => ?_
 refine wpList_nil (c_then ?_)
 refine wp_ret ?_
 refine x_ret1 F rfl rfl ?_
 exact ⟨_, rfl, p, c, rfl, H⟩
end Go.Proofs.YtnjemlkcamdbfaaGreatDoor
