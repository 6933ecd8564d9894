/- Texts RefA. -/
import Derived.Test.YthcjjjnphgopjaaGreatDoorQ8
set_option linter.unusedSimpArgs false
set_option linter.unusedVariables false
namespace Go.Proofs.YthcjjjnphgopjaaGreatDoor
open Go.RowKit Go.Tri
set_option maxRecDepth 100000
set_option maxHeartbeats 4000000
theorem w_m_triremeref09_Name {x0_:List UInt8}  {w0 w:World} {l:List HP}  {r:Bool} (hm:m_triremeref09_Name x0_=some r) (H:St w0 w (l)) :
  Calls Tryz.prog 71 [.string (txb (x0_))].toArray w (fun e w'=>∃ v,e=.returned v∧v=.bool (r)∧St w0 w' (l)):=by
 unfold m_triremeref09_Name at hm
 refine x_enter Tryz.func71 rfl rfl rfl ?_
 intro a F
 refine sb [0] F H rfl fun a F=>nl (sq (sb [0] F H rfl fun a F=>sv F rfl (y_lenT (l:=x0_) F rfl Tryz.underlying9 rfl) fun a F=>bb [0,0] F H rfl fun a F=>?_))
 rcases spP 7 F rfl hm with ⟨hg1,hm,F⟩ | ⟨hg1,hm,F⟩
 refine bb [0,0,0,0] F H rfl fun a F=>nl (cT F rfl (sb [0] F H rfl fun a F=>nl (wr (tr ?_))))
 cases hm
 refine x_ret1 F rfl rfl ?_
 exact ⟨_,rfl,rfl,H⟩
 refine bb [0] F H rfl fun a F=>g_onP F rfl rfl rfl rfl (sv F rfl (y_lenT (l:=x0_) F rfl Tryz.underlying9 rfl) fun a F=>bb [0,0] F H rfl fun a F=>?_)
 refine nl (cPm F rfl hm (fun hg2 hm=>?_) (fun hg2 hm=>?_))
 refine sb [0] F H rfl fun a F=>nl (wr (tr ?_))
 cases hm
 refine x_ret1 F rfl rfl ?_
 exact ⟨_,rfl,rfl,H⟩
 refine sk (ct (sq (sb [0] F H rfl fun a F=>?_)))
 refine nl (xr0 0 [] [] F H hm rfl rfl (fun r25 z=>z) (fun r25 z=>z) (fun o25 hm hm25=>?_) (fun r25 a w hm F H=>?_))
 refine bl (xl0 0 [0] [] F H hm rfl rfl (fun (s40:Int) z=>(3,.int .i64 (s40))::z) (fun s40 z=>z) ⟨F.sl rfl,H⟩ (fun s40 a w o F H hm=>sq (sb [0,0] F H rfl fun a F=>sv F rfl (y_lenT (l:=x0_) F rfl Tryz.underlying9 rfl) fun a F=>bb [0] F H rfl fun a F=>?_)))
 refine nl (cPm F rfl hm (fun hg41 hm=>?_) (fun hg41 hm=>?_))
 refine sk (ct (sq (bl (sb [0,0] F H rfl fun a F=>?_))))
 obtain ⟨x42,ex42,hm⟩:=ob hm
 refine sv F rfl (y_idxT F rfl Tryz.underlying9 rfl rfl ex42) fun a F=>bb [0,0] F H rfl fun a F=>?_
 rcases spP 22 F rfl hm with ⟨hg43,hm,F⟩ | ⟨hg43,hm,F⟩
 refine bb (List.replicate 11 0) F H rfl fun a F=>nl (cT F rfl (sb [0] F H rfl fun a F=>?_))
 refine nl (wr (br (tr (tr ?_))));cases hm;refine ⟨_,rfl,?_⟩;rintro rfl
 refine br (tr ?_)
 replace hm:=elimR hm25
 refine tr ?_
 cases hm
 refine x_ret1 F rfl rfl ?_
 exact ⟨_,rfl,rfl,H⟩
 refine bb [0,0] F H rfl fun a F=>g_onP F rfl rfl rfl rfl ?_
 obtain ⟨x44,ex44,hm⟩:=ob hm
 refine sv F rfl (y_idxT F rfl Tryz.underlying9 rfl rfl ex44) fun a F=>bb [0,0,0] F H rfl fun a F=>?_
 rcases spP 28 F rfl hm with ⟨hg45,hm,F⟩ | ⟨hg45,hm,F⟩
 refine bb (List.replicate 5 0) F H rfl fun a F=>nl (cT F rfl (sb [0] F H rfl fun a F=>?_))
 refine nl (wr (br (tr (tr ?_))));cases hm;refine ⟨_,rfl,?_⟩;rintro rfl
 refine br (tr ?_)
 replace hm:=elimR hm25
 refine tr ?_
 cases hm
 refine x_ret1 F rfl rfl ?_
 exact ⟨_,rfl,rfl,H⟩
 refine bb [0,0] F H rfl fun a F=>g_onP F rfl rfl rfl rfl ?_
 obtain ⟨x46,ex46,hm⟩:=ob hm
 refine sv F rfl (y_idxT F rfl Tryz.underlying9 rfl rfl ex46) fun a F=>bb [0,0] F H rfl fun a F=>?_
 refine nl (cPm F rfl hm (fun hg47 hm=>?_) (fun hg47 hm=>?_))
 refine sb [0] F H rfl fun a F=>?_
 refine nl (wr (br (tr (tr ?_))));cases hm;refine ⟨_,rfl,?_⟩;rintro rfl
 refine br (tr ?_)
 replace hm:=elimR hm25
 refine tr ?_
 cases hm
 refine x_ret1 F rfl rfl ?_
 exact ⟨_,rfl,rfl,H⟩
 refine sk (bn (ct (rl (bb [0,0,0] F H rfl fun a F=>?_))))
 refine lz (ct ?_);cases hm
 exact ⟨_,rfl,⟨F.sl rfl,H⟩⟩
 refine ex (cx (cx ?_));cases hm;refine ⟨_,rfl,?_⟩;rintro rfl
 refine ch (ct ?_)
 exact ⟨_,rfl,F.cut _ trivial,H⟩
 refine ct (sb [0] F H rfl fun a F=>nl (wr ?_))
 cases hm
 refine x_ret1 F rfl rfl ?_
 exact ⟨_,rfl,rfl,H⟩
theorem ent71:En Tryz.prog 71:=enters Tryz.func71 (by kernel_rfl) rfl
theorem w_m_triremeref09_Split {x0_:List UInt8}  {w0 w:World} {l:List HP}  {r:(List (List UInt8))×Bool} (hm:m_triremeref09_Split x0_=some r) (H:St w0 w (l)) :
  Calls Tryz.prog 46 [.string (txb (x0_))].toArray w (fun e w'=>∃ v,e=.returned v∧∃ (p1:Option Addr) (c1:Nat),v=.tuple [.slice p1 (r.1).length c1,.bool (r.2)].toArray∧St w0 w' (HP.sl rStr p1 c1 r.1::l)):=by
 unfold m_triremeref09_Split at hm
 refine x_enter Tryz.func46 rfl rfl rfl ?_
 intro a F
 refine sb [0,0] F H rfl fun a F=>nl (sr (s_build0O (R:=rStr) wkP F rfl rfl rfl elem35 rfl H fun b2 w a H F=>bb [0] F H rfl fun a F=>?_))
 replace H:=H.nf 1 rfl
 refine nl (sq (sb [0] F H rfl fun a F=>sv F rfl (y_eqT (l:=x0_) (m:=[47]) F rfl rfl rfl) fun a F=>?_))
 refine nl (cPm F rfl hm (fun hg3 hm=>?_) (fun hg3 hm=>?_))
 refine sb [0,0,0] F H rfl fun a F=>nl (wr (tr ?_))
 replace H:=H.frz 0 rfl
 cases hm
 refine x_ret2 F rfl rfl rfl ?_
 exact ⟨_,rfl,(some ⟨b2,0,none⟩),0,rfl,H⟩
 refine sk (ct (sq (sb [0] F H rfl fun a F=>sv F rfl (y_lenT (l:=x0_) F rfl Tryz.underlying9 rfl) fun a F=>bb [0,0] F H rfl fun a F=>?_)))
 rcases spP 14 F rfl hm with ⟨hg4,hm,F⟩ | ⟨hg4,hm,F⟩
 refine bb (List.replicate 9 0) F H rfl fun a F=>nl (cT F rfl (sb [0,0,0] F H rfl fun a F=>nl (wr (tr ?_))))
 replace H:=H.frz 0 rfl
 cases hm
 refine x_ret2 F rfl rfl rfl ?_
 exact ⟨_,rfl,(some ⟨b2,0,none⟩),0,rfl,H⟩
 refine bb [0] F H rfl fun a F=>g_onP F rfl rfl rfl rfl (sv F rfl (y_lenT (l:=x0_) F rfl Tryz.underlying9 rfl) fun a F=>bb [0,0,0] F H rfl fun a F=>?_)
 rcases spP 19 F rfl hm with ⟨hg5,hm,F⟩ | ⟨hg5,hm,F⟩
 refine bb [0,0,0,0] F H rfl fun a F=>nl (cT F rfl (sb [0,0,0] F H rfl fun a F=>nl (wr (tr ?_))))
 replace H:=H.frz 0 rfl
 cases hm
 refine x_ret2 F rfl rfl rfl ?_
 exact ⟨_,rfl,(some ⟨b2,0,none⟩),0,rfl,H⟩
 refine bb [0] F H rfl fun a F=>g_onP F rfl rfl rfl rfl ?_
 obtain ⟨x6,ex6,hm⟩:=ob hm
 refine sv F rfl (y_idxT F rfl Tryz.underlying9 rfl rfl ex6) fun a F=>bb [0,0] F H rfl fun a F=>?_
 refine nl (cNm F rfl hm (fun hg7 hm=>?_) (fun hg7 hm=>?_))
 refine sb [0,0,0] F H rfl fun a F=>nl (wr (tr ?_))
 replace H:=H.frz 0 rfl
 cases hm
 refine x_ret2 F rfl rfl rfl ?_
 exact ⟨_,rfl,(some ⟨b2,0,none⟩),0,rfl,H⟩
 refine sk (ct (sb [0] F H rfl fun a F=>nl (sq (sb [0] F H rfl fun a F=>?_))))
 refine nl (xr2 1 [] [] F H hm rfl rfl (fun r135 (p136:Option Addr) (c136:Nat) z=>(4,.slice p136 (r135).length c136)::z) (fun r135 p136 c136 z=>HP.ow rStr 9 p136 c136 r135::z) (fun o135 hm hm135=>?_) (fun r135 a w hm p136 c136 F H=>?_))
 refine bl (xl2 1 [0] [] F H hm rfl rfl (fun (s221:(List (List UInt8))×Int×Int) (p222:Option Addr) (c222:Nat) z=>(4,.slice p222 (s221.1).length c222)::(5,.int .i64 (s221.2.1))::(6,.int .i64 (s221.2.2))::z) (fun s221 p222 c222 z=>HP.ow rStr 9 p222 c222 s221.1::z) ⟨(some ⟨b2,0,none⟩),0,F.sl rfl,H⟩ (fun s221 a w o p222 c222 F H hm=>sq (sb [0,0] F H rfl fun a F=>sv F rfl (y_lenT (l:=x0_) F rfl Tryz.underlying9 rfl) fun a F=>bb [0] F H rfl fun a F=>?_)))
 refine nl (cPm F rfl hm (fun hg223 hm=>?_) (fun hg223 hm=>?_))
 refine sk (ct (sq (xr2 1 [0,6] [] F H hm rfl rfl (fun r243 (p244:Option Addr) (c244:Nat) z=>(4,.slice p244 (r243.1).length c244)::(5,.int .i64 (r243.2))::z) (fun r243 p244 c244 z=>HP.ow rStr 9 p244 c244 r243.1::z) (fun o243 hm hm243=>?_) (fun r243 a w hm p244 c244 F H=>?_))))
 refine bl (sq (sb [0,0] F H rfl fun a F=>sv F rfl (y_lenT (l:=x0_) F rfl Tryz.underlying9 rfl) fun a F=>bb [0,0] F H rfl fun a F=>?_))
 rcases spP 35 F rfl hm with ⟨hg245,hm,F⟩ | ⟨hg245,hm,F⟩
 refine bb [0,0] F H rfl fun a F=>g_onP F rfl rfl rfl rfl ?_
 obtain ⟨x246,ex246,hm⟩:=ob hm
 refine sv F rfl (y_idxT F rfl Tryz.underlying9 rfl rfl ex246) fun a F=>bb [0,0] F H rfl fun a F=>?_
 refine nl (cNm F rfl hm (fun hg247 hm=>?_) (fun hg247 hm=>?_))
 refine ex (cx (ch ?_))
 cases hm
 refine ct ?_
 exact ⟨_,rfl,p222,c222,F.sl rfl,H⟩
 refine sk (ct (sq (sb [0,0,0] F H rfl fun a F=>?_)))
 obtain ⟨x248,ex248,hm⟩:=ob hm
 refine sv F rfl (y_slTLH F rfl Tryz.underlying9 rfl rfl rfl ex248) fun a F=>?_
 obtain ⟨x249,ex249,hm⟩:=ob hm
 refine sd F rfl ent71 (w_m_triremeref09_Name ex249 H:) ?_;rintro _ w a ⟨rfl,H⟩ F
 refine bb [0] F H rfl fun a F=>?_
 replace H:=H.nf 1 rfl
 refine nl (cB F rfl (fun hg250=>?_) (fun hg250=>?_))
 replace hm:=ifT hg250 hm
 refine sr (s_build0O (R:=rStr) wkP F rfl rfl rfl elem35 rfl H fun b251 w a H F=>bb [0,0] F H rfl fun a F=>?_)
 replace H:=H.nf 2 rfl
 refine nl (wr (tr (br (tr ?_))))
 cases hm
 replace hm:=elimR hm243
 refine tr (tr ?_);cases hm;refine ⟨_,rfl,?_⟩;rintro rfl
 refine br (tr ?_)
 replace hm:=elimR hm135
 refine tr ?_
 replace H:=H.frz 0 rfl
 cases hm
 refine x_ret2 F rfl rfl rfl ?_
 exact ⟨_,rfl,(some ⟨b251,0,none⟩),0,rfl,(H.pm 2 [0] rfl:)⟩
 replace hm:=ifF (nT hg250) hm
 refine sk (ct (sb [0,0,0,0] F H rfl fun a F=>?_))
 obtain ⟨x252,ex252,hm⟩:=ob hm
 refine sv F rfl (y_slTLH F rfl Tryz.underlying9 rfl rfl rfl ex252) fun a F=>s_buildC wkP F rfl rfl rfl elem35 zero9 rfl rfl rfl rfl (by simp [Value.cells]) (by decide) H fun b253 w a H F=>?_
 replace H:=H.blkOw1 (R:=rStr) (x:=x252) (fun gg=>rfl)
 replace H:=H.frz 0 rfl
 obtain ⟨x255,ex255,hm⟩:=ob hm
 refine s_app wkP F rfl rfl rfl rfl rfl rfl elem35 rfl ex255 H 1 0 rfl rfl fun p254 c254 w a H F=>?_
 refine bb [0] F H rfl fun a F=>?_
 replace H:=H.nf 2 rfl
 refine nl (rl (bb [0,0,0] F H rfl fun a F=>lz (bn ?_)))
 cases hm
 refine ct ?_
 exact ⟨_,rfl,p254,c254,F.sl rfl,(H.pm 2 [1] rfl:)⟩
 refine bb (List.replicate 5 0) F H rfl fun a F=>nl (cF F rfl (sk (ct (sq (sb [0,0,0] F H rfl fun a F=>?_)))))
 obtain ⟨x256,ex256,hm⟩:=ob hm
 refine sv F rfl (y_slTLH F rfl Tryz.underlying9 rfl rfl rfl ex256) fun a F=>?_
 obtain ⟨x257,ex257,hm⟩:=ob hm
 refine sd F rfl ent71 (w_m_triremeref09_Name ex257 H:) ?_;rintro _ w a ⟨rfl,H⟩ F
 refine bb [0] F H rfl fun a F=>?_
 replace H:=H.nf 1 rfl
 refine nl (cB F rfl (fun hg258=>?_) (fun hg258=>?_))
 replace hm:=ifT hg258 hm
 refine sr (s_build0O (R:=rStr) wkP F rfl rfl rfl elem35 rfl H fun b259 w a H F=>bb [0,0] F H rfl fun a F=>?_)
 replace H:=H.nf 2 rfl
 refine nl (wr (tr (br (tr ?_))))
 cases hm
 replace hm:=elimR hm243
 refine tr (tr ?_);cases hm;refine ⟨_,rfl,?_⟩;rintro rfl
 refine br (tr ?_)
 replace hm:=elimR hm135
 refine tr ?_
 replace H:=H.frz 0 rfl
 cases hm
 refine x_ret2 F rfl rfl rfl ?_
 exact ⟨_,rfl,(some ⟨b259,0,none⟩),0,rfl,(H.pm 2 [0] rfl:)⟩
 replace hm:=ifF (nT hg258) hm
 refine sk (ct (sb [0,0,0,0] F H rfl fun a F=>?_))
 obtain ⟨x260,ex260,hm⟩:=ob hm
 refine sv F rfl (y_slTLH F rfl Tryz.underlying9 rfl rfl rfl ex260) fun a F=>s_buildC wkP F rfl rfl rfl elem35 zero9 rfl rfl rfl rfl (by simp [Value.cells]) (by decide) H fun b261 w a H F=>?_
 replace H:=H.blkOw1 (R:=rStr) (x:=x260) (fun gg=>rfl)
 replace H:=H.frz 0 rfl
 obtain ⟨x263,ex263,hm⟩:=ob hm
 refine s_app wkP F rfl rfl rfl rfl rfl rfl elem35 rfl ex263 H 1 0 rfl rfl fun p262 c262 w a H F=>?_
 refine bb [0] F H rfl fun a F=>?_
 replace H:=H.nf 2 rfl
 refine nl (rl (bb [0,0,0] F H rfl fun a F=>lz (bn ?_)))
 cases hm
 refine ct ?_
 exact ⟨_,rfl,p262,c262,F.sl rfl,(H.pm 2 [1] rfl:)⟩
 refine ct (rl (bb [0,0,0] F H rfl fun a F=>?_))
 refine lz (ct ?_);cases hm
 exact ⟨_,rfl,⟨p244,c244,F.sl rfl,H⟩⟩
 refine ex (cx (cx ?_));cases hm;refine ⟨_,rfl,?_⟩;rintro rfl
 refine ch (ct ?_)
 exact ⟨_,rfl,p222,c222,F.sl rfl,H⟩
 refine ct (sb [0,0,0] F H rfl fun a F=>nl (wr ?_))
 replace H:=H.frz 0 rfl
 cases hm
 refine x_ret2 F rfl rfl rfl ?_
 exact ⟨_,rfl,p136,c136,rfl,H⟩
theorem w_m_triremeref09_Join {x0_:List (List UInt8)} {p1:Option Addr} {c1:Nat} {w0 w:World} {l:List HP}  {r:(List UInt8)} (hm:m_triremeref09_Join x0_=some r) (H:St w0 w (HP.sl rStr p1 c1 x0_::l)) :
  Calls Tryz.prog 47 [.slice p1 (x0_).length c1].toArray w (fun e w'=>∃ v,e=.returned v∧v=.string (txb (r))∧St w0 w' (l)):=by
 unfold m_triremeref09_Join at hm
 refine x_enter Tryz.func47 rfl rfl rfl ?_
 intro a F
 refine sb [0] F H rfl fun a F=>nl (sq (sr (bk [0,0,0] F H rfl ⟨⟨_,Tryz.underlying35⟩,trivial⟩ fun a F=>?_)))
 refine nl (cPm F rfl hm (fun hg2 hm=>?_) (fun hg2 hm=>?_))
 refine sb [0] F H rfl fun a F=>nl (wr (tr ?_))
 cases hm
 refine x_ret1 F rfl rfl ?_
 exact ⟨_,rfl,rfl,(H.pm 1 [] rfl:)⟩
 refine sk (ct (sb [0] F H rfl fun a F=>nl (sq (sb [0] F H rfl fun a F=>?_))))
 refine nl (xm0 1 [] [] F H hm rfl rfl (fun r22 z=>(3,.string (txb (r22)))::z) (fun r22 z=>z) (fun r22 hm=>?_) (fun r22 a w hm F H=>?_))
 refine bl (xl0 1 [0] [0] F H hm rfl rfl (fun (s35:(List UInt8)×Int) z=>(3,.string (txb (s35.1)))::(4,.int .i64 (s35.2))::z) (fun s35 z=>z) ⟨F.sl rfl,H⟩ (fun s35 a w o F H hm=>sq (sr (bk [0,0,0,0] F H rfl ⟨⟨_,Tryz.underlying35⟩,trivial⟩ fun a F=>?_))))
 refine nl (cPm F rfl hm (fun hg36 hm=>?_) (fun hg36 hm=>?_))
 refine sk (ct (sq (bl (rl (bb [0,0,0] F H rfl fun a F=>?_)))))
 obtain ⟨x37,ex37,hm⟩:=ob hm
 obtain ⟨b38,o38,hp38,cs39,H⟩:=H.slE 0 rfl ex37
 obtain rfl:=H.rcStr 1 rfl
 replace H:=H.dp 1 rfl
 refine sv F rfl (y_idxS F elem35 rfl rfl rfl hp38 ex37) fun a F=>bk [0] F H rfl ⟨rfl,plain9,trivial⟩ fun a F=>?_
 obtain ⟨x40,ex40,hm⟩:=ob hm
 refine sv F rfl (y_addO F rfl rfl rfl ex40) fun a F=>?_
 obtain ⟨x41,ex41,hm⟩:=ob hm
 refine sv F rfl (y_addO F rfl rfl rfl ex41) fun a F=>bb [0] F H rfl fun a F=>lz (bn (ct (rl (bb [0,0,0] F H rfl fun a F=>?_))))
 refine lz (ct ?_);cases hm
 exact ⟨_,rfl,⟨F.sl rfl,(H.pm 2 [1] rfl:)⟩⟩
 refine ex (cx (cx ?_));cases hm;refine ⟨_,rfl,?_⟩;rintro rfl
 refine ch (ct ?_)
 exact ⟨F.sl rfl,(H.pm 1 [] rfl:)⟩
 refine ct (sb [0,0] F H rfl fun a F=>nl (wr ?_))
 cases hm
 refine x_ret1 F rfl rfl ?_
 exact ⟨_,rfl,rfl,H⟩
theorem ent46:En Tryz.prog 46:=enters Tryz.func46 (by kernel_rfl) rfl
theorem w_m_triremeref09_Right {x0_:List UInt8}  {w0 w:World} {l:List HP}  {r:Bool} (hm:m_triremeref09_Right x0_=some r) (H:St w0 w (l)) :
  Calls Tryz.prog 28 [.string (txb (x0_))].toArray w (fun e w'=>∃ v,e=.returned v∧v=.bool (r)∧St w0 w' (l)):=by
 unfold m_triremeref09_Right at hm
 refine x_enter Tryz.func28 rfl rfl rfl ?_
 intro a F
 refine sb [0] F H rfl fun a F=>nb [0] F H rfl fun a F=>?_
 obtain ⟨x1,ex1,hm⟩:=ob hm
 refine sd F rfl ent46 (w_m_triremeref09_Split ex1 H:) ?_;rintro _ w a ⟨p2,c2,rfl,H⟩ F
 refine bb (List.replicate 5 0) F H rfl fun a F=>?_
 replace H:=H.nf 1 rfl
 refine nb [0,0] F H rfl fun a F=>nl (wr ?_)
 cases hm
 refine x_ret1 F rfl rfl ?_
 exact ⟨_,rfl,rfl,(H.pm 1 [] rfl:)⟩
theorem ent47:En Tryz.prog 47:=enters Tryz.func47 (by kernel_rfl) rfl
theorem w_m_triremeref09_Parent {x0_:List UInt8}  {w0 w:World} {l:List HP}  {r:(List UInt8)} (hm:m_triremeref09_Parent x0_=some r) (H:St w0 w (l)) :
  Calls Tryz.prog 29 [.string (txb (x0_))].toArray w (fun e w'=>∃ v,e=.returned v∧v=.string (txb (r))∧St w0 w' (l)):=by
 unfold m_triremeref09_Parent at hm
 refine x_enter Tryz.func29 rfl rfl rfl ?_
 intro a F
 refine sb [0] F H rfl fun a F=>nb [0] F H rfl fun a F=>?_
 obtain ⟨x1,ex1,hm⟩:=ob hm
 refine sd F rfl ent46 (w_m_triremeref09_Split ex1 H:) ?_;rintro _ w a ⟨p2,c2,rfl,H⟩ F
 refine bb (List.replicate 5 0) F H rfl fun a F=>?_
 replace H:=H.nf 1 rfl
 refine nl (sq (sr (bk [0,0,0] F H rfl ⟨⟨_,Tryz.underlying35⟩,trivial⟩ fun a F=>?_)))
 refine nl (cPm F rfl hm (fun hg3 hm=>?_) (fun hg3 hm=>?_))
 refine sb [0] F H rfl fun a F=>nl (wr (tr ?_))
 cases hm
 refine x_ret1 F rfl rfl ?_
 exact ⟨_,rfl,rfl,(H.pm 1 [] rfl:)⟩
 refine sk (ct (sr (bk [0,0,0,0] F H rfl ⟨⟨_,Tryz.underlying35⟩,trivial⟩ fun a F=>?_)))
 obtain ⟨x5,ex5,hm⟩:=ob hm
 have hc4:=H.slCap 0 rfl
 replace H:=H.slSubN 1 rfl 0 rfl ex5
 refine sv F rfl (y_slH F elem35 rfl rfl rfl ex5 hc4) fun a F=>?_
 obtain ⟨x6,ex6,hm⟩:=ob hm
 refine sd F rfl ent47 (w_m_triremeref09_Join ex6 (H.pm 2 [0,0,1] rfl:):) ?_;rintro _ w a ⟨rfl,H⟩ F
 refine bb [0] F H rfl fun a F=>?_
 replace H:=H.nf 2 rfl
 refine nl (wr ?_)
 cases hm
 refine x_ret1 F rfl rfl ?_
 exact ⟨_,rfl,rfl,(H.pm 2 [] rfl:)⟩
theorem w_m_triremeref09_Base {x0_:List UInt8}  {w0 w:World} {l:List HP}  {r:(List UInt8)} (hm:m_triremeref09_Base x0_=some r) (H:St w0 w (l)) :
  Calls Tryz.prog 70 [.string (txb (x0_))].toArray w (fun e w'=>∃ v,e=.returned v∧v=.string (txb (r))∧St w0 w' (l)):=by
 unfold m_triremeref09_Base at hm
 refine x_enter Tryz.func70 rfl rfl rfl ?_
 intro a F
 refine sb [0] F H rfl fun a F=>nb [0] F H rfl fun a F=>?_
 obtain ⟨x1,ex1,hm⟩:=ob hm
 refine sd F rfl ent46 (w_m_triremeref09_Split ex1 H:) ?_;rintro _ w a ⟨p2,c2,rfl,H⟩ F
 refine bb (List.replicate 5 0) F H rfl fun a F=>?_
 replace H:=H.nf 1 rfl
 refine nl (sq (sr (bk [0,0,0] F H rfl ⟨⟨_,Tryz.underlying35⟩,trivial⟩ fun a F=>?_)))
 refine nl (cPm F rfl hm (fun hg3 hm=>?_) (fun hg3 hm=>?_))
 refine sb [0] F H rfl fun a F=>nl (wr (tr ?_))
 cases hm
 refine x_ret1 F rfl rfl ?_
 exact ⟨_,rfl,rfl,(H.pm 1 [] rfl:)⟩
 refine sk (ct (sr (bk [0,0,0,0] F H rfl ⟨⟨_,Tryz.underlying35⟩,trivial⟩ fun a F=>?_)))
 obtain ⟨x4,ex4,hm⟩:=ob hm
 obtain ⟨b5,o5,hp5,cs6,H⟩:=H.slE 0 rfl ex4
 obtain rfl:=H.rcStr 1 rfl
 replace H:=H.dp 1 rfl
 refine sv F rfl (y_idxS F elem35 rfl rfl rfl hp5 ex4) fun a F=>bk [0,0] F H rfl ⟨rfl,plain9,trivial⟩ fun a F=>nl (wr ?_)
 cases hm
 refine x_ret1 F rfl rfl ?_
 exact ⟨_,rfl,rfl,(H.pm 2 [] rfl:)⟩
theorem ent28:En Tryz.prog 28:=enters Tryz.func28 (by kernel_rfl) rfl
theorem w_m_triremeref09_Within {x0_:List UInt8} {x1_:List UInt8}  {w0 w:World} {l:List HP}  {r:Bool} (hm:m_triremeref09_Within x0_ x1_=some r) (H:St w0 w (l)) :
  Calls Tryz.prog 69 [.string (txb (x0_)),.string (txb (x1_))].toArray w (fun e w'=>∃ v,e=.returned v∧v=.bool (r)∧St w0 w' (l)):=by
 unfold m_triremeref09_Within at hm
 refine x_enter Tryz.func69 rfl rfl rfl ?_
 intro a F
 refine sb [0] F H rfl fun a F=>nl (sq (sb [0] F H rfl fun a F=>?_))
 obtain ⟨x1,ex1,hm⟩:=ob hm
 refine sd F rfl ent28 (w_m_triremeref09_Right ex1 H:) ?_;rintro _ w a ⟨rfl,H⟩ F
 refine bb [0,0] F H rfl fun a F=>?_
 by_cases hg2:(!x1)=true
 replace hm:=ifT hg2 hm
 replace F:=F.vT 8 hg2 rfl
 refine bb [0,0,0,0] F H rfl fun a F=>nl (cT F rfl (sb [0] F H rfl fun a F=>nl (wr (tr ?_))))
 cases hm
 refine x_ret1 F rfl rfl ?_
 exact ⟨_,rfl,rfl,H⟩
 replace hm:=ifF hg2 hm
 replace F:=F.vF 8 hg2 rfl
 refine bb [0] F H rfl fun a F=>g_onP F rfl rfl rfl rfl ?_
 obtain ⟨x3,ex3,hm⟩:=ob hm
 refine sd F rfl ent28 (w_m_triremeref09_Right ex3 H:) ?_;rintro _ w a ⟨rfl,H⟩ F
 refine bb [0,0] F H rfl fun a F=>?_
 refine nl (cB F rfl (fun hg4=>?_) (fun hg4=>?_))
 replace hm:=ifT hg4 hm
 refine sb [0] F H rfl fun a F=>nl (wr (tr ?_))
 cases hm
 refine x_ret1 F rfl rfl ?_
 exact ⟨_,rfl,rfl,H⟩
 replace hm:=ifF (nT hg4) hm
 refine sk (ct (sq (sb [0] F H rfl fun a F=>sv F rfl (y_eqT (l:=x0_) (m:=[47]) F rfl rfl rfl) fun a F=>bb [0] F H rfl fun a F=>?_)))
 rcases spP 15 F rfl hm with ⟨hg5,hm,F⟩ | ⟨hg5,hm,F⟩
 refine bb [0,0,0,0] F H rfl fun a F=>nl (cT F rfl (sb [0] F H rfl fun a F=>nl (wr (tr ?_))))
 cases hm
 refine x_ret1 F rfl rfl ?_
 exact ⟨_,rfl,rfl,H⟩
 refine bb [0,0] F H rfl fun a F=>g_onP F rfl rfl rfl rfl (sv F rfl (y_eqT (l:=x0_) (m:=x1_) F rfl rfl rfl) fun a F=>bb [0] F H rfl fun a F=>?_)
 refine nl (cPm F rfl hm (fun hg6 hm=>?_) (fun hg6 hm=>?_))
 refine sb [0] F H rfl fun a F=>nl (wr (tr ?_))
 cases hm
 refine x_ret1 F rfl rfl ?_
 exact ⟨_,rfl,rfl,H⟩
 refine sk (ct (sb [0] F H rfl fun a F=>sv F rfl (y_lenT (l:=x1_) F rfl Tryz.underlying9 rfl) fun a F=>bb [0] F H rfl fun a F=>sv F rfl (y_lenT (l:=x0_) F rfl Tryz.underlying9 rfl) fun a F=>bb [0,0] F H rfl fun a F=>?_))
 rcases spP 25 F rfl hm with ⟨hg7,hm,F⟩ | ⟨hg7,hm,F⟩
 refine bb [0,0] F H rfl fun a F=>g_onP F rfl rfl rfl rfl (sv F rfl (y_lenT (l:=x0_) F rfl Tryz.underlying9 rfl) fun a F=>g_onP F rfl rfl rfl rfl ?_)
 obtain ⟨x8,ex8,hm⟩:=ob hm
 refine sv F rfl (y_slTH F rfl Tryz.underlying9 rfl rfl ex8) fun a F=>bb [0] F H rfl fun a F=>g_onP F rfl rfl rfl rfl (sv F rfl (y_eqT (l:=x8) (m:=x0_) F rfl rfl rfl) fun a F=>bb [0,0] F H rfl fun a F=>?_)
 rcases spP 33 F rfl hm with ⟨hg9,hm,F⟩ | ⟨hg9,hm,F⟩
 refine bb [0,0] F H rfl fun a F=>g_onP F rfl rfl rfl rfl (sv F rfl (y_lenT (l:=x0_) F rfl Tryz.underlying9 rfl) fun a F=>g_onP F rfl rfl rfl rfl ?_)
 obtain ⟨x10,ex10,hm⟩:=ob hm
 refine sv F rfl (y_idxT F rfl Tryz.underlying9 rfl rfl ex10) fun a F=>bb [0,0,0] F H rfl fun a F=>nl (wr ?_)
 cases hm
 refine x_ret1 F rfl rfl ?_
 exact ⟨_,rfl,rfl,H⟩
 refine bb (List.replicate 7 0) F H rfl fun a F=>nl (wr ?_)
 cases hm
 refine x_ret1 F rfl rfl ?_
 exact ⟨_,rfl,rfl,H⟩
 refine bb (List.replicate 15 0) F H rfl fun a F=>nl (wr ?_)
 cases hm
 refine x_ret1 F rfl rfl ?_
 exact ⟨_,rfl,rfl,H⟩
theorem elem30:ElemT Tryz.prog 30 50 3 48 (.agg [.string ByteArray.empty,.bool false,.slice none 0 0].toArray):=⟨Tryz.underlying30,by kernel_rfl,by kernel_rfl,by decide⟩
theorem fld50_0:FieldT Tryz.prog 50 0 0:=by unfold FieldT;rw [Tryz.underlying50];kernel_rfl
theorem w_m_triremeref11_Find {x0_:List T_triremeref11_Node} {x1_:List UInt8} {p1:Option Addr} {c1:Nat} {w0 w:World} {l:List HP}  {r:Int} (hm:m_triremeref11_Find x0_ x1_=some r) (H:St w0 w (HP.sl R_triremeref11_Node p1 c1 x0_::l)) :
  Calls Tryz.prog 27 [.slice p1 (x0_).length c1,.string (txb (x1_))].toArray w (fun e w'=>∃ v,e=.returned v∧v=.int .i64 (r)∧St w0 w' (l)):=by
 unfold m_triremeref11_Find at hm
 refine x_enter Tryz.func27 rfl rfl rfl ?_
 intro a F
 refine sb [0] F H rfl fun a F=>nl (sq (sb [0] F H rfl fun a F=>?_))
 refine nl (xr0 1 [] [] F H hm rfl rfl (fun r24 z=>z) (fun r24 z=>z) (fun o24 hm hm24=>?_) (fun r24 a w hm F H=>?_))
 refine bl (xl0 1 [0,1] [0] F H hm rfl rfl (fun (s39:Int) z=>(5,.int .i64 (s39))::z) (fun s39 z=>z) ⟨F.sl rfl,H⟩ (fun s39 a w o F H hm=>sq (sr (bk [0,0,0,0] F H rfl ⟨⟨_,Tryz.underlying30⟩,trivial⟩ fun a F=>?_))))
 refine nl (cPm F rfl hm (fun hg40 hm=>?_) (fun hg40 hm=>?_))
 refine sk (ct (sq (bl (sb [0,0] F H rfl fun a F=>?_))))
 obtain ⟨x41,ex41,hm⟩:=ob hm
 obtain ⟨b42,o42,hp42,cs43,H⟩:=H.slE 0 rfl ex41
 refine sv F rfl (y_idxS F elem30 rfl rfl rfl hp42 ex41) fun a F=>bk [0] F H rfl ⟨fld50_0,trivial⟩ fun a F=>?_
 have G:=F;replace H:=rc_triremeref11_Node (H.pk 1 rfl);obtain ⟨p44,c45,rfl,J⟩:=H;have H:=J;have F:=G;clear G J
 refine bk [1000,0] F H rfl ⟨rfl,plain9,trivial⟩ fun a F=>sv F rfl (y_eqT (l:=x41.1) (m:=x1_) F rfl rfl rfl) fun a F=>?_
 refine nl (cPm F rfl hm (fun hg46 hm=>?_) (fun hg46 hm=>?_))
 refine sb [0,0] F H rfl fun a F=>?_
 refine nl (wr (br (tr (tr ?_))));cases hm;refine ⟨_,rfl,?_⟩;rintro rfl
 refine br (tr ?_)
 replace hm:=elimR hm24
 refine tr ?_
 cases hm
 refine x_ret1 F rfl rfl ?_
 exact ⟨_,rfl,rfl,(H.pm 3 [] rfl:)⟩
 refine sk (bn (ct (rl (bb [0,0,0] F H rfl fun a F=>?_))))
 refine lz (ct ?_);cases hm
 exact ⟨_,rfl,⟨F.sl rfl,(H.pm 3 [2] rfl:)⟩⟩
 refine ex (cx (cx ?_));cases hm;refine ⟨_,rfl,?_⟩;rintro rfl
 refine ch (ct ?_)
 exact ⟨_,rfl,F.cut _ trivial,(H.pm 1 [] rfl:)⟩
 refine ct (sb [0] F H rfl fun a F=>nl (wr ?_))
 cases hm
 refine x_ret1 F rfl rfl ?_
 exact ⟨_,rfl,rfl,H⟩
theorem w_m_triremeref11_put {x0_:List T_api_Pair} {x1_:T_api_Pair} {p1:Option Addr} {c1:Nat} {cs2:List Value} {w0 w:World} {l:List HP}  {r:(List T_api_Pair)} (hm:m_triremeref11_put x0_ x1_=some r) (H:St w0 w (HP.sl R_api_Pair p1 c1 x0_::HP.rc R_api_Pair cs2 x1_::l)) :
  Calls Tryz.prog 45 [.slice p1 (x0_).length c1,.agg cs2.toArray].toArray w (fun e w'=>∃ v,e=.returned v∧∃ (p3:Option Addr) (c3:Nat),v=.slice p3 (r).length c3∧St w0 w' (HP.sl R_api_Pair p3 c3 r::l)):=by
 unfold m_triremeref11_put at hm
 refine x_enter Tryz.func45 rfl rfl rfl ?_
 intro a F
 refine sr (s_boxA wkP F rfl rfl rfl rfl rfl H fun b4 w a H F=>bb [0] F H rfl fun a F=>?_)
 replace H:=H.nf 3 rfl
 refine nl (sq (xm2 3 [] [0,2] F H hm rfl rfl (fun r22 (p23:Option Addr) (c23:Nat) z=>(5,.slice p23 (r22).length c23)::z) (fun r22 p23 c23 z=>HP.ow R_api_Pair 60 p23 c23 r22::z) (fun r22 hm=>?_) (fun r22 a w hm p23 c23 F H=>?_)))
 refine mix_region [0,2,4,5] [] (.step 0 1 (.step 0 3 (.fork 0 (.fork 2 (.step 2 4 (.step 2 5 (.step 0 6 .done))) 4 (.step 2 2 (.step 2 5 (.step 0 6 .done)))) 4 (.step 2 0 (.step 2 2 (.step 2 5 (.step 0 6 .done))))))) (fun u=>∃ ls,St w0 u (HP.blk b4 (cs2) 60::HP.rc R_api_Pair cs2 x1_::ls)) (by kernel_rfl) (by kernel_rfl) ⟨_,(H.drew.pm 3 [0,2,1,2] rfl:)⟩ ?_
 replace H:=H.drew
 generalize w.drew=w at H ⊢
 refine mb [0] F H rfl fun a F=>?_
 refine m_pure F rfl rfl rfl rfl (fun u hu=>y_loadA F agg60 rfl rfl ((hu.choose_spec.blk 0 rfl).row) (hu.choose_spec.rcLen 1 rfl)) fun a F=>?_
 refine m_fork rfl rfl rfl rfl ?_ ?_
 refine m_heavy rfl rfl (s_build0O (R:=R_api_Pair) wkP F rfl rfl rfl elem22 rfl H fun b24 w a H F=>?_)
 refine lz ?_;refine ct ⟨⟨_,(H.pm 4 [1,3,0,2,3] rfl:)⟩,?_⟩
 refine m_fork rfl rfl rfl rfl ?_ ?_
 refine m_heavy rfl rfl ?_
 obtain ⟨x26,ex26,hm⟩:=ob hm
 refine s_app wkP F rfl rfl rfl rfl rfl rfl elem22 rfl ex26 H 0 2 rfl rfl fun p25 c25 w a H F=>?_
 refine lz ?_;refine ct ⟨⟨_,(H.pm 4 [1,3,0,2,3] rfl:)⟩,?_⟩
 refine m_heavy rfl rfl ?_
 refine s_build1 wkP F rfl rfl rfl agg60 elem22 rfl rfl (H.rcLen 3 rfl) (by decide) H fun b27 w a H F=>?_
 replace H:=H.blkOw1 (R:=R_api_Pair) (x:=x1_) (fun gg=>(gg 4 _ rfl).choose_spec)
 refine lz ?_;refine ct ⟨⟨_,(H.pm 5 [2,4,0,1,3,4] rfl:)⟩,?_⟩
 refine m_heavy rfl rfl ?_
 replace H:=H.frz 0 rfl
 obtain ⟨x29,ex29,hm⟩:=ob hm
 refine s_app wkP F rfl rfl rfl rfl rfl rfl elem22 rfl ex29 H 1 0 rfl rfl fun p28 c28 w a H F=>?_
 refine lz ?_;refine ct ⟨⟨_,(H.pm 5 [2,4,0,1,3,4] rfl:)⟩,?_⟩
 refine mb [0] F H rfl fun a F=>m_nil ?_
 cases hm
 refine ct ?_
 exact ⟨p28,c28,F.sl rfl,(H.pm 5 [1,2,4] rfl:)⟩
 refine m_heavy rfl rfl ?_
 refine s_build1 wkP F rfl rfl rfl agg60 elem22 rfl rfl (H.rcLen 3 rfl) (by decide) H fun b30 w a H F=>?_
 replace H:=H.blkOw1 (R:=R_api_Pair) (x:=x1_) (fun gg=>(gg 4 _ rfl).choose_spec)
 refine lz ?_;refine ct ⟨⟨_,(H.pm 5 [2,4,0,1,3,4] rfl:)⟩,?_⟩
 refine m_heavy rfl rfl ?_
 obtain ⟨x32,ex32,hm⟩:=ob hm
 refine s_app wkP F rfl rfl rfl rfl rfl rfl elem22 rfl ex32 H 1 3 rfl rfl fun p31 c31 w a H F=>?_
 refine lz ?_;refine ct ⟨⟨_,(H.pm 5 [2,4,0,1,3,4] rfl:)⟩,?_⟩
 refine m_heavy rfl rfl ?_
 replace H:=H.frz 0 rfl
 obtain ⟨x34,ex34,hm⟩:=ob hm
 refine s_app wkP F rfl rfl rfl rfl rfl rfl elem22 rfl ex34 H 1 0 rfl rfl fun p33 c33 w a H F=>?_
 refine lz ?_;refine ct ⟨⟨_,(H.pm 5 [2,4,0,1,3,4] rfl:)⟩,?_⟩
 refine mb [0] F H rfl fun a F=>m_nil ?_
 cases hm
 refine ct ?_
 exact ⟨p33,c33,F.sl rfl,(H.pm 5 [1,2,4] rfl:)⟩
 refine m_heavy rfl rfl ?_
 refine s_build1 wkP F rfl rfl rfl agg60 elem22 rfl rfl (H.rcLen 2 rfl) (by decide) H fun b35 w a H F=>?_
 replace H:=H.blkOw1 (R:=R_api_Pair) (x:=x1_) (fun gg=>(gg 3 _ rfl).choose_spec)
 refine lz ?_;refine ct ⟨⟨_,(H.pm 4 [1,3,0,2,3] rfl:)⟩,?_⟩
 refine m_heavy rfl rfl (s_build0O (R:=R_api_Pair) wkP F rfl rfl rfl elem22 rfl H fun b36 w a H F=>?_)
 refine lz ?_;refine ct ⟨⟨_,(H.pm 5 [2,4,0,1,3,4] rfl:)⟩,?_⟩
 refine m_heavy rfl rfl ?_
 obtain ⟨x38,ex38,hm⟩:=ob hm
 refine s_app wkP F rfl rfl rfl rfl rfl rfl elem22 rfl ex38 H 0 3 rfl rfl fun p37 c37 w a H F=>?_
 refine lz ?_;refine ct ⟨⟨_,(H.pm 5 [2,4,0,1,3,4] rfl:)⟩,?_⟩
 refine m_heavy rfl rfl ?_
 replace H:=H.frz 1 rfl
 obtain ⟨x40,ex40,hm⟩:=ob hm
 refine s_app wkP F rfl rfl rfl rfl rfl rfl elem22 rfl ex40 H 1 0 rfl rfl fun p39 c39 w a H F=>?_
 refine lz ?_;refine ct ⟨⟨_,(H.pm 5 [2,4,0,1,3,4] rfl:)⟩,?_⟩
 refine mb [0] F H rfl fun a F=>m_nil ?_
 cases hm
 refine ct ?_
 exact ⟨p39,c39,F.sl rfl,(H.pm 5 [1,2,4] rfl:)⟩
 refine ct (sq (sr (bk [0,0,0,0] F H rfl ⟨⟨_,Tryz.underlying22⟩,trivial⟩ fun a F=>?_)))
 refine nl (xm2 3 [] [1,2] F H hm rfl rfl (fun r117 (p118:Option Addr) (c118:Nat) z=>(5,.slice p118 (r117).length c118)::z) (fun r117 p118 c118 z=>HP.ow R_api_Pair 60 p118 c118 r117::z) (fun r117 hm=>?_) (fun r117 a w hm p118 c118 F H=>?_))
 refine bl (xl2 3 [] [1,2] F H hm rfl rfl (fun (s169:(List T_api_Pair)×Int) (p170:Option Addr) (c170:Nat) z=>(5,.slice p170 (s169.1).length c170)::(6,.int .i64 (s169.2))::z) (fun s169 p170 c170 z=>HP.ow R_api_Pair 60 p170 c170 s169.1::z) ⟨p23,c23,F.sl rfl,H⟩ (fun s169 a w o p170 c170 F H hm=>sq (sq ?_)))
 by_cases hg171:0<s169.2
 replace hm:=ifT hg171 hm
 obtain ⟨x172,ex172,hm⟩:=ob hm
 obtain ⟨b173,hp173⟩:=H.owP 0 rfl (idxO_some ex172).2
 obtain ⟨css174,H⟩:=H.oxOpen 0 rfl
 obtain ⟨cs174,hcs174,hcl174,H⟩:=H.oxEl 0 rfl (idxO_some ex172).2
 have G:=F;replace H:=rc_api_Pair (H.pk 0 rfl);obtain ⟨p175,c176,p177,c178,rfl,J⟩:=H;have H:=J;have F:=G;clear G J
 obtain ⟨x179,ex179,hm⟩:=ob hm
 obtain ⟨cs180,hcs180,hcl180,H⟩:=H.oxEl 2 rfl (idxO_some ex179).2
 have G:=F;replace H:=rc_api_Pair (H.pk 0 rfl);obtain ⟨p181,c182,p183,c184,rfl,J⟩:=H;have H:=J;have F:=G;clear G J
 refine qr H (by kernel_rfl) (by kernel_rfl) ?_
 refine qb [0,0,0] F rfl fun a F=>?_
 replace F:=F.bT 19 hg171 rfl
 refine qb [0,0] F rfl fun a F=>?_
 refine qg_on F rfl rfl rfl rfl ?_
 refine qv F rfl (fun u hu=>y_idxS F elem22 rfl rfl rfl hp173 ex172) fun a F=>qbk [0] F rfl ⟨fld60_0,trivial⟩ fun a F=>?_
 refine qg_on F rfl rfl rfl rfl ?_
 refine qv F rfl (fun u hu=>y_load1 F plain23 rfl rfl (row_at (v:=.slice p175 (x172.1).length c176) (hu.oxRow 4 rfl hp173 hcs174 hcl174) rfl)) fun a F=>?_
 refine qg_on F rfl rfl rfl rfl ?_
 refine qv F rfl (fun u hu=>y_b2s F Tryz.underlying23 Tryz.underlying9 Tryz.underlying5 rfl rfl (hu) 2 rfl) fun a F=>qb [0,0,0] F rfl fun a F=>?_
 refine qg_on F rfl rfl rfl rfl ?_
 refine qv F rfl (fun u hu=>y_idxS F elem22 rfl rfl rfl hp173 ex179) fun a F=>qbk [0] F rfl ⟨fld60_0,trivial⟩ fun a F=>?_
 refine qg_on F rfl rfl rfl rfl ?_
 refine qv F rfl (fun u hu=>y_load1 F plain23 rfl rfl (row_at (v:=.slice p181 (x179.1).length c182) (hu.oxRow 4 rfl hp173 hcs180 hcl180) rfl)) fun a F=>?_
 refine qg_on F rfl rfl rfl rfl ?_
 refine qv F rfl (fun u hu=>y_b2s F Tryz.underlying23 Tryz.underlying9 Tryz.underlying5 rfl rfl (hu) 0 rfl) fun a F=>?_
 refine qg_on F rfl rfl rfl rfl ?_
 refine qv F rfl (fun u hu=>y_lssT (l:=x172.1) (m:=x179.1) F rfl rfl rfl) fun a F=>qb [0] F rfl fun a F=>?_
 refine q_nil fun w H=>?_
 replace H:=H.oxShut 4 rfl
 refine ct (cB F rfl (fun hg185=>?_) (fun hg185=>?_))
 replace hm:=ifT hg185 hm
 refine sk (ct (sq (bl (sb [0,0] F H rfl fun a F=>?_))))
 obtain ⟨x186,ex186,hm⟩:=ob hm
 obtain ⟨css187,H⟩:=H.oxOpen 4 rfl
 obtain ⟨cs187,hcs187,hcl187,H⟩:=H.oxEl 4 rfl (idxO_some ex186).2
 refine sv F rfl (y_idxS F elem22 rfl rfl rfl hp173 ex186) fun a F=>sv F rfl (y_loadA F agg60 rfl rfl (H.oxRow 5 rfl hp173 hcs187 hcl187) (H.rcLen 0 rfl)) fun a F=>?_
 replace H:=H.owNil rByte 5
 replace H:=H.owNil rByte 5
 refine s_allocA wkP F rfl rfl rfl agz60 rfl H fun b188 w a H F=>s_storeA wkP F rfl rfl agg60 rfl rfl rfl H 0 rfl (H.rcLen 3 rfl) rfl (H.rcFlat 3 rfl) fun w H=>?_
 replace H:=H.nf 11 rfl
 refine nl ?_
 replace H:=H.oxShut 8 rfl
 refine sb (List.replicate 5 0) F H rfl fun a F=>?_
 obtain ⟨x189,ex189,hm⟩:=ob hm
 obtain ⟨css190,H⟩:=H.oxOpen 8 rfl
 obtain ⟨cs190,hcs190,hcl190,H⟩:=H.oxEl 8 rfl (idxO_some ex189).2
 refine sv F rfl (y_idxS F elem22 rfl rfl rfl hp173 ex189) fun a F=>sv F rfl (y_loadA F agg60 rfl rfl (H.oxRow 9 rfl hp173 hcs190 hcl190) (H.rcLen 0 rfl)) fun a F=>?_
 obtain ⟨x191,ex191,hm⟩:=ob hm
 obtain ⟨cs192,hcs192,hcl192,H⟩:=H.oxEl 9 rfl (idxO_some ex191).2
 refine sv F rfl (y_idxS F elem22 rfl rfl rfl hp173 ex191) fun a F=>?_
 replace H:=H.oxShut 10 rfl
 refine s_owSetA wkP F rfl rfl agg60 rfl rfl rfl rfl H 10 rfl hp173 ex191 (zz:=x189) (fun gg=>(gg 1 _ rfl).choose_spec) (H.rcFlat 1 rfl) (H.rcLen 1 rfl) fun w H=>?_
 replace H:St w0 w (HP.rc R_api_Pair cs192 x191::HP.rc R_api_Pair cs190 x189::HP.blk b188 (cs187) 60::HP.ow rByte 5 none 0 ([]:List UInt8)::HP.ow rByte 5 none 0 ([]:List UInt8)::HP.rc R_api_Pair cs187 x186::HP.sl rByte p181 c182 x179.1::HP.sl rByte p183 c184 x179.2::HP.sl rByte p175 c176 x172.1::HP.sl rByte p177 c178 x172.2::HP.ow R_api_Pair 60 p170 c170 ((s169.1).set (s169.2:Int).toNat x189)::HP.blk b4 (cs2) 60::HP.rc R_api_Pair cs2 x1_::l):=(by have h:=H;first | exact h | (simp only [List.length_set] at h ⊢;exact h))
 replace F:=F.bool (k:=5) (u:=.slice p170 ((s169.1).set (s169.2:Int).toNat x189).length c170) rfl (by simp only [List.length_set])
 replace F:=F.bool (k:=20) (u:=.slice p170 ((s169.1).set (s169.2:Int).toNat x189).length c170) rfl (by simp only [List.length_set])
 replace F:=F.bool (k:=26) (u:=.slice p170 ((s169.1).set (s169.2:Int).toNat x189).length c170) rfl (by simp only [List.length_set])
 replace F:=F.bool (k:=37) (u:=.slice p170 ((s169.1).set (s169.2:Int).toNat x189).length c170) rfl (by simp only [List.length_set])
 replace F:=F.bool (k:=41) (u:=.slice p170 ((s169.1).set (s169.2:Int).toNat x189).length c170) rfl (by simp only [List.length_set])
 replace F:=F.bool (k:=43) (u:=.slice p170 ((s169.1).set (s169.2:Int).toNat x189).length c170) rfl (by simp only [List.length_set])
 refine nl (rl (bk [0,0,0,2999] F H rfl ⟨rfl,(aggn agg60 (H.rcLen 5 rfl)),trivial⟩ fun a F=>?_))
 obtain ⟨x193,ex193,hm⟩:=ob hm
 obtain ⟨css194,H⟩:=H.oxOpen 10 rfl
 obtain ⟨cs194,hcs194,hcl194,H⟩:=H.oxEl 10 rfl (idxO_some ex193).2
 refine sv F rfl (y_idxS F elem22 rfl rfl rfl hp173 ex193) fun a F=>?_
 replace H:=H.oxShut 11 rfl
 refine s_owSetA wkP F rfl rfl agg60 rfl rfl rfl rfl H 11 rfl hp173 ex193 (zz:=x186) (fun gg=>(gg 6 _ rfl).choose_spec) (H.rcFlat 6 rfl) (H.rcLen 6 rfl) fun w H=>?_
 replace H:St w0 w (HP.rc R_api_Pair cs194 x193::HP.rc R_api_Pair cs192 x191::HP.rc R_api_Pair cs190 x189::HP.blk b188 (cs187) 60::HP.ow rByte 5 none 0 ([]:List UInt8)::HP.ow rByte 5 none 0 ([]:List UInt8)::HP.rc R_api_Pair cs187 x186::HP.sl rByte p181 c182 x179.1::HP.sl rByte p183 c184 x179.2::HP.sl rByte p175 c176 x172.1::HP.sl rByte p177 c178 x172.2::HP.ow R_api_Pair 60 p170 c170 (((s169.1).set (s169.2:Int).toNat x189).set (IntKind.i64.wrap (s169.2 - 1):Int).toNat x186)::HP.blk b4 (cs2) 60::HP.rc R_api_Pair cs2 x1_::l):=(by have h:=H;first | exact h | (simp only [List.length_set] at h ⊢;exact h))
 replace F:=F.bool (k:=5) (u:=.slice p170 (((s169.1).set (s169.2:Int).toNat x189).set (IntKind.i64.wrap (s169.2 - 1):Int).toNat x186).length c170) rfl (by simp only [List.length_set])
 replace F:=F.bool (k:=20) (u:=.slice p170 (((s169.1).set (s169.2:Int).toNat x189).set (IntKind.i64.wrap (s169.2 - 1):Int).toNat x186).length c170) rfl (by simp only [List.length_set])
 replace F:=F.bool (k:=26) (u:=.slice p170 (((s169.1).set (s169.2:Int).toNat x189).set (IntKind.i64.wrap (s169.2 - 1):Int).toNat x186).length c170) rfl (by simp only [List.length_set])
 replace F:=F.bool (k:=37) (u:=.slice p170 (((s169.1).set (s169.2:Int).toNat x189).set (IntKind.i64.wrap (s169.2 - 1):Int).toNat x186).length c170) rfl (by simp only [List.length_set])
 replace F:=F.bool (k:=41) (u:=.slice p170 (((s169.1).set (s169.2:Int).toNat x189).set (IntKind.i64.wrap (s169.2 - 1):Int).toNat x186).length c170) rfl (by simp only [List.length_set])
 replace F:=F.bool (k:=43) (u:=.slice p170 (((s169.1).set (s169.2:Int).toNat x189).set (IntKind.i64.wrap (s169.2 - 1):Int).toNat x186).length c170) rfl (by simp only [List.length_set])
 replace F:=F.bool (k:=49) (u:=.slice p170 (((s169.1).set (s169.2:Int).toNat x189).set (IntKind.i64.wrap (s169.2 - 1):Int).toNat x186).length c170) rfl (by simp only [List.length_set])
 refine lz (bn (ct (rl (bb [0,0,0] F H rfl fun a F=>?_))))
 refine lz (ct ?_);cases hm
 exact ⟨_,rfl,⟨p170,c170,F.sl rfl,(H.pm 14 [11,12,13] rfl:)⟩⟩
 replace hm:=ifF (nT hg185) hm
 refine ex (cx (cx ?_));cases hm;refine ⟨_,rfl,?_⟩;rintro rfl
 refine ch (ct ?_)
 exact ⟨p170,c170,F.sl rfl,(H.pm 7 [4,5,6] rfl:)⟩
 replace hm:=ifF hg171 hm
 refine qr H (by kernel_rfl) (by kernel_rfl) ?_
 refine qb [0,0,0] F rfl fun a F=>?_
 replace F:=F.bF 19 hg171 rfl
 refine qb (List.replicate 15 0) F rfl fun a F=>?_
 refine q_nil fun w H=>?_
 refine ct (cF F rfl ?_)
 refine ex (cx (cx ?_));cases hm;refine ⟨_,rfl,?_⟩;rintro rfl
 refine ch (ct ?_)
 exact ⟨p170,c170,F.sl rfl,H⟩
 refine ct (sb [0,0] F H rfl fun a F=>nl (wr ?_))
 replace H:=H.frz 0 rfl
 cases hm
 refine x_ret1 F rfl rfl ?_
 exact ⟨_,rfl,p118,c118,rfl,(H.pm 3 [0] rfl:)⟩
theorem agg50:AggT Tryz.prog 50 3 [.string ByteArray.empty,.bool false,.slice none 0 0]:=⟨by rw [Tryz.underlying50];rfl,by kernel_rfl,by kernel_rfl⟩
theorem agz50:AggT Tryz.prog 50 3 ([.string (txb ([])),.bool false,.slice none (([]:List UInt8)).length 0]):=⟨by rw [Tryz.underlying50];rfl,by kernel_rfl,by kernel_rfl⟩
theorem fld50_1:FieldT Tryz.prog 50 1 1:=by unfold FieldT;rw [Tryz.underlying50];kernel_rfl
theorem ent45:En Tryz.prog 45:=enters Tryz.func45 (by kernel_rfl) rfl
theorem fld50_2:FieldT Tryz.prog 50 2 2:=by unfold FieldT;rw [Tryz.underlying50];kernel_rfl
theorem w_m_triremeref11_Pairs {x0_:List T_triremeref11_Node} {p1:Option Addr} {c1:Nat} {w0 w:World} {l:List HP}  {r:(List T_api_Pair)} (hm:m_triremeref11_Pairs x0_=some r) (H:St w0 w (HP.sl R_triremeref11_Node p1 c1 x0_::l)) :
  Calls Tryz.prog 20 [.slice p1 (x0_).length c1].toArray w (fun e w'=>∃ v,e=.returned v∧∃ (p2:Option Addr) (c2:Nat),v=.slice p2 (r).length c2∧St w0 w' (HP.sl R_api_Pair p2 c2 r::l)):=by
 unfold m_triremeref11_Pairs at hm
 refine x_enter Tryz.func20 rfl rfl rfl ?_
 intro a F
 refine sb [0] F H rfl fun a F=>nl (sr (s_build0O (R:=R_api_Pair) wkP F rfl rfl rfl elem22 rfl H fun b3 w a H F=>bb [0] F H rfl fun a F=>?_))
 replace H:=H.nf 2 rfl
 refine nl (sq (sb [0] F H rfl fun a F=>?_))
 refine nl (xm2 2 [] [] F H hm rfl rfl (fun r3419 (p3420:Option Addr) (c3420:Nat) z=>(3,.slice p3420 (r3419).length c3420)::z) (fun r3419 p3420 c3420 z=>HP.sl R_api_Pair p3420 c3420 r3419::z) (fun r3419 hm=>?_) (fun r3419 a w hm p3420 c3420 F H=>?_))
 refine bl ?_
 replace H:=H.frz 0 rfl
 refine xl2 2 [0] [1] F H hm rfl rfl (fun (s5697:(List T_api_Pair)×Int) (p5698:Option Addr) (c5698:Nat) z=>(3,.slice p5698 (s5697.1).length c5698)::(4,.int .i64 (s5697.2))::z) (fun s5697 p5698 c5698 z=>HP.sl R_api_Pair p5698 c5698 s5697.1::z) ⟨(some ⟨b3,0,none⟩),0,F.sl rfl,H⟩ (fun s5697 a w o p5698 c5698 F H hm=>?_)
 refine sq (sr (bk [0,0,0,0] F H rfl ⟨⟨_,Tryz.underlying30⟩,trivial⟩ fun a F=>?_))
 refine nl (cPm F rfl hm (fun hg5699 hm=>?_) (fun hg5699 hm=>?_))
 refine sk (ct (sq (xm2 2 [0,4] [1] F H hm rfl rfl (fun r6267 (p6268:Option Addr) (c6268:Nat) z=>(3,.slice p6268 (r6267).length c6268)::z) (fun r6267 p6268 c6268 z=>HP.sl R_api_Pair p6268 c6268 r6267::z) (fun r6267 hm=>?_) (fun r6267 a w hm p6268 c6268 F H=>?_))))
 refine bl (sb [0,0] F H rfl fun a F=>?_)
 obtain ⟨x6269,ex6269,hm⟩:=ob hm
 obtain ⟨b6270,o6270,hp6270,cs6271,H⟩:=H.slE 1 rfl ex6269
 refine sv F rfl (y_idxS F elem30 rfl rfl rfl hp6270 ex6269) fun a F=>bk [999] F H rfl ⟨rfl,(aggn agg50 (H.rcLen 1 rfl)),trivial⟩ fun a F=>?_
 replace H:=H.owNil rByte 5
 refine s_allocA wkP F rfl rfl rfl agz50 rfl H fun b6272 w a H F=>s_storeA wkP F rfl rfl agg50 rfl rfl rfl H 0 rfl (H.rcLen 3 rfl) rfl (H.rcFlat 3 rfl) fun w H=>?_
 replace H:=H.nf 6 rfl
 refine nl (sq (sr (bk [1] F H rfl ⟨fld50_1,trivial⟩ fun a F=>?_)))
 have G:=F;replace H:=rc_triremeref11_Node (H.pk 3 rfl);obtain ⟨p6273,c6274,rfl,J⟩:=H;have H:=J;have F:=G;clear G J
 refine bk [1001] F H rfl ⟨rfl,plain4,trivial⟩ fun a F=>?_
 refine nl (cB F rfl (fun hg6275=>?_) (fun hg6275=>?_))
 replace hm:=ifT hg6275 hm
 refine sr (bk [0,0,1000] F H rfl ⟨fld50_0,rfl,plain9,trivial⟩ fun a F=>?_)
 obtain ⟨x6276,ex6276,hm⟩:=ob hm
 refine sv F rfl (y_addO F rfl rfl rfl ex6276) fun a F=>?_
 refine s_cvT (e:=5) (xs:=x6276) wkP F rfl rfl rfl Tryz.underlying9 Tryz.underlying23 Tryz.underlying5 rfl rfl H fun b6277 c6277 w a H F=>?_
 obtain ⟨x6279,ex6279,hm⟩:=ob hm
 refine s_buildC wkP F rfl rfl rfl elem23 zero5 rfl rfl rfl rfl (by simp [Value.cells]) (by decide) H fun b6278 w a H F=>?_
 replace H:=H.blkOw1 (R:=rByte) (x:=x6279) (fun gg=>(congrArg (fun z=>[Value.int .u8 z]) (u8O_some ex6279).symm))
 refine s_convSl wkP F rfl rfl rfl Tryz.underlying23 Tryz.underlying5 rfl rfl H 0 rfl fun w a H F=>?_
 refine sv F rfl (y_build F rfl rfl (cs:=[.slice (some ⟨b6277,0,none⟩) (x6276).length c6277,.slice (some ⟨b6278,0,none⟩) ([x6279]).length (([x6279]).length)]) (by kernel_rfl)) fun a F=>?_
 replace H:=H.cvFrz 1 rfl
 replace H:=mk_api_Pair H 0 rfl 1 rfl
 obtain ⟨x6280,ex6280,hm⟩:=ob hm
 refine sd F rfl ent45 (w_m_triremeref11_put ex6280 (H.pm 9 [7,0,0,1,2,3,4,5,6,7,8] rfl:):) ?_;rintro _ w a ⟨p6281,c6281,rfl,H⟩ F
 refine bb [0] F H rfl fun a F=>?_
 replace H:=H.nf 10 rfl
 refine nl (ex (cx (ch ?_)))
 cases hm
 refine ct ?_
 exact ⟨p6281,c6281,F.sl rfl,(H.pm 10 [0,9] rfl:)⟩
 replace hm:=ifF (nT hg6275) hm
 refine sk (ct (sr (bk [2,1002,0,0] F H rfl ⟨fld50_2,rfl,plain23,⟨_,Tryz.underlying23⟩,trivial⟩ fun a F=>nl (sr (bk [0,0,1000] F H rfl ⟨fld50_0,rfl,plain9,trivial⟩ fun a F=>?_)))))
 obtain ⟨x6282,ex6282,hm⟩:=ob hm
 refine sv F rfl (y_addO F rfl rfl rfl ex6282) fun a F=>?_
 refine s_cvT (e:=5) (xs:=x6282) wkP F rfl rfl rfl Tryz.underlying9 Tryz.underlying23 Tryz.underlying5 rfl rfl H fun b6283 c6283 w a H F=>?_
 refine bb [0] F H rfl fun a F=>?_
 obtain ⟨x6284,ex6284,hm⟩:=ob hm
 refine sv F rfl (i_quo F rfl rfl rfl ex6284) fun a F=>bk [1,0] F H rfl ⟨Tryz.underlying3,Tryz.underlying5,trivial⟩ fun a F=>?_
 obtain ⟨x6285,ex6285,hm⟩:=ob hm
 refine sv F rfl (i_rem F rfl rfl rfl ex6285) fun a F=>bk [1] F H rfl ⟨Tryz.underlying3,Tryz.underlying5,trivial⟩ fun a F=>?_
 obtain ⟨x6287,ex6287,hm⟩:=ob hm
 obtain ⟨x6288,ex6288,hm⟩:=ob hm
 obtain ⟨x6289,ex6289,hm⟩:=ob hm
 refine s_buildC wkP F rfl rfl rfl elem23 zero5 rfl rfl rfl rfl (by simp [Value.cells]) (by decide) H fun b6286 w a H F=>?_
 replace H:St w0 w (HP.ow rByte 5 (some ⟨b6286,0,none⟩) (([x6287,x6288,x6289]).length) ([x6287,x6288,x6289])::HP.cv 5 b6283 c6283 x6282::HP.sl rByte p6273 c6274 x6269.2.2::HP.blk b6272 ([.string (txb (x6269.1)),.bool (x6269.2.1),.slice p6273 (x6269.2.2).length c6274]) 50::HP.ow rByte 5 none 0 ([]:List UInt8)::HP.row b6270 (o6270+(s5697.2:Int).toNat * 3) ([.string (txb (x6269.1)),.bool (x6269.2.1),.slice p6273 (x6269.2.2).length c6274])::HP.sl R_api_Pair p5698 c5698 s5697.1::HP.sl R_triremeref11_Node p1 c1 x0_::l):=H.blkOw (R:=rByte) 0 rfl (fun gg=>⟨[[.int .u8 (102)],[.int .u8 (IntKind.u8.wrap (x6284))],[.int .u8 (IntKind.u8.wrap (x6285))]],rfl,(congrArg (fun z=>[Value.int .u8 z]) (u8O_some ex6287).symm),(congrArg (fun z=>[Value.int .u8 z]) (u8O_some ex6288).symm),(congrArg (fun z=>[Value.int .u8 z]) (u8O_some ex6289).symm),trivial⟩) (by simp)
 refine sv F rfl (y_build F rfl rfl (cs:=[.slice (some ⟨b6283,0,none⟩) (x6282).length c6283,.slice (some ⟨b6286,0,none⟩) ([x6287,x6288,x6289]).length (([x6287,x6288,x6289]).length)]) (by kernel_rfl)) fun a F=>?_
 replace H:=H.cvFrz 1 rfl
 replace H:=H.frz 1 rfl
 replace H:=mk_api_Pair H 1 rfl 0 rfl
 obtain ⟨x6290,ex6290,hm⟩:=ob hm
 refine sd F rfl ent45 (w_m_triremeref11_put ex6290 (H.pm 9 [7,0,0,1,2,3,4,5,6,7,8] rfl:):) ?_;rintro _ w a ⟨p6291,c6291,rfl,H⟩ F
 refine bb [0] F H rfl fun a F=>?_
 replace H:=H.nf 10 rfl
 refine nb [0] F H rfl fun a F=>?_
 refine nl (xm2 10 [0,4] [4,5,6,7,9] F H hm rfl rfl (fun r6563 (p6564:Option Addr) (c6564:Nat) z=>(3,.slice p6564 (r6563).length c6564)::z) (fun r6563 p6564 c6564 z=>HP.sl R_api_Pair p6564 c6564 r6563::z) (fun r6563 hm=>?_) (fun r6563 a w hm p6564 c6564 F H=>?_))
 refine bl (xl2 10 [0,4,5,6] [4,5,6,7,9] F H hm rfl rfl (fun (s6745:(List T_api_Pair)×Int) (p6746:Option Addr) (c6746:Nat) z=>(3,.slice p6746 (s6745.1).length c6746)::(7,.int .i64 (s6745.2))::z) (fun s6745 p6746 c6746 z=>HP.sl R_api_Pair p6746 c6746 s6745.1::z) ⟨p6291,c6291,F.sl rfl,(H.pm 10 [0,4,5,6,7,9] rfl:)⟩ (fun s6745 a w o p6746 c6746 F H hm=>sq (sb [0,0,0,0] F H rfl fun a F=>?_)))
 refine nl (cPm F rfl hm (fun hg6747 hm=>?_) (fun hg6747 hm=>?_))
 refine sk (ct (sq (xm2 6 [0,4,5,6,7] [1,2,3,4,5] F H hm rfl rfl (fun r6791 (p6792:Option Addr) (c6792:Nat) z=>(3,.slice p6792 (r6791).length c6792)::z) (fun r6791 p6792 c6792 z=>HP.sl R_api_Pair p6792 c6792 r6791::z) (fun r6791 hm=>?_) (fun r6791 a w hm p6792 c6792 F H=>?_))))
 refine bl (sb [0,0,0,0] F H rfl fun a F=>nl (sq (sb [0,0,0] F H rfl fun a F=>?_)))
 refine nl (xm0 6 [0,3,4,5,6,7] [0,1,2,3,4,5] F H hm rfl rfl (fun r6794 z=>(8,.int .i64 (r6794))::z) (fun r6794 z=>z) (fun r6794 hm=>?_) (fun r6794 a w hm F H=>?_))
 refine cPm F rfl hm (fun hg6795 hm=>?_) (fun hg6795 hm=>?_)
 refine rl (bb [0,0] F H rfl fun a F=>lz ?_)
 cases hm
 refine ct ?_
 exact ⟨F.sl rfl,H⟩
 refine sk ?_
 cases hm
 refine ct ?_
 exact ⟨F.sl rfl,H⟩
 refine ct (xm2 6 [0,4,5,6,7] [1,2,3,4,5] F H hm rfl rfl (fun r6815 (p6816:Option Addr) (c6816:Nat) z=>(3,.slice p6816 (r6815).length c6816)::z) (fun r6815 p6816 c6816 z=>HP.sl R_api_Pair p6816 c6816 r6815::z) (fun r6815 hm=>?_) (fun r6815 a w hm p6816 c6816 F H=>?_))
 obtain ⟨x6817,ex6817,hm⟩:=ob hm
 obtain ⟨x6819,ex6819,hm⟩:=ob hm
 have hc6818:=H.slCap 1 rfl
 replace H:=H.slSubN 1 rfl 1 rfl ex6819
 refine mix_region [4,7,8,16] [] (.step 0 0 (.step 0 1 (.step 0 2 (.step 0 3 (.step 0 5 (.step 0 6 (.step 0 9 (.step 0 10 (.step 0 11 (.step 0 12 (.step 0 13 (.step 0 14 (.fork 4 (.step 2 7 (.step 2 8 (.step 0 15 (.step 2 16 (.step 0 17 .done))))) 7 (.step 2 4 (.step 2 8 (.step 0 15 (.step 2 16 (.step 0 17 .done)))))))))))))))))) (fun u=>∃ ls,St w0 u (HP.blk b6272 ([.string (txb (x6269.1)),.bool (x6269.2.1),.slice p6273 (x6269.2.2).length c6274]) 50::ls)) (by kernel_rfl) (by kernel_rfl) ⟨_,(H.drew.pm 7 [3,0,1,2,4,5,6] rfl:)⟩ ?_
 replace H:=H.drew
 generalize w.drew=w at H ⊢
 refine mbk [0,0] F H rfl ⟨fld50_0,trivial⟩ fun a F=>?_
 refine m_pure F rfl rfl rfl rfl (fun u hu=>y_load1 F plain9 rfl rfl (row_at (v:=.string (txb (x6269.1))) ((hu.choose_spec.blk 0 rfl).row) rfl)) fun a F=>?_
 refine m_pure F rfl rfl rfl rfl (fun u hu=>y_addO F rfl rfl rfl ex6817) fun a F=>?_
 refine mbk [0,1,2] F H rfl ⟨Tryz.underlying3,Tryz.underlying5,fld50_2,trivial⟩ fun a F=>?_
 refine m_pure F rfl rfl rfl rfl (fun u hu=>y_load1 F plain23 rfl rfl (row_at (v:=.slice p6273 (x6269.2.2).length c6274) ((hu.choose_spec.blk 0 rfl).row) rfl)) fun a F=>?_
 refine mb [0,0,0] F H rfl fun a F=>?_
 refine m_pure F rfl rfl rfl rfl (fun u hu=>y_slLH F elem23 rfl rfl rfl rfl ex6819 hc6818) fun a F=>?_
 refine m_fork rfl rfl rfl rfl ?_ ?_
 refine m_heavy rfl rfl ?_
 refine s_cvT (e:=5) (xs:=x6817) wkP F rfl rfl rfl Tryz.underlying9 Tryz.underlying23 Tryz.underlying5 rfl rfl H fun b6820 c6820 w a H F=>?_
 refine lz ?_;refine ct ⟨⟨_,(H.pm 8 [4,0,1,2,3,5,6,7] rfl:)⟩,?_⟩
 refine m_heavy rfl rfl ?_
 obtain ⟨x6822,ex6822,hm⟩:=ob hm
 obtain ⟨x6823,ex6823,hm⟩:=ob hm
 refine s_buildC wkP F rfl rfl rfl elem23 zero5 rfl rfl rfl rfl (by simp [Value.cells]) (by decide) H fun b6821 w a H F=>?_
 replace H:St w0 w (HP.ow rByte 5 (some ⟨b6821,0,none⟩) (([x6822,x6823]).length) ([x6822,x6823])::HP.cv 5 b6820 c6820 x6817::HP.sl rByte (shp p6273 c6274 ((IntKind.i64.wrap (64 * s6745.2)):Int).toNat 1) (c6274 - ((IntKind.i64.wrap (64 * s6745.2)):Int).toNat) x6819::HP.sl R_api_Pair p6746 c6746 s6745.1::HP.sl rByte p6273 c6274 x6269.2.2::HP.blk b6272 ([.string (txb (x6269.1)),.bool (x6269.2.1),.slice p6273 (x6269.2.2).length c6274]) 50::HP.ow rByte 5 none 0 ([]:List UInt8)::HP.row b6270 (o6270+(s5697.2:Int).toNat * 3) ([.string (txb (x6269.1)),.bool (x6269.2.1),.slice p6273 (x6269.2.2).length c6274])::HP.sl R_triremeref11_Node p1 c1 x0_::l):=H.blkOw (R:=rByte) 0 rfl (fun gg=>⟨[[.int .u8 (0)],[.int .u8 (IntKind.u8.wrap (s6745.2))]],rfl,(congrArg (fun z=>[Value.int .u8 z]) (u8O_some ex6822).symm),(congrArg (fun z=>[Value.int .u8 z]) (u8O_some ex6823).symm),trivial⟩) (by simp)
 refine lz ?_;refine ct ⟨⟨_,(H.pm 9 [5,0,1,2,3,4,6,7,8] rfl:)⟩,?_⟩
 refine m_heavy rfl rfl ?_
 replace H:=H.frz 0 rfl
 obtain ⟨x6825,ex6825,hm⟩:=ob hm
 refine s_appCv wkP F rfl rfl rfl rfl rfl rfl elem23 rfl ex6825 rfl H 1 0 rfl rfl fun p6824 c6824 w a H F=>?_
 refine lz ?_;refine ct ⟨⟨_,(H.pm 9 [5,0,1,2,3,4,6,7,8] rfl:)⟩,?_⟩
 refine m_pure F rfl rfl rfl rfl (fun u hu=>y_build F rfl rfl (cs:=[.slice p6824 (x6825).length c6824,.slice (shp p6273 c6274 ((IntKind.i64.wrap (64 * s6745.2)):Int).toNat 1) (x6819).length (c6274 - ((IntKind.i64.wrap (64 * s6745.2)):Int).toNat)]) (by kernel_rfl)) fun a F=>?_
 refine m_heavy rfl rfl ?_
 replace H:=mk_api_Pair H 0 rfl 2 rfl
 obtain ⟨x6826,ex6826,hm⟩:=ob hm
 refine sd F rfl ent45 (w_m_triremeref11_put ex6826 (H.pm 10 [4,0,0,1,2,3,4,5,6,7,8,9] rfl:):) ?_;rintro _ w a ⟨p6827,c6827,rfl,H⟩ F
 refine lz ?_;refine ct ⟨⟨_,(H.pm 11 [7,0,1,2,3,4,5,6,8,9,10] rfl:)⟩,?_⟩
 refine mb [0] F H rfl fun a F=>m_nil ?_
 cases hm
 refine ct ?_
 exact ⟨p6827,c6827,F.sl rfl,(H.pm 11 [0,6,7,8,9,10] rfl:)⟩
 refine m_heavy rfl rfl ?_
 obtain ⟨x6829,ex6829,hm⟩:=ob hm
 obtain ⟨x6830,ex6830,hm⟩:=ob hm
 refine s_buildC wkP F rfl rfl rfl elem23 zero5 rfl rfl rfl rfl (by simp [Value.cells]) (by decide) H fun b6828 w a H F=>?_
 replace H:St w0 w (HP.ow rByte 5 (some ⟨b6828,0,none⟩) (([x6829,x6830]).length) ([x6829,x6830])::HP.sl rByte (shp p6273 c6274 ((IntKind.i64.wrap (64 * s6745.2)):Int).toNat 1) (c6274 - ((IntKind.i64.wrap (64 * s6745.2)):Int).toNat) x6819::HP.sl R_api_Pair p6746 c6746 s6745.1::HP.sl rByte p6273 c6274 x6269.2.2::HP.blk b6272 ([.string (txb (x6269.1)),.bool (x6269.2.1),.slice p6273 (x6269.2.2).length c6274]) 50::HP.ow rByte 5 none 0 ([]:List UInt8)::HP.row b6270 (o6270+(s5697.2:Int).toNat * 3) ([.string (txb (x6269.1)),.bool (x6269.2.1),.slice p6273 (x6269.2.2).length c6274])::HP.sl R_triremeref11_Node p1 c1 x0_::l):=H.blkOw (R:=rByte) 0 rfl (fun gg=>⟨[[.int .u8 (0)],[.int .u8 (IntKind.u8.wrap (s6745.2))]],rfl,(congrArg (fun z=>[Value.int .u8 z]) (u8O_some ex6829).symm),(congrArg (fun z=>[Value.int .u8 z]) (u8O_some ex6830).symm),trivial⟩) (by simp)
 refine lz ?_;refine ct ⟨⟨_,(H.pm 8 [4,0,1,2,3,5,6,7] rfl:)⟩,?_⟩
 refine m_heavy rfl rfl ?_
 refine s_cvT (e:=5) (xs:=x6817) wkP F rfl rfl rfl Tryz.underlying9 Tryz.underlying23 Tryz.underlying5 rfl rfl H fun b6831 c6831 w a H F=>?_
 refine lz ?_;refine ct ⟨⟨_,(H.pm 9 [5,0,1,2,3,4,6,7,8] rfl:)⟩,?_⟩
 refine m_heavy rfl rfl ?_
 replace H:=H.frz 1 rfl
 obtain ⟨x6833,ex6833,hm⟩:=ob hm
 refine s_appCv wkP F rfl rfl rfl rfl rfl rfl elem23 rfl ex6833 rfl H 1 0 rfl rfl fun p6832 c6832 w a H F=>?_
 refine lz ?_;refine ct ⟨⟨_,(H.pm 9 [5,0,1,2,3,4,6,7,8] rfl:)⟩,?_⟩
 refine m_pure F rfl rfl rfl rfl (fun u hu=>y_build F rfl rfl (cs:=[.slice p6832 (x6833).length c6832,.slice (shp p6273 c6274 ((IntKind.i64.wrap (64 * s6745.2)):Int).toNat 1) (x6819).length (c6274 - ((IntKind.i64.wrap (64 * s6745.2)):Int).toNat)]) (by kernel_rfl)) fun a F=>?_
 refine m_heavy rfl rfl ?_
 replace H:=mk_api_Pair H 0 rfl 2 rfl
 obtain ⟨x6834,ex6834,hm⟩:=ob hm
 refine sd F rfl ent45 (w_m_triremeref11_put ex6834 (H.pm 10 [4,0,0,1,2,3,4,5,6,7,8,9] rfl:):) ?_;rintro _ w a ⟨p6835,c6835,rfl,H⟩ F
 refine lz ?_;refine ct ⟨⟨_,(H.pm 11 [7,0,1,2,3,4,5,6,8,9,10] rfl:)⟩,?_⟩
 refine mb [0] F H rfl fun a F=>m_nil ?_
 cases hm
 refine ct ?_
 exact ⟨p6835,c6835,F.sl rfl,(H.pm 11 [0,6,7,8,9,10] rfl:)⟩
 refine bn ?_
 cases hm
 refine ct ?_
 exact ⟨p6816,c6816,F.sl rfl,H⟩
 refine ct (rl (bb [0,0,0] F H rfl fun a F=>?_))
 refine lz (ct ?_);cases hm
 exact ⟨_,rfl,⟨p6792,c6792,F.sl rfl,H⟩⟩
 refine ex (cx (cx ?_));cases hm;refine ⟨_,rfl,?_⟩;rintro rfl
 refine ch (ct ?_)
 exact ⟨p6746,c6746,F.sl rfl,H⟩
 refine bn ?_
 cases hm
 refine ct ?_
 exact ⟨p6564,c6564,F.sl rfl,(H.pm 6 [0,5] rfl:)⟩
 refine ct (rl (bb [0,0,0] F H rfl fun a F=>?_))
 refine lz (ct ?_);cases hm
 exact ⟨_,rfl,⟨p6268,c6268,F.sl rfl,H⟩⟩
 refine ex (cx (cx ?_));cases hm;refine ⟨_,rfl,?_⟩;rintro rfl
 refine ch (ct ?_)
 exact ⟨p5698,c5698,F.sl rfl,(H.pm 2 [0] rfl:)⟩
 refine ct (sb [0,0] F H rfl fun a F=>nl (wr ?_))
 cases hm
 refine x_ret1 F rfl rfl ?_
 exact ⟨_,rfl,p3420,c3420,rfl,H⟩
theorem ent27:En Tryz.prog 27:=enters Tryz.func27 (by kernel_rfl) rfl
theorem w_m_triremeref11_Look {x0_:List T_triremeref11_Node} {x1_:List UInt8} {p1:Option Addr} {c1:Nat} {w0 w:World} {l:List HP}  {r:Int×Int} (hm:m_triremeref11_Look x0_ x1_=some r) (H:St w0 w (HP.sl R_triremeref11_Node p1 c1 x0_::l)) :
  Calls Tryz.prog 42 [.slice p1 (x0_).length c1,.string (txb (x1_))].toArray w (fun e w'=>∃ v,e=.returned v∧v=.tuple [.int .i64 (r.1),.int .i64 (r.2)].toArray∧St w0 w' (l)):=by
 unfold m_triremeref11_Look at hm
 refine x_enter Tryz.func42 rfl rfl rfl ?_
 intro a F
 refine sb [0,0] F H rfl fun a F=>nb [0] F H rfl fun a F=>?_
 obtain ⟨x2,ex2,hm⟩:=ob hm
 refine sd F rfl ent46 (w_m_triremeref09_Split ex2 H:) ?_;rintro _ w a ⟨p3,c3,rfl,H⟩ F
 refine bb (List.replicate 5 0) F H rfl fun a F=>?_
 replace H:=H.nf 2 rfl
 refine nl (sq (sb [0,0] F H rfl fun a F=>?_))
 refine nl (cB F rfl (fun hg4=>?_) (fun hg4=>?_))
 replace hm:=ifT hg4 hm
 refine sb [0,0] F H rfl fun a F=>nl (wr (tr ?_))
 cases hm
 refine x_ret2 F rfl rfl rfl ?_
 exact ⟨_,rfl,rfl,(H.pm 2 [] rfl:)⟩
 replace hm:=ifF (nT hg4) hm
 refine sk (ct (sq (sb [0] F H rfl fun a F=>?_)))
 refine nl (xr0 2 [0,1] [1] F H hm rfl rfl (fun r42 z=>z) (fun r42 z=>z) (fun o42 hm hm42=>?_) (fun r42 a w hm F H=>?_))
 refine bl (xl0 2 [0,1,6] [0,1] F H hm rfl rfl (fun (s67:Int) z=>(8,.int .i64 (s67))::z) (fun s67 z=>z) ⟨F.sl rfl,H⟩ (fun s67 a w o F H hm=>sq (sr (bk [0,0,0,0] F H rfl ⟨⟨_,Tryz.underlying35⟩,trivial⟩ fun a F=>?_))))
 refine nl (cPm F rfl hm (fun hg68 hm=>?_) (fun hg68 hm=>?_))
 refine sk (ct (sq (bl (sb [0,0,0] F H rfl fun a F=>?_))))
 obtain ⟨x70,ex70,hm⟩:=ob hm
 have hc69:=H.slCap 0 rfl
 replace H:=H.slSubN 1 rfl 0 rfl ex70
 refine sv F rfl (y_slH F elem35 rfl rfl rfl ex70 hc69) fun a F=>?_
 obtain ⟨x71,ex71,hm⟩:=ob hm
 refine sd F rfl ent47 (w_m_triremeref09_Join ex71 (H.pm 3 [0,0,1,2] rfl:):) ?_;rintro _ w a ⟨rfl,H⟩ F
 obtain ⟨x72,ex72,hm⟩:=ob hm
 refine sd F rfl ent27 (w_m_triremeref11_Find ex72 (H.pm 3 [2,0,1,2] rfl:):) ?_;rintro _ w a ⟨rfl,H⟩ F
 refine bb [0] F H rfl fun a F=>?_
 replace H:=H.nf 3 rfl
 refine nl (sq (sb [0,0] F H rfl fun a F=>?_))
 refine nl (cPm F rfl hm (fun hg73 hm=>?_) (fun hg73 hm=>?_))
 refine sb [0,0] F H rfl fun a F=>?_
 refine nl (wr (tr (br (tr (tr ?_)))));cases hm;refine ⟨_,rfl,?_⟩;rintro rfl
 refine br (tr ?_)
 replace hm:=elimR hm42
 refine tr ?_
 cases hm
 refine x_ret2 F rfl rfl rfl ?_
 exact ⟨_,rfl,rfl,(H.pm 3 [] rfl:)⟩
 refine sk (ct (sb [0,0] F H rfl fun a F=>?_))
 obtain ⟨x74,ex74,hm⟩:=ob hm
 obtain ⟨b75,o75,hp75,cs76,H⟩:=H.slE 2 rfl ex74
 refine sv F rfl (y_idxS F elem30 rfl rfl rfl hp75 ex74) fun a F=>bk [1] F H rfl ⟨fld50_1,trivial⟩ fun a F=>?_
 have G:=F;replace H:=rc_triremeref11_Node (H.pk 1 rfl);obtain ⟨p77,c78,rfl,J⟩:=H;have H:=J;have F:=G;clear G J
 refine bk [1001,0] F H rfl ⟨rfl,plain4,trivial⟩ fun a F=>?_
 refine nl (cB F rfl (fun hg79=>?_) (fun hg79=>?_))
 replace hm:=ifT hg79 hm
 refine sb [0,0] F H rfl fun a F=>?_
 refine nl (wr (br (tr (tr ?_))));cases hm;refine ⟨_,rfl,?_⟩;rintro rfl
 refine br (tr ?_)
 replace hm:=elimR hm42
 refine tr ?_
 cases hm
 refine x_ret2 F rfl rfl rfl ?_
 exact ⟨_,rfl,rfl,(H.pm 5 [] rfl:)⟩
 replace hm:=ifF (nT hg79) hm
 refine sk (bn (ct (rl (bb [0,0,0] F H rfl fun a F=>?_))))
 refine lz (ct ?_);cases hm
 exact ⟨_,rfl,⟨F.sl rfl,(H.pm 5 [3,4] rfl:)⟩⟩
 refine ex (cx (cx ?_));cases hm;refine ⟨_,rfl,?_⟩;rintro rfl
 refine ch (ct ?_)
 exact ⟨_,rfl,F.sl rfl,(H.pm 2 [1] rfl:)⟩
 refine ct (sb [0,0] F H rfl fun a F=>?_)
 obtain ⟨x80,ex80,hm⟩:=ob hm
 refine sd F rfl ent27 (w_m_triremeref11_Find ex80 (H.pm 1 [0,0] rfl:):) ?_;rintro _ w a ⟨rfl,H⟩ F
 refine bb [0] F H rfl fun a F=>?_
 replace H:=H.nf 1 rfl
 refine nl (sq (sb [0,0] F H rfl fun a F=>?_))
 refine nl (cPm F rfl hm (fun hg81 hm=>?_) (fun hg81 hm=>?_))
 refine sb [0,0] F H rfl fun a F=>nl (wr (tr ?_))
 cases hm
 refine x_ret2 F rfl rfl rfl ?_
 exact ⟨_,rfl,rfl,(H.pm 1 [] rfl:)⟩
 refine sk (ct (sb [0,0,0] F H rfl fun a F=>nl (wr ?_)))
 cases hm
 refine x_ret2 F rfl rfl rfl ?_
 exact ⟨_,rfl,rfl,(H.pm 1 [] rfl:)⟩
theorem ent29:En Tryz.prog 29:=enters Tryz.func29 (by kernel_rfl) rfl
theorem ent42:En Tryz.prog 42:=enters Tryz.func42 (by kernel_rfl) rfl
theorem w_m_triremeref11_Room {x0_:List T_triremeref11_Node} {x1_:List UInt8} {p1:Option Addr} {c1:Nat} {w0 w:World} {l:List HP}  {r:Int} (hm:m_triremeref11_Room x0_ x1_=some r) (H:St w0 w (HP.sl R_triremeref11_Node p1 c1 x0_::l)) :
  Calls Tryz.prog 38 [.slice p1 (x0_).length c1,.string (txb (x1_))].toArray w (fun e w'=>∃ v,e=.returned v∧v=.int .i64 (r)∧St w0 w' (l)):=by
 unfold m_triremeref11_Room at hm
 refine x_enter Tryz.func38 rfl rfl rfl ?_
 intro a F
 refine sb [0] F H rfl fun a F=>nl (sq (sb [0] F H rfl fun a F=>?_))
 obtain ⟨x2,ex2,hm⟩:=ob hm
 refine sd F rfl ent28 (w_m_triremeref09_Right ex2 H:) ?_;rintro _ w a ⟨rfl,H⟩ F
 refine bb [0] F H rfl fun a F=>?_
 replace H:=H.nf 1 rfl
 refine nl (cB F rfl (fun hg3=>?_) (fun hg3=>?_))
 replace hm:=ifT hg3 hm
 refine sb [0] F H rfl fun a F=>nl (wr (tr ?_))
 cases hm
 refine x_ret1 F rfl rfl ?_
 exact ⟨_,rfl,rfl,(H.pm 1 [] rfl:)⟩
 replace hm:=ifF (nT hg3) hm
 refine sk (ct (sq (sb [0] F H rfl fun a F=>sv F rfl (y_eqT (l:=x1_) (m:=[47]) F rfl rfl rfl) fun a F=>?_)))
 refine nl (cPm F rfl hm (fun hg4 hm=>?_) (fun hg4 hm=>?_))
 refine sb [0] F H rfl fun a F=>nl (wr (tr ?_))
 cases hm
 refine x_ret1 F rfl rfl ?_
 exact ⟨_,rfl,rfl,(H.pm 1 [] rfl:)⟩
 refine sk (ct (sb [0,0] F H rfl fun a F=>?_))
 obtain ⟨x5,ex5,hm⟩:=ob hm
 refine sd F rfl ent29 (w_m_triremeref09_Parent ex5 H:) ?_;rintro _ w a ⟨rfl,H⟩ F
 obtain ⟨x6,ex6,hm⟩:=ob hm
 refine sd F rfl ent42 (w_m_triremeref11_Look ex6 (H.pm 1 [0,0] rfl:):) ?_;rintro _ w a ⟨rfl,H⟩ F
 refine bb (List.replicate 5 0) F H rfl fun a F=>?_
 replace H:=H.nf 1 rfl
 refine nl (sq (sb [0,0] F H rfl fun a F=>?_))
 refine nl (cNm F rfl hm (fun hg7 hm=>?_) (fun hg7 hm=>?_))
 refine sb [0,0] F H rfl fun a F=>nl (wr (tr ?_))
 cases hm
 refine x_ret1 F rfl rfl ?_
 exact ⟨_,rfl,rfl,(H.pm 1 [] rfl:)⟩
 refine sk (ct (sq (sb [0,0] F H rfl fun a F=>?_)))
 obtain ⟨x8,ex8,hm⟩:=ob hm
 obtain ⟨b9,o9,hp9,cs10,H⟩:=H.slE 0 rfl ex8
 refine sv F rfl (y_idxS F elem30 rfl rfl rfl hp9 ex8) fun a F=>bk [1] F H rfl ⟨fld50_1,trivial⟩ fun a F=>?_
 have G:=F;replace H:=rc_triremeref11_Node (H.pk 1 rfl);obtain ⟨p11,c12,rfl,J⟩:=H;have H:=J;have F:=G;clear G J
 refine bk [1001,0] F H rfl ⟨rfl,plain4,trivial⟩ fun a F=>?_
 refine nl (cB F rfl (fun hg13=>?_) (fun hg13=>?_))
 replace hm:=ifT hg13 hm
 refine sb [0] F H rfl fun a F=>nl (wr (tr ?_))
 cases hm
 refine x_ret1 F rfl rfl ?_
 exact ⟨_,rfl,rfl,(H.pm 3 [] rfl:)⟩
 replace hm:=ifF (nT hg13) hm
 refine sk (ct (sq (sb [0,0] F H rfl fun a F=>?_)))
 obtain ⟨x14,ex14,hm⟩:=ob hm
 refine sd F rfl ent27 (w_m_triremeref11_Find ex14 (H.pm 3 [2,0,1,2] rfl:):) ?_;rintro _ w a ⟨rfl,H⟩ F
 refine bb [0] F H rfl fun a F=>?_
 replace H:=H.nf 3 rfl
 refine nl (cPm F rfl hm (fun hg15 hm=>?_) (fun hg15 hm=>?_))
 refine sb [0] F H rfl fun a F=>nl (wr (tr ?_))
 cases hm
 refine x_ret1 F rfl rfl ?_
 exact ⟨_,rfl,rfl,(H.pm 3 [] rfl:)⟩
 refine sk (ct (sb [0] F H rfl fun a F=>nl (wr ?_)))
 cases hm
 refine x_ret1 F rfl rfl ?_
 exact ⟨_,rfl,rfl,(H.pm 3 [] rfl:)⟩
theorem ent70:En Tryz.prog 70:=enters Tryz.func70 (by kernel_rfl) rfl
theorem w_m_triremeref11_Below {x0_:List T_triremeref11_Node} {x1_:List UInt8} {p1:Option Addr} {c1:Nat} {w0 w:World} {l:List HP}  {r:(List (List UInt8))} (hm:m_triremeref11_Below x0_ x1_=some r) (H:St w0 w (HP.sl R_triremeref11_Node p1 c1 x0_::l)) :
  Calls Tryz.prog 43 [.slice p1 (x0_).length c1,.string (txb (x1_))].toArray w (fun e w'=>∃ v,e=.returned v∧∃ (p2:Option Addr) (c2:Nat),v=.slice p2 (r).length c2∧St w0 w' (HP.sl rStr p2 c2 r::l)):=by
 unfold m_triremeref11_Below at hm
 refine x_enter Tryz.func43 rfl rfl rfl ?_
 intro a F
 refine sb [0] F H rfl fun a F=>nl (sr (s_build0O (R:=rStr) wkP F rfl rfl rfl elem35 rfl H fun b3 w a H F=>bb [0] F H rfl fun a F=>?_))
 replace H:=H.nf 2 rfl
 refine nl (sq (sb [0] F H rfl fun a F=>?_))
 refine nl (xm2 2 [] [] F H hm rfl rfl (fun r689 (p690:Option Addr) (c690:Nat) z=>(5,.slice p690 (r689).length c690)::z) (fun r689 p690 c690 z=>HP.ow rStr 9 p690 c690 r689::z) (fun r689 hm=>?_) (fun r689 a w hm p690 c690 F H=>?_))
 refine bl (xl2 2 [0,1] [1] F H hm rfl rfl (fun (s1147:(List (List UInt8))×Int) (p1148:Option Addr) (c1148:Nat) z=>(5,.slice p1148 (s1147.1).length c1148)::(6,.int .i64 (s1147.2))::z) (fun s1147 p1148 c1148 z=>HP.ow rStr 9 p1148 c1148 s1147.1::z) ⟨(some ⟨b3,0,none⟩),0,F.sl rfl,H⟩ (fun s1147 a w o p1148 c1148 F H hm=>sq (sr (bk [0,0,0,0] F H rfl ⟨⟨_,Tryz.underlying30⟩,trivial⟩ fun a F=>?_))))
 refine nl (cPm F rfl hm (fun hg1149 hm=>?_) (fun hg1149 hm=>?_))
 refine sk (ct (sq (xm2 2 [0,1,6] [1] F H hm rfl rfl (fun r1262 (p1263:Option Addr) (c1263:Nat) z=>(5,.slice p1263 (r1262).length c1263)::z) (fun r1262 p1263 c1263 z=>HP.ow rStr 9 p1263 c1263 r1262::z) (fun r1262 hm=>?_) (fun r1262 a w hm p1263 c1263 F H=>?_))))
 refine bl (sb [0,0] F H rfl fun a F=>?_)
 obtain ⟨x1264,ex1264,hm⟩:=ob hm
 obtain ⟨b1265,o1265,hp1265,cs1266,H⟩:=H.slE 1 rfl ex1264
 refine sv F rfl (y_idxS F elem30 rfl rfl rfl hp1265 ex1264) fun a F=>bk [0] F H rfl ⟨fld50_0,trivial⟩ fun a F=>?_
 have G:=F;replace H:=rc_triremeref11_Node (H.pk 1 rfl);obtain ⟨p1267,c1268,rfl,J⟩:=H;have H:=J;have F:=G;clear G J
 refine bk [1000,0] F H rfl ⟨rfl,plain9,trivial⟩ fun a F=>nl (sq (sb [0] F H rfl fun a F=>sv F rfl (y_eqT (l:=x1264.1) (m:=[47]) F rfl rfl rfl) fun a F=>bb [0] F H rfl fun a F=>?_))
 rcases spP 24 F rfl hm with ⟨hg1269,hm,F⟩ | ⟨hg1269,hm,F⟩
 refine bb (List.replicate 5 0) F H rfl fun a F=>nl (cT F rfl ?_)
 refine ex (cx (ch ?_))
 cases hm
 refine ct ?_
 exact ⟨p1148,c1148,F.sl rfl,(H.pm 4 [2,3] rfl:)⟩
 refine bb [0] F H rfl fun a F=>g_onP F rfl rfl rfl rfl ?_
 obtain ⟨x1270,ex1270,hm⟩:=ob hm
 refine sd F rfl ent29 (w_m_triremeref09_Parent ex1270 H:) ?_;rintro _ w a ⟨rfl,H⟩ F
 refine bb [0] F H rfl fun a F=>g_onP F rfl rfl rfl rfl (sv F rfl (y_neT (l:=x1270) (m:=x1_) F rfl rfl rfl) fun a F=>bb [0] F H rfl fun a F=>?_)
 replace H:=H.nf 4 rfl
 refine nl (cNm F rfl hm (fun hg1271 hm=>?_) (fun hg1271 hm=>?_))
 refine ex (cx (ch ?_))
 cases hm
 refine ct ?_
 exact ⟨p1148,c1148,F.sl rfl,(H.pm 4 [2,3] rfl:)⟩
 refine sk (ct (sb [0,0] F H rfl fun a F=>?_))
 obtain ⟨x1272,ex1272,hm⟩:=ob hm
 refine sd F rfl ent70 (w_m_triremeref09_Base ex1272 H:) ?_;rintro _ w a ⟨rfl,H⟩ F
 refine s_buildC wkP F rfl rfl rfl elem35 zero9 rfl rfl rfl rfl (by simp [Value.cells]) (by decide) H fun b1273 w a H F=>?_
 replace H:=H.blkOw1 (R:=rStr) (x:=x1272) (fun gg=>rfl)
 replace H:=H.frz 0 rfl
 obtain ⟨x1275,ex1275,hm⟩:=ob hm
 refine s_app wkP F rfl rfl rfl rfl rfl rfl elem35 rfl ex1275 H 3 0 rfl rfl fun p1274 c1274 w a H F=>?_
 refine bb [0] F H rfl fun a F=>?_
 replace H:=H.nf 5 rfl
 refine nl (sr (bk [0,0,0,0] F H rfl ⟨⟨_,Tryz.underlying35⟩,trivial⟩ fun a F=>?_))
 refine nl (xm2 5 [0,1,6] [2,4] F H hm rfl rfl (fun r1325 (p1326:Option Addr) (c1326:Nat) z=>(5,.slice p1326 (r1325).length c1326)::z) (fun r1325 p1326 c1326 z=>HP.ow rStr 9 p1326 c1326 r1325::z) (fun r1325 hm=>?_) (fun r1325 a w hm p1326 c1326 F H=>?_))
 refine bl (xl2 5 [0,1,6] [2,4] F H hm rfl rfl (fun (s1359:(List (List UInt8))×Int) (p1360:Option Addr) (c1360:Nat) z=>(5,.slice p1360 (s1359.1).length c1360)::(8,.int .i64 (s1359.2))::z) (fun s1359 p1360 c1360 z=>HP.ow rStr 9 p1360 c1360 s1359.1::z) ⟨p1274,c1274,F.sl rfl,(H.pm 5 [3,2,4] rfl:)⟩ (fun s1359 a w o p1360 c1360 F H hm=>sq (sq ?_)))
 by_cases hg1361:0<s1359.2
 replace hm:=ifT hg1361 hm
 obtain ⟨x1362,ex1362,hm⟩:=ob hm
 obtain ⟨b1363,hp1363⟩:=H.owP 0 rfl (idxO_some ex1362).2
 obtain ⟨x1365,ex1365,hm⟩:=ob hm
 refine qr H (by kernel_rfl) (by kernel_rfl) ?_
 refine qb [0,0,0] F rfl fun a F=>?_
 replace F:=F.bT 40 hg1361 rfl
 refine qb [0,0] F rfl fun a F=>?_
 refine qg_on F rfl rfl rfl rfl ?_
 refine qv F rfl (fun u hu=>y_idxS F elem35 rfl rfl rfl hp1363 ex1362) fun a F=>?_
 refine qg_on F rfl rfl rfl rfl ?_
 refine qv F rfl (fun u hu=>y_load1 F plain9 rfl rfl (hu.owStr 0 rfl hp1363 ex1362)) fun a F=>qb [0,0,0] F rfl fun a F=>?_
 refine qg_on F rfl rfl rfl rfl ?_
 refine qv F rfl (fun u hu=>y_idxS F elem35 rfl rfl rfl hp1363 ex1365) fun a F=>?_
 refine qg_on F rfl rfl rfl rfl ?_
 refine qv F rfl (fun u hu=>y_load1 F plain9 rfl rfl (hu.owStr 0 rfl hp1363 ex1365)) fun a F=>?_
 refine qg_on F rfl rfl rfl rfl ?_
 refine qv F rfl (fun u hu=>y_lssT (l:=x1362) (m:=x1365) F rfl rfl rfl) fun a F=>qb [0] F rfl fun a F=>?_
 refine q_nil fun w H=>?_
 refine ct (cB F rfl (fun hg1367=>?_) (fun hg1367=>?_))
 replace hm:=ifT hg1367 hm
 refine sk (ct (sq (bl (sb [0,0] F H rfl fun a F=>?_))))
 obtain ⟨x1368,ex1368,hm⟩:=ob hm
 refine sv F rfl (y_idxS F elem35 rfl rfl rfl hp1363 ex1368) fun a F=>sv F rfl (y_load1 F plain9 rfl rfl (H.owStr 0 rfl hp1363 ex1368)) fun a F=>bb [0] F H rfl fun a F=>nb (List.replicate 5 0) F H rfl fun a F=>?_
 obtain ⟨x1370,ex1370,hm⟩:=ob hm
 refine sv F rfl (y_idxS F elem35 rfl rfl rfl hp1363 ex1370) fun a F=>sv F rfl (y_load1 F plain9 rfl rfl (H.owStr 0 rfl hp1363 ex1370)) fun a F=>?_
 obtain ⟨x1372,ex1372,hm⟩:=ob hm
 refine sv F rfl (y_idxS F elem35 rfl rfl rfl hp1363 ex1372) fun a F=>?_
 refine s_owSet1 wkP F rfl rfl zero9 rfl rfl rfl rfl rfl rfl H 0 rfl hp1363 ex1372 (zz:=x1370) (fun gg=>rfl) fun w H=>?_
 replace H:St w0 w (HP.ow rStr 9 p1360 c1360 ((s1359.1).set (s1359.2:Int).toNat x1370)::HP.row b1265 (o1265+(s1147.2:Int).toNat * 3) ([.string (txb (x1264.1)),.bool (x1264.2.1),.slice p1267 (x1264.2.2).length c1268])::HP.sl R_triremeref11_Node p1 c1 x0_::l):=(by have h:=H;first | exact h | (simp only [List.length_set] at h ⊢;exact h))
 replace F:=F.bool (k:=5) (u:=.slice p1360 ((s1359.1).set (s1359.2:Int).toNat x1370).length c1360) rfl (by simp only [List.length_set])
 replace F:=F.bool (k:=41) (u:=.slice p1360 ((s1359.1).set (s1359.2:Int).toNat x1370).length c1360) rfl (by simp only [List.length_set])
 replace F:=F.bool (k:=45) (u:=.slice p1360 ((s1359.1).set (s1359.2:Int).toNat x1370).length c1360) rfl (by simp only [List.length_set])
 replace F:=F.bool (k:=54) (u:=.slice p1360 ((s1359.1).set (s1359.2:Int).toNat x1370).length c1360) rfl (by simp only [List.length_set])
 replace F:=F.bool (k:=58) (u:=.slice p1360 ((s1359.1).set (s1359.2:Int).toNat x1370).length c1360) rfl (by simp only [List.length_set])
 replace F:=F.bool (k:=60) (u:=.slice p1360 ((s1359.1).set (s1359.2:Int).toNat x1370).length c1360) rfl (by simp only [List.length_set])
 refine nl (rl (bb [0,0,0,0] F H rfl fun a F=>?_))
 obtain ⟨x1374,ex1374,hm⟩:=ob hm
 refine sv F rfl (y_idxS F elem35 rfl rfl rfl hp1363 ex1374) fun a F=>?_
 refine s_owSet1 wkP F rfl rfl zero9 rfl rfl rfl rfl rfl rfl H 0 rfl hp1363 ex1374 (zz:=x1368) (fun gg=>rfl) fun w H=>?_
 replace H:St w0 w (HP.ow rStr 9 p1360 c1360 (((s1359.1).set (s1359.2:Int).toNat x1370).set (IntKind.i64.wrap (s1359.2 - 1):Int).toNat x1368)::HP.row b1265 (o1265+(s1147.2:Int).toNat * 3) ([.string (txb (x1264.1)),.bool (x1264.2.1),.slice p1267 (x1264.2.2).length c1268])::HP.sl R_triremeref11_Node p1 c1 x0_::l):=(by have h:=H;first | exact h | (simp only [List.length_set] at h ⊢;exact h))
 replace F:=F.bool (k:=5) (u:=.slice p1360 (((s1359.1).set (s1359.2:Int).toNat x1370).set (IntKind.i64.wrap (s1359.2 - 1):Int).toNat x1368).length c1360) rfl (by simp only [List.length_set])
 replace F:=F.bool (k:=41) (u:=.slice p1360 (((s1359.1).set (s1359.2:Int).toNat x1370).set (IntKind.i64.wrap (s1359.2 - 1):Int).toNat x1368).length c1360) rfl (by simp only [List.length_set])
 replace F:=F.bool (k:=45) (u:=.slice p1360 (((s1359.1).set (s1359.2:Int).toNat x1370).set (IntKind.i64.wrap (s1359.2 - 1):Int).toNat x1368).length c1360) rfl (by simp only [List.length_set])
 replace F:=F.bool (k:=54) (u:=.slice p1360 (((s1359.1).set (s1359.2:Int).toNat x1370).set (IntKind.i64.wrap (s1359.2 - 1):Int).toNat x1368).length c1360) rfl (by simp only [List.length_set])
 replace F:=F.bool (k:=58) (u:=.slice p1360 (((s1359.1).set (s1359.2:Int).toNat x1370).set (IntKind.i64.wrap (s1359.2 - 1):Int).toNat x1368).length c1360) rfl (by simp only [List.length_set])
 replace F:=F.bool (k:=60) (u:=.slice p1360 (((s1359.1).set (s1359.2:Int).toNat x1370).set (IntKind.i64.wrap (s1359.2 - 1):Int).toNat x1368).length c1360) rfl (by simp only [List.length_set])
 replace F:=F.bool (k:=66) (u:=.slice p1360 (((s1359.1).set (s1359.2:Int).toNat x1370).set (IntKind.i64.wrap (s1359.2 - 1):Int).toNat x1368).length c1360) rfl (by simp only [List.length_set])
 refine lz (bn (ct (rl (bb [0,0,0] F H rfl fun a F=>?_))))
 refine lz (ct ?_);cases hm
 exact ⟨_,rfl,⟨p1360,c1360,F.sl rfl,H⟩⟩
 replace hm:=ifF (nT hg1367) hm
 refine ex (cx (cx ?_));cases hm;refine ⟨_,rfl,?_⟩;rintro rfl
 refine ch (ct ?_)
 exact ⟨p1360,c1360,F.sl rfl,H⟩
 replace hm:=ifF hg1361 hm
 refine qr H (by kernel_rfl) (by kernel_rfl) ?_
 refine qb [0,0,0] F rfl fun a F=>?_
 replace F:=F.bF 40 hg1361 rfl
 refine qb (List.replicate 11 0) F rfl fun a F=>?_
 refine q_nil fun w H=>?_
 refine ct (cF F rfl ?_)
 refine ex (cx (cx ?_));cases hm;refine ⟨_,rfl,?_⟩;rintro rfl
 refine ch (ct ?_)
 exact ⟨p1360,c1360,F.sl rfl,H⟩
 refine bn ?_
 cases hm
 refine ct ?_
 exact ⟨p1326,c1326,F.sl rfl,(H.pm 3 [0,2] rfl:)⟩
 refine ct (rl (bb [0,0,0] F H rfl fun a F=>?_))
 refine lz (ct ?_);cases hm
 exact ⟨_,rfl,⟨p1263,c1263,F.sl rfl,H⟩⟩
 refine ex (cx (cx ?_));cases hm;refine ⟨_,rfl,?_⟩;rintro rfl
 refine ch (ct ?_)
 exact ⟨p1148,c1148,F.sl rfl,(H.pm 2 [0] rfl:)⟩
 refine ct (sb [0,0] F H rfl fun a F=>nl (wr ?_))
 replace H:=H.frz 0 rfl
 cases hm
 refine x_ret1 F rfl rfl ?_
 exact ⟨_,rfl,p690,c690,rfl,H⟩
theorem w_m_triremeref11_resized {x0_:List UInt8} {x1_:Int} {p1:Option Addr} {c1:Nat} {w0 w:World} {l:List HP}  {r:(List UInt8)} (hm:m_triremeref11_resized x0_ x1_=some r) (H:St w0 w (HP.sl rByte p1 c1 x0_::l)) :
  Calls Tryz.prog 68 [.slice p1 (x0_).length c1,.int .i64 (x1_)].toArray w (fun e w'=>∃ v,e=.returned v∧∃ (p2:Option Addr) (c2:Nat),v=.slice p2 (r).length c2∧St w0 w' (HP.sl rByte p2 c2 r::l)):=by
 unfold m_triremeref11_resized at hm
 refine x_enter Tryz.func68 rfl rfl rfl ?_
 intro a F
 refine sb [0] F H rfl fun a F=>nl (sr (s_build0O (R:=rByte) wkP F rfl rfl rfl elem23 rfl H fun b3 w a H F=>bb [0] F H rfl fun a F=>?_))
 replace H:=H.nf 2 rfl
 refine nl (sq (sb [0] F H rfl fun a F=>?_))
 refine nl (xm2 2 [] [] F H hm rfl rfl (fun r173 (p174:Option Addr) (c174:Nat) z=>(5,.slice p174 (r173).length c174)::z) (fun r173 p174 c174 z=>HP.ow rByte 5 p174 c174 r173::z) (fun r173 hm=>?_) (fun r173 a w hm p174 c174 F H=>?_))
 refine bl (xl2 2 [0,1] [1] F H hm rfl rfl (fun (s287:(List UInt8)×Int) (p288:Option Addr) (c288:Nat) z=>(5,.slice p288 (s287.1).length c288)::(6,.int .i64 (s287.2))::z) (fun s287 p288 c288 z=>HP.ow rByte 5 p288 c288 s287.1::z) ⟨(some ⟨b3,0,none⟩),0,F.sl rfl,H⟩ (fun s287 a w o p288 c288 F H hm=>sq (sb [0,0,0] F H rfl fun a F=>?_)))
 refine nl (cPm F rfl hm (fun hg289 hm=>?_) (fun hg289 hm=>?_))
 refine sk (ct (sq (xm2 2 [0,1,6] [1] F H hm rfl rfl (fun r316 (p317:Option Addr) (c317:Nat) z=>(5,.slice p317 (r316).length c317)::z) (fun r316 p317 c317 z=>HP.ow rByte 5 p317 c317 r316::z) (fun r316 hm=>?_) (fun r316 a w hm p317 c317 F H=>?_))))
 refine bl (sr (bk [0,0,0,0] F H rfl ⟨⟨_,Tryz.underlying23⟩,trivial⟩ fun a F=>?_))
 refine nl (xm2 2 [0,1,6] [1] F H hm rfl rfl (fun r330 (p331:Option Addr) (c331:Nat) z=>(5,.slice p331 (r330).length c331)::z) (fun r330 p331 c331 z=>HP.ow rByte 5 p331 c331 r330::z) (fun r330 hm=>?_) (fun r330 a w hm p331 c331 F H=>?_))
 refine cPm F rfl hm (fun hg332 hm=>?_) (fun hg332 hm=>?_)
 refine rl (bb [0,0,0] F H rfl fun a F=>?_)
 obtain ⟨x333,ex333,hm⟩:=ob hm
 obtain ⟨b334,o334,hp334,cs335,H⟩:=H.slE 1 rfl ex333
 obtain rfl:=H.rcB 1 rfl
 replace H:=H.dp 1 rfl
 refine sv F rfl (y_idxS F elem23 rfl rfl rfl hp334 ex333) fun a F=>bk [0] F H rfl ⟨rfl,plain5,trivial⟩ fun a F=>?_
 obtain ⟨x337,ex337,hm⟩:=ob hm
 refine s_buildC wkP F rfl rfl rfl elem23 zero5 rfl rfl rfl rfl (by simp [Value.cells]) (by decide) H fun b336 w a H F=>?_
 replace H:=H.blkOw1 (R:=rByte) (x:=x337) (fun gg=>(congrArg (fun z=>[Value.int .u8 z]) (u8O_some ex337).symm))
 replace H:=H.frz 0 rfl
 obtain ⟨x339,ex339,hm⟩:=ob hm
 refine s_app wkP F rfl rfl rfl rfl rfl rfl elem23 rfl ex339 H 2 0 rfl rfl fun p338 c338 w a H F=>?_
 refine bb [0] F H rfl fun a F=>?_
 replace H:=H.nf 4 rfl
 refine lz ?_
 cases hm
 refine ct ?_
 exact ⟨p338,c338,F.sl rfl,(H.pm 4 [2,3] rfl:)⟩
 refine rl (bb [0] F H rfl fun a F=>?_)
 obtain ⟨x341,ex341,hm⟩:=ob hm
 refine s_buildC wkP F rfl rfl rfl elem23 zero5 rfl rfl rfl rfl (by simp [Value.cells]) (by decide) H fun b340 w a H F=>?_
 replace H:=H.blkOw1 (R:=rByte) (x:=x341) (fun gg=>(congrArg (fun z=>[Value.int .u8 z]) (u8O_some ex341).symm))
 replace H:=H.frz 0 rfl
 obtain ⟨x343,ex343,hm⟩:=ob hm
 refine s_app wkP F rfl rfl rfl rfl rfl rfl elem23 rfl ex343 H 1 0 rfl rfl fun p342 c342 w a H F=>?_
 refine bb [0] F H rfl fun a F=>?_
 replace H:=H.nf 3 rfl
 refine lz ?_
 cases hm
 refine ct ?_
 exact ⟨p342,c342,F.sl rfl,(H.pm 3 [1,2] rfl:)⟩
 refine bn ?_
 cases hm
 refine ct ?_
 exact ⟨p331,c331,F.sl rfl,H⟩
 refine ct (rl (bb [0,0,0] F H rfl fun a F=>?_))
 refine lz (ct ?_);cases hm
 exact ⟨_,rfl,⟨p317,c317,F.sl rfl,H⟩⟩
 refine ex (cx (cx ?_));cases hm;refine ⟨_,rfl,?_⟩;rintro rfl
 refine ch (ct ?_)
 exact ⟨p288,c288,F.sl rfl,(H.pm 2 [0] rfl:)⟩
 refine ct (sb [0,0] F H rfl fun a F=>nl (wr ?_))
 replace H:=H.frz 0 rfl
 cases hm
 refine x_ret1 F rfl rfl ?_
 exact ⟨_,rfl,p174,c174,rfl,H⟩
theorem w_m_triremeref11_no {x0_:List T_triremeref11_Node} {x1_:Int} {p1:Option Addr} {c1:Nat} {w0 w:World} {l:List HP}  {r:(List T_triremeref11_Node)×T_api_Answer} (hm:m_triremeref11_no x0_ x1_=some r) (H:St w0 w (HP.sl R_triremeref11_Node p1 c1 x0_::l)) :
  Calls Tryz.prog 39 [.slice p1 (x0_).length c1,.int .i64 (x1_)].toArray w (fun e w'=>∃ v,e=.returned v∧∃ (p2:Option Addr) (c2:Nat) (cs3:List Value),v=.tuple [.slice p2 (r.1).length c2,.agg cs3.toArray].toArray∧St w0 w' (HP.sl R_triremeref11_Node p2 c2 r.1::HP.rc R_api_Answer cs3 r.2::l)):=by
 unfold m_triremeref11_no at hm
 refine x_enter Tryz.func39 rfl rfl rfl ?_
 intro a F
 refine sb [0] F H rfl fun a F=>?_
 replace H:=H.owNil rByte 5
 replace H:=H.owNil rStr 9
 refine s_allocA wkP F rfl rfl rfl agz37 rfl H fun b4 w a H F=>?_
 replace H:=H.nf 4 rfl
 refine nb [0,0] F H rfl fun a F=>?_
 replace H:=H.owNil rByte 5
 replace H:=H.owNil rStr 9
 refine sv F rfl (y_build F rfl rfl (cs:=[.int .i64 (x1_),.int .i64 (0),.slice none (([]:List UInt8)).length 0,.slice none (([]:List (List UInt8))).length 0]) (by kernel_rfl)) fun a F=>bb [0] F H rfl fun a F=>s_storeA wkP F rfl rfl agg37 rfl rfl rfl H 2 rfl rfl rfl (fl rfl) fun w H=>?_
 replace H:=H.nf 6 rfl
 refine nl (wr ?_)
 replace H:=H.frz 1 rfl
 replace H:=H.frz 1 rfl
 replace H:=mk_api_Answer H x1_ 0 1 rfl 0 rfl
 cases hm
 refine x_resC2 F rfl rfl (⟨_,rfl,agg37.run_load (H.blk 3 rfl).row rfl⟩) ?_
 exact ⟨_,rfl,p1,c1,[.int .i64 (x1_),.int .i64 (0),.slice none (([]:List UInt8)).length 0,.slice none (([]:List (List UInt8))).length 0],rfl,(H.pm 7 [6,0] rfl:)⟩
theorem ent39:En Tryz.prog 39:=enters Tryz.func39 (by kernel_rfl) rfl
theorem ent68:En Tryz.prog 68:=enters Tryz.func68 (by kernel_rfl) rfl
theorem w_rChange {list:List T_triremeref11_Node} {oq:T_api_Op} {p1:Option Addr} {c1:Nat} {cs2:List Value} {w0 w:World} {l:List HP}  {r:(List T_triremeref11_Node)×T_api_Answer} (hm:rChange list oq=some r) (H:St w0 w (HP.sl R_triremeref11_Node p1 c1 list::HP.rc R_api_Op cs2 oq::l)) :
  Calls Tryz.prog 40 [.slice p1 (list).length c1,.agg cs2.toArray].toArray w (fun e w'=>∃ v,e=.returned v∧∃ (p3:Option Addr) (c3:Nat) (cs4:List Value),v=.tuple [.slice p3 (r.1).length c3,.agg cs4.toArray].toArray∧St w0 w' (HP.sl R_triremeref11_Node p3 c3 r.1::HP.rc R_api_Answer cs4 r.2::l)):=by
 unfold rChange at hm
 refine x_enter Tryz.func40 rfl rfl rfl ?_
 intro a F
 refine sr (s_boxA wkP F rfl rfl rfl rfl rfl H fun b5 w a H F=>bb [0] F H rfl fun a F=>?_)
 replace H:=H.owNil rByte 5
 replace H:=H.owNil rStr 9
 refine s_allocA wkP F rfl rfl rfl agz37 rfl H fun b6 w a H F=>?_
 replace H:=H.nf 6 rfl
 refine nl (sr (bk [0,1] F H rfl ⟨fld25_1,trivial⟩ fun a F=>?_))
 have G:=F;replace H:=rc_api_Op (H.pk 5 rfl);obtain ⟨p7,c8,rfl,J⟩:=H;have H:=J;have F:=G;clear G J
 refine bk [4001] F H rfl ⟨rfl,plain9,trivial⟩ fun a F=>?_
 obtain ⟨x9,ex9,hm⟩:=ob hm
 refine sd F rfl ent42 (w_m_triremeref11_Look ex9 (H.pm 6 [5,0,1,2,3,4,5] rfl:):) ?_;rintro _ w a ⟨rfl,H⟩ F
 refine bb (List.replicate 5 0) F H rfl fun a F=>?_
 replace H:=H.nf 6 rfl
 refine nl (sq (sb [0,0] F H rfl fun a F=>?_))
 refine nl (cNm F rfl hm (fun hg10 hm=>?_) (fun hg10 hm=>?_))
 refine sb [0,0] F H rfl fun a F=>?_
 obtain ⟨x11,ex11,hm⟩:=ob hm
 refine sd F rfl ent39 (w_m_triremeref11_no ex11 (H.pm 6 [5,0,1,2,3,4,5] rfl:):) ?_;rintro _ w a ⟨p12,c12,cs13,rfl,H⟩ F
 refine bb [0,0,0] F H rfl fun a F=>s_storeA wkP F rfl rfl agg37 rfl rfl rfl H 3 rfl (H.rcLen 1 rfl) rfl (H.rcFlat 1 rfl) fun w H=>?_
 replace H:=H.nf 8 rfl
 refine nl (wr (tr ?_))
 cases hm
 refine x_resC2 F rfl rfl (⟨_,rfl,agg37.run_load (H.blk 3 rfl).row (H.rcLen 1 rfl)⟩) ?_
 exact ⟨_,rfl,p12,c12,cs13,rfl,(H.pm 8 [0,1] rfl:)⟩
 refine sk (ct (sb [0,0] F H rfl fun a F=>?_))
 obtain ⟨x14,ex14,hm⟩:=ob hm
 obtain ⟨b15,o15,hp15,cs16,H⟩:=H.slE 5 rfl ex14
 refine sv F rfl (y_idxS F elem30 rfl rfl rfl hp15 ex14) fun a F=>bk [999] F H rfl ⟨rfl,(aggn agg50 (H.rcLen 1 rfl)),trivial⟩ fun a F=>?_
 replace H:=H.owNil rByte 5
 refine s_allocA wkP F rfl rfl rfl agz50 rfl H fun b17 w a H F=>s_storeA wkP F rfl rfl agg50 rfl rfl rfl H 0 rfl (H.rcLen 3 rfl) rfl (H.rcFlat 3 rfl) fun w H=>?_
 replace H:=H.nf 10 rfl
 refine nl (sq (sr (bk [1] F H rfl ⟨fld50_1,trivial⟩ fun a F=>?_)))
 have G:=F;replace H:=rc_triremeref11_Node (H.pk 3 rfl);obtain ⟨p18,c19,rfl,J⟩:=H;have H:=J;have F:=G;clear G J
 refine bk [1001] F H rfl ⟨rfl,plain4,trivial⟩ fun a F=>?_
 refine nl (cB F rfl (fun hg20=>?_) (fun hg20=>?_))
 replace hm:=ifT hg20 hm
 refine sb [0] F H rfl fun a F=>?_
 obtain ⟨x21,ex21,hm⟩:=ob hm
 refine sd F rfl ent39 (w_m_triremeref11_no ex21 (H.pm 10 [9,0,1,2,3,4,5,6,7,8,9] rfl:):) ?_;rintro _ w a ⟨p22,c22,cs23,rfl,H⟩ F
 refine bb [0,0,0] F H rfl fun a F=>s_storeA wkP F rfl rfl agg37 rfl rfl rfl H 7 rfl (H.rcLen 1 rfl) rfl (H.rcFlat 1 rfl) fun w H=>?_
 replace H:=H.nf 12 rfl
 refine nl (wr (tr ?_))
 cases hm
 refine x_resC2 F rfl rfl (⟨_,rfl,agg37.run_load (H.blk 7 rfl).row (H.rcLen 1 rfl)⟩) ?_
 exact ⟨_,rfl,p22,c22,cs23,rfl,(H.pm 12 [0,1] rfl:)⟩
 replace hm:=ifF (nT hg20) hm
 refine sk (ct (sq (sq (xm0 10 [0,3,5,6,8] [0,1,2,3,4,5,6,7,8,9] F H hm rfl rfl (fun r28 z=>(55,.bool (r28))::z) (fun r28 z=>z) (fun r28 hm=>?_) (fun r28 a w hm F H=>?_)))))
 refine rl (bk [0,8000,0,0] F H rfl ⟨fld25_0,rfl,plain3,trivial⟩ fun a F=>?_)
 rcases spN 41 F rfl hm with ⟨hg29,hm,F⟩ | ⟨hg29,hm,F⟩
 refine bk [0,0,0,0,0,0,8000,0,0] F H rfl ⟨fld25_0,rfl,plain3,trivial⟩ fun a F=>?_
 rcases spN 50 F rfl hm with ⟨hg30,hm,F⟩ | ⟨hg30,hm,F⟩
 refine bb (List.replicate 5 0) F H rfl fun a F=>lz ?_
 cases hm
 refine ct ?_
 exact ⟨F.sl rfl,H⟩
 refine bk [4,8004,0,0,0] F H rfl ⟨fld25_4,rfl,plain3,trivial⟩ fun a F=>lz ?_
 cases hm
 refine ct ?_
 exact ⟨F.sl rfl,H⟩
 refine bk [3,8003,0,0,0] F H rfl ⟨fld25_3,rfl,plain3,trivial⟩ fun a F=>?_
 rcases spP 46 F rfl hm with ⟨hg31,hm,F⟩ | ⟨hg31,hm,F⟩
 refine bb (List.replicate 9 0) F H rfl fun a F=>lz ?_
 cases hm
 refine ct ?_
 exact ⟨F.sl rfl,H⟩
 refine bk [0,8000,0,0] F H rfl ⟨fld25_0,rfl,plain3,trivial⟩ fun a F=>?_
 rcases spN 50 F rfl hm with ⟨hg32,hm,F⟩ | ⟨hg32,hm,F⟩
 refine bb (List.replicate 5 0) F H rfl fun a F=>lz ?_
 cases hm
 refine ct ?_
 exact ⟨F.sl rfl,H⟩
 refine bk [4,8004,0,0,0] F H rfl ⟨fld25_4,rfl,plain3,trivial⟩ fun a F=>lz ?_
 cases hm
 refine ct ?_
 exact ⟨F.sl rfl,H⟩
 refine ct (cB F rfl (fun hg33=>?_) (fun hg33=>?_))
 replace hm:=ifT hg33 hm
 refine sb [0] F H rfl fun a F=>?_
 obtain ⟨x34,ex34,hm⟩:=ob hm
 refine sd F rfl ent39 (w_m_triremeref11_no ex34 (H.pm 10 [9,0,1,2,3,4,5,6,7,8,9] rfl:):) ?_;rintro _ w a ⟨p35,c35,cs36,rfl,H⟩ F
 refine bb [0,0,0] F H rfl fun a F=>s_storeA wkP F rfl rfl agg37 rfl rfl rfl H 7 rfl (H.rcLen 1 rfl) rfl (H.rcFlat 1 rfl) fun w H=>?_
 replace H:=H.nf 12 rfl
 refine nl (wr (tr ?_))
 cases hm
 refine x_resC2 F rfl rfl (⟨_,rfl,agg37.run_load (H.blk 7 rfl).row (H.rcLen 1 rfl)⟩) ?_
 exact ⟨_,rfl,p35,c35,cs36,rfl,(H.pm 12 [0,1] rfl:)⟩
 replace hm:=ifF (nT hg33) hm
 refine sk (ct (sr ?_))
 replace H:=H.owNil rByte 5
 replace H:=H.owNil rStr 9
 refine sv F rfl (y_build F rfl rfl (cs:=[.int .i64 (0),.int .i64 (0),.slice none (([]:List UInt8)).length 0,.slice none (([]:List (List UInt8))).length 0]) (by kernel_rfl)) fun a F=>?_
 replace H:=H.owNil rByte 5
 replace H:=H.owNil rStr 9
 refine s_allocA wkP F rfl rfl rfl agz37 rfl H fun b37 w a H F=>s_storeA wkP F rfl rfl agg37 rfl rfl rfl H 0 rfl rfl rfl (fl rfl) fun w H=>?_
 replace H:=H.nf 15 rfl
 refine nl (sr (bk [2,6002,0] F H rfl ⟨fld50_2,rfl,plain23,trivial⟩ fun a F=>nl (sq (sr (bk [0,13000] F H rfl ⟨fld25_0,rfl,plain3,trivial⟩ fun a F=>nl ?_)))))
 refine xr4 15 [0,5,6,8,9] [1,2,3,5,6,7,8,9,10,11,12,13,14] F H hm rfl rfl (fun r4475 (p4476:Option Addr) (c4476:Nat) (p4477:Option Addr) (c4477:Nat) z=>(10,.slice p4477 (r4475.2).length c4477)::z) (fun r4475 p4476 c4476 p4477 c4477 z=>HP.blk b37 ([.int .i64 (0),.int .i64 (r4475.1.1),.slice p4476 (r4475.1.2).length c4476,.slice none (([]:List (List UInt8))).length 0]) 37::HP.ow rByte 5 p4476 c4476 r4475.1.2::HP.sl rByte p4477 c4477 r4475.2::z) (fun o4475 hm hm4475=>?_) (fun r4475 a w hm p4476 c4476 p4477 c4477 F H=>?_)
 refine bl (sb [0,0] F H rfl fun a F=>nl ?_)
 refine xr4 15 [0,5,6,8,9] [1,2,3,5,6,7,8,9,10,11,12,13,14] F H hm rfl rfl (fun r6695 (p6696:Option Addr) (c6696:Nat) (p6697:Option Addr) (c6697:Nat) z=>(10,.slice p6697 (r6695.2).length c6697)::z) (fun r6695 p6696 c6696 p6697 c6697 z=>HP.blk b37 ([.int .i64 (0),.int .i64 (r6695.1.1),.slice p6696 (r6695.1.2).length c6696,.slice none (([]:List (List UInt8))).length 0]) 37::HP.ow rByte 5 p6696 c6696 r6695.1.2::HP.sl rByte p6697 c6697 r6695.2::z) (fun o6695 hm hm6695=>?_) (fun r6695 a w hm p6696 c6696 p6697 c6697 F H=>?_)
 refine cPm F rfl hm (fun hg6698 hm=>?_) (fun hg6698 hm=>?_)
 refine sr (bk [2,6002,0,1] F H rfl ⟨fld50_2,rfl,plain23,⟨_,Tryz.underlying23⟩,fld37_1,trivial⟩ fun a F=>s_st1 wkP F rfl rfl zero3 rfl rfl rfl rfl rfl H 0 rfl rfl fun w H=>?_)
 replace H:=H.nf 15 rfl
 refine nb [0] F H rfl fun a F=>nl ?_
 refine xm2 15 [0,5,6,8,9,10] [1,2,3,5,6,7,8,9,10,11,12,13,14] F H hm rfl rfl (fun r6850 (p6851:Option Addr) (c6851:Nat) z=>z) (fun r6850 p6851 c6851 z=>HP.blk b37 ([.int .i64 (0),.int .i64 (((x14.2.2).length:Int)),.slice p6851 (r6850).length c6851,.slice none (([]:List (List UInt8))).length 0]) 37::HP.ow rByte 5 p6851 c6851 r6850::z) (fun r6850 hm=>?_) (fun r6850 a w hm p6851 c6851 F H=>?_)
 refine bl ?_
 refine xl2 15 [0,3,5,6,8,9,10] [1,2,3,5,6,7,8,9,10,11,12,13,14] F H hm rfl rfl (fun (s6952:(List UInt8)×Int) (p6953:Option Addr) (c6953:Nat) z=>(11,.int .i64 (s6952.2))::z) (fun s6952 p6953 c6953 z=>HP.blk b37 ([.int .i64 (0),.int .i64 (((x14.2.2).length:Int)),.slice p6953 (s6952.1).length c6953,.slice none (([]:List (List UInt8))).length 0]) 37::HP.ow rByte 5 p6953 c6953 s6952.1::z) ⟨none,0,F.sl rfl,(H.pm 15 [0,4,1,2,3,5,6,7,8,9,10,11,12,13,14] rfl:)⟩ (fun s6952 a w o p6953 c6953 F H hm=>?_)
 refine sq (sr (bk [0,2,6002,0,0] F H rfl ⟨fld50_2,rfl,plain23,⟨_,Tryz.underlying23⟩,trivial⟩ fun a F=>?_))
 refine nl (cPm F rfl hm (fun hg6954 hm=>?_) (fun hg6954 hm=>?_))
 refine sk (ct (sq ?_))
 refine xm2 15 [0,3,5,6,8,9,10,11] [2,3,4,5,6,7,8,9,10,11,12,13,14] F H hm rfl rfl (fun r6978 (p6979:Option Addr) (c6979:Nat) z=>z) (fun r6978 p6979 c6979 z=>HP.blk b37 ([.int .i64 (0),.int .i64 (((x14.2.2).length:Int)),.slice p6979 (r6978).length c6979,.slice none (([]:List (List UInt8))).length 0]) 37::HP.ow rByte 5 p6979 c6979 r6978::z) (fun r6978 hm=>?_) (fun r6978 a w hm p6979 c6979 F H=>?_)
 refine bl (sq (xm0 15 [0,3,5,6,8,9,10,11] [0,1,2,3,4,5,6,7,8,9,10,11,12,13,14] F H hm rfl rfl (fun r6982 z=>(159,.bool (r6982))::z) (fun r6982 z=>z) (fun r6982 hm=>?_) (fun r6982 a w hm F H=>?_)))
 refine rl (bk [0,3,13003,0,0] F H rfl ⟨fld25_3,rfl,plain3,trivial⟩ fun a F=>?_)
 rcases spP 144 F rfl hm with ⟨hg6983,hm,F⟩ | ⟨hg6983,hm,F⟩
 refine bk [0,3,13003,0,4,13004,0,0,0] F H rfl ⟨fld25_3,rfl,plain3,fld25_4,rfl,plain3,trivial⟩ fun a F=>?_
 rcases spP 153 F rfl hm with ⟨hg6984,hm,F⟩ | ⟨hg6984,hm,F⟩
 refine bk [0,3,13003,0,0,0] F H rfl ⟨fld25_3,rfl,plain3,trivial⟩ fun a F=>lz ?_
 cases hm
 refine ct ?_
 exact ⟨F.sl rfl,H⟩
 refine bb (List.replicate 6 0) F H rfl fun a F=>lz ?_
 cases hm
 refine ct ?_
 exact ⟨F.sl rfl,H⟩
 refine bb (List.replicate 15 0) F H rfl fun a F=>lz ?_
 cases hm
 refine ct ?_
 exact ⟨F.sl rfl,H⟩
 refine ct ?_
 refine xm2 15 [0,3,5,6,8,9,10,11] [2,3,4,5,6,7,8,9,10,11,12,13,14] F H hm rfl rfl (fun r6993 (p6994:Option Addr) (c6994:Nat) z=>z) (fun r6993 p6994 c6994 z=>HP.blk b37 ([.int .i64 (0),.int .i64 (((x14.2.2).length:Int)),.slice p6994 (r6993).length c6994,.slice none (([]:List (List UInt8))).length 0]) 37::HP.ow rByte 5 p6994 c6994 r6993::z) (fun r6993 hm=>?_) (fun r6993 a w hm p6994 c6994 F H=>?_)
 refine cB F rfl (fun hg6995=>?_) (fun hg6995=>?_)
 replace hm:=ifT hg6995 hm
 obtain ⟨x6996,ex6996,hm⟩:=ob hm
 obtain ⟨b6997,o6997,hp6997,cs6998,H⟩:=H.slE 5 rfl ex6996
 obtain rfl:=H.rcB 1 rfl
 replace H:=H.dp 1 rfl
 refine mix_regionK [7,8,10] [10] (scL [0,1,2,1003,4,5,1006,2007,2008,9,3010]) [1] H rfl rfl (by kernel_rfl) (by kernel_rfl) fun w H=>?_
 refine mbk [2] F H rfl ⟨fld37_2,trivial⟩ fun a F=>?_
 refine m_pure F rfl rfl rfl rfl (fun u hu=>y_load1 F plain23 rfl rfl (row_at (v:=.slice p6953 (s6952.1).length c6953) ((hu.choose_spec.blk 0 rfl).row) rfl)) fun a F=>?_
 refine mbk [2,7002,0] F H rfl ⟨fld50_2,rfl,plain23,trivial⟩ fun a F=>?_
 refine m_pure F rfl rfl rfl rfl (fun u hu=>y_idxS F elem23 rfl rfl rfl hp6997 ex6996) fun a F=>?_
 refine mbk [0] F H rfl ⟨rfl,plain5,trivial⟩ fun a F=>m_heavy rfl rfl ?_
 obtain ⟨x7000,ex7000,hm⟩:=ob hm
 refine s_buildC wkP F rfl rfl rfl elem23 zero5 rfl rfl rfl rfl (by simp [Value.cells]) (by decide) H fun b6999 w a H F=>?_
 replace H:=H.blkOw1 (R:=rByte) (x:=x7000) (fun gg=>(congrArg (fun z=>[Value.int .u8 z]) (u8O_some ex7000).symm))
 refine lz ?_;refine ct ⟨⟨_,(H.pm 17 [2,0,1,3,4,5,6,7,8,9,10,11,12,13,14,15,16] rfl:)⟩,?_⟩
 refine m_heavy rfl rfl ?_
 replace H:=H.frz 0 rfl
 obtain ⟨x7002,ex7002,hm⟩:=ob hm
 refine s_app wkP F rfl rfl rfl rfl rfl rfl elem23 rfl ex7002 H 3 0 rfl rfl fun p7001 c7001 w a H F=>?_
 refine lz ?_;refine ct ⟨⟨_,(H.pm 17 [2,0,1,3,4,5,6,7,8,9,10,11,12,13,14,15,16] rfl:)⟩,?_⟩
 refine mbk [2] F H rfl ⟨fld37_2,trivial⟩ fun a F=>m_last rfl rfl (s_st1 wkP F rfl rfl zero23 rfl rfl rfl rfl rfl H 2 rfl rfl fun w H=>?_)
 refine lz ?_;refine ct ?_
 refine m_nil ?_
 cases hm
 refine ct ?_
 exact ⟨p7001,c7001,F.sl rfl,(H.pm 17 [2,3,4,5,6,7,8,9,10,11,12,13,14,15,16] rfl:)⟩
 replace hm:=ifF (nT hg6995) hm
 refine sk ?_
 cases hm
 refine ct ?_
 exact ⟨p6953,c6953,F.sl rfl,H⟩
 refine bn ?_
 cases hm
 refine ct ?_
 exact ⟨p6994,c6994,F.sl rfl,H⟩
 refine ct (rl (bb [0,0,0] F H rfl fun a F=>?_))
 refine lz (ct ?_);cases hm
 exact ⟨_,rfl,⟨p6979,c6979,F.sl rfl,H⟩⟩
 refine ex (cx (cx ?_));cases hm;refine ⟨_,rfl,?_⟩;rintro rfl
 refine ch (ct ?_)
 exact ⟨p6953,c6953,F.sl rfl,H⟩
 cases hm
 refine ct ?_
 exact ⟨_,rfl,p6851,c6851,p18,c19,F.sl rfl,(H.pm 15 [0,1,5,2,3,4,5,6,7,8,9,10,11,12,13,14] rfl:)⟩
 refine sb [0,0] F H rfl fun a F=>nl ?_
 refine xr2 15 [0,5,6,8,9] [1,2,3,4,5,6,7,8,9,10,11,12,13,14] F H hm rfl rfl (fun r7958 (p7959:Option Addr) (c7959:Nat) z=>(10,.slice p7959 (r7958.2).length c7959)::z) (fun r7958 p7959 c7959 z=>HP.blk b37 ([.int .i64 (0),.int .i64 (r7958.1),.slice none (([]:List UInt8)).length 0,.slice none (([]:List (List UInt8))).length 0]) 37::HP.sl rByte p7959 c7959 r7958.2::z) (fun o7958 hm hm7958=>?_) (fun r7958 a w hm p7959 c7959 F H=>?_)
 refine cPm F rfl hm (fun hg7960 hm=>?_) (fun hg7960 hm=>?_)
 refine sq (sr (bk [4,13004,0] F H rfl ⟨fld25_4,rfl,plain3,trivial⟩ fun a F=>?_))
 refine nl (cPm F rfl hm (fun hg7961 hm=>?_) (fun hg7961 hm=>?_))
 refine sb [0] F H rfl fun a F=>?_
 obtain ⟨x7962,ex7962,hm⟩:=ob hm
 refine sd F rfl ent39 (w_m_triremeref11_no ex7962 (H.pm 15 [14,0,1,2,3,4,5,6,7,8,9,10,11,12,13,14] rfl:):) ?_;rintro _ w a ⟨p7963,c7963,cs7964,rfl,H⟩ F
 refine bb [0,0,0] F H rfl fun a F=>s_storeA wkP F rfl rfl agg37 rfl rfl rfl H 12 rfl (H.rcLen 1 rfl) rfl (H.rcFlat 1 rfl) fun w H=>?_
 replace H:=H.nf 17 rfl
 refine nl (wr (tr (tr ?_)))
 cases hm
 replace hm:=elimR hm7958
 refine tr ?_
 cases hm
 replace hm:=elimR hm6695
 refine br (tr ?_)
 cases hm
 replace hm:=elimR hm4475
 refine tr ?_
 cases hm
 refine x_resC2 F rfl rfl (⟨_,rfl,agg37.run_load (H.blk 12 rfl).row (H.rcLen 1 rfl)⟩) ?_
 exact ⟨_,rfl,p7963,c7963,cs7964,rfl,(H.pm 17 [0,1] rfl:)⟩
 refine sk (ct (rl (bk [2,6002,4,13004] F H rfl ⟨fld50_2,rfl,plain23,fld25_4,rfl,plain3,trivial⟩ fun a F=>?_)))
 obtain ⟨x7965,ex7965,hm⟩:=ob hm
 refine sd F rfl ent68 (w_m_triremeref11_resized ex7965 (H.pm 15 [5,0,1,2,3,4,5,6,7,8,9,10,11,12,13,14] rfl:):) ?_;rintro _ w a ⟨p7966,c7966,rfl,H⟩ F
 refine bb [0] F H rfl fun a F=>?_
 replace H:=H.nf 16 rfl
 refine lz ?_
 cases hm
 refine ct ?_
 exact ⟨_,rfl,p7966,c7966,F.sl rfl,(H.pm 16 [1,0,2,3,4,5,6,7,8,9,10,11,12,13,14,15] rfl:)⟩
 refine sr (bk [5,13005,0,1] F H rfl ⟨fld25_5,rfl,plain23,⟨_,Tryz.underlying23⟩,fld37_1,trivial⟩ fun a F=>s_st1 wkP F rfl rfl zero3 rfl rfl rfl rfl rfl H 0 rfl rfl fun w H=>?_)
 replace H:=H.nf 15 rfl
 refine nl (sq (sr (bk [3,13003,0,0] F H rfl ⟨fld25_3,rfl,plain3,trivial⟩ fun a F=>?_)))
 rcases spP 72 F rfl hm with ⟨hg7967,hm,F⟩ | ⟨hg7967,hm,F⟩
 refine bb (List.replicate 7 0) F H rfl fun a F=>nl (cT F rfl (sb [0] F H rfl fun a F=>?_))
 obtain ⟨x7968,ex7968,hm⟩:=ob hm
 refine sd F rfl ent39 (w_m_triremeref11_no ex7968 (H.pm 15 [14,0,1,2,3,4,5,6,7,8,9,10,11,12,13,14] rfl:):) ?_;rintro _ w a ⟨p7969,c7969,cs7970,rfl,H⟩ F
 refine bb [0,0,0] F H rfl fun a F=>s_storeA wkP F rfl rfl agg37 rfl rfl rfl H 12 rfl (H.rcLen 1 rfl) rfl (H.rcFlat 1 rfl) fun w H=>?_
 replace H:=H.nf 17 rfl
 refine nl (wr (tr (tr ?_)))
 cases hm
 replace hm:=elimR hm7958
 refine tr ?_
 cases hm
 replace hm:=elimR hm6695
 refine br (tr ?_)
 cases hm
 replace hm:=elimR hm4475
 refine tr ?_
 cases hm
 refine x_resC2 F rfl rfl (⟨_,rfl,agg37.run_load (H.blk 12 rfl).row (H.rcLen 1 rfl)⟩) ?_
 exact ⟨_,rfl,p7969,c7969,cs7970,rfl,(H.pm 17 [0,1] rfl:)⟩
 refine bk [3,13003,1,1,0,0,0] F H rfl ⟨fld25_3,rfl,plain3,fld37_1,rfl,plain3,trivial⟩ fun a F=>?_
 refine nl (cPm F rfl hm (fun hg7971 hm=>?_) (fun hg7971 hm=>?_))
 refine sb [0] F H rfl fun a F=>?_
 obtain ⟨x7972,ex7972,hm⟩:=ob hm
 refine sd F rfl ent39 (w_m_triremeref11_no ex7972 (H.pm 15 [14,0,1,2,3,4,5,6,7,8,9,10,11,12,13,14] rfl:):) ?_;rintro _ w a ⟨p7973,c7973,cs7974,rfl,H⟩ F
 refine bb [0,0,0] F H rfl fun a F=>s_storeA wkP F rfl rfl agg37 rfl rfl rfl H 12 rfl (H.rcLen 1 rfl) rfl (H.rcFlat 1 rfl) fun w H=>?_
 replace H:=H.nf 17 rfl
 refine nl (wr (tr (tr ?_)))
 cases hm
 replace hm:=elimR hm7958
 refine tr ?_
 cases hm
 replace hm:=elimR hm6695
 refine br (tr ?_)
 cases hm
 replace hm:=elimR hm4475
 refine tr ?_
 cases hm
 refine x_resC2 F rfl rfl (⟨_,rfl,agg37.run_load (H.blk 12 rfl).row (H.rcLen 1 rfl)⟩) ?_
 exact ⟨_,rfl,p7973,c7973,cs7974,rfl,(H.pm 17 [0,1] rfl:)⟩
 refine sk (ct (sb [0] F H rfl fun a F=>?_))
 refine nl (xm2 15 [0,5,6,8,9] [0,1,2,3,4,5,6,7,8,9,10,11,12,13,14] F H hm rfl rfl (fun r8444 (p8445:Option Addr) (c8445:Nat) z=>(10,.slice p8445 (r8444).length c8445)::z) (fun r8444 p8445 c8445 z=>HP.sl rByte p8445 c8445 r8444::z) (fun r8444 hm=>?_) (fun r8444 a w hm p8445 c8445 F H=>?_))
 refine bl ?_
 refine xl2 15 [0,3,5,6,8,9] [0,1,2,3,4,5,6,7,8,9,10,11,12,13,14] F H hm rfl rfl (fun (s8758:(List UInt8)×Int) (p8759:Option Addr) (c8759:Nat) z=>(10,.slice p8759 (s8758.1).length c8759)::(12,.int .i64 (s8758.2))::z) (fun s8758 p8759 c8759 z=>HP.sl rByte p8759 c8759 s8758.1::z) ⟨p18,c19,F.sl rfl,(H.pm 15 [5,0,1,2,3,4,5,6,7,8,9,10,11,12,13,14] rfl:)⟩ (fun s8758 a w o p8759 c8759 F H hm=>?_)
 refine sq (sr (bk [0,1,1001,0] F H rfl ⟨fld37_1,rfl,plain3,trivial⟩ fun a F=>?_))
 refine nl (cPm F rfl hm (fun hg8760 hm=>?_) (fun hg8760 hm=>?_))
 refine sk (ct (sq (xm2 16 [0,3,5,6,8,9,12] [1,2,3,4,5,6,7,8,9,10,11,12,13,14,15] F H hm rfl rfl (fun r8837 (p8838:Option Addr) (c8838:Nat) z=>(10,.slice p8838 (r8837).length c8838)::z) (fun r8837 p8838 c8838 z=>HP.sl rByte p8838 c8838 r8837::z) (fun r8837 hm=>?_) (fun r8837 a w hm p8838 c8838 F H=>?_))))
 refine bl (sq (sr (bk [0,0,3,14003,0,0,0] F H rfl ⟨⟨_,Tryz.underlying23⟩,fld25_3,rfl,plain3,trivial⟩ fun a F=>?_)))
 refine nl (xm2 16 [0,3,5,6,8,9,12] [1,2,3,4,5,6,7,8,9,10,11,12,13,14,15] F H hm rfl rfl (fun r8842 (p8843:Option Addr) (c8843:Nat) z=>(10,.slice p8843 (r8842).length c8843)::z) (fun r8842 p8843 c8843 z=>HP.sl rByte p8843 c8843 r8842::z) (fun r8842 hm=>?_) (fun r8842 a w hm p8843 c8843 F H=>?_))
 refine cPm F rfl hm (fun hg8844 hm=>?_) (fun hg8844 hm=>?_)
 refine rl (bk [0,3,14003,0,0,0] F H rfl ⟨fld25_3,rfl,plain3,trivial⟩ fun a F=>?_)
 obtain ⟨x8845,ex8845,hm⟩:=ob hm
 refine sd F rfl ent68 (w_m_triremeref11_resized ex8845 (H.pm 16 [0,0,1,2,3,4,5,6,7,8,9,10,11,12,13,14,15] rfl:):) ?_;rintro _ w a ⟨p8846,c8846,rfl,H⟩ F
 refine bb [0] F H rfl fun a F=>?_
 replace H:=H.nf 17 rfl
 refine lz ?_
 cases hm
 refine ct ?_
 exact ⟨p8846,c8846,F.sl rfl,(H.pm 17 [0,2,3,4,5,6,7,8,9,10,11,12,13,14,15,16] rfl:)⟩
 refine sk ?_
 cases hm
 refine ct ?_
 exact ⟨p8759,c8759,F.sl rfl,H⟩
 refine ct (xm2 16 [0,3,5,6,8,9,12] [1,2,3,4,5,6,7,8,9,10,11,12,13,14,15] F H hm rfl rfl (fun r8880 (p8881:Option Addr) (c8881:Nat) z=>(10,.slice p8881 (r8880).length c8881)::z) (fun r8880 p8881 c8881 z=>HP.sl rByte p8881 c8881 r8880::z) (fun r8880 hm=>?_) (fun r8880 a w hm p8881 c8881 F H=>?_))
 obtain ⟨x8883,ex8883,hm⟩:=ob hm
 have hc8882:=H.slCap 0 rfl
 replace H:=H.slSubN 1 rfl 0 rfl ex8883
 obtain ⟨x8884,ex8884,hm⟩:=ob hm
 obtain ⟨b8885,o8885,hp8885,cs8886,H⟩:=H.slE 11 rfl ex8884
 obtain rfl:=H.rcB 1 rfl
 replace H:=H.dp 1 rfl
 obtain ⟨x8888,ex8888,hm⟩:=ob hm
 have hc8887:=H.slCap 2 rfl
 replace H:=H.slSubN 1 rfl 2 rfl ex8888
 refine mix_region [0,7,13,14,22] [] (.step 0 1 (.step 0 2 (.step 0 3 (.step 0 4 (.step 0 5 (.step 0 6 (.step 0 8 (.step 0 9 (.step 0 10 (.step 0 11 (.step 0 12 (.step 0 15 (.step 0 16 (.step 0 17 (.step 0 18 (.step 0 19 (.step 0 20 (.step 0 21 (.fork 0 (.fork 7 (.step 2 13 (.step 2 14 (.step 2 22 (.step 0 23 .done)))) 13 (.step 2 7 (.step 2 14 (.step 2 22 (.step 0 23 .done))))) 13 (.step 2 0 (.step 2 7 (.step 2 14 (.step 2 22 (.step 0 23 .done)))))))))))))))))))))))) (fun u=>∃ ls,St w0 u (HP.row b8885 (o8885+(s8758.2:Int).toNat * 1) ([.int .u8 (((x8884).toNat:Int))])::HP.blk b5 ([.int .i64 (oq.1),.string (txb (oq.2.1)),.string (txb (oq.2.2.1)),.int .i64 (oq.2.2.2.1),.int .i64 (oq.2.2.2.2.1),.slice p7 (oq.2.2.2.2.2).length c8]) 25::ls)) (by kernel_rfl) (by kernel_rfl) ⟨_,(H.drew.pm 19 [1,17,0,1,2,3,4,5,6,7,8,9,10,11,12,13,14,15,16,18] rfl:)⟩ ?_
 replace H:=H.drew
 generalize w.drew=w at H ⊢
 refine mbk [0,3] F H rfl ⟨fld25_3,trivial⟩ fun a F=>?_
 refine m_pure F rfl rfl rfl rfl (fun u hu=>y_load1 F plain3 rfl rfl (row_at (v:=.int .i64 (oq.2.2.2.1)) ((hu.choose_spec.blk 1 rfl).row) rfl)) fun a F=>?_
 refine mb [0,0] F H rfl fun a F=>?_
 refine m_pure F rfl rfl rfl rfl (fun u hu=>y_slH F elem23 rfl rfl rfl ex8883 hc8882) fun a F=>?_
 refine mbk [5] F H rfl ⟨fld25_5,trivial⟩ fun a F=>?_
 refine m_pure F rfl rfl rfl rfl (fun u hu=>y_load1 F plain23 rfl rfl (row_at (v:=.slice p7 (oq.2.2.2.2.2).length c8) ((hu.choose_spec.blk 1 rfl).row) rfl)) fun a F=>?_
 refine mb [0] F H rfl fun a F=>?_
 refine m_pure F rfl rfl rfl rfl (fun u hu=>y_idxS F elem23 rfl rfl rfl hp8885 ex8884) fun a F=>?_
 refine m_pure F rfl rfl rfl rfl (fun u hu=>y_load1 F plain5 rfl rfl ((hu.choose_spec.rowAt 0 rfl) 0 _ rfl)) fun a F=>?_
 refine mbk [0,3] F H rfl ⟨fld25_3,trivial⟩ fun a F=>?_
 refine m_pure F rfl rfl rfl rfl (fun u hu=>y_load1 F plain3 rfl rfl (row_at (v:=.int .i64 (oq.2.2.2.1)) ((hu.choose_spec.blk 1 rfl).row) rfl)) fun a F=>?_
 refine mb [0,0,0] F H rfl fun a F=>?_
 refine m_pure F rfl rfl rfl rfl (fun u hu=>y_slL F elem23 rfl rfl rfl ex8888 hc8887) fun a F=>?_
 refine m_fork rfl rfl rfl rfl ?_ ?_
 refine m_heavy rfl rfl (s_build0O (R:=rByte) wkP F rfl rfl rfl elem23 rfl H fun b8889 w a H F=>?_)
 refine lz ?_;refine ct ⟨⟨_,(H.pm 20 [2,18,0,1,2,3,4,5,6,7,8,9,10,11,12,13,14,15,16,17,19] rfl:)⟩,?_⟩
 refine m_fork rfl rfl rfl rfl ?_ ?_
 refine m_heavy rfl rfl ?_
 obtain ⟨x8891,ex8891,hm⟩:=ob hm
 refine s_app wkP F rfl rfl rfl rfl rfl rfl elem23 rfl ex8891 H 0 3 rfl rfl fun p8890 c8890 w a H F=>?_
 refine lz ?_;refine ct ⟨⟨_,(H.pm 20 [2,18,0,1,2,3,4,5,6,7,8,9,10,11,12,13,14,15,16,17,19] rfl:)⟩,?_⟩
 refine m_heavy rfl rfl ?_
 obtain ⟨x8893,ex8893,hm⟩:=ob hm
 refine s_buildC wkP F rfl rfl rfl elem23 zero5 rfl rfl rfl rfl (by simp [Value.cells]) (by decide) H fun b8892 w a H F=>?_
 replace H:=H.blkOw1 (R:=rByte) (x:=x8893) (fun gg=>(congrArg (fun z=>[Value.int .u8 z]) (u8O_some ex8893).symm))
 refine lz ?_;refine ct ⟨⟨_,(H.pm 21 [3,19,0,1,2,3,4,5,6,7,8,9,10,11,12,13,14,15,16,17,18,20] rfl:)⟩,?_⟩
 refine m_heavy rfl rfl ?_
 replace H:=H.frz 0 rfl
 obtain ⟨x8895,ex8895,hm⟩:=ob hm
 refine s_app wkP F rfl rfl rfl rfl rfl rfl elem23 rfl ex8895 H 1 0 rfl rfl fun p8894 c8894 w a H F=>?_
 refine lz ?_;refine ct ⟨⟨_,(H.pm 21 [3,19,0,1,2,3,4,5,6,7,8,9,10,11,12,13,14,15,16,17,18,20] rfl:)⟩,?_⟩
 refine m_heavy rfl rfl ?_
 obtain ⟨x8897,ex8897,hm⟩:=ob hm
 refine s_app wkP F rfl rfl rfl rfl rfl rfl elem23 rfl ex8897 H 1 2 rfl rfl fun p8896 c8896 w a H F=>?_
 refine lz ?_;refine ct ⟨⟨_,(H.pm 21 [3,19,0,1,2,3,4,5,6,7,8,9,10,11,12,13,14,15,16,17,18,20] rfl:)⟩,?_⟩
 replace H:=H.frz 1 rfl
 refine mb [0] F H rfl fun a F=>m_nil ?_
 cases hm
 refine ct ?_
 exact ⟨p8896,c8896,F.sl rfl,(H.pm 21 [0,6,7,8,9,10,11,12,13,14,15,16,17,18,19,20] rfl:)⟩
 refine m_heavy rfl rfl ?_
 obtain ⟨x8899,ex8899,hm⟩:=ob hm
 obtain ⟨x8900,ex8900,hm⟩:=ob hm
 refine s_buildC wkP F rfl rfl rfl elem23 zero5 rfl rfl rfl rfl (by simp [Value.cells]) (by decide) H fun b8898 w a H F=>?_
 replace H:=H.blkOw1 (R:=rByte) (x:=x8900) (fun gg=>(congrArg (fun z=>[Value.int .u8 z]) (u8O_some ex8900).symm))
 refine lz ?_;refine ct ⟨⟨_,(H.pm 21 [3,19,0,1,2,3,4,5,6,7,8,9,10,11,12,13,14,15,16,17,18,20] rfl:)⟩,?_⟩
 refine m_heavy rfl rfl ?_
 refine s_app wkP F rfl rfl rfl rfl rfl rfl elem23 rfl ex8899 H 1 4 rfl rfl fun p8901 c8901 w a H F=>?_
 refine lz ?_;refine ct ⟨⟨_,(H.pm 21 [3,19,0,1,2,3,4,5,6,7,8,9,10,11,12,13,14,15,16,17,18,20] rfl:)⟩,?_⟩
 refine m_heavy rfl rfl ?_
 replace H:=H.frz 0 rfl
 obtain ⟨x8903,ex8903,hm⟩:=ob hm
 refine s_app wkP F rfl rfl rfl rfl rfl rfl elem23 rfl ex8903 H 1 0 rfl rfl fun p8902 c8902 w a H F=>?_
 refine lz ?_;refine ct ⟨⟨_,(H.pm 21 [3,19,0,1,2,3,4,5,6,7,8,9,10,11,12,13,14,15,16,17,18,20] rfl:)⟩,?_⟩
 refine m_heavy rfl rfl ?_
 obtain ⟨x8905,ex8905,hm⟩:=ob hm
 refine s_app wkP F rfl rfl rfl rfl rfl rfl elem23 rfl ex8905 H 1 2 rfl rfl fun p8904 c8904 w a H F=>?_
 refine lz ?_;refine ct ⟨⟨_,(H.pm 21 [3,19,0,1,2,3,4,5,6,7,8,9,10,11,12,13,14,15,16,17,18,20] rfl:)⟩,?_⟩
 replace H:=H.frz 1 rfl
 refine mb [0] F H rfl fun a F=>m_nil ?_
 cases hm
 refine ct ?_
 exact ⟨p8904,c8904,F.sl rfl,(H.pm 21 [0,6,7,8,9,10,11,12,13,14,15,16,17,18,19,20] rfl:)⟩
 refine m_heavy rfl rfl ?_
 obtain ⟨x8907,ex8907,hm⟩:=ob hm
 obtain ⟨x8908,ex8908,hm⟩:=ob hm
 refine s_buildC wkP F rfl rfl rfl elem23 zero5 rfl rfl rfl rfl (by simp [Value.cells]) (by decide) H fun b8906 w a H F=>?_
 replace H:=H.blkOw1 (R:=rByte) (x:=x8908) (fun gg=>(congrArg (fun z=>[Value.int .u8 z]) (u8O_some ex8908).symm))
 refine lz ?_;refine ct ⟨⟨_,(H.pm 20 [2,18,0,1,2,3,4,5,6,7,8,9,10,11,12,13,14,15,16,17,19] rfl:)⟩,?_⟩
 refine m_heavy rfl rfl (s_build0O (R:=rByte) wkP F rfl rfl rfl elem23 rfl H fun b8909 w a H F=>?_)
 refine lz ?_;refine ct ⟨⟨_,(H.pm 21 [3,19,0,1,2,3,4,5,6,7,8,9,10,11,12,13,14,15,16,17,18,20] rfl:)⟩,?_⟩
 refine m_heavy rfl rfl ?_
 refine s_app wkP F rfl rfl rfl rfl rfl rfl elem23 rfl ex8907 H 0 4 rfl rfl fun p8910 c8910 w a H F=>?_
 refine lz ?_;refine ct ⟨⟨_,(H.pm 21 [3,19,0,1,2,3,4,5,6,7,8,9,10,11,12,13,14,15,16,17,18,20] rfl:)⟩,?_⟩
 refine m_heavy rfl rfl ?_
 replace H:=H.frz 1 rfl
 obtain ⟨x8912,ex8912,hm⟩:=ob hm
 refine s_app wkP F rfl rfl rfl rfl rfl rfl elem23 rfl ex8912 H 1 0 rfl rfl fun p8911 c8911 w a H F=>?_
 refine lz ?_;refine ct ⟨⟨_,(H.pm 21 [3,19,0,1,2,3,4,5,6,7,8,9,10,11,12,13,14,15,16,17,18,20] rfl:)⟩,?_⟩
 refine m_heavy rfl rfl ?_
 obtain ⟨x8914,ex8914,hm⟩:=ob hm
 refine s_app wkP F rfl rfl rfl rfl rfl rfl elem23 rfl ex8914 H 1 2 rfl rfl fun p8913 c8913 w a H F=>?_
 refine lz ?_;refine ct ⟨⟨_,(H.pm 21 [3,19,0,1,2,3,4,5,6,7,8,9,10,11,12,13,14,15,16,17,18,20] rfl:)⟩,?_⟩
 replace H:=H.frz 1 rfl
 refine mb [0] F H rfl fun a F=>m_nil ?_
 cases hm
 refine ct ?_
 exact ⟨p8913,c8913,F.sl rfl,(H.pm 21 [0,6,7,8,9,10,11,12,13,14,15,16,17,18,19,20] rfl:)⟩
 refine bn ?_
 cases hm
 refine ct ?_
 exact ⟨p8881,c8881,F.sl rfl,H⟩
 refine ct (rl (bb [0,0,0] F H rfl fun a F=>?_))
 refine lz (ct ?_);cases hm
 exact ⟨_,rfl,⟨p8838,c8838,F.sl rfl,H⟩⟩
 refine ex (cx (cx ?_));cases hm;refine ⟨_,rfl,?_⟩;rintro rfl
 refine ch (ct ?_)
 exact ⟨p8759,c8759,F.sl rfl,H⟩
 cases hm
 refine ct ?_
 exact ⟨_,rfl,p8445,c8445,F.sl rfl,(H.pm 16 [1,0,2,3,4,5,6,7,8,9,10,11,12,13,14,15] rfl:)⟩
 cases hm
 refine ct ?_
 exact ⟨_,rfl,none,0,p7959,c7959,F.sl rfl,(H.pm 16 [0,5,1,2,3,4,6,7,8,9,10,11,12,13,14,15] rfl:)⟩
 refine bn ?_
 cases hm
 refine ct ?_
 exact ⟨_,rfl,p6696,c6696,p6697,c6697,F.sl rfl,H⟩
 refine ct (sr (s_build0O (R:=R_triremeref11_Node) wkP F rfl rfl rfl elem30 rfl H fun b8915 w a H F=>bb [0] F H rfl fun a F=>?_))
 obtain ⟨x8917,ex8917,hm⟩:=ob hm
 refine s_app wkP F rfl rfl rfl rfl rfl rfl elem30 rfl ex8917 H 0 16 rfl rfl fun p8916 c8916 w a H F=>?_
 refine bb [0] F H rfl fun a F=>?_
 replace H:=H.nf 17 rfl
 refine nl (sr (bk [0,0,0,8000,0] F H rfl ⟨fld50_0,rfl,plain9,trivial⟩ fun a F=>sv F rfl (y_build F rfl rfl (cs:=[.string (txb (x14.1)),.bool false,.slice p4477 (r4475.2).length c4477]) (by kernel_rfl)) fun a F=>?_))
 obtain ⟨x8918,ex8918,hm⟩:=ob hm
 obtain ⟨b8919,hp8919⟩:=H.owP 0 rfl (idxO_some ex8918).2
 obtain ⟨css8920,H⟩:=H.oxOpen 0 rfl
 obtain ⟨cs8920,hcs8920,hcl8920,H⟩:=H.oxEl 0 rfl (idxO_some ex8918).2
 refine sv F rfl (y_idxS F elem30 rfl rfl rfl hp8919 ex8918) fun a F=>?_
 replace H:=H.oxShut 1 rfl
 refine s_owSetA wkP F rfl rfl agg50 rfl rfl rfl rfl H 1 rfl hp8919 ex8918 (zz:=(x14.1,false,r4475.2)) (fun gg=>⟨_,_,rfl,rfl,⟨_,_,rfl,rfl,⟨_,_,rfl,(gg 4 _ rfl).choose_spec⟩⟩⟩) (fl rfl) rfl fun w H=>?_
 replace H:St w0 w (HP.rc R_triremeref11_Node cs8920 x8918::HP.ow R_triremeref11_Node 50 p8916 c8916 ((x8917).set (x9.1:Int).toNat (x14.1,false,r4475.2))::HP.blk b37 ([.int .i64 (0),.int .i64 (r4475.1.1),.slice p4476 (r4475.1.2).length c4476,.slice none (([]:List (List UInt8))).length 0]) 37::HP.ow rByte 5 p4476 c4476 r4475.1.2::HP.sl rByte p4477 c4477 r4475.2::HP.ow rStr 9 none 0 ([]:List (List UInt8))::HP.ow rByte 5 none 0 ([]:List UInt8)::HP.ow rStr 9 none 0 ([]:List (List UInt8))::HP.sl rByte p18 c19 x14.2.2::HP.blk b17 ([.string (txb (x14.1)),.bool (x14.2.1),.slice p18 (x14.2.2).length c19]) 50::HP.ow rByte 5 none 0 ([]:List UInt8)::HP.row b15 (o15+(x9.1:Int).toNat * 3) ([.string (txb (x14.1)),.bool (x14.2.1),.slice p18 (x14.2.2).length c19])::HP.sl rByte p7 c8 oq.2.2.2.2.2::HP.blk b6 ([.int .i64 (0),.int .i64 (0),.slice none (([]:List UInt8)).length 0,.slice none (([]:List (List UInt8))).length 0]) 37::HP.ow rStr 9 none 0 ([]:List (List UInt8))::HP.ow rByte 5 none 0 ([]:List UInt8)::HP.blk b5 ([.int .i64 (oq.1),.string (txb (oq.2.1)),.string (txb (oq.2.2.1)),.int .i64 (oq.2.2.2.1),.int .i64 (oq.2.2.2.2.1),.slice p7 (oq.2.2.2.2.2).length c8]) 25::HP.sl R_triremeref11_Node p1 c1 list::l):=(by have h:=H;first | exact h | (simp only [List.length_set] at h ⊢;exact h))
 replace F:=F.bool (k:=186) (u:=.slice p8916 ((x8917).set (x9.1:Int).toNat (x14.1,false,r4475.2)).length c8916) rfl (by simp only [List.length_set])
 replace F:=F.bool (k:=13) (u:=.slice p8916 ((x8917).set (x9.1:Int).toNat (x14.1,false,r4475.2)).length c8916) rfl (by simp only [List.length_set])
 replace F:=F.bool (k:=187) (u:=.slice p8916 ((x8917).set (x9.1:Int).toNat (x14.1,false,r4475.2)).length c8916) rfl (by simp only [List.length_set])
 refine nl (sq (mix_regionK [3] [3] (scL [0,1001,2,3003]) [] H rfl rfl (by kernel_rfl) (by kernel_rfl) fun w H=>mbk [0,2999,0] F H rfl ⟨rfl,(aggn agg37 rfl),trivial⟩ fun a F=>m_last rfl rfl (s_storeA wkP F rfl rfl agg37 rfl rfl rfl H 13 rfl rfl rfl (fl rfl) fun w H=>?_)))
 refine lz ?_;refine ct ?_
 refine m_nil (ct (wr ?_))
 replace H:=H.frz 1 rfl
 replace H:=H.frz 3 rfl
 replace H:=H.frz 7 rfl
 replace H:=mk_api_Answer H 0 r4475.1.1 1 rfl 0 rfl
 cases hm
 refine x_resC2 F rfl rfl (⟨_,rfl,agg37.run_load (H.blk 14 rfl).row rfl⟩) ?_
 exact ⟨_,rfl,p8916,c8916,[.int .i64 (0),.int .i64 (r4475.1.1),.slice p4476 (r4475.1.2).length c4476,.slice none (([]:List (List UInt8))).length 0],rfl,(H.pm 19 [3,0] rfl:)⟩
theorem ent69:En Tryz.prog 69:=enters Tryz.func69 (by kernel_rfl) rfl
theorem ent38:En Tryz.prog 38:=enters Tryz.func38 (by kernel_rfl) rfl
theorem w_m_triremeref11_rename {x0_:List T_triremeref11_Node} {x1_:T_api_Op} {p1:Option Addr} {c1:Nat} {cs2:List Value} {w0 w:World} {l:List HP}  {r:(List T_triremeref11_Node)×T_api_Answer} (hm:m_triremeref11_rename x0_ x1_=some r) (H:St w0 w (HP.sl R_triremeref11_Node p1 c1 x0_::HP.rc R_api_Op cs2 x1_::l)) :
  Calls Tryz.prog 41 [.slice p1 (x0_).length c1,.agg cs2.toArray].toArray w (fun e w'=>∃ v,e=.returned v∧∃ (p3:Option Addr) (c3:Nat) (cs4:List Value),v=.tuple [.slice p3 (r.1).length c3,.agg cs4.toArray].toArray∧St w0 w' (HP.sl R_triremeref11_Node p3 c3 r.1::HP.rc R_api_Answer cs4 r.2::l)):=by
 unfold m_triremeref11_rename at hm
 refine x_enter Tryz.func41 rfl rfl rfl ?_
 intro a F
 refine sr (s_boxA wkP F rfl rfl rfl rfl rfl H fun b5 w a H F=>bb [0] F H rfl fun a F=>?_)
 replace H:=H.owNil rByte 5
 replace H:=H.owNil rStr 9
 refine s_allocA wkP F rfl rfl rfl agz37 rfl H fun b6 w a H F=>?_
 replace H:=H.nf 6 rfl
 refine nl (sq (sr (bk [1] F H rfl ⟨fld25_1,trivial⟩ fun a F=>?_)))
 have G:=F;replace H:=rc_api_Op (H.pk 5 rfl);obtain ⟨p7,c8,rfl,J⟩:=H;have H:=J;have F:=G;clear G J
 refine bk [4001] F H rfl ⟨rfl,plain9,trivial⟩ fun a F=>?_
 obtain ⟨x9,ex9,hm⟩:=ob hm
 refine sd F rfl ent28 (w_m_triremeref09_Right ex9 H:) ?_;rintro _ w a ⟨rfl,H⟩ F
 refine bb [0,0] F H rfl fun a F=>?_
 by_cases hg10:(!x9)=true
 replace hm:=ifT hg10 hm
 replace F:=F.vT 15 hg10 rfl
 refine bb (List.replicate 5 0) F H rfl fun a F=>?_
 replace H:=H.nf 6 rfl
 refine nl (cT F rfl (sb [0] F H rfl fun a F=>?_))
 obtain ⟨x11,ex11,hm⟩:=ob hm
 refine sd F rfl ent39 (w_m_triremeref11_no ex11 (H.pm 6 [5,0,1,2,3,4,5] rfl:):) ?_;rintro _ w a ⟨p12,c12,cs13,rfl,H⟩ F
 refine bb [0,0,0] F H rfl fun a F=>s_storeA wkP F rfl rfl agg37 rfl rfl rfl H 3 rfl (H.rcLen 1 rfl) rfl (H.rcFlat 1 rfl) fun w H=>?_
 replace H:=H.nf 8 rfl
 refine nl (wr (tr ?_))
 cases hm
 refine x_resC2 F rfl rfl (⟨_,rfl,agg37.run_load (H.blk 3 rfl).row (H.rcLen 1 rfl)⟩) ?_
 exact ⟨_,rfl,p12,c12,cs13,rfl,(H.pm 8 [0,1] rfl:)⟩
 replace hm:=ifF hg10 hm
 replace F:=F.vF 15 hg10 rfl
 refine bk [2,4002] F H rfl ⟨fld25_2,rfl,plain9,trivial⟩ fun a F=>g_onP F rfl rfl rfl rfl ?_
 obtain ⟨x14,ex14,hm⟩:=ob hm
 refine sd F rfl ent28 (w_m_triremeref09_Right ex14 H:) ?_;rintro _ w a ⟨rfl,H⟩ F
 refine bb [0,0] F H rfl fun a F=>?_
 replace H:=H.nf 6 rfl
 refine nl (cB F rfl (fun hg15=>?_) (fun hg15=>?_))
 replace hm:=ifT hg15 hm
 refine sb [0] F H rfl fun a F=>?_
 obtain ⟨x16,ex16,hm⟩:=ob hm
 refine sd F rfl ent39 (w_m_triremeref11_no ex16 (H.pm 6 [5,0,1,2,3,4,5] rfl:):) ?_;rintro _ w a ⟨p17,c17,cs18,rfl,H⟩ F
 refine bb [0,0,0] F H rfl fun a F=>s_storeA wkP F rfl rfl agg37 rfl rfl rfl H 3 rfl (H.rcLen 1 rfl) rfl (H.rcFlat 1 rfl) fun w H=>?_
 replace H:=H.nf 8 rfl
 refine nl (wr (tr ?_))
 cases hm
 refine x_resC2 F rfl rfl (⟨_,rfl,agg37.run_load (H.blk 3 rfl).row (H.rcLen 1 rfl)⟩) ?_
 exact ⟨_,rfl,p17,c17,cs18,rfl,(H.pm 8 [0,1] rfl:)⟩
 replace hm:=ifF (nT hg15) hm
 refine sk (ct (sr (bk [0,1,4001] F H rfl ⟨fld25_1,rfl,plain9,trivial⟩ fun a F=>?_)))
 obtain ⟨x19,ex19,hm⟩:=ob hm
 refine sd F rfl ent42 (w_m_triremeref11_Look ex19 (H.pm 6 [5,0,1,2,3,4,5] rfl:):) ?_;rintro _ w a ⟨rfl,H⟩ F
 refine bb (List.replicate 5 0) F H rfl fun a F=>?_
 replace H:=H.nf 6 rfl
 refine nl (sq (sb [0,0] F H rfl fun a F=>?_))
 refine nl (cNm F rfl hm (fun hg20 hm=>?_) (fun hg20 hm=>?_))
 refine sb [0,0] F H rfl fun a F=>?_
 obtain ⟨x21,ex21,hm⟩:=ob hm
 refine sd F rfl ent39 (w_m_triremeref11_no ex21 (H.pm 6 [5,0,1,2,3,4,5] rfl:):) ?_;rintro _ w a ⟨p22,c22,cs23,rfl,H⟩ F
 refine bb [0,0,0] F H rfl fun a F=>s_storeA wkP F rfl rfl agg37 rfl rfl rfl H 3 rfl (H.rcLen 1 rfl) rfl (H.rcFlat 1 rfl) fun w H=>?_
 replace H:=H.nf 8 rfl
 refine nl (wr (tr ?_))
 cases hm
 refine x_resC2 F rfl rfl (⟨_,rfl,agg37.run_load (H.blk 3 rfl).row (H.rcLen 1 rfl)⟩) ?_
 exact ⟨_,rfl,p22,c22,cs23,rfl,(H.pm 8 [0,1] rfl:)⟩
 refine sk (ct (sq (sr (bk [1,4001] F H rfl ⟨fld25_1,rfl,plain9,trivial⟩ fun a F=>sv F rfl (y_eqT (l:=x1_.2.1) (m:=[47]) F rfl rfl rfl) fun a F=>bb [0] F H rfl fun a F=>?_))))
 rcases spP 42 F rfl hm with ⟨hg24,hm,F⟩ | ⟨hg24,hm,F⟩
 refine bb (List.replicate 6 0) F H rfl fun a F=>nl (cT F rfl (sb [0] F H rfl fun a F=>?_))
 obtain ⟨x25,ex25,hm⟩:=ob hm
 refine sd F rfl ent39 (w_m_triremeref11_no ex25 (H.pm 6 [5,0,1,2,3,4,5] rfl:):) ?_;rintro _ w a ⟨p26,c26,cs27,rfl,H⟩ F
 refine bb [0,0,0] F H rfl fun a F=>s_storeA wkP F rfl rfl agg37 rfl rfl rfl H 3 rfl (H.rcLen 1 rfl) rfl (H.rcFlat 1 rfl) fun w H=>?_
 replace H:=H.nf 8 rfl
 refine nl (wr (tr ?_))
 cases hm
 refine x_resC2 F rfl rfl (⟨_,rfl,agg37.run_load (H.blk 3 rfl).row (H.rcLen 1 rfl)⟩) ?_
 exact ⟨_,rfl,p26,c26,cs27,rfl,(H.pm 8 [0,1] rfl:)⟩
 refine bk [1,4001,2,4002] F H rfl ⟨fld25_1,rfl,plain9,fld25_2,rfl,plain9,trivial⟩ fun a F=>g_onP F rfl rfl rfl rfl ?_
 obtain ⟨x28,ex28,hm⟩:=ob hm
 refine sd F rfl ent69 (w_m_triremeref09_Within ex28 H:) ?_;rintro _ w a ⟨rfl,H⟩ F
 refine bb [0] F H rfl fun a F=>?_
 replace H:=H.nf 6 rfl
 refine nl (cB F rfl (fun hg29=>?_) (fun hg29=>?_))
 replace hm:=ifT hg29 hm
 refine sb [0] F H rfl fun a F=>?_
 obtain ⟨x30,ex30,hm⟩:=ob hm
 refine sd F rfl ent39 (w_m_triremeref11_no ex30 (H.pm 6 [5,0,1,2,3,4,5] rfl:):) ?_;rintro _ w a ⟨p31,c31,cs32,rfl,H⟩ F
 refine bb [0,0,0] F H rfl fun a F=>s_storeA wkP F rfl rfl agg37 rfl rfl rfl H 3 rfl (H.rcLen 1 rfl) rfl (H.rcFlat 1 rfl) fun w H=>?_
 replace H:=H.nf 8 rfl
 refine nl (wr (tr ?_))
 cases hm
 refine x_resC2 F rfl rfl (⟨_,rfl,agg37.run_load (H.blk 3 rfl).row (H.rcLen 1 rfl)⟩) ?_
 exact ⟨_,rfl,p31,c31,cs32,rfl,(H.pm 8 [0,1] rfl:)⟩
 replace hm:=ifF (nT hg29) hm
 refine sk (ct (sr (bk [0,2,4002] F H rfl ⟨fld25_2,rfl,plain9,trivial⟩ fun a F=>?_)))
 obtain ⟨x33,ex33,hm⟩:=ob hm
 refine sd F rfl ent38 (w_m_triremeref11_Room ex33 (H.pm 6 [5,0,1,2,3,4,5] rfl:):) ?_;rintro _ w a ⟨rfl,H⟩ F
 refine bb [0] F H rfl fun a F=>?_
 replace H:=H.nf 6 rfl
 refine nl (sq (sb [0,0] F H rfl fun a F=>?_))
 refine nl (cNm F rfl hm (fun hg34 hm=>?_) (fun hg34 hm=>?_))
 refine sb [0,0] F H rfl fun a F=>?_
 obtain ⟨x35,ex35,hm⟩:=ob hm
 refine sd F rfl ent39 (w_m_triremeref11_no ex35 (H.pm 6 [5,0,1,2,3,4,5] rfl:):) ?_;rintro _ w a ⟨p36,c36,cs37,rfl,H⟩ F
 refine bb [0,0,0] F H rfl fun a F=>s_storeA wkP F rfl rfl agg37 rfl rfl rfl H 3 rfl (H.rcLen 1 rfl) rfl (H.rcFlat 1 rfl) fun w H=>?_
 replace H:=H.nf 8 rfl
 refine nl (wr (tr ?_))
 cases hm
 refine x_resC2 F rfl rfl (⟨_,rfl,agg37.run_load (H.blk 3 rfl).row (H.rcLen 1 rfl)⟩) ?_
 exact ⟨_,rfl,p36,c36,cs37,rfl,(H.pm 8 [0,1] rfl:)⟩
 refine sk (ct (sr (s_build0O (R:=R_triremeref11_Node) wkP F rfl rfl rfl elem30 rfl H fun b38 w a H F=>bb [0] F H rfl fun a F=>?_)))
 replace H:=H.nf 7 rfl
 refine nl (sq (sb [0] F H rfl fun a F=>?_))
 refine nl (xr2 7 [5] [1,2,3,4,5] F H hm rfl rfl (fun r202 (p203:Option Addr) (c203:Nat) z=>(8,.slice p203 (r202).length c203)::z) (fun r202 p203 c203 z=>HP.ow R_triremeref11_Node 50 p203 c203 r202::z) (fun o202 hm hm202=>?_) (fun r202 a w hm p203 c203 F H=>?_))
 refine bl (xl2 7 [0,3,5] [1,2,3,4,5,6] F H hm rfl rfl (fun (s312:(List T_triremeref11_Node)×Int) (p313:Option Addr) (c313:Nat) z=>(8,.slice p313 (s312.1).length c313)::(9,.int .i64 (s312.2))::z) (fun s312 p313 c313 z=>HP.ow R_triremeref11_Node 50 p313 c313 s312.1::z) ⟨(some ⟨b38,0,none⟩),0,F.sl rfl,H⟩ (fun s312 a w o p313 c313 F H hm=>sq (sr (bk [0,0,0,0] F H rfl ⟨⟨_,Tryz.underlying30⟩,trivial⟩ fun a F=>?_))))
 refine nl (cPm F rfl hm (fun hg314 hm=>?_) (fun hg314 hm=>?_))
 refine sk (ct (sq (xr2 7 [0,3,5,9] [1,2,3,4,5,6] F H hm rfl rfl (fun r340 (p341:Option Addr) (c341:Nat) z=>(8,.slice p341 (r340).length c341)::z) (fun r340 p341 c341 z=>HP.ow R_triremeref11_Node 50 p341 c341 r340::z) (fun o340 hm hm340=>?_) (fun r340 a w hm p341 c341 F H=>?_))))
 refine bl (sb [0,0] F H rfl fun a F=>?_)
 obtain ⟨x342,ex342,hm⟩:=ob hm
 obtain ⟨b343,o343,hp343,cs344,H⟩:=H.slE 6 rfl ex342
 refine sv F rfl (y_idxS F elem30 rfl rfl rfl hp343 ex342) fun a F=>bk [999] F H rfl ⟨rfl,(aggn agg50 (H.rcLen 1 rfl)),trivial⟩ fun a F=>?_
 replace H:=H.owNil rByte 5
 refine s_allocA wkP F rfl rfl rfl agz50 rfl H fun b345 w a H F=>s_storeA wkP F rfl rfl agg50 rfl rfl rfl H 0 rfl (H.rcLen 3 rfl) rfl (H.rcFlat 3 rfl) fun w H=>?_
 replace H:=H.nf 11 rfl
 refine nl (sq (sr (bk [1,9001,0] F H rfl ⟨fld25_1,rfl,plain9,fld50_0,trivial⟩ fun a F=>?_)))
 have G:=F;replace H:=rc_triremeref11_Node (H.pk 3 rfl);obtain ⟨p346,c347,rfl,J⟩:=H;have H:=J;have F:=G;clear G J
 refine bk [1000] F H rfl ⟨rfl,plain9,trivial⟩ fun a F=>?_
 obtain ⟨x348,ex348,hm⟩:=ob hm
 refine sd F rfl ent69 (w_m_triremeref09_Within ex348 H:) ?_;rintro _ w a ⟨rfl,H⟩ F
 replace H:=H.nf 11 rfl
 refine nl (xr0 11 [0,3,5,8,9,10] [0,2,3,4,5,6,7,8,9,10] F H hm rfl rfl (fun r356 z=>z) (fun r356 z=>HP.blk b345 ([.string (txb (r356)),.bool (x342.2.1),.slice p346 (x342.2.2).length c347]) 50::z) (fun o356 hm hm356=>?_) (fun r356 a w hm F H=>?_))
 refine cB F rfl (fun hg357=>?_) (fun hg357=>?_)
 replace hm:=ifT hg357 hm
 refine sq ?_
 obtain ⟨x358,ex358,hm⟩:=ob hm
 obtain ⟨x359,ex359,hm⟩:=ob hm
 refine mix_regionK [10] [10] (scL [0,1001,2,1003,4,1005,6,7,8,9,3010]) [] H rfl rfl (by kernel_rfl) (by kernel_rfl) fun w H=>?_
 refine mbk [2,9002,0,1000,1,9001] F H rfl ⟨fld25_2,rfl,plain9,fld50_0,rfl,plain9,fld25_1,rfl,plain9,trivial⟩ fun a F=>?_
 refine m_pure F rfl rfl rfl rfl (fun u hu=>y_lenT (l:=x1_.2.1) F rfl Tryz.underlying9 rfl) fun a F=>?_
 refine m_pure F rfl rfl rfl rfl (fun u hu=>y_slTL F rfl Tryz.underlying9 rfl rfl ex358) fun a F=>?_
 refine m_pure F rfl rfl rfl rfl (fun u hu=>y_addO F rfl rfl rfl ex359) fun a F=>?_
 refine mbk [0] F H rfl ⟨fld50_0,trivial⟩ fun a F=>m_last rfl rfl (s_st1 wkP F rfl rfl zero9 rfl rfl rfl rfl rfl H 1 rfl rfl fun w H=>?_)
 refine lz ?_;refine ct ?_
 refine m_nil (ct (sr (bk [0,1000] F H rfl ⟨fld50_0,rfl,plain9,trivial⟩ fun a F=>sv F rfl (y_lenT (l:=x359) F rfl Tryz.underlying9 rfl) fun a F=>bb [0] F H rfl fun a F=>?_)))
 replace H:=H.nf 11 rfl
 refine nl (cPm F rfl hm (fun hg360 hm=>?_) (fun hg360 hm=>?_))
 refine sb [0] F H rfl fun a F=>?_
 obtain ⟨x361,ex361,hm⟩:=ob hm
 refine sd F rfl ent39 (w_m_triremeref11_no ex361 (H.pm 11 [10,0,1,2,3,4,5,6,7,8,9,10] rfl:):) ?_;rintro _ w a ⟨p362,c362,cs363,rfl,H⟩ F
 refine bb [0,0,0] F H rfl fun a F=>s_storeA wkP F rfl rfl agg37 rfl rfl rfl H 8 rfl (H.rcLen 1 rfl) rfl (H.rcFlat 1 rfl) fun w H=>?_
 replace H:=H.nf 13 rfl
 refine nl (wr (tr ?_))
 cases hm
 replace hm:=elimR hm356
 refine tr (br (tr ?_))
 cases hm
 replace hm:=elimR hm340
 refine tr (tr ?_);cases hm;refine ⟨_,rfl,?_⟩;rintro rfl
 refine br (tr ?_)
 replace hm:=elimR hm202
 refine tr ?_
 cases hm
 refine x_resC2 F rfl rfl (⟨_,rfl,agg37.run_load (H.blk 8 rfl).row (H.rcLen 1 rfl)⟩) ?_
 exact ⟨_,rfl,p362,c362,cs363,rfl,(H.pm 13 [0,1] rfl:)⟩
 refine sk ?_
 cases hm
 refine ct ?_
 exact ⟨_,rfl,F.sl rfl,(H.pm 11 [1,0,2,3,4,5,6,7,8,9,10] rfl:)⟩
 replace hm:=ifF (nT hg357) hm
 refine sk ?_
 cases hm
 refine ct ?_
 exact ⟨_,rfl,F.sl rfl,(H.pm 11 [1,0,2,3,4,5,6,7,8,9,10] rfl:)⟩
 refine ct (rl (bk [0,999] F H rfl ⟨rfl,(aggn agg50 rfl),trivial⟩ fun a F=>?_))
 refine s_build1 wkP F rfl rfl rfl agg50 elem30 rfl rfl rfl (by decide) H fun b364 w a H F=>?_
 replace H:=H.blkOw1 (R:=R_triremeref11_Node) (x:=(r356,x342.2.1,x342.2.2)) (fun gg=>⟨_,_,rfl,rfl,⟨_,_,rfl,rfl,⟨_,_,rfl,(gg 2 _ rfl).choose_spec⟩⟩⟩)
 replace H:=H.frz 0 rfl
 obtain ⟨x366,ex366,hm⟩:=ob hm
 refine s_app wkP F rfl rfl rfl rfl rfl rfl elem30 rfl ex366 H 5 0 rfl rfl fun p365 c365 w a H F=>?_
 refine bb [0] F H rfl fun a F=>?_
 replace H:=H.nf 12 rfl
 refine lz (bn ?_)
 cases hm
 refine ct ?_
 exact ⟨_,rfl,p365,c365,F.sl rfl,(H.pm 12 [5,6,7,8,9,10,11] rfl:)⟩
 refine ct (rl (bb [0,0,0] F H rfl fun a F=>?_))
 refine lz (ct ?_);cases hm
 exact ⟨_,rfl,⟨p341,c341,F.sl rfl,H⟩⟩
 refine ex (cx (cx ?_));cases hm;refine ⟨_,rfl,?_⟩;rintro rfl
 refine ch (ct ?_)
 exact ⟨_,rfl,p313,c313,F.sl rfl,(H.pm 7 [0,1,2,3,4,5] rfl:)⟩
 refine ct (sb [0] F H rfl fun a F=>?_)
 replace H:=H.owNil rByte 5
 replace H:=H.owNil rStr 9
 refine sv F rfl (y_build F rfl rfl (cs:=[.int .i64 (0),.int .i64 (0),.slice none (([]:List UInt8)).length 0,.slice none (([]:List (List UInt8))).length 0]) (by kernel_rfl)) fun a F=>bb [0] F H rfl fun a F=>s_storeA wkP F rfl rfl agg37 rfl rfl rfl H 4 rfl rfl rfl (fl rfl) fun w H=>?_
 replace H:=H.nf 8 rfl
 refine nl (wr ?_)
 replace H:=H.frz 2 rfl
 replace H:=H.frz 2 rfl
 replace H:=H.frz 2 rfl
 replace H:=mk_api_Answer H 0 0 1 rfl 0 rfl
 cases hm
 refine x_resC2 F rfl rfl (⟨_,rfl,agg37.run_load (H.blk 5 rfl).row rfl⟩) ?_
 exact ⟨_,rfl,p203,c203,[.int .i64 (0),.int .i64 (0),.slice none (([]:List UInt8)).length 0,.slice none (([]:List (List UInt8))).length 0],rfl,(H.pm 9 [3,0] rfl:)⟩
theorem ent40:En Tryz.prog 40:=enters Tryz.func40 (by kernel_rfl) rfl
theorem ent41:En Tryz.prog 41:=enters Tryz.func41 (by kernel_rfl) rfl
theorem ent43:En Tryz.prog 43:=enters Tryz.func43 (by kernel_rfl) rfl
theorem w_m_triremeref11_Do {x0_:List T_triremeref11_Node} {x1_:T_api_Op} {p1:Option Addr} {c1:Nat} {cs2:List Value} {w0 w:World} {l:List HP}  {r:(List T_triremeref11_Node)×T_api_Answer} (hm:m_triremeref11_Do x0_ x1_=some r) (H:St w0 w (HP.sl R_triremeref11_Node p1 c1 x0_::HP.rc R_api_Op cs2 x1_::l)) :
  Calls Tryz.prog 17 [.slice p1 (x0_).length c1,.agg cs2.toArray].toArray w (fun e w'=>∃ v,e=.returned v∧∃ (p3:Option Addr) (c3:Nat) (cs4:List Value),v=.tuple [.slice p3 (r.1).length c3,.agg cs4.toArray].toArray∧St w0 w' (HP.sl R_triremeref11_Node p3 c3 r.1::HP.rc R_api_Answer cs4 r.2::l)):=by
 unfold m_triremeref11_Do at hm
 refine x_enter Tryz.func17 rfl rfl rfl ?_
 intro a F
 refine sr (s_boxA wkP F rfl rfl rfl rfl rfl H fun b5 w a H F=>bb [0] F H rfl fun a F=>?_)
 replace H:=H.owNil rByte 5
 replace H:=H.owNil rStr 9
 refine s_allocA wkP F rfl rfl rfl agz37 rfl H fun b6 w a H F=>?_
 replace H:=H.nf 6 rfl
 refine nl (sq (sr (bk [0] F H rfl ⟨fld25_0,trivial⟩ fun a F=>?_)))
 have G:=F;replace H:=rc_api_Op (H.pk 5 rfl);obtain ⟨p7,c8,rfl,J⟩:=H;have H:=J;have F:=G;clear G J
 refine bk [4000] F H rfl ⟨rfl,plain3,trivial⟩ fun a F=>?_
 refine nl (xr0 6 [0,3,5] [0,1,2,3,4,5] F H hm rfl rfl (fun r273 z=>z) (fun r273 z=>z) (fun o273 hm hm273=>?_) (fun r273 a w hm F H=>?_))
 refine bl (sq (sb [0,0] F H rfl fun a F=>?_))
 refine nl (xm0 6 [0,3,5,14] [0,1,2,3,4,5] F H hm rfl rfl (fun r275 z=>(19,.bool (r275))::z) (fun r275 z=>z) (fun r275 hm=>?_) (fun r275 a w hm F H=>?_))
 refine cPm F rfl hm (fun hg276 hm=>?_) (fun hg276 hm=>?_)
 refine sk ?_
 cases hm
 refine ct ?_
 exact ⟨F.sl rfl,H⟩
 refine rl (bb [0,0] F H rfl fun a F=>lz ?_)
 cases hm
 refine ct ?_
 exact ⟨F.sl rfl,H⟩
 refine ct (xr0 6 [0,3,5] [0,1,2,3,4,5] F H hm rfl rfl (fun r407 z=>z) (fun r407 z=>z) (fun o407 hm hm407=>?_) (fun r407 a w hm F H=>?_))
 refine cB F rfl (fun hg408=>?_) (fun hg408=>?_)
 replace hm:=ifT hg408 hm
 refine sr (bk [0,1,4001] F H rfl ⟨fld25_1,rfl,plain9,trivial⟩ fun a F=>?_)
 obtain ⟨x409,ex409,hm⟩:=ob hm
 refine sd F rfl ent38 (w_m_triremeref11_Room ex409 (H.pm 6 [5,0,1,2,3,4,5] rfl:):) ?_;rintro _ w a ⟨rfl,H⟩ F
 refine bb [0] F H rfl fun a F=>?_
 replace H:=H.nf 6 rfl
 refine nl (sq (sb [0,0] F H rfl fun a F=>?_))
 refine nl (cNm F rfl hm (fun hg410 hm=>?_) (fun hg410 hm=>?_))
 refine sb [0,0] F H rfl fun a F=>?_
 obtain ⟨x411,ex411,hm⟩:=ob hm
 refine sd F rfl ent39 (w_m_triremeref11_no ex411 (H.pm 6 [5,0,1,2,3,4,5] rfl:):) ?_;rintro _ w a ⟨p412,c412,cs413,rfl,H⟩ F
 refine bb [0,0,0] F H rfl fun a F=>s_storeA wkP F rfl rfl agg37 rfl rfl rfl H 3 rfl (H.rcLen 1 rfl) rfl (H.rcFlat 1 rfl) fun w H=>?_
 replace H:=H.nf 8 rfl
 refine nl (wr (tr (tr ?_)))
 cases hm
 replace hm:=elimR hm407
 refine br (tr ?_)
 cases hm
 replace hm:=elimR hm273
 refine tr ?_
 cases hm
 refine x_resC2 F rfl rfl (⟨_,rfl,agg37.run_load (H.blk 3 rfl).row (H.rcLen 1 rfl)⟩) ?_
 exact ⟨_,rfl,p412,c412,cs413,rfl,(H.pm 8 [0,1] rfl:)⟩
 refine sk (ct (sq (xm2 6 [5] [0,1,2,3,4] F H hm rfl rfl (fun r431 (p432:Option Addr) (c432:Nat) z=>(4,.slice p432 (r431).length c432)::z) (fun r431 p432 c432 z=>HP.ow R_triremeref11_Node 50 p432 c432 r431::z) (fun r431 hm=>?_) (fun r431 a w hm p432 c432 F H=>?_))))
 replace H:=H.owNil rByte 5
 replace H:=H.owNil rByte 5
 replace H:=H.owNil rStr 9
 refine mix_region [0,2,9,10,13] [13] (.step 0 1 (.step 0 3 (.step 0 4 (.step 0 5 (.step 0 6 (.step 0 7 (.step 0 8 (.step 0 11 (.fork 0 (.fork 2 (.step 2 9 (.step 2 10 (.step 0 12 (.step 3 13 .done)))) 9 (.step 2 2 (.step 2 10 (.step 0 12 (.step 3 13 .done))))) 9 (.step 2 0 (.step 2 2 (.step 2 10 (.step 0 12 (.step 3 13 .done)))))))))))))) (fun u=>∃ ls,St w0 u (HP.blk b5 ([.int .i64 (x1_.1),.string (txb (x1_.2.1)),.string (txb (x1_.2.2.1)),.int .i64 (x1_.2.2.2.1),.int .i64 (x1_.2.2.2.2.1),.slice p7 (x1_.2.2.2.2.2).length c8]) 25::ls)) (by kernel_rfl) (by kernel_rfl) ⟨_,(H.drew.pm 9 [7,0,1,2,3,4,5,6,8] rfl:)⟩ ?_
 replace H:=H.drew
 generalize w.drew=w at H ⊢
 refine mbk [0,1] F H rfl ⟨fld25_1,trivial⟩ fun a F=>?_
 refine m_pure F rfl rfl rfl rfl (fun u hu=>y_load1 F plain9 rfl rfl (row_at (v:=.string (txb (x1_.2.1))) ((hu.choose_spec.blk 0 rfl).row) rfl)) fun a F=>?_
 refine mbk [0] F H rfl ⟨fld25_0,trivial⟩ fun a F=>?_
 refine m_pure F rfl rfl rfl rfl (fun u hu=>y_load1 F plain3 rfl rfl (row_at (v:=.int .i64 (x1_.1)) ((hu.choose_spec.blk 0 rfl).row) rfl)) fun a F=>?_
 refine mb [0] F H rfl fun a F=>?_
 refine m_pure F rfl rfl rfl rfl (fun u hu=>y_build F rfl rfl (cs:=[.string (txb (x1_.2.1)),.bool (decide (x1_.1=2)),.slice none (([]:List UInt8)).length 0]) (by kernel_rfl)) fun a F=>?_
 refine m_pure F rfl rfl rfl rfl (fun u hu=>y_build F rfl rfl (cs:=[.int .i64 (0),.int .i64 (0),.slice none (([]:List UInt8)).length 0,.slice none (([]:List (List UInt8))).length 0]) (by kernel_rfl)) fun a F=>?_
 refine m_fork rfl rfl rfl rfl ?_ ?_
 refine m_heavy rfl rfl (s_build0O (R:=R_triremeref11_Node) wkP F rfl rfl rfl elem30 rfl H fun b433 w a H F=>?_)
 refine lz ?_;refine ct ⟨⟨_,(H.pm 10 [8,0,1,2,3,4,5,6,7,9] rfl:)⟩,?_⟩
 refine m_fork rfl rfl rfl rfl ?_ ?_
 refine m_heavy rfl rfl ?_
 obtain ⟨x435,ex435,hm⟩:=ob hm
 refine s_app wkP F rfl rfl rfl rfl rfl rfl elem30 rfl ex435 H 0 9 rfl rfl fun p434 c434 w a H F=>?_
 refine lz ?_;refine ct ⟨⟨_,(H.pm 10 [8,0,1,2,3,4,5,6,7,9] rfl:)⟩,?_⟩
 refine m_heavy rfl rfl ?_
 replace H:=H.frz 3 rfl
 refine s_build1 wkP F rfl rfl rfl agg50 elem30 rfl rfl rfl (by decide) H fun b436 w a H F=>?_
 replace H:=H.blkOw1 (R:=R_triremeref11_Node) (x:=(x1_.2.1,decide (x1_.1=2),([]:List UInt8))) (fun gg=>⟨_,_,rfl,rfl,⟨_,_,rfl,rfl,⟨_,_,rfl,(gg 1 _ rfl).choose_spec⟩⟩⟩)
 refine lz ?_;refine ct ⟨⟨_,(H.pm 11 [9,0,1,2,3,4,5,6,7,8,10] rfl:)⟩,?_⟩
 refine m_heavy rfl rfl ?_
 replace H:=H.frz 0 rfl
 obtain ⟨x438,ex438,hm⟩:=ob hm
 refine s_app wkP F rfl rfl rfl rfl rfl rfl elem30 rfl ex438 H 2 0 rfl rfl fun p437 c437 w a H F=>?_
 refine lz ?_;refine ct ⟨⟨_,(H.pm 11 [9,0,1,2,3,4,5,6,7,8,10] rfl:)⟩,?_⟩
 refine mb [0] F H rfl fun a F=>m_last rfl rfl (s_storeA wkP F rfl rfl agg37 rfl rfl rfl H 6 rfl rfl rfl (fl rfl) fun w H=>?_)
 refine lz ?_;refine ct ?_
 refine m_nil ?_
 cases hm
 refine ct ?_
 exact ⟨p437,c437,F.sl rfl,(H.pm 11 [2,5,6,7,8,9] rfl:)⟩
 refine m_heavy rfl rfl ?_
 replace H:=H.frz 3 rfl
 refine s_build1 wkP F rfl rfl rfl agg50 elem30 rfl rfl rfl (by decide) H fun b439 w a H F=>?_
 replace H:=H.blkOw1 (R:=R_triremeref11_Node) (x:=(x1_.2.1,decide (x1_.1=2),([]:List UInt8))) (fun gg=>⟨_,_,rfl,rfl,⟨_,_,rfl,rfl,⟨_,_,rfl,(gg 1 _ rfl).choose_spec⟩⟩⟩)
 refine lz ?_;refine ct ⟨⟨_,(H.pm 11 [9,0,1,2,3,4,5,6,7,8,10] rfl:)⟩,?_⟩
 refine m_heavy rfl rfl ?_
 obtain ⟨x441,ex441,hm⟩:=ob hm
 refine s_app wkP F rfl rfl rfl rfl rfl rfl elem30 rfl ex441 H 2 10 rfl rfl fun p440 c440 w a H F=>?_
 refine lz ?_;refine ct ⟨⟨_,(H.pm 11 [9,0,1,2,3,4,5,6,7,8,10] rfl:)⟩,?_⟩
 refine m_heavy rfl rfl ?_
 replace H:=H.frz 0 rfl
 obtain ⟨x443,ex443,hm⟩:=ob hm
 refine s_app wkP F rfl rfl rfl rfl rfl rfl elem30 rfl ex443 H 2 0 rfl rfl fun p442 c442 w a H F=>?_
 refine lz ?_;refine ct ⟨⟨_,(H.pm 11 [9,0,1,2,3,4,5,6,7,8,10] rfl:)⟩,?_⟩
 refine mb [0] F H rfl fun a F=>m_last rfl rfl (s_storeA wkP F rfl rfl agg37 rfl rfl rfl H 6 rfl rfl rfl (fl rfl) fun w H=>?_)
 refine lz ?_;refine ct ?_
 refine m_nil ?_
 cases hm
 refine ct ?_
 exact ⟨p442,c442,F.sl rfl,(H.pm 11 [2,5,6,7,8,9] rfl:)⟩
 refine m_heavy rfl rfl ?_
 replace H:=H.frz 2 rfl
 refine s_build1 wkP F rfl rfl rfl agg50 elem30 rfl rfl rfl (by decide) H fun b444 w a H F=>?_
 replace H:=H.blkOw1 (R:=R_triremeref11_Node) (x:=(x1_.2.1,decide (x1_.1=2),([]:List UInt8))) (fun gg=>⟨_,_,rfl,rfl,⟨_,_,rfl,rfl,⟨_,_,rfl,(gg 1 _ rfl).choose_spec⟩⟩⟩)
 refine lz ?_;refine ct ⟨⟨_,(H.pm 10 [8,0,1,2,3,4,5,6,7,9] rfl:)⟩,?_⟩
 refine m_heavy rfl rfl (s_build0O (R:=R_triremeref11_Node) wkP F rfl rfl rfl elem30 rfl H fun b445 w a H F=>?_)
 refine lz ?_;refine ct ⟨⟨_,(H.pm 11 [9,0,1,2,3,4,5,6,7,8,10] rfl:)⟩,?_⟩
 refine m_heavy rfl rfl ?_
 obtain ⟨x447,ex447,hm⟩:=ob hm
 refine s_app wkP F rfl rfl rfl rfl rfl rfl elem30 rfl ex447 H 0 10 rfl rfl fun p446 c446 w a H F=>?_
 refine lz ?_;refine ct ⟨⟨_,(H.pm 11 [9,0,1,2,3,4,5,6,7,8,10] rfl:)⟩,?_⟩
 refine m_heavy rfl rfl ?_
 replace H:=H.frz 1 rfl
 obtain ⟨x449,ex449,hm⟩:=ob hm
 refine s_app wkP F rfl rfl rfl rfl rfl rfl elem30 rfl ex449 H 1 0 rfl rfl fun p448 c448 w a H F=>?_
 refine lz ?_;refine ct ⟨⟨_,(H.pm 11 [9,0,1,2,3,4,5,6,7,8,10] rfl:)⟩,?_⟩
 refine mb [0] F H rfl fun a F=>m_last rfl rfl (s_storeA wkP F rfl rfl agg37 rfl rfl rfl H 6 rfl rfl rfl (fl rfl) fun w H=>?_)
 refine lz ?_;refine ct ?_
 refine m_nil ?_
 cases hm
 refine ct ?_
 exact ⟨p448,c448,F.sl rfl,(H.pm 11 [1,5,6,7,8,9] rfl:)⟩
 refine ct (wr (tr ?_))
 cases hm
 replace hm:=elimR hm407
 refine br (tr ?_)
 cases hm
 replace hm:=elimR hm273
 refine tr ?_
 replace H:=H.frz 0 rfl
 replace H:=H.frz 4 rfl
 replace H:=H.frz 4 rfl
 replace H:=mk_api_Answer H 0 0 1 rfl 0 rfl
 cases hm
 refine x_resC2 F rfl rfl (⟨_,rfl,agg37.run_load (H.blk 5 rfl).row rfl⟩) ?_
 exact ⟨_,rfl,p432,c432,[.int .i64 (0),.int .i64 (0),.slice none (([]:List UInt8)).length 0,.slice none (([]:List (List UInt8))).length 0],rfl,(H.pm 7 [3,0] rfl:)⟩
 replace hm:=ifF (nT hg408) hm
 refine sq (sb [0,0] F H rfl fun a F=>?_)
 refine nl (xm0 6 [0,3,5,14] [0,1,2,3,4,5] F H hm rfl rfl (fun r454 z=>(45,.bool (r454))::z) (fun r454 z=>z) (fun r454 hm=>?_) (fun r454 a w hm F H=>?_))
 refine cPm F rfl hm (fun hg455 hm=>?_) (fun hg455 hm=>?_)
 refine sk ?_
 cases hm
 refine ct ?_
 exact ⟨F.sl rfl,H⟩
 refine sb [0,0] F H rfl fun a F=>?_
 refine nl (xm0 6 [0,3,5,14] [0,1,2,3,4,5] F H hm rfl rfl (fun r457 z=>(45,.bool (r457))::z) (fun r457 z=>z) (fun r457 hm=>?_) (fun r457 a w hm F H=>?_))
 refine cPm F rfl hm (fun hg458 hm=>?_) (fun hg458 hm=>?_)
 refine sk ?_
 cases hm
 refine ct ?_
 exact ⟨F.sl rfl,H⟩
 refine rl (bb [0,0] F H rfl fun a F=>lz ?_)
 cases hm
 refine ct ?_
 exact ⟨F.sl rfl,H⟩
 cases hm
 refine ct ?_
 exact ⟨F.sl rfl,H⟩
 refine ct (xr0 6 [0,3,5] [0,1,2,3,4,5] F H hm rfl rfl (fun r498 z=>z) (fun r498 z=>z) (fun o498 hm hm498=>?_) (fun r498 a w hm F H=>?_))
 refine cB F rfl (fun hg499=>?_) (fun hg499=>?_)
 replace hm:=ifT hg499 hm
 refine sr (bk [0,4999] F H rfl ⟨rfl,(aggn agg25 rfl),trivial⟩ fun a F=>?_)
 replace H:=mk_api_Op H x1_.1 x1_.2.1 x1_.2.2.1 x1_.2.2.2.1 x1_.2.2.2.2.1 0 rfl
 obtain ⟨x500,ex500,hm⟩:=ob hm
 refine sd F rfl ent40 (w_rChange ex500 (H.pm 7 [6,0,0,1,2,3,4,5,6] rfl:):) ?_;rintro _ w a ⟨p501,c501,cs502,rfl,H⟩ F
 refine bb [0,0,0] F H rfl fun a F=>s_storeA wkP F rfl rfl agg37 rfl rfl rfl H 4 rfl (H.rcLen 1 rfl) rfl (H.rcFlat 1 rfl) fun w H=>?_
 replace H:=H.nf 9 rfl
 refine nl (wr (tr ?_))
 cases hm
 replace hm:=elimR hm498
 refine tr ?_
 cases hm
 replace hm:=elimR hm407
 refine br (tr ?_)
 cases hm
 replace hm:=elimR hm273
 refine tr ?_
 cases hm
 refine x_resC2 F rfl rfl (⟨_,rfl,agg37.run_load (H.blk 4 rfl).row (H.rcLen 1 rfl)⟩) ?_
 exact ⟨_,rfl,p501,c501,cs502,rfl,(H.pm 9 [0,1] rfl:)⟩
 replace hm:=ifF (nT hg499) hm
 refine sb [0,0] F H rfl fun a F=>?_
 refine nl (xr0 6 [0,3,5] [0,1,2,3,4,5] F H hm rfl rfl (fun r520 z=>z) (fun r520 z=>z) (fun o520 hm hm520=>?_) (fun r520 a w hm F H=>?_))
 refine cPm F rfl hm (fun hg521 hm=>?_) (fun hg521 hm=>?_)
 refine sr (bk [0,4999] F H rfl ⟨rfl,(aggn agg25 rfl),trivial⟩ fun a F=>?_)
 replace H:=mk_api_Op H x1_.1 x1_.2.1 x1_.2.2.1 x1_.2.2.2.1 x1_.2.2.2.2.1 0 rfl
 obtain ⟨x522,ex522,hm⟩:=ob hm
 refine sd F rfl ent41 (w_m_triremeref11_rename ex522 (H.pm 7 [6,0,0,1,2,3,4,5,6] rfl:):) ?_;rintro _ w a ⟨p523,c523,cs524,rfl,H⟩ F
 refine bb [0,0,0] F H rfl fun a F=>s_storeA wkP F rfl rfl agg37 rfl rfl rfl H 4 rfl (H.rcLen 1 rfl) rfl (H.rcFlat 1 rfl) fun w H=>?_
 replace H:=H.nf 9 rfl
 refine nl (wr (tr ?_))
 cases hm
 replace hm:=elimR hm520
 refine tr ?_
 cases hm
 replace hm:=elimR hm498
 refine tr ?_
 cases hm
 replace hm:=elimR hm407
 refine br (tr ?_)
 cases hm
 replace hm:=elimR hm273
 refine tr ?_
 cases hm
 refine x_resC2 F rfl rfl (⟨_,rfl,agg37.run_load (H.blk 4 rfl).row (H.rcLen 1 rfl)⟩) ?_
 exact ⟨_,rfl,p523,c523,cs524,rfl,(H.pm 9 [0,1] rfl:)⟩
 refine sq (sb [0,0] F H rfl fun a F=>?_)
 refine nl (xm0 6 [0,3,5] [0,1,2,3,4,5] F H hm rfl rfl (fun r529 z=>(61,.bool (r529))::z) (fun r529 z=>z) (fun r529 hm=>?_) (fun r529 a w hm F H=>?_))
 refine cPm F rfl hm (fun hg530 hm=>?_) (fun hg530 hm=>?_)
 refine sk ?_
 cases hm
 refine ct ?_
 exact ⟨F.sl rfl,H⟩
 refine sb [0,0] F H rfl fun a F=>?_
 refine nl (xm0 6 [0,3,5] [0,1,2,3,4,5] F H hm rfl rfl (fun r532 z=>(61,.bool (r532))::z) (fun r532 z=>z) (fun r532 hm=>?_) (fun r532 a w hm F H=>?_))
 refine cPm F rfl hm (fun hg533 hm=>?_) (fun hg533 hm=>?_)
 refine sk ?_
 cases hm
 refine ct ?_
 exact ⟨F.sl rfl,H⟩
 refine rl (bb [0,0] F H rfl fun a F=>lz ?_)
 cases hm
 refine ct ?_
 exact ⟨F.sl rfl,H⟩
 cases hm
 refine ct ?_
 exact ⟨F.sl rfl,H⟩
 refine ct (cB F rfl (fun hg534=>?_) (fun hg534=>?_))
 replace hm:=ifT hg534 hm
 refine sk ?_
 cases hm
 refine ct ?_
 exact ⟨_,rfl,F.sl rfl,H⟩
 replace hm:=ifF (nT hg534) hm
 refine sb [0] F H rfl fun a F=>?_
 obtain ⟨x535,ex535,hm⟩:=ob hm
 refine sd F rfl ent39 (w_m_triremeref11_no ex535 (H.pm 6 [5,0,1,2,3,4,5] rfl:):) ?_;rintro _ w a ⟨p536,c536,cs537,rfl,H⟩ F
 refine bb [0,0,0] F H rfl fun a F=>s_storeA wkP F rfl rfl agg37 rfl rfl rfl H 3 rfl (H.rcLen 1 rfl) rfl (H.rcFlat 1 rfl) fun w H=>?_
 replace H:=H.nf 8 rfl
 refine nl (wr (tr ?_))
 cases hm
 replace hm:=elimR hm520
 refine tr ?_
 cases hm
 replace hm:=elimR hm498
 refine tr ?_
 cases hm
 replace hm:=elimR hm407
 refine br (tr ?_)
 cases hm
 replace hm:=elimR hm273
 refine tr ?_
 cases hm
 refine x_resC2 F rfl rfl (⟨_,rfl,agg37.run_load (H.blk 3 rfl).row (H.rcLen 1 rfl)⟩) ?_
 exact ⟨_,rfl,p536,c536,cs537,rfl,(H.pm 8 [0,1] rfl:)⟩
 cases hm
 refine ct ?_
 exact ⟨_,rfl,F.sl rfl,H⟩
 cases hm
 refine ct ?_
 exact ⟨_,rfl,F.sl rfl,H⟩
 refine bn ?_
 cases hm
 refine ct ?_
 exact ⟨_,rfl,F.sl rfl,H⟩
 refine ct (sr (bk [0,1,4001] F H rfl ⟨fld25_1,rfl,plain9,trivial⟩ fun a F=>?_))
 obtain ⟨x538,ex538,hm⟩:=ob hm
 refine sd F rfl ent42 (w_m_triremeref11_Look ex538 (H.pm 6 [5,0,1,2,3,4,5] rfl:):) ?_;rintro _ w a ⟨rfl,H⟩ F
 refine bb (List.replicate 5 0) F H rfl fun a F=>?_
 replace H:=H.nf 6 rfl
 refine nl (sq (sb [0,0] F H rfl fun a F=>?_))
 refine nl (cNm F rfl hm (fun hg539 hm=>?_) (fun hg539 hm=>?_))
 refine sb [0,0] F H rfl fun a F=>?_
 obtain ⟨x540,ex540,hm⟩:=ob hm
 refine sd F rfl ent39 (w_m_triremeref11_no ex540 (H.pm 6 [5,0,1,2,3,4,5] rfl:):) ?_;rintro _ w a ⟨p541,c541,cs542,rfl,H⟩ F
 refine bb [0,0,0] F H rfl fun a F=>s_storeA wkP F rfl rfl agg37 rfl rfl rfl H 3 rfl (H.rcLen 1 rfl) rfl (H.rcFlat 1 rfl) fun w H=>?_
 replace H:=H.nf 8 rfl
 refine nl (wr (tr ?_))
 cases hm
 refine x_resC2 F rfl rfl (⟨_,rfl,agg37.run_load (H.blk 3 rfl).row (H.rcLen 1 rfl)⟩) ?_
 exact ⟨_,rfl,p541,c541,cs542,rfl,(H.pm 8 [0,1] rfl:)⟩
 refine sk (ct (sq ?_))
 refine xm4 6 [0,3,5,7] [0,1,2,3,4,5] F H hm rfl rfl (fun r552 (b553:Nat) (cs554:List Value) (p555:Option Addr) (c555:Nat) z=>(9,.pointer (some ⟨b553,0,none⟩))::(10,.slice p555 (r552.2).length c555)::z) (fun r552 b553 cs554 p555 c555 z=>HP.blk b553 (cs554) 50::HP.rc R_triremeref11_Node cs554 r552.1::HP.sl rStr p555 c555 r552.2::z) (fun r552 hm=>?_) (fun r552 a w hm b553 cs554 p555 c555 F H=>?_)
 obtain ⟨x556,ex556,hm⟩:=ob hm
 obtain ⟨b557,o557,hp557,cs558,H⟩:=H.slE 5 rfl ex556
 refine mix_region [7,8,9] [] (.step 0 0 (.step 0 1 (.step 0 2 (.step 0 3 (.step 0 4 (.step 0 5 (.step 0 6 (.fork 7 (.step 2 8 (.step 2 9 (.step 0 10 .done))) 8 (.step 2 7 (.step 2 9 (.step 0 10 .done))))))))))) (fun u=>∃ ls,St w0 u (HP.row b557 (o557+(x538.1:Int).toNat * 3) cs558::HP.rc R_triremeref11_Node cs558 x556::HP.blk b5 ([.int .i64 (x1_.1),.string (txb (x1_.2.1)),.string (txb (x1_.2.2.1)),.int .i64 (x1_.2.2.2.1),.int .i64 (x1_.2.2.2.2.1),.slice p7 (x1_.2.2.2.2.2).length c8]) 25::ls)) (by kernel_rfl) (by kernel_rfl) ⟨_,(H.drew.pm 8 [0,1,6,0,1,2,3,4,5,7] rfl:)⟩ ?_
 replace H:=H.drew
 generalize w.drew=w at H ⊢
 refine mb [0,0] F H rfl fun a F=>?_
 refine m_pure F rfl rfl rfl rfl (fun u hu=>y_idxS F elem30 rfl rfl rfl hp557 ex556) fun a F=>?_
 refine m_pure F rfl rfl rfl rfl (fun u hu=>y_loadA F agg50 rfl rfl (hu.choose_spec.rowAt 0 rfl) (hu.choose_spec.rcLen 1 rfl)) fun a F=>?_
 refine mbk [0,1] F H rfl ⟨fld25_1,trivial⟩ fun a F=>?_
 refine m_pure F rfl rfl rfl rfl (fun u hu=>y_load1 F plain9 rfl rfl (row_at (v:=.string (txb (x1_.2.1))) ((hu.choose_spec.blk 2 rfl).row) rfl)) fun a F=>?_
 refine m_fork rfl rfl rfl rfl ?_ ?_
 refine m_heavy rfl rfl ?_
 obtain ⟨x559,ex559,hm⟩:=ob hm
 refine sd F rfl ent43 (w_m_triremeref11_Below ex559 (H.pm 8 [7,0,1,2,3,4,5,6,7] rfl:):) ?_;rintro _ w a ⟨p560,c560,rfl,H⟩ F
 refine lz ?_;refine ct ⟨⟨_,(H.pm 9 [1,2,7,0,1,2,3,4,5,6,8] rfl:)⟩,?_⟩
 refine m_heavy rfl rfl ?_
 replace H:=H.owNil rByte 5
 refine s_allocA wkP F rfl rfl rfl agz50 rfl H fun b561 w a H F=>?_
 refine lz ?_;refine ct ⟨⟨_,(H.pm 11 [3,4,9,0,1,2,3,4,5,6,7,8,10] rfl:)⟩,?_⟩
 refine m_heavy rfl rfl (s_storeA wkP F rfl rfl agg50 rfl rfl rfl H 0 rfl (H.rcLen 4 rfl) rfl (H.rcFlat 4 rfl) fun w H=>?_)
 refine lz ?_;refine ct ⟨⟨_,(H.pm 11 [3,4,9,0,1,2,3,4,5,6,7,8,10] rfl:)⟩,?_⟩
 refine mb [0] F H rfl fun a F=>m_nil ?_
 cases hm
 refine ct ?_
 exact ⟨b561,cs558,p560,c560,F.sl rfl,(H.pm 11 [0,4,2,5,6,7,8,9,10] rfl:)⟩
 refine m_heavy rfl rfl ?_
 replace H:=H.owNil rByte 5
 refine s_allocA wkP F rfl rfl rfl agz50 rfl H fun b562 w a H F=>?_
 refine lz ?_;refine ct ⟨⟨_,(H.pm 10 [2,3,8,0,1,2,3,4,5,6,7,9] rfl:)⟩,?_⟩
 refine m_heavy rfl rfl ?_
 obtain ⟨x563,ex563,hm⟩:=ob hm
 refine sd F rfl ent43 (w_m_triremeref11_Below ex563 (H.pm 10 [9,0,1,2,3,4,5,6,7,8,9] rfl:):) ?_;rintro _ w a ⟨p564,c564,rfl,H⟩ F
 refine lz ?_;refine ct ⟨⟨_,(H.pm 11 [3,4,9,0,1,2,3,4,5,6,7,8,10] rfl:)⟩,?_⟩
 refine m_heavy rfl rfl (s_storeA wkP F rfl rfl agg50 rfl rfl rfl H 1 rfl (H.rcLen 4 rfl) rfl (H.rcFlat 4 rfl) fun w H=>?_)
 refine lz ?_;refine ct ⟨⟨_,(H.pm 11 [3,4,9,0,1,2,3,4,5,6,7,8,10] rfl:)⟩,?_⟩
 refine mb [0] F H rfl fun a F=>m_nil ?_
 cases hm
 refine ct ?_
 exact ⟨b562,cs558,p564,c564,F.sl rfl,(H.pm 11 [1,4,0,5,6,7,8,9,10] rfl:)⟩
 refine ct (sq (sr (bk [0,7000,0] F H rfl ⟨fld25_0,rfl,plain3,trivial⟩ fun a F=>?_)))
 refine nl (cPm F rfl hm (fun hg565 hm=>?_) (fun hg565 hm=>?_))
 refine sq (sr (bk [1] F H rfl ⟨fld50_1,trivial⟩ fun a F=>?_))
 have G:=F;replace H:=rc_triremeref11_Node (H.pk 1 rfl);obtain ⟨p566,c567,rfl,J⟩:=H;have H:=J;have F:=G;clear G J
 refine bk [1001] F H rfl ⟨rfl,plain4,trivial⟩ fun a F=>?_
 refine nl (cB F rfl (fun hg568=>?_) (fun hg568=>?_))
 replace hm:=ifT hg568 hm
 refine sb [0] F H rfl fun a F=>?_
 obtain ⟨x570,ex570,hm⟩:=ob hm
 refine s_buildC wkP F rfl rfl rfl elem23 zero5 rfl rfl rfl rfl (by simp [Value.cells]) (by decide) H fun b569 w a H F=>?_
 replace H:=H.blkOw1 (R:=rByte) (x:=x570) (fun gg=>(congrArg (fun z=>[Value.int .u8 z]) (u8O_some ex570).symm))
 refine s_convSl wkP F rfl rfl rfl Tryz.underlying23 Tryz.underlying5 rfl rfl H 0 rfl fun w a H F=>?_
 refine bk [0,0] F H rfl ⟨⟨_,Tryz.underlying35⟩,trivial⟩ fun a F=>?_
 replace H:=H.owNil rStr 9
 refine sv F rfl (y_build F rfl rfl (cs:=[.int .i64 (0),.int .i64 (((r552.2).length:Int)),.slice (some ⟨b569,0,none⟩) ([x570]).length (([x570]).length),.slice none (([]:List (List UInt8))).length 0]) (by kernel_rfl)) fun a F=>bb [0] F H rfl fun a F=>s_storeA wkP F rfl rfl agg37 rfl rfl rfl H 6 rfl rfl rfl (fl rfl) fun w H=>?_
 replace H:=H.nf 11 rfl
 refine nl (wr (tr (tr ?_)))
 replace H:=H.frz 0 rfl
 replace H:=mk_api_Answer H 0 ((r552.2).length:Int) 1 rfl 0 rfl
 cases hm
 refine x_resC2 F rfl rfl (⟨_,rfl,agg37.run_load (H.blk 7 rfl).row rfl⟩) ?_
 exact ⟨_,rfl,p1,c1,[.int .i64 (0),.int .i64 (((r552.2).length:Int)),.slice (some ⟨b569,0,none⟩) ([x570]).length (([x570]).length),.slice none (([]:List (List UInt8))).length 0],rfl,(H.pm 12 [11,0] rfl:)⟩
 replace hm:=ifF (nT hg568) hm
 refine sk (ct (sq (mix_regionK [1,2,8] [8] (scL [0,3,4,5,7,2001,2002,6,3008]) [1] H rfl rfl (by kernel_rfl) (by kernel_rfl) fun w H=>mbk [0,2] F H rfl ⟨fld50_2,trivial⟩ fun a F=>?_)))
 refine m_pure F rfl rfl rfl rfl (fun u hu=>y_load1 F plain23 rfl rfl (row_at (v:=.slice p566 (r552.1.2.2).length c567) ((hu.choose_spec.blk 0 rfl).row) rfl)) fun a F=>?_
 refine mbk [0,0] F H rfl ⟨⟨_,Tryz.underlying23⟩,trivial⟩ fun a F=>m_heavy rfl rfl ?_
 obtain ⟨x572,ex572,hm⟩:=ob hm
 refine s_buildC wkP F rfl rfl rfl elem23 zero5 rfl rfl rfl rfl (by simp [Value.cells]) (by decide) H fun b571 w a H F=>?_
 replace H:=H.blkOw1 (R:=rByte) (x:=x572) (fun gg=>(congrArg (fun z=>[Value.int .u8 z]) (u8O_some ex572).symm))
 refine lz ?_;refine ct ⟨⟨_,(H.pm 10 [2,0,1,3,4,5,6,7,8,9] rfl:)⟩,?_⟩
 refine m_heavy rfl rfl ?_
 refine s_convSl wkP F rfl rfl rfl Tryz.underlying23 Tryz.underlying5 rfl rfl H 0 rfl fun w a H F=>?_
 refine lz ?_;refine ct ⟨⟨_,(H.pm 10 [2,0,1,3,4,5,6,7,8,9] rfl:)⟩,?_⟩
 replace H:=H.owNil rStr 9
 refine m_pure F rfl rfl rfl rfl (fun u hu=>y_build F rfl rfl (cs:=[.int .i64 (0),.int .i64 (((r552.1.2.2).length:Int)),.slice (some ⟨b571,0,none⟩) ([x572]).length (([x572]).length),.slice none (([]:List (List UInt8))).length 0]) (by kernel_rfl)) fun a F=>?_
 refine m_last rfl rfl (s_storeA wkP F rfl rfl agg37 rfl rfl rfl H 6 rfl rfl rfl (fl rfl) fun w H=>?_)
 refine lz ?_;refine ct ?_
 refine m_nil (ct (wr (tr ?_)))
 replace H:=H.frz 0 rfl
 replace H:=mk_api_Answer H 0 ((r552.1.2.2).length:Int) 1 rfl 0 rfl
 cases hm
 refine x_resC2 F rfl rfl (⟨_,rfl,agg37.run_load (H.blk 7 rfl).row rfl⟩) ?_
 exact ⟨_,rfl,p1,c1,[.int .i64 (0),.int .i64 (((r552.1.2.2).length:Int)),.slice (some ⟨b571,0,none⟩) ([x572]).length (([x572]).length),.slice none (([]:List (List UInt8))).length 0],rfl,(H.pm 12 [11,0] rfl:)⟩
 refine sk (ct (sq (sr (bk [0,7000,0] F H rfl ⟨fld25_0,rfl,plain3,trivial⟩ fun a F=>?_))))
 refine nl (cPm F rfl hm (fun hg573 hm=>?_) (fun hg573 hm=>?_))
 refine sq (sr (bk [1] F H rfl ⟨fld50_1,trivial⟩ fun a F=>?_))
 have G:=F;replace H:=rc_triremeref11_Node (H.pk 1 rfl);obtain ⟨p574,c575,rfl,J⟩:=H;have H:=J;have F:=G;clear G J
 refine bk [1001,0] F H rfl ⟨rfl,plain4,trivial⟩ fun a F=>?_
 refine nl (cB F rfl (fun hg576=>?_) (fun hg576=>?_))
 replace hm:=ifT hg576 hm
 refine sb [0] F H rfl fun a F=>?_
 obtain ⟨x577,ex577,hm⟩:=ob hm
 refine sd F rfl ent39 (w_m_triremeref11_no ex577 (H.pm 9 [8,0,1,2,3,4,5,6,7,8] rfl:):) ?_;rintro _ w a ⟨p578,c578,cs579,rfl,H⟩ F
 refine bb [0,0,0] F H rfl fun a F=>s_storeA wkP F rfl rfl agg37 rfl rfl rfl H 6 rfl (H.rcLen 1 rfl) rfl (H.rcFlat 1 rfl) fun w H=>?_
 replace H:=H.nf 11 rfl
 refine nl (wr (tr (tr ?_)))
 cases hm
 refine x_resC2 F rfl rfl (⟨_,rfl,agg37.run_load (H.blk 6 rfl).row (H.rcLen 1 rfl)⟩) ?_
 exact ⟨_,rfl,p578,c578,cs579,rfl,(H.pm 11 [0,1] rfl:)⟩
 replace hm:=ifF (nT hg576) hm
 refine sk (ct (sr (bk [0,0] F H rfl ⟨⟨_,Tryz.underlying35⟩,trivial⟩ fun a F=>?_)))
 replace H:=H.owNil rByte 5
 replace H:=H.owNil rStr 9
 refine sv F rfl (y_build F rfl rfl (cs:=[.int .i64 (0),.int .i64 (((r552.2).length:Int)),.slice none (([]:List UInt8)).length 0,.slice none (([]:List (List UInt8))).length 0]) (by kernel_rfl)) fun a F=>?_
 replace H:=H.owNil rByte 5
 replace H:=H.owNil rStr 9
 refine s_allocA wkP F rfl rfl rfl agz37 rfl H fun b580 w a H F=>s_storeA wkP F rfl rfl agg37 rfl rfl rfl H 0 rfl rfl rfl (fl rfl) fun w H=>?_
 replace H:=H.nf 14 rfl
 refine nl (sq (sb [0] F H rfl fun a F=>?_))
 refine nl (xm2 14 [0,5,11] [1,2,4,5,6,8,9,10,11,12,13] F H hm rfl rfl (fun r702 (p703:Option Addr) (c703:Nat) z=>z) (fun r702 p703 c703 z=>HP.blk b580 ([.int .i64 (0),.int .i64 (((r552.2).length:Int)),.slice none (([]:List UInt8)).length 0,.slice p703 (r702).length c703]) 37::HP.ow rStr 9 p703 c703 r702::z) (fun r702 hm=>?_) (fun r702 a w hm p703 c703 F H=>?_))
 refine bl ?_
 refine xl2 14 [0,3,5,10,11] [1,2,4,5,6,7,8,9,10,11,12,13] F H hm rfl rfl (fun (s784:(List (List UInt8))×Int) (p785:Option Addr) (c785:Nat) z=>(12,.int .i64 (s784.2))::z) (fun s784 p785 c785 z=>HP.blk b580 ([.int .i64 (0),.int .i64 (((r552.2).length:Int)),.slice none (([]:List UInt8)).length 0,.slice p785 (s784.1).length c785]) 37::HP.ow rStr 9 p785 c785 s784.1::z) ⟨none,0,F.sl rfl,(H.pm 14 [0,3,1,2,4,5,6,7,8,9,10,11,12,13] rfl:)⟩ (fun s784 a w o p785 c785 F H hm=>?_)
 refine sq (sr (bk [0,0,0,0] F H rfl ⟨⟨_,Tryz.underlying35⟩,trivial⟩ fun a F=>?_))
 refine nl (cPm F rfl hm (fun hg786 hm=>?_) (fun hg786 hm=>?_))
 refine sk (ct (sq ?_))
 refine xm2 14 [0,3,5,10,11,12] [2,3,4,5,6,7,8,9,10,11,12,13] F H hm rfl rfl (fun r805 (p806:Option Addr) (c806:Nat) z=>z) (fun r805 p806 c806 z=>HP.blk b580 ([.int .i64 (0),.int .i64 (((r552.2).length:Int)),.slice none (([]:List UInt8)).length 0,.slice p806 (r805).length c806]) 37::HP.ow rStr 9 p806 c806 r805::z) (fun r805 hm=>?_) (fun r805 a w hm p806 c806 F H=>?_)
 refine bl (sq ?_)
 obtain ⟨x807,ex807,hm⟩:=ob hm
 obtain ⟨b808,o808,hp808,cs809,H⟩:=H.slE 7 rfl ex807
 obtain rfl:=H.rcStr 1 rfl
 replace H:=H.dp 1 rfl
 by_cases hg810:(gtrB x807 x1_.2.2.1)=true
 replace hm:=ifT hg810 hm
 refine qr H (by kernel_rfl) (by kernel_rfl) ?_
 refine qb [0,0] F rfl fun a F=>qv F rfl (fun u hu=>y_idxS F elem35 rfl rfl rfl hp808 ex807) fun a F=>qbk [0,2,13002] F rfl ⟨rfl,plain9,fld25_2,rfl,plain9,trivial⟩ fun a F=>qv F rfl (fun u hu=>y_gtrT (l:=x807) (m:=x1_.2.2.1) F rfl rfl rfl) fun a F=>qb [0] F rfl fun a F=>?_
 replace F:=F.vT 131 hg810 rfl
 refine qbk [3,1003,0,0,0] F rfl ⟨fld37_3,rfl,plain35,⟨_,Tryz.underlying35⟩,trivial⟩ fun a F=>?_
 refine q_nil fun w H=>?_
 refine ct (xm2 15 [0,3,5,10,11,12] [0,3,4,5,6,7,8,9,10,11,12,13,14] F H hm rfl rfl (fun r817 (p818:Option Addr) (c818:Nat) z=>z) (fun r817 p818 c818 z=>HP.blk b580 ([.int .i64 (0),.int .i64 (((r552.2).length:Int)),.slice none (([]:List UInt8)).length 0,.slice p818 (r817).length c818]) 37::HP.ow rStr 9 p818 c818 r817::z) (fun r817 hm=>?_) (fun r817 a w hm p818 c818 F H=>?_))
 refine cPm F rfl hm (fun hg819 hm=>?_) (fun hg819 hm=>?_)
 obtain ⟨x820,ex820,hm⟩:=ob hm
 obtain ⟨cs821,H⟩:=H.slF 8 rfl hp808 ex820
 obtain rfl:=H.rcStr 1 rfl
 replace H:=H.dp 1 rfl
 refine mix_regionK [6,7,9] [9] (scL [0,1,2,3,4,1005,2006,2007,8,3009]) [2] H rfl rfl (by kernel_rfl) (by kernel_rfl) fun w H=>?_
 refine mbk [3] F H rfl ⟨fld37_3,trivial⟩ fun a F=>?_
 refine m_pure F rfl rfl rfl rfl (fun u hu=>y_load1 F plain35 rfl rfl (row_at (v:=.slice p785 (s784.1).length c785) ((hu.choose_spec.blk 0 rfl).row) rfl)) fun a F=>?_
 refine mb [0,0] F H rfl fun a F=>?_
 refine m_pure F rfl rfl rfl rfl (fun u hu=>y_idxS F elem35 rfl rfl rfl hp808 ex820) fun a F=>?_
 refine mbk [0] F H rfl ⟨rfl,plain9,trivial⟩ fun a F=>m_heavy rfl rfl (s_buildC wkP F rfl rfl rfl elem35 zero9 rfl rfl rfl rfl (by simp [Value.cells]) (by decide) H fun b822 w a H F=>?_)
 replace H:=H.blkOw1 (R:=rStr) (x:=x820) (fun gg=>rfl)
 refine lz ?_;refine ct ⟨⟨_,(H.pm 17 [3,0,1,2,4,5,6,7,8,9,10,11,12,13,14,15,16] rfl:)⟩,?_⟩
 refine m_heavy rfl rfl ?_
 replace H:=H.frz 0 rfl
 obtain ⟨x824,ex824,hm⟩:=ob hm
 refine s_app wkP F rfl rfl rfl rfl rfl rfl elem35 rfl ex824 H 4 0 rfl rfl fun p823 c823 w a H F=>?_
 refine lz ?_;refine ct ⟨⟨_,(H.pm 17 [3,0,1,2,4,5,6,7,8,9,10,11,12,13,14,15,16] rfl:)⟩,?_⟩
 refine mbk [3] F H rfl ⟨fld37_3,trivial⟩ fun a F=>m_last rfl rfl (s_st1 wkP F rfl rfl zero35 rfl rfl rfl rfl rfl H 3 rfl rfl fun w H=>?_)
 refine lz ?_;refine ct ?_
 refine m_nil ?_
 cases hm
 refine ct ?_
 exact ⟨p823,c823,F.sl rfl,(H.pm 17 [3,4,2,5,6,7,8,9,10,11,12,13,14,15,16] rfl:)⟩
 refine sk ?_
 cases hm
 refine ct ?_
 exact ⟨p785,c785,F.sl rfl,(H.pm 15 [1,2,0,3,4,5,6,7,8,9,10,11,12,13,14] rfl:)⟩
 refine bn ?_
 cases hm
 refine ct ?_
 exact ⟨p818,c818,F.sl rfl,(H.pm 15 [0,1,3,4,5,6,7,8,9,10,11,12,13,14] rfl:)⟩
 replace hm:=ifF hg810 hm
 refine qr H (by kernel_rfl) (by kernel_rfl) ?_
 refine qb [0,0] F rfl fun a F=>qv F rfl (fun u hu=>y_idxS F elem35 rfl rfl rfl hp808 ex807) fun a F=>qbk [0,2,13002] F rfl ⟨rfl,plain9,fld25_2,rfl,plain9,trivial⟩ fun a F=>qv F rfl (fun u hu=>y_gtrT (l:=x807) (m:=x1_.2.2.1) F rfl rfl rfl) fun a F=>qb [0] F rfl fun a F=>?_
 replace F:=F.vF 131 hg810 rfl
 refine qb (List.replicate 5 0) F rfl fun a F=>?_
 refine q_nil fun w H=>?_
 refine ct (cF F rfl (sk (bn ?_)))
 cases hm
 refine ct ?_
 exact ⟨p785,c785,F.sl rfl,(H.pm 15 [1,2,3,4,5,6,7,8,9,10,11,12,13,14] rfl:)⟩
 refine ct (rl (bb [0,0,0] F H rfl fun a F=>?_))
 refine lz (ct ?_);cases hm
 exact ⟨_,rfl,⟨p806,c806,F.sl rfl,H⟩⟩
 refine ex (cx (cx ?_));cases hm;refine ⟨_,rfl,?_⟩;rintro rfl
 refine ch (ct ?_)
 exact ⟨p785,c785,F.sl rfl,(H.pm 14 [0,1,2,3,4,5,6,8,9,10,11,12,13] rfl:)⟩
 refine ct (sq (mix_regionK [3] [3] (scL [0,1001,2,3003]) [] H rfl rfl (by kernel_rfl) (by kernel_rfl) fun w H=>mbk [0,999,0] F H rfl ⟨rfl,(aggn agg37 rfl),trivial⟩ fun a F=>m_last rfl rfl (s_storeA wkP F rfl rfl agg37 rfl rfl rfl H 8 rfl rfl rfl (fl rfl) fun w H=>?_)))
 refine lz ?_;refine ct ?_
 refine m_nil (ct (wr (tr ?_)))
 replace H:=H.frz 4 rfl
 replace H:=H.frz 2 rfl
 replace H:=mk_api_Answer H 0 ((r552.2).length:Int) 1 rfl 0 rfl
 cases hm
 refine x_resC2 F rfl rfl (⟨_,rfl,agg37.run_load (H.blk 9 rfl).row rfl⟩) ?_
 exact ⟨_,rfl,p1,c1,[.int .i64 (0),.int .i64 (((r552.2).length:Int)),.slice none (([]:List UInt8)).length 0,.slice p703 (r702).length c703],rfl,(H.pm 14 [13,0] rfl:)⟩
 refine sk (ct (sq (sr (bk [1,7001] F H rfl ⟨fld25_1,rfl,plain9,trivial⟩ fun a F=>sv F rfl (y_eqT (l:=x1_.2.1) (m:=[47]) F rfl rfl rfl) fun a F=>?_))))
 refine nl (cPm F rfl hm (fun hg825 hm=>?_) (fun hg825 hm=>?_))
 refine sb [0] F H rfl fun a F=>?_
 obtain ⟨x826,ex826,hm⟩:=ob hm
 refine sd F rfl ent39 (w_m_triremeref11_no ex826 (H.pm 9 [8,0,1,2,3,4,5,6,7,8] rfl:):) ?_;rintro _ w a ⟨p827,c827,cs828,rfl,H⟩ F
 refine bb [0,0,0] F H rfl fun a F=>s_storeA wkP F rfl rfl agg37 rfl rfl rfl H 6 rfl (H.rcLen 1 rfl) rfl (H.rcFlat 1 rfl) fun w H=>?_
 replace H:=H.nf 11 rfl
 refine nl (wr (tr ?_))
 cases hm
 refine x_resC2 F rfl rfl (⟨_,rfl,agg37.run_load (H.blk 6 rfl).row (H.rcLen 1 rfl)⟩) ?_
 exact ⟨_,rfl,p827,c827,cs828,rfl,(H.pm 11 [0,1] rfl:)⟩
 refine sk (ct (sq (sr (bk [0,0,0] F H rfl ⟨⟨_,Tryz.underlying35⟩,trivial⟩ fun a F=>?_))))
 refine nl (cPm F rfl hm (fun hg829 hm=>?_) (fun hg829 hm=>?_))
 refine sb [0] F H rfl fun a F=>?_
 obtain ⟨x830,ex830,hm⟩:=ob hm
 refine sd F rfl ent39 (w_m_triremeref11_no ex830 (H.pm 9 [8,0,1,2,3,4,5,6,7,8] rfl:):) ?_;rintro _ w a ⟨p831,c831,cs832,rfl,H⟩ F
 refine bb [0,0,0] F H rfl fun a F=>s_storeA wkP F rfl rfl agg37 rfl rfl rfl H 6 rfl (H.rcLen 1 rfl) rfl (H.rcFlat 1 rfl) fun w H=>?_
 replace H:=H.nf 11 rfl
 refine nl (wr (tr ?_))
 cases hm
 refine x_resC2 F rfl rfl (⟨_,rfl,agg37.run_load (H.blk 6 rfl).row (H.rcLen 1 rfl)⟩) ?_
 exact ⟨_,rfl,p831,c831,cs832,rfl,(H.pm 11 [0,1] rfl:)⟩
 refine sk (ct (sq ?_))
 obtain ⟨x834,ex834,hm⟩:=ob hm
 have hc833:=H.slCap 8 rfl
 replace H:=H.slSubN 3 rfl 8 rfl ex834
 obtain ⟨x836,ex836,hm⟩:=ob hm
 have hc835:=H.slCap 9 rfl
 replace H:=H.slSubN 3 rfl 9 rfl ex836
 replace H:=H.owNil rByte 5
 replace H:=H.owNil rStr 9
 refine mix_regionK [0,4,9,12] [12] (scL [1,2,3,5,6,7,8,10,2000,2004,2009,11,3012]) [] H rfl rfl (by kernel_rfl) (by kernel_rfl) fun w H=>?_
 refine mb [0,0] F H rfl fun a F=>?_
 refine m_pure F rfl rfl rfl rfl (fun u hu=>y_slH F elem30 rfl rfl rfl ex834 hc833) fun a F=>?_
 refine mb [0,0,0] F H rfl fun a F=>?_
 refine m_pure F rfl rfl rfl rfl (fun u hu=>y_slL F elem30 rfl rfl rfl ex836 hc835) fun a F=>?_
 refine m_pure F rfl rfl rfl rfl (fun u hu=>y_build F rfl rfl (cs:=[.int .i64 (0),.int .i64 (0),.slice none (([]:List UInt8)).length 0,.slice none (([]:List (List UInt8))).length 0]) (by kernel_rfl)) fun a F=>?_
 refine m_heavy rfl rfl (s_build0O (R:=R_triremeref11_Node) wkP F rfl rfl rfl elem30 rfl H fun b837 w a H F=>?_)
 refine lz ?_;refine ct ⟨⟨_,H⟩,?_⟩
 refine m_heavy rfl rfl ?_
 obtain ⟨x839,ex839,hm⟩:=ob hm
 refine s_app wkP F rfl rfl rfl rfl rfl rfl elem30 rfl ex839 H 0 4 rfl rfl fun p838 c838 w a H F=>?_
 refine lz ?_;refine ct ⟨⟨_,H⟩,?_⟩
 refine m_heavy rfl rfl ?_
 obtain ⟨x841,ex841,hm⟩:=ob hm
 refine s_app wkP F rfl rfl rfl rfl rfl rfl elem30 rfl ex841 H 0 3 rfl rfl fun p840 c840 w a H F=>?_
 refine lz ?_;refine ct ⟨⟨_,H⟩,?_⟩
 refine mb [0] F H rfl fun a F=>m_last rfl rfl (s_storeA wkP F rfl rfl agg37 rfl rfl rfl H 9 rfl rfl rfl (fl rfl) fun w H=>?_)
 refine lz ?_;refine ct ?_
 refine m_nil (ct (wr ?_))
 replace H:=H.frz 0 rfl
 replace H:=H.frz 2 rfl
 replace H:=H.frz 2 rfl
 replace H:=mk_api_Answer H 0 0 1 rfl 0 rfl
 cases hm
 refine x_resC2 F rfl rfl (⟨_,rfl,agg37.run_load (H.blk 10 rfl).row rfl⟩) ?_
 exact ⟨_,rfl,p840,c840,[.int .i64 (0),.int .i64 (0),.slice none (([]:List UInt8)).length 0,.slice none (([]:List (List UInt8))).length 0],rfl,(H.pm 15 [3,0] rfl:)⟩
end Go.Proofs.YthcjjjnphgopjaaGreatDoor
