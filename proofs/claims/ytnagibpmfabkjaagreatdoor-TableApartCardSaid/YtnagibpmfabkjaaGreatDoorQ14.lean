/- Texts TbC. -/
import Derived.Test.YtnagibpmfabkjaaGreatDoorQ13
set_option linter.unusedSimpArgs false
set_option linter.unusedVariables false
namespace Go.Proofs.YtnagibpmfabkjaaGreatDoor
open Go.RowKit Go.Tri
def GoodT (w:WW) (k:Nat):Prop:=∃ hk:k<w.2.length,0≤(w.2[k]).1∧(w.2[k]).1<4∧(w.2[k]).2.1≠0∧RA (w.2[k]).2.2∧(0<k→(w.2[k - 1]'(by omega)).1<(w.2[k]).1)
theorem pairT_of {xs:List Seat} (h:∀ i (hi:i+1<xs.length),(xs[i]).1<(xs[i+1]).1):SrtT xs:=by
  rw [SrtT,List.pairwise_iff_getElem]
  intro i j hi hj hij
  obtain ⟨m,rfl⟩:∃ m,j=i+1+m:=⟨j - (i+1),by omega⟩
  clear hij
  induction m with
  | zero=>exact h i hj
  | succ m ih=>exact Int.lt_trans (ih (by omega)) (h (i+1+m) (by omega))
theorem RtW_iff (w:WW):RtW w↔Rt w.1∧∀ k,k<w.2.length→GoodT w k:=by
  constructor
  · intro h
    refine ⟨h.st,fun k hk=>?_⟩
    obtain ⟨a,b,c,d⟩:=h.se _ (List.getElem_mem hk)
    exact ⟨hk,a,b,c,d,fun h0=>List.pairwise_iff_getElem.1 h.srt (k - 1) k (by omega) hk (by omega)⟩
  · rintro ⟨h1,h3⟩
    refine ⟨h1,fun x hx=>?_,pairT_of fun i hi=>?_⟩
    · obtain ⟨k,hk,rfl⟩:=List.getElem_of_mem hx
      obtain ⟨_,a,b,c,d,_⟩:=h3 k hk;exact ⟨a,b,c,d⟩
    · obtain ⟨_,_,_,_,_,h6⟩:=h3 (i+1) hi;exact h6 (by omega)
theorem tCheck_eq (w:WW) (hs:SmS w.1) (hl:w.2.length≤1000):(tCheck w=some 0∧RtW w)∨(tCheck w=some 22∧¬ RtW w):=by
  unfold tCheck
  obtain ⟨c0,hc,hc0⟩:∃ c0,nCheck w.1=some c0∧(c0=0↔Rt w.1):=by
    rcases nCheck_eq w.1 hs with ⟨h,hr⟩ | ⟨h,hr⟩
    · exact ⟨0,h,fun _=>hr,fun _=>rfl⟩
    · exact ⟨22,h,(fun h=>by cases h),fun h=>absurd h hr⟩
  rw [hc]
  simp only [Option.bind_some]
  refine bind_runP (C:=fun o=>(o=some (0:Int)∧RtW w)∨(o=some 22∧¬ RtW w)) (fun k (q:Bool×Int)=>q.2=(k:Int)∧(q.1=false↔Rt w.1∧∀ j,j<k→GoodT w j)) (fun r=>r=false↔RtW w) w.2.length ⟨rfl,?_⟩ ?_ ?_ ?_
  · simp only [Bool.not_eq_false',decide_eq_true_eq,hc0]
    exact ⟨fun h=>⟨h,fun j hj=>by omega⟩,fun h=>h.1⟩
  · rintro k ⟨b,i⟩ hk ⟨h3,h4⟩
    simp only at h3 h4
    subst h3
    simp only
    have bad:∀ {c:Bool},c=true→¬ GoodT w k→((c,((k:Int)+1)).2=((k+1:Nat):Int)∧(((c,((k:Int)+1)):Bool×Int).1=false↔Rt w.1∧∀ j,j<k+1→GoodT w j)):=fun hc hg=>⟨rfl,by simp only [hc];exact ⟨fun h=>(by cases h),fun h=>absurd (h.2 k (by omega)) hg⟩⟩
    have good:(GoodT w k)→(Rt w.1∧∀ j,j<k→GoodT w j)→(Rt w.1∧∀ j,j<k+1→GoodT w j):=fun hg h=>⟨h.1,fun j hj=>by
      by_cases e:j=k
      · subst e;exact hg
      · exact h.2 j (by omega)⟩
    rw [if_pos (by omega),idxO_get hk]
    simp only [Option.bind_some]
    obtain ⟨by_,c1,hw,hc1⟩:=oWriteA_eq w.2[k].2.2
    rw [hw]
    simp only [Option.bind_some]
    rw [i64_id (n:=(k:Int)+1) (by omega) (by omega)]
    cases b with
    | true =>
      rw [if_pos rfl]
      exact .inl ⟨_,rfl,rfl,⟨fun h=>(by cases h),fun h=>absurd (h4.2 ⟨h.1,fun j hj=>h.2 j (by omega)⟩) (by simp)⟩⟩
    | false =>
      rw [if_neg (by simp)]
      have h5:=h4.1 rfl
      by_cases h6:c1=0
      · have hra:=hc1.1 h6
        rw [if_pos h6]
        have hv:tValid w.2[k].1=some (decide (0≤w.2[k].1∧w.2[k].1<4)):=by
          unfold tValid
          by_cases h1:0≤w.2[k].1
          · rw [if_pos h1];simp [h1]
          · rw [if_neg h1];simp [h1]
        rw [hv]
        simp only [Option.bind_some]
        by_cases h7:0≤w.2[k].1∧w.2[k].1<4
        · rw [if_neg (by simp [h7])]
          by_cases h8:w.2[k].2.1=0
          · rw [if_pos h8]
            exact .inl ⟨_,rfl,bad rfl fun ⟨_,_,_,h9,_⟩=>h9 h8⟩
          · rw [if_neg h8]
            by_cases h9:0<(k:Int)
            · rw [if_pos h9,i64_id (n:=(k:Int) - 1) (by omega) (by omega),show (k:Int) - 1=((k - 1:Nat):Int) by omega,idxO_get (show k - 1<w.2.length by omega)]
              simp only [Option.bind_some,tCompare_eq]
              refine .inl ⟨_,rfl,rfl,?_⟩
              have e:(decide (0≤(if w.2[k - 1].1<w.2[k].1 then (-1:Int) else if w.2[k].1<w.2[k - 1].1 then 1 else 0))=false)↔w.2[k - 1].1<w.2[k].1:=by
                by_cases h10:w.2[k - 1].1<w.2[k].1
                · simp [h10]
                · rw [if_neg h10];simp only [h10,iff_false];split<;>simp
              refine e.trans ⟨fun h10=>good ⟨hk,h7.1,h7.2,h8,hra,fun _=>h10⟩ h5,?_⟩
              rintro ⟨_,h10⟩
              obtain ⟨_,_,_,_,_,h11⟩:=h10 k (by omega)
              exact h11 (by omega)
            · rw [if_neg h9]
              exact .inl ⟨_,rfl,rfl,⟨fun _=>good ⟨hk,h7.1,h7.2,h8,hra,fun h=>by omega⟩ h5,fun _=>rfl⟩⟩
        · rw [if_pos (by rw [decide_eq_false h7];rfl)]
          exact .inl ⟨_,rfl,bad rfl fun ⟨_,h9,h10,_⟩=>h7 ⟨h9,h10⟩⟩
      · rw [if_neg h6]
        exact .inl ⟨_,rfl,bad rfl fun ⟨_,_,_,_,h9,_⟩=>h6 (hc1.2 h9)⟩
  · rintro ⟨b,i⟩ ⟨h3,h4⟩
    simp only at h3 h4
    subst h3
    simp only
    rw [if_neg (by omega)]
    exact ⟨_,rfl,h4.trans (RtW_iff w).symm⟩
  · rintro b hb
    cases b with
    | true=>exact .inr ⟨by rw [if_pos rfl],fun h=>by have:=hb.2 h;cases this⟩
    | false=>exact .inl ⟨by rw [if_neg (by simp)],hb.1 rfl⟩
theorem tCheck_ok {w:WW} (h:RtW w):tCheck w=some 0:=by
  rcases tCheck_eq w h.st.small (by have:=h.len;omega) with ⟨h1,_⟩ | ⟨_,h1⟩
  · exact h1
  · exact absurd h h1
theorem sameT_eq (x y:List (List UInt8)) (hx:x.length≤1000000):rSameT x y=some (decide (x=y)):=by
  have:rSameT x y=m_slices_Equal___string_string_ x y:=rfl
  rw [this,equalT_eq x y hx]
theorem sameAns_eq (a b:Ans) (h:a.2.2.2.length≤1000000):rSameAns a b=some (decide (a=b)):=by
  obtain ⟨a1,a2,a3,a4⟩:=a
  obtain ⟨b1,b2,b3,b4⟩:=b
  simp only at h
  unfold rSameAns
  simp only
  by_cases h1:a1=b1
  · rw [if_pos h1]
    by_cases h2:a2=b2
    · rw [if_pos h2]
      by_cases h3:a3=b3
      · rw [if_pos h3,sameT_eq _ _ h]
        simp [h1,h2,h3]
      · rw [if_neg h3];simp [h3]
    · rw [if_neg h2];simp [h2]
  · rw [if_neg h1];simp [h1]
theorem sameW_refl {w:WW} (h:RtW w):rSameW w w=some true:=by
  have hl:=h.len
  unfold rSameW
  rw [sameS_eq _ _ h.st.small,decide_eq_true rfl]
  simp only [Option.bind_some]
  rw [if_pos trivial]
  have:rSameSeats w.2 w.2=some true:=by
    unfold rSameSeats
    rw [if_pos rfl]
    refine bind_run (fun k (q:Int)=>q=(k:Int)) (fun r=>r=.inl ()) w.2.length rfl ?_ ?_ ?_
    · rintro k _ hk rfl
      have:=(h.se _ (List.getElem_mem hk)).2.2.2.nl
      rw [if_pos (by omega),idxO_get hk]
      simp only [Option.bind_some]
      simp only [if_true]
      rw [sameAns_eq _ _ (by omega),decide_eq_true rfl]
      simp only [Option.bind_some]
      rw [if_neg (by simp),i64_id (by omega) (by omega)]
      exact .inl ⟨_,rfl,rfl⟩
    · rintro _ rfl
      exact ⟨_,by rw [if_neg (by omega)],rfl⟩
    · rintro _ rfl;rfl
  rw [this];rfl
theorem W0_rt:RtW (S0,[]):=⟨S0_rt,(fun x hx=>by cases hx),List.Pairwise.nil⟩
theorem W0_nn:Nn (S0,[]):=fun x hx=>by cases hx
theorem tNew_eq:tNew=some (S0,[]):=by unfold tNew;rw [nNew_eq];rfl
theorem st_C:stP S0 (1,[47,97],[],0,0,[]) 1=((prsF s1f,[]),(0,0,[],[])):=by
  have d:doP s00 (1,[47,97],[],0,0,[])=((0,0,[],[]),s1f):=by
    unfold doP;simp only [s1f_room];rfl
  have e:opP S0 (1,[47,97],[],0,0,[]) 1=((prsF s1f,[]),(0,0,[],[])):=by
    unfold opP
    rw [if_neg (by decide),if_neg (by decide)]
    have hn:nx s00 (1,[47,97],[],0,0,[])=s1f:=by unfold nx;rw [d];rfl
    show ((prsF (nx (rdF (prsF s00)) _),_),(doP (rdF (prsF s00)) _).1)=_
    rw [rd_prs0,hn,d];rfl
  unfold stP
  rw [e,if_pos rfl,if_neg (by unfold unN;simp only;rw [s1f_prs];decide)]
theorem at_self (xs:List Seat) (s:Seat):atT (ptP xs s) s.1=some s:=by
  unfold atT ptP
  rw [List.find?_append,List.find?_eq_none.2 fun a ha=>by have:=loT_lt a ha;simp;omega]
  simp
theorem at_other {xs:List Seat} (h:SrtT xs) (s:Seat) {T:Int} (hT:T≠s.1):atT (ptP xs s) T=atT xs T:=by
  have hp:=partT h s.1
  have e1:atT (ptP xs s) T=(atT (loT xs s.1) T).or (atT (hiT xs s.1) T):=by
    unfold ptP
    unfold atT
    rw [List.find?_append,List.find?_cons_of_neg (by simp;omega)]
  have e2:atT xs T=(atT (loT xs s.1) T).or (atT (hiT xs s.1) T):=by
    have e3:atT xs T=atT (loT xs s.1++((atT xs s.1).toList++hiT xs s.1)) T:=by rw [← hp]
    rw [e3]
    cases hx:atT xs s.1 with
    | none=>unfold atT;rw [List.find?_append];rfl
    | some x =>
      have:=(atT_eq hx).1
      unfold atT
      rw [List.find?_append,Option.toList_some,List.singleton_append,List.find?_cons_of_neg (by simp;omega)]
  rw [e1,e2]
theorem speaks3_eq:l3Speaks=some true:=by
  have hok:OpOk (1,[47,97],[],0,0,[]):=opOk (by decide) (by decide) (by decide)
  have d1:dP (S0,[]) (1,5,1,[47,97],[],0,0,[]) 1=(((prsF s1f,[]),[(1,5,0,0,[],[])]),(0,0,[],[]),0):=by
    unfold dP
    rw [if_pos (by decide),if_pos (by decide),st_C];rfl
  have r1:=dP_rt W0_rt W0_nn (1,5,1,[47,97],[],0,0,[]) 1
  rw [d1] at r1
  have d2:dP ((prsF s1f,[]),[(1,5,0,0,[],[])]) (1,5,1,[47,97],[],0,0,[]) 2=(((prsF s1f,[]),[(1,5,0,0,[],[])]),(0,0,[],[]),1):=by
    unfold dP
    rw [if_pos (by decide),if_neg (by decide)];rfl
  have d3:(dP ((prsF s1f,[]),[(1,5,0,0,[],[])]) (1,4,1,[47,97],[],0,0,[]) 3).2.2=2:=by
    unfold dP
    rw [if_pos (by decide),if_neg (by decide)];rfl
  unfold l3Speaks
  rw [tNew_eq]
  simp only [Option.bind_some]
  rw [tDo_eq W0_rt _ 1 hok,d1]
  simp only [Option.bind_some]
  rw [tDo_eq r1.1 _ 2 hok,d2]
  simp only [Option.bind_some]
  rw [tDo_eq r1.1 _ 3 hok]
  simp only [Option.bind_some,d3]
  rw [sameAns_eq _ _ (by simp)]
  rfl
def lastP (w:WW) (client:Int):Int:=match atT w.2 client with | some x=>x.2.1 | none=>0
theorem fresh_iff (w:WW) (client number:Int):(lkP w.2 client number).1=0↔lastP w client<number:=by
  unfold lkP lastP
  cases hx:atT w.2 client with
  | some x =>
    simp only
    by_cases h1:x.2.1<number
    · simp [h1]
    · rw [if_neg h1]
      by_cases h2:number=x.2.1
      · rw [if_pos h2];simp;omega
      · rw [if_neg h2];simp;omega
  | none =>
    simp only
    by_cases h1:0<number
    · simp [h1]
    · rw [if_neg h1];simp;omega
theorem once_step {w:WW} (h:RtW w) (hn:Nn w) (c:Int×Int×Opr) (g g2:Int) (hc:0≤c.1∧c.1<4) (hf:lastP w c.1<c.2.1) :
    (dP w c g).2.2=0∧dP (dP w c g).1 c g2=((dP w c g).1,(dP w c g).2.1,1)∧(∀ client,lastP (dP w c g).1 client=if client=c.1 then c.2.1 else lastP w client)∧RA (dP w c g).2.1:=by
  have h0:=(fresh_iff w c.1 c.2.1).2 hf
  have e:dP w c g=(((stP w.1 c.2.2 g).1,ptP w.2 (c.1,c.2.1,(stP w.1 c.2.2 g).2)),(stP w.1 c.2.2 g).2,0):=by
    unfold dP;rw [if_pos hc,if_pos h0]
  rw [e]
  refine ⟨rfl,?_,fun client=>?_,stP_ra h.st _ _⟩
  · unfold dP
    have e2:lkP (ptP w.2 (c.1,c.2.1,(stP w.1 c.2.2 g).2)) c.1 c.2.1=(1,(stP w.1 c.2.2 g).2):=by
      unfold lkP
      rw [at_self w.2 (c.1,c.2.1,(stP w.1 c.2.2 g).2)]
      simp only
      rw [if_neg (Int.lt_irrefl _),if_pos trivial]
    rw [if_pos hc]
    simp only [e2]
    rw [if_neg (by decide)]
  · unfold lastP
    by_cases hcl:client=c.1
    · subst hcl
      rw [if_pos rfl,at_self w.2 (c.1,c.2.1,(stP w.1 c.2.2 g).2)]
    · rw [if_neg hcl,at_other h.srt _ hcl]
theorem once_stay {w:WW} (c:Int×Int×Opr) (g:Int) (hf:¬ ((0≤c.1∧c.1<4)∧lastP w c.1<c.2.1)):(dP w c g).1=w∧(dP w c g).2.2≠0:=by
  unfold dP
  by_cases hc:0≤c.1∧c.1<4
  · have h0:¬ (lkP w.2 c.1 c.2.1).1=0:=fun h=>hf ⟨hc,(fresh_iff w c.1 c.2.1).1 h⟩
    rw [if_pos hc,if_neg h0];exact ⟨rfl,h0⟩
  · rw [if_neg hc];exact ⟨rfl,show ¬ (2:Int)=0 by decide⟩
theorem sameA_self (a:Ans) (h:a.2.2.2.length≤6):rSameAns (a.1,a.2.1,a.2.2.1,a.2.2.2) (a.1,a.2.1,a.2.2.1,a.2.2.2)=some true:=by
  rw [show rSameAns (a.1,a.2.1,a.2.2.1,a.2.2.2) (a.1,a.2.1,a.2.2.1,a.2.2.2)=rSameAns a a from rfl,sameAns_eq a a (by omega),decide_eq_true rfl]
theorem once_true (script:List (Int×Int×Opr)):lOnce script=some true:=by
  unfold lOnce
  rw [speaks3_eq]
  simp only [Option.bind_some]
  rw [if_neg (by simp)]
  by_cases h30:30<(script.length:Int)
  · rw [if_pos h30]
  rw [if_neg h30,tNew_eq]
  simp only [Option.bind_some]
  refine bind_run (fun k (t:WW×(Int→Option Int)×Int)=>t.2.2=(k:Int)∧RtW t.1∧Nn t.1∧∀ client,(t.2.1 client).getD 0=lastP t.1 client) (fun r=>r=.inr true∨∃ q,r=.inl q) script.length ⟨rfl,W0_rt,W0_nn,fun client=>rfl⟩ ?_ ?_ ?_
  · rintro k ⟨w,m,i⟩ hk ⟨h1,hr,hn,hm⟩
    simp only at h1 hr hn hm
    subst h1
    simp only
    rw [if_pos (by omega),idxO_get hk]
    simp only [Option.bind_some]
    rcases greatOp_eq script[k].2.2 with hg | ⟨hg,o1,o2,o3⟩
    · rw [hg]
      exact .inr ⟨_,rfl,.inl rfl⟩
    rw [hg]
    simp only [Option.bind_some,Bool.false_eq_true,if_false]
    have hok:=opOk o1 o2 o3
    generalize IntKind.u64.wrap (k:Int)=g
    generalize IntKind.u64.wrap (IntKind.i64.wrap ((k:Int)+1))=g2
    obtain ⟨c,hc⟩:∃ c,c=script[k]:=⟨_,rfl⟩
    rw [← hc] at hok ⊢
    have hr2:=dP_rt hr hn c g
    have hr3:=dP_rt hr2.1 hr2.2 c g2
    rw [show tDo w (c.1,c.2.1,c.2.2) g=_ from tDo_eq hr c g hok]
    simp only [Option.bind_some]
    rw [show tDo (dP w c g).1 (c.1,c.2.1,c.2.2) g2=_ from tDo_eq hr2.1 c g2 hok]
    simp only [Option.bind_some]
    by_cases hf:(0≤c.1∧c.1<4)∧lastP w c.1<c.2.1
    · obtain ⟨e1,e2,e3,e4⟩:=once_step hr hn c g g2 hf.1 hf.2
      rw [if_pos hf.1.1,if_pos hf.1.2,hm,e1,if_pos (by simp [hf.2])]
      simp only [e2,e1]
      rw [if_pos trivial,if_pos trivial,sameA_self _ e4.nl]
      simp only [Option.bind_some]
      rw [if_neg (by simp)]
      simp only [Option.bind_some,Sum.elim_inl]
      rw [show rSameW (((dP w c g).1.1.1,(dP w c g).1.1.2),(dP w c g).1.2) (((dP w c g).1.1.1,(dP w c g).1.1.2),(dP w c g).1.2)=some true from sameW_refl hr2.1]
      simp only [Option.bind_some]
      rw [if_neg (by simp),show tCheck (((dP w c g).1.1.1,(dP w c g).1.1.2),(dP w c g).1.2)=some 0 from tCheck_ok hr2.1]
      simp only [Option.bind_some]
      rw [if_pos trivial]
      simp only [Option.bind_some,Sum.elim_inl]
      refine .inl ⟨_,rfl,by rw [i64_id (by omega) (by omega)];rfl,hr2.1,hr2.2,fun client=>?_⟩
      simp only
      rw [e3]
      unfold fset
      by_cases hcl:client=c.1
      · rw [if_pos hcl,if_pos hcl];rfl
      · rw [if_neg hcl,if_neg hcl,hm]
    · obtain ⟨e1,e2⟩:=once_stay (w:=w) c g hf
      obtain ⟨e3,e4⟩:=once_stay (w:=w) c g2 hf
      have fin:∀ (X:Bool) (P Q:Option (((WW×(Int→Option Int)) ⊕ Bool))),X=false→True:=fun _ _ _ _=>trivial
      have hd:decide ((dP w c g).2.2=0)=false:=decide_eq_false e2
      simp only [e1,e3,hd]
      have tail:∀ (Y:Option ((Int→Option Int) ⊕ Bool)),Y=some (.inl m)→(Option.bind (Option.bind Y fun o=>Sum.elim (fun r=>(rSameW w w).bind fun x=>if (!x)=true then (some (.inr false)) else ((tCheck w).bind fun x'=>if x'=0 then (some (.inl (w,r))) else (some (.inr false)))) (fun rv=>some (.inr rv)) o) fun o860=>Sum.elim (fun (r860:WW×(Int→Option Int))=>(some (.inl (r860.1,r860.2,IntKind.i64.wrap ((k:Int)+1))):Option ((WW×(Int→Option Int)×Int) ⊕ ((WW×(Int→Option Int)) ⊕ Bool)))) (fun rv=>some (.inr (.inr rv))) o860)=some (.inl (w,m,((k+1:Nat):Int))):=fun Y hY=>by
        rw [hY]
        simp only [Option.bind_some,Sum.elim_inl]
        rw [sameW_refl hr]
        simp only [Option.bind_some]
        rw [if_neg (by simp),tCheck_ok hr]
        simp only [Option.bind_some]
        rw [if_pos trivial]
        simp only [Option.bind_some,Sum.elim_inl]
        rw [i64_id (by omega) (by omega)];rfl
      have mid:∀ (A:Option ((Int→Option Int) ⊕ Bool)),(if (dP w c g).2.2=0 then A else ((rSameW w w).bind fun x=>if (!x)=true then (some (.inr false)) else (some (.inl m))))=some (.inl m):=fun A=>by
        rw [if_neg e2,sameW_refl hr]
        simp only [Option.bind_some]
        rw [if_neg (by simp)]
      refine .inl ⟨(w,m,((k+1:Nat):Int)),?_,rfl,hr,hn,hm⟩
      by_cases hc1:0≤c.1
      · rw [if_pos hc1]
        by_cases hc2:c.1<4
        · have hl:¬ lastP w c.1<c.2.1:=fun h=>hf ⟨⟨hc1,hc2⟩,h⟩
          rw [if_pos hc2,hm,if_pos (by simp [hl])]
          exact tail _ (mid _)
        · rw [if_neg hc2,if_pos trivial]
          exact tail _ (mid _)
      · rw [if_neg hc1,if_pos trivial]
        exact tail _ (mid _)
  · rintro ⟨w,m,i⟩ ⟨h1,_⟩
    simp only at h1
    subst h1
    simp only
    rw [if_neg (by omega)]
    exact ⟨_,rfl,.inr ⟨_,rfl⟩⟩
  · rintro _ (rfl | ⟨q,rfl⟩)<;>rfl
theorem greatW_eq (w:WW):rGreatW w=some true∨(rGreatW w=some false∧SmS w.1∧w.2.length≤20):=by
  unfold rGreatW
  rcases greatS_eq w.1 with h | ⟨h,hs,_⟩
  · rw [h];exact .inl rfl
  · rw [h]
    simp only [Option.bind_some,Bool.false_eq_true,if_false]
    by_cases h1:20<(w.2.length:Int)
    · rw [decide_eq_true h1];exact .inl rfl
    · rw [decide_eq_false h1];exact .inr ⟨rfl,hs,by omega⟩
theorem lk_other {w:WW} (h:RtW w) (c:Int×Int×Opr) (g client number:Int) (hcl:client≠c.1):lkP (dP w c g).1.2 client number=lkP w.2 client number:=by
  unfold dP
  by_cases hc:0≤c.1∧c.1<4
  · rw [if_pos hc]
    by_cases h0:(lkP w.2 c.1 c.2.1).1=0
    · rw [if_pos h0]
      unfold lkP
      rw [at_other h.srt _ hcl]
    · rw [if_neg h0]
  · rw [if_neg hc]
theorem lk_ans {w:WW} (h:RtW w) (client number:Int):(lkP w.2 client number).2.2.2.2.length≤6:=by
  unfold lkP
  cases hx:atT w.2 client with
  | some x =>
    simp only
    split
    · simp [za]
    · split
      · exact (h.se x (atT_eq hx).2).2.2.2.nl
      · simp [za]
  | none=>simp only;split<;>simp [za]
theorem apart_true (w:WW) (hn:∀ x∈w.2,0≤x.2.1) (c:Int×Int×Opr):lApart w c=some true:=by
  unfold lApart
  rw [speaks3_eq]
  simp only [Option.bind_some]
  rw [if_neg (by simp)]
  rcases greatW_eq w with h | ⟨h,hs,hl⟩
  · rw [h];rfl
  rw [h]
  simp only [Option.bind_some,Bool.false_eq_true,if_false]
  rcases greatOp_eq c.2.2 with hg | ⟨hg,o1,o2,o3⟩
  · rw [hg];rfl
  rw [hg]
  simp only [Option.bind_some,Bool.false_eq_true,if_false]
  rcases tCheck_eq w hs (by omega) with ⟨h1,hr⟩ | ⟨h1,_⟩
  · rw [h1]
    simp only [Option.bind_some]
    have hr2:=dP_rt hr hn c 9
    rw [if_pos trivial,show tDo w (c.1,c.2.1,c.2.2) 9=_ from tDo_eq hr c 9 (opOk o1 o2 o3)]
    simp only [Option.bind_some]
    refine bind_run (fun k (t:Int)=>t=(k:Int)) (fun r=>r=.inl ()) 4 rfl ?_ ?_ ?_
    · rintro k _ hk rfl
      rw [if_pos (by omega)]
      by_cases hcl:(k:Int)=c.1
      · rw [if_pos hcl]
        simp only [Option.bind_some,Sum.elim_inl]
        exact .inl ⟨_,rfl,by rw [i64_id (by omega) (by omega)];rfl⟩
      · rw [if_neg hcl]
        refine .inl ⟨((k+1:Nat):Int),?_,rfl⟩
        have fin:∀ (Y:Option (Unit ⊕ Bool)),Y=some (.inl ())→(Option.bind Y fun o1285=>Sum.elim (fun _=>(some (.inl (IntKind.i64.wrap ((k:Int)+1))):Option (Int ⊕ (Unit ⊕ Bool)))) (fun rv=>some (.inr (.inr rv))) o1285)=some (.inl ((k+1:Nat):Int)):=fun Y hY=>by
          rw [hY]
          simp only [Option.bind_some,Sum.elim_inl]
          rw [i64_id (by omega) (by omega)];rfl
        refine fin _ ?_
        refine bind_run (fun n (t:Int)=>t=(n:Int)) (fun r=>r=.inl ()) 30 rfl ?_ ?_ ?_
        · rintro n _ hn30 rfl
          rw [if_pos (by omega),tLook_eq hr.srt (hr.sm (by have:=hr.len;omega)),tLook_eq hr2.1.srt (hr2.1.sm (by have:=hr2.1.len;omega)),lk_other hr c 9 _ _ hcl]
          simp only [Option.bind_some]
          rw [if_pos trivial,sameA_self _ (lk_ans hr (k:Int) (n:Int))]
          simp only [Option.bind_some]
          rw [if_neg (by simp),u64_id (by omega) (by omega)]
          exact .inl ⟨_,rfl,rfl⟩
        · rintro _ rfl
          exact ⟨_,by rw [if_neg (by omega)],rfl⟩
        · rintro _ rfl;rfl
    · rintro _ rfl
      exact ⟨_,by rw [if_neg (by omega)],rfl⟩
    · rintro _ rfl
      simp only [Sum.elim_inl]
      rw [show tCheck (((dP w c 9).1.1.1,(dP w c 9).1.1.2),(dP w c 9).1.2)=some 0 from tCheck_ok hr2.1];rfl
  · rw [h1];rfl
end Go.Proofs.YtnagibpmfabkjaaGreatDoor
