/- Packed. -/
import Derived.Test.YtbcmabolkkfgfaaGreatDoorQ28
set_option maxRecDepth 100000
set_option maxHeartbeats 40000000
open Go.Value renaming int → I
open Go.IntKind renaming i64 → O
namespace Go.Proofs.YtbcmabolkkfgfaaGreatDoor
open Go.RowKit Te Sc
theorem step_def {st:PS}{x:List UInt8}{r:List (List UInt8)}(h1:¬(x=wScheme∧(st.state=0∨3≤st.state)))(h2:¬(x=wIf∧st.state=1))(h3:¬(x=wRate∧(st.state=2∨st.state=3)))(h4:¬(x=wNot∧3≤st.state)):stepP st (x::r) = .inr 4:=by
 rw[stepP.eq_def]
 dsimp only
 rw[if_neg h1,if_neg h2,if_neg h3,if_neg h4]
theorem step_scheme {st:PS}{r:List (List UInt8)}(h:st.state=0∨3≤st.state):stepP st (wScheme::r)=match headR r with|some s => .inl ⟨st.out ++ [s],1, -1⟩|none => .inr 4:=by
 rw[stepP.eq_def]
 dsimp only
 rw[if_pos ⟨rfl,h⟩]
 cases headR r<;>rfl
theorem step_if {st:PS}{r:List (List UInt8)}(h:st.state=1):stepP st (wIf::r)=match condR r with | .inl t => .inl ⟨onLast st.out fun s=>{ s with cond:=t },2,st.last⟩ | .inr e => .inr e:=by
 rw[stepP.eq_def]
 dsimp only
 rw[if_neg (fun e=>absurd e.1 (by decide)),if_pos ⟨rfl,h⟩]
 cases condR r<;>rfl
theorem step_rate' {st:PS}{r:List (List UInt8)}(h:st.state=2∨st.state=3):stepP st (wRate::r)=match rateR r with|some b => .inl ⟨onLast st.out fun s=>{ s with br:=s.br ++ [b] },3,st.last⟩|none => .inr 4:=by
 rw[stepP.eq_def]
 dsimp only
 rw[if_neg (fun e=>absurd e.1 (by decide)),if_neg (fun e=>absurd e.1 (by decide)),if_pos ⟨rfl,h⟩]
 cases rateR r<;>rfl
theorem step_not_len {st:PS}{r:List (List UInt8)}(h:3≤st.state)(hr:r.length≠1):stepP st (wNot::r) = .inr 4:=by
 rw[stepP.eq_def]
 dsimp only
 rw[if_neg (fun e=>absurd e.1 (by decide)),if_neg (fun e=>absurd e.1 (by decide)),if_neg (fun e=>absurd e.1 (by decide)),if_pos ⟨rfl,h⟩]
 match r,hr with
 | [],_=>rfl
 | [a],hr=>exact absurd rfl hr
 | a::b::r,_=>rfl
theorem step_not' {st:PS}{a:List UInt8}(h:3≤st.state):stepP st [wNot,a]=match num0 a 15 with|some x=>if x≤st.last then .inr 4 else .inl ⟨onLast st.out fun s=>{ s with ex:=s.ex+2 ^ x.toNat },4,x⟩|none => .inr 4:=by
 rw[stepP.eq_def]
 dsimp only
 rw[if_neg (fun e=>absurd e.1 (by decide)),if_neg (fun e=>absurd e.1 (by decide)),if_neg (fun e=>absurd e.1 (by decide)),if_pos ⟨rfl,h⟩]
 cases num0 a 15<;>rfl
theorem BldAt.snoc {B:Nat}{wr:World}{v:Value}{A:List Sch}{s0:Sch}(h:BldAt B wr v (A ++ [s0])):Bld B wr v A s0:=by
 rcases h with⟨e, -⟩|⟨A', s', e,hB⟩
 ·exact absurd e (by simp)
 ·obtain⟨rfl,rfl⟩:=snoc_inj e
  exact hB
theorem Bld.cells {B:Nat}{wr:World}{v:Value}{A:List Sch}{s:Sch}(h:Bld B wr v A s):∃g cc,v = .slice (some ⟨g,0,none⟩) (A.length+1) cc∧B≤g∧g<wr.heap.size∧(∃rr,SCells wr g (A.length*10) rr∧rr.ex=s.ex)∧(∀i,wr.frozen? ⟨g,i,none⟩=false):=by
 obtain⟨d,R,rr,lb,k1,k2⟩:=h;obtain⟨g,cc,e,a1,a2,a3,a4,a5, -⟩:=k1.at;exact⟨g,cc,e,a1,a2,⟨rr,a4,k2.ex⟩,a5⟩
theorem headR_schF {w:List (List UInt8)}{s:Sch}(h:headR w=some s):∃num nm least needs,s=schF num nm least needs:=by
 obtain⟨a,b,r,num,least,nm, -, -, -, -, -,rfl⟩:=headR_some h;exact⟨num,⟨nm.toArray⟩,least,_,rfl⟩
theorem RefHeadG.some_ {ws:List (List UInt8)}{num:Int}{nm:ByteArray}{least:Int}{needs:Bool}{w w' : World}{e:Ending}(hh:headR ws=some (schF num nm least needs))(h:RefHeadG ws w e w'):e = .returned (.tuple #[.agg #[I O num,.string nm,I O 0,I O 0,I O 0,.slice none 0 0,.slice none 0 0,I O least,I O 0,.bool needs],.bool true])∧Below w.heap.size w w' :=by
 obtain⟨row,rfl,hrow,hb⟩:=h;obtain⟨h1,h2⟩:=hrow _ hh;refine⟨?_,hb⟩;have e1:num=row.num:=congrArg Sch.num h1;have e2:nm=row.nm:=congrArg Sch.nm h1;have e3:least=row.least:=congrArg Sch.least h1;have e4:needs=row.needs:=congrArg Sch.needs h1;rw[hh,h2,e1,e2,e3,e4]
 rfl
theorem refparse17_any (s:ByteArray)(w:World)(hE:Env w)(hs:s.size≤9223372036854775807):Calls Tryz.prog 21 #[.string s] w (ParseG17 (parse17 s.data.toList) w):=by
 have SP:=mh (refsplit_any s w hE hs);unfold SplitGive at SP;obtain⟨er,eer⟩:∃x,Wo.sErr s.data.toList=x:=⟨_,rfl⟩;rw[eer]at SP;obtain⟨R,eR⟩:∃R,parse17 s.data.toList=R:=⟨_,rfl⟩;rw[eR]
 by_cases he:er=0
 rotate_left
 ·have HF:=mh (fun (w' : World) (hb:Below w.heap.size w w')=>ParseG17.bad (show R=([],0,er) by rw[← eR];unfold parse17;rw[if_neg (by rw[eer];exact he),eer]) w w' hb)
  have hne:(er != 0)=true:=by simpa using he
  clear hE hs he eer eR
  go_enter Tryz.func21,Tryz.ntmps21
  go_wp2_with (first|(go_at_call 43;(with_reducible refine cmo SP.out ?_);rintro e w1 ⟨p,c,rfl,hL,hp,hb1⟩))
  go_ret3
  exact HF.out _ hb1
 subst he;have HW:=mh (fun (ws:List ByteArray) (h:ws∈sLines s) (x:ByteArray) (hx:x∈ws)=>(word_of_text eer h hx).1);have hll:=lines_count eer;have CT:=mh (fun (W:World)=>Tryz.strings_Count_one s 10 W);have hcb:Lib.countByte s.data.toList 10=(sLines s).length:=hll.1.symm;rw[hcb]at CT;have hR0:R=prs ps0 0 (lb (sLines s)):=by rw[← eR,lb_sLines];unfold parse17;rw[if_pos eer]
 obtain⟨LL,eLL⟩:∃x,sLines s=x:=⟨_,rfl⟩;rw[eLL]at SP HW hll hR0 CT;have hl4:LL.length≤400:=by omega
 have HR0:=mh hR0;have hwl:∀ws∈LL,ws.length≤1000000:=fun ws hws=>by
  rw[← eLL]at hws;unfold sLines at hws;obtain⟨v,hv,rfl⟩:=List.mem_map.1 hws;rw[List.length_map];unfold Wo.sList at hv;rw[if_pos eer]at hv;obtain⟨l,hl,rfl⟩:=List.mem_map.1 hv;have h1:=lnsA_sub _ _ _ hl;have h2:l.length≤16384:=by
   have:=h1.length_le;rw[List.nil_append,size_len]at this;omega
  unfold Wo.wds;have h3:=List.length_filter_le (fun x=>decide (x ≠ [])) (Wo.pcs 32 [] (l.takeWhile fun x=>x != 35));have h4:=Wo.pcs_len 32 (l.takeWhile fun x=>x != 35) [];have h5:=(List.takeWhile_sublist (fun x=>x != 35) (l:=l)).length_le;omega
 have HWL:=mh hwl;clear eLL eer hE hs eR hR0 hll hwl hcb
 go_enter Tryz.func21,Tryz.ntmps21
 go_wp2_with (go_at_call 43;(with_reducible refine cmo SP.out ?_);rintro e w1 ⟨p,c,rfl,hL,hp,hb1⟩;have HL:=mh hL;have HB1:=mh hb1;clear hL hp hb1)
 clear SP;obtain⟨B,eB⟩:∃t,w1.heap.size=t:=⟨_,rfl⟩;have hwB:w.heap.size≤B:=by have:=HB1.out.size;omega
 have HEB:=mh eB;have HB0:=mh (show Below B w1 w1 from brf _ _);have HBA0:=mh (show BldAt B w1 (.slice none 0 0) ps0.out from .inl ⟨rfl,OwnR.nil _ _ _⟩);clear eB
 go_loopw [7,8,9,36] (fun v q l i wr=>∃(k:Nat) (st:PS),k≤LL.length∧i=I O k∧q=I O (st.state:Int)∧l=I O st.last∧GoodS k st∧BldAt B wr v st.out∧Below B w1 wr∧R=prs st k ((lb LL).drop k)) (fun _ _ _ i _=>LL.length - (intOf i).toNat)
 case atStart=>exact⟨0,ps0,Nat.zero_le _,rfl,rfl,rfl,good0,HBA0.out,HB0.out,by rw[List.drop_zero];exact HR0.out⟩
 case round =>
  obtain⟨wo,rfl⟩:∃wo:World,wo=wr:=⟨_,rfl⟩;obtain⟨k,st,hk,rfl,rfl,rfl,hgd,hbl,hb,hR⟩:=hrel;have HRR:=mh hR;have HBO:=mh hb;have hk0:(0:Int)≤(k:Int):=inn _;have HBW:=mh (HB1.out.trans (hb.mono hwB));obtain⟨no,eno⟩:∃n,st.out.length=n:=⟨_,rfl⟩;obtain⟨vp,vc,vd,rfl,hvc,hss⟩:=hbl.ss eno;have hno:no≤400:=by have:=hgd.len;omega
  by_cases hlt:k<LL.length
  ·have hk1:(k:Int)<(LL.length:Int):=by omega
   obtain⟨b,off,q,n,cc,rfl,hbk,hcell,hn,hrec,hnn,hle⟩:=(HL.out.below (HEB.out.symm▸hb)).at hlt;have hkw:IntKind.i64.wrap ((k:Int)+1)=(k:Int)+1:=by rw[IntKind.wrap_i64];omega
   obtain⟨j,ej⟩:∃j:Int,(no:Int) - 1=j:=⟨_,rfl⟩;have hnw:IntKind.i64.wrap ((no:Int) - 1)=j:=by rw[ej,IntKind.wrap_i64];omega
   have EJ:=mh ej;have ENO:=mh eno;clear ej;have HLD:=mh (lb_drop hlt);obtain⟨ws,ews⟩:∃ws,LL[k]=ws:=⟨_,rfl⟩;rw[ews]at hn hrec HLD;have HMW:=mh (show ws∈LL from ews▸List.getElem_mem hlt)
   cases ws with
   | nil =>
     obtain rfl:n=0:=hn;have HN:=mh (show R=prs st (k+1) ((lb LL).drop (k+1)) from by rw[HRR.out,HLD.out];exact prs_skip rfl);have HG:=mh hgd.mono;have HBL:=mh hbl;clear hgd hbl hb hR hrec ews hss eno
     go_wp2
     go_roundw
     case rel=>exact⟨k+1,st,by omega,by go_num,rfl,rfl,HG.out,HBL.out,HBO.out,HN.out⟩
     case measure=>simp[intOf];omega
   | cons x r =>
     have hrl:r.length≤1000000:=by have:=HWL.out _ HMW.out;rw[List.length_cons]at this;omega
     have hwne:ll (x::r) ≠ []:=by simp[ll]
     have NXT:=mh (fun st2 (h:stepP st (ll (x::r)) = .inl st2)=>(⟨hgd.step (w:=ll (x::r)) hwne (fun y hy=>by
      unfold ll at hy;obtain⟨z,hz,rfl⟩:=List.mem_map.1 hy;rw[size_len]
      exact HW.out _ HMW.out z hz) h,by rw[HRR.out,HLD.out];exact prs_ok hwne h⟩:GoodS (k+1) st2∧R=prs st2 (k+1) ((lb LL).drop (k+1))))
     have BAD:=mh (fun er (h:stepP st (ll (x::r)) = .inr er) (w' : World) (hb:Below w.heap.size w w')=>ParseG17.bad (show R=([],(k:Int)+1,er) from by rw[HRR.out,HLD.out];exact prs_bad hwne h) w w' hb);have HZ:=mh (fun y (hy:y∈x::r)=>HW.out _ HMW.out y hy);have hws:WSl wo q cc (x::r):=⟨hrec,by rw[← hn];exact hle,hnn⟩;obtain⟨B', O', q2,c1,rfl,hBl,g0,hlc,hw2,hq2,hrun⟩:=hws.cons;obtain rfl:n=r.length+1:=hn;have hll:ll (x::r)=x.data.toList::ll r:=rfl;rw[hll]at NXT BAD;have q4:=hgd.four;have GX:=mh hgd;have HSS:=mh hss;have HBL:=mh hbl;have WS2:=mh hw2;have HREC:=mh hrec;have hm0:0<((r.length+1:Nat):Int):=by omega
     obtain⟨z1,ez1⟩:∃z,decide (x.data.toList=wScheme)=z:=⟨_,rfl⟩;obtain⟨z2,ez2⟩:∃z,decide (x.data.toList=wIf)=z:=⟨_,rfl⟩;obtain⟨z3,ez3⟩:∃z,decide (x.data.toList=wRate)=z:=⟨_,rfl⟩;obtain⟨z4,ez4⟩:∃z,decide (x.data.toList=wNot)=z:=⟨_,rfl⟩;have y1:(x.toList == [115,99,104,101,109,101])=z1:=by rw[lit_eq];exact ez1
     have y2:(x.toList == [105,102])=z2:=by rw[lit_eq];exact ez2
     have y3:(x.toList == [114,97,116,101])=z3:=by rw[lit_eq];exact ez3
     have y4:(x.toList == [110,111,116])=z4:=by rw[lit_eq];exact ez4
     obtain⟨out,qs,last⟩:=st;simp only at eno hss q4 NXT BAD GX HBL HSS ENO;obtain⟨qi,eqi⟩:∃qi:Int,(qs:Int)=qi:=⟨_,rfl⟩;simp only[eqi];clear hgd hbl hb hR hrec ews hss hws hw2 hq2 hnn hle hll eno;have hqs:qs=0∨qs=1∨qs=2∨qs=3∨qs=4:=by omega
     have hcl:(z1=true∧z2=false∧z3=false∧z4=false∧x.data.toList=wScheme)∨(z1=false∧z2=true∧z3=false∧z4=false∧x.data.toList=wIf)∨(z1=false∧z2=false∧z3=true∧z4=false∧x.data.toList=wRate)∨(z1=false∧z2=false∧z3=false∧z4=true∧x.data.toList=wNot)∨(z1=false∧z2=false∧z3=false∧z4=false∧x.data.toList≠wScheme∧x.data.toList≠wIf∧x.data.toList≠wRate∧x.data.toList≠wNot):=by
      rw[← ez1,← ez2,← ez3,← ez4]
      by_cases h1:x.data.toList=wScheme
      ·rw[h1];left;decide
      by_cases h2:x.data.toList=wIf
      ·rw[h2];right;left;decide
      by_cases h3:x.data.toList=wRate
      ·rw[h3];right;right;left;decide
      by_cases h4:x.data.toList=wNot
      ·rw[h4];right;right;right;left;decide
      ·right;right;right;right
       exact⟨dqf h1,dqf h2,dqf h3,dqf h4,h1,h2,h3,h4⟩
     clear ez1 ez2 ez3 ez4
     rcases hcl with⟨rfl,rfl,rfl,rfl,hxw⟩|⟨rfl,rfl,rfl,rfl,hxw⟩|⟨rfl,rfl,rfl,rfl,hxw⟩|⟨rfl,rfl,rfl,rfl,hxw⟩|⟨rfl,rfl,rfl,rfl,hx1,hx2,hx3,hx4⟩
     ·rw[hxw]at NXT BAD
      clear hxw;have hqs3:qs=0∨qs=1∨qs=2∨3≤qs:=by omega
      rcases hqs3 with rfl|rfl|rfl|hq3
      ·focus
        obtain rfl:qi=0:=by omega
        have ST:=mh (step_scheme (st:=⟨out,0,last⟩) (r:=ll r) (by simp));have RH0:=mh (refhead17_any q2 r r.length c1 wo rfl WS2.out.recs (fun y hy=>HZ.out y (List.mem_cons_of_mem _ hy)));obtain⟨ho,eho⟩:∃o,headR (ll r)=o:=⟨_,rfl⟩;rw[eho]at ST;obtain⟨Rr,hRl,hOR,hBR⟩:=HBL.out.rows;have HOR:=mh hOR;have HBR:=mh hBR;have hRn:Rr.length≤400:=by have:=ENO.out;omega
        have hBo:B≤wo.heap.size:=by have h1:=HEB.out;have h2:=HBO.out.size;omega
        clear eqi hOR hBR
        cases ho with
        | none =>
          have RH:=RH0;unfold RefHeadG at RH;rw[eho]at RH;clear eho RH0;have HV:=mh (BAD.out 4 ST.out);clear NXT BAD
          go_wp2_with (go_at_call 44;(with_reducible refine cmo RH.out ?_);rintro e w2 ⟨row,rfl, -,hb2⟩;obtain⟨num,nm,⟨o,tn,tm,tp,tl,tc⟩,bp,bn,bc,least,ex,needs⟩:=row;simp only[sCells];have HB3:=mh ((bstep mle HBW.out hb2).alloc (bstep mle HBW.out hb2).size (.cells #[I O num,.string nm,I O o,I O tn,I O tm,.slice tp tl tc,.slice bp bn bc,I O least,I O ex,.bool needs] 31));clear hb2)
          go_ret3
          exact HV.out _ HB3.out
        | some s2 =>
          obtain⟨num,nm,least,needs,rfl⟩:=headR_schF eho;have RH:=mh (RH0.out.mono fun e w' h=>RefHeadG.some_ eho h);have HN:=mh (NXT.out _ ST.out);clear NXT BAD eho RH0
          go_upto_region 16 with (first|(go_at_call 44;(with_reducible refine cmo RH.out ?_);rintro e w2 ⟨rfl,hb2⟩;have A3:=mh (hb2.alloc hb2.size (.cells #[I O num,.string nm,I O 0,I O 0,I O 0,.slice none 0 0,.slice none 0 0,I O least,I O 0,.bool needs] 31));clear hb2)|fail)
          obtain⟨W3,eW3⟩:∃W:World,w2.alloc (.cells #[I O num,.string nm,I O 0,I O 0,I O 0,.slice none 0 0,.slice none 0 0,I O least,I O 0,.bool needs] 31)=W:=⟨_,rfl⟩;have QC:∀i u,(#[I O num,.string nm,I O 0,I O 0,I O 0,.slice none 0 0,.slice none 0 0,I O least,I O 0,.bool needs]:Array Value)[i]?=some u→W3.cell? ⟨w2.heap.size,i,none⟩=some u:=fun i u hu=>by rw[← eW3];exact(cwn _ _ _ i).trans hu
          rw[eW3]at A3;rw[eW3];have qc0:=QC 0 _ rfl;have qc1:=QC 1 _ rfl;have qc2:=QC 2 _ rfl;have qc3:=QC 3 _ rfl;have qc4:=QC 4 _ rfl;have qc5:=QC 5 _ rfl;have qc6:=QC 6 _ rfl;have qc7:=QC 7 _ rfl;have qc8:=QC 8 _ rfl;have qc9:=QC 9 _ rfl;clear eW3 QC;have A5:=mh (A3.out.alloc A3.out.size (.cells #[I O num,.string nm,I O 0,I O 0,I O 0,.slice none 0 0,.slice none 0 0,I O least,I O 0,.bool needs] 31));have SRC:=mh (show Recs SSc (W3.alloc (.cells #[I O num,.string nm,I O 0,I O 0,I O 0,.slice none 0 0,.slice none 0 0,I O least,I O 0,.bool needs] 31)) (some ⟨W3.heap.size,0,none⟩) [rowF num nm least needs] from one_sch W3 (rowF num nm least needs))
          go_wp2_with (first
           | (at_builtin;(refine OwnR.appendAll el_sch rfl (.tmp 72) (.tmp 74) rfl B (.slice vp no vc) Rr [rowF num nm least needs] (some ⟨W3.heap.size,0,none⟩) 1 1 rfl (HOR.out.below A5.out) SRC.out (fun h=>by cases h) rfl (by simp[Act.eval]) (Nat.le_trans hBo A5.out.size) (by omega) (by decide) ?_);intro v7 w7 hO7 hap7;have BL7:=mh (HBR.out.push A5.out mle hO7 hap7);have HB7:=mh (show Below B w1 w7 from(HBO.out.trans (A5.out.mono hBo)).trans hap7.below);clear hO7 hap7)
           | fail)
          refine⟨⟨k+1,⟨out ++ [schF num nm least needs],1, -1⟩,by omega,by go_num,rfl,rfl,HN.out.1,.inr ⟨out,_,rfl,BL7.out⟩,HB7.out,HN.out.2⟩,?_⟩
          simp[intOf];omega
      ·as_aux_lemma =>
        obtain rfl:qi=1:=by omega
        have HV:=mh (BAD.out 4 (step_def (fun e=>by first|exact absurd e.1 (by assumption)|(have h2:=e.2;dsimp only at h2;omega)|exact absurd e.1 (by decide)) (fun e=>by first|exact absurd e.1 (by assumption)|(have h2:=e.2;dsimp only at h2;omega)|exact absurd e.1 (by decide)) (fun e=>by first|exact absurd e.1 (by assumption)|(have h2:=e.2;dsimp only at h2;omega)|exact absurd e.1 (by decide)) (fun e=>by first|exact absurd e.1 (by assumption)|(have h2:=e.2;dsimp only at h2;omega)|exact absurd e.1 (by decide))) wo HBW.out);clear eqi NXT BAD
        go_wp2
        go_ret3
        exact HV.out
      ·as_aux_lemma =>
        obtain rfl:qi=2:=by omega
        have HV:=mh (BAD.out 4 (step_def (fun e=>by first|exact absurd e.1 (by assumption)|(have h2:=e.2;dsimp only at h2;omega)|exact absurd e.1 (by decide)) (fun e=>by first|exact absurd e.1 (by assumption)|(have h2:=e.2;dsimp only at h2;omega)|exact absurd e.1 (by decide)) (fun e=>by first|exact absurd e.1 (by assumption)|(have h2:=e.2;dsimp only at h2;omega)|exact absurd e.1 (by decide)) (fun e=>by first|exact absurd e.1 (by assumption)|(have h2:=e.2;dsimp only at h2;omega)|exact absurd e.1 (by decide))) wo HBW.out);clear eqi NXT BAD
        go_wp2
        go_ret3
        exact HV.out
      ·focus
        have q0f:(qi==0)=false:=beq_eq_false_iff_ne.2 (by omega);have q3t:decide (3≤qi)=true:=dqt (by omega);have q1f:(qi==1)=false:=beq_eq_false_iff_ne.2 (by omega);have q2f:(qi==2)=false:=beq_eq_false_iff_ne.2 (by omega);have ST:=mh (step_scheme (st:=⟨out,qs,last⟩) (r:=ll r) (.inr hq3));have RH0:=mh (refhead17_any q2 r r.length c1 wo rfl WS2.out.recs (fun y hy=>HZ.out y (List.mem_cons_of_mem _ hy)));obtain⟨ho,eho⟩:∃o,headR (ll r)=o:=⟨_,rfl⟩;rw[eho]at ST;obtain⟨Rr,hRl,hOR,hBR⟩:=HBL.out.rows;have HOR:=mh hOR;have HBR:=mh hBR;have hRn:Rr.length≤400:=by have:=ENO.out;omega
        have hBo:B≤wo.heap.size:=by have h1:=HEB.out;have h2:=HBO.out.size;omega
        clear eqi hOR hBR
        cases ho with
        | none =>
          have RH:=RH0;unfold RefHeadG at RH;rw[eho]at RH;clear eho RH0;have HV:=mh (BAD.out 4 ST.out);clear NXT BAD
          go_wp2_with (go_at_call 44;(with_reducible refine cmo RH.out ?_);rintro e w2 ⟨row,rfl, -,hb2⟩;obtain⟨num,nm,⟨o,tn,tm,tp,tl,tc⟩,bp,bn,bc,least,ex,needs⟩:=row;simp only[sCells];have HB3:=mh ((bstep mle HBW.out hb2).alloc (bstep mle HBW.out hb2).size (.cells #[I O num,.string nm,I O o,I O tn,I O tm,.slice tp tl tc,.slice bp bn bc,I O least,I O ex,.bool needs] 31));clear hb2)
          go_ret3
          exact HV.out _ HB3.out
        | some s2 =>
          obtain⟨num,nm,least,needs,rfl⟩:=headR_schF eho;have RH:=mh (RH0.out.mono fun e w' h=>RefHeadG.some_ eho h);have HN:=mh (NXT.out _ ST.out);clear NXT BAD eho RH0
          go_upto_region 16 with (first|(go_at_call 44;(with_reducible refine cmo RH.out ?_);rintro e w2 ⟨rfl,hb2⟩;have A3:=mh (hb2.alloc hb2.size (.cells #[I O num,.string nm,I O 0,I O 0,I O 0,.slice none 0 0,.slice none 0 0,I O least,I O 0,.bool needs] 31));clear hb2)|fail)
          obtain⟨W3,eW3⟩:∃W:World,w2.alloc (.cells #[I O num,.string nm,I O 0,I O 0,I O 0,.slice none 0 0,.slice none 0 0,I O least,I O 0,.bool needs] 31)=W:=⟨_,rfl⟩;have QC:∀i u,(#[I O num,.string nm,I O 0,I O 0,I O 0,.slice none 0 0,.slice none 0 0,I O least,I O 0,.bool needs]:Array Value)[i]?=some u→W3.cell? ⟨w2.heap.size,i,none⟩=some u:=fun i u hu=>by rw[← eW3];exact(cwn _ _ _ i).trans hu
          rw[eW3]at A3;rw[eW3];have qc0:=QC 0 _ rfl;have qc1:=QC 1 _ rfl;have qc2:=QC 2 _ rfl;have qc3:=QC 3 _ rfl;have qc4:=QC 4 _ rfl;have qc5:=QC 5 _ rfl;have qc6:=QC 6 _ rfl;have qc7:=QC 7 _ rfl;have qc8:=QC 8 _ rfl;have qc9:=QC 9 _ rfl;clear eW3 QC;have A5:=mh (A3.out.alloc A3.out.size (.cells #[I O num,.string nm,I O 0,I O 0,I O 0,.slice none 0 0,.slice none 0 0,I O least,I O 0,.bool needs] 31));have SRC:=mh (show Recs SSc (W3.alloc (.cells #[I O num,.string nm,I O 0,I O 0,I O 0,.slice none 0 0,.slice none 0 0,I O least,I O 0,.bool needs] 31)) (some ⟨W3.heap.size,0,none⟩) [rowF num nm least needs] from one_sch W3 (rowF num nm least needs))
          go_wp2_with (first
           | (at_builtin;(refine OwnR.appendAll el_sch rfl (.tmp 72) (.tmp 74) rfl B (.slice vp no vc) Rr [rowF num nm least needs] (some ⟨W3.heap.size,0,none⟩) 1 1 rfl (HOR.out.below A5.out) SRC.out (fun h=>by cases h) rfl (by simp[Act.eval]) (Nat.le_trans hBo A5.out.size) (by omega) (by decide) ?_);intro v7 w7 hO7 hap7;have BL7:=mh (HBR.out.push A5.out mle hO7 hap7);have HB7:=mh (show Below B w1 w7 from(HBO.out.trans (A5.out.mono hBo)).trans hap7.below);clear hO7 hap7)
           | fail)
          refine⟨⟨k+1,⟨out ++ [schF num nm least needs],1, -1⟩,by omega,by go_num,rfl,rfl,HN.out.1,.inr ⟨out,_,rfl,BL7.out⟩,HB7.out,HN.out.2⟩,?_⟩
          simp[intOf];omega
     ·rw[hxw]at NXT BAD
      clear hxw
      rcases hqs with rfl|rfl|rfl|rfl|rfl
      ·as_aux_lemma =>
        obtain rfl:qi=0:=by omega
        have HV:=mh (BAD.out 4 (step_def (fun e=>by first|exact absurd e.1 (by assumption)|(have h2:=e.2;dsimp only at h2;omega)|exact absurd e.1 (by decide)) (fun e=>by first|exact absurd e.1 (by assumption)|(have h2:=e.2;dsimp only at h2;omega)|exact absurd e.1 (by decide)) (fun e=>by first|exact absurd e.1 (by assumption)|(have h2:=e.2;dsimp only at h2;omega)|exact absurd e.1 (by decide)) (fun e=>by first|exact absurd e.1 (by assumption)|(have h2:=e.2;dsimp only at h2;omega)|exact absurd e.1 (by decide))) wo HBW.out);clear eqi NXT BAD
        go_wp2
        go_ret3
        exact HV.out
      ·as_aux_lemma =>
        obtain rfl:qi=1:=by omega
        obtain⟨A,s0,rfl⟩:=snoc_of (show out ≠ [] from GX.out.some (by simp));have ST:=mh (step_if (st:=⟨A ++ [s0],1,last⟩) (r:=ll r) rfl);have PA:=mh (refparse16_any q2 r c1 wo WS2.out.recs WS2.out.le WS2.out.nn (fun y hy=>HZ.out y (List.mem_cons_of_mem _ hy)) hrl);obtain⟨tv,etv⟩:∃tv,readT (2*r.length) (ll r)=tv:=⟨_,rfl⟩;have hcr:=condR_of (r:=ll r) (o:=tv) (by unfold ll at etv ⊢;rw[List.length_map];exact etv);rw[etv]at PA;rw[hcr]at ST;clear eqi etv hcr
        cases tv with
        | none =>
          have HV:=mh (BAD.out 4 ST.out);clear NXT BAD;unfold ParseTG ParseBad at PA
          go_wp2_with (go_at_call 45;(with_reducible refine cmo PA.out ?_);rintro e w2 ⟨rfl,hb2⟩;have HB3:=mh ((bstep mle HBW.out hb2).alloc (bstep mle HBW.out hb2).size (.cells #[I O 0,I O 0,I O 0,.slice none 0 0] 28));clear hb2)
          go_ret3
          exact HV.out _ HB3.out
        | some tr =>
          obtain⟨tm,rr0⟩:=tr;unfold ParseTG at PA
          by_cases hck:chkT tm=0
          rotate_left
          ·simp only[if_neg hck]at PA
           have hcv:condV (some (tm,rr0)) = .inr (chkT tm):=by unfold condV;simp only;rw[if_pos hck]
           rw[hcv]at ST;obtain⟨er,eer⟩:∃e,chkT tm=e:=⟨_,rfl⟩;rw[eer]at PA hck ST;have hne:(er != 0)=true:=by simpa using hck
           have HV:=mh (BAD.out er ST.out);unfold ParseBad at PA;clear eer hck NXT BAD hcv
           go_wp2_with (go_at_call 45;(with_reducible refine cmo PA.out ?_);rintro e w2 ⟨rfl,hb2⟩;have HB3:=mh ((bstep mle HBW.out hb2).alloc (bstep mle HBW.out hb2).size (.cells #[I O 0,I O 0,I O 0,.slice none 0 0] 28));clear hb2)
           go_ret3
           exact HV.out _ HB3.out
          simp only[if_pos hck]at PA;unfold ParseGood at PA
          by_cases hr0:rr0 = []
          rotate_left
          ·have hcv:condV (some (tm,rr0)) = .inr 4:=by unfold condV;simp only;rw[if_neg (by rw[hck];decide),if_neg hr0]
           rw[hcv]at ST;have HV:=mh (BAD.out 4 ST.out);obtain⟨rl,erl⟩:∃l,rr0.length=l:=⟨_,rfl⟩;have hrl0:0<(rl:Int):=by
            have:=List.length_pos_iff.2 hr0;omega
           rw[erl]at PA;clear hck hr0 erl NXT BAD hcv
           go_wp2_with (go_at_call 45;(with_reducible refine cmo PA.out ?_);rintro e w2 ⟨row,p5,c5,d5,rfl,hv5,hb2⟩;have HB3:=mh ((bstep mle HBW.out hb2).alloc (bstep mle HBW.out hb2).size (.cells #[I O row.op,I O row.num,I O row.more,.slice row.p row.n row.c] 28));clear hb2 hv5)
           go_ret3
           exact HV.out _ HB3.out
          subst hr0;have hcv:condV (some (tm,([]:List (List UInt8)))) = .inl tm:=by unfold condV;simp only;rw[if_neg (by rw[hck];decide),if_pos trivial]
          rw[hcv]at ST;have HN:=NXT.out _ ST.out;rw[onLast_snoc]at HN
          replace HN:=mh HN
          have BD:=mh HBL.out.snoc;obtain⟨g,cg,evv,hg1,hg2,⟨rr,hC, -⟩,hf⟩:=BD.out.cells;simp only[Value.slice.injEq]at evv;obtain⟨rfl,e2,e3⟩:=evv;have hj0:0≤j:=by have:=EJ.out;omega
          have hj1:j<(no:Int):=by have:=EJ.out;omega
          have hjt:j.toNat=A.length:=by have:=EJ.out;omega
          have hwj:IntKind.i64.wrap j=j:=by rw[IntKind.wrap_i64];omega
          have C2:=mh hC.c2;have C3:=mh hC.c3;have C4:=mh hC.c4;have C5:=mh hC.c5;have HF:=mh hf;have hBo:B≤wo.heap.size:=by have h1:=HEB.out;have h2:=HBO.out.size;omega
          have E2:=mh e2;have E3:=mh e3;clear hck NXT BAD hcv hC hf e2 e3
          go_wp2_with (go_at_call 45;(with_reducible refine cmo PA.out ?_);rintro e w2 ⟨row,p5,c5,d5,rfl,hv5,hb2⟩;have HV:=mh hv5;have A4:=mh (hb2.alloc hb2.size (.cells #[I O row.op,I O row.num,I O row.more,.slice row.p row.n row.c] 28));have k2:=(A4.out.cell (p:=⟨g,A.length*10+2,none⟩) hg2).trans C2.out;have k3:=(A4.out.cell (p:=⟨g,A.length*10+3,none⟩) hg2).trans C3.out;have k4:=(A4.out.cell (p:=⟨g,A.length*10+4,none⟩) hg2).trans C4.out;have k5:=(A4.out.cell (p:=⟨g,A.length*10+5,none⟩) hg2).trans C5.out;have f2:=(A4.out.frozen (p:=⟨g,A.length*10+2,none⟩) hg2).trans (HF.out _);have f3:=(A4.out.frozen (p:=⟨g,A.length*10+3,none⟩) hg2).trans (HF.out _);have f4:=(A4.out.frozen (p:=⟨g,A.length*10+4,none⟩) hg2).trans (HF.out _);have f5:=(A4.out.frozen (p:=⟨g,A.length*10+5,none⟩) hg2).trans (HF.out _);have TV4:=mh (hv5.below (show Below w2.heap.size w2 (w2.alloc (.cells #[I O row.op,I O row.num,I O row.more,.slice row.p row.n row.c] 28)) from(brf _ _).alloc mle _));clear hb2 hv5)
          have BL7:=mh (BD.out.setCond A4.out TV4.out (g:=g) (c:=vc) (by rw[E2.out]));have hgB:B≤g:=hg1;have HB7:=mh (show Below B w1 (((((w2.alloc (.cells #[I O row.op,I O row.num,I O row.more,.slice row.p row.n row.c] 28)).setCell ⟨g,A.length*10+2,none⟩ (I O row.op)).setCell ⟨g,A.length*10+3,none⟩ (I O row.num)).setCell ⟨g,A.length*10+4,none⟩ (I O row.more)).setCell ⟨g,A.length*10+5,none⟩ (.slice row.p row.n row.c)) from((((HBO.out.trans (A4.out.mono hBo)).setCell hgB _).setCell hgB _).setCell hgB _).setCell hgB _);refine⟨⟨k+1,⟨A ++ [{ s0 with cond:=tm }],2,last⟩,by omega,by go_num,rfl,rfl,HN.out.1,.inr ⟨A,_,rfl,BL7.out⟩,HB7.out,HN.out.2⟩,?_⟩
          simp[intOf];omega
      ·as_aux_lemma =>
        obtain rfl:qi=2:=by omega
        have HV:=mh (BAD.out 4 (step_def (fun e=>by first|exact absurd e.1 (by assumption)|(have h2:=e.2;dsimp only at h2;omega)|exact absurd e.1 (by decide)) (fun e=>by first|exact absurd e.1 (by assumption)|(have h2:=e.2;dsimp only at h2;omega)|exact absurd e.1 (by decide)) (fun e=>by first|exact absurd e.1 (by assumption)|(have h2:=e.2;dsimp only at h2;omega)|exact absurd e.1 (by decide)) (fun e=>by first|exact absurd e.1 (by assumption)|(have h2:=e.2;dsimp only at h2;omega)|exact absurd e.1 (by decide))) wo HBW.out);clear eqi NXT BAD
        go_wp2
        go_ret3
        exact HV.out
      ·as_aux_lemma =>
        obtain rfl:qi=3:=by omega
        have HV:=mh (BAD.out 4 (step_def (fun e=>by first|exact absurd e.1 (by assumption)|(have h2:=e.2;dsimp only at h2;omega)|exact absurd e.1 (by decide)) (fun e=>by first|exact absurd e.1 (by assumption)|(have h2:=e.2;dsimp only at h2;omega)|exact absurd e.1 (by decide)) (fun e=>by first|exact absurd e.1 (by assumption)|(have h2:=e.2;dsimp only at h2;omega)|exact absurd e.1 (by decide)) (fun e=>by first|exact absurd e.1 (by assumption)|(have h2:=e.2;dsimp only at h2;omega)|exact absurd e.1 (by decide))) wo HBW.out);clear eqi NXT BAD
        go_wp2
        go_ret3
        exact HV.out
      ·as_aux_lemma =>
        obtain rfl:qi=4:=by omega
        have HV:=mh (BAD.out 4 (step_def (fun e=>by first|exact absurd e.1 (by assumption)|(have h2:=e.2;dsimp only at h2;omega)|exact absurd e.1 (by decide)) (fun e=>by first|exact absurd e.1 (by assumption)|(have h2:=e.2;dsimp only at h2;omega)|exact absurd e.1 (by decide)) (fun e=>by first|exact absurd e.1 (by assumption)|(have h2:=e.2;dsimp only at h2;omega)|exact absurd e.1 (by decide)) (fun e=>by first|exact absurd e.1 (by assumption)|(have h2:=e.2;dsimp only at h2;omega)|exact absurd e.1 (by decide))) wo HBW.out);clear eqi NXT BAD
        go_wp2
        go_ret3
        exact HV.out
     ·rw[hxw]at NXT BAD
      clear hxw
      rcases hqs with rfl|rfl|rfl|rfl|rfl
      ·as_aux_lemma =>
        obtain rfl:qi=0:=by omega
        have HV:=mh (BAD.out 4 (step_def (fun e=>by first|exact absurd e.1 (by assumption)|(have h2:=e.2;dsimp only at h2;omega)|exact absurd e.1 (by decide)) (fun e=>by first|exact absurd e.1 (by assumption)|(have h2:=e.2;dsimp only at h2;omega)|exact absurd e.1 (by decide)) (fun e=>by first|exact absurd e.1 (by assumption)|(have h2:=e.2;dsimp only at h2;omega)|exact absurd e.1 (by decide)) (fun e=>by first|exact absurd e.1 (by assumption)|(have h2:=e.2;dsimp only at h2;omega)|exact absurd e.1 (by decide))) wo HBW.out);clear eqi NXT BAD
        go_wp2
        go_ret3
        exact HV.out
      ·as_aux_lemma =>
        obtain rfl:qi=1:=by omega
        have HV:=mh (BAD.out 4 (step_def (fun e=>by first|exact absurd e.1 (by assumption)|(have h2:=e.2;dsimp only at h2;omega)|exact absurd e.1 (by decide)) (fun e=>by first|exact absurd e.1 (by assumption)|(have h2:=e.2;dsimp only at h2;omega)|exact absurd e.1 (by decide)) (fun e=>by first|exact absurd e.1 (by assumption)|(have h2:=e.2;dsimp only at h2;omega)|exact absurd e.1 (by decide)) (fun e=>by first|exact absurd e.1 (by assumption)|(have h2:=e.2;dsimp only at h2;omega)|exact absurd e.1 (by decide))) wo HBW.out);clear eqi NXT BAD
        go_wp2
        go_ret3
        exact HV.out
      ·focus
        obtain rfl:qi=2:=by omega
        obtain⟨A,s0,rfl⟩:=snoc_of (show out ≠ [] from GX.out.some (by simp));have ST:=step_rate' (st:=⟨A ++ [s0],2,last⟩) (r:=ll r) (by simp);obtain⟨m,em⟩:∃m,r.length+1=m:=⟨_,rfl⟩;rw[em]at hm0 hcell;clear eqi hrun
        by_cases h2:m=3
        rotate_left
        ·rw[rateR_len (by unfold ll;rw[List.length_map];omega)]at ST
         have HV:=mh (BAD.out 4 ST wo HBW.out);have d3:((m:Int)==3)=false:=beq_eq_false_iff_ne.2 (by omega);clear NXT BAD ST em
         go_wp2
         go_ret3
         exact HV.out
        subst h2;obtain⟨a,b2,rfl⟩:∃a b2,r = [a,b2]:=by
         have:r.length=2:=by omega
         match r,this with
         | [a,b2],_=>exact⟨a,b2,rfl⟩
        obtain⟨B1,O1,e1, -,g1⟩:=HREC.out.word (j:=1) (by simp)
        cases e1
        obtain⟨B2,O2,e2, -,g2⟩:=HREC.out.word (j:=2) (by simp)
        cases e2
        simp only[List.getElem_cons_zero,List.getElem_cons_succ]at g1 g2;have haz:=HZ.out a (by simp);have hbz:=HZ.out b2 (by simp);have ST2:stepP ⟨A ++ [s0],2,last⟩ (wRate::ll [a,b2])=_:=ST.trans (by rw[show rateR (ll [a,b2])=_ from rateR_two a.data.toList b2.data.toList]);have NU1:=mh (show Calls Tryz.prog 46 #[.string a,I O 268435456] wo (fun e w' => e = .returned (.tuple #[I O (Wo.numV a.data.toList 0 268435456),.bool (Wo.numB a.data.toList 0 268435456)])∧Below wo.heap.size wo w') from refnumber17_any a 268435456 wo (by omega));have NU2:=mh (fun (W:World)=>show Calls Tryz.prog 46 #[.string b2,I O 268435456] W (fun e w' => e = .returned (.tuple #[I O (Wo.numV b2.data.toList 0 268435456),.bool (Wo.numB b2.data.toList 0 268435456)])∧Below W.heap.size W w') from refnumber17_any b2 268435456 W (by omega));obtain⟨k1,ek1⟩:∃z,Wo.numB a.data.toList 0 268435456=z:=⟨_,rfl⟩;obtain⟨k2,ek2⟩:∃z,Wo.numB b2.data.toList 0 268435456=z:=⟨_,rfl⟩;obtain⟨v1,ev1⟩:∃z,Wo.numV a.data.toList 0 268435456=z:=⟨_,rfl⟩;obtain⟨v2,ev2⟩:∃z,Wo.numV b2.data.toList 0 268435456=z:=⟨_,rfl⟩;rw[ek1,ev1]at NU1;rw[ek2,ev2]at NU2;rw[ek1,ek2,ev1,ev2]at ST2;clear em ek1 ek2 ev1 ev2 ST
        cases k1
        ·rw[if_neg (by simp)]at ST2
         have HV:=mh (BAD.out 4 ST2);clear NXT BAD ST2
         go_wp2_with (first|(go_at_call 46;(with_reducible refine cmo NU1.out ?_);rintro e w2 ⟨rfl,hb2⟩;have k2c:=(hb2.cell (p:=⟨B', O' + 2,none⟩) hBl).trans g2;have NV2:=mh (NU2.out w2);have HB2:=mh (bstep mle HBW.out hb2);clear hb2)|(go_at_call 46;(with_reducible refine cmo NV2.out ?_);rintro e w3 ⟨rfl,hb3⟩;have HB3:=mh (bstep mle HB2.out hb3);clear hb3)|fail)
         go_ret3
         exact HV.out _ HB3.out
        cases k2
        ·rw[if_neg (by simp)]at ST2
         have HV:=mh (BAD.out 4 ST2);clear NXT BAD ST2
         go_wp2_with (first|(go_at_call 46;(with_reducible refine cmo NU1.out ?_);rintro e w2 ⟨rfl,hb2⟩;have k2c:=(hb2.cell (p:=⟨B', O' + 2,none⟩) hBl).trans g2;have NV2:=mh (NU2.out w2);have HB2:=mh (bstep mle HBW.out hb2);clear hb2)|(go_at_call 46;(with_reducible refine cmo NV2.out ?_);rintro e w3 ⟨rfl,hb3⟩;have HB3:=mh (bstep mle HB2.out hb3);clear hb3)|fail)
         go_ret3
         exact HV.out _ HB3.out
        rw[if_pos ⟨rfl,rfl⟩]at ST2;have HN:=NXT.out _ ST2;rw[onLast_snoc]at HN
        replace HN:=mh HN
        have BD:=mh HBL.out.snoc;obtain⟨g,cg,evv,hg1,hg2, -,hf⟩:=BD.out.cells;simp only[Value.slice.injEq]at evv;obtain⟨rfl,e2,e3⟩:=evv;obtain⟨bp,bc,c6,hOB,hNE,hNX⟩:=BD.out.brackets (g:=g) (c:=vc) (by rw[e2]);have hj0:0≤j:=by have:=EJ.out;omega
        have hj1:j<(no:Int):=by have:=EJ.out;omega
        have hjt:j.toNat=A.length:=by have:=EJ.out;omega
        have hwj:IntKind.i64.wrap j=j:=by rw[IntKind.wrap_i64];omega
        have C6:=mh c6;have F6:=mh (hf (A.length*10+6));have HOB:=mh hOB;have HNX:=mh hNX;have HNE:=mh hNE;have hbl0:s0.br.length≤400:=by have:=(GX.out.each s0 (by simp)).1;omega
        obtain⟨bl,ebl⟩:∃l,s0.br.length=l:=⟨_,rfl⟩;rw[ebl]at C6 HOB HNX hbl0 HNE;have EBL:=mh ebl;have hBo:B≤wo.heap.size:=by have h1:=HEB.out;have h2:=HBO.out.size;omega
        clear NXT BAD ST2 e2 e3 c6 hOB hNE hNX hf ebl
        go_wp2_with (first
         | (go_at_call 46;(with_reducible refine cmo NU1.out ?_);rintro e w2 ⟨rfl,hb2⟩;have k2c:=(hb2.cell (p:=⟨B', O' + 2,none⟩) hBl).trans g2;have NV2:=mh (NU2.out w2);have HB2:=mh hb2;clear hb2)
         | (go_at_call 46;(with_reducible refine cmo NV2.out ?_);rintro e w3 ⟨rfl,hb3⟩;have HB3:=mh (bstep mle HB2.out hb3);have c63:=(HB3.out.cell (p:=⟨g,A.length*10+6,none⟩) hg2).trans C6.out;have A5:=mh (HB3.out.alloc HB3.out.size (.cells #[I O v1,I O v2] 54));have SRC:=mh (one_brk w3 ⟨v1,v2⟩);clear hb3)
         | (at_builtin;(refine OwnR.appendAll el_brk rfl (.tmp 153) (.tmp 157) rfl B (.slice bp bl bc) s0.br [⟨v1,v2⟩] (some ⟨w3.heap.size,0,none⟩) 1 1 rfl (HOB.out.below A5.out) SRC.out (fun h=>by cases h) rfl (by first|rfl|simp[Act.eval,Act.put]) (Nat.le_trans hBo A5.out.size) (by have:=EBL.out;omega) (by decide) ?_);intro v7 w7 hO7 hap7;obtain⟨p7,cc7,rfl, -⟩:=hO7.cut (show(s0.br ++ [(⟨v1,v2⟩:Brk)]).length=bl+1 by rw[lap,EBL.out];rfl);have hgl5:=nll hg2 A5.out.size;have c67:=(hap7.cells hgl5 HNE.out (A.length*10+6)).trans ((A5.out.cell (p:=⟨g,A.length*10+6,none⟩) hg2).trans C6.out);have f67:w7.frozen? ⟨g,A.length*10+6,none⟩=false:=(show w7.frozen? ⟨g,A.length*10+6,none⟩=_ from by simp only[World.frozen?,hap7.far g hgl5 HNE.out]).trans ((A5.out.frozen (p:=⟨g,A.length*10+6,none⟩) hg2).trans F6.out);have BL7:=mh (HNX.out _ w7 _ p7 (bl+1) cc7 ⟨v1,v2⟩ A5.out mle hO7 rfl hap7);have HB7:=mh (show Below B w1 (w7.setCell ⟨g,A.length*10+6,none⟩ (.slice p7 (bl+1) cc7)) from((HBO.out.trans (A5.out.mono hBo)).trans hap7.below).setCell hg1 _);clear hO7 hap7)
         | fail)
        refine⟨⟨k+1,⟨A ++ [{ s0 with br:=s0.br ++ [⟨v1,v2⟩] }],3,last⟩,by omega,by go_num,rfl,rfl,HN.out.1,.inr ⟨A,_,rfl,BL7.out⟩,HB7.out,HN.out.2⟩,?_⟩
        simp[intOf];omega
      ·focus
        obtain rfl:qi=3:=by omega
        obtain⟨A,s0,rfl⟩:=snoc_of (show out ≠ [] from GX.out.some (by simp));have ST:=step_rate' (st:=⟨A ++ [s0],3,last⟩) (r:=ll r) (by simp);obtain⟨m,em⟩:∃m,r.length+1=m:=⟨_,rfl⟩;rw[em]at hm0 hcell;clear eqi hrun
        by_cases h2:m=3
        rotate_left
        ·rw[rateR_len (by unfold ll;rw[List.length_map];omega)]at ST
         have HV:=mh (BAD.out 4 ST wo HBW.out);have d3:((m:Int)==3)=false:=beq_eq_false_iff_ne.2 (by omega);clear NXT BAD ST em
         go_wp2
         go_ret3
         exact HV.out
        subst h2;obtain⟨a,b2,rfl⟩:∃a b2,r = [a,b2]:=by
         have:r.length=2:=by omega
         match r,this with
         | [a,b2],_=>exact⟨a,b2,rfl⟩
        obtain⟨B1,O1,e1, -,g1⟩:=HREC.out.word (j:=1) (by simp)
        cases e1
        obtain⟨B2,O2,e2, -,g2⟩:=HREC.out.word (j:=2) (by simp)
        cases e2
        simp only[List.getElem_cons_zero,List.getElem_cons_succ]at g1 g2;have haz:=HZ.out a (by simp);have hbz:=HZ.out b2 (by simp);have ST2:stepP ⟨A ++ [s0],3,last⟩ (wRate::ll [a,b2])=_:=ST.trans (by rw[show rateR (ll [a,b2])=_ from rateR_two a.data.toList b2.data.toList]);have NU1:=mh (show Calls Tryz.prog 46 #[.string a,I O 268435456] wo (fun e w' => e = .returned (.tuple #[I O (Wo.numV a.data.toList 0 268435456),.bool (Wo.numB a.data.toList 0 268435456)])∧Below wo.heap.size wo w') from refnumber17_any a 268435456 wo (by omega));have NU2:=mh (fun (W:World)=>show Calls Tryz.prog 46 #[.string b2,I O 268435456] W (fun e w' => e = .returned (.tuple #[I O (Wo.numV b2.data.toList 0 268435456),.bool (Wo.numB b2.data.toList 0 268435456)])∧Below W.heap.size W w') from refnumber17_any b2 268435456 W (by omega));obtain⟨k1,ek1⟩:∃z,Wo.numB a.data.toList 0 268435456=z:=⟨_,rfl⟩;obtain⟨k2,ek2⟩:∃z,Wo.numB b2.data.toList 0 268435456=z:=⟨_,rfl⟩;obtain⟨v1,ev1⟩:∃z,Wo.numV a.data.toList 0 268435456=z:=⟨_,rfl⟩;obtain⟨v2,ev2⟩:∃z,Wo.numV b2.data.toList 0 268435456=z:=⟨_,rfl⟩;rw[ek1,ev1]at NU1;rw[ek2,ev2]at NU2;rw[ek1,ek2,ev1,ev2]at ST2;clear em ek1 ek2 ev1 ev2 ST
        cases k1
        ·rw[if_neg (by simp)]at ST2
         have HV:=mh (BAD.out 4 ST2);clear NXT BAD ST2
         go_wp2_with (first|(go_at_call 46;(with_reducible refine cmo NU1.out ?_);rintro e w2 ⟨rfl,hb2⟩;have k2c:=(hb2.cell (p:=⟨B', O' + 2,none⟩) hBl).trans g2;have NV2:=mh (NU2.out w2);have HB2:=mh (bstep mle HBW.out hb2);clear hb2)|(go_at_call 46;(with_reducible refine cmo NV2.out ?_);rintro e w3 ⟨rfl,hb3⟩;have HB3:=mh (bstep mle HB2.out hb3);clear hb3)|fail)
         go_ret3
         exact HV.out _ HB3.out
        cases k2
        ·rw[if_neg (by simp)]at ST2
         have HV:=mh (BAD.out 4 ST2);clear NXT BAD ST2
         go_wp2_with (first|(go_at_call 46;(with_reducible refine cmo NU1.out ?_);rintro e w2 ⟨rfl,hb2⟩;have k2c:=(hb2.cell (p:=⟨B', O' + 2,none⟩) hBl).trans g2;have NV2:=mh (NU2.out w2);have HB2:=mh (bstep mle HBW.out hb2);clear hb2)|(go_at_call 46;(with_reducible refine cmo NV2.out ?_);rintro e w3 ⟨rfl,hb3⟩;have HB3:=mh (bstep mle HB2.out hb3);clear hb3)|fail)
         go_ret3
         exact HV.out _ HB3.out
        rw[if_pos ⟨rfl,rfl⟩]at ST2;have HN:=NXT.out _ ST2;rw[onLast_snoc]at HN
        replace HN:=mh HN
        have BD:=mh HBL.out.snoc;obtain⟨g,cg,evv,hg1,hg2, -,hf⟩:=BD.out.cells;simp only[Value.slice.injEq]at evv;obtain⟨rfl,e2,e3⟩:=evv;obtain⟨bp,bc,c6,hOB,hNE,hNX⟩:=BD.out.brackets (g:=g) (c:=vc) (by rw[e2]);have hj0:0≤j:=by have:=EJ.out;omega
        have hj1:j<(no:Int):=by have:=EJ.out;omega
        have hjt:j.toNat=A.length:=by have:=EJ.out;omega
        have hwj:IntKind.i64.wrap j=j:=by rw[IntKind.wrap_i64];omega
        have C6:=mh c6;have F6:=mh (hf (A.length*10+6));have HOB:=mh hOB;have HNX:=mh hNX;have HNE:=mh hNE;have hbl0:s0.br.length≤400:=by have:=(GX.out.each s0 (by simp)).1;omega
        obtain⟨bl,ebl⟩:∃l,s0.br.length=l:=⟨_,rfl⟩;rw[ebl]at C6 HOB HNX hbl0 HNE;have EBL:=mh ebl;have hBo:B≤wo.heap.size:=by have h1:=HEB.out;have h2:=HBO.out.size;omega
        clear NXT BAD ST2 e2 e3 c6 hOB hNE hNX hf ebl
        go_wp2_with (first
         | (go_at_call 46;(with_reducible refine cmo NU1.out ?_);rintro e w2 ⟨rfl,hb2⟩;have k2c:=(hb2.cell (p:=⟨B', O' + 2,none⟩) hBl).trans g2;have NV2:=mh (NU2.out w2);have HB2:=mh hb2;clear hb2)
         | (go_at_call 46;(with_reducible refine cmo NV2.out ?_);rintro e w3 ⟨rfl,hb3⟩;have HB3:=mh (bstep mle HB2.out hb3);have c63:=(HB3.out.cell (p:=⟨g,A.length*10+6,none⟩) hg2).trans C6.out;have A5:=mh (HB3.out.alloc HB3.out.size (.cells #[I O v1,I O v2] 54));have SRC:=mh (one_brk w3 ⟨v1,v2⟩);clear hb3)
         | (at_builtin;(refine OwnR.appendAll el_brk rfl (.tmp 153) (.tmp 157) rfl B (.slice bp bl bc) s0.br [⟨v1,v2⟩] (some ⟨w3.heap.size,0,none⟩) 1 1 rfl (HOB.out.below A5.out) SRC.out (fun h=>by cases h) rfl (by first|rfl|simp[Act.eval,Act.put]) (Nat.le_trans hBo A5.out.size) (by have:=EBL.out;omega) (by decide) ?_);intro v7 w7 hO7 hap7;obtain⟨p7,cc7,rfl, -⟩:=hO7.cut (show(s0.br ++ [(⟨v1,v2⟩:Brk)]).length=bl+1 by rw[lap,EBL.out];rfl);have hgl5:=nll hg2 A5.out.size;have c67:=(hap7.cells hgl5 HNE.out (A.length*10+6)).trans ((A5.out.cell (p:=⟨g,A.length*10+6,none⟩) hg2).trans C6.out);have f67:w7.frozen? ⟨g,A.length*10+6,none⟩=false:=(show w7.frozen? ⟨g,A.length*10+6,none⟩=_ from by simp only[World.frozen?,hap7.far g hgl5 HNE.out]).trans ((A5.out.frozen (p:=⟨g,A.length*10+6,none⟩) hg2).trans F6.out);have BL7:=mh (HNX.out _ w7 _ p7 (bl+1) cc7 ⟨v1,v2⟩ A5.out mle hO7 rfl hap7);have HB7:=mh (show Below B w1 (w7.setCell ⟨g,A.length*10+6,none⟩ (.slice p7 (bl+1) cc7)) from((HBO.out.trans (A5.out.mono hBo)).trans hap7.below).setCell hg1 _);clear hO7 hap7)
         | fail)
        refine⟨⟨k+1,⟨A ++ [{ s0 with br:=s0.br ++ [⟨v1,v2⟩] }],3,last⟩,by omega,by go_num,rfl,rfl,HN.out.1,.inr ⟨A,_,rfl,BL7.out⟩,HB7.out,HN.out.2⟩,?_⟩
        simp[intOf];omega
      ·as_aux_lemma =>
        obtain rfl:qi=4:=by omega
        have HV:=mh (BAD.out 4 (step_def (fun e=>by first|exact absurd e.1 (by assumption)|(have h2:=e.2;dsimp only at h2;omega)|exact absurd e.1 (by decide)) (fun e=>by first|exact absurd e.1 (by assumption)|(have h2:=e.2;dsimp only at h2;omega)|exact absurd e.1 (by decide)) (fun e=>by first|exact absurd e.1 (by assumption)|(have h2:=e.2;dsimp only at h2;omega)|exact absurd e.1 (by decide)) (fun e=>by first|exact absurd e.1 (by assumption)|(have h2:=e.2;dsimp only at h2;omega)|exact absurd e.1 (by decide))) wo HBW.out);clear eqi NXT BAD
        go_wp2
        go_ret3
        exact HV.out
     ·rw[hxw]at NXT BAD
      clear hxw;have hqs3:qs=0∨qs=1∨qs=2∨3≤qs:=by omega
      rcases hqs3 with rfl|rfl|rfl|hq3
      ·as_aux_lemma =>
        obtain rfl:qi=0:=by omega
        have HV:=mh (BAD.out 4 (step_def (fun e=>by first|exact absurd e.1 (by assumption)|(have h2:=e.2;dsimp only at h2;omega)|exact absurd e.1 (by decide)) (fun e=>by first|exact absurd e.1 (by assumption)|(have h2:=e.2;dsimp only at h2;omega)|exact absurd e.1 (by decide)) (fun e=>by first|exact absurd e.1 (by assumption)|(have h2:=e.2;dsimp only at h2;omega)|exact absurd e.1 (by decide)) (fun e=>by first|exact absurd e.1 (by assumption)|(have h2:=e.2;dsimp only at h2;omega)|exact absurd e.1 (by decide))) wo HBW.out);clear eqi NXT BAD
        go_wp2
        go_ret3
        exact HV.out
      ·as_aux_lemma =>
        obtain rfl:qi=1:=by omega
        have HV:=mh (BAD.out 4 (step_def (fun e=>by first|exact absurd e.1 (by assumption)|(have h2:=e.2;dsimp only at h2;omega)|exact absurd e.1 (by decide)) (fun e=>by first|exact absurd e.1 (by assumption)|(have h2:=e.2;dsimp only at h2;omega)|exact absurd e.1 (by decide)) (fun e=>by first|exact absurd e.1 (by assumption)|(have h2:=e.2;dsimp only at h2;omega)|exact absurd e.1 (by decide)) (fun e=>by first|exact absurd e.1 (by assumption)|(have h2:=e.2;dsimp only at h2;omega)|exact absurd e.1 (by decide))) wo HBW.out);clear eqi NXT BAD
        go_wp2
        go_ret3
        exact HV.out
      ·as_aux_lemma =>
        obtain rfl:qi=2:=by omega
        have HV:=mh (BAD.out 4 (step_def (fun e=>by first|exact absurd e.1 (by assumption)|(have h2:=e.2;dsimp only at h2;omega)|exact absurd e.1 (by decide)) (fun e=>by first|exact absurd e.1 (by assumption)|(have h2:=e.2;dsimp only at h2;omega)|exact absurd e.1 (by decide)) (fun e=>by first|exact absurd e.1 (by assumption)|(have h2:=e.2;dsimp only at h2;omega)|exact absurd e.1 (by decide)) (fun e=>by first|exact absurd e.1 (by assumption)|(have h2:=e.2;dsimp only at h2;omega)|exact absurd e.1 (by decide))) wo HBW.out);clear eqi NXT BAD
        go_wp2
        go_ret3
        exact HV.out
      ·as_aux_lemma =>
        have q0f:(qi==0)=false:=beq_eq_false_iff_ne.2 (by omega);have q3t:decide (3≤qi)=true:=dqt (by omega);have q1f:(qi==1)=false:=beq_eq_false_iff_ne.2 (by omega);have q2f:(qi==2)=false:=beq_eq_false_iff_ne.2 (by omega);obtain⟨A,s0,rfl⟩:=snoc_of (show out ≠ [] from GX.out.some (by simp only;omega));obtain⟨m,em⟩:∃m,r.length+1=m:=⟨_,rfl⟩;rw[em]at hm0 hcell;clear eqi hrun
        by_cases h2:m=2
        rotate_left
        ·have HV:=mh (BAD.out 4 (step_not_len (st:=⟨A ++ [s0],qs,last⟩) (r:=ll r) hq3 (by unfold ll;rw[List.length_map];omega)) wo HBW.out)
         have d3:((m:Int)==2)=false:=beq_eq_false_iff_ne.2 (by omega);clear NXT BAD em
         go_wp2
         go_ret3
         exact HV.out
        subst h2;obtain⟨a,rfl⟩:∃a,r = [a]:=by
         have:r.length=1:=by omega
         match r,this with
         | [a],_=>exact⟨a,rfl⟩
        obtain⟨B1,O1,e1, -,g1⟩:=HREC.out.word (j:=1) (by simp)
        cases e1
        simp only[List.getElem_cons_zero,List.getElem_cons_succ]at g1;have haz:=HZ.out a (by simp);have ST:=step_not' (st:=⟨A ++ [s0],qs,last⟩) (a:=a.data.toList) hq3;rw[num0_eq]at ST;have NU1:=mh (show Calls Tryz.prog 46 #[.string a,I O 15] wo (fun e w' => e = .returned (.tuple #[I O (Wo.numV a.data.toList 0 15),.bool (Wo.numB a.data.toList 0 15)])∧Below wo.heap.size wo w') from refnumber17_any a 15 wo (by omega));have hbd:Wo.numB a.data.toList 0 15=true→0≤Wo.numV a.data.toList 0 15∧Wo.numV a.data.toList 0 15≤15:=fun h=>num0_bd (a:=a.data.toList) (most:=15) (by rw[num0_eq,if_pos h])
        obtain⟨k1,ek1⟩:∃z,Wo.numB a.data.toList 0 15=z:=⟨_,rfl⟩;obtain⟨v1,ev1⟩:∃z,Wo.numV a.data.toList 0 15=z:=⟨_,rfl⟩;rw[ek1,ev1]at NU1 ST hbd;clear em ek1 ev1
        cases k1
        ·rw[if_neg (by simp)]at ST
         have HV:=mh (BAD.out 4 ST);clear NXT BAD ST hbd
         go_wp2_with (go_at_call 46;(with_reducible refine cmo NU1.out ?_);rintro e w2 ⟨rfl,hb2⟩;have HB3:=mh (bstep mle HBW.out hb2);clear hb2)
         go_ret3
         exact HV.out _ HB3.out
        rw[if_pos rfl]at ST;simp only at ST;obtain⟨hv0,hv1⟩:=hbd rfl
        by_cases hvl:v1≤last
        ·rw[if_pos hvl]at ST
         have HV:=mh (BAD.out 4 ST);clear NXT BAD ST hbd
         go_wp2_with (go_at_call 46;(with_reducible refine cmo NU1.out ?_);rintro e w2 ⟨rfl,hb2⟩;have HB3:=mh (bstep mle HBW.out hb2);clear hb2)
         go_ret3
         exact HV.out _ HB3.out
        rw[if_neg hvl]at ST;have HN:=NXT.out _ ST;rw[onLast_snoc]at HN
        replace HN:=mh HN
        have BD:=mh HBL.out.snoc;obtain⟨g,cg,evv,hg1,hg2,⟨rr,hC,hex⟩,hf⟩:=BD.out.cells;simp only[Value.slice.injEq]at evv;obtain⟨rfl,e2,e3⟩:=evv;have hj0:0≤j:=by have:=EJ.out;omega
        have hj1:j<(no:Int):=by have:=EJ.out;omega
        have hjt:j.toNat=A.length:=by have:=EJ.out;omega
        have hwj:IntKind.i64.wrap j=j:=by rw[IntKind.wrap_i64];omega
        have c8:=hC.c8;rw[hex]at c8;have C8:=mh c8;have F8:=mh (hf (A.length*10+8));have E2:=mh e2;have hBo:B≤wo.heap.size:=by have h1:=HEB.out;have h2:=HBO.out.size;omega
        obtain⟨hx0,hx1⟩:=GX.out.ex A s0 rfl;have hlst:=GX.out.last;simp only at hx1 hlst;have hp15:(2:Int) ^ v1.toNat≤32768∧0<(2:Int) ^ v1.toNat:=by
         have h1:(2:Nat) ^ v1.toNat≤2 ^ 15:=Nat.pow_le_pow_right (by omega) (by omega);have h2:(2:Int) ^ v1.toNat≤2 ^ 15:=by exact_mod_cast h1
         have h3:(0:Int)<2 ^ v1.toNat:=Int.pow_pos (by omega);omega
        have hwp:IntKind.i64.wrap (2 ^ v1.toNat)=2 ^ v1.toNat:=by rw[IntKind.wrap_i64];omega
        have hor:=or_pow (x:=s0.ex) (n:=v1.toNat) hx0 (by
         have:(2:Int) ^ (last+1).toNat≤2 ^ v1.toNat:=by
          have:(2:Nat) ^ (last+1).toNat≤2 ^ v1.toNat:=Nat.pow_le_pow_right (by omega) (by omega)
          exact_mod_cast this
         omega) (by omega)
        clear NXT BAD ST e2 e3 c8 hC hf hex hbd hx1 hlst
        go_wp2_with (go_at_call 46;(with_reducible refine cmo NU1.out ?_);rintro e w2 ⟨rfl,hb2⟩;have X2:=mh hb2;have k8:=(hb2.cell (p:=⟨g,A.length*10+8,none⟩) hg2).trans C8.out;have f8:=(hb2.frozen (p:=⟨g,A.length*10+8,none⟩) hg2).trans F8.out;clear hb2)
        go_region
        go_wp2
        have BL7:=mh ((BD.out.below X2.out).setEx (s0.ex+2 ^ v1.toNat) (g:=g) (c:=vc) (by rw[E2.out])).drew;have HB7:=mh (show Below B w1 ((w2.setCell ⟨g,A.length*10+8,none⟩ (I O (s0.ex+2 ^ v1.toNat))).drew) from((HBO.out.trans (X2.out.mono hBo)).setCell hg1 _).drew);refine⟨⟨k+1,⟨A ++ [{ s0 with ex:=s0.ex+2 ^ v1.toNat }],4,v1⟩,by omega,by go_num,rfl,rfl,HN.out.1,.inr ⟨A,_,rfl,BL7.out⟩,HB7.out,HN.out.2⟩,?_⟩
        simp[intOf];omega
     ·rcases hqs with rfl|rfl|rfl|rfl|rfl
      ·as_aux_lemma =>
        obtain rfl:qi=0:=by omega
        have HV:=mh (BAD.out 4 (step_def (fun e=>by first|exact absurd e.1 (by assumption)|(have h2:=e.2;dsimp only at h2;omega)|exact absurd e.1 (by decide)) (fun e=>by first|exact absurd e.1 (by assumption)|(have h2:=e.2;dsimp only at h2;omega)|exact absurd e.1 (by decide)) (fun e=>by first|exact absurd e.1 (by assumption)|(have h2:=e.2;dsimp only at h2;omega)|exact absurd e.1 (by decide)) (fun e=>by first|exact absurd e.1 (by assumption)|(have h2:=e.2;dsimp only at h2;omega)|exact absurd e.1 (by decide))) wo HBW.out);clear eqi NXT BAD
        go_wp2
        go_ret3
        exact HV.out
      ·as_aux_lemma =>
        obtain rfl:qi=1:=by omega
        have HV:=mh (BAD.out 4 (step_def (fun e=>by first|exact absurd e.1 (by assumption)|(have h2:=e.2;dsimp only at h2;omega)|exact absurd e.1 (by decide)) (fun e=>by first|exact absurd e.1 (by assumption)|(have h2:=e.2;dsimp only at h2;omega)|exact absurd e.1 (by decide)) (fun e=>by first|exact absurd e.1 (by assumption)|(have h2:=e.2;dsimp only at h2;omega)|exact absurd e.1 (by decide)) (fun e=>by first|exact absurd e.1 (by assumption)|(have h2:=e.2;dsimp only at h2;omega)|exact absurd e.1 (by decide))) wo HBW.out);clear eqi NXT BAD
        go_wp2
        go_ret3
        exact HV.out
      ·as_aux_lemma =>
        obtain rfl:qi=2:=by omega
        have HV:=mh (BAD.out 4 (step_def (fun e=>by first|exact absurd e.1 (by assumption)|(have h2:=e.2;dsimp only at h2;omega)|exact absurd e.1 (by decide)) (fun e=>by first|exact absurd e.1 (by assumption)|(have h2:=e.2;dsimp only at h2;omega)|exact absurd e.1 (by decide)) (fun e=>by first|exact absurd e.1 (by assumption)|(have h2:=e.2;dsimp only at h2;omega)|exact absurd e.1 (by decide)) (fun e=>by first|exact absurd e.1 (by assumption)|(have h2:=e.2;dsimp only at h2;omega)|exact absurd e.1 (by decide))) wo HBW.out);clear eqi NXT BAD
        go_wp2
        go_ret3
        exact HV.out
      ·as_aux_lemma =>
        obtain rfl:qi=3:=by omega
        have HV:=mh (BAD.out 4 (step_def (fun e=>by first|exact absurd e.1 (by assumption)|(have h2:=e.2;dsimp only at h2;omega)|exact absurd e.1 (by decide)) (fun e=>by first|exact absurd e.1 (by assumption)|(have h2:=e.2;dsimp only at h2;omega)|exact absurd e.1 (by decide)) (fun e=>by first|exact absurd e.1 (by assumption)|(have h2:=e.2;dsimp only at h2;omega)|exact absurd e.1 (by decide)) (fun e=>by first|exact absurd e.1 (by assumption)|(have h2:=e.2;dsimp only at h2;omega)|exact absurd e.1 (by decide))) wo HBW.out);clear eqi NXT BAD
        go_wp2
        go_ret3
        exact HV.out
      ·as_aux_lemma =>
        obtain rfl:qi=4:=by omega
        have HV:=mh (BAD.out 4 (step_def (fun e=>by first|exact absurd e.1 (by assumption)|(have h2:=e.2;dsimp only at h2;omega)|exact absurd e.1 (by decide)) (fun e=>by first|exact absurd e.1 (by assumption)|(have h2:=e.2;dsimp only at h2;omega)|exact absurd e.1 (by decide)) (fun e=>by first|exact absurd e.1 (by assumption)|(have h2:=e.2;dsimp only at h2;omega)|exact absurd e.1 (by decide)) (fun e=>by first|exact absurd e.1 (by assumption)|(have h2:=e.2;dsimp only at h2;omega)|exact absurd e.1 (by decide))) wo HBW.out);clear eqi NXT BAD
        go_wp2
        go_ret3
        exact HV.out
  ·obtain rfl:k=LL.length:=by omega
   have hdl:(lb LL).drop LL.length = []:=List.drop_of_length_le (by unfold lb;rw[List.length_map];exact Nat.le_refl _);rw[hdl]at hR;have hkw:IntKind.i64.wrap ((LL.length:Int)+1)=(LL.length:Int)+1:=by rw[IntKind.wrap_i64];omega
   by_cases h12:st.state=1∨st.state=2
   ·have HF:=mh (fun (w' : World) (hb:Below w.heap.size w w')=>ParseG17.bad (show R=([],(LL.length:Int)+1,4) from by rw[hR,prs,if_pos h12]) w w' hb)
    obtain⟨qi,eqi⟩:∃qi:Int,(st.state:Int)=qi:=⟨_,rfl⟩;rw[eqi];clear hgd hbl hb hR hdl hss eno
    rcases h12 with h12|h12
    ·obtain rfl:qi=1:=by omega
     clear eqi
     go_wp2_with (go_at_call 47;(with_reducible refine cmo (CT.out _) ?_);rintro e w5 ⟨rfl,hw5⟩;obtain rfl:=hw5.symm)
     go_ret3
     exact HF.out _ HBW.out
    ·obtain rfl:qi=2:=by omega
     clear eqi
     go_wp2_with (go_at_call 47;(with_reducible refine cmo (CT.out _) ?_);rintro e w5 ⟨rfl,hw5⟩;obtain rfl:=hw5.symm)
     go_ret3
     exact HF.out _ HBW.out
   ·have hR2:R=if (chk17 st.out).2≠0 then ([],0,(chk17 st.out).2) else (st.out,0,0):=by rw[hR,prs,if_neg h12]
    have d1:((st.state:Int)==1)=false:=beq_eq_false_iff_ne.2 (by omega);have d2:((st.state:Int)==2)=false:=beq_eq_false_iff_ne.2 (by omega);have HSS:=mh hss;have CK:=mh (show Calls Tryz.prog 10 #[.slice vp no vc] wo (ChkG (chk17 st.out) wo) from eno▸refcheck17_any vd vp st.out vc wo hss (fun s hs=>by have:=(hgd.each s hs).2.1;omega) (by rw[eno];exact hvc) (fun s hs=>by have:=(hgd.each s hs).2.2;omega));unfold ChkG at CK;obtain⟨L,eL⟩:∃L,st.out=L:=⟨_,rfl⟩;rw[eL]at CK hR2 HSS eno;obtain⟨⟨ci,er⟩,ec⟩:∃x,chk17 L=x:=⟨_,rfl⟩;rw[ec]at CK hR2;simp only at hR2;clear hgd hbl hb hR hdl hss eL ec h12
    by_cases he:er=0
    rotate_left
    ·rw[if_pos he]at hR2
     have hne:(er != 0)=true:=by simpa using he
     have HF:=mh (fun (w' : World) (hb:Below w.heap.size w w')=>ParseG17.bad (show R=([],0,er) from hR2) w w' hb);clear he hR2
     go_wp2_with (go_at_call 10;(with_reducible refine cmo CK.out ?_);rintro e w6 ⟨rfl,hb6⟩;have HB6:=mh (bstep mle HBW.out hb6);clear hb6)
     go_ret3
     exact HF.out _ HB6.out
    ·subst he
     rw[if_neg (by simp)]at hR2
     have HF:=mh (fun (w' : World) (hb2:Below wo.heap.size wo w') (hb:Below w.heap.size w w')=>show ParseG17 R w (.returned (.tuple #[.slice vp no vc,I O 0,I O 0])) w' from by
      subst hR2;refine⟨vp,vc,vd,by rw[eno],?_,by rw[eno];exact hvc,hb⟩
      exact(HSS.out.below hb2).change mle fun b hq _=>⟨rfl,by omega⟩)
     clear hR2
     go_wp2_with (go_at_call 10;(with_reducible refine cmo CK.out ?_);rintro e w6 ⟨rfl,hb6⟩;have HB6:=mh (bstep mle HBW.out hb6);have HO6:=mh hb6;clear hb6)
     go_ret3
     exact HF.out _ HO6.out HB6.out
end Go.Proofs.YtbcmabolkkfgfaaGreatDoor
