/- Packed. -/
import Derived.Test.YtefcalgjnkigjaaGreatL19
set_option maxRecDepth 100000
set_option maxHeartbeats 8000000
open Go.Value renaming int → I
open Go.IntKind renaming i64 → O
namespace Go.Proofs.YtefcalgjnkigjaaGreat
open Go.RowKit Sc As
theorem YV.lowB {t d:Nat}{w w' : World}{r:RY}{l:YLaw}(h:YV (fun b=>b<t) w d r l)(hb:Below t w w'):YV (fun b=>b<t) w' d r l:=h.change hb.size fun b q _=>⟨hb.block b q,q⟩
theorem FV.lowB {t:Nat}{w w' : World}{r:RF}{f:FarmF}(h:FV (fun b=>b<t) w r f)(hb:Below t w w'):FV (fun b=>b<t) w' r f:=h.change hb.size fun b q _=>⟨hb.block b q,q⟩
theorem cR {w:World}{b i:Nat}{cur:Array Value}{T:TypeId}{fr:Nat × Nat}(h:w.heap[b]?=some (.cells cur T fr))(u:Value):(w.setCell ⟨b,i,none⟩ u).heap[b]?=some (.cells (cur.setIfInBounds i u) T fr):=by
 simp[World.setCell,Array.getElem?_modify,h]
theorem hZ {w:World}{b c i:Nat}(h:c≠b)(u:Value):(w.setCell ⟨b,i,none⟩ u).heap[c]?=w.heap[c]?:=by
 simp[World.setCell,Array.getElem?_modify,Ne.symm h]
theorem Chg.setN {t i g:Nat}{v v' : Value}{a b:World}(h:Chg t v v' a b)(hg:a.heap.size≤g)(u:Value):Chg t v v' a (b.setCell ⟨g,i,none⟩ u) :=
 ⟨h.os,h.tape,h.output,by simp[World.setCell];exact h.size,fun k hk ht hv=>(hZ (by omega) u).trans (h.block k hk ht hv),h.own⟩
structure kP (w wr:World) (t:Nat) (r:RY) (f:RF) (va vr vi:Value) (L:List Rsn) (sx ox:Array Value):Prop where
 ac:zD wr t r f va vi
 own:qX SRn wr 129 (t+1) vi L
 chg:Chg t vr vi w wr
 rb:wr.heap[w.heap.size]?=some (.cells #[I O 0,I O 0,I O 0,I O 0,I O 0,I O 0,I O 0,I O 0,I O 0] 91)
 sb:wr.heap[w.heap.size+1]?=some (.cells sx 81)
 ob:wr.heap[w.heap.size+2]?=some (.cells ox 91)
 ne:∀g,vi.ownBlock=some g→g<w.heap.size∨w.heap.size+3≤g
 size:w.heap.size+3≤wr.heap.size
 tl:t<w.heap.size
section
variable {w wr w' : World} {t:Nat} {r:RY} {f:RF} {va vr vi vj:Value} {L M:List Rsn} {sx ox:Array Value}
theorem kP.below (h:kP w wr t r f va vr vi L sx ox)(hb:Below wr.heap.size wr w'):kP w w' t r f va vr vi L sx ox :=
 ⟨h.ac.below hb h.ac.lt,h.own.below hb,h.chg.stp hb,(hb.block _ (by have:=h.size;omega)).trans h.rb,(hb.block _ (by have:=h.size;omega)).trans h.sb,(hb.block _ (by have:=h.size;omega)).trans h.ob,h.ne,Nat.le_trans h.size hb.size,h.tl⟩
theorem kP.set (h:kP w wr t r f va vr vi L sx ox)(i:Nat)(u:Value):kP w (wr.setCell ⟨w.heap.size+2,i,none⟩ u) t r f va vr vi L sx (ox.setIfInBounds i u) :=
 ⟨h.ac.setO (by have:=h.tl;omega) u,h.own.setOther (fun e=>by have:=h.ne _ e;omega) u,h.chg.setN (by omega) u,(hZ (by omega) u).trans h.rb,(hZ (by omega) u).trans h.sb,cR h.ob u,h.ne,by simp[World.setCell];exact h.size,h.tl⟩
theorem kP.turn (h:kP w wr t r f va vr vi L sx ox)(ha:zD w' t r f va vj)(ho:qX SRn w' 129 (t+1) vj M)(hc:Chg t vi vj wr w'):kP w w' t r f va vr vj M sx ox:=by
 have hs:=h.size;have ht:=h.tl;have k:∀i,w.heap.size≤i→i<w.heap.size+3→w'.heap[i]?=wr.heap[i]?:=fun i h1 h2=>hc.block i (by omega) (by omega) fun e=>by have:=h.ne i e;omega
 refine⟨ha,ho,h.chg.trans hc,(k _ (by omega) (by omega)).trans h.rb,(k _ (by omega) (by omega)).trans h.sb,(k _ (by omega) (by omega)).trans h.ob,fun g hg=>?_,Nat.le_trans h.size hc.size,ht⟩
 rcases hc.own with e|e
 ·exact h.ne g (e▸hg)
 ·have:=e g hg
  exact .inr (by omega)
theorem kP.low (h:kP w wr t r f va vr vi L sx ox)(hv:∀g,vr.ownBlock=some g→t<g):Below t w wr:=h.chg.low mle (Nat.le_of_lt h.tl) fun g hg=>Nat.le_of_lt (hv g hg)
theorem kP.oc (h:kP w wr t r f va vr vi L sx ox)(i:Nat):wr.cell? ⟨w.heap.size+2,i,none⟩=ox[i]?:=by simp[World.cell?,h.ob]
theorem kP.of (h:kP w wr t r f va vr vi L sx ox)(i:Nat):wr.frozen? ⟨w.heap.size+2,i,none⟩=false:=by simp[World.frozen?,h.ob]
theorem kP.sc (h:kP w wr t r f va vr vi L sx ox)(i:Nat):wr.cell? ⟨w.heap.size+1,i,none⟩=sx[i]?:=by simp[World.cell?,h.sb]
end
def SqG (t:Nat) (r:RY) (f:RF) (va vr:Value) (L:List Rsn) (a:Awd) (b:Bool) (w:World) (e:Ending) (w' : World):Prop :=
 e = .returned (.tuple #[.agg (tB a).toArray,.bool b,I O 0])∧∃vr', zD w' t r f va vr' ∧ qX SRn w' 129 (t+1) vr' L∧Chg t vr vr' w w'
theorem sG (d t:Nat)(r:RY)(l:YLaw)(rf:RF)(f:FarmF)(va vr:Value)(k:Nat)(w:World)(hA:zD w t r rf va vr)(hY:YV (fun b=>b<t) w d r l)(hF:FV (fun b=>b<t) w rf f)
  (hl:YOk l) (hf:vP l f) (hk:k<l.sch.length) (hR:qX SRn w 129 (t+1) vr (xV l f k 0)) :
  Calls Tryz.prog 99 #[.pointer (some ⟨t,0,none⟩),I O k] w (SqG t r rf va vr (xV l f (k+1) 0) ⟨f.farm,(l.sch[k]).num,yQ l.sch[k] f.lines,yY l k l.sch[k] f.lines,0,0,0,0,0⟩ (kM l.sch[k] f.lines) w):=by
 obtain⟨rfa,rda,lp,ln,lc⟩:=rf;obtain⟨fa,da,lines⟩:=f;have hkl:=hl.len;have htl:=hA.lt;have hsn:=hY.sn;have hwid:=hY.width;have hfa:=hF.farm;have hln:=hF.ln;have hda:=hF.day;have hl20:=hf.len;simp only at hfa hda hln hl20;subst hfa hda hln;have hk0:(0:Int)≤(k:Int):=inn _;have hk1:(k:Int)<(l.sch.length:Int):=by omega
 obtain⟨b,off,y,esp,hbl,⟨c0,c1,c2,c3,c4,c5,c6,c7,c8,c9⟩,hv⟩:=hY.sch.at hk;have hnum:=hv.num;obtain⟨s,es⟩:∃s,l.sch[k]=s:=⟨_,rfl⟩;have hsk:l.sch[k]?=some s:=by rw[List.getElem?_eq_getElem hk,es]
 have hs15:=hl.num s (es▸List.getElem_mem hk);rw[es]at hnum ⊢;obtain⟨num,nm,⟨o,tn,tm,tq,tl,tz⟩,bp,bn,bc,least,exs,needs⟩:=y;simp only at c0 c1 c2 c3 c4 c5 c6 c7 c8 c9 hnum;rw[← hnum]at hs15 ⊢;have HNU:=mh hnum;have HWD:=mh hwid;clear hwid;clear hnum;have a0:w.cell? ⟨t,0,none⟩=some (.slice (some ⟨b,off,none⟩) l.sch.length r.sc):=by rw[← esp,← hsn];exact hA.cell 0 _ rfl
 have a10:w.cell? ⟨t,10,none⟩=some (I O rfa):=hA.cell 10 _ rfl;have a12:w.cell? ⟨t,12,none⟩=some (.slice lp lines.length lc):=hA.cell 12 _ rfl
 go_enter Tryz.func99,Tryz.ntmps99
 go_wp2
 have SZ:=mh (show((w.alloc (.cells #[I O 0,I O 0,I O 0,I O 0,I O 0,I O 0,I O 0,I O 0,I O 0] 91)).alloc (.cells #[I O num,.string nm,I O o,I O tn,I O tm,.slice tq tl tz,.slice bp bn bc,I O least,I O exs,.bool needs] 81)).heap.size=w.heap.size+2 by simp);have HB2:=mh (qK mle (qK mle (brf w.heap.size w) (.cells #[I O 0,I O 0,I O 0,I O 0,I O 0,I O 0,I O 0,I O 0,I O 0] 91)) (.cells #[I O num,.string nm,I O o,I O tn,I O tm,.slice tq tl tz,.slice bp bn bc,I O least,I O exs,.bool needs] 81))
 have RB:=mh (show((w.alloc (.cells #[I O 0,I O 0,I O 0,I O 0,I O 0,I O 0,I O 0,I O 0,I O 0] 91)).alloc (.cells #[I O num,.string nm,I O o,I O tn,I O tm,.slice tq tl tz,.slice bp bn bc,I O least,I O exs,.bool needs] 81)).heap[w.heap.size]?=some (.cells #[I O 0,I O 0,I O 0,I O 0,I O 0,I O 0,I O 0,I O 0,I O 0] 91) from by
  rw[((brf (w.alloc (.cells #[I O 0,I O 0,I O 0,I O 0,I O 0,I O 0,I O 0,I O 0,I O 0] 91)).heap.size (w.alloc (.cells #[I O 0,I O 0,I O 0,I O 0,I O 0,I O 0,I O 0,I O 0,I O 0] 91))).alloc mle (.cells #[I O num,.string nm,I O o,I O tn,I O tm,.slice tq tl tz,.slice bp bn bc,I O least,I O exs,.bool needs] 81)).block w.heap.size (by simp)]
  exact Array.getElem?_push_size)
 have SB:=mh (show((w.alloc (.cells #[I O 0,I O 0,I O 0,I O 0,I O 0,I O 0,I O 0,I O 0,I O 0] 91)).alloc (.cells #[I O num,.string nm,I O o,I O tn,I O tm,.slice tq tl tz,.slice bp bn bc,I O least,I O exs,.bool needs] 81)).heap[w.heap.size+1]?=some (.cells #[I O num,.string nm,I O o,I O tn,I O tm,.slice tq tl tz,.slice bp bn bc,I O least,I O exs,.bool needs] 81) from by
  have e:(w.alloc (.cells #[I O 0,I O 0,I O 0,I O 0,I O 0,I O 0,I O 0,I O 0,I O 0] 91)).heap.size=w.heap.size+1:=by simp
  rw[← e]
  exact Array.getElem?_push_size)
 generalize (w.alloc (.cells #[I O 0,I O 0,I O 0,I O 0,I O 0,I O 0,I O 0,I O 0,I O 0] 91)).alloc (.cells #[I O num,.string nm,I O o,I O tn,I O tm,.slice tq tl tz,.slice bp bn bc,I O least,I O exs,.bool needs] 81)=w2 at *;have b10:=(HB2.cell (p:=⟨t,10,none⟩) htl).trans a10;have b12:=(HB2.cell (p:=⟨t,12,none⟩) htl).trans a12;have s0:w2.cell? ⟨w.heap.size+1,0,none⟩=some (I O num):=by simp[World.cell?,SB.out]
 have htl2:t<w2.heap.size:=by rw[SZ.out];omega
 have hsb2:w.heap.size+1<w2.heap.size:=by rw[SZ.out];omega
 have e10:(w2.alloc (.cells #[I O 0,I O 0,I O 0,I O 0,I O 0,I O 0,I O 0,I O 0,I O 0] 91)).cell? ⟨t,10,none⟩=some (I O rfa):=(((brf w2.heap.size w2).alloc mle (.cells #[I O 0,I O 0,I O 0,I O 0,I O 0,I O 0,I O 0,I O 0,I O 0] 91)).cell (p:=⟨t,10,none⟩) htl2).trans b10;have e0:(w2.alloc (.cells #[I O 0,I O 0,I O 0,I O 0,I O 0,I O 0,I O 0,I O 0,I O 0] 91)).cell? ⟨w.heap.size+1,0,none⟩=some (I O num):=(((brf w2.heap.size w2).alloc mle (.cells #[I O 0,I O 0,I O 0,I O 0,I O 0,I O 0,I O 0,I O 0,I O 0] 91)).cell (p:=⟨w.heap.size+1,0,none⟩) hsb2).trans s0
 go_region
 rw[show w2.heap.size=w.heap.size+2 from SZ.out]
 have SQ:=mh (show kP w (w2.alloc (.cells #[I O rfa,I O num,I O 0,I O 0,I O 0,I O 0,I O 0,I O 0,I O 0] 91)).drew t r ⟨rfa,rda,lp,lines.length,lc⟩ va vr vr (xV l ⟨rfa,rda,lines⟩ k 0) #[I O num,.string nm,I O o,I O tn,I O tm,.slice tq tl tz,.slice bp bn bc,I O least,I O exs,.bool needs] #[I O rfa,I O num,I O 0,I O 0,I O 0,I O 0,I O 0,I O 0,I O 0] from by
  have hb:=(brf w2.heap.size w2).alloc mle (.cells #[I O rfa,I O num,I O 0,I O 0,I O 0,I O 0,I O 0,I O 0,I O 0] 91);have hb3:=(HB2.trans (hb.mono (by rw[SZ.out];omega))).drew;refine⟨hA.below hb3 htl,hR.below hb3,.of_below hb3,(hb.block _ (by rw[SZ.out];omega)).trans RB.out,(hb.block _ hsb2).trans SB.out,?_,fun g hg => .inl (hR.lt hg).2,by show _≤(w2.heap.push _).size;rw[Array.size_push,SZ.out];exact Nat.le_refl _,htl⟩;rw[← SZ.out]
  exact Array.getElem?_push_size)
 generalize (w2.alloc (.cells #[I O rfa,I O num,I O 0,I O 0,I O 0,I O 0,I O 0,I O 0,I O 0] 91)).drew=w3 at *;clear b10 b12 s0 e10 e0 RB SB SZ HB2 htl2 hsb2 a0 a10 a12 c0 c1 c2 c3 c4 c5 c6 c7 c8 c9;have HOV:=mh (fun g (hg:vr.ownBlock=some g)=>Nat.lt_of_succ_le (hR.lt hg).1);have HF:=mh hF;have HSK:=mh hsk;have HL:=mh hl;have HFO:=mh hf;have f12:=SQ.ac.cell 12 _ rfl;clear hR hA hF hY hv hsk es hl hf
 go_wp2
 go_loopw [9,37] (fun nb i wr=>∃(j:Nat) (vi:Value),j≤lines.length∧i=I O j∧nb = .bool (kM s (lines.take j))∧kP w wr t r ⟨rfa,rda,lp,lines.length,lc⟩ va vr vi (xV l ⟨rfa,rda,lines⟩ k j) #[I O num,.string nm,I O o,I O tn,I O tm,.slice tq tl tz,.slice bp bn bc,I O least,I O exs,.bool needs] #[I O rfa,I O num,I O (yQ s (lines.take j)),I O (yY l k s (lines.take j)),I O 0,I O 0,I O 0,I O 0,I O 0]) (fun _ i _=>lines.length - (intOf i).toNat)
 case atStart=>exact⟨0,vr,Nat.zero_le _,rfl,rfl,SQ.out⟩
 case round =>
  clear f12;obtain⟨wo,rfl⟩:∃wo:World,wo=wr:=⟨_,rfl⟩;obtain⟨j,vi,hj,rfl,rfl,hq⟩:=hrel;have HQ:=mh hq;have HLOW:=mh (hq.low HOV);have hj0:(0:Int)≤(j:Int):=inn _;have BDJ:=mh (rR HL HFO HSK (j+1))
  by_cases hlt:j<lines.length
  ·have hj1:(j:Int)<(lines.length:Int):=by omega
   obtain⟨b2,off2,y2,e2,hbl2,⟨c0,c1,c2,c3,c4,c5,c6⟩,hv⟩:=(HF.lowB HLOW).lines.at hlt
   cases e2
   have SD:=tW (s:=s) hlt;have SN:=tU (l:=l) (j:=k) (s:=s) hlt;have SM:=cA (s:=s) hlt;have hvs:=hv.sch;have hvd:=hv.decl;obtain⟨x,ex⟩:∃x,lines[j]=x:=⟨_,rfl⟩;have hxj:lines[j]?=some x:=by rw[List.getElem?_eq_getElem hlt,ex]
   rw[ex]at SD SN SM hv hvs hvd;obtain⟨dl,ls,dp,dnn,dcc,se,ki,ar,bo⟩:=y2;simp only at c0 c1 c2 c3 c4 c5 c6 hvs hvd;have LO:=HFO.line x (ex▸List.getElem_mem hlt);have hkd:k<x.due.length:=by rw[LO.len];exact(List.getElem?_eq_some_iff.1 HSK).1
   have hnb:zW x s=zH ls num:=by unfold zW;rw[← hvs,← HNU.out]
   have hba:=(brf wo.heap.size wo).alloc mle (.cells #[I O dl,I O ls,.slice dp dnn dcc,I O se,I O ki,I O ar,I O bo] 89);have HQA:=mh (hq.below hba);have d0:=HQA.sc 0;have d1:=HQA.sc 1;have d2:=HQA.sc 2;have d3:=HQA.sc 3;have d4:=HQA.sc 4;have d5:=HQA.sc 5;have d6:=HQA.sc 6;have d7:=HQA.sc 7;have d8:=HQA.sc 8;have d9:=HQA.sc 9;have NM:=mh (fun (W:World)=>bS ⟨dl,ls,dp,dnn,dcc,se,ki,ar,bo⟩ ⟨num,nm,⟨o,tn,tm,tq,tl,tz⟩,bp,bn,bc,least,exs,needs⟩ W hs15.1 hs15.2);simp only[jS,zN]at NM
   cases eb:zH ls num
   ·rw[eb]at NM hnb
    rw[hnb]at SD SN SM;simp only[Bool.false_eq_true,if_false,Int.add_zero,Bool.or_false]at SD SN SM;have SAME:=mh (sB (l:=l) (f:=⟨rfa,rda,lines⟩) (k:=k) (i:=j) hlt hxj HSK (by rw[hnb];simp));have SDH:=mh SD;have SNH:=mh SN;have SMH:=mh SM;clear hq hba eb hnb SD SN SM hv hvs hvd hxj ex LO hkd hbl2
    go_wp2_with (go_at_call 128;(with_reducible refine cmo (NM.out _) ?_);rintro e w1 ⟨rfl,hb1⟩;have HQ1:=mh (HQA.below hb1);clear hb1)
    go_roundw
    case rel=>exact⟨j+1,vi,by omega,by go_num,by rw[SMH.out],by rw[SAME.out,SDH.out,SNH.out];exact HQ1.out⟩
    case measure=>simp[intOf];omega
   ·rw[eb]at NM hnb
    rw[hnb]at SD SN SM;simp only[if_true,Bool.or_true]at SD SN SM;have FC:=mh (fun (W:World) (hW:Below wo.heap.size wo W)=>mV ⟨dl,ls,dp,dnn,dcc,se,ki,ar,bo⟩ x k W (hv.below hW) hkd);have chk:=LO.fact k s HSK hnb;obtain⟨F,eF⟩:∃F,factOf x k=F:=⟨_,rfl⟩;have hdet:=(chk28_zero chk).1.det HL.width.1 HL.width.2;obtain⟨⟨n,why⟩,eD⟩:∃v,det (factOf x k) l.width=v:=⟨_,rfl⟩;have SAME:=mh (fun (h0:why=0)=>sB (l:=l) (f:=⟨rfa,rda,lines⟩) (k:=k) (i:=j) hlt hxj HSK (by rw[eD];simp[h0]));have MORE:=mh (fun (h0:why≠0)=>xNA (l:=l) (f:=⟨rfa,rda,lines⟩) (k:=k) (i:=j) hlt hxj HSK ⟨hnb,by rw[eD];exact h0⟩);rw[show(factOf x k).decl=x.decl from rfl]at hdet;rw[eD]at SN hdet
    have LC:=mh (fun (W:World)=>show Calls Tryz.prog 141 #[.agg (dB F).toArray,I O r.width] W (DetG (n,why) 0 W) from by
     have:=jAA F r.width W;rw[HWD.out,← eF,chk]at this;unfold detV at this;rw[if_pos chk,eD]at this;rw[HWD.out,← eF]
     exact this)
    rw[eF]at FC;rw[eD]at MORE;simp only[jS]at FC;simp only at SN hdet MORE;have SDH:=mh SD;have SNH:=mh SN;have SMH:=mh SM;have VD:=mh hvd;have BD:=BDJ.out;rw[SD,SN,← hvd]at BD;obtain⟨D0,eD0⟩:∃z,yQ s (lines.take j)=z:=⟨_,rfl⟩;obtain⟨N0,eN0⟩:∃z,yY l k s (lines.take j)=z:=⟨_,rfl⟩;have BD0:=rR HL HFO HSK j;have hld:=LO.d0;rw[← hvd]at hld hdet;simp only at BD BD0;rw[eD0,eN0]at BD BD0;rw[eD0]at SDH;rw[eN0]at SNH;have hw1:IntKind.i64.wrap (D0+dl)=D0+dl:=by rw[IntKind.wrap_i64];omega
    have hw2:IntKind.i64.wrap (N0+n)=N0+n:=by rw[IntKind.wrap_i64];omega
    have HQ' := mh (show kP w wo t r ⟨rfa,rda,(some ⟨b2,off2,none⟩),lines.length,lc⟩ va vr vi (xV l ⟨rfa,rda,lines⟩ k j) #[I O num,.string nm,I O o,I O tn,I O tm,.slice tq tl tz,.slice bp bn bc,I O least,I O exs,.bool needs] #[I O rfa,I O num,I O D0,I O N0,I O 0,I O 0,I O 0,I O 0,I O 0] from by rw[← eD0,← eN0];exact hq);have HQB:=mh (HQ'.below hba);have HBA:=mh hba;clear hq hba eb hnb SD SN SM hv hvs hvd hxj ex LO hkd hbl2 chk eF eD BD eD0 eN0 BD0 hld hdet HQ HQA BDJ
    go_wp2_with (go_at_call 128;(with_reducible refine cmo (NM.out _) ?_);rintro e w1 ⟨rfl,hb1⟩;have HQ1:=mh (HQB.below hb1);have HW1:=mh (qZ mle HBA hb1);have SL1:=mh (show wo.heap.size<w1.heap.size from nll (by simp) hb1.size);have KD:=mh (show w1.drew.cell? ⟨wo.heap.size,0,none⟩=some (I O dl)∧w1.drew.cell? ⟨wo.heap.size,1,none⟩=some (I O ls)∧w1.drew.cell? ⟨wo.heap.size,2,none⟩=some (.slice dp dnn dcc)∧w1.drew.cell? ⟨wo.heap.size,3,none⟩=some (I O se)∧w1.drew.cell? ⟨wo.heap.size,4,none⟩=some (I O ki)∧w1.drew.cell? ⟨wo.heap.size,5,none⟩=some (I O ar)∧w1.drew.cell? ⟨wo.heap.size,6,none⟩=some (I O bo)∧w1.drew.cell? ⟨t,9,none⟩=some (I O r.width) from⟨(hb1.cell (p:=⟨wo.heap.size,0,none⟩) (by simp)).trans (cwn _ _ _ 0),(hb1.cell (p:=⟨wo.heap.size,1,none⟩) (by simp)).trans (cwn _ _ _ 1),(hb1.cell (p:=⟨wo.heap.size,2,none⟩) (by simp)).trans (cwn _ _ _ 2),(hb1.cell (p:=⟨wo.heap.size,3,none⟩) (by simp)).trans (cwn _ _ _ 3),(hb1.cell (p:=⟨wo.heap.size,4,none⟩) (by simp)).trans (cwn _ _ _ 4),(hb1.cell (p:=⟨wo.heap.size,5,none⟩) (by simp)).trans (cwn _ _ _ 5),(hb1.cell (p:=⟨wo.heap.size,6,none⟩) (by simp)).trans (cwn _ _ _ 6),HQ1.ac.cell 9 _ rfl⟩);clear hb1)
    go_region_held3 (fun w' => w'.cell? ⟨wo.heap.size,0,none⟩=some (I O dl)∧w'.cell? ⟨wo.heap.size,1,none⟩=some (I O ls)∧w'.cell? ⟨wo.heap.size,2,none⟩=some (.slice dp dnn dcc)∧w'.cell? ⟨wo.heap.size,3,none⟩=some (I O se)∧w'.cell? ⟨wo.heap.size,4,none⟩=some (I O ki)∧w'.cell? ⟨wo.heap.size,5,none⟩=some (I O ar)∧w'.cell? ⟨wo.heap.size,6,none⟩=some (I O bo)∧w'.cell? ⟨t,9,none⟩=some (I O r.width)) (first|with_reducible exact KD.out|with_reducible exact K2.out|with_reducible exact K3.out|go_keep) (first|(go_at_call 130;(with_reducible refine cmo (FC.out _ HW1.out.drew) ?_);rintro e w2' ⟨rfl,hb2⟩;have HQ2:=mh ((HQ1.below (brf _ _).drew).below hb2);have SL2:=mh (nll SL1 hb2.size);have K2:=mh (show w2'.cell? ⟨wo.heap.size,0,none⟩=some (I O dl)∧w2'.cell? ⟨wo.heap.size,1,none⟩=some (I O ls)∧w2'.cell? ⟨wo.heap.size,2,none⟩=some (.slice dp dnn dcc)∧w2'.cell? ⟨wo.heap.size,3,none⟩=some (I O se)∧w2'.cell? ⟨wo.heap.size,4,none⟩=some (I O ki)∧w2'.cell? ⟨wo.heap.size,5,none⟩=some (I O ar)∧w2'.cell? ⟨wo.heap.size,6,none⟩=some (I O bo)∧w2'.cell? ⟨t,9,none⟩=some (I O r.width) from⟨(hb2.cell (p:=⟨wo.heap.size,0,none⟩) SL1).trans KD.1,(hb2.cell (p:=⟨wo.heap.size,1,none⟩) SL1).trans KD.2.1,(hb2.cell (p:=⟨wo.heap.size,2,none⟩) SL1).trans KD.2.2.1,(hb2.cell (p:=⟨wo.heap.size,3,none⟩) SL1).trans KD.2.2.2.1,(hb2.cell (p:=⟨wo.heap.size,4,none⟩) SL1).trans KD.2.2.2.2.1,(hb2.cell (p:=⟨wo.heap.size,5,none⟩) SL1).trans KD.2.2.2.2.2.1,(hb2.cell (p:=⟨wo.heap.size,6,none⟩) SL1).trans KD.2.2.2.2.2.2.1,HQ2.ac.cell 9 _ rfl⟩);clear hb2)|(go_at_call 141;(with_reducible refine cmo (LC.out _) ?_);rintro e w3' ⟨rfl,hb3⟩;have HQ3:=mh (HQ2.below hb3);have SL3:=mh (nll SL2 hb3.size);have K3:=mh (show w3'.cell? ⟨wo.heap.size,0,none⟩=some (I O dl)∧w3'.cell? ⟨wo.heap.size,1,none⟩=some (I O ls)∧w3'.cell? ⟨wo.heap.size,2,none⟩=some (.slice dp dnn dcc)∧w3'.cell? ⟨wo.heap.size,3,none⟩=some (I O se)∧w3'.cell? ⟨wo.heap.size,4,none⟩=some (I O ki)∧w3'.cell? ⟨wo.heap.size,5,none⟩=some (I O ar)∧w3'.cell? ⟨wo.heap.size,6,none⟩=some (I O bo)∧w3'.cell? ⟨t,9,none⟩=some (I O r.width) from⟨(hb3.cell (p:=⟨wo.heap.size,0,none⟩) SL2).trans K2.1,(hb3.cell (p:=⟨wo.heap.size,1,none⟩) SL2).trans K2.2.1,(hb3.cell (p:=⟨wo.heap.size,2,none⟩) SL2).trans K2.2.2.1,(hb3.cell (p:=⟨wo.heap.size,3,none⟩) SL2).trans K2.2.2.2.1,(hb3.cell (p:=⟨wo.heap.size,4,none⟩) SL2).trans K2.2.2.2.2.1,(hb3.cell (p:=⟨wo.heap.size,5,none⟩) SL2).trans K2.2.2.2.2.2.1,(hb3.cell (p:=⟨wo.heap.size,6,none⟩) SL2).trans K2.2.2.2.2.2.2.1,HQ3.ac.cell 9 _ rfl⟩);clear hb3)|fail)
    have o2:=HQ3.oc 2;have o3:=HQ3.oc 3;have fo2:=HQ3.of 2;have fo3:=HQ3.of 3;have l0:=K3.1;have s0:=HQ3.sc 0;have HQ4:=mh (show kP w ((w3'.setCell ⟨w.heap.size+2,2,none⟩ (I O (D0+dl))).setCell ⟨w.heap.size+2,3,none⟩ (I O (N0+n))) t r ⟨rfa,rda,(some ⟨b2,off2,none⟩),lines.length,lc⟩ va vr vi (xV l ⟨rfa,rda,lines⟩ k j) #[I O num,.string nm,I O o,I O tn,I O tm,.slice tq tl tz,.slice bp bn bc,I O least,I O exs,.bool needs] #[I O rfa,I O num,I O (D0+dl),I O (N0+n),I O 0,I O 0,I O 0,I O 0,I O 0] from(HQ3.set 2 _).set 3 _)
    by_cases hwhy:why=0
    ·have hwb:(why != 0)=false:=by simp[hwhy]
     have SM0:=mh (SAME hwhy);clear hwhy
     go_wp2
     go_roundw
     case rel=>exact⟨j+1,vi,by omega,by go_num,by rw[SMH.out],by rw[SM0.out,SDH.out,SNH.out,← VD.out];exact HQ4.out⟩
     case measure=>simp[intOf];omega
    ·have hwb:(why != 0)=true:=by simpa using hwhy
     obtain⟨GA,GD,m1,m2,m3,m4⟩:=MORE.out hwhy
     have RS:=mh (rN t r ⟨rfa,rda,(some ⟨b2,off2,none⟩),lines.length,lc⟩ va vi GA GD ⟨j,num,why⟩ _ HQ4.ac (m1▸HQ4.own) (by
      have:=kMA (l:=l) (f:=⟨rfa,rda,lines⟩) (k:=k) (i:=j) (by omega) hl20;rw[m1,lap]at this
      omega) m3 m4)
     simp only[fF]at RS;have M2:=mh m2;clear hwhy m1 m2 m3 m4
     go_wp2_with (go_at_call 142;(with_reducible refine cmo RS.out ?_);rintro e w5 ⟨rfl,vj,hac5,hown5,hchg5⟩;have HQ5:=mh (HQ4.turn hac5 hown5 hchg5);clear hac5 hown5 hchg5)
     go_roundw
     case rel=>exact⟨j+1,vj,by omega,by go_num,by rw[SMH.out],by rw[M2.out,SDH.out,SNH.out,← VD.out,← HNU.out];exact HQ5.out⟩
     case measure=>simp[intOf];omega
  ·obtain rfl:j=lines.length:=by omega
   have o0:=hq.oc 0;have o1:=hq.oc 1;have o2:=hq.oc 2;have o3:=hq.oc 3;have o4:=hq.oc 4;have o5:=hq.oc 5;have o6:=hq.oc 6;have o7:=hq.oc 7;have o8:=hq.oc 8;have rbc:∀i,wo.cell? ⟨w.heap.size,i,none⟩=(#[I O 0,I O 0,I O 0,I O 0,I O 0,I O 0,I O 0,I O 0,I O 0]:Array Value)[i]?:=fun i=>by simp[World.cell?,hq.rb]
   have rbf:∀i,wo.frozen? ⟨w.heap.size,i,none⟩=false:=fun i=>by simp[World.frozen?,hq.rb]
   have r0:=rbc 0;have r1:=rbc 1;have r2:=rbc 2;have r3:=rbc 3;have r4:=rbc 4;have r5:=rbc 5;have r6:=rbc 6;have r7:=rbc 7;have r8:=rbc 8;have g0:=rbf 0;have g1:=rbf 1;have g2:=rbf 2;have g3:=rbf 3;have g4:=rbf 4;have g5:=rbf 5;have g6:=rbf 6;have g7:=rbf 7;have g8:=rbf 8;clear rbc rbf;rw[List.take_length]at *
   go_wp2
   obtain⟨WF,eWF⟩:∃W,(((((((((wo.setCell ⟨w.heap.size,0,none⟩ (I O rfa)).setCell ⟨w.heap.size,1,none⟩ (I O num)).setCell ⟨w.heap.size,2,none⟩ (I O (yQ s lines))).setCell ⟨w.heap.size,3,none⟩ (I O (yY l k s lines))).setCell ⟨w.heap.size,4,none⟩ (I O 0)).setCell ⟨w.heap.size,5,none⟩ (I O 0)).setCell ⟨w.heap.size,6,none⟩ (I O 0)).setCell ⟨w.heap.size,7,none⟩ (I O 0)).setCell ⟨w.heap.size,8,none⟩ (I O 0))=W:=⟨_,rfl⟩;rw[eWF];have HZ:=mh (show WF.heap[w.heap.size]?=some (.cells #[I O rfa,I O num,I O (yQ s lines),I O (yY l k s lines),I O 0,I O 0,I O 0,I O 0,I O 0] 91) from eWF▸(cR (cR (cR (cR (cR (cR (cR (cR (cR hq.rb (I O rfa)) (I O num)) (I O (yQ s lines))) (I O (yY l k s lines))) (I O 0)) (I O 0)) (I O 0)) (I O 0)) (I O 0)));have HC:=mh (show Chg t vr vi w WF from eWF▸(((((((((hq.chg.setN mle (I O rfa)).setN mle (I O num)).setN mle (I O (yQ s lines))).setN mle (I O (yY l k s lines))).setN mle (I O 0)).setN mle (I O 0)).setN mle (I O 0)).setN mle (I O 0)).setN mle (I O 0)))
   have HAC:=mh (show zD WF t r ⟨rfa,rda,lp,lines.length,lc⟩ va vi from by
    have e:w.heap.size≠t:=by omega
    exact eWF▸(((((((((hq.ac.setO e (I O rfa)).setO e (I O num)).setO e (I O (yQ s lines))).setO e (I O (yY l k s lines))).setO e (I O 0)).setO e (I O 0)).setO e (I O 0)).setO e (I O 0)).setO e (I O 0)))
   have HOW:=mh (show qX SRn WF 129 (t+1) vi (xV l ⟨rfa,rda,lines⟩ k lines.length) from by
    have e:vi.ownBlock≠some w.heap.size:=fun e=>by have:=hq.ne _ e;omega
    exact eWF▸(((((((((hq.own.setOther e (I O rfa)).setOther e (I O num)).setOther e (I O (yQ s lines))).setOther e (I O (yY l k s lines))).setOther e (I O 0)).setOther e (I O 0)).setOther e (I O 0)).setOther e (I O 0)).setOther e (I O 0)))
   clear eWF r0 r1 r2 r3 r4 r5 r6 r7 r8 g0 g1 g2 g3 g4 g5 g6 g7 g8 o0 o1 o2 o3 o4 o5 o6 o7 o8;have q:=fun i=>(show WF.cell? ⟨w.heap.size,i,none⟩=(#[I O rfa,I O num,I O (yQ s lines),I O (yY l k s lines),I O 0,I O 0,I O 0,I O 0,I O 0]:Array Value)[i]? from by simp[World.cell?,HZ.out])
   have q0:=q 0;have q1:=q 1;have q2:=q 2;have q3:=q 3;have q4:=q 4;have q5:=q 5;have q6:=q 6;have q7:=q 7;have q8:=q 8;exact bodyPost_ret (v := .tuple #[.agg #[I O rfa,I O num,I O (yQ s lines),I O (yY l k s lines),I O 0,I O 0,I O 0,I O 0,I O 0],.bool (kM s lines),I O 0]) (by simp[results,Tryz.results99,go_sem,q0,q1,q2,q3,q4,q5,q6,q7,q8]) rfl ⟨rfl,vi,HAC.out,by have:=HOW.out;rw[show lines.length=(FarmF.mk rfa rda lines).lines.length from rfl,kNA]at this;exact this,HC.out⟩
end Go.Proofs.YtefcalgjnkigjaaGreat
namespace Go.Proofs.YtefcalgjnkigjaaGreat
open Go.RowKit
theorem ab_eq {D:List (Int × Int)}{k:Nat}{x y:Int}(h:D.getD k (0,0)=(x,y)):Re.ab D k=x:=by unfold Re.ab;rw[h]
theorem ti_eq {D:List (Int × Int)}{k:Nat}{x y:Int}(h:D.getD k (0,0)=(x,y)):Re.ti D k=y:=by unfold Re.ti;rw[h]
theorem mG {D:List (Int × Int)}{k:Nat}{x y d f:Int}(hR:Re.Right D)(hk:k<D.length)(h:D.getD k (0,0)=(x,y))(d0:0≤d∧d≤268435456)(f0:0≤f∧f≤268435456) :
  ∃X M:Int,IntKind.i64.wrap (x*f)=X∧IntKind.i64.wrap (1000*max 0 (d - f))=M∧IntKind.i64.wrap (d - f)=d - f∧Re.holds D d f k=decide (X<M):=by
 have h1:=hR.ab0 hk;rw[ab_eq h]at h1;have h2:0≤x*f:=Int.mul_nonneg h1.1 f0.1;have h3:x*f≤100000*268435456:=Int.mul_le_mul h1.2 f0.2 f0.1 (by omega);refine⟨x*f,1000*max 0 (d - f),?_,?_,?_,?_⟩
 ·generalize x*f=y at *;rw[IntKind.wrap_i64];omega
 ·rw[IntKind.wrap_i64];omega
 ·rw[IntKind.wrap_i64];omega
 ·unfold Re.holds;rw[ab_eq h]
theorem vXA (p:Option Addr)(D:List (Int × Int))(cap:Nat)(d f:Int)(w:World)(h:jF w p D)(hR:Re.Right D)(d0:0≤d∧d≤268435456)(f0:0≤f∧f≤268435456) :
  Calls Tryz.prog 182 #[.slice p D.length cap,I O d,I O f] w fun e w' => e = .returned (I O (Re.step D d f))∧w=w' :=by
 have H:=mh h;have R:=mh hR;have h6:=hR.len;have h1:=hR.len1;have hwl:IntKind.i64.wrap ((D.length:Int) - 1)=(D.length:Int) - 1:=by rw[IntKind.wrap_i64];omega
 have hwd:IntKind.i64.wrap (d - f)=d - f:=by rw[IntKind.wrap_i64];omega
 clear h hR
 go_enter Tryz.func182,Tryz.ntmps182
 go_wp2
 go_loop [8] (fun i=>∃k:Nat,k≤D.length∧i=I O ((k:Int) - 1)∧Re.step D d f=Re.stepTo D d f k) (fun i=>(intOf i+1).toNat)
 case atStart=>exact⟨D.length,Nat.le_refl _,rfl,rfl⟩
 case round =>
  obtain⟨k,hk,rfl,hst⟩:=hrel;have HST:=mh hst;clear hst
  rcases Nat.eq_zero_or_pos k with rfl|hpos
  ·go_wp2
   go_ret
   exact⟨by rw[HST.out];rfl,rfl⟩
  ·obtain⟨n,rfl⟩:∃n,k=n+1:=⟨k - 1,by omega⟩
   have hlt:n<D.length:=by omega
   obtain⟨b,off,x,y,rfl,hbl,hx,hy,hxy⟩:=H.get hlt;obtain⟨X,M,g2,g3,g4,g5⟩:=mG R hlt hxy.out d0 f0;have HS:=mh (show Re.stepTo D d f (n+1)=if Re.holds D d f n=true then (n:Int) else Re.stepTo D d f n from rfl);have hn0:(0:Int)≤(n:Int):=inn _;have hn1:(n:Int)<(D.length:Int):=by omega
   have hnn:(n:Int)+1 - 1=(n:Int):=by omega
   have hwn:IntKind.i64.wrap ((n:Int) - 1)=(n:Int) - 1:=by rw[IntKind.wrap_i64];omega
   by_cases hh:X<M
   ·have hh' : decide (X<M)=true:=dqt hh
    have HE:=mh (show Re.step D d f=(n:Int) by rw[HST.out,HS.out,g5,if_pos hh']);clear g5
    go_wp2
    go_ret
    exact⟨by rw[HE.out];rfl,rfl⟩
   ·have hh' : decide (X<M)=false:=dqf hh
    have HE:=mh (show Re.step D d f=Re.stepTo D d f n by rw[HST.out,HS.out,g5,hh', if_neg (by decide)]);clear g5
    go_wp2
    go_round
    case rel=>exact⟨n,by omega,rfl,HE.out⟩
    case measure=>simp[intOf]
theorem cE (D:List (Int × Int))(d f:Int) :
  (Re.chk D=66∧Re.stepV D d f = -1)∨(Re.chk D=0∧Re.area d=false∧Re.stepV D d f = -1)∨(Re.chk D=0∧Re.area d=true∧Re.area f=false∧Re.stepV D d f = -1)∨(Re.chk D=0∧Re.area d=true∧Re.area f=true∧Re.Right D∧Re.stepV D d f=Re.step D d f):=by
 by_cases hR:Re.Right D
 ·have c:=Re.chk_zero.2 hR
  cases h1:Re.area d
  ·exact .inr (.inl ⟨c,rfl,by unfold Re.stepV;rw[if_pos (.inr (.inl h1))]⟩)
  ·cases h2:Re.area f
   ·exact .inr (.inr (.inl ⟨c,rfl,rfl,by unfold Re.stepV;rw[if_pos (.inr (.inr h2))]⟩))
   ·exact .inr (.inr (.inr ⟨c,rfl,rfl,hR,by unfold Re.stepV;rw[if_neg];rw[c,h1,h2];simp⟩))
 ·have c:=Re.chk_not hR
  exact .inl ⟨c,by unfold Re.stepV;rw[if_pos (.inl (by rw[c];decide))]⟩
theorem cV (D:List (Int × Int))(d f:Int) :
  (Re.chk D=66∧Re.paidErr D d f=66∧Re.paidVal D d f=0)∨(Re.chk D=0∧Re.area d=false∧Re.paidErr D d f=2∧Re.paidVal D d f=0)∨(Re.chk D=0∧Re.area d=true∧Re.area f=false∧Re.paidErr D d f=2∧Re.paidVal D d f=0) ∨
  (Re.chk D=0∧Re.area d=true∧Re.area f=true∧Re.Right D∧Re.paidErr D d f=0∧Re.paidVal D d f=Re.paid D d f):=by
 rcases cE D d f with⟨c, -⟩|⟨c,h1, -⟩|⟨c,h1,h2, -⟩|⟨c,h1,h2,hR, -⟩
 ·have e:Re.paidErr D d f=66:=by unfold Re.paidErr;rw[if_pos (by rw[c];decide)]
  exact .inl ⟨c,e,by unfold Re.paidVal;rw[if_pos (by rw[e];decide)]⟩
 ·have e:Re.paidErr D d f=2:=by unfold Re.paidErr;rw[if_neg (by rw[c];decide),if_pos (.inl h1)]
  exact .inr (.inl ⟨c,h1,e,by unfold Re.paidVal;rw[if_pos (by rw[e];decide)]⟩)
 ·have e:Re.paidErr D d f=2:=by unfold Re.paidErr;rw[if_neg (by rw[c];decide),if_pos (.inr h2)]
  exact .inr (.inr (.inl ⟨c,h1,h2,e,by unfold Re.paidVal;rw[if_pos (by rw[e];decide)]⟩))
 ·have e:Re.paidErr D d f=0:=by unfold Re.paidErr;rw[if_neg (by rw[c];decide),if_neg (by rw[h1,h2];simp)]
  exact .inr (.inr (.inr ⟨c,h1,h2,hR,e,by unfold Re.paidVal;rw[if_neg (by rw[e];decide)]⟩))
theorem gSA (p:Option Addr)(D:List (Int × Int))(cap:Nat)(d f:Int)(w:World)(h:jF w p D) :
  Calls Tryz.prog 143 #[.slice p D.length cap,I O d,I O f] w fun e w' => e = .returned (.tuple #[I O (Re.paidVal D d f),I O (Re.paidErr D d f)])∧Below w.heap.size w w' :=by
 have hc:=cK p D cap w h
 rcases cV D d f with⟨c,e,e2⟩|⟨c,h1,e,e2⟩|⟨c,h1,h2,e,e2⟩|⟨c,h1,h2,hR,e,e2⟩
 all_goals rw[c]at hc;rw[e,e2]
 ·have HC:=mh hc
  clear hc h c e e2
  go_enter Tryz.func143,Tryz.ntmps143
  go_wp2_with (first|(go_at_call 48;refine(HC).mono ?_;rintro e w1 ⟨rfl,hb1⟩))
  go_ret2
  exact⟨rfl,hb1⟩
 ·have HC:=mh hc
  clear hc h c e e2
  go_enter Tryz.func143,Tryz.ntmps143
  go_wp2_with (first|(go_at_call 48;refine(HC).mono ?_;rintro e w1 ⟨rfl,hb1⟩)|(go_at_call 181;refine(gQ _ _).mono ?_;rintro e w' ⟨rfl,rfl⟩))
  go_ret2
  exact⟨rfl,hb1⟩
 ·have HC:=mh hc
  clear hc h c e e2
  go_enter Tryz.func143,Tryz.ntmps143
  go_wp2_with (first|(go_at_call 48;refine(HC).mono ?_;rintro e w1 ⟨rfl,hb1⟩)|(go_at_call 181;refine(gQ _ _).mono ?_;rintro e w' ⟨rfl,rfl⟩))
  go_ret2
  exact⟨rfl,hb1⟩
 ·have HC:=mh hc
  have H:=mh h;have d0:=Re.area_iff.1 h1;have f0:=Re.area_iff.1 h2;have h6:=hR.len
  by_cases hdf:d≤f
  ·have hp:Re.paid D d f=d:=by unfold Re.paid;rw[if_pos hdf]
   rw[hp];clear hc h c e e2 hp hR
   go_enter Tryz.func143,Tryz.ntmps143
   go_wp2_with (first|(go_at_call 48;refine(HC).mono ?_;rintro e w1 ⟨rfl,hb1⟩)|(go_at_call 181;refine(gQ _ _).mono ?_;rintro e w' ⟨rfl,rfl⟩))
   go_ret2
   exact⟨rfl,hb1⟩
  have hs:=fun (W:World) (hP:jF W p D)=>vXA p D cap d f W hP hR d0 f0
  rcases Re.step_spec (l:=D) (d:=d) (f:=f) with⟨es, -⟩|⟨n,es,hn, -, -⟩
  ·have hp:Re.paid D d f=f:=by unfold Re.paid;rw[if_neg hdf,if_pos (by omega)]
   rw[hp];rw[es]at hs;have HS:=mh hs;clear hc h c e e2 hp hs es hR
   go_enter Tryz.func143,Tryz.ntmps143
   go_wp2_with (first|(go_at_call 48;refine(HC).mono ?_;rintro e w1 ⟨rfl,hb1⟩)|(go_at_call 181;refine(gQ _ _).mono ?_;rintro e w' ⟨rfl,rfl⟩)|(go_at_call 182;refine(HS _ (H.below hb1)).mono ?_;rintro e w' ⟨rfl,rfl⟩))
   go_ret2
   exact⟨rfl,hb1⟩
  ·obtain⟨b,off,x,y,rfl,hbl,hx,hy,hxy⟩:=H.get hn
   have ht:=ti_eq hxy.out;rw[es]at hs;have HS:=mh hs;have hn0:(0:Int)≤(n:Int):=inn _;have hn1:(n:Int)<(D.length:Int):=by omega
   have hnB:decide ((n:Int)<0)=false:=dqf (by omega)
   by_cases hy1:y = -1
   ·have hp:Re.paid D d f=0:=by unfold Re.paid;rw[if_neg hdf,if_neg (by omega),es,Int.toNat_natCast,ht,if_pos hy1]
    rw[hp];have hyB:(y == -1)=true:=beq_iff_eq.2 hy1;clear hc h c e e2 hp hs es hR ht hy1
    go_enter Tryz.func143,Tryz.ntmps143
    go_wp2_with (first|(go_at_call 48;refine HC.mono ?_;rintro e w1 ⟨rfl,hb1⟩;have hy2:=(hb1.cell (p:=⟨b,off+n*2+1,none⟩) hbl).trans hy)|(go_at_call 181;refine(gQ _ _).mono ?_;rintro e w' ⟨rfl,rfl⟩)|(go_at_call 182;refine(HS _ (H.below hb1)).mono ?_;rintro e w' ⟨rfl,rfl⟩))
    go_ret2
    exact⟨rfl,hb1⟩
   ·have hp:Re.paid D d f=max 0 (f - y*(d - f)):=by unfold Re.paid;rw[if_neg hdf,if_neg (by omega),es,Int.toNat_natCast,ht,if_neg hy1]
    rw[hp];have hyB:(y == -1)=false:=beq_eq_false_iff_ne.2 hy1;have hyb:0≤y∧y≤10:=by
     have:=hR.ti0 hn;rw[ht]at this;omega
    have m0:0≤y*(d - f):=Int.mul_nonneg hyb.1 (by omega);have m1:y*(d - f)≤10*268435456:=Int.mul_le_mul hyb.2 (by omega) (by omega) (by omega);have hwd:IntKind.i64.wrap (d - f)=d - f:=by rw[IntKind.wrap_i64];omega
    obtain⟨M,hM⟩:∃M,y*(d - f)=M:=⟨_,rfl⟩;have hwm:IntKind.i64.wrap (y*(d - f))=M:=by rw[hM]at m0 m1 ⊢;rw[IntKind.wrap_i64];omega
    rw[hM]at m0 m1 ⊢;have hws:IntKind.i64.wrap (f - M)=f - M:=by rw[IntKind.wrap_i64];omega
    clear hc h c e e2 hp hs es hR ht hM
    go_enter Tryz.func143,Tryz.ntmps143
    go_wp2_with (first|(go_at_call 48;refine HC.mono ?_;rintro e w1 ⟨rfl,hb1⟩;have hy2:=(hb1.cell (p:=⟨b,off+n*2+1,none⟩) hbl).trans hy)|(go_at_call 181;refine(gQ _ _).mono ?_;rintro e w' ⟨rfl,rfl⟩)|(go_at_call 182;refine(HS _ (H.below hb1)).mono ?_;rintro e w' ⟨rfl,rfl⟩))
    go_ret2
    exact⟨rfl,hb1⟩
open Te
theorem lC (n:Int)(h0:0≤n)(h1:n≤1125899906842624)(w:World):Calls Tryz.prog 183 #[I O n,I O 100] w fun e w' => e = .returned (I O (n / 100))∧w=w' :=by
 have FT:∀W,Calls Tryz.prog 212 #[I O n,I O 100] W fun e w' => e = .returned (.bool true)∧W=w' := fun W=>by
  have g:¬n < -1125899906842624:=by omega
  have g2:(-1125899906842624:Int)≤n:=by omega
  go_enter Tryz.func212,Tryz.ntmps212
  go_wp2
  go_ret
  exact⟨rfl,rfl⟩
 have FT:=mh FT;have hq:n.tdiv 100=n / 100:=Int.tdiv_eq_ediv_of_nonneg h0;have hr:n.tmod 100=n % 100:=Int.tmod_eq_emod_of_nonneg h0;have hr2:¬n % 100<0:=by omega
 go_enter Tryz.func183,Tryz.ntmps183
 go_wp2_with (first|(go_at_call 212;(with_reducible refine cmo (FT.out _) ?_);rintro e w1 ⟨rfl,rfl⟩))
 go_ret
 exact⟨rfl,rfl⟩
theorem cM (n:Int)(h0:0≤n)(h1:n≤1125899906842624)(w:World):Calls Tryz.prog 150 #[I O n,I O 100] w fun e w' => e = .returned (I O (n / 100))∧w=w' :=by
 have FT:∀W,Calls Tryz.prog 188 #[I O n,I O 100] W fun e w' => e = .returned (.bool true)∧W=w' := fun W=>by
  have g2:(-1125899906842624:Int)≤n:=by omega
  go_enter Tryz.func188,Tryz.ntmps188
  go_wp2
  go_ret
  exact⟨rfl,rfl⟩
 have FT:=mh FT;have hr2:¬n<n / 100*100:=by omega
 go_enter Tryz.func150,Tryz.ntmps150
 go_wp2_with (first|(go_at_call 188;(with_reducible refine cmo (FT.out _) ?_);rintro e w1 ⟨rfl,rfl⟩))
 go_ret
 exact⟨rfl,rfl⟩
open Sc
theorem gBA {s:Sch}(h:zY s=0):brB s.br=true:=by
 unfold zY at h
 split at h
 ·cases h
 split at h
 ·cases h
 split at h
 ·rename_i h1;exact absurd h h1
 split at h
 ·cases h
 ·rename_i h1
  cases e:brB s.br
  ·exact absurd (.inl e) h1
  ·rfl
theorem nB {l:List Brk}{sq:Int}{k:Nat}(hk:k<l.length):amt l sq (k+1)=amt l sq k+max 0 (min sq l[k].up - upB l k)*l[k].rate:=by
 show amt l sq k+(match l[k]? with|some b=>max 0 (min sq b.up - upB l k)*b.rate|none=>0)=_
 rw[List.getElem?_eq_getElem hk]
theorem gJ {l:List Brk}{k:Nat}(hk:k<l.length)(h:yD l (k+1)=true):upB l k<l[k].up∧l[k].up≤268435456∧0≤l[k].rate∧l[k].rate≤1048576∧0≤upB l k:=by
 have h2:=h;rw[xS,Bool.and_eq_true]at h2;have h3:=h2.2;rw[wX hk,Bool.and_eq_true,Bool.and_eq_true,Bool.and_eq_true,decide_eq_true_eq,decide_eq_true_eq,decide_eq_true_eq,decide_eq_true_eq]at h3;exact⟨h3.1,h3.2.1,h3.2.2.1,h3.2.2.2,fM (by omega) h2.1⟩
theorem rF {a b r:Int}(h0:0≤a)(h1:a≤b)(h2:0≤r)(h3:r≤1048576):0≤a*r∧a*r≤1048576*b:=by
 refine⟨Int.mul_nonneg h0 h2,?_⟩
 have e1:a*r≤a*1048576:=Int.mul_le_mul_of_nonneg_left h3 h0;omega
theorem vSA {l:List Brk}{sq:Int}{k:Nat}(hk:k≤l.length)(h:yD l k=true):0≤amt l sq k∧amt l sq k≤1048576*upB l k:=by
 induction k with
 | zero=>exact⟨Int.le_refl _,by unfold upB;simp[amt]⟩
 | succ k ih =>
   have hk' : k<l.length:=by omega
   have h1:=ih (by omega) (yX (Nat.le_succ k) h);obtain⟨b1,b2,b3,b4,b5⟩:=gJ hk' h;rw[nB hk', kK hk'];have h2:=rF (a:=max 0 (min sq l[k].up - upB l k)) (b:=l[k].up - upB l k) (by omega) (by omega) b3 b4;omega
theorem uKA {l:List Brk}{k:Nat}(hk:k≤l.length)(h:yD l k=true):upB l k≤268435456:=by
 cases k with
 | zero=>unfold upB;simp
 | succ k=>rw[kK (by omega)];exact(gJ (by omega) h).2.1
theorem wQ {s:Sch}{sq:Int}(h:zY s=0)(h0:0≤sq)(h1:sq≤268435456):kS s sq=0:=by
 unfold kS;rw[if_neg (by omega),if_neg (by omega)]
theorem wJ {s:Sch}{sq:Int}(h:kS s sq≠0):uK s sq=0:=by unfold uK;rw[if_pos h]
theorem yVA {s:Sch}{sq:Int}(h:kS s sq=0):uK s sq=amt s.br sq s.br.length / 100:=by unfold uK;rw[if_neg (by omega)]
theorem tS {Q:Nat→Prop}(d:Nat)(r:RSx)(s:Sch)(sq:Int)(w:World)(h:SV Q w d r s)(hz:r.nm.size≤9223372036854775807) :
  Calls Tryz.prog 144 #[.agg #[I O r.num,.string r.nm,I O r.t.op,I O r.t.num,I O r.t.more,.slice r.t.p r.t.n r.t.c,.slice r.bp r.bn r.bc,I O r.least,I O r.ex,.bool r.needs],I O sq] w (lQ (uK s sq,kS s sq) w):=by
 have CV:=mh (tN d r s _ (h.below (qK mle (brf _ _) (.cells (zN r).toArray 81))) hz);have HR:=mh h.br;have HN:=h.bn;clear h hz;obtain⟨num,nm,⟨o,tn,tm,tp,tl,tc⟩,bp,bn,bc,least,ex,needs⟩:=r;simp only[zN]at CV;simp only at HR HN;have HA:=mh (qK mle (brf w.heap.size w) (.cells #[I O num,.string nm,I O o,I O tn,I O tm,.slice tp tl tc,.slice bp bn bc,I O least,I O ex,.bool needs] 81));subst HN;obtain⟨v,ev⟩:∃v,zY s=v:=⟨_,rfl⟩;rw[ev]at CV;obtain⟨cv,ecv⟩:∃v,(uK s sq,kS s sq)=v:=⟨_,rfl⟩;rw[ecv];have ECV:=mh ecv;have EV:=mh ev;clear ecv ev
 by_cases hv0:v=0
 rotate_left
 ·have HV:=mh (show cv=(0,17) from by
   have e:kS s sq=17:=by unfold kS;rw[if_pos (by rw[EV.out];exact hv0)]
   rw[← ECV.out,e,wJ (by rw[e];decide)])
  have hne:(v != 0)=true:=by simpa using hv0
  clear hv0
  go_enter Tryz.func144,Tryz.ntmps144
  go_wp2_with (first|(go_at_call 84;(with_reducible refine cmo CV.out ?_);rintro e w1 ⟨rfl,hb1⟩;have HB1:=mh (qZ mle HA hb1);have k1:=qJ hb1 6;clear hb1))
  go_ret2
  exact⟨by rw[HV.out];rfl,HB1.out⟩
 subst hv0
 by_cases hs:sq<0∨268435456<sq
 ·have HV:=mh (show cv=(0,2) from by
   have e:kS s sq=2:=by unfold kS;rw[if_neg (by rw[EV.out];decide),if_pos hs]
   rw[← ECV.out,e,wJ (by rw[e];decide)])
  have HS:=mh hs;clear hs
  by_cases h0:sq<0
  ·go_enter Tryz.func144,Tryz.ntmps144
   go_wp2_with (first|(go_at_call 84;(with_reducible refine cmo CV.out ?_);rintro e w1 ⟨rfl,hb1⟩;have HB1:=mh (qZ mle HA hb1);have k1:=qJ hb1 6;clear hb1))
   go_ret2
   exact⟨by rw[HV.out];rfl,HB1.out⟩
  ·have h1:268435456<sq:=by have:=HS.out;omega
   go_enter Tryz.func144,Tryz.ntmps144
   go_wp2_with (first|(go_at_call 84;(with_reducible refine cmo CV.out ?_);rintro e w1 ⟨rfl,hb1⟩;have HB1:=mh (qZ mle HA hb1);have k1:=qJ hb1 6;clear hb1))
   go_ret2
   exact⟨by rw[HV.out];rfl,HB1.out⟩
 have hs0:0≤sq:=by omega
 have hs1:sq≤268435456:=by omega
 have HV:=mh (show cv=(amt s.br sq s.br.length / 100,0) from by rw[← ECV.out,wQ EV.out hs0 hs1,yVA (wQ EV.out hs0 hs1)]);have HBR:=mh (gBA EV);have BA:=mh (show yD s.br s.br.length=true from by have:=HBR.out;unfold brB at this;rw[Bool.and_eq_true]at this;exact this.1);clear hs;obtain⟨l,el⟩:∃l,s.br=l:=⟨_,rfl⟩;rw[el]at HR HV BA CV HA ⊢;have hlen:=HR.len;clear el HBR
 go_enter Tryz.func144,Tryz.ntmps144
 go_wp2_with (first|(go_at_call 84;(with_reducible refine cmo CV.out ?_);rintro e w1 ⟨rfl,hb1⟩;have HB1:=mh (qZ mle HA hb1);have k1:=qJ hb1 6;clear hb1))
 go_loopw [6,7,22] (fun a b i wr=>∃k:Nat,k≤l.length∧i=I O k∧a=I O (amt l sq k)∧b=I O (upB l k)∧Below w.heap.size w wr) (fun _ _ i _=>l.length - (intOf i).toNat)
 case atStart=>exact⟨0,Nat.zero_le _,rfl,rfl,by unfold upB;simp,HB1.out⟩
 case round =>
  obtain⟨wo,rfl⟩:∃wo:World,wo=wr:=⟨_,rfl⟩;obtain⟨k,hk,rfl,rfl,rfl,hb⟩:=hrel;have HB:=mh hb;have hk0:(0:Int)≤(k:Int):=inn _;have AL:=vSA (sq:=sq) hk (yX hk BA);have UL:=uKA hk (yX hk BA)
  by_cases hlt:k<l.length
  ·have hk1:(k:Int)<(l.length:Int):=by omega
   obtain⟨b,off,x,rfl,hbl,x0,x1,hx⟩:=dH (HR.below hb) hlt;have BR:=gJ hlt (yX (by omega) BA);have AS:=nB (sq:=sq) hlt;have US:=kK hlt;rw[hx.out]at BR AS US;obtain⟨up,rate⟩:=x;simp only at x0 x1 BR AS US;obtain⟨b1,b2,b3,b4,b5⟩:=BR;obtain⟨last,elast⟩:∃x,upB l k=x:=⟨_,rfl⟩;obtain⟨sum,esum⟩:∃x,amt l sq k=x:=⟨_,rfl⟩;rw[elast]at b1 b5 AL AS UL ⊢;rw[esum]at AL AS ⊢;obtain⟨l0,l1⟩:=AL;have pl:=rF (a:=max 0 (min sq up - last)) (b:=up - last) (by omega) (by omega) b3 b4;obtain⟨X,eX⟩:∃X,max 0 (min sq up - last)*rate=X:=⟨_,rfl⟩;rw[eX]at pl AS;have AS0:=mh AS;clear AS;have US0:=mh US;clear US;have hwX:IntKind.i64.wrap (max 0 (min sq up - last)*rate)=X:=by rw[eX,IntKind.wrap_i64];omega
   have hwd:IntKind.i64.wrap (min sq up - last)=min sq up - last:=by rw[IntKind.wrap_i64];omega
   have pl0:=pl.1;have pl1:X≤1125899906842624:=by omega
   have l1' : sum≤1125899906842624:=by omega
   have HBJ:=mh (qK mle hb (.cells #[I O up,I O rate] 78));clear hb hx elast esum eX pl l1 b1 b2 b3 b4 b5 UL
   go_wp2
   go_roundw
   case rel=>exact⟨k+1,by omega,by go_num,by rw[AS0.out],by rw[US0.out],HBJ.out⟩
   case measure=>simp[intOf];omega
  ·obtain rfl:k=l.length:=by omega
   have h0:0≤amt l sq l.length:=AL.1;have h1:amt l sq l.length≤1125899906842624:=by omega
   have DN:=mh (lC (amt l sq l.length) h0 h1 wo);clear hb AL UL h0 h1
   go_wp2_with (first|(go_at_call 183;(with_reducible refine cmo DN.out ?_);rintro e w1 ⟨rfl,rfl⟩))
   go_ret2
   exact⟨by rw[HV.out];rfl,HB.out⟩
theorem nV {Q:Nat→Prop}(d:Nat)(r:RSx)(s:Sch)(sq:Int)(w:World)(h:SV Q w d r s)(hz:r.nm.size≤9223372036854775807)(hc:count s.cond≤1099511627776) :
  Calls Tryz.prog 103 #[.agg #[I O r.num,.string r.nm,I O r.t.op,I O r.t.num,I O r.t.more,.slice r.t.p r.t.n r.t.c,.slice r.bp r.bn r.bc,I O r.least,I O r.ex,.bool r.needs],I O sq] w (lQ (uK s sq,kS s sq) w):=by
 have CV:=mh (cC d r s _ (h.below (qK mle (brf _ _) (.cells (zN r).toArray 81))) hz hc);have HR:=mh h.br;have HN:=h.bn;clear h hz hc;obtain⟨num,nm,⟨o,tn,tm,tp,tl,tc⟩,bp,bn,bc,least,ex,needs⟩:=r;simp only[zN]at CV;simp only at HR HN;have HA:=mh (qK mle (brf w.heap.size w) (.cells #[I O num,.string nm,I O o,I O tn,I O tm,.slice tp tl tc,.slice bp bn bc,I O least,I O ex,.bool needs] 81));subst HN;obtain⟨v,ev⟩:∃v,zY s=v:=⟨_,rfl⟩;rw[ev]at CV;obtain⟨cv,ecv⟩:∃v,(uK s sq,kS s sq)=v:=⟨_,rfl⟩;rw[ecv];have ECV:=mh ecv;have EV:=mh ev;clear ecv ev
 by_cases hv0:v=0
 rotate_left
 ·have HV:=mh (show cv=(0,17) from by
   have e:kS s sq=17:=by unfold kS;rw[if_pos (by rw[EV.out];exact hv0)]
   rw[← ECV.out,e,wJ (by rw[e];decide)])
  have hne:(v != 0)=true:=by simpa using hv0
  clear hv0
  go_enter Tryz.func103,Tryz.ntmps103
  go_wp2_with (first|(go_at_call 89;(with_reducible refine cmo CV.out ?_);rintro e w1 ⟨rfl,hb1⟩;have HB1:=mh (qZ mle HA hb1);have k1:=qJ hb1 6;clear hb1))
  go_ret2
  exact⟨by rw[HV.out];rfl,HB1.out⟩
 subst hv0
 by_cases hs:sq<0∨268435456<sq
 ·have HV:=mh (show cv=(0,2) from by
   have e:kS s sq=2:=by unfold kS;rw[if_neg (by rw[EV.out];decide),if_pos hs]
   rw[← ECV.out,e,wJ (by rw[e];decide)])
  have HS:=mh hs;clear hs
  by_cases h0:sq<0
  ·go_enter Tryz.func103,Tryz.ntmps103
   go_wp2_with (first|(go_at_call 89;(with_reducible refine cmo CV.out ?_);rintro e w1 ⟨rfl,hb1⟩;have HB1:=mh (qZ mle HA hb1);have k1:=qJ hb1 6;clear hb1))
   go_ret2
   exact⟨by rw[HV.out];rfl,HB1.out⟩
  ·have h1:268435456<sq:=by have:=HS.out;omega
   go_enter Tryz.func103,Tryz.ntmps103
   go_wp2_with (first|(go_at_call 89;(with_reducible refine cmo CV.out ?_);rintro e w1 ⟨rfl,hb1⟩;have HB1:=mh (qZ mle HA hb1);have k1:=qJ hb1 6;clear hb1))
   go_ret2
   exact⟨by rw[HV.out];rfl,HB1.out⟩
 have hs0:0≤sq:=by omega
 have hs1:sq≤268435456:=by omega
 have HV:=mh (show cv=(amt s.br sq s.br.length / 100,0) from by rw[← ECV.out,wQ EV.out hs0 hs1,yVA (wQ EV.out hs0 hs1)]);have HBR:=mh (gBA EV);have BA:=mh (show yD s.br s.br.length=true from by have:=HBR.out;unfold brB at this;rw[Bool.and_eq_true]at this;exact this.1);clear hs;obtain⟨l,el⟩:∃l,s.br=l:=⟨_,rfl⟩;rw[el]at HR HV BA CV HA ⊢;have hlen:=HR.len;clear el HBR
 go_enter Tryz.func103,Tryz.ntmps103
 go_wp2_with (first|(go_at_call 89;(with_reducible refine cmo CV.out ?_);rintro e w1 ⟨rfl,hb1⟩;have HB1:=mh (qZ mle HA hb1);have k1:=qJ hb1 6;clear hb1))
 go_loopw [6,7,22] (fun a b i wr=>∃k:Nat,k≤l.length∧i=I O k∧a=I O (amt l sq k)∧b=I O (upB l k)∧Below w.heap.size w wr) (fun _ _ i _=>l.length - (intOf i).toNat)
 case atStart=>exact⟨0,Nat.zero_le _,rfl,rfl,by unfold upB;simp,HB1.out⟩
 case round =>
  obtain⟨wo,rfl⟩:∃wo:World,wo=wr:=⟨_,rfl⟩;obtain⟨k,hk,rfl,rfl,rfl,hb⟩:=hrel;have HB:=mh hb;have hk0:(0:Int)≤(k:Int):=inn _;have AL:=vSA (sq:=sq) hk (yX hk BA);have UL:=uKA hk (yX hk BA)
  by_cases hlt:k<l.length
  ·have hk1:(k:Int)<(l.length:Int):=by omega
   obtain⟨b,off,x,rfl,hbl,x0,x1,hx⟩:=dH (HR.below hb) hlt;have BR:=gJ hlt (yX (by omega) BA);have AS:=nB (sq:=sq) hlt;have US:=kK hlt;rw[hx.out]at BR AS US;obtain⟨up,rate⟩:=x;simp only at x0 x1 BR AS US;obtain⟨b1,b2,b3,b4,b5⟩:=BR;obtain⟨last,elast⟩:∃x,upB l k=x:=⟨_,rfl⟩;obtain⟨sum,esum⟩:∃x,amt l sq k=x:=⟨_,rfl⟩;rw[elast]at b1 b5 AL AS UL ⊢;rw[esum]at AL AS ⊢;obtain⟨l0,l1⟩:=AL;have pl:=rF (a:=max 0 (min sq up - last)) (b:=up - last) (by omega) (by omega) b3 b4;obtain⟨X,eX⟩:∃X,max 0 (min sq up - last)*rate=X:=⟨_,rfl⟩;rw[eX]at pl AS;have AS0:=mh AS;clear AS;have US0:=mh US;clear US;have hwX:IntKind.i64.wrap (max 0 (min sq up - last)*rate)=X:=by rw[eX,IntKind.wrap_i64];omega
   have hwd:IntKind.i64.wrap (min sq up - last)=min sq up - last:=by rw[IntKind.wrap_i64];omega
   have pl0:=pl.1;have pl1:X≤1125899906842624:=by omega
   have l1' : sum≤1125899906842624:=by omega
   have HBJ:=mh (qK mle hb (.cells #[I O up,I O rate] 78));clear hb hx elast esum eX pl l1 b1 b2 b3 b4 b5 UL
   go_wp2
   go_roundw
   case rel=>exact⟨k+1,by omega,by go_num,by rw[AS0.out],by rw[US0.out],HBJ.out⟩
   case measure=>simp[intOf];omega
  ·obtain rfl:k=l.length:=by omega
   have h0:0≤amt l sq l.length:=AL.1;have h1:amt l sq l.length≤1125899906842624:=by omega
   have DN:=mh (cM (amt l sq l.length) h0 h1 wo);clear hb AL UL h0 h1
   go_wp2_with (first|(go_at_call 150;(with_reducible refine cmo DN.out ?_);rintro e w1 ⟨rfl,rfl⟩))
   go_ret2
   exact⟨by rw[HV.out];rfl,HB.out⟩
end Go.Proofs.YtefcalgjnkigjaaGreat
