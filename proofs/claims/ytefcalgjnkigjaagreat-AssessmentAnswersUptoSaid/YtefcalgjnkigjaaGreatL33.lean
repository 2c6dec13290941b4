/- Packed. -/
import Derived.Test.YtefcalgjnkigjaaGreatL32
set_option maxRecDepth 100000
set_option maxHeartbeats 8000000
open Go.Value renaming int → I
open Go.IntKind renaming i64 → O
namespace Go.Proofs.YtefcalgjnkigjaaGreat
open Go.RowKit Sc As
def As.AwG (l:YLaw) (f:FarmF) (k:Nat) (s:Sch) (w:World) (e:Ending) (w' : World):Prop :=
 e = .returned (.tuple #[.agg (tB (uF l f k s)).toArray,.bool (kM s f.lines)])∧Below w.heap.size w w'
theorem yA.below {w w' : World}{b o B:Nat}{r:RSx}(h:yA w b o r)(hb:Below B w w')(hB:b<B):yA w' b o r:=by
 have c:∀i,w'.cell? ⟨b,i,none⟩=w.cell? ⟨b,i,none⟩:=fun i=>hb.cell (p:=⟨b,i,none⟩) hB
 exact⟨(c _).trans h.c0,(c _).trans h.c1,(c _).trans h.c2,(c _).trans h.c3,(c _).trans h.c4,(c _).trans h.c5,(c _).trans h.c6,(c _).trans h.c7,(c _).trans h.c8,(c _).trans h.c9⟩
structure AwI (w W:World) (b0:Nat) (ya fa:Array Value):Prop where
 bl:Blk W b0 ya 29
 bf:Blk W (b0+1) fa 47
 br:Blk W (b0+1+1) #[I O 0,I O 0,I O 0,I O 0,I O 0,I O 0,I O 0,I O 0,I O 0] 91
 low:Below w.heap.size w W
 e:w.heap.size=b0
theorem AwI.below {w W W' : World}{b0:Nat}{ya fa:Array Value}(h:AwI w W b0 ya fa)(hb:Below W.heap.size W W'):AwI w W' b0 ya fa:=⟨h.bl.below hb,h.bf.below hb,h.br.below hb,h.low.trans (hb.mono h.low.size),h.e⟩
structure AwJ (w W:World) (b0:Nat) (ya fa sa oa:Array Value):Prop where
 ai:AwI w W b0 ya fa
 bs:Blk W (b0+3) sa 81
 bo:Blk W (b0+3+1) oa 91
theorem AwJ.below {w W W' : World}{b0:Nat}{ya fa sa oa:Array Value}(h:AwJ w W b0 ya fa sa oa)(hb:Below W.heap.size W W'):AwJ w W' b0 ya fa sa oa:=⟨h.ai.below hb,h.bs.below hb,h.bo.below hb⟩
theorem AwJ.put {w W:World}{b0:Nat}{ya fa sa oa:Array Value}(h:AwJ w W b0 ya fa sa oa)(i:Nat)(u:Value):AwJ w (W.setCell ⟨b0+3+1,i,none⟩ u) b0 ya fa sa (oa.setIfInBounds i u) :=
 ⟨⟨h.ai.bl.far (by omega) _,h.ai.bf.far (by omega) _,h.ai.br.far (by omega) _,h.ai.low.setCell (p:=⟨b0+3+1,i,none⟩) (by have:=h.ai.e;show _≤b0+3+1;omega) _,h.ai.e⟩,h.bs.far (by omega) _,h.bo.set i u⟩
theorem Blk.put9 {wr:World}{g:Nat}{z0 z1 z2 z3 z4 z5 z6 z7 z8:Value}{T:TypeId}(h:Blk wr g #[z0,z1,z2,z3,z4,z5,z6,z7,z8] T)(u0 u1 u2 u3 u4 u5 u6 u7 u8:Value):Blk (((((((((wr.setCell ⟨g,0,none⟩ u0).setCell ⟨g,1,none⟩ u1).setCell ⟨g,2,none⟩ u2).setCell ⟨g,3,none⟩ u3).setCell ⟨g,4,none⟩ u4).setCell ⟨g,5,none⟩ u5).setCell ⟨g,6,none⟩ u6).setCell ⟨g,7,none⟩ u7).setCell ⟨g,8,none⟩ u8) g #[u0,u1,u2,u3,u4,u5,u6,u7,u8] T:=by
 have a0:Blk _ g #[u0,z1,z2,z3,z4,z5,z6,z7,z8] T:=h.set 0 u0;have a1:Blk _ g #[u0,u1,z2,z3,z4,z5,z6,z7,z8] T:=a0.set 1 u1;have a2:Blk _ g #[u0,u1,u2,z3,z4,z5,z6,z7,z8] T:=a1.set 2 u2;have a3:Blk _ g #[u0,u1,u2,u3,z4,z5,z6,z7,z8] T:=a2.set 3 u3;have a4:Blk _ g #[u0,u1,u2,u3,u4,z5,z6,z7,z8] T:=a3.set 4 u4;have a5:Blk _ g #[u0,u1,u2,u3,u4,u5,z6,z7,z8] T:=a4.set 5 u5;have a6:Blk _ g #[u0,u1,u2,u3,u4,u5,u6,z7,z8] T:=a5.set 6 u6;have a7:Blk _ g #[u0,u1,u2,u3,u4,u5,u6,u7,z8] T:=a6.set 7 u7;exact a7.set 8 u8
theorem Below.put9 {w wr:World}{B g:Nat}(h:Below B w wr)(hg:B≤g)(u0 u1 u2 u3 u4 u5 u6 u7 u8:Value):Below B w (((((((((wr.setCell ⟨g,0,none⟩ u0).setCell ⟨g,1,none⟩ u1).setCell ⟨g,2,none⟩ u2).setCell ⟨g,3,none⟩ u3).setCell ⟨g,4,none⟩ u4).setCell ⟨g,5,none⟩ u5).setCell ⟨g,6,none⟩ u6).setCell ⟨g,7,none⟩ u7).setCell ⟨g,8,none⟩ u8):=(((((((((h.setCell (p:=⟨g,0,none⟩) hg u0).setCell (p:=⟨g,1,none⟩) hg u1).setCell (p:=⟨g,2,none⟩) hg u2).setCell (p:=⟨g,3,none⟩) hg u3).setCell (p:=⟨g,4,none⟩) hg u4).setCell (p:=⟨g,5,none⟩) hg u5).setCell (p:=⟨g,6,none⟩) hg u6).setCell (p:=⟨g,7,none⟩) hg u7).setCell (p:=⟨g,8,none⟩) hg u8)
theorem cG {Q Q2:Nat→Prop}(d:Nat)(r:RY)(l:YLaw)(rf:RF)(f:FarmF)(k:Nat)(w:World)(hY:YV Q w d r l)(hF:FV Q2 w rf f)(hl:YOk l)(hx:∀x∈f.lines,vX l x)(hd:jZ f.lines≤268435456)(hd0:0≤f.day)(hd1:f.day≤36864)(h20:f.lines.length≤20)(hk:k<l.sch.length) :
  Calls Tryz.prog 65 #[.agg (yCells r).toArray,.agg (fCells rf).toArray,I O k] w (As.AwG l f k l.sch[k] w):=by
 have hsn:=hY.sn;obtain⟨b,off,y,esp,hbl,hsc,hv⟩:=hY.sch.at hk;have HV:=mh hv;have HY:=mh hY;have HF:=mh hF;have HL:=mh hl;have HX:=mh hx;have e1:=hF.farm;have e2:=hF.day;have e3:=hF.ln;have n1:=hv.num;obtain⟨s,es⟩:∃s,l.sch[k]=s:=⟨_,rfl⟩;rw[es]at HV n1 ⊢;have HNUM:=mh (show 0≤s.num∧s.num≤15 from es▸YOk.num HL.out _ (List.getElem_mem hk));have HS:=mh (show l.sch[k]?=some s by rw[List.getElem?_eq_getElem hk,es]);have hk0:(0:Int)≤(k:Int):=inn _;have hk1:(k:Int)<(r.sn:Int):=by omega
 have HK:=mh hk;have HSZ:=mh (show y.nm.size≤9223372036854775807 by rw[hv.nm];exact hY.small _ (List.getElem_mem hk));have HCT:=mh (show Te.count s.cond≤1099511627776 from es▸hY.terms _ (List.getElem_mem hk));have HONE:=mh (show zY s=0 from hl.one (HS.out));clear hY hF hl hx es hk hv hsn;obtain⟨sp,sn,sc,tp,tn,tc,ldue,llast,lmille,gp,gn,gc,cp,ev,un,wd⟩:=r;obtain⟨ff,fd,lp,ln,lc⟩:=rf;obtain⟨num,nm,⟨o,tn2,tm,tq,tl,tz⟩,bp,bn,bc,least,exs,needs⟩:=y;simp only at e1 e2 e3 n1 esp hk1 hsc;subst esp e1 e2 e3 n1;simp only[yCells,fCells];obtain⟨b0,eb0⟩:∃n,w.heap.size=n:=⟨_,rfl⟩
 have M1:=mh (show AwI w (((w.alloc (.cells #[.slice (some ⟨b,off,none⟩) sn sc,.slice tp tn tc,I O ldue,I O llast,I O lmille,.slice gp gn gc,I O cp,I O ev,I O un,I O wd] 29)).alloc (.cells #[I O f.farm,I O f.day,.slice lp f.lines.length lc] 47)).alloc (.cells #[I O 0,I O 0,I O 0,I O 0,I O 0,I O 0,I O 0,I O 0,I O 0] 91)) b0 #[.slice (some ⟨b,off,none⟩) sn sc,.slice tp tn tc,I O ldue,I O llast,I O lmille,.slice gp gn gc,I O cp,I O ev,I O un,I O wd] #[I O f.farm,I O f.day,.slice lp f.lines.length lc] from by
  subst eb0;have h1:=(brf w.heap.size w).alloc mle (.cells #[.slice (some ⟨b,off,none⟩) sn sc,.slice tp tn tc,I O ldue,I O llast,I O lmille,.slice gp gn gc,I O cp,I O ev,I O un,I O wd] 29);have h2:=(brf (w.alloc (.cells #[.slice (some ⟨b,off,none⟩) sn sc,.slice tp tn tc,I O ldue,I O llast,I O lmille,.slice gp gn gc,I O cp,I O ev,I O un,I O wd] 29)).heap.size _).alloc mle (.cells #[I O f.farm,I O f.day,.slice lp f.lines.length lc] 47);have h3:=(brf ((w.alloc (.cells #[.slice (some ⟨b,off,none⟩) sn sc,.slice tp tn tc,I O ldue,I O llast,I O lmille,.slice gp gn gc,I O cp,I O ev,I O un,I O wd] 29)).alloc (.cells #[I O f.farm,I O f.day,.slice lp f.lines.length lc] 47)).heap.size _).alloc mle (.cells #[I O 0,I O 0,I O 0,I O 0,I O 0,I O 0,I O 0,I O 0,I O 0] 91);have e2:(w.alloc (.cells #[.slice (some ⟨b,off,none⟩) sn sc,.slice tp tn tc,I O ldue,I O llast,I O lmille,.slice gp gn gc,I O cp,I O ev,I O un,I O wd] 29)).heap.size=w.heap.size+1:=World.size_alloc _ _;have e3:((w.alloc (.cells #[.slice (some ⟨b,off,none⟩) sn sc,.slice tp tn tc,I O ldue,I O llast,I O lmille,.slice gp gn gc,I O cp,I O ev,I O un,I O wd] 29)).alloc (.cells #[I O f.farm,I O f.day,.slice lp f.lines.length lc] 47)).heap.size=w.heap.size+1+1:=by rw[World.size_alloc,World.size_alloc]
  exact⟨((Blk.new w _ _).below h2).below h3,e2▸(Blk.new _ _ _).below h3,e3▸Blk.new _ _ _,h1.trans ((h2.mono (by omega)).trans (h3.mono (by omega))),rfl⟩)
 have M1s:(((w.alloc (.cells #[.slice (some ⟨b,off,none⟩) sn sc,.slice tp tn tc,I O ldue,I O llast,I O lmille,.slice gp gn gc,I O cp,I O ev,I O un,I O wd] 29)).alloc (.cells #[I O f.farm,I O f.day,.slice lp f.lines.length lc] 47)).alloc (.cells #[I O 0,I O 0,I O 0,I O 0,I O 0,I O 0,I O 0,I O 0,I O 0] 91)).heap.size=b0+3:=by rw[World.size_alloc,World.size_alloc,World.size_alloc,eb0]
 have hbl0:b<b0:=by omega
 go_enter Tryz.func65,Tryz.ntmps65
 go_upto_region 1 with fail
 generalize (((w.alloc (.cells #[.slice (some ⟨b,off,none⟩) sn sc,.slice tp tn tc,I O ldue,I O llast,I O lmille,.slice gp gn gc,I O cp,I O ev,I O un,I O wd] 29)).alloc (.cells #[I O f.farm,I O f.day,.slice lp f.lines.length lc] 47)).alloc (.cells #[I O 0,I O 0,I O 0,I O 0,I O 0,I O 0,I O 0,I O 0,I O 0] 91))=w3 at *;have a0:=M1.bl.cell 0;have f0:=M1.bf.cell 0;have CC:=mh (show ∀W,Below w.heap.size w W→yA W b (off+k*10) ⟨s.num,nm,⟨o,tn2,tm,tq,tl,tz⟩,bp,bn,bc,least,exs,needs⟩ from fun W hb=>hsc.below hb hbl);obtain⟨c0,c1,c2,c3,c4,c5,c6,c7,c8,c9⟩:=CC.out _ M1.low;simp only at c0 c1 c2 c3 c4 c5 c6 c7 c8 c9
 go_wp2_with fail
 have M2:=mh (show AwJ w ((w3.alloc (.cells #[I O s.num,.string nm,I O o,I O tn2,I O tm,.slice tq tl tz,.slice bp bn bc,I O least,I O exs,.bool needs] 81)).alloc (.cells #[I O f.farm,I O s.num,I O 0,I O 0,I O 0,I O 0,I O 0,I O 0,I O 0] 91)) b0 #[.slice (some ⟨b,off,none⟩) sn sc,.slice tp tn tc,I O ldue,I O llast,I O lmille,.slice gp gn gc,I O cp,I O ev,I O un,I O wd] #[I O f.farm,I O f.day,.slice lp f.lines.length lc] #[I O s.num,.string nm,I O o,I O tn2,I O tm,.slice tq tl tz,.slice bp bn bc,I O least,I O exs,.bool needs] #[I O f.farm,I O s.num,I O (yQ s (f.lines.take 0)),I O (yY l k s (f.lines.take 0)),I O 0,I O 0,I O 0,I O 0,I O 0] from by
  have h1:=(brf w3.heap.size w3).alloc mle (.cells #[I O s.num,.string nm,I O o,I O tn2,I O tm,.slice tq tl tz,.slice bp bn bc,I O least,I O exs,.bool needs] 81);have h2:=(brf (w3.alloc (.cells #[I O s.num,.string nm,I O o,I O tn2,I O tm,.slice tq tl tz,.slice bp bn bc,I O least,I O exs,.bool needs] 81)).heap.size _).alloc mle (.cells #[I O f.farm,I O s.num,I O 0,I O 0,I O 0,I O 0,I O 0,I O 0,I O 0] 91);have e2:(w3.alloc (.cells #[I O s.num,.string nm,I O o,I O tn2,I O tm,.slice tq tl tz,.slice bp bn bc,I O least,I O exs,.bool needs] 81)).heap.size=b0+3+1:=by rw[World.size_alloc,M1s]
  exact⟨(M1.below h1).below h2,M1s▸(Blk.new w3 _ _).below h2,e2▸Blk.new _ _ _⟩)
 generalize (w3.alloc (.cells #[I O s.num,.string nm,I O o,I O tn2,I O tm,.slice tq tl tz,.slice bp bn bc,I O least,I O exs,.bool needs] 81)).alloc (.cells #[I O f.farm,I O s.num,I O 0,I O 0,I O 0,I O 0,I O 0,I O 0,I O 0] 91)=w4 at *;clear a0 f0 c0 c1 c2 c3 c4 c5 c6 c7 c8 c9 M1 M1s;obtain⟨nL,enL⟩:∃n,f.lines.length=n:=⟨_,rfl⟩;have hnL:nL≤20:=by omega
 rw[enL]at M2 ⊢
 go_loopw [10,11] (fun sv iv W=>∃j,j≤nL∧iv=I O (j:Int)∧sv = .bool (kM s (f.lines.take j))∧AwJ w W b0 #[.slice (some ⟨b,off,none⟩) sn sc,.slice tp tn tc,I O ldue,I O llast,I O lmille,.slice gp gn gc,I O cp,I O ev,I O un,I O wd] #[I O f.farm,I O f.day,.slice lp nL lc] #[I O s.num,.string nm,I O o,I O tn2,I O tm,.slice tq tl tz,.slice bp bn bc,I O least,I O exs,.bool needs] #[I O f.farm,I O s.num,I O (yQ s (f.lines.take j)),I O (yY l k s (f.lines.take j)),I O 0,I O 0,I O 0,I O 0,I O 0]) (fun _ iv _=>nL - (intOf iv).toNat)
 case atStart=>exact⟨0,Nat.zero_le _,rfl,rfl,M2.out⟩
 case round =>
  obtain⟨wo,rfl⟩:∃wo:World,wo=wr:=⟨_,rfl⟩;obtain⟨j,hj,rfl,rfl,hJ⟩:=hrel;have HJ:=mh hJ;have a2:=hJ.ai.bf.cell 2;have hj0:(0:Int)≤(j:Int):=inn _;clear hJ M2
  by_cases hlt:j<nL
  ·have hj1:(j:Int)<(nL:Int):=by omega
   have hltL:j<f.lines.length:=by omega
   obtain⟨bl,ol,⟨dl,ls,dp,dn,dc,se,ki,ar,bo⟩,elp,hbl2,hlc,hlv⟩:=HF.lines.at hltL;simp only at elp;subst elp
   have KS:=mh (fun (W:World) (oa:Array Value) (h:AwJ w W b0 #[.slice (some ⟨b,off,none⟩) sn sc,.slice tp tn tc,I O ldue,I O llast,I O lmille,.slice gp gn gc,I O cp,I O ev,I O un,I O wd] #[I O f.farm,I O f.day,.slice (some ⟨bl,ol,none⟩) nL lc] #[I O s.num,.string nm,I O o,I O tn2,I O tm,.slice tq tl tz,.slice bp bn bc,I O least,I O exs,.bool needs] oa)=>show W.cell? ⟨b0+1,2,none⟩=some (.slice (some ⟨bl,ol,none⟩) nL lc)∧W.cell? ⟨bl,ol+j*7,none⟩=some (I O dl)∧W.cell? ⟨bl,ol+j*7+1,none⟩=some (I O ls)∧W.cell? ⟨bl,ol+j*7+2,none⟩=some (.slice dp dn dc)∧W.cell? ⟨bl,ol+j*7+3,none⟩=some (I O se)∧W.cell? ⟨bl,ol+j*7+4,none⟩=some (I O ki)∧W.cell? ⟨bl,ol+j*7+5,none⟩=some (I O ar)∧W.cell? ⟨bl,ol+j*7+6,none⟩=some (I O bo)∧W.cell? ⟨b0+3,0,none⟩=some (I O s.num)∧W.cell? ⟨b0+3,1,none⟩=some (.string nm)∧W.cell? ⟨b0+3,2,none⟩=some (I O o)∧W.cell? ⟨b0+3,3,none⟩=some (I O tn2)∧W.cell? ⟨b0+3,4,none⟩=some (I O tm)∧W.cell? ⟨b0+3,5,none⟩=some (.slice tq tl tz)∧W.cell? ⟨b0+3,6,none⟩=some (.slice bp bn bc)∧W.cell? ⟨b0+3,7,none⟩=some (I O least)∧W.cell? ⟨b0+3,8,none⟩=some (I O exs)∧W.cell? ⟨b0+3,9,none⟩=some (.bool needs) from by
    have g:=hlc.below h.ai.low hbl2
    exact⟨h.ai.bf.cell 2,g.c0,g.c1,g.c2,g.c3,g.c4,g.c5,g.c6,h.bs.cell 0,h.bs.cell 1,h.bs.cell 2,h.bs.cell 3,h.bs.cell 4,h.bs.cell 5,h.bs.cell 6,h.bs.cell 7,h.bs.cell 8,h.bs.cell 9⟩)
   have JD:=mh (HJ.below (brf _ _).drew);have KD:=mh (KS.out _ _ JD.out);have SDT:=mh (tW (s:=s) hltL);have SNT:=mh (tU (l:=l) (j:=k) (s:=s) hltL);have SMT:=mh (cA (s:=s) hltL);have HLV:=mh hlv;obtain⟨x,ex⟩:∃x,f.lines[j]=x:=⟨_,rfl⟩;have HXJ:=mh (show vX l x from ex▸HX.out _ (List.getElem_mem hltL));rw[ex]at HLV SDT SNT SMT;have els:ls=x.sch:=HLV.sch;obtain⟨b1,eb1⟩:∃b,zW x s=b:=⟨_,rfl⟩;have EB:=mh eb1
   have NM:=mh (show Calls Tryz.prog 67 #[.agg #[I O dl,I O ls,.slice dp dn dc,I O se,I O ki,I O ar,I O bo],.agg #[I O s.num,.string nm,I O o,I O tn2,I O tm,.slice tq tl tz,.slice bp bn bc,I O least,I O exs,.bool needs]] wo.drew fun e w' => e = .returned (.bool b1)∧Below wo.drew.heap.size wo.drew w' from by
    have:=kZ ⟨dl,ls,dp,dn,dc,se,ki,ar,bo⟩ ⟨s.num,nm,⟨o,tn2,tm,tq,tl,tz⟩,bp,bn,bc,least,exs,needs⟩ wo.drew HNUM.1 HNUM.2;have e:zH ls s.num=b1:=by rw[els];exact eb1
    simp only[e]at this
    exact this)
   rw[eb1]at SDT SNT SMT;clear hlc hlv ex els eb1
   cases b1
   ·go_wp2_with fail
    clear a2;refine wp_region_held_drew (S:=fun w' => w'.cell? ⟨b0+1,2,none⟩=some (.slice (some ⟨bl,ol,none⟩) nL lc)∧w'.cell? ⟨bl,ol+j*7,none⟩=some (I O dl)∧w'.cell? ⟨bl,ol+j*7+1,none⟩=some (I O ls)∧w'.cell? ⟨bl,ol+j*7+2,none⟩=some (.slice dp dn dc)∧w'.cell? ⟨bl,ol+j*7+3,none⟩=some (I O se)∧w'.cell? ⟨bl,ol+j*7+4,none⟩=some (I O ki)∧w'.cell? ⟨bl,ol+j*7+5,none⟩=some (I O ar)∧w'.cell? ⟨bl,ol+j*7+6,none⟩=some (I O bo)∧w'.cell? ⟨b0+3,0,none⟩=some (I O s.num)∧w'.cell? ⟨b0+3,1,none⟩=some (.string nm)∧w'.cell? ⟨b0+3,2,none⟩=some (I O o)∧w'.cell? ⟨b0+3,3,none⟩=some (I O tn2)∧w'.cell? ⟨b0+3,4,none⟩=some (I O tm)∧w'.cell? ⟨b0+3,5,none⟩=some (.slice tq tl tz)∧w'.cell? ⟨b0+3,6,none⟩=some (.slice bp bn bc)∧w'.cell? ⟨b0+3,7,none⟩=some (I O least)∧w'.cell? ⟨b0+3,8,none⟩=some (I O exs)∧w'.cell? ⟨b0+3,9,none⟩=some (.bool needs)) (by kernel_rfl) KD.out (fun hHeld=>?_);refine tkD 0 34 ?_;refine tkD 1 35 ?_;refine tkD 2 36 ?_;refine tkD 3 37 ?_;refine tkD 4 38 ?_;refine tkD 5 39 ?_;refine rdA 6 40 (fun K hK=>?_);go_simp;(with_reducible refine cmo NM.out ?_);rintro e w6 ⟨rfl,hb6⟩;have J6:=mh (JD.below hb6);have K6:=mh (KS.out _ _ J6.out);clear hb6
    go_wp2_with fail
    refine hK.out _ _ ?hSa0_6 (fun hHeld2=>?_)
    case hSa0_6=>exact K6.out
    clear hK K;refine tkA 7 41 ?_;refine wpAnyH_done (by kernel_rfl) ?_ _
    go_wp2_with fail
    go_roundw
    case rel=>exact⟨j+1,by omega,by go_num,by rw[SMT.out,Bool.or_false],by rw[SDT.out,SNT.out];simpa using J6.out⟩
    case measure=>simp[intOf];omega
   ·go_wp2_with fail
    clear a2;refine wp_region_held_drew (S:=fun w' => w'.cell? ⟨b0+1,2,none⟩=some (.slice (some ⟨bl,ol,none⟩) nL lc)∧w'.cell? ⟨bl,ol+j*7,none⟩=some (I O dl)∧w'.cell? ⟨bl,ol+j*7+1,none⟩=some (I O ls)∧w'.cell? ⟨bl,ol+j*7+2,none⟩=some (.slice dp dn dc)∧w'.cell? ⟨bl,ol+j*7+3,none⟩=some (I O se)∧w'.cell? ⟨bl,ol+j*7+4,none⟩=some (I O ki)∧w'.cell? ⟨bl,ol+j*7+5,none⟩=some (I O ar)∧w'.cell? ⟨bl,ol+j*7+6,none⟩=some (I O bo)∧w'.cell? ⟨b0+3,0,none⟩=some (I O s.num)∧w'.cell? ⟨b0+3,1,none⟩=some (.string nm)∧w'.cell? ⟨b0+3,2,none⟩=some (I O o)∧w'.cell? ⟨b0+3,3,none⟩=some (I O tn2)∧w'.cell? ⟨b0+3,4,none⟩=some (I O tm)∧w'.cell? ⟨b0+3,5,none⟩=some (.slice tq tl tz)∧w'.cell? ⟨b0+3,6,none⟩=some (.slice bp bn bc)∧w'.cell? ⟨b0+3,7,none⟩=some (I O least)∧w'.cell? ⟨b0+3,8,none⟩=some (I O exs)∧w'.cell? ⟨b0+3,9,none⟩=some (.bool needs)) (by kernel_rfl) KD.out (fun hHeld=>?_);refine tkD 0 34 ?_;refine tkD 1 35 ?_;refine tkD 2 36 ?_;refine tkD 3 37 ?_;refine tkD 4 38 ?_;refine tkD 5 39 ?_;refine rdA 6 40 (fun K hK=>?_);go_simp;(with_reducible refine cmo NM.out ?_);rintro e w6 ⟨rfl,hb6⟩;have J6:=mh (JD.below hb6);have K6:=mh (KS.out _ _ J6.out);clear hb6
    go_wp2_with fail
    refine hK.out _ _ ?hSb0_6 (fun hHeld2=>?_)
    case hSb0_6=>exact K6.out
    clear hK K;refine tkA 7 41 ?_;refine wpAnyH_done (by kernel_rfl) ?_ _;have hdk:k<x.due.length:=by rw[HXJ.out.len];exact HK.out
    have FC:=mh (fun (W:World) (oa:Array Value) (h:AwJ w W b0 #[.slice (some ⟨b,off,none⟩) sn sc,.slice tp tn tc,I O ldue,I O llast,I O lmille,.slice gp gn gc,I O cp,I O ev,I O un,I O wd] #[I O f.farm,I O f.day,.slice (some ⟨bl,ol,none⟩) nL lc] #[I O s.num,.string nm,I O o,I O tn2,I O tm,.slice tq tl tz,.slice bp bn bc,I O least,I O exs,.bool needs] oa)=>show Calls Tryz.prog 69 #[.agg #[I O dl,I O ls,.slice dp dn dc,I O se,I O ki,I O ar,I O bo],I O (k:Int)] W fun e w' => e = .returned (.agg #[I O (factOf x k).decl,I O (factOf x k).due,I O (factOf x k).season,I O (factOf x k).kind,I O (factOf x k).area,I O (factOf x k).border])∧Below W.heap.size W w' from kR ⟨dl,ls,dp,dn,dc,se,ki,ar,bo⟩ x k W (HLV.below h.ai.low) hdk);have hch:=HXJ.fact k s HS.out EB.out;have ewd:wd=l.width:=HY.width
    have LD:=mh (fun (W:World)=>show Calls Tryz.prog 68 #[.agg #[I O (factOf x k).decl,I O (factOf x k).due,I O (factOf x k).season,I O (factOf x k).kind,I O (factOf x k).area,I O (factOf x k).border],I O wd] W fun e w' => e = .returned (.tuple #[I O (det (factOf x k) l.width).1,I O (det (factOf x k) l.width).2,I O 0])∧Below W.heap.size W w' from by
     have:=wB (factOf x k) wd W;unfold DetG detV at this;rw[ewd,if_pos hch,hch]at this;rw[ewd]
     exact this)
    have KT:=mh (fun (W:World) (oa:Array Value) (h:AwJ w W b0 #[.slice (some ⟨b,off,none⟩) sn sc,.slice tp tn tc,I O ldue,I O llast,I O lmille,.slice gp gn gc,I O cp,I O ev,I O un,I O wd] #[I O f.farm,I O f.day,.slice (some ⟨bl,ol,none⟩) nL lc] #[I O s.num,.string nm,I O o,I O tn2,I O tm,.slice tq tl tz,.slice bp bn bc,I O least,I O exs,.bool needs] oa)=>show W.cell? ⟨b0+1,2,none⟩=some (.slice (some ⟨bl,ol,none⟩) nL lc)∧W.cell? ⟨bl,ol+j*7,none⟩=some (I O dl)∧W.cell? ⟨bl,ol+j*7+1,none⟩=some (I O ls)∧W.cell? ⟨bl,ol+j*7+2,none⟩=some (.slice dp dn dc)∧W.cell? ⟨bl,ol+j*7+3,none⟩=some (I O se)∧W.cell? ⟨bl,ol+j*7+4,none⟩=some (I O ki)∧W.cell? ⟨bl,ol+j*7+5,none⟩=some (I O ar)∧W.cell? ⟨bl,ol+j*7+6,none⟩=some (I O bo)∧W.cell? ⟨b0+3,0,none⟩=some (I O s.num)∧W.cell? ⟨b0+3,1,none⟩=some (.string nm)∧W.cell? ⟨b0+3,2,none⟩=some (I O o)∧W.cell? ⟨b0+3,3,none⟩=some (I O tn2)∧W.cell? ⟨b0+3,4,none⟩=some (I O tm)∧W.cell? ⟨b0+3,5,none⟩=some (.slice tq tl tz)∧W.cell? ⟨b0+3,6,none⟩=some (.slice bp bn bc)∧W.cell? ⟨b0+3,7,none⟩=some (I O least)∧W.cell? ⟨b0+3,8,none⟩=some (I O exs)∧W.cell? ⟨b0+3,9,none⟩=some (.bool needs)∧W.cell? ⟨b0,9,none⟩=some (I O wd) from⟨(KS.out W oa h).1,(KS.out W oa h).2.1,(KS.out W oa h).2.2.1,(KS.out W oa h).2.2.2.1,(KS.out W oa h).2.2.2.2.1,(KS.out W oa h).2.2.2.2.2.1,(KS.out W oa h).2.2.2.2.2.2.1,(KS.out W oa h).2.2.2.2.2.2.2.1,(KS.out W oa h).2.2.2.2.2.2.2.2.1,(KS.out W oa h).2.2.2.2.2.2.2.2.2.1,(KS.out W oa h).2.2.2.2.2.2.2.2.2.2.1,(KS.out W oa h).2.2.2.2.2.2.2.2.2.2.2.1,(KS.out W oa h).2.2.2.2.2.2.2.2.2.2.2.2.1,(KS.out W oa h).2.2.2.2.2.2.2.2.2.2.2.2.2.1,(KS.out W oa h).2.2.2.2.2.2.2.2.2.2.2.2.2.2.1,(KS.out W oa h).2.2.2.2.2.2.2.2.2.2.2.2.2.2.2.1,(KS.out W oa h).2.2.2.2.2.2.2.2.2.2.2.2.2.2.2.2.1,(KS.out W oa h).2.2.2.2.2.2.2.2.2.2.2.2.2.2.2.2.2,h.ai.bl.cell 9⟩);clear hdk hch ewd;have JE:=mh (J6.below (brf _ _).drew);have KD9:=mh (KT.out _ _ JE.out)
    go_wp2_with fail
    refine wp_region_held_drew (S:=fun w' => w'.cell? ⟨b0+1,2,none⟩=some (.slice (some ⟨bl,ol,none⟩) nL lc)∧w'.cell? ⟨bl,ol+j*7,none⟩=some (I O dl)∧w'.cell? ⟨bl,ol+j*7+1,none⟩=some (I O ls)∧w'.cell? ⟨bl,ol+j*7+2,none⟩=some (.slice dp dn dc)∧w'.cell? ⟨bl,ol+j*7+3,none⟩=some (I O se)∧w'.cell? ⟨bl,ol+j*7+4,none⟩=some (I O ki)∧w'.cell? ⟨bl,ol+j*7+5,none⟩=some (I O ar)∧w'.cell? ⟨bl,ol+j*7+6,none⟩=some (I O bo)∧w'.cell? ⟨b0+3,0,none⟩=some (I O s.num)∧w'.cell? ⟨b0+3,1,none⟩=some (.string nm)∧w'.cell? ⟨b0+3,2,none⟩=some (I O o)∧w'.cell? ⟨b0+3,3,none⟩=some (I O tn2)∧w'.cell? ⟨b0+3,4,none⟩=some (I O tm)∧w'.cell? ⟨b0+3,5,none⟩=some (.slice tq tl tz)∧w'.cell? ⟨b0+3,6,none⟩=some (.slice bp bn bc)∧w'.cell? ⟨b0+3,7,none⟩=some (I O least)∧w'.cell? ⟨b0+3,8,none⟩=some (I O exs)∧w'.cell? ⟨b0+3,9,none⟩=some (.bool needs)∧w'.cell? ⟨b0,9,none⟩=some (I O wd)) (by kernel_rfl) KD9.out (fun hHeld=>?_)
    refine tkA 0 43 ?_
    simp only[Act.put,mnA,mnB,mnC];refine tkD 1 44 ?_;refine tkD 2 45 ?_;refine tkD 3 46 ?_;refine tkD 4 47 ?_;refine tkD 5 48 ?_;refine tkD 7 50 ?_;refine tkD 8 51 ?_;refine rdA 6 49 (fun K hK=>?_);go_simp;(with_reducible refine cmo (FC.out _ _ JE.out) ?_);rintro e w7 ⟨rfl,hb7⟩;have J7:=mh (JE.below hb7);have K7:=mh (KT.out _ _ J7.out);clear hb7
    go_wp2_with fail
    refine hK.out _ _ ?hSc0_6 (fun hHeld2=>?_)
    case hSc0_6=>exact K7.out
    clear hK K;refine rdA 9 52 (fun K hK=>?_);go_simp;(with_reducible refine cmo (LD.out _) ?_);rintro e w8 ⟨rfl,hb8⟩;have J8:=mh (J7.below hb8);have K8:=mh (KT.out _ _ J8.out);clear hb8
    go_wp2_with fail
    refine hK.out _ _ ?hSc0_9 (fun hHeld2=>?_)
    case hSc0_9=>exact K8.out
    clear hK K;refine tkD 10 42 ?_;refine tkD 11 53 ?_;refine tkD 12 54 ?_;refine tkD 13 55 ?_;refine tkD 14 12 ?_;refine tkD 15 13 ?_;refine tkA 16 14 ?_;refine wpAnyH_done (by kernel_rfl) ?_ _;have J9:=mh (J8.below (brf _ _).drew);have KD10:=mh (show w8.drew.cell? ⟨b0+1,2,none⟩=some (.slice (some ⟨bl,ol,none⟩) nL lc)∧w8.drew.cell? ⟨bl,ol+j*7,none⟩=some (I O dl)∧w8.drew.cell? ⟨b0+3+1,2,none⟩=some (I O (yQ s (f.lines.take j)))∧w8.drew.cell? ⟨b0+3+1,3,none⟩=some (I O (yY l k s (f.lines.take j))) from⟨J9.ai.bf.cell 2,(KT.out _ _ J9.out).2.1,J9.bo.cell 2,J9.bo.cell 3⟩);have hdl:dl=x.decl:=HLV.decl;have DPOS:=mh (show ∀y∈f.lines,0≤y.decl from fun y hy=>(HX.out y hy).d0);have q0:=(dW (s:=s) (K:=f.lines.take j) fun y hy=>DPOS.out y (List.mem_of_mem_take hy)).1;have q1:=(dW (s:=s) (K:=f.lines.take (j+1)) fun y hy=>DPOS.out y (List.mem_of_mem_take hy)).2;have q2:=dJ DPOS.out (j+1);have q3:=dG (K:=f.lines.take (j+1)) HL.out (fun y hy=>HX.out y (List.mem_of_mem_take hy)) HS.out;have q4:=(dG (K:=f.lines.take j) HL.out (fun y hy=>HX.out y (List.mem_of_mem_take hy)) HS.out).1;have hdl0:=HXJ.d0;have e1:yQ s (f.lines.take (j+1))=yQ s (f.lines.take j)+dl:=by rw[SDT.out,hdl];rfl
    have e2:yY l k s (f.lines.take (j+1))=yY l k s (f.lines.take j)+(det (factOf x k) l.width).1:=by rw[SNT.out];rfl
    have E1:=mh e1;have E2:=mh e2;rw[e1]at q1 q3;rw[e2]at q3;obtain⟨zd,ezd⟩:∃z,yQ s (f.lines.take j)=z:=⟨_,rfl⟩;obtain⟨zn,ezn⟩:∃z,yY l k s (f.lines.take j)=z:=⟨_,rfl⟩;obtain⟨dn_,edn⟩:∃z,(det (factOf x k) l.width).1=z:=⟨_,rfl⟩;rw[ezd]at q0 q1 q3 J8 J9 E1 KD10;rw[ezn]at q3 q4 J8 J9 E2 KD10;rw[edn]at q3 E2 ⊢;have s0:0≤dl:=by rw[hdl];exact hdl0
    have s1:zd+dl≤268435456:=by omega
    have s2:0≤zn+dn_:=q3.1;have s3:zn+dn_≤268435456:=by omega
    have w1:IntKind.i64.wrap (zd+dl)=zd+dl:=by rw[IntKind.wrap_i64];omega
    have w2:IntKind.i64.wrap (zn+dn_)=zn+dn_:=by rw[IntKind.wrap_i64];omega
    have J10:=mh ((J8.put 2 (I O (zd+dl))).below (brf _ _).drew);have u2:=J9.bo.cell 2;have v2:=J9.bo.fr 2;have u3:=J10.bo.cell 3;have v3:=J10.bo.fr 3;have J11:=mh (((J8.put 2 (I O (zd+dl))).put 3 (I O (zn+dn_))).below (brf _ _).drew);clear q0 q1 q2 q3 q4 hdl hdl0 e1 e2 edn ezd ezn
    go_wp2_with fail
    refine kD (fun w' => w'.cell? ⟨b0+1,2,none⟩=some (.slice (some ⟨bl,ol,none⟩) nL lc)∧w'.cell? ⟨bl,ol+j*7,none⟩=some (I O dl)∧w'.cell? ⟨b0+3+1,2,none⟩=some (I O (zd))∧w'.cell? ⟨b0+3+1,3,none⟩=some (I O (zn))) 14 (by kernel_rfl) KD10.out (fun hHeld=>?_)
    refine tkG 0 56 ?_
    refine tkG 1 57 ?_
    refine tkG 2 58 ?_
    refine tkG 3 59 ?_
    refine tkG 4 60 ?_
    refine tkG 5 61 ?_
    refine tkG 6 62 ?_
    refine tkG 7 63 ?_
    refine tkG 8 64 ?_
    refine tkG 9 65 ?_
    refine tkG 10 66 ?_
    refine nJ (i:=11) (oi:=⟨some 67,_,_,_,_,_⟩) (v:=?vp11) rfl (by kernel_rfl) (by kernel_rfl) (by kernel_rfl) rfl (fun _ _ _ h=>h) (Or.inl ⟨by kernel_rfl,?yp11⟩) (by assumption) ?rp11
    case yp11 =>
     intro W0 _;go_simp
     try with_reducible rfl
    simp only[Act.put,mnA,mnB,mnC];refine nJ (i:=12) (oi:=⟨some 68,_,_,_,_,_⟩) (v:=?vp12) rfl (by kernel_rfl) (by kernel_rfl) (by kernel_rfl) rfl (fun _ _ _ h=>h) (Or.inl ⟨by kernel_rfl,?yp12⟩) (by assumption) ?rp12
    case yp12 =>
     intro W0 _;go_simp
     try with_reducible rfl
    simp only[Act.put,mnA,mnB,mnC];refine tkG 13 69 ?_;refine yJ (o:=⟨none,_,_,_,_,_⟩) (by kernel_rfl) rfl (fun K0 hK=>?_);go_simp;refine hK.out _ _ ?_;clear hK K0
    (try dsimp only[Act.put])
    try simp only[mnA,mnB,mnC]
    refine wpAnyH_take (i:=15) (oi:=⟨some 70,_,_,_,_,_⟩) (v:=?vh15) rfl (by kernel_rfl) (by kernel_rfl) (by kernel_rfl) (fun _ _ _ h=>h) (Or.inl ⟨by kernel_rfl,?yh15⟩) trivial ?rh15
    case yh15 =>
     intro W0 _;go_simp
     try with_reducible rfl
    simp only[Act.put,mnA,mnB,mnC];refine wpAnyH_ready (rs := [16]) (by kernel_rfl) (by simp) ?_;refine AllReadyH.cons (o:=⟨none,_,_,_,_,_⟩) rfl (fun K0 hK=>?_) AllReadyH.nil;go_simp;refine hK.out _ _ trivial (fun _=>?_);clear hK K0
    (try dsimp only[Act.put])
    try simp only[mnA,mnB,mnC]
    refine wpAnyH_done (by kernel_rfl) ?_ _
    go_wp2_with fail
    go_roundw
    case rel=>exact⟨j+1,by omega,by go_num,by rw[SMT.out,Bool.or_true],by rw[E1.out,E2.out];exact J11.out⟩
    case measure=>simp[intOf];omega
  ·obtain rfl:j=nL:=by omega
   have eT:f.lines.take j=f.lines:=by rw[← enL,List.take_length]
   rw[eT]at HJ ⊢;have bD:=dW (s:=s) (K:=f.lines) fun y hy=>(HX.out y hy).d0
   have bN:=dG (K:=f.lines) HL.out HX.out HS.out;have EA:=mh (show uF l f k s=⟨f.farm,s.num,yQ s f.lines,yY l k s f.lines,zA l s (yQ s f.lines) (yY l k s f.lines),zL s (zA l s (yQ s f.lines) (yY l k s f.lines)),left l.late f.day (zL s (zA l s (yQ s f.lines) (yY l k s f.lines))),0,0⟩ from rfl);have hpb:=bJ HL.out s bN.1 bN.2 (Int.le_trans bD.2 hd);obtain⟨D,eD⟩:∃z,yQ s f.lines=z:=⟨_,rfl⟩;obtain⟨N,eN⟩:∃z,yY l k s f.lines=z:=⟨_,rfl⟩;rw[eD]at HJ EA bD hpb bN;rw[eN]at HJ EA hpb bN;clear eT eD eN a2
   have PD:=mh (fun (W:World) (hb:Below w.heap.size w W)=>show Calls Tryz.prog 102 #[.slice tp tn tc,I O D,I O N] W fun e w' => e = .returned (.tuple #[I O (Re.paidVal l.steps D N),I O 0])∧Below W.heap.size W w' from by
    have e:Re.paidErr l.steps D N=0:=by
     unfold Re.paidErr;rw[if_neg (by rw[Re.chk_zero.2 HL.out.steps];decide),if_neg (by rw[wZ (by omega) (by omega),wZ bN.1 (by omega)];simp)]
    have:=qNA tp l.steps tc D N W (HY.below hb).steps;rw[e]at this;rw[show tn=l.steps.length from HY.out.tn]
    exact this.mono fun e w' h=>⟨h.1,by obtain⟨n,rfl⟩:=h.2;exact qQ _ _⟩)
   have PV:=mh (show zA l s D N=if s.least≤N then Re.paidVal l.steps D N else 0 from rfl);obtain⟨p,ep⟩:∃p,zA l s D N=p:=⟨_,rfl⟩;rw[ep]at hpb PV EA;have hae:kS s p=0:=by unfold kS;rw[if_neg (by rw[HONE.out];decide),if_neg (by omega)]
   have AM:=mh (fun (W:World) (hb:Below w.heap.size w W)=>show Calls Tryz.prog 103 #[.agg #[I O s.num,.string nm,I O o,I O tn2,I O tm,.slice tq tl tz,.slice bp bn bc,I O least,I O exs,.bool needs],I O p] W (lQ (uK s p,0) W) from by
    have:=nV d ⟨s.num,nm,⟨o,tn2,tm,tq,tl,tz⟩,bp,bn,bc,least,exs,needs⟩ s p W (HV.below hb) HSZ.out HCT.out;rw[hae]at this
    exact this)
   have ha0:=fX HONE.out p;have ER:=mh (show zL s p=min (uK s p) 68719476736 from rfl);obtain⟨A,eA⟩:∃A,uK s p=A:=⟨_,rfl⟩;rw[eA]at AM ha0 ER;obtain⟨R,eR⟩:∃R,zL s p=R:=⟨_,rfl⟩;rw[eR]at ER EA;have hR:0≤R∧R≤68719476736:=by rw[ER.out];omega
   have PY:=mh (fun (W:World)=>show Calls Tryz.prog 104 #[.agg #[I O ldue,I O llast,I O lmille],I O f.day,I O R] W (PayG (left l.late f.day R,0) W) from by
    have:=rP ldue llast lmille f.day R W;have el:(⟨ldue,llast,lmille⟩:Lat)=l.late:=by
     have h1:=HY.due;have h2:=HY.last;have h3:=HY.mille;simp only at h1 h2 h3;rw[h1,h2,h3]
    have hlt:=HL.late;have e:payE l.late f.day R=0:=by
     have h1:=hlt.d0;have h2:=hlt.d1;have h3:=hlt.d2;have h4:=hlt.m0;have h5:=hlt.m1;unfold payE;rw[if_neg (by unfold chkL;rw[if_neg (by omega)];decide),if_neg (by unfold dayB;simp;omega),if_neg (by omega)]
    rw[el,e]at this;unfold payV at this;rw[if_neg (by rw[e];decide)]at this
    exact this)
   obtain⟨TM,eT⟩:∃T,left l.late f.day R=T:=⟨_,rfl⟩;rw[eT]at PY EA;obtain⟨SB,eSB⟩:∃b,kM s f.lines=b:=⟨_,rfl⟩;have GIVE:=mh (show ∀W,Below w.heap.size w W→As.AwG l f k s w (.returned (.tuple #[.agg #[I O f.farm,I O s.num,I O D,I O N,I O p,I O R,I O TM,I O 0,I O 0],.bool SB])) W from fun W h=>⟨by rw[EA.out,eSB];rfl,h⟩);have HLE:least=s.least:=HV.least;rw[eSB]at *;clear hae eA eR ep eT eSB HV HF HX HL HS HK bD bN hd hd0 hd1 h20 hnL EA enL HY;have b3:=HJ.bo.cell 3;have s7:=HJ.bs.cell 7;have a2:=HJ.ai.bf.cell 2;have hself:¬((j:Int)<(j:Int)):=Int.lt_irrefl _;have l1:=HJ.ai.bl.cell 1;have b2:=HJ.bo.cell 2
   by_cases hge:s.least≤N
   ·have hd:least≤N:=by rw[HLE];exact hge
    clear HLE;have hp:Re.paidVal l.steps D N=p:=by rw[PV.out,if_pos hge]
    rw[hp]at PD;clear hge hp PV
    go_upto_region 12 with fail
    go_upto_region 13 with (first|(go_at_call 102;(with_reducible refine cmo (PD.out _ HJ.out.ai.low) ?_);rintro e w3 ⟨rfl,hb3⟩;have J3:=mh (HJ.below hb3);have x4:=J3.bo.cell 4;have x4f:=J3.bo.fr 4;clear hb3)|fail)
    have J4' := mh (show AwJ w (w3.setCell ⟨b0+3+1,4,none⟩ (I O p)) b0 #[.slice (some ⟨b,off,none⟩) sn sc,.slice tp tn tc,I O ldue,I O llast,I O lmille,.slice gp gn gc,I O cp,I O ev,I O un,I O wd] #[I O f.farm,I O f.day,.slice lp j lc] #[I O s.num,.string nm,I O o,I O tn2,I O tm,.slice tq tl tz,.slice bp bn bc,I O least,I O exs,.bool needs] #[I O f.farm,I O s.num,I O D,I O N,I O p,I O 0,I O 0,I O 0,I O 0] from J3.put 4 (I O p));generalize w3.setCell ⟨b0+3+1,4,none⟩ (I O p)=w4 at *;clear x4 x4f b3 s7 a2 l1 b2 HJ;have s0:=J4'.bs.cell 0;have s1:=J4'.bs.cell 1;have s2:=J4'.bs.cell 2;have s3:=J4'.bs.cell 3;have s4:=J4'.bs.cell 4;have s5:=J4'.bs.cell 5;have s6:=J4'.bs.cell 6;have s7:=J4'.bs.cell 7;have s8:=J4'.bs.cell 8;have s9:=J4'.bs.cell 9;have o4:=J4'.bo.cell 4
    go_upto_region 14 with (first|(go_at_call 103;(with_reducible refine cmo (AM.out _ J4'.out.ai.low) ?_);rintro e w7 ⟨rfl,hb7⟩;have J7:=mh (J4'.below hb7);clear hb7)|fail)
    clear s0 s1 s2 s3 s4 s5 s6 s7 s8 s9 o4;have z5:=J7.bo.cell 5;have z5f:=J7.bo.fr 5
    go_upto_region 15 with fail
    rw[show min A 68719476736=R from ER.out.symm];have J9:=mh (show AwJ w (w7.setCell ⟨b0+3+1,5,none⟩ (I O R)) b0 #[.slice (some ⟨b,off,none⟩) sn sc,.slice tp tn tc,I O ldue,I O llast,I O lmille,.slice gp gn gc,I O cp,I O ev,I O un,I O wd] #[I O f.farm,I O f.day,.slice lp j lc] #[I O s.num,.string nm,I O o,I O tn2,I O tm,.slice tq tl tz,.slice bp bn bc,I O least,I O exs,.bool needs] #[I O f.farm,I O s.num,I O D,I O N,I O p,I O R,I O 0,I O 0,I O 0] from J7.put 5 _);generalize w7.setCell ⟨b0+3+1,5,none⟩ (I O R)=w9 at *;clear z5 z5f;have l2:=J9.ai.bl.cell 2;have l3:=J9.ai.bl.cell 3;have l4:=J9.ai.bl.cell 4;have f1:=J9.ai.bf.cell 1;have o5:=J9.bo.cell 5
    go_upto_region 16 with (first|(go_at_call 104;(with_reducible refine cmo (PY.out _) ?_);rintro e wa ⟨rfl,hba⟩;have JA:=mh (J9.below hba);have x6:=JA.bo.cell 6;have x6f:=JA.bo.fr 6;clear hba)|fail)
    have JB' := mh (show AwJ w (wa.setCell ⟨b0+3+1,6,none⟩ (I O TM)) b0 #[.slice (some ⟨b,off,none⟩) sn sc,.slice tp tn tc,I O ldue,I O llast,I O lmille,.slice gp gn gc,I O cp,I O ev,I O un,I O wd] #[I O f.farm,I O f.day,.slice lp j lc] #[I O s.num,.string nm,I O o,I O tn2,I O tm,.slice tq tl tz,.slice bp bn bc,I O least,I O exs,.bool needs] #[I O f.farm,I O s.num,I O D,I O N,I O p,I O R,I O TM,I O 0,I O 0] from JA.put 6 (I O TM));generalize wa.setCell ⟨b0+3+1,6,none⟩ (I O TM)=wb at *;clear x6 x6f l2 l3 l4 f1 o5;have y0:=JB'.bo.cell 0;have y1:=JB'.bo.cell 1;have y2:=JB'.bo.cell 2;have y3:=JB'.bo.cell 3;have y4:=JB'.bo.cell 4;have y5:=JB'.bo.cell 5;have y6:=JB'.bo.cell 6;have y7:=JB'.bo.cell 7;have y8:=JB'.bo.cell 8;have t0:=JB'.ai.br.cell 0;have t0f:=JB'.ai.br.fr 0;have t1:=JB'.ai.br.cell 1;have t1f:=JB'.ai.br.fr 1;have t2:=JB'.ai.br.cell 2;have t2f:=JB'.ai.br.fr 2;have t3:=JB'.ai.br.cell 3;have t3f:=JB'.ai.br.fr 3;have t4:=JB'.ai.br.cell 4;have t4f:=JB'.ai.br.fr 4;have t5:=JB'.ai.br.cell 5;have t5f:=JB'.ai.br.fr 5;have t6:=JB'.ai.br.cell 6;have t6f:=JB'.ai.br.fr 6;have t7:=JB'.ai.br.cell 7;have t7f:=JB'.ai.br.fr 7;have t8:=JB'.ai.br.cell 8;have t8f:=JB'.ai.br.fr 8;clear AM PY J9 JA
    go_wp2_with fail
    have PB:=mh (show Blk (((((((((wb.setCell ⟨b0+1+1,0,none⟩ (I O f.farm)).setCell ⟨b0+1+1,1,none⟩ (I O s.num)).setCell ⟨b0+1+1,2,none⟩ (I O D)).setCell ⟨b0+1+1,3,none⟩ (I O N)).setCell ⟨b0+1+1,4,none⟩ (I O p)).setCell ⟨b0+1+1,5,none⟩ (I O R)).setCell ⟨b0+1+1,6,none⟩ (I O TM)).setCell ⟨b0+1+1,7,none⟩ (I O 0)).setCell ⟨b0+1+1,8,none⟩ (I O 0)) (b0+1+1) #[I O f.farm,I O s.num,I O D,I O N,I O p,I O R,I O TM,I O 0,I O 0] 91 from Blk.put9 JB'.ai.br (I O f.farm) (I O s.num) (I O D) (I O N) (I O p) (I O R) (I O TM) (I O 0) (I O 0));have PL:=mh (show Below w.heap.size w (((((((((wb.setCell ⟨b0+1+1,0,none⟩ (I O f.farm)).setCell ⟨b0+1+1,1,none⟩ (I O s.num)).setCell ⟨b0+1+1,2,none⟩ (I O D)).setCell ⟨b0+1+1,3,none⟩ (I O N)).setCell ⟨b0+1+1,4,none⟩ (I O p)).setCell ⟨b0+1+1,5,none⟩ (I O R)).setCell ⟨b0+1+1,6,none⟩ (I O TM)).setCell ⟨b0+1+1,7,none⟩ (I O 0)).setCell ⟨b0+1+1,8,none⟩ (I O 0)) from Below.put9 JB'.ai.low (by have:=JB'.ai.e;omega) (I O f.farm) (I O s.num) (I O D) (I O N) (I O p) (I O R) (I O TM) (I O 0) (I O 0));generalize (((((((((wb.setCell ⟨b0+1+1,0,none⟩ (I O f.farm)).setCell ⟨b0+1+1,1,none⟩ (I O s.num)).setCell ⟨b0+1+1,2,none⟩ (I O D)).setCell ⟨b0+1+1,3,none⟩ (I O N)).setCell ⟨b0+1+1,4,none⟩ (I O p)).setCell ⟨b0+1+1,5,none⟩ (I O R)).setCell ⟨b0+1+1,6,none⟩ (I O TM)).setCell ⟨b0+1+1,7,none⟩ (I O 0)).setCell ⟨b0+1+1,8,none⟩ (I O 0))=wf at *;clear y0 y1 y2 y3 y4 y5 y6 y7 y8 t0 t1 t2 t3 t4 t5 t6 t7 t8 t0f t1f t2f t3f t4f t5f t6f t7f t8f;have c0:=PB.cell 0;have c1:=PB.cell 1;have c2:=PB.cell 2;have c3:=PB.cell 3;have c4:=PB.cell 4;have c5:=PB.cell 5;have c6:=PB.cell 6;have c7:=PB.cell 7;have c8:=PB.cell 8;simp only[List.getElem?_toArray,List.getElem?_cons_zero,List.getElem?_cons_succ]at c0 c1 c2 c3 c4 c5 c6 c7 c8;exact bodyPost_ret (v := .tuple #[.agg #[I O f.farm,I O s.num,I O D,I O N,I O p,I O R,I O TM,I O 0,I O 0],.bool SB]) (by simp[results,Tryz.results65,go_sem,c0,c1,c2,c3,c4,c5,c6,c7,c8]) rfl (GIVE.out _ PL.out)
   ·have hd:¬(least≤N):=by rw[HLE];exact hge
    clear HLE;obtain rfl:p=0:=by rw[PV.out,if_neg hge]
    clear hge PV PD
    go_upto_region 13 with fail
    clear b3 s7 a2 l1 b2;have s0:=HJ.bs.cell 0;have s1:=HJ.bs.cell 1;have s2:=HJ.bs.cell 2;have s3:=HJ.bs.cell 3;have s4:=HJ.bs.cell 4;have s5:=HJ.bs.cell 5;have s6:=HJ.bs.cell 6;have s7:=HJ.bs.cell 7;have s8:=HJ.bs.cell 8;have s9:=HJ.bs.cell 9;have o4:=HJ.bo.cell 4
    go_upto_region 14 with (first|(go_at_call 103;(with_reducible refine cmo (AM.out _ HJ.out.ai.low) ?_);rintro e w7 ⟨rfl,hb7⟩;have J7:=mh (HJ.below hb7);clear hb7)|fail)
    clear s0 s1 s2 s3 s4 s5 s6 s7 s8 s9 o4;have z5:=J7.bo.cell 5;have z5f:=J7.bo.fr 5
    go_upto_region 15 with fail
    rw[show min A 68719476736=R from ER.out.symm];have J9:=mh (show AwJ w (w7.setCell ⟨b0+3+1,5,none⟩ (I O R)) b0 #[.slice (some ⟨b,off,none⟩) sn sc,.slice tp tn tc,I O ldue,I O llast,I O lmille,.slice gp gn gc,I O cp,I O ev,I O un,I O wd] #[I O f.farm,I O f.day,.slice lp j lc] #[I O s.num,.string nm,I O o,I O tn2,I O tm,.slice tq tl tz,.slice bp bn bc,I O least,I O exs,.bool needs] #[I O f.farm,I O s.num,I O D,I O N,I O 0,I O R,I O 0,I O 0,I O 0] from J7.put 5 _);generalize w7.setCell ⟨b0+3+1,5,none⟩ (I O R)=w9 at *;clear z5 z5f;have l2:=J9.ai.bl.cell 2;have l3:=J9.ai.bl.cell 3;have l4:=J9.ai.bl.cell 4;have f1:=J9.ai.bf.cell 1;have o5:=J9.bo.cell 5
    go_upto_region 16 with (first|(go_at_call 104;(with_reducible refine cmo (PY.out _) ?_);rintro e wa ⟨rfl,hba⟩;have JA:=mh (J9.below hba);have x6:=JA.bo.cell 6;have x6f:=JA.bo.fr 6;clear hba)|fail)
    have JB' := mh (show AwJ w (wa.setCell ⟨b0+3+1,6,none⟩ (I O TM)) b0 #[.slice (some ⟨b,off,none⟩) sn sc,.slice tp tn tc,I O ldue,I O llast,I O lmille,.slice gp gn gc,I O cp,I O ev,I O un,I O wd] #[I O f.farm,I O f.day,.slice lp j lc] #[I O s.num,.string nm,I O o,I O tn2,I O tm,.slice tq tl tz,.slice bp bn bc,I O least,I O exs,.bool needs] #[I O f.farm,I O s.num,I O D,I O N,I O 0,I O R,I O TM,I O 0,I O 0] from JA.put 6 (I O TM));generalize wa.setCell ⟨b0+3+1,6,none⟩ (I O TM)=wb at *;clear x6 x6f l2 l3 l4 f1 o5;have y0:=JB'.bo.cell 0;have y1:=JB'.bo.cell 1;have y2:=JB'.bo.cell 2;have y3:=JB'.bo.cell 3;have y4:=JB'.bo.cell 4;have y5:=JB'.bo.cell 5;have y6:=JB'.bo.cell 6;have y7:=JB'.bo.cell 7;have y8:=JB'.bo.cell 8;have t0:=JB'.ai.br.cell 0;have t0f:=JB'.ai.br.fr 0;have t1:=JB'.ai.br.cell 1;have t1f:=JB'.ai.br.fr 1;have t2:=JB'.ai.br.cell 2;have t2f:=JB'.ai.br.fr 2;have t3:=JB'.ai.br.cell 3;have t3f:=JB'.ai.br.fr 3;have t4:=JB'.ai.br.cell 4;have t4f:=JB'.ai.br.fr 4;have t5:=JB'.ai.br.cell 5;have t5f:=JB'.ai.br.fr 5;have t6:=JB'.ai.br.cell 6;have t6f:=JB'.ai.br.fr 6;have t7:=JB'.ai.br.cell 7;have t7f:=JB'.ai.br.fr 7;have t8:=JB'.ai.br.cell 8;have t8f:=JB'.ai.br.fr 8;clear AM PY J9 JA
    go_wp2_with fail
    have PB:=mh (show Blk (((((((((wb.setCell ⟨b0+1+1,0,none⟩ (I O f.farm)).setCell ⟨b0+1+1,1,none⟩ (I O s.num)).setCell ⟨b0+1+1,2,none⟩ (I O D)).setCell ⟨b0+1+1,3,none⟩ (I O N)).setCell ⟨b0+1+1,4,none⟩ (I O 0)).setCell ⟨b0+1+1,5,none⟩ (I O R)).setCell ⟨b0+1+1,6,none⟩ (I O TM)).setCell ⟨b0+1+1,7,none⟩ (I O 0)).setCell ⟨b0+1+1,8,none⟩ (I O 0)) (b0+1+1) #[I O f.farm,I O s.num,I O D,I O N,I O 0,I O R,I O TM,I O 0,I O 0] 91 from Blk.put9 JB'.ai.br (I O f.farm) (I O s.num) (I O D) (I O N) (I O 0) (I O R) (I O TM) (I O 0) (I O 0));have PL:=mh (show Below w.heap.size w (((((((((wb.setCell ⟨b0+1+1,0,none⟩ (I O f.farm)).setCell ⟨b0+1+1,1,none⟩ (I O s.num)).setCell ⟨b0+1+1,2,none⟩ (I O D)).setCell ⟨b0+1+1,3,none⟩ (I O N)).setCell ⟨b0+1+1,4,none⟩ (I O 0)).setCell ⟨b0+1+1,5,none⟩ (I O R)).setCell ⟨b0+1+1,6,none⟩ (I O TM)).setCell ⟨b0+1+1,7,none⟩ (I O 0)).setCell ⟨b0+1+1,8,none⟩ (I O 0)) from Below.put9 JB'.ai.low (by have:=JB'.ai.e;omega) (I O f.farm) (I O s.num) (I O D) (I O N) (I O 0) (I O R) (I O TM) (I O 0) (I O 0));generalize (((((((((wb.setCell ⟨b0+1+1,0,none⟩ (I O f.farm)).setCell ⟨b0+1+1,1,none⟩ (I O s.num)).setCell ⟨b0+1+1,2,none⟩ (I O D)).setCell ⟨b0+1+1,3,none⟩ (I O N)).setCell ⟨b0+1+1,4,none⟩ (I O 0)).setCell ⟨b0+1+1,5,none⟩ (I O R)).setCell ⟨b0+1+1,6,none⟩ (I O TM)).setCell ⟨b0+1+1,7,none⟩ (I O 0)).setCell ⟨b0+1+1,8,none⟩ (I O 0))=wf at *;clear y0 y1 y2 y3 y4 y5 y6 y7 y8 t0 t1 t2 t3 t4 t5 t6 t7 t8 t0f t1f t2f t3f t4f t5f t6f t7f t8f;have c0:=PB.cell 0;have c1:=PB.cell 1;have c2:=PB.cell 2;have c3:=PB.cell 3;have c4:=PB.cell 4;have c5:=PB.cell 5;have c6:=PB.cell 6;have c7:=PB.cell 7;have c8:=PB.cell 8;simp only[List.getElem?_toArray,List.getElem?_cons_zero,List.getElem?_cons_succ]at c0 c1 c2 c3 c4 c5 c6 c7 c8;exact bodyPost_ret (v := .tuple #[.agg #[I O f.farm,I O s.num,I O D,I O N,I O 0,I O R,I O TM,I O 0,I O 0],.bool SB]) (by simp[results,Tryz.results65,go_sem,c0,c1,c2,c3,c4,c5,c6,c7,c8]) rfl (GIVE.out _ PL.out)
end Go.Proofs.YtefcalgjnkigjaaGreat
