/- Packed. -/
import Derived.Test.YtefcalgjnkigjaaGreatL21
set_option maxRecDepth 100000
set_option maxHeartbeats 8000000
open Go.Value renaming int → I
open Go.IntKind renaming i64 → O
namespace Go.Proofs.YtefcalgjnkigjaaGreat
open Go.RowKit Sc As
section
variable {w wr w' : World} {t g gf gx q q' : Nat} {l:List Int} {decl due season kind area border:Int} {a:Nat} {v v' : Value} {D D' : List Int}
theorem Blk.put7 {z0 z1 z2 z3 z4 z5 z6:Value}{T:TypeId}(h:Blk wr g #[z0,z1,z2,z3,z4,z5,z6] T)(u0 u1 u2 u3 u4 u5 u6:Value):Blk (((((((wr.setCell ⟨g,0,none⟩ u0).setCell ⟨g,1,none⟩ u1).setCell ⟨g,2,none⟩ u2).setCell ⟨g,3,none⟩ u3).setCell ⟨g,4,none⟩ u4).setCell ⟨g,5,none⟩ u5).setCell ⟨g,6,none⟩ u6) g #[u0,u1,u2,u3,u4,u5,u6] T:=by
 have a0:Blk _ g #[u0,z1,z2,z3,z4,z5,z6] T:=h.set 0 u0;have a1:Blk _ g #[u0,u1,z2,z3,z4,z5,z6] T:=a0.set 1 u1;have a2:Blk _ g #[u0,u1,u2,z3,z4,z5,z6] T:=a1.set 2 u2;have a3:Blk _ g #[u0,u1,u2,u3,z4,z5,z6] T:=a2.set 3 u3;have a4:Blk _ g #[u0,u1,u2,u3,u4,z5,z6] T:=a3.set 4 u4;have a5:Blk _ g #[u0,u1,u2,u3,u4,u5,z6] T:=a4.set 5 u5;exact a5.set 6 u6
theorem TpB.put7 (h:TpB w wr t l q)(hg:w.heap.size≤g)(u0 u1 u2 u3 u4 u5 u6:Value):TpB w (((((((wr.setCell ⟨g,0,none⟩ u0).setCell ⟨g,1,none⟩ u1).setCell ⟨g,2,none⟩ u2).setCell ⟨g,3,none⟩ u3).setCell ⟨g,4,none⟩ u4).setCell ⟨g,5,none⟩ u5).setCell ⟨g,6,none⟩ u6) t l q :=
 (h.put6 hg u0 u1 u2 u3 u4 u5).set hg u6
structure LnS (w wr:World) (t:Nat) (l:List Int) (q g gf gx:Nat) (decl due season kind area border:Int) (a:Nat) (v:Value) (D:List Int):Prop where
 tp:TpB w wr t l q
 res:Blk wr g #[I O 0,I O 0,.slice none 0 0,I O 0,I O 0,I O 0,I O 0] 89
 fb:Blk wr gf #[I O decl,I O due,I O season,I O kind,I O area,I O border] 126
 xb:Blk wr gx #[I O decl,I O (a:Int),v,I O season,I O kind,I O area,I O border] 89
 own:qX SI wr 3 (gx+1) v D
 ord:w.heap.size≤g∧g<gf∧gf<gx
theorem LnS.tl (h:LnS w wr t l q g gf gx decl due season kind area border a v D):t<g:=by have:=h.ord;have:=h.tp.lt;omega
theorem LnS.next (h:LnS w wr t l q g gf gx decl due season kind area border a v D)(ht:qV w' t l q')(hb:But t wr w'):LnS w w' t l q' g gf gx decl due season kind area border a v D:=by
 have:=h.tl;have:=h.ord;exact⟨h.tp.next ht hb,h.res.but hb (by omega),h.fb.but hb (by omega),h.xb.but hb (by omega),h.own.but hb (by omega),h.ord⟩
theorem LnS.below (h:LnS w wr t l q g gf gx decl due season kind area border a v D)(hb:Below wr.heap.size wr w'):LnS w w' t l q g gf gx decl due season kind area border a v D :=
 ⟨h.tp.below hb,h.res.below hb,h.fb.below hb,h.xb.below hb,h.own.below hb,h.ord⟩
theorem LnS.bit (h:LnS w wr t l q g gf gx decl due season kind area border a v D)(b:Nat):LnS w (wr.setCell ⟨gx,1,none⟩ (I O (b:Int))) t l q g gf gx decl due season kind area border b v D:=by
 have:=h.ord;exact⟨h.tp.set (by omega) _,h.res.far (by omega) _,h.fb.far (by omega) _,h.xb.set 1 _,h.own.setOther (fun e=>by have:=(h.own.lt e).1;omega) _,h.ord⟩
theorem LnS.snoc {H:Nat}(h:LnS w wr t l q g gf gx decl due season kind area border a v D)(ho:qX SI w' 3 (gx+1) v' D')(ha:jN wr w' (gx+1) H v v'):LnS w (w'.setCell ⟨gx,2,none⟩ v') t l q g gf gx decl due season kind area border a v' D' :=by
 have hord:=h.ord;have k:∀b,b≤gx→b<wr.heap.size→w'.heap[b]?=wr.heap[b]?:=fun b h1 h2=>ha.far b h2 fun e=>by have:=(h.own.lt e).1;omega
 have x:Blk w' gx #[I O decl,I O (a:Int),v,I O season,I O kind,I O area,I O border] 89:=(k gx mle h.xb.lt).trans h.xb;exact⟨(h.tp.belowB (ha.below.mono (by omega))).set (by omega) _,Blk.far ((k g (by omega) h.res.lt).trans h.res) (by omega) _,Blk.far ((k gf (by omega) h.fb.lt).trans h.fb) (by omega) _,x.set 2 _,ho.setOther (fun e=>by have:=(ho.lt e).1;omega) _,h.ord⟩
theorem LnS.mid {H:Nat}(h:LnS w wr t l q g gf gx decl due season kind area border a v D)(ha:jN wr w' (gx+1) H v v'):Blk w' gx #[I O decl,I O (a:Int),v,I O season,I O kind,I O area,I O border] 89 :=
 (ha.far gx h.xb.lt fun e=>by have:=(h.own.lt e).1;omega).trans h.xb
end
def uFA (w:World) (t:Nat) (l:List Int) (Y:YLaw) (e:Ending) (w' : World):Prop :=
 ∃(r:RL) (x:LineF) (q:Nat),e = .returned (.agg (jS r).toArray)∧LV (jP w.heap.size) w' r x∧vX Y x∧(x.decl<120∧0≤x.sch)∧TpB w w' t l q
theorem or_bit {a:Nat}{n:Int}(ha:a<65536)(h0:0≤n)(h15:n≤15):bits BinOp.or IntKind.i64 (a:Int) (wrap64 (2 ^ n.toNat))=((a ||| 2 ^ n.toNat:Nat):Int):=by
 have hp:(2:Nat) ^ n.toNat<65536:=by
  have:(2:Nat) ^ n.toNat≤2 ^ 15:=Nat.pow_le_pow_right (by omega) (by omega);omega
 have hw:wrap64 ((2:Int) ^ n.toNat)=((2 ^ n.toNat:Nat):Int):=by
  have e:((2:Int) ^ n.toNat)=((2 ^ n.toNat:Nat):Int):=by push_cast;rfl
  rw[e];generalize 2 ^ n.toNat=m at *;unfold wrap64;omega
 rw[hw,uM _ _ (by omega) (by omega)]
theorem xLA {Q:Nat→Prop}(d t:Nat)(l:List Int)(a0:Nat)(r:RY)(Y:YLaw)(w:World)(h:qV w t l a0)(hQ:∀b,Q b→b≠t)(hY:xY Q w d r.sp Y.sch)(hsn:r.sn=Y.sch.length)(hl:YOk Y) :
  Calls Tryz.prog 46 #[.pointer (some ⟨t,0,none⟩),.agg (yCells r).toArray] w (uFA w t l Y):=by
 obtain⟨sp,sn,sc,tp,tn,tc,ldue,llast,lmille,gp,gn,gc,cp,ev,un,wd⟩:=r;simp only at hY hsn;have hlen:=hl.len;have HN:=mh hsn.symm;rw[← hsn]at hlen;clear hsn;have HY:=mh (fun (W:World) (hb:But t w W)=>show xY Q W d sp Y.sch from hY.change hb.size fun b q hl=>⟨hb.block b hl (hQ b q),q⟩);have HOK:=mh hl;have ASC:=mh (wD hl.sch).asc;have NUM:=mh (show ∀s∈Y.sch,0≤s.num∧s.num≤15 from fun s hs=>(wD hl.sch).num hs);have H0:=mh (TpB.init h);have FC:=mh (fun (W:World) (h:qV W t l a0)=>xYA t l a0 W h);have T3:=mh (fun (W:World) (q:Nat) (h:qV W t l q)=>qF t l q 3 W h (by omega));have TO:=mh (fun (W:World) (q:Nat) (h:qV W t l q)=>xE t l q 3 W h (by omega) (by omega));obtain⟨gy,eg⟩:∃g,w.heap.size=g:=⟨_,rfl⟩;obtain⟨g,eg2⟩:∃g,gy+1=g:=⟨_,rfl⟩;have HG:=mh (show w.heap.size≤gy∧gy+1=g∧t<gy by have:=h.lt;omega);have P0:=mh ((H0.alloc (.cells #[.slice sp sn sc,.slice tp tn tc,I O ldue,I O llast,I O lmille,.slice gp gn gc,I O cp,I O ev,I O un,I O wd] 29)).alloc (.cells #[I O 0,I O 0,.slice none 0 0,I O 0,I O 0,I O 0,I O 0] 89));have BY:=mh (show Blk ((w.alloc (.cells #[.slice sp sn sc,.slice tp tn tc,I O ldue,I O llast,I O lmille,.slice gp gn gc,I O cp,I O ev,I O un,I O wd] 29)).alloc (.cells #[I O 0,I O 0,.slice none 0 0,I O 0,I O 0,I O 0,I O 0] 89)) gy _ 29 from eg▸(Blk.new w _ _).below ((brf _ _).alloc mle _))
 have B0:=mh (show Blk ((w.alloc (.cells #[.slice sp sn sc,.slice tp tn tc,I O ldue,I O llast,I O lmille,.slice gp gn gc,I O cp,I O ev,I O un,I O wd] 29)).alloc (.cells #[I O 0,I O 0,.slice none 0 0,I O 0,I O 0,I O 0,I O 0] 89)) g #[I O 0,I O 0,.slice none 0 0,I O 0,I O 0,I O 0,I O 0] 89 from by
  have e:(w.alloc (.cells #[.slice sp sn sc,.slice tp tn tc,I O ldue,I O llast,I O lmille,.slice gp gn gc,I O cp,I O ev,I O un,I O wd] 29)).heap.size=g:=by rw[World.size_alloc];omega
  exact e▸Blk.new _ _ _)
 clear h hY hl;simp only[yCells]
 go_enter Tryz.func46,Tryz.ntmps46
 go_wp2_with fail
 clear eg eg2;generalize (w.alloc (.cells #[.slice sp sn sc,.slice tp tn tc,I O ldue,I O llast,I O lmille,.slice gp gn gc,I O cp,I O ev,I O un,I O wd] 29)).alloc (.cells #[I O 0,I O 0,.slice none 0 0,I O 0,I O 0,I O 0,I O 0] 89)=w0 at *;(with_reducible refine cmo (FC.out _ P0.out.tape) ?_);rintro e w1 ⟨⟨decl,due,season,kind,area,border⟩,q1,rfl,hseen,hd0,hd1,hd2,hp1⟩;simp only at hseen hd0 hd1 hd2;simp only[dB];have P1:=mh (P0.trans hp1);have BY1:=mh (BY.but hp1.but (by have:=HG.out;omega));have B1:=mh (B0.but hp1.but (by have:=HG.out;omega));have SEEN:=mh hseen;have hdb:0≤decl:=by omega
 have y0:=((BY1.below ((brf w1.heap.size w1).alloc mle (.cells #[I O decl,I O due,I O season,I O kind,I O area,I O border] 126))).below ((brf _ _).alloc mle (.cells #[I O decl,I O 0,.slice none 0 0,I O season,I O kind,I O area,I O border] 89))).cell 0;obtain⟨gf,ef⟩:∃g,w1.heap.size=g:=⟨_,rfl⟩;obtain⟨gx,ex⟩:∃g,gf+1=g:=⟨_,rfl⟩
 have HS:=mh (show LnS w ((w1.alloc (.cells #[I O decl,I O due,I O season,I O kind,I O area,I O border] 126)).alloc (.cells #[I O decl,I O ((0:Nat):Int),.slice none 0 0,I O season,I O kind,I O area,I O border] 89)) t l q1 g gf gx decl due season kind area border 0 (.slice none 0 0) [] from by
  have e:(w1.alloc (.cells #[I O decl,I O due,I O season,I O kind,I O area,I O border] 126)).heap.size=gx:=by rw[World.size_alloc];omega
  have hgl:=B1.lt
  exact⟨(P1.alloc _).alloc _,(B1.below ((brf _ _).alloc mle _)).below ((brf _ _).alloc mle _),(ef▸(Blk.new w1 _ _)).below ((brf _ _).alloc mle _),e▸Blk.new _ _ _,qX.nil _ _ _,by have:=HG.out;omega⟩)
 rw[show((0:Nat):Int)=0 from rfl]at HS;clear hseen hp1
 go_wp2_with fail
 go_loopw [22] (fun i wr=>∃(k q a:Nat) (D:List Int) (v:Value),k≤sn∧i=I O k∧nX Y.sch decl k a D∧LnS w wr t l q g gf gx decl due season kind area border a v D) (fun i _=>sn - (intOf i).toNat)
 case atStart=>exact⟨0,q1,0, [],_,Nat.zero_le _,rfl,nX.nil _ _,HS.out⟩
 case round =>
  clear HS P0 BY B0 P1 BY1 B1 FC y0 ef ex;obtain⟨wo,rfl⟩:∃wo:World,wo=wr:=⟨_,rfl⟩;obtain⟨k,q,a,D,v,hk,rfl,hM,hS⟩:=hrel;have HM:=mh hM;have HSS:=mh hS;have hk0:(0:Int)≤(k:Int):=inn _
  by_cases hlt:k<sn
  ·have hk1:(k:Int)<(sn:Int):=by omega
   have hlt' : k<Y.sch.length:=by rw[HN.out];exact hlt
   obtain⟨b,off,y,esp,hbl,⟨c0,c1,c2,c3,c4,c5,c6,c7,c8,c9⟩,hv⟩:=(HY _ hS.tp.but).at hlt'; have hnum:=hv.num;have hn:=NUM.out _ (List.getElem_mem hlt');have HNO:=mh (hM.no ASC NUM hlt');have HYES:=mh (fun (u:Int) (h0:0≤u) (h1:u≤decl)=>hM.yes (u:=u) ASC NUM hlt' h0 h1);obtain⟨num,nm,⟨o,tn2,tm,tq,tl,tz⟩,bp,bn,bc,least,exs,needs⟩:=y;simp only at c0 c1 c2 c3 c4 c5 c6 c7 c8 c9 hnum;subst esp;rw[← hnum]at hn HYES;have OB:=mh (or_bit hM.lt hn.1 hn.2);obtain⟨a2,ea2⟩:∃x,a ||| 2 ^ num.toNat=x:=⟨_,rfl⟩
   rw[ea2]at OB HYES;have HS1:=mh (hS.below ((brf wo.heap.size wo).alloc mle (.cells #[I O num,.string nm,I O o,I O tn2,I O tm,.slice tq tl tz,.slice bp bn bc,I O least,I O exs,.bool needs] 81)));have BS1:=mh (Blk.new wo #[I O num,.string nm,I O o,I O tn2,I O tm,.slice tq tl tz,.slice bp bn bc,I O least,I O exs,.bool needs] 81);have HWT:=mh (show wo.heap.size≠t by have:=hS.tp.tape.lt;omega);have T3' := mh (T3 _ q HS1.tp.tape);obtain⟨g3,eg3⟩:∃x,qN l q 3=x:=⟨_,rfl⟩;obtain⟨q3,eq3⟩:∃x,qM l q=x:=⟨_,rfl⟩;rw[eg3,eq3]at T3'; clear hM hS hv hbl hnum ea2 eg3 eq3
   by_cases hg:0<g3
   rotate_left
   ·go_wp2_with (first|(go_at_call 43;(with_reducible refine cmo T3'.out ?_);rintro e w3 ⟨rfl,ht3,hb3⟩;have HS3:=mh (HS1.next ht3 hb3);have BS3:=mh (BS1.but hb3 HWT);have x2:=HS3.xb.cell 2;have x2f:=HS3.xb.fr 2;  clear ht3 hb3)|(at_builtin;(refine qX.append xR rfl (.tmp 46) (.tmp 48) rfl (gx+1) v D 0 #[I O 0] rfl HS3.own rfl (by simp[Act.eval]) (show gx<w3.heap.size from HS3.xb.lt) (by have:=HM.len;omega) (by decide) ?_);intro v6 w6 hO6 hap6;obtain⟨p6,c6,rfl, -⟩:=hO6.cut (n:=k+1) (by rw[lap,HM.out.len];rfl);have HS6:=mh (HS3.snoc hO6 hap6);have XM:=mh (HS3.mid hap6);have x6:=XM.cell 2;have x6f:=XM.fr 2;clear hO6 hap6)|fail)
    go_roundw
    case rel=>exact⟨k+1,_,a,D ++ [0],_,by omega,by go_num,HNO.out,HS6.out⟩
    case measure=>simp[intOf];omega
   ·go_wp2_with (go_at_call 43;(with_reducible refine cmo T3'.out ?_);rintro e w3 ⟨rfl,ht3,hb3⟩;have HS3:=mh (HS1.next ht3 hb3);have BS3:=mh (BS1.but hb3 HWT);have s0:=BS3.cell 0;have x1:=HS3.xb.cell 1;have x1f:=HS3.xb.fr 1;  clear ht3 hb3)
    clear c0 c1 c2 c3 c4 c5 c6 c7 c8 c9
    go_region
    rw[OB.out];have HS4:=mh ((HS3.bit a2).below (brf _ _).drew);generalize (w3.setCell ⟨gx,1,none⟩ (I O (a2:Int))).drew=w4 at *;clear x1 x1f s0;have f0:=HS4.fb.cell 0;have TO' := mh (TO _ q3 HS4.tp.tape);obtain⟨c,ec⟩:∃c,(qN l q3 3==3 - 1)=c:=⟨_,rfl⟩;obtain⟨q4,eq4⟩:∃x,qM l q3=x:=⟨_,rfl⟩;rw[ec,eq4]at TO'; clear ec eq4
    cases c
    ·have YY:=mh (HYES decl hdb (Int.le_refl _))
     go_wp2_with (first|(go_at_call 44;(with_reducible refine cmo TO'.out ?_);rintro e w5 ⟨rfl,ht5,hb5⟩;have HS5:=mh (HS4.next ht5 hb5);have x2:=HS5.xb.cell 2;have x2f:=HS5.xb.fr 2;have g0:=HS5.fb.cell 0;clear ht5 hb5)|(at_builtin;(refine qX.append xR rfl (.tmp 46) (.tmp 48) rfl (gx+1) v D decl #[I O decl] rfl HS5.own rfl (by simp[Act.eval]) (show gx<w5.heap.size from HS5.xb.lt) (by have:=HM.len;omega) (by decide) ?_);intro v6 w6 hO6 hap6;obtain⟨p6,c6,rfl, -⟩:=hO6.cut (n:=k+1) (by rw[lap,HM.out.len];rfl);have HS6:=mh (HS5.snoc hO6 hap6);have XM:=mh (HS5.mid hap6);have x6:=XM.cell 2;have x6f:=XM.fr 2;clear hO6 hap6)|fail)
     go_roundw
     case rel=>exact⟨k+1,_,a2,D ++ [decl],_,by omega,by go_num,YY.out,HS6.out⟩
     case measure=>simp[intOf];omega
    ·have dd:IntKind.i64.wrap (decl+1)=decl+1:=by rw[IntKind.wrap_i64];omega
     obtain⟨u,eu⟩:∃x,qN l q4 (decl+1)=x:=⟨_,rfl⟩;have hu:=qG l q4 (n:=decl+1) (by omega);rw[eu]at hu;have TN:=mh (fun (W:World) (h:qV W t l q4)=>eu▸qF t l q4 (decl+1) W h (by omega));have YY:=mh (HYES u hu.1 (by omega));clear eu hu
     go_wp2_with (first|(go_at_call 44;(with_reducible refine cmo TO'.out ?_);rintro e w5 ⟨rfl,ht5,hb5⟩;have HS5:=mh (HS4.next ht5 hb5);have x2:=HS5.xb.cell 2;have x2f:=HS5.xb.fr 2;have g0:=HS5.fb.cell 0;clear ht5 hb5)|(go_at_call 43;(with_reducible refine cmo (TN.out _ HS5.out.tp.tape) ?_);rintro e w7 ⟨rfl,ht7,hb7⟩;have HS7:=mh (HS5.next ht7 hb7);have y2:=HS7.xb.cell 2;have y2f:=HS7.xb.fr 2;clear ht7 hb7)|(at_builtin;(refine qX.append xR rfl (.tmp 46) (.tmp 48) rfl (gx+1) v D u #[I O u] rfl HS7.own rfl (by simp[Act.eval]) (show gx<w7.heap.size from HS7.xb.lt) (by have:=HM.len;omega) (by decide) ?_);intro v6 w6 hO6 hap6;obtain⟨p6,c6,rfl, -⟩:=hO6.cut (n:=k+1) (by rw[lap,HM.out.len];rfl);have HS6:=mh (HS7.snoc hO6 hap6);have XM:=mh (HS7.mid hap6);have x6:=XM.cell 2;have x6f:=XM.fr 2;clear hO6 hap6)|fail)
     go_roundw
     case rel=>exact⟨k+1,_,a2,D ++ [u],_,by omega,by go_num,YY.out,HS6.out⟩
     case measure=>simp[intOf];omega
  ·obtain rfl:k=sn:=by omega
   obtain⟨dp,dc,rfl,hz,hq,hc, -,hrec⟩:=hS.own.cut hM.len;have HRES:=mh (show vX Y ⟨decl,(a:Int),D,season,kind,area,border⟩ from(HN.out▸hM).line HOK SEEN)
   have HLV:=mh (fun (W:World) (hI:qR W dp D)=>show LV (jP w.heap.size) W ⟨decl,(a:Int),dp,k,dc,season,kind,area,border⟩ ⟨decl,(a:Int),D,season,kind,area,border⟩ from
    ⟨rfl,rfl,hI,hM.len.symm,hc,fun e=>(hz e).1,fun x e => .inr (by have h1:=(hq x e).2.2.1;have h2:=hS.ord;show w.heap.size≤x.block;omega),rfl,rfl,rfl,rfl⟩)
   have HPF:=mh (hS.tp.put7 hS.ord.1 (I O decl) (I O (a:Int)) (.slice dp k dc) (I O season) (I O kind) (I O area) (I O border));have HBF:=mh (hS.res.put7 (I O decl) (I O (a:Int)) (.slice dp k dc) (I O season) (I O kind) (I O area) (I O border))
   have HIF:=mh (show qR ((((((((wo.setCell ⟨g,0,none⟩ (I O decl)).setCell ⟨g,1,none⟩ (I O (a:Int))).setCell ⟨g,2,none⟩ (.slice dp k dc)).setCell ⟨g,3,none⟩ (I O season)).setCell ⟨g,4,none⟩ (I O kind)).setCell ⟨g,5,none⟩ (I O area)).setCell ⟨g,6,none⟩ (I O border))) dp D from by
    have ho:qX SI wo 3 (gx+1) (.slice dp k dc) D:=hS.own;have hgn:(Value.slice dp k dc).ownBlock≠some g:=fun e=>by have h1:=(ho.lt e).1;have h2:=hS.ord;omega
    have ho2:=((((((ho.setOther hgn (i:=0) (I O decl)).setOther hgn (i:=1) (I O (a:Int))).setOther hgn (i:=2) (.slice dp k dc)).setOther hgn (i:=3) (I O season)).setOther hgn (i:=4) (I O kind)).setOther hgn (i:=5) (I O area)).setOther hgn (i:=6) (I O border);obtain⟨p', c', e', -, -, -, -,hr'⟩:=ho2.cut hM.len
    cases e'
    exact hr'.ints)
   have x0:=HSS.xb.cell 0;have x1:=HSS.xb.cell 1;have x2:=HSS.xb.cell 2;have x3:=HSS.xb.cell 3;have x4:=HSS.xb.cell 4;have x5:=HSS.xb.cell 5;have x6:=HSS.xb.cell 6;have r0:=HSS.res.cell 0;have r1:=HSS.res.cell 1;have r2:=HSS.res.cell 2;have r3:=HSS.res.cell 3;have r4:=HSS.res.cell 4;have r5:=HSS.res.cell 5;have r6:=HSS.res.cell 6;have m0:=HSS.res.fr 0;have m1:=HSS.res.fr 1;have m2:=HSS.res.fr 2;have m3:=HSS.res.fr 3;have m4:=HSS.res.fr 4;have m5:=HSS.res.fr 5;have m6:=HSS.res.fr 6;clear hM hS hz hq hc hrec
   go_wp2
   generalize (((((((wo.setCell ⟨g,0,none⟩ (I O decl)).setCell ⟨g,1,none⟩ (I O (a:Int))).setCell ⟨g,2,none⟩ (.slice dp k dc)).setCell ⟨g,3,none⟩ (I O season)).setCell ⟨g,4,none⟩ (I O kind)).setCell ⟨g,5,none⟩ (I O area)).setCell ⟨g,6,none⟩ (I O border))=wf at *;have d0:=HBF.cell 0;have d1:=HBF.cell 1;have d2:=HBF.cell 2;have d3:=HBF.cell 3;have d4:=HBF.cell 4;have d5:=HBF.cell 5;have d6:=HBF.cell 6;exact bodyPost_ret (v := .agg #[I O decl,I O (a:Int),.slice dp k dc,I O season,I O kind,I O area,I O border]) (by simp[results,Tryz.results46,go_sem,d0,d1,d2,d3,d4,d5,d6]) rfl ⟨_,_,_,rfl,HLV.out _ HIF.out,HRES.out,⟨hd2,inn _⟩,HPF.out⟩
end Go.Proofs.YtefcalgjnkigjaaGreat
namespace Go.Proofs.YtefcalgjnkigjaaGreat
open Go.RowKit
theorem yL.pairs_at {w:World}{T:TypeId}{B n c:Nat}{p:Option Addr}{D:List (Int × Int)}(h:yL w T B (.slice p n c) D):jF w p D:=by
 obtain⟨p', c', e,hP⟩:=h.pairs
 cases e
 exact hP
theorem wK (D:List (Int × Int))(d:Int × Int)(i:Nat)(hi:i<D.length):(D ++ [d]).getD i (0,0)=D.getD i (0,0):=by
 simp[List.getD_eq_getElem?_getD,List.getElem?_append_left hi]
theorem wV (D:List (Int × Int))(d:Int × Int):(D ++ [d]).getD D.length (0,0)=d:=by
 simp[List.getD_eq_getElem?_getD]
theorem Ce.Right.snoc {D:List (Int × Int)}{x y:Int}(h:Ce.Right D)(hl:D.length<6)(hx:0≤x∧x≤68719476736)(hy:0≤y∧y≤1000)(hp:D.length≠0→Ce.fr D (D.length - 1)<x∧Ce.mi D (D.length - 1)≤y):Ce.Right (D ++ [(x,y)]):=by
 refine⟨by rw[lap];simp;omega,fun i hi=>?_⟩
 rw[lap,List.length_singleton]at hi
 by_cases e:i=D.length
 ·subst e
  rw[Ce.okAt_iff];have e1:Ce.fr (D ++ [(x,y)]) D.length=x:=by unfold Ce.fr;rw[wV]
  have e2:Ce.mi (D ++ [(x,y)]) D.length=y:=by unfold Ce.mi;rw[wV]
  rw[e1,e2];refine⟨hx,hy.1,hy.2,?_⟩
  by_cases hz:D.length=0
  ·exact .inl hz
  ·have e3:Ce.fr (D ++ [(x,y)]) (D.length - 1)=Ce.fr D (D.length - 1):=by unfold Ce.fr;rw[wK _ _ _ (by omega)]
   have e4:Ce.mi (D ++ [(x,y)]) (D.length - 1)=Ce.mi D (D.length - 1):=by unfold Ce.mi;rw[wK _ _ _ (by omega)]
   rw[e3,e4];exact .inr (hp hz)
 ·have hi' : i<D.length:=by omega
  have hk:=h.ok i hi'; rw[Ce.okAt_iff]at hk ⊢;unfold Ce.fr Ce.mi at *;rw[wK _ _ _ hi', wK _ _ _ (show i - 1<D.length by omega)];exact hk
def vHA (w:World) (t:Nat) (l:List Int) (e:Ending) (w' : World):Prop :=
 ∃p cap D q,e = .returned (.slice p D.length cap)∧yL w' 150 w.heap.size (.slice p D.length cap) D∧Ce.Right D∧D.length≤3∧qV w' t l q∧But t w w'
theorem kCA:(Tryz.prog.info? 150).map (fun i=>(i.zero,i.size,i.bytes))=some (some (.agg #[I O 0,I O 0]),2,16):=by kernel_rfl
structure vUA (w wr:World) (t:Nat) (l:List Int) (N k:Nat) (v:Value) (D:List (Int × Int)) (x y:Int) (q:Nat):Prop where
 len:D.length=k
 right:Ce.Right D
 x0:0≤x∧x≤3000*((k:Int)+1)
 y0:0≤y∧y≤300+400*(k:Int)
 last:k≠0→Ce.fr D (k - 1)<x∧Ce.mi D (k - 1)≤min y 1000
 own:yL wr 150 w.heap.size v D
 tape:qV wr t l q
 but:But t w wr
theorem Ce.Right.nil:Ce.Right []:=⟨by simp,fun i hi=>absurd hi (Nat.not_lt_zero i)⟩
theorem vU (t:Nat)(l:List Int)(a:Nat)(w:World)(h:qV w t l a) :
  Calls Tryz.prog 42 #[.pointer (some ⟨t,0,none⟩)] w (vHA w t l):=by
 obtain⟨gx,ex⟩:∃g,qN l a 3000=g:=⟨_,rfl⟩;obtain⟨gy,ey⟩:∃g,qN l (qM l a) 300=g:=⟨_,rfl⟩;obtain⟨gn,en⟩:∃g,qN l (qM l (qM l a)) 4=g:=⟨_,rfl⟩;obtain⟨x1,x2⟩:=qG l a (n:=3000) (by omega);obtain⟨y1,y2⟩:=qG l (qM l a) (n:=300) (by omega);obtain⟨n1,n2⟩:=qG l (qM l (qM l a)) (n:=4) (by omega);rw[ex]at x1 x2;rw[ey]at y1 y2;rw[en]at n1 n2;obtain⟨N,rfl⟩:∃N:Nat,gn=(N:Int):=Int.eq_ofNat_of_zero_le n1;have T1:=mh (ex▸qF t l a 3000 w h (by omega));have T2:=mh (fun (W:World) (h:qV W t l (qM l a))=>ey▸qF t l _ 300 W h (by omega));have T3:=mh (fun (W:World) (h:qV W t l (qM l (qM l a)))=>en▸qF t l _ 4 W h (by omega));have HN:=mh (fun (W:World) (q:Nat) (h:qV W t l q)=>qF t l q 400 W h (by omega));have HR:=mh (fun (W:World) (q:Nat) (h:qV W t l q)=>zU t l q 1 3000 W h (by omega) (by omega) (by omega));obtain⟨i0,hi,hz0,hz1,hz2⟩:=info_parts kCA;have HI:=mh (And.intro hi (And.intro hz0 (And.intro hz1 hz2)));have hlt:=h.lt;clear h hi hz0 hz1 hz2 ex ey en n1
 go_enter Tryz.func42,Tryz.ntmps42
 go_wp2_with (first|(go_at_call 43;first|(with_reducible refine cmo T1.out ?_;rintro e w1 ⟨rfl,ht1,hb1⟩)|(with_reducible refine cmo (T2.out _ ht1) ?_;rintro e w2 ⟨rfl,ht2,hb2⟩)|(with_reducible refine cmo (T3.out _ ht2) ?_;rintro e w3 ⟨rfl,ht3,hb3⟩)))
 have hst:vUA w w3 t l N 0 (.slice none 0 0) [] gx gy _:=⟨rfl,Ce.Right.nil,by omega,by omega,fun h=>absurd rfl h,yL.nil _ _ _,ht3,(hb1.trans hb2).trans hb3⟩;have HST:=mh hst;clear hst ht1 ht2 ht3 hb1 hb2 hb3 T1 T2 T3
 go_loopw [3,4,5,6] (fun v a m c wr=>∃(k:Nat) (D:List (Int × Int)) (x y:Int) (q:Nat),k≤N∧c=I O ((N:Int) - k)∧a=I O x∧m=I O y∧vUA w wr t l N k v D x y q) (fun _ _ _ c _=>(intOf c).toNat)
 case atStart=>exact⟨0, [],gx,gy,_,Nat.zero_le _,by simp,rfl,rfl,HST.out⟩
 case round =>
  clear HST;obtain⟨k,D,x,y,q,hk,rfl,rfl,rfl,hD⟩:=hrel;have H:=mh hD;have x0:=hD.x0;have y0:=hD.y0;have hsz:=hD.but.size;have hDl:=hD.len;clear hD
  by_cases hkN:k<N
  ·obtain⟨g,eg⟩:∃g,qN l q (3000 - 1+1)=g:=⟨_,rfl⟩
   obtain⟨g', eg'⟩:∃g,qN l (qM l q) 400=g:=⟨_,rfl⟩;obtain⟨g1,g2⟩:=qG l q (n:=3000 - 1+1) (by omega);obtain⟨g3,g4⟩:=qG l (qM l q) (n:=400) (by omega);rw[eg]at g1 g2;rw[eg']at g3 g4;have HR1:=mh (fun (W:World) (h:qV W t l q)=>eg▸HR.out W q h);have HN1:=mh (fun (W:World) (h:qV W t l (qM l q))=>eg' ▸ HN.out W _ h);clear eg eg' HR HN
   go_wp2_with (first|(at_builtin;(refine yL.append HI.1 HI.2.1 HI.2.2.1 HI.2.2.2 Tryz.underlying27 rfl (.tmp 17) (.tmp 22) rfl w.heap.size _ _ x (min y 1000) H.own rfl rfl (by omega) (by omega) ?_);intro v1 w4 hown4 hb4)|(go_at_call 45;refine(HR1 _ (H.tape.belowB hb4 (by omega))).mono ?_;rintro e w5 ⟨rfl,ht5,hb5⟩)|(go_at_call 43;refine(HN1 _ ht5).mono ?_;rintro e w6 ⟨rfl,ht6,hb6⟩))
   have hl4:=hb4.size;have hD2:vUA w w6 t l N (k+1) v1 (D ++ [(x,min y 1000)]) (x+(1+g)) (y+g') (qM l (qM l q)):=by
    refine⟨by rw[lap];simp;omega,H.right.snoc (by omega) (by omega) (by omega) (fun hz=>by rw[hDl]at hz ⊢;exact H.last hz),by omega,by omega,fun _=>?_,(hown4.butB hlt hb5).butB hlt hb6,ht6,?_⟩
    ·have e1:Ce.fr (D ++ [(x,min y 1000)]) (k+1 - 1)=x:=by unfold Ce.fr;rw[Nat.add_sub_cancel,← hDl,wV]
     have e2:Ce.mi (D ++ [(x,min y 1000)]) (k+1 - 1)=min y 1000:=by unfold Ce.mi;rw[Nat.add_sub_cancel,← hDl,wV]
     rw[e1,e2];omega
    ·exact(H.but.step hb4).trans (hb5.trans hb6)
   have HD2:=mh hD2;clear hD2 hown4 ht5 ht6 hb4 hb5 hb6
   go_roundw
   case rel=>exact⟨k+1,_,_,_,_,by omega,by congr 1;omega,rfl,rfl,HD2.out⟩
   case measure=>simp[intOf];omega
  ·obtain rfl:k=N:=by omega
   obtain⟨p,c,rfl,hP⟩:=H.own.pairs;clear hP hkN hk
   go_wp2
   go_ret
   exact⟨p,c,D,q,rfl,H.own,H.right,by omega,H.tape,H.but⟩
open Go
section
variable {P:Program} {ops:Array Oper} {Q:Exit→Act→World→Prop} {md:Region.Mode} {S:World→Prop} {k0:Nat}
def xD (md:Region.Mode) (ops:Array Oper) (j i:Nat):Bool :=
 match ops[j]? with
 | some o=>o.after.any fun e=>Region.binds md e&&e.on==i
 | none=>false
theorem wE {i j:Nat}{listed:Array Bool}(h:xD md ops j i=true)(hj:j∈Region.ready md ops listed):listed.getD i false=true:=by
 obtain⟨_,o,ho,hall⟩:=mem_ready.1 hj;unfold xD at h;rw[ho]at h;simp only[Array.any_eq_true', Bool.and_eq_true,beq_iff_eq]at h;obtain⟨e,he,hb,rfl⟩:=h;exact hall e he hb
theorem pZ {i:Nat}{listed:Array Bool}(h:listed.getD i true=false):¬listed.getD i false=true:=by
 intro h2
 rcases Nat.lt_or_ge i listed.size with h' | h'
 ·simp[h']at h h2;rw[h]at h2;cases h2
 ·simp[Array.getElem?_eq_none h']at h2
def zR (P:Program) (md:Region.Mode) (ops:Array Oper) (Q:Exit→Act→World→Prop) (S:World→Prop) (k0:Nat):Nat→Array Bool→Act→World→Prop
 | 0,listed,a,w=>Region.ready md ops listed = []∧Q .normal a w
 | fuel+1,listed,a,w=>(Region.ready md ops listed = []→Q .normal a w)∧∀i∈Region.ready md ops listed,
   (i=k0→wpOp P ops Q i (fun a' w' => wpAny P md ops Q fuel (listed.setIfInBounds i true) a' w') a w) ∧
   (i≠k0→wpOp P ops Q i (fun a' w' => S w' ∧ zR P md ops Q S k0 fuel (listed.setIfInBounds i true) a' w') a w)
theorem pX:∀(fuel:Nat) (listed:Array Bool)(a:Act)(w:World),zR P md ops Q S k0 fuel listed a w→wpAny P md ops Q fuel listed a w
 | 0,_,_,_,h=>h
 | fuel+1,_,_,_,h=>⟨h.1,fun i hi=>by
   by_cases e:i=k0
   ·exact(h.2 i hi).1 e
   ·exact wpOp_mono (fun a' w' h' => pX fuel _ a' w' h'.2) ((h.2 i hi).2 e)⟩
theorem rL {i m:Nat}{oi:Oper}{v:Value}(hi:ops[i]?=some oi)(hsel:∀(j:Nat) (o:Oper) cs b,ops[j]?=some o→o.op ≠ .select cs b)
  (hQ:∀c a w,Q (.panic c) (a.put oi.dst v) w→Q (.panic c) a w) (hk:i≠k0) (hm:xD md ops k0 m=true) :
  ∀(fuel:Nat) (listed:Array Bool) (a:Act) (w:World),
    (∀j oj,ops[j]?=some oj→j≠i→listed.getD j true=false→(∀e∈oj.after,Region.binds md e=true→e.on≠i)→oi.apart ops oj=true) →
    (m=i∨(listed.getD m true=false∧xD md ops m i=true)) →
    i∈Region.ready md ops listed→YieldsIf P ops S oi v a→S w →
    zR P md ops Q S k0 fuel (listed.setIfInBounds i true) (a.put oi.dst v) w→zR P md ops Q S k0 (fuel+1) listed a w:=by
 intro fuel
 induction fuel with
 | zero =>
   intro listed a w _ _ hr hy hS H;refine⟨fun h=>(by rw[h]at hr;cases hr),fun j hj=>?_⟩
   by_cases hji:j=i
   ·subst hji;exact⟨fun e=>absurd e hk,fun _=>hy.wpOp hi hS ⟨hS,H⟩⟩
   ·have:=ready_mono hj hji
    rw[H.1]at this
    cases this
 | succ fuel ih =>
   intro listed a w hfree hmi hr hy hS H;refine⟨fun h=>(by rw[h]at hr;cases hr),fun j hj=>?_⟩
   by_cases hji:j=i
   ·subst hji;exact⟨fun e=>absurd e hk,fun _=>hy.wpOp hi hS ⟨hS,H⟩⟩
   have hiun:=pZ (mem_ready.1 hr).1;have hjk:j≠k0:=by
    rintro rfl;have h1:=wE hm hj
    rcases hmi with rfl|⟨h2,_⟩
    ·exact hiun h1
    ·exact pZ h2 h1
   refine⟨fun e=>absurd e hjk,fun _=>?_⟩
   have h1:=(H.2 j (ready_mono hj hji)).2 hjk;obtain⟨hjun,oj,hoj,hall⟩:=mem_ready.1 hj;have hnot:∀e∈oj.after,Region.binds md e=true→e.on≠i:=fun e he hb heq=>hiun (heq▸hall e he hb)
   have h2:=wpOp_putIf hoj (hfree j oj hoj hji hjun hnot) (fun cs b=>hsel i oi cs b hi) (fun cs b=>hsel j oj cs b hoj) hQ hy h1;have hfree' : ∀k ok,ops[k]?=some ok→k≠i→(listed.setIfInBounds j true).getD k true=false →
     (∀e∈ok.after,Region.binds md e=true→e.on≠i)→oi.apart ops ok=true:=fun k ok hk hki hun hno=>by
    refine hfree k ok hk hki ?_ hno
    by_cases hjk:j=k
    ·subst hjk;exact hjun
    ·rw[getD_set_ne true hjk]at hun;exact hun
   have hmi' : m=i∨((listed.setIfInBounds j true).getD m true=false∧xD md ops m i=true):=by
    rcases hmi with h|⟨h3,h4⟩
    ·exact .inl h
    ·refine .inr ⟨?_,h4⟩
     have hjm:j≠m:=by rintro rfl;exact hiun (wE h4 hj)
     rw[getD_set_ne true hjm];exact h3
   refine wpOp_mono (fun a' w' h3=>⟨h3.2.1,ih (listed.setIfInBounds j true) a' w' hfree' hmi' (ready_mono hr (Ne.symm hji)) h3.1 h3.2.1 ?_⟩) h2
   rw[Array.setIfInBounds_comm _ _ hji];exact h3.2.2
theorem nZ {i:Nat}(m:Nat){oi:Oper}{v:Value}{fuel:Nat}{listed:Array Bool}{a:Act}{w:World}(hi:ops[i]?=some oi)
  (hs:Region.noSelect ops=true) (hf:Region.free md ops listed i=true) (hr:(Region.ready md ops listed).contains i=true)
  (hk:(i != k0&&xD md ops k0 m&&(m==i||(!listed.getD m true&&xD md ops m i)))=true)
  (hQ:∀c a w,Q (.panic c) (a.put oi.dst v) w→Q (.panic c) a w) (hy:YieldsIf P ops S oi v a) (hS:S w)
  (h:zR P md ops Q S k0 fuel (listed.setIfInBounds i true) (a.put oi.dst v) w):zR P md ops Q S k0 (fuel+1) listed a w:=by
 simp only[Bool.and_eq_true,bne_iff_ne,Bool.or_eq_true,beq_iff_eq,Bool.not_eq_true']at hk;exact rL hi (Region.noSelect_spec hs) hQ hk.1.1 hk.1.2 fuel listed a w (Region.free_spec hi hf) hk.2 (by simpa using hr) hy hS h
theorem jM {i:Nat}{o:Oper}{fuel:Nat}{listed:Array Bool}{a:Act}{w:World}(hr:Region.ready md ops listed = [i])(hk:(i==k0)=false)(ho:ops[i]?=some o)
  (h:∀K' : Act→World→Prop,Shut (∀a w,S w→zR P md ops Q S k0 fuel (listed.setIfInBounds i true) a w→K' a w)→if Region.wanted o (yielded ops a.tmps)=true then Oper.wp P o a w K' Q else K' (a.put o.dst undef) w) :
  zR P md ops Q S k0 (fuel+1) listed a w :=
 ⟨fun h0=>(by rw[hr]at h0;cases h0),fun j hj=>by
  rw[hr]at hj;obtain rfl:=List.mem_singleton.1 hj
  exact⟨fun e=>(by rw[e]at hk;simp at hk),fun _=>wpOp_step ho fun K' hK=>h K' fun a w hS hW=>hK a w ⟨hS,hW⟩⟩⟩
theorem gL {i j:Nat}{o p:Oper}{fuel:Nat}{listed:Array Bool}{a:Act}{w:World}(hr:Region.ready md ops listed = [i,j])(hk:(i==k0||j==k0)=false)(ho:ops[i]?=some o)(hp:ops[j]?=some p)
  (h:∀K' : Act→World→Prop,Shut (∀a w,S w→zR P md ops Q S k0 fuel (listed.setIfInBounds i true) a w→K' a w)→if Region.wanted o (yielded ops a.tmps)=true then Oper.wp P o a w K' Q else K' (a.put o.dst undef) w)
  (h2:∀K' : Act→World→Prop,Shut (∀a w,S w→zR P md ops Q S k0 fuel (listed.setIfInBounds j true) a w→K' a w)→if Region.wanted p (yielded ops a.tmps)=true then Oper.wp P p a w K' Q else K' (a.put p.dst undef) w) :
  zR P md ops Q S k0 (fuel+1) listed a w :=
 ⟨fun h0=>(by rw[hr]at h0;cases h0),fun n hn=>by
  rw[hr]at hn;simp only[Bool.or_eq_false_iff,beq_eq_false_iff_ne]at hk
  rcases List.mem_cons.1 hn with rfl|hn
  ·exact⟨fun e=>absurd e hk.1,fun _=>wpOp_step ho fun K' hK=>h K' fun a w hS hW=>hK a w ⟨hS,hW⟩⟩
  ·obtain rfl:=List.mem_singleton.1 hn
   exact⟨fun e=>absurd e hk.2,fun _=>wpOp_step hp fun K' hK=>h2 K' fun a w hS hW=>hK a w ⟨hS,hW⟩⟩⟩
theorem yJ {o:Oper}{fuel:Nat}{listed:Array Bool}{a:Act}{w:World}(hr:Region.ready md ops listed = [k0])(ho:ops[k0]?=some o)
  (h:∀K' : Act→World→Prop,Shut (∀a w,wpAnyH P md ops Q (fun _=>True) fuel (listed.setIfInBounds k0 true) a w→K' a w)→if Region.wanted o (yielded ops a.tmps)=true then Oper.wp P o a w K' Q else K' (a.put o.dst undef) w) :
  zR P md ops Q S k0 (fuel+1) listed a w :=
 ⟨fun h0=>(by rw[hr]at h0;cases h0),fun j hj=>by
  rw[hr]at hj;obtain rfl:=List.mem_singleton.1 hj
  exact⟨fun _=>wpOp_step ho fun K' hK=>h K' fun a w hW=>hK a w (wpAny_of_held _ _ _ _ hW),fun e=>absurd rfl e⟩⟩
theorem kD {id:Nat}{a:Act}{w:World}(S:World→Prop)(k0:Nat)(hm:P.follows .mixedOrders=true)(hS:S w.drew)
  (h:S w.drew→zR P .any ops Q S k0 ops.size (Array.replicate ops.size false) a w.drew):(Code.region id ops true).wp P Q a w :=
 wp_region_any hm (pX _ _ _ _ (h hS))
end
section
variable {P:Program} {ops:Array Oper} {Q:Exit→Act→World→Prop} {md:Region.Mode} {S:World→Prop} {k0:Nat}
theorem fQ:∀(fuel:Nat) (listed:Array Bool)(a:Act)(w:World),wpAny P md ops Q fuel listed a w→wpAnyH P md ops Q (fun _=>True) fuel listed a w
 | 0,_,_,_,h=>h
 | fuel+1,_,_,_,h=>⟨h.1,fun i hi=>wpOp_mono (fun a' w' h' => ⟨trivial,fQ fuel _ a' w' h'⟩) (h.2 i hi)⟩
end
end Go.Proofs.YtefcalgjnkigjaaGreat
namespace Go.Proofs.YtefcalgjnkigjaaGreat
theorem tkG {P:Program}{md:Region.Mode}{ops:Array Oper}{Q:Exit→Act→World→Prop}{S:World→Prop}{k0 fuel:Nat}{listed:Array Bool}{a:Act}{w:World}{v:Value}{op:Op}{ty:TypeId}{ps:String}{af:Array Edge}{gd:Option (Nat × Bool)}(i s:Nat){b:Act}{l:Array Bool}(h:zR P md ops Q S k0 fuel l b w)(m:Nat:=i)
 (hi:ops[i]?=some ⟨some s,op,ty,ps,af,gd⟩:=by rfl) (hs:Region.noSelect ops=true:=by kernel_rfl) (hf:Region.free md ops listed i=true:=by kernel_rfl) (hr:(Region.ready md ops listed).contains i=true:=by kernel_rfl)
 (hk:(i != k0&&xD md ops k0 m&&(m==i||(!listed.getD m true&&xD md ops m i)))=true:=by kernel_rfl)
 (hQ:∀c a w,Q (.panic c) (a.put (some s) v) w→Q (.panic c) a w:=by exact fun _ _ _ h=>h)
 (hw:Region.wanted ⟨some s,op,ty,ps,af,gd⟩ (yielded ops a.tmps)=true:=by kernel_rfl)
 (hy:∀w,S w→(execOp a.eval ⟨some s,op,ty,ps,af,gd⟩).run P w = .ok (.value v) w:=by intro W0 hSw;(try dsimp only at hSw);go_simp;try with_reducible rfl)
 (hS:S w:=by assumption)
 (hb:a.put (some s) v=b:=by (try simp only[Act.put,mnA,mnB,mnC]);try exact rfl)
 (hl:listed.setIfInBounds i true=l:=by (try simp only[mnA,mnB,mnC]);try exact rfl):zR P md ops Q S k0 (fuel+1) listed a w:=by
 subst hb;subst hl;exact nZ m hi hs hf hr hk hQ (Or.inl ⟨hw,hy⟩) hS h
end Go.Proofs.YtefcalgjnkigjaaGreat
