/- Packed. -/
import Derived.Test.YtljibgchickcpaaGreatDoorC37
set_option maxRecDepth 100000
set_option maxHeartbeats 8000000
open Go.Value renaming int → I
open Go.IntKind renaming i64 → O
namespace Go.Proofs.YtljibgchickcpaaGreatDoor
open Go.RowKit Sc As Dn
structure DcS (w W:World) (t:Nat) (l:List Int) (q g3 d:Nat) (r:RY) (Y:YLaw) (p:Option Addr) (F:List FarmF):Prop where
 tp:TpB w W t l q
 res:Blk W w.heap.size #[I O 0,I O 0,I O 0,.slice none 0 0,.slice none 0 0] 26
 bl:Blk W g3 #[.slice r.sp r.sn r.sc,.slice r.tp r.tn r.tc,I O r.due,I O r.last,I O r.mille,.slice r.gp r.gn r.gc,I O r.cap,I O r.env,I O r.unit,I O r.width] 58
 yv:YV (NewQ w.heap.size) W d r Y
 fs:FsAt (NewQ w.heap.size) W p F
 nice:Nice5 Y F
 up:w.heap.size<g3
section
variable {w W W' : World} {t q q' g3 d:Nat} {l:List Int} {r:RY} {Y:YLaw} {p:Option Addr} {F:List FarmF}
theorem DcS.lt (h:DcS w W t l q g3 d r Y p F):w.heap.size<W.heap.size:=h.res.lt
theorem DcS.below (h:DcS w W t l q g3 d r Y p F)(hb:Below W.heap.size W W'):DcS w W' t l q g3 d r Y p F:=⟨h.tp.below hb,h.res.below hb,h.bl.below hb,h.yv.below hb,h.fs.below hb,h.nice,h.up⟩
theorem DcS.next (h:DcS w W t l q g3 d r Y p F)(ht:TapeAt W' t l q')(hb:But t W W'):DcS w W' t l q' g3 d r Y p F:=by
 have:=h.tp.lt;have:=h.up;exact⟨h.tp.next ht hb,h.res.but hb (by omega),h.bl.but hb (by omega),h.yv.change hb.size fun b k hl=>⟨hb.block b hl (by have:w.heap.size≤b:=k;omega),k⟩,h.fs.change hb.size fun b k hl=>⟨hb.block b hl (by have:w.heap.size≤b:=k;omega),k⟩,h.nice,h.up⟩
theorem DcS.fill {fb fo gd:Nat}{rd:RD}{D:Dec}(h:DcS w W t l q g3 d r Y (some ⟨fb,fo,none⟩) F)(A:Blk W gd #[I O 0,I O 0,I O 0,.slice none 0 0,.slice none 0 0] 26)(g1:w.heap.size<gd)(g2:g3<gd)(g4:fb<gd)(na:∀i,(Value.slice rd.ap rd.an rd.ac).ownBlock=some i→i≠gd)(nr:∀i,(Value.slice rd.rp rd.rn rd.rc).ownBlock=some i→i≠gd)
  (hd:DO (w.heap.size+1) W rd D) (ks:∀k (h:k<F.length),W.cell? ⟨fb,fo+k*3,none⟩=some (I O F[k].farm)) :
  ∃W9,(((((W.setCell ⟨gd,0,none⟩ (I O rd.year)).setCell ⟨gd,1,none⟩ (I O rd.farm)).setCell ⟨gd,2,none⟩ (I O rd.ver)).setCell ⟨gd,3,none⟩ (.slice rd.ap rd.an rd.ac)).setCell ⟨gd,4,none⟩ (.slice rd.rp rd.rn rd.rc))=W9∧Blk W9 w.heap.size #[I O 0,I O 0,I O 0,.slice none 0 0,.slice none 0 0] 26∧TpB w W9 t l q∧DO (w.heap.size+1) W9 rd D∧Blk W9 gd #[I O rd.year,I O rd.farm,I O rd.ver,.slice rd.ap rd.an rd.ac,.slice rd.rp rd.rn rd.rc] 26∧W9.cell? ⟨g3,0,none⟩=some (.slice r.sp r.sn r.sc)∧W9.cell? ⟨g3,1,none⟩=some (.slice r.tp r.tn r.tc)∧W9.cell? ⟨g3,2,none⟩=some (I O r.due)∧W9.cell? ⟨g3,3,none⟩=some (I O r.last)∧W9.cell? ⟨g3,4,none⟩=some (I O r.mille)∧W9.cell? ⟨g3,5,none⟩=some (.slice r.gp r.gn r.gc)∧W9.cell? ⟨g3,6,none⟩=some (I O r.cap)∧W9.cell? ⟨g3,7,none⟩=some (I O r.env)∧W9.cell? ⟨g3,8,none⟩=some (I O r.unit)∧W9.cell? ⟨g3,9,none⟩=some (I O r.width)∧(∀k (h:k<F.length),W9.cell? ⟨fb,fo+k*3,none⟩=some (I O F[k].farm)):=by
 have hb:But gd W (((((W.setCell ⟨gd,0,none⟩ (I O rd.year)).setCell ⟨gd,1,none⟩ (I O rd.farm)).setCell ⟨gd,2,none⟩ (I O rd.ver)).setCell ⟨gd,3,none⟩ (.slice rd.ap rd.an rd.ac)).setCell ⟨gd,4,none⟩ (.slice rd.rp rd.rn rd.rc)):=But.set5 _ _ _ _ _;have B9:Blk (((((W.setCell ⟨gd,0,none⟩ (I O rd.year)).setCell ⟨gd,1,none⟩ (I O rd.farm)).setCell ⟨gd,2,none⟩ (I O rd.ver)).setCell ⟨gd,3,none⟩ (.slice rd.ap rd.an rd.ac)).setCell ⟨gd,4,none⟩ (.slice rd.rp rd.rn rd.rc)) gd #[I O rd.year,I O rd.farm,I O rd.ver,.slice rd.ap rd.an rd.ac,.slice rd.rp rd.rn rd.rc] 26:=((((A.set 0 _).set 1 _).set 2 _).set 3 _).set 4 _;generalize (((((W.setCell ⟨gd,0,none⟩ (I O rd.year)).setCell ⟨gd,1,none⟩ (I O rd.farm)).setCell ⟨gd,2,none⟩ (I O rd.ver)).setCell ⟨gd,3,none⟩ (.slice rd.ap rd.an rd.ac)).setCell ⟨gd,4,none⟩ (.slice rd.rp rd.rn rd.rc))=W9 at *;have h0:=A.lt;have g:Blk W9 g3 #[.slice r.sp r.sn r.sc,.slice r.tp r.tn r.tc,I O r.due,I O r.last,I O r.mille,.slice r.gp r.gn r.gc,I O r.cap,I O r.env,I O r.unit,I O r.width] 58:=(hb.block _ (by omega) (by omega)).trans h.bl;exact⟨W9,rfl,(hb.block _ (by omega) (by omega)).trans h.res,h.tp.belowB (hb.below (Nat.le_of_lt g1) h.tp.but.size),⟨hd.year,hd.farm,hd.ver,hd.aw.blocks fun i hi _ hl=>hb.block i hl (na i hi),hd.rs.blocks fun i hi _ hl=>hb.block i hl (nr i hi),hd.ap⟩,B9,g.cell 0,g.cell 1,g.cell 2,g.cell 3,g.cell 4,g.cell 5,g.cell 6,g.cell 7,g.cell 8,g.cell 9,fun k hk=>(World.cell?_of_block (w:=W) (hb.block fb (by omega) (by omega))).trans (ks k hk)⟩
end
def DecG (t:Nat) (l:List Int) (w:World) (e:Ending) (w' : World):Prop :=
 ∃(r:RD) (D:Dec) (q:Nat),e = .returned (.agg (dCells r).toArray)∧DO w.heap.size w' r D∧Dn.chk D=0∧TpB w w' t l q
theorem FsAt.lit2 {Q:Nat→Prop}{W:World}{r:RL}{x:LineF}(h:LV Q W r x)(h1:Q W.heap.size)(h2:Q (W.heap.size+1))(T T' : TypeId) :
  FsAt Q ((W.alloc (.cells (lCells r).toArray T)).alloc (.cells #[I O 2,I O 0,.slice (some ⟨W.heap.size,0,none⟩) 1 1] T')) (some ⟨W.heap.size+1,0,none⟩) [⟨2,0, [x]⟩]:=by
 have hA:Below W.heap.size W (W.alloc (.cells (lCells r).toArray T)):=(brf _ _).alloc mle _;have sz:(W.alloc (.cells (lCells r).toArray T)).heap.size=W.heap.size+1:=by simp
 have L1:LsAt Q (W.alloc (.cells (lCells r).toArray T)) (some ⟨W.heap.size,0,none⟩) [x]:=by
  refine⟨⟨[r],rfl,Recs.lit (S:=SL) W T [r] (by show 1≤_;unfold maxLen;omega),fun k a b=>?_⟩,fun a e => .inr (by cases e;exact h1)⟩
  match k,a with
  | 0,_=>exact h.below hA
 have hB:Below (W.alloc (.cells (lCells r).toArray T)).heap.size (W.alloc (.cells (lCells r).toArray T)) ((W.alloc (.cells (lCells r).toArray T)).alloc (.cells #[I O 2,I O 0,.slice (some ⟨W.heap.size,0,none⟩) 1 1] T')):=(brf _ _).alloc mle _;rw[← sz];refine⟨⟨[⟨2,0,some ⟨W.heap.size,0,none⟩,1,1⟩],rfl,Recs.lit (S:=SF) _ T' [⟨2,0,some ⟨W.heap.size,0,none⟩,1,1⟩] (by show 1≤_;unfold maxLen;omega),fun k a b=>?_⟩,fun a e => .inr (by cases e;show Q (W.alloc (.cells (lCells r).toArray T)).heap.size;rw[sz];exact h2)⟩
 match k,a with
 | 0,_=>exact⟨rfl,rfl,L1.below hB,rfl,Nat.le_refl _,fun e=>by cases e⟩
theorem decision2_any (t:Nat)(l:List Int)(a:Nat)(w:World)(h:TapeAt w t l a):Calls Tryz.prog 8 #[.pointer (some ⟨t,0,none⟩)] w (DecG t l w):=by
 have T0:=mh (TpB.init h);have T1:=mh (T0.out.alloc (.cells #[I O 0,I O 0,I O 0,.slice none 0 0,.slice none 0 0] 26));have LW:=mh (law2_any t l a (w.alloc (.cells #[I O 0,I O 0,I O 0,.slice none 0 0,.slice none 0 0] 26)) T1.out.tape);have R0:=mh (Blk.new w #[I O 0,I O 0,I O 0,.slice none 0 0,.slice none 0 0] 26);have SZ0:=mh (show(w.alloc (.cells #[I O 0,I O 0,I O 0,.slice none 0 0,.slice none 0 0] 26)).heap.size=w.heap.size+1 from by simp);have GB:=mh (fun (q:Nat) (n:Int) (hn:0<n)=>gives_bd l q (n:=n) hn);have TN:=mh (fun (W:World) (q:Nat) (n:Int) (h:TapeAt W t l q) (hn:n≤9223372036854775807)=>next_any t l q n W h hn);have TR:=mh (fun (W:World) (q:Nat) (h:TapeAt W t l q)=>range_any t l q 1 99 W h (by omega) (by omega) (by omega));have htl:=h.lt;have HQ:=mh (fun (b:Nat) (k:NewQ w.heap.size b)=>show b≠t from by unfold NewQ at k;omega);clear h;unfold LawG at LW
 go_enter Tryz.func8,Tryz.ntmps8
 go_upto_region 2 with (first|(go_at_call 24;(with_reducible refine cmo LW.out ?_);rintro e w1 ⟨d,r,Y,q,rfl,hyv,hyo,hs3, -, -,htp⟩;simp only[yCells];have S1:=mh (show DcS w (w1.alloc (.cells #[.slice r.sp r.sn r.sc,.slice r.tp r.tn r.tc,I O r.due,I O r.last,I O r.mille,.slice r.gp r.gn r.gc,I O r.cap,I O r.env,I O r.unit,I O r.width] 58)) t l q w1.heap.size d r Y none [] from(by have hb:=(brf w1.heap.size w1).alloc mle (.cells #[.slice r.sp r.sn r.sc,.slice r.tp r.tn r.tc,I O r.due,I O r.last,I O r.mille,.slice r.gp r.gn r.gc,I O r.cap,I O r.env,I O r.unit,I O r.width] 58);have hz:=SZ0.out;exact⟨(T1.out.trans htp).below hb,(R0.out.but htp.but (by omega)).below hb,Blk.new _ _ _,(hyv.change mle fun b k hl=>⟨rfl,by have:(w.alloc (.cells #[I O 0,I O 0,I O 0,.slice none 0 0,.slice none 0 0] 26)).heap.size≤b:=k;show w.heap.size≤b;omega⟩).below hb,FsAt.nil _ _ _,⟨hyo,FmsOk.nil Y |>.fok hyo (by simp),hs3,by simp,fun f hf=>by cases hf⟩,by have:=htp.but.size;omega⟩));clear hyv htp)|fail)
 obtain⟨g3,eg3⟩:∃n,w1.heap.size=n:=⟨_,rfl⟩;rw[eg3]at S1 ⊢;generalize w1.alloc (.cells #[.slice r.sp r.sn r.sc,.slice r.tp r.tn r.tc,I O r.due,I O r.last,I O r.mille,.slice r.gp r.gn r.gc,I O r.cap,I O r.env,I O r.unit,I O r.width] 58)=w2 at *;clear LW R0 SZ0 eg3 T1;have FMC:=mh (farms2_any d t l q 3 r Y w2 S1.out.tp.tape HQ.out S1.out.yv hyo (by omega));have LNC:=mh (fun (W:World) (q:Nat) (p:Option Addr) (F:List FarmF) (h:DcS w W t l q g3 d r Y p F)=>line2_any d t l q r Y W h.tp.tape HQ.out h.yv.sch h.yv.sn hyo);simp only[yCells]at FMC LNC;unfold FrmG at FMC;have c0:=S1.out.bl.cell 0;have c1:=S1.out.bl.cell 1;have c2:=S1.out.bl.cell 2;have c3:=S1.out.bl.cell 3;have c4:=S1.out.bl.cell 4;have c5:=S1.out.bl.cell 5;have c6:=S1.out.bl.cell 6;have c7:=S1.out.bl.cell 7;have c8:=S1.out.bl.cell 8;have c9:=S1.out.bl.cell 9
 go_upto_region 3 with (first|(go_at_call 25;(with_reducible refine cmo FMC.out ?_);rintro e w3 ⟨p,F,cap,fa,q2,rfl,hcap,hfs,hfm,hmost,htp⟩;have S3:=mh (show DcS w w3 t l q2 g3 d r Y p F from(by have h2:=S1.out.next htp.tape htp.but;have hz:=S1.out.lt;exact⟨h2.tp,h2.res,h2.bl,h2.yv,hfs.change mle fun b k hl=>⟨rfl,by have:w2.heap.size≤b:=k;show w.heap.size≤b;omega⟩,⟨hyo,hfm.fok hyo (by omega),S1.out.nice.sch,hmost,hfm.fm⟩,h2.up⟩));clear hfs hfm hmost htp hcap)|fail)
 clear FMC S1 c0 c1 c2 c3 c4 c5 c6 c7 c8 c9
 go_loopw [4] (fun fv W=>∃(p:Option Addr) (F:List FarmF) (cap q:Nat),fv = .slice p F.length cap∧DcS w W t l q g3 d r Y p F) (fun fv _=>match fv with | .slice _ n _=>1 - n|_=>0)
 case atStart=>exact⟨p,F,cap,q2,rfl,S3.out⟩
 case round =>
  clear S3;obtain⟨wo,rfl⟩:∃wo:World,wo=wr:=⟨_,rfl⟩;obtain⟨p,F,cap,q,rfl,hS⟩:=hrel;have S:=mh hS;clear hS
  by_cases hF:F.length=0
  ·have hFb:((F.length:Int)==0)=true:=by rw[hF];rfl
   have c0:=S.out.bl.cell 0;have c1:=S.out.bl.cell 1;have c2:=S.out.bl.cell 2;have c3:=S.out.bl.cell 3;have c4:=S.out.bl.cell 4;have c5:=S.out.bl.cell 5;have c6:=S.out.bl.cell 6;have c7:=S.out.bl.cell 7;have c8:=S.out.bl.cell 8;have c9:=S.out.bl.cell 9;have LN:=mh (LNC.out wo q p F S.out);unfold LinGive at LN;have UP:=mh (show w.heap.size≤wo.heap.size from Nat.le_of_lt S.out.lt)
   go_wp2_with (go_at_call 26;(with_reducible refine cmo LN.out ?_);rintro e w5 ⟨⟨dl,ls,dp,dn,dc,se,ki,ar,bo⟩,x,q5,rfl,hv,hok,hd,hp5⟩;simp only[lCells];have HV:=mh (hv.change (Q' := NewQ w.heap.size) mle fun b k hl=>⟨rfl,by have h1:wo.heap.size≤b:=k;have h2:=UP.out;show w.heap.size≤b;omega⟩);have S5:=mh (S.out.next hp5.tape hp5.but);have HX:=mh (And.intro hok hd);clear hv hok hd hp5)
   have U5:=mh (show w.heap.size<w5.heap.size from S5.out.lt);have BL:=mh (show Below w5.heap.size w5 ((w5.alloc (.cells #[I O dl,I O ls,.slice dp dn dc,I O se,I O ki,I O ar,I O bo] 67)).alloc (.cells #[I O 2,I O 0,.slice (some ⟨w5.heap.size,0,none⟩) 1 1] 71)) from((brf _ _).alloc mle _).alloc (by simp) _)
   have N5:=mh (show Nice5 Y [⟨2,0, [x]⟩] from by
    have f1:FmOk Y ⟨2,0, [x]⟩:=((LsOk.nil Y 3).snoc (by simp) HX.out.1 HX.out.2).farm (by omega) (by omega) (by omega) (by omega)
    exact⟨S5.out.nice.law,((FmsOk.nil Y).snoc f1 (by show(0:Int)<2;omega) (by show(2:Int)≤0+3;omega)).fok S5.out.nice.law (by simp),S5.out.nice.sch,by simp,fun f hf=>by rw[List.mem_singleton.1 hf];exact f1⟩)
   have S6:=mh (S5.out.below BL.out);have FS:=mh (FsAt.lit2 HV.out (show w.heap.size≤w5.heap.size from Nat.le_of_lt U5.out) (show w.heap.size≤w5.heap.size+1 from Nat.le_succ_of_le (Nat.le_of_lt U5.out)) 67 71)
   go_roundw
   case rel=>exact⟨some ⟨w5.heap.size+1,0,none⟩, [⟨2,0, [x]⟩],1,q5,rfl,⟨S6.out.tp,S6.out.res,S6.out.bl,S6.out.yv,FS.out,N5.out,S6.out.up⟩⟩
   case measure=>simp;omega
  ·have hFb:((F.length:Int)==0)=false:=beq_eq_false_iff_ne.2 (by omega)
   go_upto_region 5 with fail
   have SD:=mh (S.out.below (brf _ _).drew);have HFL:=mh (show(0:Int)<(F.length:Int) by omega);have hlen10:F.length≤3:=S.out.nice.len;obtain⟨fb,fo,ff,efp,hfb, -, -⟩:=S.out.fs.at (show 0<F.length by omega);have FB:=mh hfb;subst efp
   have KS:=mh (fun (W:World) {q:Nat} (h:DcS w W t l q g3 d r Y (some ⟨fb,fo,none⟩) F)=>show W.cell? ⟨g3,0,none⟩=some (.slice r.sp r.sn r.sc)∧W.cell? ⟨g3,1,none⟩=some (.slice r.tp r.tn r.tc)∧W.cell? ⟨g3,2,none⟩=some (I O r.due)∧W.cell? ⟨g3,3,none⟩=some (I O r.last)∧W.cell? ⟨g3,4,none⟩=some (I O r.mille)∧W.cell? ⟨g3,5,none⟩=some (.slice r.gp r.gn r.gc)∧W.cell? ⟨g3,6,none⟩=some (I O r.cap)∧W.cell? ⟨g3,7,none⟩=some (I O r.env)∧W.cell? ⟨g3,8,none⟩=some (I O r.unit)∧W.cell? ⟨g3,9,none⟩=some (I O r.width)∧(∀k (h:k<F.length),W.cell? ⟨fb,fo+k*3,none⟩=some (I O F[k].farm)) from⟨h.bl.cell 0,h.bl.cell 1,h.bl.cell 2,h.bl.cell 3,h.bl.cell 4,h.bl.cell 5,h.bl.cell 6,h.bl.cell 7,h.bl.cell 8,h.bl.cell 9,fun k hk=>by
    obtain⟨b', o', f', e', -,hc', hv'⟩:=h.fs.at hk
    cases e'
    rw[← hv'.farm]
    exact hc'.c0⟩)
   have NT:=mh (fun (g:Nat) (h:w.heap.size<g)=>show g≠t from by omega)
   have MKC:=mh (fun (W:World) {q:Nat} (h:DcS w W t l q g3 d r Y (some ⟨fb,fo,none⟩) F) (e1 e3:Int) (k:Nat) (hk:k<F.length) (h1:0≤e1∧e1<101) (h3:0≤e3∧e3<99)=>show Calls Tryz.prog 27 #[.agg #[.slice r.sp r.sn r.sc,.slice r.tp r.tn r.tc,I O r.due,I O r.last,I O r.mille,.slice r.gp r.gn r.gc,I O r.cap,I O r.env,I O r.unit,I O r.width],.slice (some ⟨fb,fo,none⟩) F.length cap,I O e1,I O F[k].farm,I O (1+e3)] W (fun e w' => ∃rd,e = .returned (.tuple #[.agg #[I O rd.year,I O rd.farm,I O rd.ver,.slice rd.ap rd.an rd.ac,.slice rd.rp rd.rn rd.rc],I O 0])∧(∃D,DO W.heap.size w' rd D∧Dn.chk D=0)∧Below W.heap.size W w') from by
    obtain⟨D,hD,hc⟩:=h.nice.made (f:=F[k]) (List.getElem_mem hk) (y:=e1) (v:=1+e3) (by omega) (by omega);have:=refmake35_any d r Y (some ⟨fb,fo,none⟩) F cap e1 F[k].farm (1+e3) W h.yv h.fs (fun f hf x hx=>by have:=(h.nice.fm f hf).pos x hx;omega);unfold MakeG at this;rw[hD]at this
    exact this.mono fun e w' ⟨rd,he,hd,hb⟩=>⟨rd,he,⟨D,hd,hc⟩,hb⟩)
   have KD:=mh (KS.out _ SD.out);refine wp_region_held_drew (S:=fun w' => w'.cell? ⟨g3,0,none⟩=some (.slice r.sp r.sn r.sc)∧w'.cell? ⟨g3,1,none⟩=some (.slice r.tp r.tn r.tc)∧w'.cell? ⟨g3,2,none⟩=some (I O r.due)∧w'.cell? ⟨g3,3,none⟩=some (I O r.last)∧w'.cell? ⟨g3,4,none⟩=some (I O r.mille)∧w'.cell? ⟨g3,5,none⟩=some (.slice r.gp r.gn r.gc)∧w'.cell? ⟨g3,6,none⟩=some (I O r.cap)∧w'.cell? ⟨g3,7,none⟩=some (I O r.env)∧w'.cell? ⟨g3,8,none⟩=some (I O r.unit)∧w'.cell? ⟨g3,9,none⟩=some (I O r.width)∧(∀k (h:k<F.length),w'.cell? ⟨fb,fo+k*3,none⟩=some (I O F[k].farm))) (by kernel_rfl) KD.out (fun hHeld=>?_);refine tkH 0 22 (by assumption) ?_;refine tkH 1 23 (by assumption) ?_;refine tkH 2 24 (by assumption) ?_;refine tkH 4 26 (by assumption) ?_;refine tkH 5 27 (by assumption) ?_;refine tkH 6 28 (by assumption) ?_;refine tkH 7 29 (by assumption) ?_;refine tkH 12 34 (by assumption) ?_;refine wpAnyH_ready (rs := [3,18]) (by kernel_rfl) (by simp) ?_;refine AllReadyH.cons (o:=⟨some 25,_,_,_,_,_⟩) rfl (fun K hK=>?_) (AllReadyH.cons (o:=⟨some 5,_,_,_,_,_⟩) rfl (fun K hK=>?_) AllReadyH.nil)
   ·go_simp
    (with_reducible refine cmo (TN.out wo.drew q 101 SD.out.tp.tape (by omega)) ?_);rintro e v1 ⟨rfl,htp,hbt⟩;have S1:=mh (SD.out.next htp hbt);clear htp hbt;have E1:=mh (GB.out q 101 (by omega));obtain⟨e1,he1⟩:∃z,gives l q 101=z:=⟨_,rfl⟩;rw[he1]at E1;rw[he1];clear he1
    go_wp2_with fail
    refine hK.out _ _ (KS.out _ S1.out) (fun hHeld2=>?_)
    clear hK K
    (try dsimp only[Act.put])
    try simp only[mnA,mnB,mnC]
    refine wpAnyH_ready (rs := [8,18]) (by kernel_rfl) (by simp) ?_
    refine AllReadyH.cons (o:=⟨some 30,_,_,_,_,_⟩) rfl (fun K hK=>?_) (AllReadyH.cons (o:=⟨some 5,_,_,_,_,_⟩) rfl (fun K hK=>?_) AllReadyH.nil)
    ·go_simp
     (with_reducible refine cmo (TN.out v1 (taken l q) (F.length:Int) S1.out.tp.tape (by omega)) ?_);rintro e v2 ⟨rfl,htp,hbt⟩;have S2:=mh (S1.out.next htp hbt);clear htp hbt;have E2:=mh (GB.out (taken l q) (F.length:Int) HFL.out);obtain⟨e2,he2⟩:∃z,gives l (taken l q) (F.length:Int)=z:=⟨_,rfl⟩;rw[he2]at E2;rw[he2];clear he2;obtain⟨k,rfl⟩:∃k:Nat,e2=(k:Int):=⟨e2.toNat,by have:=E2.out;omega⟩;have k0:(0:Int)≤(k:Int):=inn _;have k1:(k:Int)<(F.length:Int):=E2.out.2;have kN:k<F.length:=by omega
     go_wp2_with fail
     refine hK.out _ _ (KS.out _ S2.out) (fun hHeld2=>?_)
     clear hK K
     (try dsimp only[Act.put])
     try simp only[mnA,mnB,mnC]
     have hfk:=(KS.out _ S2.out).2.2.2.2.2.2.2.2.2.2 k kN;refine tkH 9 31 (by assumption) ?_;refine tkH 10 32 (by assumption) ?_;refine tkH 11 33 (by assumption) ?_;refine wpAnyH_ready (rs := [13,18]) (by kernel_rfl) (by simp) ?_;refine AllReadyH.cons (o:=⟨some 35,_,_,_,_,_⟩) rfl (fun K hK=>?_) (AllReadyH.cons (o:=⟨some 5,_,_,_,_,_⟩) rfl (fun K hK=>?_) AllReadyH.nil)
     ·go_simp
      (with_reducible refine cmo (TR.out v2 (taken l (taken l q)) S2.out.tp.tape) ?_);rintro e v3 ⟨rfl,htp,hbt⟩;have S3:=mh (S2.out.next htp hbt);clear htp hbt;have E3:=mh (GB.out (taken l (taken l q)) 99 (by omega));obtain⟨e3,he3⟩:∃z,gives l (taken l (taken l q)) (99 - 1+1)=z:=⟨_,rfl⟩;rw[show gives l (taken l (taken l q)) 99=e3 from he3]at E3;rw[he3];clear he3
      go_wp2_with fail
      refine hK.out _ _ (KS.out _ S3.out) (fun hHeld2=>?_)
      clear hK K
      (try dsimp only[Act.put])
      try simp only[mnA,mnB,mnC]
      refine wpAnyH_ready (rs := [14,18]) (by kernel_rfl) (by simp) ?_
      refine AllReadyH.cons (o:=⟨some 36,_,_,_,_,_⟩) rfl (fun K hK=>?_) (AllReadyH.cons (o:=⟨some 5,_,_,_,_,_⟩) rfl (fun K hK=>?_) AllReadyH.nil)
      ·go_simp
       (with_reducible refine cmo (MKC.out v3 S3.out e1 e3 k kN E1.out E3.out) ?_);rintro e v4 ⟨rd,rfl,⟨D,hdo,hchk⟩,hbm⟩;have CHK:=mh hchk;have S4:=mh (S3.out.below hbm);have DOM:=mh (hdo.mono (show w.heap.size+1≤v3.heap.size from S3.out.lt));clear hbm hdo hchk
       go_wp2_with fail
       refine hK.out _ _ (KS.out _ S4.out) (fun hHeld2=>?_)
       clear hK K
       (try dsimp only[Act.put])
       try simp only[mnA,mnB,mnC]
       refine tkH 15 21 (by assumption) ?_
       refine tkH 16 37 (by assumption) ?_
       refine tkH 17 38 (by assumption) ?_
       refine rdA 18 5 (fun K hK=>?_)
       go_simp
       have S5a:=mh (S4.out.below ((brf v4.heap.size v4).alloc mle (.cells #[I O 0,I O 0,I O 0,.slice none 0 0,.slice none 0 0] 26)));have A5a:=mh (show Blk (v4.alloc (.cells #[I O 0,I O 0,I O 0,.slice none 0 0,.slice none 0 0] 26)) v4.heap.size #[I O 0,I O 0,I O 0,.slice none 0 0,.slice none 0 0] 26 from Blk.new v4 #[I O 0,I O 0,I O 0,.slice none 0 0,.slice none 0 0] 26)
       have GD:=mh (show w.heap.size<v4.heap.size∧g3<v4.heap.size∧fb<v4.heap.size from⟨S4.out.lt,S4.out.bl.lt,by
        obtain⟨_,_,_,e', hl', -, -⟩:=S4.out.fs.at (show 0<F.length by have:=HFL.out;omega)
        cases e'; exact hl'⟩)
       have NGA:=mh (show ∀i,(Value.slice rd.ap rd.an rd.ac).ownBlock=some i→i≠v4.heap.size from fun i hi=>by have h1:=(DOM.out.aw.lt hi).2;omega);have NGR:=mh (show ∀i,(Value.slice rd.rp rd.rn rd.rc).ownBlock=some i→i≠v4.heap.size from fun i hi=>by have h1:=(DOM.out.rs.lt hi).2;omega);have DOM:=mh (DOM.out.below ((brf v4.heap.size v4).alloc mle (.cells #[I O 0,I O 0,I O 0,.slice none 0 0,.slice none 0 0] 26)));refine hK.out _ _ (KS.out _ S5a.out) (fun hHeld2=>?_);clear hK K
       (try dsimp only[Act.put])
       try simp only[mnA,mnB,mnC]
       obtain⟨gd,egd⟩:∃n,v4.heap.size=n:=⟨_,rfl⟩;rw[egd]at GD A5a NGA NGR ⊢;generalize v4.alloc (.cells #[I O 0,I O 0,I O 0,.slice none 0 0,.slice none 0 0] 26)=v5a at *;clear egd;obtain⟨t0,t0f,t1,t1f,t2,t2f,t3,t3f,t4,t4f⟩:=A5a.out.f5;obtain⟨u6,h9,r9,p9,d9,b9,k9⟩:=S5a.out.fill A5a.out GD.out.1 GD.out.2.1 GD.out.2.2 NGA.out NGR.out DOM.out (fun k hk=>(KS.out _ S5a.out).2.2.2.2.2.2.2.2.2.2 k hk);have H9:=mh h9;have R5:=mh r9;have TP5:=mh p9;have D5:=mh d9;have B5:=mh b9;have K5:=mh k9;clear h9 r9 p9 d9 b9 k9;refine wpAnyH_ready (rs := [19]) (by kernel_rfl) (by simp) ?_;refine AllReadyH.cons (o:=⟨none,_,_,_,_,_⟩) rfl (fun K hK=>?_) AllReadyH.nil;go_simp;rw[H9.out];refine hK.out _ _ K5.out (fun hHeld2=>?_);clear hK K t0 t1 t2 t3 t4 t0f t1f t2f t3f t4f
       (try dsimp only[Act.put])
       try simp only[mnA,mnB,mnC]
       refine tkH 20 6 (by assumption) ?_
       refine wpAnyH_done (by kernel_rfl) ?_ _
       obtain⟨b0,b1,b2,b3,b4⟩:=B5.out.c5;obtain⟨t0,t0f,t1,t1f,t2,t2f,t3,t3f,t4,t4f⟩:=R5.out.f5
       go_wp2_with fail
       exact post5 R5.out rfl fun wf PB PK=>⟨by obtain⟨c0,c1,c2,c3,c4⟩:=PB.c5;simp[results,dCells,Tryz.results8,go_sem,c0,c1,c2,c3,c4],⟨rd,D,_,rfl,(D5.out.but PK (Nat.lt_succ_self _)).mono (Nat.le_succ _),CHK.out,TP5.out.belowB (PK.below mle TP5.out.but.size)⟩⟩
      ·go_simp
       have S4a:=mh (S3.out.below ((brf v3.heap.size v3).alloc mle (.cells #[I O 0,I O 0,I O 0,.slice none 0 0,.slice none 0 0] 26)));have A4a:=mh (show Blk (v3.alloc (.cells #[I O 0,I O 0,I O 0,.slice none 0 0,.slice none 0 0] 26)) v3.heap.size #[I O 0,I O 0,I O 0,.slice none 0 0,.slice none 0 0] 26 from Blk.new v3 #[I O 0,I O 0,I O 0,.slice none 0 0,.slice none 0 0] 26)
       have GD:=mh (show w.heap.size<v3.heap.size∧g3<v3.heap.size∧fb<v3.heap.size from⟨S3.out.lt,S3.out.bl.lt,by
        obtain⟨_,_,_,e', hl', -, -⟩:=S3.out.fs.at (show 0<F.length by have:=HFL.out;omega)
        cases e'; exact hl'⟩)
       refine hK.out _ _ (KS.out _ S4a.out) (fun hHeld2=>?_)
       clear hK K
       (try dsimp only[Act.put])
       try simp only[mnA,mnB,mnC]
       obtain⟨gd,egd⟩:∃n,v3.heap.size=n:=⟨_,rfl⟩;rw[egd]at GD A4a ⊢;generalize v3.alloc (.cells #[I O 0,I O 0,I O 0,.slice none 0 0,.slice none 0 0] 26)=v4a at *;clear egd;refine rdA 14 36 (fun K hK=>?_);go_simp;(with_reducible refine cmo (MKC.out v4a S4a.out e1 e3 k kN E1.out E3.out) ?_);rintro e v7 ⟨rd,rfl,⟨D,hdo,hchk⟩,hbm⟩;have CHK:=mh hchk;have S7:=mh (S4a.out.below hbm);have DOM:=mh (hdo.mono (show w.heap.size+1≤v4a.heap.size from S4a.out.lt));have A7:=mh (A4a.out.below hbm);have NGA:=mh (show ∀i,(Value.slice rd.ap rd.an rd.ac).ownBlock=some i→i≠gd from fun i hi=>by have h1:=(hdo.aw.lt hi).1;have h2:=A4a.out.lt;omega);have NGR:=mh (show ∀i,(Value.slice rd.rp rd.rn rd.rc).ownBlock=some i→i≠gd from fun i hi=>by have h1:=(hdo.rs.lt hi).1;have h2:=A4a.out.lt;omega);clear hbm hdo hchk
       go_wp2_with fail
       refine hK.out _ _ (KS.out _ S7.out) (fun hHeld2=>?_)
       clear hK K
       (try dsimp only[Act.put])
       try simp only[mnA,mnB,mnC]
       refine tkH 15 21 (by assumption) ?_
       refine tkH 16 37 (by assumption) ?_
       refine tkH 17 38 (by assumption) ?_
       obtain⟨t0,t0f,t1,t1f,t2,t2f,t3,t3f,t4,t4f⟩:=A7.out.f5;obtain⟨u8,h9,r9,p9,d9,b9,k9⟩:=S7.out.fill A7.out GD.out.1 GD.out.2.1 GD.out.2.2 NGA.out NGR.out DOM.out (fun k hk=>(KS.out _ S7.out).2.2.2.2.2.2.2.2.2.2 k hk);have H9:=mh h9;have R5:=mh r9;have TP5:=mh p9;have D5:=mh d9;have B5:=mh b9;have K5:=mh k9;clear h9 r9 p9 d9 b9 k9;refine wpAnyH_ready (rs := [19]) (by kernel_rfl) (by simp) ?_;refine AllReadyH.cons (o:=⟨none,_,_,_,_,_⟩) rfl (fun K hK=>?_) AllReadyH.nil;go_simp;rw[H9.out];refine hK.out _ _ K5.out (fun hHeld2=>?_);clear hK K t0 t1 t2 t3 t4 t0f t1f t2f t3f t4f
       (try dsimp only[Act.put])
       try simp only[mnA,mnB,mnC]
       refine tkH 20 6 (by assumption) ?_
       refine wpAnyH_done (by kernel_rfl) ?_ _
       obtain⟨b0,b1,b2,b3,b4⟩:=B5.out.c5;obtain⟨t0,t0f,t1,t1f,t2,t2f,t3,t3f,t4,t4f⟩:=R5.out.f5
       go_wp2_with fail
       exact post5 R5.out rfl fun wf PB PK=>⟨by obtain⟨c0,c1,c2,c3,c4⟩:=PB.c5;simp[results,dCells,Tryz.results8,go_sem,c0,c1,c2,c3,c4],⟨rd,D,_,rfl,(D5.out.but PK (Nat.lt_succ_self _)).mono (Nat.le_succ _),CHK.out,TP5.out.belowB (PK.below mle TP5.out.but.size)⟩⟩
     ·go_simp
      have S3a:=mh (S2.out.below ((brf v2.heap.size v2).alloc mle (.cells #[I O 0,I O 0,I O 0,.slice none 0 0,.slice none 0 0] 26)));have A3a:=mh (show Blk (v2.alloc (.cells #[I O 0,I O 0,I O 0,.slice none 0 0,.slice none 0 0] 26)) v2.heap.size #[I O 0,I O 0,I O 0,.slice none 0 0,.slice none 0 0] 26 from Blk.new v2 #[I O 0,I O 0,I O 0,.slice none 0 0,.slice none 0 0] 26)
      have GD:=mh (show w.heap.size<v2.heap.size∧g3<v2.heap.size∧fb<v2.heap.size from⟨S2.out.lt,S2.out.bl.lt,by
       obtain⟨_,_,_,e', hl', -, -⟩:=S2.out.fs.at (show 0<F.length by have:=HFL.out;omega)
       cases e'; exact hl'⟩)
      refine hK.out _ _ (KS.out _ S3a.out) (fun hHeld2=>?_)
      clear hK K
      (try dsimp only[Act.put])
      try simp only[mnA,mnB,mnC]
      obtain⟨gd,egd⟩:∃n,v2.heap.size=n:=⟨_,rfl⟩;rw[egd]at GD A3a ⊢;generalize v2.alloc (.cells #[I O 0,I O 0,I O 0,.slice none 0 0,.slice none 0 0] 26)=v3a at *;clear egd;refine rdA 13 35 (fun K hK=>?_);go_simp;(with_reducible refine cmo (TR.out v3a (taken l (taken l q)) S3a.out.tp.tape) ?_);rintro e v9 ⟨rfl,htp,hbt⟩;have S9:=mh (S3a.out.next htp hbt);have A9:=mh (A3a.out.but hbt (NT.out gd GD.out.1));clear htp hbt;have E3:=mh (GB.out (taken l (taken l q)) 99 (by omega));obtain⟨e3,he3⟩:∃z,gives l (taken l (taken l q)) (99 - 1+1)=z:=⟨_,rfl⟩;rw[show gives l (taken l (taken l q)) 99=e3 from he3]at E3;rw[he3];clear he3
      go_wp2_with fail
      refine hK.out _ _ (KS.out _ S9.out) (fun hHeld2=>?_)
      clear hK K
      (try dsimp only[Act.put])
      try simp only[mnA,mnB,mnC]
      refine rdA 14 36 (fun K hK=>?_)
      go_simp
      (with_reducible refine cmo (MKC.out v9 S9.out e1 e3 k kN E1.out E3.out) ?_);rintro e v10 ⟨rd,rfl,⟨D,hdo,hchk⟩,hbm⟩;have CHK:=mh hchk;have S10:=mh (S9.out.below hbm);have DOM:=mh (hdo.mono (show w.heap.size+1≤v9.heap.size from S9.out.lt));have A10:=mh (A9.out.below hbm);have NGA:=mh (show ∀i,(Value.slice rd.ap rd.an rd.ac).ownBlock=some i→i≠gd from fun i hi=>by have h1:=(hdo.aw.lt hi).1;have h2:=A9.out.lt;omega);have NGR:=mh (show ∀i,(Value.slice rd.rp rd.rn rd.rc).ownBlock=some i→i≠gd from fun i hi=>by have h1:=(hdo.rs.lt hi).1;have h2:=A9.out.lt;omega);clear hbm hdo hchk
      go_wp2_with fail
      refine hK.out _ _ (KS.out _ S10.out) (fun hHeld2=>?_)
      clear hK K
      (try dsimp only[Act.put])
      try simp only[mnA,mnB,mnC]
      refine tkH 15 21 (by assumption) ?_
      refine tkH 16 37 (by assumption) ?_
      refine tkH 17 38 (by assumption) ?_
      obtain⟨t0,t0f,t1,t1f,t2,t2f,t3,t3f,t4,t4f⟩:=A10.out.f5;obtain⟨u11,h9,r9,p9,d9,b9,k9⟩:=S10.out.fill A10.out GD.out.1 GD.out.2.1 GD.out.2.2 NGA.out NGR.out DOM.out (fun k hk=>(KS.out _ S10.out).2.2.2.2.2.2.2.2.2.2 k hk);have H9:=mh h9;have R5:=mh r9;have TP5:=mh p9;have D5:=mh d9;have B5:=mh b9;have K5:=mh k9;clear h9 r9 p9 d9 b9 k9;refine wpAnyH_ready (rs := [19]) (by kernel_rfl) (by simp) ?_;refine AllReadyH.cons (o:=⟨none,_,_,_,_,_⟩) rfl (fun K hK=>?_) AllReadyH.nil;go_simp;rw[H9.out];refine hK.out _ _ K5.out (fun hHeld2=>?_);clear hK K t0 t1 t2 t3 t4 t0f t1f t2f t3f t4f
      (try dsimp only[Act.put])
      try simp only[mnA,mnB,mnC]
      refine tkH 20 6 (by assumption) ?_
      refine wpAnyH_done (by kernel_rfl) ?_ _
      obtain⟨b0,b1,b2,b3,b4⟩:=B5.out.c5;obtain⟨t0,t0f,t1,t1f,t2,t2f,t3,t3f,t4,t4f⟩:=R5.out.f5
      go_wp2_with fail
      exact post5 R5.out rfl fun wf PB PK=>⟨by obtain⟨c0,c1,c2,c3,c4⟩:=PB.c5;simp[results,dCells,Tryz.results8,go_sem,c0,c1,c2,c3,c4],⟨rd,D,_,rfl,(D5.out.but PK (Nat.lt_succ_self _)).mono (Nat.le_succ _),CHK.out,TP5.out.belowB (PK.below mle TP5.out.but.size)⟩⟩
    ·go_simp
     have S2a:=mh (S1.out.below ((brf v1.heap.size v1).alloc mle (.cells #[I O 0,I O 0,I O 0,.slice none 0 0,.slice none 0 0] 26)));have A2a:=mh (show Blk (v1.alloc (.cells #[I O 0,I O 0,I O 0,.slice none 0 0,.slice none 0 0] 26)) v1.heap.size #[I O 0,I O 0,I O 0,.slice none 0 0,.slice none 0 0] 26 from Blk.new v1 #[I O 0,I O 0,I O 0,.slice none 0 0,.slice none 0 0] 26)
     have GD:=mh (show w.heap.size<v1.heap.size∧g3<v1.heap.size∧fb<v1.heap.size from⟨S1.out.lt,S1.out.bl.lt,by
      obtain⟨_,_,_,e', hl', -, -⟩:=S1.out.fs.at (show 0<F.length by have:=HFL.out;omega)
      cases e'; exact hl'⟩)
     refine hK.out _ _ (KS.out _ S2a.out) (fun hHeld2=>?_)
     clear hK K
     (try dsimp only[Act.put])
     try simp only[mnA,mnB,mnC]
     obtain⟨gd,egd⟩:∃n,v1.heap.size=n:=⟨_,rfl⟩;rw[egd]at GD A2a ⊢;generalize v1.alloc (.cells #[I O 0,I O 0,I O 0,.slice none 0 0,.slice none 0 0] 26)=v2a at *;clear egd;refine rdA 8 30 (fun K hK=>?_);go_simp;(with_reducible refine cmo (TN.out v2a (taken l q) (F.length:Int) S2a.out.tp.tape (by omega)) ?_);rintro e v12 ⟨rfl,htp,hbt⟩;have S12:=mh (S2a.out.next htp hbt);have A12:=mh (A2a.out.but hbt (NT.out gd GD.out.1));clear htp hbt;have E2:=mh (GB.out (taken l q) (F.length:Int) HFL.out);obtain⟨e2,he2⟩:∃z,gives l (taken l q) (F.length:Int)=z:=⟨_,rfl⟩;rw[he2]at E2;rw[he2];clear he2;obtain⟨k,rfl⟩:∃k:Nat,e2=(k:Int):=⟨e2.toNat,by have:=E2.out;omega⟩;have k0:(0:Int)≤(k:Int):=inn _;have k1:(k:Int)<(F.length:Int):=E2.out.2;have kN:k<F.length:=by omega
     go_wp2_with fail
     refine hK.out _ _ (KS.out _ S12.out) (fun hHeld2=>?_)
     clear hK K
     (try dsimp only[Act.put])
     try simp only[mnA,mnB,mnC]
     have hfk:=(KS.out _ S12.out).2.2.2.2.2.2.2.2.2.2 k kN;refine tkH 9 31 (by assumption) ?_;refine tkH 10 32 (by assumption) ?_;refine tkH 11 33 (by assumption) ?_;refine rdA 13 35 (fun K hK=>?_);go_simp;(with_reducible refine cmo (TR.out v12 (taken l (taken l q)) S12.out.tp.tape) ?_);rintro e v13 ⟨rfl,htp,hbt⟩;have S13:=mh (S12.out.next htp hbt);have A13:=mh (A12.out.but hbt (NT.out gd GD.out.1));clear htp hbt;have E3:=mh (GB.out (taken l (taken l q)) 99 (by omega));obtain⟨e3,he3⟩:∃z,gives l (taken l (taken l q)) (99 - 1+1)=z:=⟨_,rfl⟩;rw[show gives l (taken l (taken l q)) 99=e3 from he3]at E3;rw[he3];clear he3
     go_wp2_with fail
     refine hK.out _ _ (KS.out _ S13.out) (fun hHeld2=>?_)
     clear hK K
     (try dsimp only[Act.put])
     try simp only[mnA,mnB,mnC]
     refine rdA 14 36 (fun K hK=>?_)
     go_simp
     (with_reducible refine cmo (MKC.out v13 S13.out e1 e3 k kN E1.out E3.out) ?_);rintro e v14 ⟨rd,rfl,⟨D,hdo,hchk⟩,hbm⟩;have CHK:=mh hchk;have S14:=mh (S13.out.below hbm);have DOM:=mh (hdo.mono (show w.heap.size+1≤v13.heap.size from S13.out.lt));have A14:=mh (A13.out.below hbm);have NGA:=mh (show ∀i,(Value.slice rd.ap rd.an rd.ac).ownBlock=some i→i≠gd from fun i hi=>by have h1:=(hdo.aw.lt hi).1;have h2:=A13.out.lt;omega);have NGR:=mh (show ∀i,(Value.slice rd.rp rd.rn rd.rc).ownBlock=some i→i≠gd from fun i hi=>by have h1:=(hdo.rs.lt hi).1;have h2:=A13.out.lt;omega);clear hbm hdo hchk
     go_wp2_with fail
     refine hK.out _ _ (KS.out _ S14.out) (fun hHeld2=>?_)
     clear hK K
     (try dsimp only[Act.put])
     try simp only[mnA,mnB,mnC]
     refine tkH 15 21 (by assumption) ?_
     refine tkH 16 37 (by assumption) ?_
     refine tkH 17 38 (by assumption) ?_
     obtain⟨t0,t0f,t1,t1f,t2,t2f,t3,t3f,t4,t4f⟩:=A14.out.f5;obtain⟨u15,h9,r9,p9,d9,b9,k9⟩:=S14.out.fill A14.out GD.out.1 GD.out.2.1 GD.out.2.2 NGA.out NGR.out DOM.out (fun k hk=>(KS.out _ S14.out).2.2.2.2.2.2.2.2.2.2 k hk);have H9:=mh h9;have R5:=mh r9;have TP5:=mh p9;have D5:=mh d9;have B5:=mh b9;have K5:=mh k9;clear h9 r9 p9 d9 b9 k9;refine wpAnyH_ready (rs := [19]) (by kernel_rfl) (by simp) ?_;refine AllReadyH.cons (o:=⟨none,_,_,_,_,_⟩) rfl (fun K hK=>?_) AllReadyH.nil;go_simp;rw[H9.out];refine hK.out _ _ K5.out (fun hHeld2=>?_);clear hK K t0 t1 t2 t3 t4 t0f t1f t2f t3f t4f
     (try dsimp only[Act.put])
     try simp only[mnA,mnB,mnC]
     refine tkH 20 6 (by assumption) ?_
     refine wpAnyH_done (by kernel_rfl) ?_ _
     obtain⟨b0,b1,b2,b3,b4⟩:=B5.out.c5;obtain⟨t0,t0f,t1,t1f,t2,t2f,t3,t3f,t4,t4f⟩:=R5.out.f5
     go_wp2_with fail
     exact post5 R5.out rfl fun wf PB PK=>⟨by obtain⟨c0,c1,c2,c3,c4⟩:=PB.c5;simp[results,dCells,Tryz.results8,go_sem,c0,c1,c2,c3,c4],⟨rd,D,_,rfl,(D5.out.but PK (Nat.lt_succ_self _)).mono (Nat.le_succ _),CHK.out,TP5.out.belowB (PK.below mle TP5.out.but.size)⟩⟩
   ·go_simp
    have S1a:=mh ((S.out.below ((brf wo.heap.size wo).alloc mle (.cells #[I O 0,I O 0,I O 0,.slice none 0 0,.slice none 0 0] 26))).below (brf _ _).drew);have A1a:=mh (show Blk (wo.alloc (.cells #[I O 0,I O 0,I O 0,.slice none 0 0,.slice none 0 0] 26)).drew wo.heap.size #[I O 0,I O 0,I O 0,.slice none 0 0,.slice none 0 0] 26 from(Blk.new wo #[I O 0,I O 0,I O 0,.slice none 0 0,.slice none 0 0] 26).below (brf _ _).drew);have GD:=mh (show w.heap.size<wo.heap.size∧g3<wo.heap.size∧fb<wo.heap.size from⟨S.out.lt,S.out.bl.lt,FB.out⟩);refine hK.out _ _ (KS.out _ S1a.out) (fun hHeld2=>?_);clear hK K
    (try dsimp only[Act.put])
    try simp only[mnA,mnB,mnC]
    obtain⟨gd,egd⟩:∃n,wo.heap.size=n:=⟨_,rfl⟩;rw[egd]at GD A1a ⊢;generalize (wo.alloc (.cells #[I O 0,I O 0,I O 0,.slice none 0 0,.slice none 0 0] 26)).drew=v1a at *;clear egd;refine rdA 3 25 (fun K hK=>?_);go_simp;(with_reducible refine cmo (TN.out v1a q 101 S1a.out.tp.tape (by omega)) ?_);rintro e v16 ⟨rfl,htp,hbt⟩;have S16:=mh (S1a.out.next htp hbt);have A16:=mh (A1a.out.but hbt (NT.out gd GD.out.1));clear htp hbt;have E1:=mh (GB.out q 101 (by omega));obtain⟨e1,he1⟩:∃z,gives l q 101=z:=⟨_,rfl⟩;rw[he1]at E1;rw[he1];clear he1
    go_wp2_with fail
    refine hK.out _ _ (KS.out _ S16.out) (fun hHeld2=>?_)
    clear hK K
    (try dsimp only[Act.put])
    try simp only[mnA,mnB,mnC]
    refine rdA 8 30 (fun K hK=>?_)
    go_simp
    (with_reducible refine cmo (TN.out v16 (taken l q) (F.length:Int) S16.out.tp.tape (by omega)) ?_);rintro e v17 ⟨rfl,htp,hbt⟩;have S17:=mh (S16.out.next htp hbt);have A17:=mh (A16.out.but hbt (NT.out gd GD.out.1));clear htp hbt;have E2:=mh (GB.out (taken l q) (F.length:Int) HFL.out);obtain⟨e2,he2⟩:∃z,gives l (taken l q) (F.length:Int)=z:=⟨_,rfl⟩;rw[he2]at E2;rw[he2];clear he2;obtain⟨k,rfl⟩:∃k:Nat,e2=(k:Int):=⟨e2.toNat,by have:=E2.out;omega⟩;have k0:(0:Int)≤(k:Int):=inn _;have k1:(k:Int)<(F.length:Int):=E2.out.2;have kN:k<F.length:=by omega
    go_wp2_with fail
    refine hK.out _ _ (KS.out _ S17.out) (fun hHeld2=>?_)
    clear hK K
    (try dsimp only[Act.put])
    try simp only[mnA,mnB,mnC]
    have hfk:=(KS.out _ S17.out).2.2.2.2.2.2.2.2.2.2 k kN;refine tkH 9 31 (by assumption) ?_;refine tkH 10 32 (by assumption) ?_;refine tkH 11 33 (by assumption) ?_;refine rdA 13 35 (fun K hK=>?_);go_simp;(with_reducible refine cmo (TR.out v17 (taken l (taken l q)) S17.out.tp.tape) ?_);rintro e v18 ⟨rfl,htp,hbt⟩;have S18:=mh (S17.out.next htp hbt);have A18:=mh (A17.out.but hbt (NT.out gd GD.out.1));clear htp hbt;have E3:=mh (GB.out (taken l (taken l q)) 99 (by omega));obtain⟨e3,he3⟩:∃z,gives l (taken l (taken l q)) (99 - 1+1)=z:=⟨_,rfl⟩;rw[show gives l (taken l (taken l q)) 99=e3 from he3]at E3;rw[he3];clear he3
    go_wp2_with fail
    refine hK.out _ _ (KS.out _ S18.out) (fun hHeld2=>?_)
    clear hK K
    (try dsimp only[Act.put])
    try simp only[mnA,mnB,mnC]
    refine rdA 14 36 (fun K hK=>?_)
    go_simp
    (with_reducible refine cmo (MKC.out v18 S18.out e1 e3 k kN E1.out E3.out) ?_);rintro e v19 ⟨rd,rfl,⟨D,hdo,hchk⟩,hbm⟩;have CHK:=mh hchk;have S19:=mh (S18.out.below hbm);have DOM:=mh (hdo.mono (show w.heap.size+1≤v18.heap.size from S18.out.lt));have A19:=mh (A18.out.below hbm);have NGA:=mh (show ∀i,(Value.slice rd.ap rd.an rd.ac).ownBlock=some i→i≠gd from fun i hi=>by have h1:=(hdo.aw.lt hi).1;have h2:=A18.out.lt;omega);have NGR:=mh (show ∀i,(Value.slice rd.rp rd.rn rd.rc).ownBlock=some i→i≠gd from fun i hi=>by have h1:=(hdo.rs.lt hi).1;have h2:=A18.out.lt;omega);clear hbm hdo hchk
    go_wp2_with fail
    refine hK.out _ _ (KS.out _ S19.out) (fun hHeld2=>?_)
    clear hK K
    (try dsimp only[Act.put])
    try simp only[mnA,mnB,mnC]
    refine tkH 15 21 (by assumption) ?_
    refine tkH 16 37 (by assumption) ?_
    refine tkH 17 38 (by assumption) ?_
    obtain⟨t0,t0f,t1,t1f,t2,t2f,t3,t3f,t4,t4f⟩:=A19.out.f5;obtain⟨u20,h9,r9,p9,d9,b9,k9⟩:=S19.out.fill A19.out GD.out.1 GD.out.2.1 GD.out.2.2 NGA.out NGR.out DOM.out (fun k hk=>(KS.out _ S19.out).2.2.2.2.2.2.2.2.2.2 k hk);have H9:=mh h9;have R5:=mh r9;have TP5:=mh p9;have D5:=mh d9;have B5:=mh b9;have K5:=mh k9;clear h9 r9 p9 d9 b9 k9;refine wpAnyH_ready (rs := [19]) (by kernel_rfl) (by simp) ?_;refine AllReadyH.cons (o:=⟨none,_,_,_,_,_⟩) rfl (fun K hK=>?_) AllReadyH.nil;go_simp;rw[H9.out];refine hK.out _ _ K5.out (fun hHeld2=>?_);clear hK K t0 t1 t2 t3 t4 t0f t1f t2f t3f t4f
    (try dsimp only[Act.put])
    try simp only[mnA,mnB,mnC]
    refine tkH 20 6 (by assumption) ?_
    refine wpAnyH_done (by kernel_rfl) ?_ _
    obtain⟨b0,b1,b2,b3,b4⟩:=B5.out.c5;obtain⟨t0,t0f,t1,t1f,t2,t2f,t3,t3f,t4,t4f⟩:=R5.out.f5
    go_wp2_with fail
    exact post5 R5.out rfl fun wf PB PK=>⟨by obtain⟨c0,c1,c2,c3,c4⟩:=PB.c5;simp[results,dCells,Tryz.results8,go_sem,c0,c1,c2,c3,c4],⟨rd,D,_,rfl,(D5.out.but PK (Nat.lt_succ_self _)).mono (Nat.le_succ _),CHK.out,TP5.out.belowB (PK.below mle TP5.out.but.size)⟩⟩
end Go.Proofs.YtljibgchickcpaaGreatDoor
