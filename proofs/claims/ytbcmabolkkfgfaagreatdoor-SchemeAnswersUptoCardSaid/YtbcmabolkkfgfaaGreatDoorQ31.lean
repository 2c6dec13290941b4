/- Packed. -/
import Derived.Test.YtbcmabolkkfgfaaGreatDoorQ29
import Derived.Test.YtbcmabolkkfgfaaGreatDoorQ30
set_option maxRecDepth 100000
set_option maxHeartbeats 16000000
open Go.Value renaming int → I
open Go.IntKind renaming i64 → O
namespace Go.Proofs.YtbcmabolkkfgfaaGreatDoor
open Go.RowKit Te Sc
structure RSl where
 p:Option Addr
 n:Nat
 c:Nat
def slCells (r:RSl):List Value := [.slice r.p r.n r.c]
def SSl:Shape RSl:=⟨1,slCells,fun _=>rfl,by decide,fun a u hu=>by
 simp only[slCells,List.mem_cons,List.not_mem_nil,or_false]at hu
 rcases hu with rfl;rfl⟩
def SI1:Shape Int:=⟨1,fun n => [I O n],fun _=>rfl,by decide,fun a u hu=>by
 simp only[List.mem_cons,List.not_mem_nil,or_false]at hu
 rcases hu with rfl;rfl⟩
def SS1:Shape ByteArray:=⟨1,fun s => [.string s],fun _=>rfl,by decide,fun a u hu=>by
 simp only[List.mem_cons,List.not_mem_nil,or_false]at hu
 rcases hu with rfl;rfl⟩
theorem IsRow.below' {k:IntKind}{w w' : World}{a:Option Addr}{len cap:Nat}{zs:List Int}(h:IsRow k w a len cap zs)(hb:Below w.heap.size w w'):IsRow k w' a len cap zs:=by
 rcases h with h|⟨x,e,h1,h2,h3,h4,h5⟩
 ·exact .inl h
 ·exact .inr ⟨x,e,h1,h2,h3,fun i hi=>(hb.cell (World.block_lt_of_cell? w _ (h4 i hi))).trans (h4 i hi),h5⟩
structure SmL (W:World) (p:Option Addr) (c d:Nat) (L:List Sch):Prop where
 ss:SsAt (fun _=>True) W d p L
 cap:L.length≤c
 nm:∀s∈L,s.nm.size≤9223372036854775807
 ct:∀s∈L,count s.cond≤1099511627776
theorem SmL.below {W W' : World}{p:Option Addr}{c d:Nat}{L:List Sch}(h:SmL W p c d L)(hb:Below W.heap.size W W'):SmL W' p c d L :=
 ⟨(h.ss.change (Q' := fun b=>b<W.heap.size) mle fun _ _ hl=>⟨rfl,hl⟩).change hb.size fun b k _=>⟨hb.block b k,trivial⟩,h.cap,h.nm,h.ct⟩
theorem lit_at {α:Type}{S:Shape α}{W:World}{g:Nat}{L:List α}(h:Recs S W (some ⟨g,0,none⟩) L)(hk:S.k=1){k:Nat}(hl:k<L.length){u:Value}(hu:S.cells L[k] = [u]):W.cell? ⟨g,k,none⟩=some u:=by
 obtain⟨b,off,e, -,hc⟩:=h.at hl
 cases e
 have:=hc 0 u (by rw[hu];rfl)
 rwa [hk,Nat.mul_one,Nat.zero_add,Nat.add_zero]at this
theorem schemeAnswers_walk (p0:Option Addr)(L0:List Sch)(c0 d0:Nat)(txt:ByteArray)(sq st x:Int)(a:Option Addr)(len cap:Nat)(z:List Int)(w:World)
  (hS:SsAt (fun _=>True) w d0 p0 L0) (hc:L0.length≤c0) (hs:∀s∈L0,s.nm.size≤9223372036854775807∧count s.cond≤1099511627776) (w1:(Lit.int .i64 sq).wf=true) (w2:(Lit.int .i64 st).wf=true) (w3:(Lit.int .i64 x).wf=true) (w0:IsRow .i64 w a len cap z) (hE:Env w) :
  Calls Tryz.prog 3 #[.slice p0 L0.length c0,.string txt,I O sq,I O st,I O x,.slice a len cap] w (Yes w):=by
 obtain⟨sq0,sq1⟩:=bd_i64 w1;obtain⟨x0,x1⟩:=bd_i64 w3;obtain⟨st0,st1⟩:=bd_i64 w2;have X0:=mh x0;have SQ0:=mh sq0;have ST0:=mh st0;have SM:=mh (show SmL w p0 c0 d0 L0 from⟨hS,hc,fun s h=>(hs s h).1,fun s h=>(hs s h).2⟩);have HE:=mh hE;have NW:=mh (fun (W:World) (hb:Below w.heap.size w W)=>new_any a len cap z W (w0.below' hb));obtain⟨l,el⟩:∃l,(z.take len).take 400=l:=⟨_,rfl⟩;rw[el]at NW;have AW:=mh (fun (W:World) (hW:Env W)=>awake17_any W hW);unfold Yes at AW ⊢;have HB0:=mh (brf w.heap.size w);clear el w0 hE hS hc hs w1 w2 w3 x0 x1 sq0 sq1 st0 st1;obtain⟨n,en⟩:∃n,L0.length=n:=⟨_,rfl⟩;have EN:=mh en;rw[en];clear en
 go_enter Tryz.func3,Tryz.ntmps3
 go_upto_region 1 with fail
 by_cases h8:(20:Int)<(n:Int)
 ·go_wp2_with (go_at_call 4;(with_reducible refine cmo (AW.out _ (HE.out.below HB0.out)) ?_);rintro e wz ⟨rfl,hb⟩;have HBz:=mh (bstep mle HB0.out hb);clear hb)
  go_ret
  exact⟨rfl,HBz.out⟩
 by_cases h12:(1500:Int)<(txt.size:Int)
 ·go_wp2_with (go_at_call 4;(with_reducible refine cmo (AW.out _ (HE.out.below HB0.out)) ?_);rintro e wz ⟨rfl,hb⟩;have HBz:=mh (bstep mle HB0.out hb);clear hb)
  go_ret
  exact⟨rfl,HBz.out⟩
 have TX:=mh (show txt.size≤1500 from by omega);have N20:=mh (show n≤20 from by omega)
 go_wp2_with fail
 clear h8 h12
 go_loopw [13,65] (fun _ iv W=>∃(k:Nat),k≤n∧iv=I O k∧Below w.heap.size w W) (fun _ iv _=>n - (intOf iv).toNat)
 case atStart=>exact⟨0,Nat.zero_le _,rfl,HB0.out⟩
 case round =>
  obtain⟨wo,rfl⟩:∃wo:World,wo=wr:=⟨_,rfl⟩;obtain⟨k,hk,rfl,hb⟩:=hrel;have HB1:=mh hb;have hk0:(0:Int)≤(k:Int):=inn _;clear hb
  by_cases hlt:k<n
  ·have hk1:(k:Int)<(n:Int):=by omega
   have hkn:=N20.out;have HKL:=mh (show k<L0.length from by rw[EN.out];exact hlt);obtain⟨b,off,⟨rn,rnm,⟨rto,rtn,rtm,rtp,rtl,rtc⟩,rbp,rbn,rbc,rle,rex,rne⟩,rfl,hbl,⟨m0,m1,m2,m3,m4,m5,m6,m7,m8,m9⟩,hv⟩:=(SM.out.below HB1.out).ss.at HKL.out;simp only at m1 m2 m3 m4 m5 m6;have CT:=mh (count17_any d0 _ _ wo hv.t (SM.out.ct _ (List.getElem_mem HKL.out)));unfold RcG at CT;simp only at CT;clear hv m0 m7 m8 m9
   by_cases q1:(12:Int)<(rbn:Int)
   all_goals by_cases q2:(40:Int)<(rnm.size:Int)
   all_goals
    go_wp2_with (first
     | (go_at_call 5;(with_reducible refine cmo CT.out ?_);rintro e w2 ⟨N,hN,rfl,hb⟩;have HB2:=mh (bstep mle HB1.out hb);have r1:=(hb.cell (p:=⟨b,off+k*10+1,none⟩) hbl).trans m1;have r6:=(hb.cell (p:=⟨b,off+k*10+6,none⟩) hbl).trans m6;clear hN hb;by_cases q3:(60:Int)<N)
     | (go_at_call 4;(with_reducible refine cmo (AW.out _ (HE.out.below HB2.out)) ?_);rintro e wz ⟨rfl,hb⟩;have HBz:=mh (bstep mle HB2.out hb);clear hb)
     | fail)
    all_goals first
     | (go_ret;exact⟨rfl,HBz.out⟩)
     | (go_roundw;(case rel=>exact⟨k+1,by omega,by go_num,HB2.out⟩);(case measure=>simp[intOf];omega))
  obtain rfl:k=n:=by omega
  go_wp2_with fail
  (with_reducible refine cmo (NW.out _ HB1.out) ?_);rintro e w2 ⟨rfl,ht2,hb2⟩;have HB2:=mh (bstep mle HB1.out hb2);obtain⟨t,et⟩:∃t,wo.heap.size=t:=⟨_,rfl⟩;rw[et]at ht2 ⊢;have HT2:=mh ht2;have TW:=mh (show w.heap.size≤t from by rw[← et];exact HB1.out.size);clear ht2 hb2 et NW;have LW:=mh (tapeLaw_any t l 0 3 (by decide) w2 HT2.out);unfold LawGive at LW
  go_upto_region 11 with (first
   | (go_at_call 7;(with_reducible refine cmo LW.out ?_);rintro e w3 ⟨v3,L1,q3,rfl,hl1,hck,hl3,hsm,ht3,hb3⟩;obtain⟨p1,c1,d1,rfl,hc1, -,hss⟩:=hl1.ss rfl;have HT3:=mh ht3;have HB3:=mh (HB2.out.trans (hb3.below TW.out HB2.out.size));have CK:=mh hck;have S3:=mh (show SmL w3 p1 c1 d1 L1 from⟨hss.change mle fun _ _ _=>⟨rfl,trivial⟩,hc1,fun s h=>by have:=(hsm s h).nm;omega,fun s h=>by have:=(hsm s h).ct;omega⟩);have SN:=mh (show SsAt (fun b=>t<b) w3 d1 p1 L1 from hss.change mle fun b k _=>⟨rfl,by have:=HT2.out.lt;omega⟩);clear hl1 hck hl3 hsm ht3 hb3 hss)
   | (go_at_call 8;(with_reducible refine cmo (spoilt17_any t l q3 x w3 HT3.out X0.out) ?_);rintro e w4 ⟨p2,n2,c2,d2,L2,q4,rfl,rfl,hc2,hss,hsm,hp⟩;have HB4:=mh (HB3.out.trans (hp.but.below TW.out HB3.out.size));have SA:=mh (show SmL w4 p1 c1 d1 L1 from⟨(SN.out.change hp.but.size fun b k hl=>⟨hp.but.block b hl (by omega),k⟩).change mle fun _ _ _=>⟨rfl,trivial⟩,S3.out.cap,S3.out.nm,S3.out.ct⟩);have SB:=mh (show SmL w4 p2 c2 d2 L2 from⟨hss.change mle fun _ _ _=>⟨rfl,trivial⟩,hc2,fun s h=>by have:=(hsm s h).nm;omega,fun s h=>by have:=(hsm s h).ct;omega⟩);clear hss hsm hp)
   | fail)
  clear S3 SN HT3 HB3 LW HT2 HB2;have hal:=(brf w4.heap.size w4).alloc mle (.cells #[.slice p0 k c0,.slice p1 L1.length c1,.slice p2 L2.length c2] 22);have HB5:=mh (bstep mle HB4.out hal);have RW:=mh (show Recs SSl (w4.alloc (.cells #[.slice p0 k c0,.slice p1 L1.length c1,.slice p2 L2.length c2] 22)) (some ⟨w4.heap.size,0,none⟩) [⟨p0,k,c0⟩,⟨p1,L1.length,c1⟩,⟨p2,L2.length,c2⟩] from Recs.lit (S:=SSl) w4 22 [⟨p0,k,c0⟩,⟨p1,L1.length,c1⟩,⟨p2,L2.length,c2⟩] (by show 3≤_;unfold maxLen;omega));have S0:=mh (SM.out.below HB5.out);have S1:=mh (SA.out.below hal);have S2:=mh (SB.out.below hal)
  go_wp2_with fail
  obtain⟨gA,egA⟩:∃g,w4.heap.size=g:=⟨_,rfl⟩;rw[egA]at RW ⊢;clear egA hal SA SB HB4;generalize w4.alloc (.cells #[.slice p0 k c0,.slice p1 L1.length c1,.slice p2 L2.length c2] 22)=w5 at *;have HEV:=mh (HE.out.below HB5.out)
  have FS:=mh (show ∀j:Nat,j<3→∃(p:Option Addr) (c d:Nat) (L:List Sch),w5.cell? ⟨gA,j,none⟩=some (.slice p L.length c)∧gA<w5.heap.size∧SmL w5 p c d L from fun j hj=>by
   have hg:gA<w5.heap.size:=RW.out.lt (by simp) rfl
   match j,hj with
   | 0,_=>exact⟨p0,c0,d0,L0,by rw[EN.out];exact lit_at RW.out rfl (k:=0) (by simp) rfl,hg,S0.out⟩
   | 1,_=>exact⟨p1,c1,d1,L1,lit_at RW.out rfl (k:=1) (by simp) rfl,hg,S1.out⟩
   | 2,_=>exact⟨p2,c2,d2,L2,lit_at RW.out rfl (k:=2) (by simp) rfl,hg,S2.out⟩)
  clear RW S0 S2 hk hk0 hlt
  go_loopw [107] (fun iv W=>∃(j:Nat),j≤3∧iv=I O j∧Below w5.heap.size w5 W) (fun iv _=>3 - (intOf iv).toNat)
  case atStart=>exact⟨0,by omega,rfl,brf _ _⟩
  case round =>
   obtain⟨wi,rfl⟩:∃wi:World,wi=wr:=⟨_,rfl⟩;obtain⟨j,hj,rfl,hb⟩:=hrel;have G0:=mh hb;have hj0:(0:Int)≤(j:Int):=inn _;clear hb
   by_cases hj3:j<3
   rotate_left
   ·obtain rfl:j=3:=by omega
    clear hj3 hj hj0;have H6:=mh (bstep mle HB5.out G0.out);have S6:=mh (S1.out.below G0.out);have RP:=mh (refprint17_any d1 p1 L1 c1 wi S6.out.ss S6.out.nm S6.out.cap S6.out.ct);unfold PrintG17 at RP;obtain⟨R,eR⟩:∃R,(⟨(prT17 L1).toArray⟩:ByteArray)=R:=⟨_,rfl⟩
    have RZ:=mh (show R.size≤13600 from by
     have OK:=lawOk CK.out;have e:prT17 L1=Wo.jText (linesL L1):=by unfold prT17;rw[CK.out];rfl
     have h1:=(linesL_len L1 OK.one).1;have h2:=OK.len;rw[← e]at h1;rw[← eR]
     show(prT17 L1).toArray.size≤13600
     rw[List.size_toArray]
     omega)
    simp only[CK.out,eR]at RP;clear eR
    go_upto_region 42 with (first|(go_at_call 12;(with_reducible refine cmo RP.out ?_);rintro e w7 ⟨rfl,hb⟩;have H7:=mh (bstep mle H6.out hb);clear hb)|fail)
    obtain⟨ca,wb,hconv,hBA,hbb⟩:=bytes_of w7 R;have HBA:=mh hBA;have H8:=mh (H7.out.trans (hbb.mono H7.out.size));clear hBA hbb;have WW:=mh H7.out.size;obtain⟨gb,egb⟩:∃g,w7.heap.size=g:=⟨_,rfl⟩
    go_upto_region 43 with fail
    rw[egb]at HBA WW
    try rw[egb]
    clear hconv egb
    by_cases hz:R.size=0
    ·have hz1:(R.size:Int)=0:=by omega
     have hz2:¬(0:Int)<(R.size:Int):=by omega
     go_upto_region 45 with fail
     obtain⟨X,eX⟩:∃X,R.data.toList=X:=⟨_,rfl⟩;have hxl:X.length=R.size:=by rw[← eX,size_len]
     rw[eX]at HBA;have HBY:=mh HBA.out;have HBy:=mh H8.out;clear eX HBA hz1 hz2 hz;obtain⟨wy,rfl⟩:∃wy:World,wy=wb:=⟨_,rfl⟩;have HXB:=bytes_back wy gb ca X R.size hxl HBY.out;have hal:=(brf wy.heap.size wy).alloc mle (.cells #[.string txt,.string R,.string ⟨X.toArray⟩,.string (R++txt),.string (R++(⟨#[114,97,116,101,32,57,32,49,10]⟩:ByteArray)),.string (R++(⟨#[110,111,116,32,49,53,10]⟩:ByteArray)),.string (R++(⟨#[115,99,104,101,109,101,32,57,32,122,32,49,10]⟩:ByteArray))] 9);have H9:=mh (bstep mle HBy.out hal);have RT:=mh (show Recs SS1 (wy.alloc (.cells #[.string txt,.string R,.string ⟨X.toArray⟩,.string (R++txt),.string (R++(⟨#[114,97,116,101,32,57,32,49,10]⟩:ByteArray)),.string (R++(⟨#[110,111,116,32,49,53,10]⟩:ByteArray)),.string (R++(⟨#[115,99,104,101,109,101,32,57,32,122,32,49,10]⟩:ByteArray))] 9)) (some ⟨wy.heap.size,0,none⟩) [txt,R,⟨X.toArray⟩,(R++txt),(R++(⟨#[114,97,116,101,32,57,32,49,10]⟩:ByteArray)),(R++(⟨#[110,111,116,32,49,53,10]⟩:ByteArray)),(R++(⟨#[115,99,104,101,109,101,32,57,32,122,32,49,10]⟩:ByteArray))] from Recs.lit (S:=SS1) wy 9 [txt,R,⟨X.toArray⟩,(R++txt),(R++(⟨#[114,97,116,101,32,57,32,49,10]⟩:ByteArray)),(R++(⟨#[110,111,116,32,49,53,10]⟩:ByteArray)),(R++(⟨#[115,99,104,101,109,101,32,57,32,122,32,49,10]⟩:ByteArray))] (by show 7≤_;unfold maxLen;omega));have zt:=TX.out;have zr:=RZ.out
     go_wp2_with fail
     clear zt zr;obtain⟨gT,egT⟩:∃g,wy.heap.size=g:=⟨_,rfl⟩;rw[egT]at RT ⊢;clear egT hal HXB;generalize wy.alloc (.cells #[.string txt,.string R,.string ⟨X.toArray⟩,.string (R++txt),.string (R++(⟨#[114,97,116,101,32,57,32,49,10]⟩:ByteArray)),.string (R++(⟨#[110,111,116,32,49,53,10]⟩:ByteArray)),.string (R++(⟨#[115,99,104,101,109,101,32,57,32,122,32,49,10]⟩:ByteArray))] 9)=w9 at *
     have FT:=mh (show ∀i:Nat,i<7→∃s:ByteArray,w9.cell? ⟨gT,i,none⟩=some (.string s)∧gT<w9.heap.size∧s.size≤9223372036854775807 from fun i hi=>by
      have hg:gT<w9.heap.size:=RT.out.lt (by simp) rfl;have z1:=TX.out;have z2:=RZ.out
      match i,hi with
      | 0,_=>exact⟨txt,lit_at RT.out rfl (k:=0) (by simp) rfl,hg,by omega⟩
      | 1,_=>exact⟨R,lit_at RT.out rfl (k:=1) (by simp) rfl,hg,by omega⟩
      | 2,_=>exact⟨⟨X.toArray⟩,lit_at RT.out rfl (k:=2) (by simp) rfl,hg,by show X.toArray.size≤_;rw[List.size_toArray];omega⟩
      | 3,_=>exact⟨(R++txt),lit_at RT.out rfl (k:=3) (by simp) rfl,hg,by rw[ByteArray.size_append];omega⟩
      | 4,_=>exact⟨(R++(⟨#[114,97,116,101,32,57,32,49,10]⟩:ByteArray)),lit_at RT.out rfl (k:=4) (by simp) rfl,hg,by rw[ByteArray.size_append];show R.size+9≤_;omega⟩
      | 5,_=>exact⟨(R++(⟨#[110,111,116,32,49,53,10]⟩:ByteArray)),lit_at RT.out rfl (k:=5) (by simp) rfl,hg,by rw[ByteArray.size_append];show R.size+7≤_;omega⟩
      | 6,_=>exact⟨(R++(⟨#[115,99,104,101,109,101,32,57,32,122,32,49,10]⟩:ByteArray)),lit_at RT.out rfl (k:=6) (by simp) rfl,hg,by rw[ByteArray.size_append];show R.size+13≤_;omega⟩)
     clear RT
     go_loopw [269] (fun iv W=>∃(i:Nat),i≤7∧iv=I O i∧Below w9.heap.size w9 W) (fun iv _=>7 - (intOf iv).toNat)
     case atStart=>exact⟨0,by omega,rfl,brf _ _⟩
     case round =>
      obtain⟨wo5,rfl⟩:∃wo5:World,wo5=wr:=⟨_,rfl⟩;obtain⟨i,hi,rfl,hb⟩:=hrel;have K0:=mh hb;have HB9:=mh (bstep mle H9.out hb);have hi0:(0:Int)≤(i:Int):=inn _;clear hb
      by_cases hi7:i<7
      rotate_left
      ·obtain rfl:i=7:=by omega
       go_wp2_with (go_at_call 4;(with_reducible refine cmo (AW.out _ (HE.out.below HB9.out)) ?_);rintro e wz ⟨rfl,hb⟩;have HBz:=mh (bstep mle HB9.out hb);clear hb)
       go_ret
       exact⟨rfl,HBz.out⟩
      have hi8:(i:Int)<7:=by omega
      obtain⟨s,cell,hgT,hsz⟩:=FT.out i hi7;have cell:=(K0.out.cell (p:=⟨gT,i,none⟩) hgT).trans cell;have EV9:=mh (HE.out.below HB9.out);have Q1:=mh (parse17_any s wo5 EV9.out hsz);have Q2:=mh (fun (W:World) (hb:Below wo5.heap.size wo5 W)=>refparse17_any s W (EV9.out.below hb) hsz);unfold ParseG17 at Q1 Q2;obtain⟨⟨L5,v1,v2⟩,eP⟩:∃P,parse17 s.data.toList=P:=⟨_,rfl⟩;simp only[eP]at Q1 Q2;have SMG:=mh (fun (Qa Qb:Nat→Prop) (d e:Nat) (p1 p2:Option Addr) (c1 c2:Nat) (W:World) (h1:SsAt Qa W d p1 L5) (h2:SsAt Qb W e p2 L5)=>same17_any (Q1:=Qa) (Q2:=Qb) d e p1 p2 L5 L5.length c1 c2 W rfl h1 h2);unfold BoolG at SMG;clear eP hgT hsz
      go_wp2_with (first
       | (go_at_call 20;(with_reducible refine cmo Q1.out ?_);rintro e wa5 ⟨pa,ca5,da,rfl,hsa, -,hb⟩;have J1:=mh hb;have A1:=mh hsa;clear hb hsa)
       | (go_at_call 21;(with_reducible refine cmo (Q2.out _ J1.out) ?_);rintro e wb5 ⟨pb,cb5,db,rfl,hsb, -,hb⟩;have J2:=mh (bstep mle J1.out hb);have A2:=mh hsb;have A12:=mh (A1.out.below hb);clear hb hsb)
       | (go_at_call 22;(with_reducible refine cmo (SMG.out _ _ da db pa pb ca5 cb5 wb5 A12.out A2.out) ?_);rintro e wc5 ⟨rfl,hb⟩;have J3:=mh (bstep mle J2.out hb);have K3:=mh (bstep mle K0.out J3.out);clear hb)
       | fail)
      go_roundw
      case rel=>exact⟨i+1,by omega,by go_num,K3.out⟩
      case measure=>simp[intOf];omega
    have hz2:(0:Int)<(R.size:Int):=by omega
    have mb:=mod_bd x (n:=(R.size:Int)) (by omega);have MD:=mh (fun W:World=>mod_any x (R.size:Int) W X0.out (by have:=RZ.out;omega));obtain⟨ix,eix⟩:∃ix:Nat,mod x (R.size:Int)=(ix:Int):=Int.eq_ofNat_of_zero_le (by omega);rw[eix]at MD mb;have hixL:ix<R.data.toList.length:=by rw[size_len];omega
    have mc:=mod_bd sq (n:=25) (by omega);have ME:=mh (fun W:World=>mod_any sq 25 W SQ0.out (by omega));obtain⟨iy,eiy⟩:∃iy:Nat,mod sq 25=(iy:Int):=Int.eq_ofNat_of_zero_le (by omega);rw[eiy]at ME mc;have hiy:iy<25:=by omega
    have hiy0:(0:Int)≤(iy:Int):=inn _;have hiy1:(iy:Int)<25:=mc.2;have hix0:(0:Int)≤(ix:Int):=inn _;have hix1:(ix:Int)<(R.size:Int):=mb.2;obtain⟨CH,eCH⟩:∃x:UInt8,(⟨#[115,99,104,101,109,101,105,102,114,97,116,101,32,110,111,116,48,49,50,51,45,40,41,10,35]⟩:ByteArray)[iy]'(by show iy<25;exact hiy)=x:=⟨_,rfl⟩;have hBc:=HBA.out.c ix hixL;have hBf:=HBA.out.f ix hixL;have hbl:=HBA.out.lt;clear eix eiy mb mc
    go_upto_region 45 with (first
     | (go_at_call 14;(with_reducible refine cmo (MD.out _) ?_);rintro e wm ⟨rfl,rfl⟩)
     | (go_at_call 14;(with_reducible refine cmo (ME.out _) ?_);rintro e wn ⟨rfl,rfl⟩)
     | fail)
    have HBY:=mh (show BytesAt (wb.setCell ⟨gb,ix,none⟩ (.int .u8 (CH.toNat:Int))) gb (R.data.toList.set ix CH) from HBA.out.set hixL CH);have HBy:=mh (show Below w.heap.size w (wb.setCell ⟨gb,ix,none⟩ (.int .u8 (CH.toNat:Int))) from H8.out.setCell (p:=⟨gb,ix,none⟩) WW.out _);generalize wb.setCell ⟨gb,ix,none⟩ (.int .u8 (CH.toNat:Int))=wy at *;obtain⟨X,eX⟩:∃X,R.data.toList.set ix CH=X:=⟨_,rfl⟩;have hxl:X.length=R.size:=by rw[← eX,List.length_set,size_len]
    rw[eX]at HBY;clear eX hixL hBc hBf hbl eCH hiy hiy0 hiy1 hix0 hix1 MD ME HBA H8;have HXB:=bytes_back wy gb ca X R.size hxl HBY.out;have hal:=(brf wy.heap.size wy).alloc mle (.cells #[.string txt,.string R,.string ⟨X.toArray⟩,.string (R++txt),.string (R++(⟨#[114,97,116,101,32,57,32,49,10]⟩:ByteArray)),.string (R++(⟨#[110,111,116,32,49,53,10]⟩:ByteArray)),.string (R++(⟨#[115,99,104,101,109,101,32,57,32,122,32,49,10]⟩:ByteArray))] 9);have H9:=mh (bstep mle HBy.out hal);have RT:=mh (show Recs SS1 (wy.alloc (.cells #[.string txt,.string R,.string ⟨X.toArray⟩,.string (R++txt),.string (R++(⟨#[114,97,116,101,32,57,32,49,10]⟩:ByteArray)),.string (R++(⟨#[110,111,116,32,49,53,10]⟩:ByteArray)),.string (R++(⟨#[115,99,104,101,109,101,32,57,32,122,32,49,10]⟩:ByteArray))] 9)) (some ⟨wy.heap.size,0,none⟩) [txt,R,⟨X.toArray⟩,(R++txt),(R++(⟨#[114,97,116,101,32,57,32,49,10]⟩:ByteArray)),(R++(⟨#[110,111,116,32,49,53,10]⟩:ByteArray)),(R++(⟨#[115,99,104,101,109,101,32,57,32,122,32,49,10]⟩:ByteArray))] from Recs.lit (S:=SS1) wy 9 [txt,R,⟨X.toArray⟩,(R++txt),(R++(⟨#[114,97,116,101,32,57,32,49,10]⟩:ByteArray)),(R++(⟨#[110,111,116,32,49,53,10]⟩:ByteArray)),(R++(⟨#[115,99,104,101,109,101,32,57,32,122,32,49,10]⟩:ByteArray))] (by show 7≤_;unfold maxLen;omega));have zt:=TX.out;have zr:=RZ.out
    go_wp2_with fail
    clear zt zr;obtain⟨gT,egT⟩:∃g,wy.heap.size=g:=⟨_,rfl⟩;rw[egT]at RT ⊢;clear egT hal HXB;generalize wy.alloc (.cells #[.string txt,.string R,.string ⟨X.toArray⟩,.string (R++txt),.string (R++(⟨#[114,97,116,101,32,57,32,49,10]⟩:ByteArray)),.string (R++(⟨#[110,111,116,32,49,53,10]⟩:ByteArray)),.string (R++(⟨#[115,99,104,101,109,101,32,57,32,122,32,49,10]⟩:ByteArray))] 9)=w9 at *
    have FT:=mh (show ∀i:Nat,i<7→∃s:ByteArray,w9.cell? ⟨gT,i,none⟩=some (.string s)∧gT<w9.heap.size∧s.size≤9223372036854775807 from fun i hi=>by
     have hg:gT<w9.heap.size:=RT.out.lt (by simp) rfl;have z1:=TX.out;have z2:=RZ.out
     match i,hi with
     | 0,_=>exact⟨txt,lit_at RT.out rfl (k:=0) (by simp) rfl,hg,by omega⟩
     | 1,_=>exact⟨R,lit_at RT.out rfl (k:=1) (by simp) rfl,hg,by omega⟩
     | 2,_=>exact⟨⟨X.toArray⟩,lit_at RT.out rfl (k:=2) (by simp) rfl,hg,by show X.toArray.size≤_;rw[List.size_toArray];omega⟩
     | 3,_=>exact⟨(R++txt),lit_at RT.out rfl (k:=3) (by simp) rfl,hg,by rw[ByteArray.size_append];omega⟩
     | 4,_=>exact⟨(R++(⟨#[114,97,116,101,32,57,32,49,10]⟩:ByteArray)),lit_at RT.out rfl (k:=4) (by simp) rfl,hg,by rw[ByteArray.size_append];show R.size+9≤_;omega⟩
     | 5,_=>exact⟨(R++(⟨#[110,111,116,32,49,53,10]⟩:ByteArray)),lit_at RT.out rfl (k:=5) (by simp) rfl,hg,by rw[ByteArray.size_append];show R.size+7≤_;omega⟩
     | 6,_=>exact⟨(R++(⟨#[115,99,104,101,109,101,32,57,32,122,32,49,10]⟩:ByteArray)),lit_at RT.out rfl (k:=6) (by simp) rfl,hg,by rw[ByteArray.size_append];show R.size+13≤_;omega⟩)
    clear RT
    go_loopw [269] (fun iv W=>∃(i:Nat),i≤7∧iv=I O i∧Below w9.heap.size w9 W) (fun iv _=>7 - (intOf iv).toNat)
    case atStart=>exact⟨0,by omega,rfl,brf _ _⟩
    case round =>
     obtain⟨wo5,rfl⟩:∃wo5:World,wo5=wr:=⟨_,rfl⟩;obtain⟨i,hi,rfl,hb⟩:=hrel;have K0:=mh hb;have HB9:=mh (bstep mle H9.out hb);have hi0:(0:Int)≤(i:Int):=inn _;clear hb
     by_cases hi7:i<7
     rotate_left
     ·obtain rfl:i=7:=by omega
      go_wp2_with (go_at_call 4;(with_reducible refine cmo (AW.out _ (HE.out.below HB9.out)) ?_);rintro e wz ⟨rfl,hb⟩;have HBz:=mh (bstep mle HB9.out hb);clear hb)
      go_ret
      exact⟨rfl,HBz.out⟩
     have hi8:(i:Int)<7:=by omega
     obtain⟨s,cell,hgT,hsz⟩:=FT.out i hi7;have cell:=(K0.out.cell (p:=⟨gT,i,none⟩) hgT).trans cell;have EV9:=mh (HE.out.below HB9.out);have Q1:=mh (parse17_any s wo5 EV9.out hsz);have Q2:=mh (fun (W:World) (hb:Below wo5.heap.size wo5 W)=>refparse17_any s W (EV9.out.below hb) hsz);unfold ParseG17 at Q1 Q2;obtain⟨⟨L5,v1,v2⟩,eP⟩:∃P,parse17 s.data.toList=P:=⟨_,rfl⟩;simp only[eP]at Q1 Q2;have SMG:=mh (fun (Qa Qb:Nat→Prop) (d e:Nat) (p1 p2:Option Addr) (c1 c2:Nat) (W:World) (h1:SsAt Qa W d p1 L5) (h2:SsAt Qb W e p2 L5)=>same17_any (Q1:=Qa) (Q2:=Qb) d e p1 p2 L5 L5.length c1 c2 W rfl h1 h2);unfold BoolG at SMG;clear eP hgT hsz
     go_wp2_with (first
      | (go_at_call 20;(with_reducible refine cmo Q1.out ?_);rintro e wa5 ⟨pa,ca5,da,rfl,hsa, -,hb⟩;have J1:=mh hb;have A1:=mh hsa;clear hb hsa)
      | (go_at_call 21;(with_reducible refine cmo (Q2.out _ J1.out) ?_);rintro e wb5 ⟨pb,cb5,db,rfl,hsb, -,hb⟩;have J2:=mh (bstep mle J1.out hb);have A2:=mh hsb;have A12:=mh (A1.out.below hb);clear hb hsb)
      | (go_at_call 22;(with_reducible refine cmo (SMG.out _ _ da db pa pb ca5 cb5 wb5 A12.out A2.out) ?_);rintro e wc5 ⟨rfl,hb⟩;have J3:=mh (bstep mle J2.out hb);have K3:=mh (bstep mle K0.out J3.out);clear hb)
      | fail)
     go_roundw
     case rel=>exact⟨i+1,by omega,by go_num,K3.out⟩
     case measure=>simp[intOf];omega
   have hj4:(j:Int)<3:=by omega
   obtain⟨p,c,d,L,cell,hgA,hsl⟩:=FS.out j hj3;have cell:=(G0.out.cell (p:=⟨gA,j,none⟩) hgA).trans cell;have SL:=mh hsl;have hln:=hsl.ss.len;clear hsl hgA
   go_upto_region 14 with fail
   clear cell;have C1:=mh (fun (W:World) (hb:Below w5.heap.size w5 W)=>check17_any d p L c W (SL.out.below hb).ss SL.out.nm SL.out.cap);have C2:=mh (fun (W:World) (hb:Below w5.heap.size w5 W)=>refcheck17_any d p L c W (SL.out.below hb).ss SL.out.nm SL.out.cap SL.out.ct);have P1:=mh (fun (W:World) (hb:Below w5.heap.size w5 W)=>print17_any d p L c W (SL.out.below hb).ss SL.out.nm SL.out.cap (HEV.out.below hb));have P2:=mh (fun (W:World) (hb:Below w5.heap.size w5 W)=>refprint17_any d p L c W (SL.out.below hb).ss SL.out.nm SL.out.cap SL.out.ct);obtain⟨m,em⟩:∃y,mod x 6=y:=⟨_,rfl⟩;have MD:=mh (fun W=>em▸mod_any x 6 W X0.out (by omega));have F1:=mh (fun (W:World) (hb:Below w5.heap.size w5 W)=>find17_any d p L c m W (SL.out.below hb).ss);have F2:=mh (fun (W:World) (hb:Below w5.heap.size w5 W)=>reffind17_any d p L c m W (SL.out.below hb).ss);unfold ChkG at C1 C2;unfold PrintG17 at P1 P2;unfold IntG at F1 F2;obtain⟨⟨v1,v2⟩,ev⟩:∃v,chk17 L=v:=⟨_,rfl⟩;obtain⟨T,eT⟩:∃T,(⟨(prT17 L).toArray⟩:ByteArray)=T:=⟨_,rfl⟩;obtain⟨f,ef⟩:∃f,find17 L m=f:=⟨_,rfl⟩;simp only[ev]at C1 C2 P1 P2;simp only[eT]at P1 P2;rw[ef]at F1 F2;clear em ev eT ef
   go_upto_region 20 with (first
    | (go_at_call 9;(with_reducible refine cmo (C1.out _ G0.out) ?_);rintro e wa ⟨rfl,hb⟩;have G1:=mh (bstep mle G0.out hb);clear hb)
    | (go_at_call 10;(with_reducible refine cmo (C2.out _ G1.out) ?_);rintro e wb ⟨rfl,hb⟩;have G2:=mh (bstep mle G1.out hb);clear hb)
    | (go_at_call 11;(with_reducible refine cmo (P1.out _ G2.out) ?_);rintro e wc ⟨rfl,hb⟩;have G3:=mh (bstep mle G2.out hb);clear hb)
    | (go_at_call 12;(with_reducible refine cmo (P2.out _ G3.out) ?_);rintro e wd ⟨rfl,hb⟩;have G4:=mh (bstep mle G3.out hb);clear hb)
    | (go_at_call 14;(with_reducible refine cmo (MD.out _) ?_);rintro e wm ⟨rfl,rfl⟩)
    | (go_at_call 13;(with_reducible refine cmo (F1.out _ G4.out) ?_);rintro e we ⟨rfl,hb⟩;have G5:=mh (bstep mle G4.out hb);clear hb)
    | (go_at_call 15;(with_reducible refine cmo (F2.out _ G5.out) ?_);rintro e wf ⟨rfl,hb⟩;have G6:=mh (bstep mle G5.out hb);clear hb)
    | fail)
   clear C1 C2 P1 P2 F1 F2 MD G0 G1 G2 G3 G4 G5;obtain⟨mt,emt⟩:∃y,mod st 64=y:=⟨_,rfl⟩;have MD:=mh (fun W=>emt▸mod_any st 64 W ST0.out (by omega));clear emt;have hal:=(brf wf.heap.size wf).alloc mle (.cells #[I O st,I O mt] 3);have G7:=mh (bstep mle G6.out hal);have RI:=mh (show Recs SI1 (wf.alloc (.cells #[I O st,I O mt] 3)) (some ⟨wf.heap.size,0,none⟩) [st,mt] from Recs.lit (S:=SI1) wf 3 [st,mt] (by show 2≤_;unfold maxLen;omega))
   go_wp2_with (go_at_call 14;(with_reducible refine cmo (MD.out _) ?_);rintro e wm ⟨rfl,rfl⟩)
   obtain⟨gI,egI⟩:∃g,wf.heap.size=g:=⟨_,rfl⟩;rw[egI]at RI ⊢;clear egI hal MD;generalize wf.alloc (.cells #[I O st,I O mt] 3)=wf_ at *
   have FI:=mh (show ∀i:Nat,i<2→∃y:Int,wf_.cell? ⟨gI,i,none⟩=some (I O y)∧gI<wf_.heap.size from fun i hi=>by
    have hg:gI<wf_.heap.size:=RI.out.lt (by simp) rfl
    match i,hi with
    | 0,_=>exact⟨st,lit_at RI.out rfl (k:=0) (by simp) rfl,hg⟩
    | 1,_=>exact⟨mt,lit_at RI.out rfl (k:=1) (by simp) rfl,hg⟩)
   clear RI
   go_loopw [165] (fun iv W=>∃(i:Nat),i≤2∧iv=I O i∧Below wf_.heap.size wf_ W) (fun iv _=>2 - (intOf iv).toNat)
   case atStart=>exact⟨0,by omega,rfl,brf _ _⟩
   case round =>
    obtain⟨wo2,rfl⟩:∃wo2:World,wo2=wr:=⟨_,rfl⟩;obtain⟨i,hi,rfl,hb⟩:=hrel;have K0:=mh hb;have M0:=mh (bstep mle G7.out hb);have hi0:(0:Int)≤(i:Int):=inn _;clear hb
    by_cases hi2:i<2
    ·have hi3:(i:Int)<2:=by omega
     obtain⟨y,cell,hgI⟩:=FI.out i hi2;have cell:=(K0.out.cell (p:=⟨gI,i,none⟩) hgI).trans cell;have D1:=mh (fun (W:World) (hb:Below w5.heap.size w5 W)=>conf17_any d p L c y W (SL.out.below hb).ss SL.out.nm SL.out.cap);have D2:=mh (fun (W:World) (hb:Below w5.heap.size w5 W)=>refconf17_any d p L c y W (SL.out.below hb).ss SL.out.nm SL.out.cap SL.out.ct);unfold ConfG at D1 D2;obtain⟨v,ev⟩:∃v,conf17 L y=v:=⟨_,rfl⟩;rw[ev]at D1 D2;clear ev hgI
     rcases v with _|⟨va,vb⟩
     all_goals
      simp only[confT]at D1 D2
      go_wp2_with (first
       | (go_at_call 16;(with_reducible refine cmo (D1.out _ M0.out) ?_);rintro e wa2 ⟨rfl,hb⟩;have K1:=mh (bstep mle K0.out hb);have M1:=mh (bstep mle M0.out hb);clear hb)
       | (go_at_call 17;(with_reducible refine cmo (D2.out _ M1.out) ?_);rintro e wb2 ⟨rfl,hb⟩;have K2:=mh (bstep mle K1.out hb);clear hb)
       | fail)
      go_roundw
      case rel=>exact⟨i+1,by omega,by go_num,K2.out⟩
      case measure=>simp[intOf];omega
    obtain rfl:i=2:=by omega
    rw[show((2:Nat):Int)=2 from rfl];clear hi2 hi hi0 FI K0 G7
    go_wp2_with fail
    go_loopw [199] (fun iv W=>∃(i:Nat),i≤L.length∧iv=I O i∧Below w5.heap.size w5 W) (fun iv _=>L.length - (intOf iv).toNat)
    case atStart=>exact⟨0,Nat.zero_le _,rfl,M0.out⟩
    case round =>
     clear M0;obtain⟨wo3,rfl⟩:∃wo3:World,wo3=wr:=⟨_,rfl⟩;obtain⟨i,hi,rfl,hb⟩:=hrel;have M0:=mh hb;have hi0:(0:Int)≤(i:Int):=inn _;clear hb
     by_cases hi2:i<L.length
     rotate_left
     ·obtain rfl:i=L.length:=by omega
      go_wp2_with fail
      go_roundw
      case rel=>exact⟨j+1,by omega,by go_num,M0.out⟩
      case measure=>simp[intOf];omega
     have hi3:(i:Int)<(L.length:Int):=by omega
     have HIL:=mh hi2;obtain⟨b,off,r,rfl,hbl,⟨m0,m1,m2,m3,m4,m5,m6,m7,m8,m9⟩,hv⟩:=(SL.out.below M0.out).ss.at hi2;have HV:=mh hv;have hal:=(brf wo3.heap.size wo3).alloc mle (.cells #[I O r.num,.string r.nm,I O r.t.op,I O r.t.num,I O r.t.more,.slice r.t.p r.t.n r.t.c,.slice r.bp r.bn r.bc,I O r.least,I O r.ex,.bool r.needs] 31);have M1:=mh (bstep mle M0.out hal);have V1:=mh (hv.below hal);have BX:=mh (show ∀W,Below (wo3.alloc (.cells #[I O r.num,.string r.nm,I O r.t.op,I O r.t.num,I O r.t.more,.slice r.t.p r.t.n r.t.c,.slice r.bp r.bn r.bc,I O r.least,I O r.ex,.bool r.needs] 31)).heap.size (wo3.alloc (.cells #[I O r.num,.string r.nm,I O r.t.op,I O r.t.num,I O r.t.more,.slice r.t.p r.t.n r.t.c,.slice r.bp r.bn r.bc,I O r.least,I O r.ex,.bool r.needs] 31)) W→W.cell? ⟨wo3.heap.size,0,none⟩=some (I O r.num)∧W.cell? ⟨wo3.heap.size,1,none⟩=some (.string r.nm)∧W.cell? ⟨wo3.heap.size,2,none⟩=some (I O r.t.op)∧W.cell? ⟨wo3.heap.size,3,none⟩=some (I O r.t.num)∧W.cell? ⟨wo3.heap.size,4,none⟩=some (I O r.t.more)∧W.cell? ⟨wo3.heap.size,5,none⟩=some (.slice r.t.p r.t.n r.t.c)∧W.cell? ⟨wo3.heap.size,6,none⟩=some (.slice r.bp r.bn r.bc)∧W.cell? ⟨wo3.heap.size,7,none⟩=some (I O r.least)∧W.cell? ⟨wo3.heap.size,8,none⟩=some (I O r.ex)∧W.cell? ⟨wo3.heap.size,9,none⟩=some (.bool r.needs) from fun W hb=>⟨(hb.cell (p:=⟨wo3.heap.size,0,none⟩) (by simp)).trans (cwn _ _ _ 0),(hb.cell (p:=⟨wo3.heap.size,1,none⟩) (by simp)).trans (cwn _ _ _ 1),(hb.cell (p:=⟨wo3.heap.size,2,none⟩) (by simp)).trans (cwn _ _ _ 2),(hb.cell (p:=⟨wo3.heap.size,3,none⟩) (by simp)).trans (cwn _ _ _ 3),(hb.cell (p:=⟨wo3.heap.size,4,none⟩) (by simp)).trans (cwn _ _ _ 4),(hb.cell (p:=⟨wo3.heap.size,5,none⟩) (by simp)).trans (cwn _ _ _ 5),(hb.cell (p:=⟨wo3.heap.size,6,none⟩) (by simp)).trans (cwn _ _ _ 6),(hb.cell (p:=⟨wo3.heap.size,7,none⟩) (by simp)).trans (cwn _ _ _ 7),(hb.cell (p:=⟨wo3.heap.size,8,none⟩) (by simp)).trans (cwn _ _ _ 8),(hb.cell (p:=⟨wo3.heap.size,9,none⟩) (by simp)).trans (cwn _ _ _ 9)⟩)
     go_upto_region 31 with fail
     obtain⟨gY,egY⟩:∃g,wo3.heap.size=g:=⟨_,rfl⟩;rw[egY]at BX ⊢;clear hal egY hv m0 m1 m2 m3 m4 m5 m6 m7 m8 m9;generalize wo3.alloc (.cells #[I O r.num,.string r.nm,I O r.t.op,I O r.t.num,I O r.t.more,.slice r.t.p r.t.n r.t.c,.slice r.bp r.bn r.bc,I O r.least,I O r.ex,.bool r.needs] 31)=w6 at *;have RNM:=mh (show r.nm.size≤9223372036854775807 from by rw[HV.out.nm];exact SL.out.nm _ (List.getElem_mem HIL.out));have RCT:=mh (SL.out.ct _ (List.getElem_mem HIL.out));obtain⟨mq,emq⟩:∃y,mod sq 200=y:=⟨_,rfl⟩;have MD:=mh (fun W=>emq▸mod_any sq 200 W SQ0.out (by omega));clear emq;have hal:=(brf w6.heap.size w6).alloc mle (.cells #[I O sq,I O mq] 3);have HAL6:=mh hal;have M2:=mh (bstep mle M1.out hal);have RI:=mh (show Recs SI1 (w6.alloc (.cells #[I O sq,I O mq] 3)) (some ⟨w6.heap.size,0,none⟩) [sq,mq] from Recs.lit (S:=SI1) w6 3 [sq,mq] (by show 2≤_;unfold maxLen;omega))
     go_wp2_with (go_at_call 14;(with_reducible refine cmo (MD.out _) ?_);rintro e wm ⟨rfl,rfl⟩)
     obtain⟨gQ,egQ⟩:∃g,w6.heap.size=g:=⟨_,rfl⟩;rw[egQ]at RI ⊢;clear egQ hal MD;generalize w6.alloc (.cells #[I O sq,I O mq] 3)=w6_ at *
     have FI:=mh (show ∀i:Nat,i<2→∃y:Int,w6_.cell? ⟨gQ,i,none⟩=some (I O y)∧gQ<w6_.heap.size from fun i hi=>by
      have hg:gQ<w6_.heap.size:=RI.out.lt (by simp) rfl
      match i,hi with
      | 0,_=>exact⟨sq,lit_at RI.out rfl (k:=0) (by simp) rfl,hg⟩
      | 1,_=>exact⟨mq,lit_at RI.out rfl (k:=1) (by simp) rfl,hg⟩)
     clear RI;have BY:=mh (show Below w6.heap.size w6 w6_ from HAL6.out)
     go_loopw [208] (fun iv W=>∃(k2:Nat),k2≤2∧iv=I O k2∧Below w6_.heap.size w6_ W) (fun iv _=>2 - (intOf iv).toNat)
     case atStart=>exact⟨0,by omega,rfl,brf _ _⟩
     case round =>
      obtain⟨wo4,rfl⟩:∃wo4:World,wo4=wr:=⟨_,rfl⟩;obtain⟨k2,hk2,rfl,hb⟩:=hrel;have K0:=mh hb;have Y0:=mh (bstep mle BY.out hb);have hk20:(0:Int)≤(k2:Int):=inn _;clear hb
      by_cases hk22:k2<2
      rotate_left
      ·obtain rfl:k2=2:=by omega
       have M3:=mh (bstep mle M2.out K0.out)
       go_wp2_with fail
       go_roundw
       case rel=>exact⟨i+1,by omega,by go_num,M3.out⟩
       case measure=>simp[intOf];omega
      have hk23:(k2:Int)<2:=by omega
      obtain⟨y,cell,hgQ⟩:=FI.out k2 hk22;have cell:=(K0.out.cell (p:=⟨gQ,k2,none⟩) hgQ).trans cell;have D1:=mh (amount17_any d r _ y wo4 (V1.out.below Y0.out) RNM.out);have D2:=mh (fun (W:World) (hb:Below w6.heap.size w6 W)=>refamount17_any d r _ y W (V1.out.below hb) RNM.out RCT.out);unfold ChkG at D1 D2;obtain⟨va,ea⟩:∃v,amtV (L[i]'HIL.out) y=v:=⟨_,rfl⟩;obtain⟨vb,eb⟩:∃v,amtE (L[i]'HIL.out) y=v:=⟨_,rfl⟩;simp only[ea,eb]at D1 D2;obtain⟨y0,y1,y2,y3,y4,y5,y6,y7,y8,y9⟩:=BX.out _ Y0.out;clear ea eb hgQ
      go_upto_region 35 with (first
       | (go_at_call 18;(with_reducible refine cmo D1.out ?_);rintro e wa4 ⟨rfl,hb⟩;have K1:=mh (bstep mle K0.out hb);have Y1:=mh (bstep mle Y0.out hb);clear hb)
       | fail)
      clear y0 y1 y2 y3 y4 y5 y6 y7 y8 y9 cell;obtain⟨y0,y1,y2,y3,y4,y5,y6,y7,y8,y9⟩:=BX.out _ Y1.out
      go_wp2_with (first
       | (go_at_call 19;(with_reducible refine cmo (D2.out _ Y1.out) ?_);rintro e wb4 ⟨rfl,hb⟩;have K2:=mh (bstep mle K1.out hb);clear hb)
       | fail)
      go_roundw
      case rel=>exact⟨k2+1,by omega,by go_num,K2.out⟩
      case measure=>simp[intOf];omega
open Go.Deep Go.ChangeShapes Go.WideShapes
section
variable {H:Type} {enc:TypeId × Value→H} {P:Program} {W:World} {base:Nat} {spare:Nat→Bool} {held:Bool}
theorem take_one {cs:List Value}{i:Nat}{v:Value}(h:(cs.drop i).take 1 = [v]):cs[i]?=some v:=by
 have:=congrArg (fun l=>l[0]?) h
 simpa using this
end
end Go.Proofs.YtbcmabolkkfgfaaGreatDoor
namespace Go.Proofs.YtbcmabolkkfgfaaGreatDoor
open Go.RowKit Go.Deep Go.ChangeShapes Go.WideShapes
section
variable {H:Type} {enc:TypeId × Value→H} {P:Program} {W:World} {base:Nat} {spare:Nat→Bool} {held:Bool}
theorem open_rows {α β:Type} [Inhabited α] [Inhabited β] {S:Shape α} {Rel:α→β→Prop} {t e:TypeId} {fuel:Nat} {a:Option Addr} {len cap:Nat} {x:DataW H × List MemPlace}
  (ht:P.underlying t=some (.slice e)) (ce:P.cellsOf e=S.k)
  (hel:∀(n:Nat) (cs:List Value) (y:DataW H × List MemPlace),cs.length=S.k→DataW.trod enc P W base spare held n e cs=some y→∃r z,cs=S.cells r∧Rel r z)
  (h:DataW.trod enc P W base spare held fuel t [.slice a len cap]=some x):∃(R:List α) (L:List β),R.length=len∧L.length=len∧Recs S W a R∧(∀k (h1:k<R.length) (h2:k<L.length),Rel R[k] L[k])∧len≤cap∧(a=none→cap=0):=by
 rcases open_slice ht h with⟨hcs,_⟩|⟨ad,l,c,m,n,D,Pl,hcs,_,hl,hm,hmm,_,hx⟩
 ·simp at hcs
  obtain⟨rfl,rfl,rfl⟩:=hcs;exact⟨[], [],rfl,rfl,Recs.nil _ _,fun k h=>by simp at h,Nat.le_refl _,fun _=>rfl⟩
 simp at hcs
 obtain⟨rfl,rfl,rfl⟩:=hcs;have hlm:len≤m:=by rw[hmm];split<;>omega
 have each:∀i,i<len→∃d:α × β,(∀j u,(S.cells d.1)[j]?=some u→W.cell? (ad.add (i*S.k+j))=some u)∧Rel d.1 d.2:=by
  intro i hi;obtain⟨cs', h1,h2⟩:=hx i (by omega);rw[ce]at h1;obtain⟨_,hlen,hcell⟩:=World.cells?_some h1;obtain⟨r,z,e1,e2⟩:=hel n cs' _ hlen h2;refine⟨(r,z),fun j u hu=>?_,e2⟩;have hj:j<S.k:=by
   have:=(List.getElem?_eq_some_iff.1 hu).1;rw[S.len]at this;exact this
  have hc:=hcell j (by omega);rw[add_add]at hc;rw[hc,e1];exact hu
 obtain⟨f,hf⟩:=choose_lt each;refine⟨(List.range len).map fun i=>(f i).1,(List.range len).map fun i=>(f i).2,by simp,by simp,⟨by simp;omega,?_⟩,fun k h1 h2=>?_,by omega,fun h=>by cases h⟩
 rotate_left
 ·simp only[List.getElem_map,List.getElem_range]
  exact(hf k (by simpa using h1)).2
 by_cases hz:len=0
 ·subst hz;exact .inl rfl
 ·have hk:=S.pos
  have h0:=(hf 0 (by omega)).1 0 _ (List.getElem?_eq_getElem (by rw[S.len];exact hk));obtain⟨bb,off,spot⟩:=ad;have hspot:spot=none:=by simpa [Addr.add] using World.cell?_spot h0
  subst hspot;refine .inr ⟨bb,off,rfl,?_,fun q u hu=>?_⟩
  ·have:=World.block_lt_of_cell? W _ h0
   simpa [Addr.add] using this
  ·have hq:q<len*S.k:=by
    have:=(List.getElem?_eq_some_iff.1 hu).1;rw[Shape.flat_len]at this
    simpa using this
   have hi:q / S.k<len:=Nat.div_lt_of_lt_mul (by rw[Nat.mul_comm];exact hq);have hm:=Nat.mod_lt q hk;have e:q=q / S.k*S.k+q % S.k:=by rw[Nat.mul_comm];exact(Nat.div_add_mod q S.k).symm
   rw[e,S.flat_at _ (q / S.k) (by simpa using hi) (q % S.k) hm]at hu;simp only[List.getElem_map,List.getElem_range]at hu;have:=(hf (q / S.k) hi).1 (q % S.k) u hu;rw[Go.WideShapes.add_plain]at this;rw[e];exact this
theorem field_at {cs:List Value}{fs:Array Field}{xs:List (DataW H × List MemPlace)}{n i o k:Nat}{f:Field}(hf:∀(i:Nat) (f:Field),fs[i]?=some f→DataW.trod enc P W base spare held n f.type ((cs.drop f.offset).take (P.cellsOf f.type))=xs[i]?)
  (hl:xs.length=fs.size) (h:fs[i]?=some f) (ho:f.offset=o) (hc:P.cellsOf f.type=k):∃x,DataW.trod enc P W base spare held n f.type ((cs.drop o).take k)=some x:=by
 have:=hf i f h;rw[ho,hc]at this;obtain⟨hi, -⟩:=Array.getElem?_eq_some_iff.1 h;rw[List.getElem?_eq_getElem (by omega)]at this;exact⟨_,this⟩
theorem slice_in {t e:TypeId}{fuel:Nat}{cs:List Value}{i:Nat}{x:DataW H × List MemPlace}(ht:P.underlying t=some (.slice e))(h:DataW.trod enc P W base spare held fuel t ((cs.drop i).take 1)=some x):∃a n c,(cs.drop i).take 1 = [.slice a n c]:=by
 rcases open_slice ht h with⟨hcs,_⟩|⟨ad,l,c,m,n,D,Pl,hcs,_⟩
 ·exact⟨_,_,_,hcs⟩
 ·exact⟨_,_,_,hcs⟩
theorem int_in {t:TypeId}{fuel:Nat}{cs:List Value}{i:Nat}{x:DataW H × List MemPlace}(ht:P.underlying t=some (.int .i64))(h:DataW.trod enc P W base spare held fuel t ((cs.drop i).take 1)=some x):∃v,cs[i]?=some (I O v)∧(Lit.int .i64 v).wf=true:=by
 obtain⟨v,e, -,hv⟩:=DataW.trod_int ht h;exact⟨v,take_one e,hv⟩
theorem drop_at {cs:List Value}{o k i:Nat}{v:Value}(h:((cs.drop o).take k)[i]?=some v):cs[o+i]?=some v:=by
 rw[List.getElem?_take]at h
 split at h
 ·rw[List.getElem?_drop]at h;exact h
 ·cases h
end
end Go.Proofs.YtbcmabolkkfgfaaGreatDoor
