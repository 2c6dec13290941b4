/- Packed. -/
import Derived.Test.YtbcmabolkkfgfaaGreatDoorQ24
import Derived.Test.YtbcmabolkkfgfaaGreatDoorQ25
import Derived.Test.YtbcmabolkkfgfaaGreatDoorQ26
import Derived.Test.YtbcmabolkkfgfaaGreatDoorQ27
set_option maxRecDepth 100000
set_option maxHeartbeats 16000000
open Go.Value renaming int → I
open Go.IntKind renaming i64 → O
namespace Go.Proofs.YtbcmabolkkfgfaaGreatDoor
open Go.RowKit Te
theorem read_op10 {f:Nat}(IH:∀g,g<f→ReadAt g)(x:ByteArray)(rs:List ByteArray)(p:Option Addr)(c:Nat)(w:World)(b0:Nat)(h:WSl w p c (x::rs))(hpb:∀a,p=some a→a.block=b0)(hwd:∀y∈rs,y.size≤16384)(hf:2*rs.length+1≤f)(hlen:rs.length+1≤1000000)(eo:opOf x.data.toList=10):Calls Tryz.prog 83 #[.slice p (rs.length+1) c] w (ReadG b0 (readT (f+1) (ll (x::rs))) w):=by
 rw[readT_mkL (f:=f) (rs:=rs) 10 eo (by decide)];obtain rfl:x=⟨#[111,114]⟩:=ba_word (opOf_word eo (by decide));clear eo
 by_cases hp:hdW rs=⟨#[40]⟩
 rotate_left
 ·have hG:listR f (ll rs)=none:=by
   cases rs with
   | nil=>rfl
   | cons y r=>exact if_neg (fun e=>hp (ba_word e))
  rw[hG]
  show Calls _ _ _ _ (ReadBad w)
  obtain⟨hd,ehd⟩:∃hd,hdW rs=hd:=⟨_,rfl⟩;rw[ehd]at hp;have hs41:(hd.toList == [40])=false:=beq_no (fun e=>hp (ba_word e));have hs40:(hd.toList != [40])=true:=by rw[bne,hs41];rfl
  have EHD:=mh ehd;clear hp ehd hG IH hwd hf;obtain⟨b,off,q,c1,rfl,hbl,hx0,hle,hq,hqb,hsl⟩:=h.cons;obtain rfl:b=b0:=hpb _ rfl;clear hpb;have HQB:=mh (fun a (e:q=some a)=>show(ll rs = []∨a.block=b) from .inr (hqb a e));clear hqb;have HQ:=mh hq;have hp1:(0:Int)<((rs.length+1:Nat):Int):=by omega
  have hne0:((rs.length:Int)+1==0)=false:=beq_eq_false_iff_ne.2 (by omega);have hA0:Below w.heap.size w (w.alloc (.cells #[I O 0,I O 0,I O 0,.slice none 0 0] 28)):=(brf _ _).alloc mle _;have hA:Below w.heap.size w ((w.alloc (.cells #[I O 0,I O 0,I O 0,.slice none 0 0] 28)).alloc (.cells #[I O 0,I O 0,I O 0,.slice none 0 0] 28)):=hA0.alloc (by simp) _;have HS0:=mh ((Res4.new w 28).tb.below (W' := ((w.alloc (.cells #[I O 0,I O 0,I O 0,.slice none 0 0] 28)).alloc (.cells #[I O 0,I O 0,I O 0,.slice none 0 0] 28))) ((brf _ _).alloc mle _));have hT0:=(Res4.new (w.alloc (.cells #[I O 0,I O 0,I O 0,.slice none 0 0] 28)) 28).tb;rw[World.size_alloc]at hT0;have HT0:=mh hT0;have HA:=mh hA;have HXW:=mh hx0;have OPS:=mh (fun (i:Nat) (h1:1≤i) (h2:i≤11) (W:World)=>ops_any (i:Int) (by omega) (by omega) W);unfold StrGive at OPS;clear h hq hA0 hA hT0
  go_enter Tryz.func83,Tryz.ntmps83
  go_wp2
  go_loopw [6] (fun s6 wr=>∃i:Nat,1≤i∧i≤12∧s6=I O (i:Int)∧Below w.heap.size w wr∧TB w.heap.size wr (I O 0) (I O 0) (I O 0) (.slice none 0 0)∧TB (w.heap.size+1) wr (I O (if 10<i then 10 else 0)) (I O 0) (I O 0) (.slice none 0 0)) (fun s6 _=>12 - (intOf s6).toNat)
  case atStart=>exact⟨1,Nat.le_refl _,by omega,rfl,HA.out,HS0.out,by rw[if_neg (by omega)];exact HT0.out⟩
  case round =>
   clear HS0 HT0 HA;obtain⟨wo,rfl⟩:∃wo:World,wo=wr:=⟨_,rfl⟩;obtain⟨i,hi1,hi2,rfl,hb,hS,hT⟩:=hrel;have HB:=mh hb;have HS:=mh hS;have HT:=mh hT;have hsz:=hb.size
   by_cases hlt:i≤11
   ·have hlt1:(i:Int)≤11:=by omega
    have hxw:=(hb.cell (p:=⟨b,off,none⟩) hbl).trans HXW.out;have OP:=mh (fun W=>OPS.out i hi1 hlt W);obtain⟨S,eS⟩:∃S:ByteArray,(⟨(opW (i:Int)).toArray⟩:ByteArray)=S:=⟨_,rfl⟩;rw[eS]at OP;have KX:=mh (fun (W:World) (hW:Below wo.heap.size wo W)=>(hW.cell (p:=⟨b,off,none⟩) (by show b<wo.heap.size;omega)).trans hxw);have K0:=brf wo.heap.size wo;have K0d:=K0.drew
    by_cases hio:i=10
    ·subst hio
     have hs:(S.toList == [111,114])=true:=by rw[← eS];decide +kernel
     rw[if_neg (by omega)]at HT;clear eS hb hS hT hi1 hi2
     go_wp2_with fail
     clear hxw
     go_region_held3 (fun W=>W.cell? ⟨b,off,none⟩=some (.string ⟨#[111,114]⟩))
      (first|exact KX.out _ K0|exact KX.out _ K0d|exact KX.out _ K5|fail)
      (first
       | (go_at_call 99;(with_reducible refine cmo (OP.out _) ?_);rintro e w5 ⟨rfl,hb5⟩;have K5:Below wo.heap.size wo w5:=(by first|exact K0d.trans hb5|exact K0.trans hb5))
       | fail)
     have HT5:=mh (HT.out.below K5);have HS5:=mh (HS.out.below K5);have HB5:=mh (bstep mle HB.out K5);obtain⟨k0, -, -, -,f0, -, -, -,hl0⟩:=HT5.out
     go_wp2
     go_roundw
     case rel=>exact⟨10+1,by omega,by omega,by go_num,HB5.out.setCell (Nat.le_succ _) _,HS5.out.far (by omega) _,by rw[if_pos (by omega)];exact HT5.out.set0 _⟩
     case measure=>simp[intOf]
    ·have hs:(S.toList == [111,114])=false:=by
      rw[← eS];refine beq_no ?_
      show opW (i:Int) ≠ [111,114]
      intro e;have e1:=opOf_opW (i:Int) (by omega) (by omega);rw[e]at e1;have e2:opOf (⟨#[111,114]⟩:ByteArray).data.toList=10:=by decide +kernel
      rw[e2]at e1;omega
     clear eS hb hS hT
     go_wp2_with fail
     clear hxw
     go_region_held3 (fun W=>W.cell? ⟨b,off,none⟩=some (.string ⟨#[111,114]⟩))
      (first|exact KX.out _ K0|exact KX.out _ K0d|exact KX.out _ K5|fail)
      (first
       | (go_at_call 99;(with_reducible refine cmo (OP.out _) ?_);rintro e w5 ⟨rfl,hb5⟩;have K5:Below wo.heap.size wo w5:=(by first|exact K0d.trans hb5|exact K0.trans hb5))
       | fail)
     have HT5:=mh (HT.out.below K5);have HS5:=mh (HS.out.below K5);have HB5:=mh (bstep mle HB.out K5)
     go_wp2
     go_roundw
     case rel=>exact⟨i+1,by omega,by omega,by go_num,HB5.out,HS5.out,by
      have:(if 10<i+1 then (10:Int) else 0)=if 10<i then 10 else 0:=by
       by_cases h:10<i
       ·rw[if_pos h,if_pos (by omega)]
       ·rw[if_neg h,if_neg (by omega)]
      rw[this]
      exact HT5.out⟩
     case measure=>simp[intOf];omega
   ·obtain rfl:i=12:=by omega
    have hi3:¬((12:Nat):Int)≤11:=by omega
    rw[if_pos (by omega)]at HT;have HW:=mh (HQ.out.below (HB.out.mono mle));obtain⟨k0,k1,k2,k3,f0,f1,f2,f3,hl0⟩:=HS.out;obtain⟨t0,t1,t2,t3,e0,e1,e2,e3,hl1⟩:=HT.out;clear hb hS hT hi1 hi2 OPS
    by_cases h0:rs = []
    ·have h1:((rs.length:Int)==0)=true:=by rw[h0];rfl
     clear h0
     go_wp2
     have FIN:=mh (read_bad ⟨0,0,0,none,0,0⟩ none 0 0 HB.out);unfold put4 at FIN;exact bodyPost_ret (v := .tuple #[.agg #[I O 0,I O 0,I O 0,.slice none 0 0],.slice none 0 0,.bool false]) (by simp[results,Tryz.results83,go_sem,k0,k1,k2,k3]) rfl FIN.out
    have h1:((rs.length:Int)==0)=false:=beq_eq_false_iff_ne.2 (fun e=>h0 (List.length_eq_zero_iff.1 (by omega)));have h2:(0:Int)<(rs.length:Int):=by have:=List.length_pos_iff.2 h0;omega
    have h3:0<rs.length:=List.length_pos_iff.2 h0;obtain⟨b2,off2,q2,c2,rfl,hb2,hx2,hl2,hq2,hqb2,hsl2⟩:=HW.out.some h0;rw[EHD.out]at hx2;clear hq2 hqb2 h0
    go_wp2
    have FIN:=mh (read_bad ⟨0,0,0,none,0,0⟩ none 0 0 HB.out);unfold put4 at FIN;exact bodyPost_ret (v := .tuple #[.agg #[I O 0,I O 0,I O 0,.slice none 0 0],.slice none 0 0,.bool false]) (by simp[results,Tryz.results83,go_sem,k0,k1,k2,k3]) rfl FIN.out
 obtain⟨r,rfl⟩:∃r,rs=⟨#[40]⟩::r:=by
  cases rs with
  | nil=>exact absurd (congrArg ByteArray.size hp) (by decide)
  | cons y r=>exact⟨r,by rw[show y=⟨#[40]⟩ from hp]⟩
 have hG:listR f (ll (⟨#[40]⟩::r))=readL f (ll r):=by
  show(if (⟨#[40]⟩:ByteArray).data.toList = [40] then readL f (ll r) else none)=readL f (ll r)
  rw[if_pos rfl]
 rw[hG];have hwd2:∀y∈r,y.size≤16384:=fun y hy=>hwd y (List.mem_cons_of_mem _ hy)
 obtain⟨r0,er0⟩:∃r0,ll r=r0:=⟨_,rfl⟩;have hrb:r=r0.map bs:=by rw[← er0,bs_ll]
 rw[er0];subst hrb;clear hG hp hwd er0;simp only[List.length_cons,List.length_map]at hf hlen;obtain⟨M,eM⟩:∃M,r0.length+1=M:=⟨_,rfl⟩;have EM:=mh eM;have hM1:1≤M:=by omega
 have hM2:M≤1000000:=by omega
 have IHH:=mh IH;have HWD:=mh hwd2;obtain⟨Ox,eO⟩:∃Ox:Option (Tm × List (List UInt8)),Ox=mkL 10 (readL f r0):=⟨_,rfl⟩;rw[← eO];have HO:=mh eO;clear IH hwd2 eO;simp only[List.length_cons,List.length_map];rw[eM];obtain⟨b,off,q,c1,rfl,hbl,hx0,hle,hq,hqb,hsl⟩:=h.cons;simp only[List.length_cons,List.length_map]at hle hsl;rw[eM]at hle hsl;clear eM;obtain rfl:b=b0:=hpb _ rfl;clear hpb;have HQB:=mh (fun a (e:q=some a)=>show a.block=b from hqb a e);clear hqb;have HQ:=mh hq;have hp1:(0:Int)<((M+1:Nat):Int):=by omega
 have hne0:((M:Int)+1==0)=false:=beq_eq_false_iff_ne.2 (by omega);have hA0:Below w.heap.size w (w.alloc (.cells #[I O 0,I O 0,I O 0,.slice none 0 0] 28)):=(brf _ _).alloc mle _;have hA:Below w.heap.size w ((w.alloc (.cells #[I O 0,I O 0,I O 0,.slice none 0 0] 28)).alloc (.cells #[I O 0,I O 0,I O 0,.slice none 0 0] 28)):=hA0.alloc (by simp) _;have HS0:=mh ((Res4.new w 28).tb.below (W' := ((w.alloc (.cells #[I O 0,I O 0,I O 0,.slice none 0 0] 28)).alloc (.cells #[I O 0,I O 0,I O 0,.slice none 0 0] 28))) ((brf _ _).alloc mle _));have hT0:=(Res4.new (w.alloc (.cells #[I O 0,I O 0,I O 0,.slice none 0 0] 28)) 28).tb;rw[World.size_alloc]at hT0;have HT0:=mh hT0;have HA:=mh hA;have HXW:=mh hx0;have OPS:=mh (fun (i:Nat) (h1:1≤i) (h2:i≤11) (W:World)=>ops_any (i:Int) (by omega) (by omega) W);unfold StrGive at OPS;clear h hq hA0 hA hT0
 go_enter Tryz.func83,Tryz.ntmps83
 go_wp2
 go_loopw [6] (fun s6 wr=>∃i:Nat,1≤i∧i≤12∧s6=I O (i:Int)∧Below w.heap.size w wr∧TB w.heap.size wr (I O 0) (I O 0) (I O 0) (.slice none 0 0)∧TB (w.heap.size+1) wr (I O (if 10<i then 10 else 0)) (I O 0) (I O 0) (.slice none 0 0)) (fun s6 _=>12 - (intOf s6).toNat)
 case atStart=>exact⟨1,Nat.le_refl _,by omega,rfl,HA.out,HS0.out,by rw[if_neg (by omega)];exact HT0.out⟩
 case round =>
  clear HS0 HT0 HA;obtain⟨wo,rfl⟩:∃wo:World,wo=wr:=⟨_,rfl⟩;obtain⟨i,hi1,hi2,rfl,hb,hS,hT⟩:=hrel;have HB:=mh hb;have HS:=mh hS;have HT:=mh hT;have hsz:=hb.size
  by_cases hlt:i≤11
  ·have hlt1:(i:Int)≤11:=by omega
   have hxw:=(hb.cell (p:=⟨b,off,none⟩) hbl).trans HXW.out;have OP:=mh (fun W=>OPS.out i hi1 hlt W);obtain⟨S,eS⟩:∃S:ByteArray,(⟨(opW (i:Int)).toArray⟩:ByteArray)=S:=⟨_,rfl⟩;rw[eS]at OP;have KX:=mh (fun (W:World) (hW:Below wo.heap.size wo W)=>(hW.cell (p:=⟨b,off,none⟩) (by show b<wo.heap.size;omega)).trans hxw);have K0:=brf wo.heap.size wo;have K0d:=K0.drew
   by_cases hio:i=10
   ·subst hio
    have hs:(S.toList == [111,114])=true:=by rw[← eS];decide +kernel
    rw[if_neg (by omega)]at HT;clear eS hb hS hT hi1 hi2
    go_wp2_with fail
    clear hxw
    go_region_held3 (fun W=>W.cell? ⟨b,off,none⟩=some (.string ⟨#[111,114]⟩))
     (first|exact KX.out _ K0|exact KX.out _ K0d|exact KX.out _ K5|fail)
     (first
      | (go_at_call 99;(with_reducible refine cmo (OP.out _) ?_);rintro e w5 ⟨rfl,hb5⟩;have K5:Below wo.heap.size wo w5:=(by first|exact K0d.trans hb5|exact K0.trans hb5))
      | fail)
    have HT5:=mh (HT.out.below K5);have HS5:=mh (HS.out.below K5);have HB5:=mh (bstep mle HB.out K5);obtain⟨k0, -, -, -,f0, -, -, -,hl0⟩:=HT5.out
    go_wp2
    go_roundw
    case rel=>exact⟨10+1,by omega,by omega,by go_num,HB5.out.setCell (Nat.le_succ _) _,HS5.out.far (by omega) _,by rw[if_pos (by omega)];exact HT5.out.set0 _⟩
    case measure=>simp[intOf]
   ·have hs:(S.toList == [111,114])=false:=by
     rw[← eS];refine beq_no ?_
     show opW (i:Int) ≠ [111,114]
     intro e;have e1:=opOf_opW (i:Int) (by omega) (by omega);rw[e]at e1;have e2:opOf (⟨#[111,114]⟩:ByteArray).data.toList=10:=by decide +kernel
     rw[e2]at e1;omega
    clear eS hb hS hT
    go_wp2_with fail
    clear hxw
    go_region_held3 (fun W=>W.cell? ⟨b,off,none⟩=some (.string ⟨#[111,114]⟩))
     (first|exact KX.out _ K0|exact KX.out _ K0d|exact KX.out _ K5|fail)
     (first
      | (go_at_call 99;(with_reducible refine cmo (OP.out _) ?_);rintro e w5 ⟨rfl,hb5⟩;have K5:Below wo.heap.size wo w5:=(by first|exact K0d.trans hb5|exact K0.trans hb5))
      | fail)
    have HT5:=mh (HT.out.below K5);have HS5:=mh (HS.out.below K5);have HB5:=mh (bstep mle HB.out K5)
    go_wp2
    go_roundw
    case rel=>exact⟨i+1,by omega,by omega,by go_num,HB5.out,HS5.out,by
     have:(if 10<i+1 then (10:Int) else 0)=if 10<i then 10 else 0:=by
      by_cases h:10<i
      ·rw[if_pos h,if_pos (by omega)]
      ·rw[if_neg h,if_neg (by omega)]
     rw[this]
     exact HT5.out⟩
    case measure=>simp[intOf];omega
  ·obtain rfl:i=12:=by omega
   have hi3:¬((12:Nat):Int)≤11:=by omega
   rw[if_pos (by omega)]at HT;have HW:=mh (HQ.out.below (HB.out.mono mle));obtain⟨k0,k1,k2,k3,f0,f1,f2,f3,hl0⟩:=HS.out;obtain⟨t0,t1,t2,t3,e0,e1,e2,e3,hl1⟩:=HT.out;clear hb hS hT hi1 hi2 OPS;obtain⟨b2,off2,q2,c2,rfl,hb2,hx2,hl2,hq2,hqb2,hsl2⟩:=HW.out.cons;simp only[List.length_map]at hl2 hsl2;rw[EM.out]at hl2 hsl2;have h2:(0:Int)<(M:Int):=by omega
   have h1:((M:Int)==0)=false:=beq_eq_false_iff_ne.2 (by omega);have HST:=mh (show LSt w wo b 10 f r0 f [] r0 0 [] none 0 0 q2 c2 from⟨hq2,fun a e => .inr ((hqb2 a e).trans (HQB.out _ rfl)),HB.out,HS.out,HT.out,OwnR.nil _ _ _,KB.nil _ _ _,by simp;omega,by omega,Nat.le_refl _,by cases readL f r0<;>rfl,HWD.out⟩);clear hq2 hqb2
   go_wp2
   clear k0 k1 k2 k3 f0 f1 f2 f3 t0 t1 t2 t3 e0 e1 e2 e3
   go_loopg [0] f (fun gk s0 wr=>∃(K:List Tm) (r:List (List UInt8)) (d:Nat) (R:List RT) (pv:Option Addr) (nv cv:Nat) (p:Option Addr) (c:Nat),s0 = .slice p r.length c∧LSt w wr b 10 f r0 gk K r d R pv nv cv p c)
   case atStart=>exact⟨[],r0,0, [],none,0,0,q2,c2,rfl,HST.out⟩
   case round =>
    clear HST HS HT HB HW hsz hl0 hl1 hi3 hx2 hsl2 hb2 hl2 h1 h2;obtain⟨wo,rfl⟩:∃wo:World,wo=wr:=⟨_,rfl⟩;obtain⟨K,r,d,R,pv,nv,cv,p,c', rfl,hst⟩:=hrel;have HS0:=mh hst;obtain⟨g,rfl⟩:∃g,gk=g+1:=⟨gk - 1,by have:=hst.g1;omega⟩;obtain⟨k0,k1,k2,k3,f0,f1,f2,f3,hl0⟩:=hst.res;obtain⟨t0,t1,t2,t3,e0,e1,e2,e3,hl1⟩:=hst.tb;have hz:=hst.below.size;have hkl:=hst.kl;have hg1:=hst.g1;have hg2:=hst.g2;have HB:=mh hst.below;have HRK:=hst.kb.hl
    cases r with
    | nil =>
      have HN:=mh (show Ox=none by rw[HO.out,hst.eq,readL_nil];rfl);clear hst
      go_wp2
      have FIN:=mh (readG_none (b:=b) HN.out (read_bad ⟨0,0,0,none,0,0⟩ none 0 0 HB.out));unfold put4 at FIN;exact bodyPost_ret (v := .tuple #[.agg #[I O 0,I O 0,I O 0,.slice none 0 0],.slice none 0 0,.bool false]) (by simp[results,Tryz.results83,go_sem,k0,k1,k2,k3]) rfl FIN.out
    | cons y r =>
      obtain⟨b2,off2,q2,c2,rfl,hb2,hx2,hl2,hq2,hqb2,hsl2⟩:=hst.ws.cons;simp only[List.length_map]at hl2 hsl2;obtain⟨M2,eM2⟩:∃M2,r.length+1=M2:=⟨_,rfl⟩;rw[eM2]at hl2 hsl2;have hM3:1≤M2:=by omega
      have hbb:=mh (hst.pb _ rfl);have hbl2:b2<w.heap.size:=by
       have h:=(hbb.out).resolve_left (by simp);have h' : b2=b:=h;rw[h'];exact hbl
      have h9:(0:Int)<(M2:Int):=by omega
      have h8:((M2:Int)==0)=false:=beq_eq_false_iff_ne.2 (by omega);have HQ2:=mh hq2;have HQB2:=mh (fun a (e:q2=some a)=>show(r = []∨a.block=b) from .inr ((hqb2 a e).trans ((hbb.out).resolve_left (by simp))));rw[List.length_cons]at hkl hg1;simp only[List.length_cons];rw[eM2];have hM4:M2≤1000000:=by omega
      have EM2:=mh eM2;clear eM2
      by_cases hy:y = [41]
      ·subst hy
       have HN:=mh (show Ox=some (.mk 10 0 0 K,r) by rw[HO.out,hst.eq,readL_close];simp[mkL])
       replace hx2:wo.cell? ⟨b2,off2,none⟩=some (.string ⟨#[41]⟩):=hx2
       obtain⟨pa,ca,ea,ha1,ha2,ha3⟩:=hst.kb.at hst.own (Q:=NewQ (w.heap.size+1)) (fun b hb=>by unfold NewQ;omega);simp only[Value.slice.injEq]at ea;obtain⟨rfl,hnv,rfl⟩:=ea;have HV:=mh (show TV (NewQ (w.heap.size+1)) wo (d+1) ⟨10,0,0,pv,nv,cv⟩ (.mk 10 0 0 K) from⟨⟨rfl,rfl,rfl,hnv,by rw[hnv];exact ha1,ha2⟩,ha3⟩);clear hst hq2 hqb2 ha1 ha2 ha3 hnv
       go_wp2_with fail
       go_region
       go_wp2
       have FIN:=mh (readG_some (b:=b) HN.out (read_good (w:=w) (W:=wo.drew) (row:=⟨10,0,0,pv,nv,cv⟩) HB.out.drew hbl (HQ2.out.below ((brf _ _).drew)) HQB2.out (HV.out.below ((brf _ _).drew))));unfold put4 at FIN;exact bodyPost_ret (v := .tuple #[.agg #[I O 10,I O 0,I O 0,.slice pv nv cv],.slice q2 r.length c2,.bool true]) (by simp[results,Tryz.results83,go_sem,k0,k1,k2,k3]) rfl FIN.out
      ·have hyb:((bs y).toList == [41])=false:=beq_no hy
       have hyb2:((bs y).toList != [41])=true:=by rw[bne,hyb];rfl
       have HQ3:=mh (show Ox=mkL 10 ((readL (g+1) (y::r)).map fun x=>(K++x.1,x.2)) by rw[HO.out,hst.eq]);have HLN:=mh (fun t r1 (e:readT g (y::r)=some (t,r1))=>(read_len g).1 _ _ _ e);have HME:=mh (fun t r1 (e:readT g (y::r)=some (t,r1))=>(read_mem g).1 _ _ _ e)
       have RD:=mh (show Calls Tryz.prog 83 #[.slice (some ⟨b2,off2,none⟩) M2 c'] wo (ReadG b (readT g (y::r)) wo) from by
        have:=IHH.out g (by omega) (some ⟨b2,off2,none⟩) c' ((y::r).map bs) wo b hst.ws (fun a e=>(hst.pb a e).imp (fun h=>by rw[h];rfl) id) (nll hbl hz) hst.wd (by rw[List.length_map,List.length_cons];omega) (by rw[List.length_map,List.length_cons];omega);rw[ll_bs,List.length_map,List.length_cons,EM2.out]at this
        exact this)
       have HR:=mh (readL_term (g:=g) (r:=r) hy);obtain⟨s,es⟩:∃s,bs y=s:=⟨_,rfl⟩;rw[es]at hyb hyb2 hx2;obtain⟨tv,etv⟩:∃tv,readT g (y::r)=tv:=⟨_,rfl⟩;rw[etv]at RD HR HLN HME;clear hst hq2 hqb2 es etv hy
       cases tv with
       | none =>
         have HN:=mh (show Ox=none by rw[HQ3.out,HR.out];rfl)
         go_wp2_with (go_at_call 83;(with_reducible refine cmo RD.out ?_);rintro e w2 ⟨row,pp,pn,pc,rfl,hb2'⟩;clear k0 k1 k2 k3 f0 f1 f2 f3 t0 t1 t2 t3 e0 e1 e2 e3;have HS2:=mh (HS0.out.res.below hb2');have HB2:=mh (bstep mle HB.out hb2');have hz2:=hb2'.size;obtain⟨k0,k1,k2,k3,f0,f1,f2,f3,hl5⟩:=HS2.out)
         have FIN:=mh (readG_none (b:=b) HN.out ((read_bad (w:=w) (W:=w2) ⟨0,0,0,none,0,0⟩ none 0 0 HB2.out).alloc (by rw[(put4_block _ _ _ _ _ _).1];omega) (.cells #[I O row.op,I O row.num,I O row.more,.slice row.p row.n row.c] 28)));have HQF:=mh ((HS2.out.res (I O 0) (I O 0) (I O 0) (.slice none 0 0)).below ((brf _ _).alloc mle (.cells #[I O row.op,I O row.num,I O row.more,.slice row.p row.n row.c] 28)));unfold put4 at FIN HQF;obtain⟨q0,q1,q2', q3, -, -, -, -, -⟩:=HQF.out;clear k0 k1 k2 k3 f0 f1 f2 f3;exact bodyPost_ret (v := .tuple #[.agg #[I O 0,I O 0,I O 0,.slice none 0 0],.slice none 0 0,.bool false]) (by simp[results,Tryz.results83,go_sem,q0,q1,q2', q3]) rfl FIN.out
       | some tr =>
         obtain⟨t,r1⟩:=tr;have hl1:=HLN.out t r1 rfl;rw[List.length_cons]at hl1;have HMM:=mh (fun z hz=>HME.out t r1 rfl z hz);have hM5:M2=r.length+1:=EM2.out.symm;have hl2' : r1.length<M2:=by omega
         have hkr:K.length+r1.length+1≤1000000:=by omega
         have hgr:2*r1.length+1≤g:=by omega
         clear hM5
         go_wp2_with (first
          | (go_at_call 83;(with_reducible refine cmo RD.out ?_);rintro e w2 ⟨row,pp,pc,d2,rfl,hv2,hw2,hpp,hb2'⟩;clear k0 k1 k2 k3 f0 f1 f2 f3 t0 t1 t2 t3 e0 e1 e2 e3;have HS2:=mh (HS0.out.res.below hb2');have HT2:=mh (HS0.out.tb.below hb2');have HB2:=mh (bstep mle HB.out hb2');have HW2:=mh hw2;have HPP:=mh hpp;have HV2:=mh hv2;have hA2:Below w2.heap.size w2 (w2.alloc (.cells #[I O row.op,I O row.num,I O row.more,.slice row.p row.n row.c] 28)):=(brf _ _).alloc mle _;have HA2:=mh hA2;have HO2:=mh ((HS0.out.own.below hb2').below hA2);have HK2:=mh ((HS0.out.kb.change hb2'.size (fun b _ hl=>hb2'.block b hl)).change hA2.size (fun b _ hl=>hA2.block b hl));have hz2:=hb2'.size;clear hv2 hw2 hpp hb2' hA2;obtain⟨t0,t1,t2,t3,e0,e1,e2,e3,hl6⟩:=HT2.out)
          | (at_builtin;(refine OwnR.append el_term rfl (.tmp 90) (.tmp 92) rfl (w.heap.size+2) (.slice pv nv cv) R row #[I O row.op,I O row.num,I O row.more,.slice row.p row.n row.c] rfl HO2.out rfl (by simp[Act.eval]) (by simp;omega) (by omega) (by decide) ?_);intro v3 w3 hO3 hap3;have HO3:=mh hO3;have HAP:=mh hap3;obtain⟨p3,c3,ev3, -⟩:=hO3.cut rfl;have EV:=mh ev3;subst ev3;clear hO3 hap3;clear t0 t1 t2 t3 e0 e1 e2 e3;have HT3:=mh ((HT2.out.below HA2.out).belowB HAP.out.below (by omega));have hz3:=HAP.out.size;rw[World.size_alloc]at hz3;obtain⟨t0,t1,t2,t3,e0,e1,e2,e3,hl7⟩:=HT3.out)
          | fail)
         have HF:=mh (show LSt w (w3.setCell ⟨w.heap.size+1,3,none⟩ (.slice p3 (K.length+1) c3)) b 10 f r0 g (K ++ [t]) r1 (max d d2) (R ++ [row]) p3 (K.length+1) c3 pp pc from by
          have hRl:(R ++ [row]).length=K.length+1:=by rw[lap,HRK];rfl
          have hO4:=HO3.out;rw[hRl]at hO4;have hap:=HAP.out;rw[hRl]at hap;have hbt:Below (w.heap.size+2) w2 (w2.alloc (.cells #[I O row.op,I O row.num,I O row.more,.slice row.p row.n row.c] 28)):=HA2.out.mono (by omega);have hbs:∀B,B≤w.heap.size+1→Below B w3 (w3.setCell ⟨w.heap.size+1,3,none⟩ (.slice p3 (K.length+1) c3)):=fun B hB=>(brf B w3).setCell hB _
          have hB24:Below w.heap.size w2 (w3.setCell ⟨w.heap.size+1,3,none⟩ (.slice p3 (K.length+1) c3)):=((hbt.trans hap.below).mono (by omega)).trans (hbs _ (by omega))
          have hkb:=HK2.out.add (G:=(w2.alloc (.cells #[I O row.op,I O row.num,I O row.more,.slice row.p row.n row.c] 28)).heap.size+1) ((HV2.out.below HA2.out).change (Q' := KQ (w.heap.size+2) (.slice pv nv cv)) mle fun g hq _=>⟨rfl,by
           refine⟨by unfold NewQ at hq;omega,fun e=>?_⟩
           have:=(HS0.out.own.lt e).2;unfold NewQ at hq
           omega⟩) (Nat.le_succ _) hap
          have hne:(Value.slice p3 (K.length+1) c3).ownBlock≠some (w.heap.size+1):=fun e=>by
           have:=(hO4.lt e).1;omega
          exact⟨HW2.out.chg (B:=w.heap.size) (fun a e=>(HPP.out a e).imp (fun h=>by rw[h];rfl) (fun h=>by rw[h];exact hbl)) hB24,HPP.out,HB2.out.trans hB24,
           ((HS2.out.belowB hbt (by omega)).belowB hap.below (by omega)).far (by omega) _,HT3.out.set3 _,hO4.setOther hne _,hkb.change (by rw[sizeCell17];exact Nat.le_refl _) (fun g hg _=>setCell_other _ _ _ _ _ (by omega)),
           by rw[lap];simp;omega,hgr,by omega,HS0.out.eq.trans (by rw[HR.out];exact map_snoc),fun z hz=>by
            obtain⟨z', hz', rfl⟩:=List.mem_map.1 hz
            exact HS0.out.wd _ (List.mem_map.2 ⟨z', HMM.out z' hz', rfl⟩)⟩)
         go_roundg g
         case measure=>omega
         case rel=>exact⟨K ++ [t],r1,_,R ++ [row],p3,K.length+1,c3,pp,pc,rfl,HF.out⟩
theorem read_all:∀f:Nat,ReadAt f:=by
 intro f
 induction f using Nat.strongRecOn with
 | _ f ih =>
 intro p c ws w b h hp hb hwd hlen hf
 cases ws with
 | nil=>exact read_nil p c b w
 | cons x rs =>
   rw[List.length_cons]at hf hlen;obtain⟨f,rfl⟩:∃g,f=g+1:=⟨f - 1,by omega⟩;have hwd2:∀y∈rs,y.size≤16384:=fun y hy=>hwd y (List.mem_cons_of_mem _ hy)
   have hpb:∀a,p=some a→a.block=b:=fun a e=>(hp a e).resolve_left (by simp)
   by_cases ho:opOf x.data.toList=0
   ·exact read_no x rs p c w b h hpb hlen ho
   obtain⟨o,eo⟩:∃o,opOf x.data.toList=o:=⟨_,rfl⟩;obtain⟨o1,o2⟩:=opOf_bd x.data.toList;rw[eo]at ho o1 o2;have:o=1∨o=2∨o=3∨o=4∨o=5∨o=6∨o=7∨o=8∨o=9∨o=10∨o=11:=by omega
   rcases this with rfl|rfl|rfl|rfl|rfl|rfl|rfl|rfl|rfl|rfl|rfl
   ·exact read_op1 x rs p c w b h hpb hlen eo
   ·exact read_op2 x rs p c w b h hpb hwd2 hlen eo
   ·exact read_op3 x rs p c w b h hpb hwd2 hlen eo
   ·exact read_op4 x rs p c w b h hpb hlen eo
   ·exact read_op5 x rs p c w b h hpb hwd2 hlen eo
   ·exact read_op6 x rs p c w b h hpb hwd2 hlen eo
   ·exact read_op7 x rs p c w b h hpb hwd2 hlen eo
   ·exact read_op8 x rs p c w b h hpb hwd2 hlen eo
   ·exact read_op9 (fun g hg=>ih g (by omega)) x rs p c w b h hpb hwd2 (by omega) hlen eo
   ·exact read_op10 (fun g hg=>ih g (by omega)) x rs p c w b h hpb hwd2 (by omega) hlen eo
   ·exact read_op11 (ih f (by omega)) x rs p c w b h hpb hwd2 (by omega) hlen eo
theorem refparse16_any (p:Option Addr)(ws:List ByteArray)(c:Nat)(w:World)(h:Recs SB w p ws)(hc:ws.length≤c)(hp:p=none→c=0)(hw:∀x∈ws,x.size≤16384)(hl:ws.length≤1000000) :
  Calls Tryz.prog 45 #[.slice p ws.length c] w (ParseTG (readT (2*ws.length) (ll ws)) w):=by
 have hA:Below w.heap.size w (w.alloc (.cells #[I O 0,I O 0,I O 0,.slice none 0 0] 28)):=(brf _ _).alloc mle _;have HS0:=mh (Res4.new w 28).tb;have HA:=mh hA;have hz0:((w.alloc (.cells #[I O 0,I O 0,I O 0,.slice none 0 0] 28))).heap.size=w.heap.size+1:=by simp
 obtain⟨b,hb1,hb2⟩:∃b,(∀a,p=some a→ws = []∨a.block=b)∧b<((w.alloc (.cells #[I O 0,I O 0,I O 0,.slice none 0 0] 28))).heap.size:=by
  by_cases h0:ws = []
  ·exact⟨0,fun _ _ => .inl h0,by rw[hz0];omega⟩
  ·cases p with
   | none =>
     have:=hp rfl;have:=List.length_pos_iff.2 h0;omega
   | some a=>exact⟨a.block,fun a' e => .inr (by cases e;rfl),by have:=h.lt h0 (a:=a) rfl;rw[hz0];omega⟩
 have HRD:=mh (read_all (2*ws.length) p c ws (w.alloc (.cells #[I O 0,I O 0,I O 0,.slice none 0 0] 28)) b ⟨h.below hA,hc,hp⟩ hb1 hb2 hw hl mle);have HCT:=mh (fun t r (e:readT (2*ws.length) (ll ws)=some (t,r))=>(show count t≤1099511627776 by have:=(read_count _).1 _ _ _ e;rw[ll_len]at this;omega));have HRL:=mh (fun t r (e:readT (2*ws.length) (ll ws)=some (t,r))=>(show r.length≤1000000 by have:=(read_count _).1 _ _ _ e;rw[ll_len]at this;omega));obtain⟨tv,etv⟩:∃tv,readT (2*ws.length) (ll ws)=tv:=⟨_,rfl⟩;rw[etv]at HRD HCT HRL ⊢;clear h hp hw hA etv hb1 hb2
 cases tv with
 | none =>
   show Calls _ _ _ _ (ParseBad 4 w)
   have HRD:=mh (show Calls Tryz.prog 83 #[.slice p ws.length c] (w.alloc (.cells #[I O 0,I O 0,I O 0,.slice none 0 0] 28)) (ReadBad (w.alloc (.cells #[I O 0,I O 0,I O 0,.slice none 0 0] 28))) from HRD.out)
   go_enter Tryz.func45,Tryz.ntmps45
   go_wp2_with (first
    | (go_at_call 83;(with_reducible refine cmo HRD.out ?_);rintro e w2 ⟨row,pp,pn,pc,rfl,hb2⟩;have HS2:=mh (HS0.out.below hb2);have HB2:=mh (bstep mle HA.out hb2);have hz2:=hb2.size;rw[hz0]at hz2;obtain⟨k0,k1,k2,k3,f0,f1,f2,f3,hl2⟩:=HS2.out;clear hb2)
    | fail)
   have HQF:=mh ((HS2.out.res (I O 0) (I O 0) (I O 0) (.slice none 0 0)).below ((brf _ _).alloc mle (.cells #[I O row.op,I O row.num,I O row.more,.slice row.p row.n row.c] 28)));have FIN:=mh (HB2.out.trans (((put4_below mle (I O 0) (I O 0) (I O 0) (.slice none 0 0))).alloc (by rw[(put4_block _ _ _ _ _ _).1];omega) (.cells #[I O row.op,I O row.num,I O row.more,.slice row.p row.n row.c] 28)));unfold put4 at HQF FIN;obtain⟨q0,q1,q2,q3, -, -, -, -, -⟩:=HQF.out;clear k0 k1 k2 k3;exact bodyPost_ret (v := .tuple #[.agg #[I O 0,I O 0,I O 0,.slice none 0 0],.slice none 0 0,I O 4]) (by simp[results,Tryz.results45,go_sem,q0,q1,q2,q3]) rfl ⟨rfl,FIN.out⟩
 | some tr =>
   obtain⟨t,r⟩:=tr;have hct:=HCT.out t r rfl;have hrl:=HRL.out t r rfl
   show Calls _ _ _ _ (if chkT t=0 then ParseGood t r.length w else ParseBad (chkT t) w)
   have HRD:=mh (show Calls Tryz.prog 83 #[.slice p ws.length c] (w.alloc (.cells #[I O 0,I O 0,I O 0,.slice none 0 0] 28)) (ReadGood b t r (w.alloc (.cells #[I O 0,I O 0,I O 0,.slice none 0 0] 28))) from HRD.out);obtain⟨ct,ect⟩:∃ct,chkT t=ct:=⟨_,rfl⟩;have CK:=mh (fun (d:Nat) (row:RT) (W:World) (h:TV (NewQ (w.heap.size+1)) W d row t)=>ect▸refcheck16_any d row t W h hct);rw[ect];unfold IntG at CK
   by_cases h0:ct=0
   rotate_left
   ·have hctb:(ct != 0)=true:=bne_iff_ne.2 h0
    rw[if_neg h0];clear ect h0
    go_enter Tryz.func45,Tryz.ntmps45
    go_wp2_with (first|(go_at_call 83;(with_reducible refine cmo HRD.out ?_);rintro e w2 ⟨row,pp,pc,d,rfl,hv2,hw2,hpp,hb2⟩;rw[hz0]at hv2;have HS2:=mh (HS0.out.below hb2);have HB2:=mh (bstep mle HA.out hb2);have hz2:=hb2.size;rw[hz0]at hz2;have HW2:=mh hw2;have HV:=mh hv2;have HA2:=mh ((brf w2.heap.size w2).alloc mle (.cells #[I O row.op,I O row.num,I O row.more,.slice row.p row.n row.c] 28));have CK2:=mh (CK.out d row _ (hv2.below HA2.out));have hl2:=HS2.out.lt;clear hb2 hv2 hw2 hpp)|(go_at_call 53;(with_reducible refine cmo CK2.out ?_);rintro e w4 ⟨rfl,hb4⟩;have HB24:=mh (bstep mle HA2.out hb4);have HB4:=mh (bstep mle HB2.out HB24.out);have HS4:=mh (HS2.out.below HB24.out);have HV4:=mh (HV.out.below HB24.out);have HW4:=mh (HW2.out.below HB24.out);have hz4:=HB24.out.size;obtain⟨k0,k1,k2,k3,f0,f1,f2,f3,hl4⟩:=HS4.out;have t0:=mcell hb4 0;have t1:=mcell hb4 1;have t2:=mcell hb4 2;have t3:=mcell hb4 3;have hz5:w2.heap.size<w4.heap.size:=(by have:=hb4.size;rw[World.size_alloc]at this;omega);clear hb4)|fail)
    have HQF:=mh (HS4.out.res (I O 0) (I O 0) (I O 0) (.slice none 0 0));have FIN:=mh (HB4.out.trans (put4_below (W:=w4) (Nat.le_refl w.heap.size) (I O 0) (I O 0) (I O 0) (.slice none 0 0)));unfold put4 at HQF FIN;obtain⟨q0,q1,q2,q3, -, -, -, -, -⟩:=HQF.out;clear k0 k1 k2 k3;exact bodyPost_ret (v := .tuple #[.agg #[I O 0,I O 0,I O 0,.slice none 0 0],.slice none 0 0,I O ct]) (by simp[results,Tryz.results45,go_sem,q0,q1,q2,q3]) rfl ⟨rfl,FIN.out⟩
   ·subst h0
    rw[if_pos rfl];clear ect
    go_enter Tryz.func45,Tryz.ntmps45
    go_wp2_with (first|(go_at_call 83;(with_reducible refine cmo HRD.out ?_);rintro e w2 ⟨row,pp,pc,d,rfl,hv2,hw2,hpp,hb2⟩;rw[hz0]at hv2;have HS2:=mh (HS0.out.below hb2);have HB2:=mh (bstep mle HA.out hb2);have hz2:=hb2.size;rw[hz0]at hz2;have HW2:=mh hw2;have HV:=mh hv2;have HA2:=mh ((brf w2.heap.size w2).alloc mle (.cells #[I O row.op,I O row.num,I O row.more,.slice row.p row.n row.c] 28));have CK2:=mh (CK.out d row _ (hv2.below HA2.out));have hl2:=HS2.out.lt;clear hb2 hv2 hw2 hpp)|(go_at_call 53;(with_reducible refine cmo CK2.out ?_);rintro e w4 ⟨rfl,hb4⟩;have HB24:=mh (bstep mle HA2.out hb4);have HB4:=mh (bstep mle HB2.out HB24.out);have HS4:=mh (HS2.out.below HB24.out);have HV4:=mh (HV.out.below HB24.out);have HW4:=mh (HW2.out.below HB24.out);have hz4:=HB24.out.size;obtain⟨k0,k1,k2,k3,f0,f1,f2,f3,hl4⟩:=HS4.out;have t0:=mcell hb4 0;have t1:=mcell hb4 1;have t2:=mcell hb4 2;have t3:=mcell hb4 3;have hz5:w2.heap.size<w4.heap.size:=(by have:=hb4.size;rw[World.size_alloc]at this;omega);clear hb4)|fail)
    have hM0:Below w4.heap.size w4 (w4.alloc (.cells #[] 9)):=(brf _ _).alloc mle _;have HM0:=mh hM0;have HOM:=mh (OwnR.made0 (S:=SB) w4 9);have HWM:=mh (HW4.out.below hM0);have HTS:=mh (show w4.cell? ⟨w2.heap.size,0,none⟩=some (I O row.op)∧w4.cell? ⟨w2.heap.size,1,none⟩=some (I O row.num)∧w4.cell? ⟨w2.heap.size,2,none⟩=some (I O row.more)∧w4.cell? ⟨w2.heap.size,3,none⟩=some (.slice row.p row.n row.c) from⟨t0,t1,t2,t3⟩)
    have KB0:=mh (fun (W:World) (hW:Below w4.heap.size w4 W)=>show W.cell? ⟨w2.heap.size,0,none⟩=some (I O row.op)∧W.cell? ⟨w2.heap.size,1,none⟩=some (I O row.num)∧W.cell? ⟨w2.heap.size,2,none⟩=some (I O row.more)∧W.cell? ⟨w2.heap.size,3,none⟩=some (.slice row.p row.n row.c) from
     ⟨(hW.cell (p:=⟨w2.heap.size,0,none⟩) hz5).trans HTS.out.1,(hW.cell (p:=⟨w2.heap.size,1,none⟩) hz5).trans HTS.out.2.1,(hW.cell (p:=⟨w2.heap.size,2,none⟩) hz5).trans HTS.out.2.2.1,(hW.cell (p:=⟨w2.heap.size,3,none⟩) hz5).trans HTS.out.2.2.2⟩)
    have J0:=brf w4.heap.size w4;have J0d:=J0.drew;have J1:=hM0;have J1d:=hM0.drew;clear k0 k1 k2 k3 f0 f1 f2 f3 t0 t1 t2 t3 hM0
    go_region_held3 (fun W=>W.cell? ⟨w2.heap.size,0,none⟩=some (I O row.op)∧W.cell? ⟨w2.heap.size,1,none⟩=some (I O row.num)∧W.cell? ⟨w2.heap.size,2,none⟩=some (I O row.more)∧W.cell? ⟨w2.heap.size,3,none⟩=some (.slice row.p row.n row.c))
     (first|exact KB0.out _ J0|exact KB0.out _ J0d|exact KB0.out _ J1|exact KB0.out _ J1d|exact KB0.out _ J5|exact⟨v0,v1,v2,v3⟩|fail)
     (first
      | (refine OwnR.stepAll el_str (by rfl) (.tmp 25) (.tmp 26) (by rfl) w4.heap.size (.slice (some ⟨w4.heap.size,0,none⟩) 0 0) [] (r.map bs) pp pc r.length (List.length_map _) (HOM.out.drew) (HWM.out.recs.drew) HWM.out.nn (by rfl) (by rfl) (by simp) (by simp;omega) (by decide) ?_;intro v5 w5 hO5 hb5'; rw[List.nil_append]at hO5;obtain⟨p5,c5,ev5, -⟩:=hO5.cut (List.length_map _);have J5:Below w4.heap.size w4 w5:=HM0.out.trans (bdrew' hb5');subst ev5;have HS5:=mh (HS4.out.below J5);obtain⟨k0,k1,k2,k3,f0,f1,f2,f3,hl5⟩:=HS5.out;have HB5:=mh (bstep mle HB4.out J5);have HV5:=mh (HV4.out.below J5);obtain⟨u0,u1,u2,u3⟩:=KB0.out _ J5;have vv:=put4_far w5 (b:=w.heap.size) (k:=w2.heap.size) (by omega) (I O row.op) (I O row.num) (I O row.more) (.slice row.p row.n row.c);have v0:=(vv 0).trans u0;have v1:=(vv 1).trans u1;have v2:=(vv 2).trans u2;have v3:=(vv 3).trans u3;clear vv u0 u1 u2 u3;unfold put4 at v0 v1 v2 v3)
      | fail)
    go_wp2
    have hbl:=put4_block w5 w.heap.size (I O row.op) (I O row.num) (I O row.more) (.slice row.p row.n row.c);have HQF:=mh (HS5.out.res (I O row.op) (I O row.num) (I O row.more) (.slice row.p row.n row.c));have FIN:=mh (HB5.out.trans (put4_below (W:=w5) (Nat.le_refl w.heap.size) (I O row.op) (I O row.num) (I O row.more) (.slice row.p row.n row.c)));have FV:=mh (HV5.out.change (Q' := NewQ w.heap.size) (w' := put4 w5 w.heap.size (I O row.op) (I O row.num) (I O row.more) (.slice row.p row.n row.c)) (by rw[hbl.1];exact Nat.le_refl _) fun b hq _=>⟨hbl.2 b (by unfold NewQ at hq;omega),by unfold NewQ at *;omega⟩);unfold put4 at HQF FIN FV;obtain⟨q0,q1,q2,q3, -, -, -, -, -⟩:=HQF.out;clear k0 k1 k2 k3 hbl;exact bodyPost_ret (v := .tuple #[.agg #[I O row.op,I O row.num,I O row.more,.slice row.p row.n row.c],.slice p5 r.length c5,I O 0]) (by simp[results,Tryz.results45,go_sem,q0,q1,q2,q3]) rfl ⟨row,p5,c5,d,rfl,FV.out,FIN.out⟩
end Go.Proofs.YtbcmabolkkfgfaaGreatDoor
