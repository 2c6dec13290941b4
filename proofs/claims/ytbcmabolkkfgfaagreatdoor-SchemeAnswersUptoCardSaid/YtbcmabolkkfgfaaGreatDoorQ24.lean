/- Packed. -/
import Derived.Test.YtbcmabolkkfgfaaGreatDoorQ12
set_option maxRecDepth 100000
set_option maxHeartbeats 16000000
open Go.Value renaming int → I
open Go.IntKind renaming i64 → O
namespace Go.Proofs.YtbcmabolkkfgfaaGreatDoor
open Go.RowKit Te
theorem read_nil {f:Nat}(p:Option Addr)(c b0:Nat)(w:World):Calls Tryz.prog 83 #[.slice p 0 c] w (ReadG b0 (readT f (ll [])) w):=by
 rw[show readT f (ll [])=none from readT_nil _]
 show Calls _ _ _ _ (ReadBad w)
 go_enter Tryz.func83,Tryz.ntmps83
 go_wp2
 exact bodyPost_ret (v := .tuple #[.agg #[I O 0,I O 0,I O 0,.slice none 0 0],.slice none 0 0,.bool false]) (by simp[results,Tryz.results83,go_sem]) rfl ⟨⟨0,0,0,none,0,0⟩,none,0,0,rfl,by go_grown⟩
theorem read_no {f:Nat}(x:ByteArray)(rs:List ByteArray)(p:Option Addr)(c:Nat)(w:World)(b0:Nat)(h:WSl w p c (x::rs))(hpb:∀a,p=some a→a.block=b0)(hlen:rs.length+1≤1000000)(ho:opOf x.data.toList=0):Calls Tryz.prog 83 #[.slice p (rs.length+1) c] w (ReadG b0 (readT (f+1) (ll (x::rs))) w):=by
 rw[readT_no (f:=f) (rs:=rs) ho]
 show Calls _ _ _ _ (ReadBad w)
 have hno:=opOf_none ho;clear ho;obtain⟨b,off,q,c1,rfl,hbl,hx0,hle,hq,hqb,hsl⟩:=h.cons;obtain rfl:b=b0:=hpb _ rfl;clear hpb;have HQB:=mh (fun a (e:q=some a)=>show(ll rs = []∨a.block=b) from .inr (hqb a e));clear hqb;have HQ:=mh hq;have hp1:(0:Int)<((rs.length+1:Nat):Int):=by omega
 have hne0:((rs.length:Int)+1==0)=false:=beq_eq_false_iff_ne.2 (by omega);have hA0:Below w.heap.size w (w.alloc (.cells #[I O 0,I O 0,I O 0,.slice none 0 0] 28)):=(brf _ _).alloc mle _;have hA:Below w.heap.size w ((w.alloc (.cells #[I O 0,I O 0,I O 0,.slice none 0 0] 28)).alloc (.cells #[I O 0,I O 0,I O 0,.slice none 0 0] 28)):=hA0.alloc (by simp) _;have HS0:=mh ((Res4.new w 28).tb.below (W' := ((w.alloc (.cells #[I O 0,I O 0,I O 0,.slice none 0 0] 28)).alloc (.cells #[I O 0,I O 0,I O 0,.slice none 0 0] 28))) ((brf _ _).alloc mle _));have hT0:=(Res4.new (w.alloc (.cells #[I O 0,I O 0,I O 0,.slice none 0 0] 28)) 28).tb;rw[World.size_alloc]at hT0;have HT0:=mh hT0;have HA:=mh hA;have HXW:=mh hx0;have OPS:=mh (fun (i:Nat) (h1:1≤i) (h2:i≤11) (W:World)=>ops_any (i:Int) (by omega) (by omega) W);unfold StrGive at OPS;clear h hq hA0 hA hT0
 go_enter Tryz.func83,Tryz.ntmps83
 go_wp2
 go_loopw [6] (fun s6 wr=>∃i:Nat,1≤i∧i≤12∧s6=I O (i:Int)∧Below w.heap.size w wr∧TB w.heap.size wr (I O 0) (I O 0) (I O 0) (.slice none 0 0)∧TB (w.heap.size+1) wr (I O (0)) (I O 0) (I O 0) (.slice none 0 0)) (fun s6 _=>12 - (intOf s6).toNat)
 case atStart=>exact⟨1,Nat.le_refl _,by omega,rfl,HA.out,HS0.out,HT0.out⟩
 case round =>
  clear HS0 HT0 HA;obtain⟨wo,rfl⟩:∃wo:World,wo=wr:=⟨_,rfl⟩;obtain⟨i,hi1,hi2,rfl,hb,hS,hT⟩:=hrel;have HB:=mh hb;have HS:=mh hS;have HT:=mh hT;have hsz:=hb.size
  by_cases hlt:i≤11
  ·have hlt1:(i:Int)≤11:=by omega
   have hxw:=(hb.cell (p:=⟨b,off,none⟩) hbl).trans HXW.out;have OP:=mh (fun W=>OPS.out i hi1 hlt W);obtain⟨S,eS⟩:∃S:ByteArray,(⟨(opW (i:Int)).toArray⟩:ByteArray)=S:=⟨_,rfl⟩;rw[eS]at OP;have KX:=mh (fun (W:World) (hW:Below wo.heap.size wo W)=>(hW.cell (p:=⟨b,off,none⟩) (by show b<wo.heap.size;omega)).trans hxw);have K0:=brf wo.heap.size wo;have K0d:=K0.drew
   ·have hs:(S.toList==x.toList)=false:=by
     rw[← eS];refine beq_no ?_
     show opW (i:Int)≠x.toList
     rw[ByteArray.toList_eq];exact fun e=>hno (i:Int) (by omega) (by omega) e.symm
    clear eS hb hS hT
    go_wp2_with fail
    clear hxw
    go_region_held3 (fun W=>W.cell? ⟨b,off,none⟩=some (.string x))
     (first|exact KX.out _ K0|exact KX.out _ K0d|exact KX.out _ K5|fail)
     (first
      | (go_at_call 99;(with_reducible refine cmo (OP.out _) ?_);rintro e w5 ⟨rfl,hb5⟩;have K5:Below wo.heap.size wo w5:=(by first|exact K0d.trans hb5|exact K0.trans hb5))
      | fail)
    have HT5:=mh (HT.out.below K5);have HS5:=mh (HS.out.below K5);have HB5:=mh (bstep mle HB.out K5)
    go_wp2
    go_roundw
    case rel=>exact⟨i+1,by omega,by omega,by go_num,HB5.out,HS5.out,HT5.out⟩
    case measure=>simp[intOf];omega
  ·obtain rfl:i=12:=by omega
   have hi3:¬((12:Nat):Int)≤11:=by omega
   have HW:=mh (HQ.out.below (HB.out.mono mle));obtain⟨k0,k1,k2,k3,f0,f1,f2,f3,hl0⟩:=HS.out;obtain⟨t0,t1,t2,t3,e0,e1,e2,e3,hl1⟩:=HT.out;clear hb hS hT hi1 hi2 OPS
   go_wp2
   have FIN:=mh (read_bad ⟨0,0,0,none,0,0⟩ none 0 0 HB.out);unfold put4 at FIN;exact bodyPost_ret (v := .tuple #[.agg #[I O 0,I O 0,I O 0,.slice none 0 0],.slice none 0 0,.bool false]) (by simp[results,Tryz.results83,go_sem,k0,k1,k2,k3]) rfl FIN.out
theorem read_op1 {f:Nat}(x:ByteArray)(rs:List ByteArray)(p:Option Addr)(c:Nat)(w:World)(b0:Nat)(h:WSl w p c (x::rs))(hpb:∀a,p=some a→a.block=b0)(hlen:rs.length+1≤1000000)(eo:opOf x.data.toList=1):Calls Tryz.prog 83 #[.slice p (rs.length+1) c] w (ReadG b0 (readT (f+1) (ll (x::rs))) w):=by
 rw[readT_true (f:=f) (rs:=rs) eo]
 show Calls _ _ _ _ (ReadGood b0 _ _ w)
 obtain rfl:x=⟨#[116,114,117,101]⟩:=ba_word (opOf_word eo (by decide));clear eo;obtain⟨b,off,q,c1,rfl,hbl,hx0,hle,hq,hqb,hsl⟩:=h.cons;obtain rfl:b=b0:=hpb _ rfl;clear hpb;have HQB:=mh (fun a (e:q=some a)=>show(ll rs = []∨a.block=b) from .inr (hqb a e));clear hqb;have HQ:=mh hq;have hp1:(0:Int)<((rs.length+1:Nat):Int):=by omega
 have hne0:((rs.length:Int)+1==0)=false:=beq_eq_false_iff_ne.2 (by omega);have hA0:Below w.heap.size w (w.alloc (.cells #[I O 0,I O 0,I O 0,.slice none 0 0] 28)):=(brf _ _).alloc mle _;have hA:Below w.heap.size w ((w.alloc (.cells #[I O 0,I O 0,I O 0,.slice none 0 0] 28)).alloc (.cells #[I O 0,I O 0,I O 0,.slice none 0 0] 28)):=hA0.alloc (by simp) _;have HS0:=mh ((Res4.new w 28).tb.below (W' := ((w.alloc (.cells #[I O 0,I O 0,I O 0,.slice none 0 0] 28)).alloc (.cells #[I O 0,I O 0,I O 0,.slice none 0 0] 28))) ((brf _ _).alloc mle _));have hT0:=(Res4.new (w.alloc (.cells #[I O 0,I O 0,I O 0,.slice none 0 0] 28)) 28).tb;rw[World.size_alloc]at hT0;have HT0:=mh hT0;have HA:=mh hA;have HXW:=mh hx0;have OPS:=mh (fun (i:Nat) (h1:1≤i) (h2:i≤11) (W:World)=>ops_any (i:Int) (by omega) (by omega) W);unfold StrGive at OPS;clear h hq hA0 hA hT0
 go_enter Tryz.func83,Tryz.ntmps83
 go_wp2
 go_loopw [6] (fun s6 wr=>∃i:Nat,1≤i∧i≤12∧s6=I O (i:Int)∧Below w.heap.size w wr∧TB w.heap.size wr (I O 0) (I O 0) (I O 0) (.slice none 0 0)∧TB (w.heap.size+1) wr (I O (if 1<i then 1 else 0)) (I O 0) (I O 0) (.slice none 0 0)) (fun s6 _=>12 - (intOf s6).toNat)
 case atStart=>exact⟨1,Nat.le_refl _,by omega,rfl,HA.out,HS0.out,by rw[if_neg (by omega)];exact HT0.out⟩
 case round =>
  clear HS0 HT0 HA;obtain⟨wo,rfl⟩:∃wo:World,wo=wr:=⟨_,rfl⟩;obtain⟨i,hi1,hi2,rfl,hb,hS,hT⟩:=hrel;have HB:=mh hb;have HS:=mh hS;have HT:=mh hT;have hsz:=hb.size
  by_cases hlt:i≤11
  ·have hlt1:(i:Int)≤11:=by omega
   have hxw:=(hb.cell (p:=⟨b,off,none⟩) hbl).trans HXW.out;have OP:=mh (fun W=>OPS.out i hi1 hlt W);obtain⟨S,eS⟩:∃S:ByteArray,(⟨(opW (i:Int)).toArray⟩:ByteArray)=S:=⟨_,rfl⟩;rw[eS]at OP;have KX:=mh (fun (W:World) (hW:Below wo.heap.size wo W)=>(hW.cell (p:=⟨b,off,none⟩) (by show b<wo.heap.size;omega)).trans hxw);have K0:=brf wo.heap.size wo;have K0d:=K0.drew
   by_cases hio:i=1
   ·subst hio
    have hs:(S.toList == [116,114,117,101])=true:=by rw[← eS];decide +kernel
    rw[if_neg (by omega)]at HT;clear eS hb hS hT hi1 hi2
    go_wp2_with fail
    clear hxw
    go_region_held3 (fun W=>W.cell? ⟨b,off,none⟩=some (.string ⟨#[116,114,117,101]⟩))
     (first|exact KX.out _ K0|exact KX.out _ K0d|exact KX.out _ K5|fail)
     (first
      | (go_at_call 99;(with_reducible refine cmo (OP.out _) ?_);rintro e w5 ⟨rfl,hb5⟩;have K5:Below wo.heap.size wo w5:=(by first|exact K0d.trans hb5|exact K0.trans hb5))
      | fail)
    have HT5:=mh (HT.out.below K5);have HS5:=mh (HS.out.below K5);have HB5:=mh (bstep mle HB.out K5);obtain⟨k0, -, -, -,f0, -, -, -,hl0⟩:=HT5.out
    go_wp2
    go_roundw
    case rel=>exact⟨1+1,by omega,by omega,by go_num,HB5.out.setCell (Nat.le_succ _) _,HS5.out.far (by omega) _,by rw[if_pos (by omega)];exact HT5.out.set0 _⟩
    case measure=>simp[intOf]
   ·have hs:(S.toList == [116,114,117,101])=false:=by
     rw[← eS];refine beq_no ?_
     show opW (i:Int) ≠ [116,114,117,101]
     intro e;have e1:=opOf_opW (i:Int) (by omega) (by omega);rw[e]at e1;have e2:opOf (⟨#[116,114,117,101]⟩:ByteArray).data.toList=1:=by decide +kernel
     rw[e2]at e1;omega
    clear eS hb hS hT
    go_wp2_with fail
    clear hxw
    go_region_held3 (fun W=>W.cell? ⟨b,off,none⟩=some (.string ⟨#[116,114,117,101]⟩))
     (first|exact KX.out _ K0|exact KX.out _ K0d|exact KX.out _ K5|fail)
     (first
      | (go_at_call 99;(with_reducible refine cmo (OP.out _) ?_);rintro e w5 ⟨rfl,hb5⟩;have K5:Below wo.heap.size wo w5:=(by first|exact K0d.trans hb5|exact K0.trans hb5))
      | fail)
    have HT5:=mh (HT.out.below K5);have HS5:=mh (HS.out.below K5);have HB5:=mh (bstep mle HB.out K5)
    go_wp2
    go_roundw
    case rel=>exact⟨i+1,by omega,by omega,by go_num,HB5.out,HS5.out,by
     have:(if 1<i+1 then (1:Int) else 0)=if 1<i then 1 else 0:=by
      by_cases h:1<i
      ·rw[if_pos h,if_pos (by omega)]
      ·rw[if_neg h,if_neg (by omega)]
     rw[this]
     exact HT5.out⟩
    case measure=>simp[intOf];omega
  ·obtain rfl:i=12:=by omega
   have hi3:¬((12:Nat):Int)≤11:=by omega
   rw[if_pos (by omega)]at HT;have HW:=mh (HQ.out.below (HB.out.mono mle));obtain⟨k0,k1,k2,k3,f0,f1,f2,f3,hl0⟩:=HS.out;obtain⟨t0,t1,t2,t3,e0,e1,e2,e3,hl1⟩:=HT.out;clear hb hS hT hi1 hi2 OPS
   go_wp2
   have FIN:=mh (by have:=read_good (t := .mk 1 0 0 []) (r:=ll rs) (row:=⟨1,0,0,none,0,0⟩) HB.out hbl (by rw[bs_ll];exact HW.out) HQB.out (TV.leaf _ _ 1 0 0);rw[ll_len]at this;exact this);unfold put4 at FIN;exact bodyPost_ret (v := .tuple #[.agg #[I O 1,I O 0,I O 0,.slice none 0 0],.slice q rs.length c1,.bool true]) (by simp[results,Tryz.results83,go_sem,k0,k1,k2,k3]) rfl FIN.out
theorem read_op2 {f:Nat}(x:ByteArray)(rs:List ByteArray)(p:Option Addr)(c:Nat)(w:World)(b0:Nat)(h:WSl w p c (x::rs))(hpb:∀a,p=some a→a.block=b0)(hwd:∀y∈rs,y.size≤16384)(hlen:rs.length+1≤1000000)(eo:opOf x.data.toList=2):Calls Tryz.prog 83 #[.slice p (rs.length+1) c] w (ReadG b0 (readT (f+1) (ll (x::rs))) w):=by
 rw[readT_num (f:=f) (rs:=rs) 2 eo (by decide)];obtain rfl:x=⟨#[99,114,111,112]⟩:=ba_word (opOf_word eo (by decide));clear eo;have hsz:(hdW rs).size≤9223372036854775807:=by
  cases rs with
  | nil=>show 0≤_;omega
  | cons y r=>have:=hwd y List.mem_cons_self;show y.size≤_;omega
 have HNIL:=mh (show rs = []→numM (hdW rs).data.toList=none from fun e=>by rw[e];exact numM_nil);obtain⟨hv,hvb⟩:=numM_val (hdW rs).data.toList
 have NM0:=mh (fun (W:World)=>show Calls Tryz.prog 84 #[.string (hdW rs),I O (-1125899906842624),I O 1125899906842624] W (fun e w' => e = .returned (.tuple #[I O ((numM (hdW rs).data.toList).getD 0),.bool (numM (hdW rs).data.toList).isSome])∧Below W.heap.size W w') by
  have:=refnumber_any (hdW rs) (-1125899906842624) 1125899906842624 W hsz;unfold NumGive at this;rw[hv,hvb]at this
  exact this)
 obtain⟨hd,ehd⟩:∃hd,hdW rs=hd:=⟨_,rfl⟩;rw[ehd]at HNIL NM0 ⊢;obtain⟨nv,env⟩:∃nv,numM hd.data.toList=nv:=⟨_,rfl⟩;rw[env]at HNIL NM0 ⊢;have EHD:=mh ehd;clear hv hvb hsz hwd ehd env
 cases nv with
 | none =>
   show Calls _ _ _ _ (ReadBad w)
   have NM:=mh (fun (W:World)=>show Calls Tryz.prog 84 #[.string hd,I O (-1125899906842624),I O 1125899906842624] W (fun e w' => e = .returned (.tuple #[I O 0,.bool false])∧Below W.heap.size W w') from NM0.out W);obtain⟨b,off,q,c1,rfl,hbl,hx0,hle,hq,hqb,hsl⟩:=h.cons;obtain rfl:b=b0:=hpb _ rfl;clear hpb;have HQB:=mh (fun a (e:q=some a)=>show(ll rs = []∨a.block=b) from .inr (hqb a e));clear hqb;have HQ:=mh hq;have hp1:(0:Int)<((rs.length+1:Nat):Int):=by omega
   have hne0:((rs.length:Int)+1==0)=false:=beq_eq_false_iff_ne.2 (by omega);have hA0:Below w.heap.size w (w.alloc (.cells #[I O 0,I O 0,I O 0,.slice none 0 0] 28)):=(brf _ _).alloc mle _;have hA:Below w.heap.size w ((w.alloc (.cells #[I O 0,I O 0,I O 0,.slice none 0 0] 28)).alloc (.cells #[I O 0,I O 0,I O 0,.slice none 0 0] 28)):=hA0.alloc (by simp) _;have HS0:=mh ((Res4.new w 28).tb.below (W' := ((w.alloc (.cells #[I O 0,I O 0,I O 0,.slice none 0 0] 28)).alloc (.cells #[I O 0,I O 0,I O 0,.slice none 0 0] 28))) ((brf _ _).alloc mle _));have hT0:=(Res4.new (w.alloc (.cells #[I O 0,I O 0,I O 0,.slice none 0 0] 28)) 28).tb;rw[World.size_alloc]at hT0;have HT0:=mh hT0;have HA:=mh hA;have HXW:=mh hx0;have OPS:=mh (fun (i:Nat) (h1:1≤i) (h2:i≤11) (W:World)=>ops_any (i:Int) (by omega) (by omega) W);unfold StrGive at OPS;clear h hq hA0 hA hT0
   go_enter Tryz.func83,Tryz.ntmps83
   go_wp2
   go_loopw [6] (fun s6 wr=>∃i:Nat,1≤i∧i≤12∧s6=I O (i:Int)∧Below w.heap.size w wr∧TB w.heap.size wr (I O 0) (I O 0) (I O 0) (.slice none 0 0)∧TB (w.heap.size+1) wr (I O (if 2<i then 2 else 0)) (I O 0) (I O 0) (.slice none 0 0)) (fun s6 _=>12 - (intOf s6).toNat)
   case atStart=>exact⟨1,Nat.le_refl _,by omega,rfl,HA.out,HS0.out,by rw[if_neg (by omega)];exact HT0.out⟩
   case round =>
    clear HS0 HT0 HA;obtain⟨wo,rfl⟩:∃wo:World,wo=wr:=⟨_,rfl⟩;obtain⟨i,hi1,hi2,rfl,hb,hS,hT⟩:=hrel;have HB:=mh hb;have HS:=mh hS;have HT:=mh hT;have hsz:=hb.size
    by_cases hlt:i≤11
    ·have hlt1:(i:Int)≤11:=by omega
     have hxw:=(hb.cell (p:=⟨b,off,none⟩) hbl).trans HXW.out;have OP:=mh (fun W=>OPS.out i hi1 hlt W);obtain⟨S,eS⟩:∃S:ByteArray,(⟨(opW (i:Int)).toArray⟩:ByteArray)=S:=⟨_,rfl⟩;rw[eS]at OP;have KX:=mh (fun (W:World) (hW:Below wo.heap.size wo W)=>(hW.cell (p:=⟨b,off,none⟩) (by show b<wo.heap.size;omega)).trans hxw);have K0:=brf wo.heap.size wo;have K0d:=K0.drew
     by_cases hio:i=2
     ·subst hio
      have hs:(S.toList == [99,114,111,112])=true:=by rw[← eS];decide +kernel
      rw[if_neg (by omega)]at HT;clear eS hb hS hT hi1 hi2
      go_wp2_with fail
      clear hxw
      go_region_held3 (fun W=>W.cell? ⟨b,off,none⟩=some (.string ⟨#[99,114,111,112]⟩))
       (first|exact KX.out _ K0|exact KX.out _ K0d|exact KX.out _ K5|fail)
       (first
        | (go_at_call 99;(with_reducible refine cmo (OP.out _) ?_);rintro e w5 ⟨rfl,hb5⟩;have K5:Below wo.heap.size wo w5:=(by first|exact K0d.trans hb5|exact K0.trans hb5))
        | fail)
      have HT5:=mh (HT.out.below K5);have HS5:=mh (HS.out.below K5);have HB5:=mh (bstep mle HB.out K5);obtain⟨k0, -, -, -,f0, -, -, -,hl0⟩:=HT5.out
      go_wp2
      go_roundw
      case rel=>exact⟨2+1,by omega,by omega,by go_num,HB5.out.setCell (Nat.le_succ _) _,HS5.out.far (by omega) _,by rw[if_pos (by omega)];exact HT5.out.set0 _⟩
      case measure=>simp[intOf]
     ·have hs:(S.toList == [99,114,111,112])=false:=by
       rw[← eS];refine beq_no ?_
       show opW (i:Int) ≠ [99,114,111,112]
       intro e;have e1:=opOf_opW (i:Int) (by omega) (by omega);rw[e]at e1;have e2:opOf (⟨#[99,114,111,112]⟩:ByteArray).data.toList=2:=by decide +kernel
       rw[e2]at e1;omega
      clear eS hb hS hT
      go_wp2_with fail
      clear hxw
      go_region_held3 (fun W=>W.cell? ⟨b,off,none⟩=some (.string ⟨#[99,114,111,112]⟩))
       (first|exact KX.out _ K0|exact KX.out _ K0d|exact KX.out _ K5|fail)
       (first
        | (go_at_call 99;(with_reducible refine cmo (OP.out _) ?_);rintro e w5 ⟨rfl,hb5⟩;have K5:Below wo.heap.size wo w5:=(by first|exact K0d.trans hb5|exact K0.trans hb5))
        | fail)
      have HT5:=mh (HT.out.below K5);have HS5:=mh (HS.out.below K5);have HB5:=mh (bstep mle HB.out K5)
      go_wp2
      go_roundw
      case rel=>exact⟨i+1,by omega,by omega,by go_num,HB5.out,HS5.out,by
       have:(if 2<i+1 then (2:Int) else 0)=if 2<i then 2 else 0:=by
        by_cases h:2<i
        ·rw[if_pos h,if_pos (by omega)]
        ·rw[if_neg h,if_neg (by omega)]
       rw[this]
       exact HT5.out⟩
      case measure=>simp[intOf];omega
    ·obtain rfl:i=12:=by omega
     have hi3:¬((12:Nat):Int)≤11:=by omega
     rw[if_pos (by omega)]at HT;have HW:=mh (HQ.out.below (HB.out.mono mle));obtain⟨k0,k1,k2,k3,f0,f1,f2,f3,hl0⟩:=HS.out;obtain⟨t0,t1,t2,t3,e0,e1,e2,e3,hl1⟩:=HT.out;clear hb hS hT hi1 hi2 OPS
     by_cases h0:rs = []
     ·have h1:((rs.length:Int)==0)=true:=by rw[h0];rfl
      clear h0
      go_wp2
      have FIN:=mh (read_bad ⟨0,0,0,none,0,0⟩ none 0 0 HB.out);unfold put4 at FIN;exact bodyPost_ret (v := .tuple #[.agg #[I O 0,I O 0,I O 0,.slice none 0 0],.slice none 0 0,.bool false]) (by simp[results,Tryz.results83,go_sem,k0,k1,k2,k3]) rfl FIN.out
     have h1:((rs.length:Int)==0)=false:=beq_eq_false_iff_ne.2 (fun e=>h0 (List.length_eq_zero_iff.1 (by omega)));have h2:(0:Int)<(rs.length:Int):=by have:=List.length_pos_iff.2 h0;omega
     have h3:0<rs.length:=List.length_pos_iff.2 h0;obtain⟨b2,off2,q2,c2,rfl,hb2,hx2,hl2,hq2,hqb2,hsl2⟩:=HW.out.some h0;rw[EHD.out]at hx2;have HW2:=mh hq2
     have HQ2:=mh (fun a (e:q2=some a)=>show(ll rs.tail = []∨a.block=b) from .inr (by
      rw[hqb2 a e]
      exact(HQB.out _ rfl).resolve_left (fun e=>h0 (by rw[← bs_ll rs,e];rfl))))
     clear hq2 hqb2 h0
     go_wp2_with (go_at_call 84;(with_reducible refine cmo (NM.out _) ?_);rintro e w5 ⟨rfl,hb5⟩;clear k0 k1 k2 k3 f0 f1 f2 f3 t0 t1 t2 t3 e0 e1 e2 e3;have HS5:=mh (HS.out.below hb5);have HT5:=mh (HT.out.below hb5);have HB5:=mh (bstep mle HB.out hb5);have HW5:=mh (HW2.out.below hb5);obtain⟨k0,k1,k2,k3,f0,f1,f2,f3,hl5⟩:=HS5.out;obtain⟨t0,t1,t2,t3,e0,e1,e2,e3,hl6⟩:=HT5.out)
     have HBF:=mh (show Below w.heap.size w (w5.setCell ⟨w.heap.size+1,1,none⟩ (I O 0)) from HB5.out.setCell (Nat.le_succ _) _);have HWF:=mh (HW5.out.chg (B:=w.heap.size) (fun a e=>(HQ2.out a e).imp (fun h=>by rw[← bs_ll rs.tail,h];rfl) (fun h=>by rw[h];exact hbl)) (show Below w.heap.size w5 (w5.setCell ⟨w.heap.size+1,1,none⟩ (I O 0)) from(brf w.heap.size w5).setCell (Nat.le_succ _) _));have FIN:=mh (read_bad (w:=w) (W:=(w5.setCell ⟨w.heap.size+1,1,none⟩ (I O 0))) ⟨2,0,0,none,0,0⟩ q2 rs.tail.length c2 HBF.out);unfold put4 at FIN;exact bodyPost_ret (v := .tuple #[.agg #[I O 2,I O 0,I O 0,.slice none 0 0],.slice q2 rs.tail.length c2,.bool false]) (by simp[results,Tryz.results83,go_sem,k0,k1,k2,k3]) rfl FIN.out
 | some v =>
   show Calls _ _ _ _ (ReadGood b0 (.mk 2 v 0 []) (ll rs.tail) w)
   have NM:=mh (fun (W:World)=>show Calls Tryz.prog 84 #[.string hd,I O (-1125899906842624),I O 1125899906842624] W (fun e w' => e = .returned (.tuple #[I O v,.bool true])∧Below W.heap.size W w') from NM0.out W);obtain⟨b,off,q,c1,rfl,hbl,hx0,hle,hq,hqb,hsl⟩:=h.cons;obtain rfl:b=b0:=hpb _ rfl;clear hpb;have HQB:=mh (fun a (e:q=some a)=>show(ll rs = []∨a.block=b) from .inr (hqb a e));clear hqb;have HQ:=mh hq;have hp1:(0:Int)<((rs.length+1:Nat):Int):=by omega
   have hne0:((rs.length:Int)+1==0)=false:=beq_eq_false_iff_ne.2 (by omega);have hA0:Below w.heap.size w (w.alloc (.cells #[I O 0,I O 0,I O 0,.slice none 0 0] 28)):=(brf _ _).alloc mle _;have hA:Below w.heap.size w ((w.alloc (.cells #[I O 0,I O 0,I O 0,.slice none 0 0] 28)).alloc (.cells #[I O 0,I O 0,I O 0,.slice none 0 0] 28)):=hA0.alloc (by simp) _;have HS0:=mh ((Res4.new w 28).tb.below (W' := ((w.alloc (.cells #[I O 0,I O 0,I O 0,.slice none 0 0] 28)).alloc (.cells #[I O 0,I O 0,I O 0,.slice none 0 0] 28))) ((brf _ _).alloc mle _));have hT0:=(Res4.new (w.alloc (.cells #[I O 0,I O 0,I O 0,.slice none 0 0] 28)) 28).tb;rw[World.size_alloc]at hT0;have HT0:=mh hT0;have HA:=mh hA;have HXW:=mh hx0;have OPS:=mh (fun (i:Nat) (h1:1≤i) (h2:i≤11) (W:World)=>ops_any (i:Int) (by omega) (by omega) W);unfold StrGive at OPS;clear h hq hA0 hA hT0
   go_enter Tryz.func83,Tryz.ntmps83
   go_wp2
   go_loopw [6] (fun s6 wr=>∃i:Nat,1≤i∧i≤12∧s6=I O (i:Int)∧Below w.heap.size w wr∧TB w.heap.size wr (I O 0) (I O 0) (I O 0) (.slice none 0 0)∧TB (w.heap.size+1) wr (I O (if 2<i then 2 else 0)) (I O 0) (I O 0) (.slice none 0 0)) (fun s6 _=>12 - (intOf s6).toNat)
   case atStart=>exact⟨1,Nat.le_refl _,by omega,rfl,HA.out,HS0.out,by rw[if_neg (by omega)];exact HT0.out⟩
   case round =>
    clear HS0 HT0 HA;obtain⟨wo,rfl⟩:∃wo:World,wo=wr:=⟨_,rfl⟩;obtain⟨i,hi1,hi2,rfl,hb,hS,hT⟩:=hrel;have HB:=mh hb;have HS:=mh hS;have HT:=mh hT;have hsz:=hb.size
    by_cases hlt:i≤11
    ·have hlt1:(i:Int)≤11:=by omega
     have hxw:=(hb.cell (p:=⟨b,off,none⟩) hbl).trans HXW.out;have OP:=mh (fun W=>OPS.out i hi1 hlt W);obtain⟨S,eS⟩:∃S:ByteArray,(⟨(opW (i:Int)).toArray⟩:ByteArray)=S:=⟨_,rfl⟩;rw[eS]at OP;have KX:=mh (fun (W:World) (hW:Below wo.heap.size wo W)=>(hW.cell (p:=⟨b,off,none⟩) (by show b<wo.heap.size;omega)).trans hxw);have K0:=brf wo.heap.size wo;have K0d:=K0.drew
     by_cases hio:i=2
     ·subst hio
      have hs:(S.toList == [99,114,111,112])=true:=by rw[← eS];decide +kernel
      rw[if_neg (by omega)]at HT;clear eS hb hS hT hi1 hi2
      go_wp2_with fail
      clear hxw
      go_region_held3 (fun W=>W.cell? ⟨b,off,none⟩=some (.string ⟨#[99,114,111,112]⟩))
       (first|exact KX.out _ K0|exact KX.out _ K0d|exact KX.out _ K5|fail)
       (first
        | (go_at_call 99;(with_reducible refine cmo (OP.out _) ?_);rintro e w5 ⟨rfl,hb5⟩;have K5:Below wo.heap.size wo w5:=(by first|exact K0d.trans hb5|exact K0.trans hb5))
        | fail)
      have HT5:=mh (HT.out.below K5);have HS5:=mh (HS.out.below K5);have HB5:=mh (bstep mle HB.out K5);obtain⟨k0, -, -, -,f0, -, -, -,hl0⟩:=HT5.out
      go_wp2
      go_roundw
      case rel=>exact⟨2+1,by omega,by omega,by go_num,HB5.out.setCell (Nat.le_succ _) _,HS5.out.far (by omega) _,by rw[if_pos (by omega)];exact HT5.out.set0 _⟩
      case measure=>simp[intOf]
     ·have hs:(S.toList == [99,114,111,112])=false:=by
       rw[← eS];refine beq_no ?_
       show opW (i:Int) ≠ [99,114,111,112]
       intro e;have e1:=opOf_opW (i:Int) (by omega) (by omega);rw[e]at e1;have e2:opOf (⟨#[99,114,111,112]⟩:ByteArray).data.toList=2:=by decide +kernel
       rw[e2]at e1;omega
      clear eS hb hS hT
      go_wp2_with fail
      clear hxw
      go_region_held3 (fun W=>W.cell? ⟨b,off,none⟩=some (.string ⟨#[99,114,111,112]⟩))
       (first|exact KX.out _ K0|exact KX.out _ K0d|exact KX.out _ K5|fail)
       (first
        | (go_at_call 99;(with_reducible refine cmo (OP.out _) ?_);rintro e w5 ⟨rfl,hb5⟩;have K5:Below wo.heap.size wo w5:=(by first|exact K0d.trans hb5|exact K0.trans hb5))
        | fail)
      have HT5:=mh (HT.out.below K5);have HS5:=mh (HS.out.below K5);have HB5:=mh (bstep mle HB.out K5)
      go_wp2
      go_roundw
      case rel=>exact⟨i+1,by omega,by omega,by go_num,HB5.out,HS5.out,by
       have:(if 2<i+1 then (2:Int) else 0)=if 2<i then 2 else 0:=by
        by_cases h:2<i
        ·rw[if_pos h,if_pos (by omega)]
        ·rw[if_neg h,if_neg (by omega)]
       rw[this]
       exact HT5.out⟩
      case measure=>simp[intOf];omega
    ·obtain rfl:i=12:=by omega
     have hi3:¬((12:Nat):Int)≤11:=by omega
     rw[if_pos (by omega)]at HT;have HW:=mh (HQ.out.below (HB.out.mono mle));obtain⟨k0,k1,k2,k3,f0,f1,f2,f3,hl0⟩:=HS.out;obtain⟨t0,t1,t2,t3,e0,e1,e2,e3,hl1⟩:=HT.out;clear hb hS hT hi1 hi2 OPS
     by_cases h0:rs = []
     ·exact absurd (HNIL.out h0) (by simp)
     have h1:((rs.length:Int)==0)=false:=beq_eq_false_iff_ne.2 (fun e=>h0 (List.length_eq_zero_iff.1 (by omega)));have h2:(0:Int)<(rs.length:Int):=by have:=List.length_pos_iff.2 h0;omega
     have h3:0<rs.length:=List.length_pos_iff.2 h0;obtain⟨b2,off2,q2,c2,rfl,hb2,hx2,hl2,hq2,hqb2,hsl2⟩:=HW.out.some h0;rw[EHD.out]at hx2;have HW2:=mh hq2
     have HQ2:=mh (fun a (e:q2=some a)=>show(ll rs.tail = []∨a.block=b) from .inr (by
      rw[hqb2 a e]
      exact(HQB.out _ rfl).resolve_left (fun e=>h0 (by rw[← bs_ll rs,e];rfl))))
     clear hq2 hqb2 h0
     go_wp2_with (go_at_call 84;(with_reducible refine cmo (NM.out _) ?_);rintro e w5 ⟨rfl,hb5⟩;clear k0 k1 k2 k3 f0 f1 f2 f3 t0 t1 t2 t3 e0 e1 e2 e3;have HS5:=mh (HS.out.below hb5);have HT5:=mh (HT.out.below hb5);have HB5:=mh (bstep mle HB.out hb5);have HW5:=mh (HW2.out.below hb5);obtain⟨k0,k1,k2,k3,f0,f1,f2,f3,hl5⟩:=HS5.out;obtain⟨t0,t1,t2,t3,e0,e1,e2,e3,hl6⟩:=HT5.out)
     have HBF:=mh (show Below w.heap.size w (w5.setCell ⟨w.heap.size+1,1,none⟩ (I O v)) from HB5.out.setCell (Nat.le_succ _) _);have HWF:=mh (HW5.out.chg (B:=w.heap.size) (fun a e=>(HQ2.out a e).imp (fun h=>by rw[← bs_ll rs.tail,h];rfl) (fun h=>by rw[h];exact hbl)) (show Below w.heap.size w5 (w5.setCell ⟨w.heap.size+1,1,none⟩ (I O v)) from(brf w.heap.size w5).setCell (Nat.le_succ _) _));have FIN:=mh (by have:=read_good (w:=w) (W:=(w5.setCell ⟨w.heap.size+1,1,none⟩ (I O v))) (t := .mk 2 v 0 []) (r:=ll rs.tail) (row:=⟨2,v,0,none,0,0⟩) HBF.out hbl (by rw[bs_ll];exact HWF.out) HQ2.out (TV.leaf _ _ 2 v 0);rw[ll_len]at this;exact this);unfold put4 at FIN;exact bodyPost_ret (v := .tuple #[.agg #[I O 2,I O v,I O 0,.slice none 0 0],.slice q2 rs.tail.length c2,.bool true]) (by simp[results,Tryz.results83,go_sem,k0,k1,k2,k3]) rfl FIN.out
theorem read_op3 {f:Nat}(x:ByteArray)(rs:List ByteArray)(p:Option Addr)(c:Nat)(w:World)(b0:Nat)(h:WSl w p c (x::rs))(hpb:∀a,p=some a→a.block=b0)(hwd:∀y∈rs,y.size≤16384)(hlen:rs.length+1≤1000000)(eo:opOf x.data.toList=3):Calls Tryz.prog 83 #[.slice p (rs.length+1) c] w (ReadG b0 (readT (f+1) (ll (x::rs))) w):=by
 rw[readT_num (f:=f) (rs:=rs) 3 eo (by decide)];obtain rfl:x=⟨#[102,97,109,105,108,121]⟩:=ba_word (opOf_word eo (by decide));clear eo;have hsz:(hdW rs).size≤9223372036854775807:=by
  cases rs with
  | nil=>show 0≤_;omega
  | cons y r=>have:=hwd y List.mem_cons_self;show y.size≤_;omega
 have HNIL:=mh (show rs = []→numM (hdW rs).data.toList=none from fun e=>by rw[e];exact numM_nil);obtain⟨hv,hvb⟩:=numM_val (hdW rs).data.toList
 have NM0:=mh (fun (W:World)=>show Calls Tryz.prog 84 #[.string (hdW rs),I O (-1125899906842624),I O 1125899906842624] W (fun e w' => e = .returned (.tuple #[I O ((numM (hdW rs).data.toList).getD 0),.bool (numM (hdW rs).data.toList).isSome])∧Below W.heap.size W w') by
  have:=refnumber_any (hdW rs) (-1125899906842624) 1125899906842624 W hsz;unfold NumGive at this;rw[hv,hvb]at this
  exact this)
 obtain⟨hd,ehd⟩:∃hd,hdW rs=hd:=⟨_,rfl⟩;rw[ehd]at HNIL NM0 ⊢;obtain⟨nv,env⟩:∃nv,numM hd.data.toList=nv:=⟨_,rfl⟩;rw[env]at HNIL NM0 ⊢;have EHD:=mh ehd;clear hv hvb hsz hwd ehd env
 cases nv with
 | none =>
   show Calls _ _ _ _ (ReadBad w)
   have NM:=mh (fun (W:World)=>show Calls Tryz.prog 84 #[.string hd,I O (-1125899906842624),I O 1125899906842624] W (fun e w' => e = .returned (.tuple #[I O 0,.bool false])∧Below W.heap.size W w') from NM0.out W);obtain⟨b,off,q,c1,rfl,hbl,hx0,hle,hq,hqb,hsl⟩:=h.cons;obtain rfl:b=b0:=hpb _ rfl;clear hpb;have HQB:=mh (fun a (e:q=some a)=>show(ll rs = []∨a.block=b) from .inr (hqb a e));clear hqb;have HQ:=mh hq;have hp1:(0:Int)<((rs.length+1:Nat):Int):=by omega
   have hne0:((rs.length:Int)+1==0)=false:=beq_eq_false_iff_ne.2 (by omega);have hA0:Below w.heap.size w (w.alloc (.cells #[I O 0,I O 0,I O 0,.slice none 0 0] 28)):=(brf _ _).alloc mle _;have hA:Below w.heap.size w ((w.alloc (.cells #[I O 0,I O 0,I O 0,.slice none 0 0] 28)).alloc (.cells #[I O 0,I O 0,I O 0,.slice none 0 0] 28)):=hA0.alloc (by simp) _;have HS0:=mh ((Res4.new w 28).tb.below (W' := ((w.alloc (.cells #[I O 0,I O 0,I O 0,.slice none 0 0] 28)).alloc (.cells #[I O 0,I O 0,I O 0,.slice none 0 0] 28))) ((brf _ _).alloc mle _));have hT0:=(Res4.new (w.alloc (.cells #[I O 0,I O 0,I O 0,.slice none 0 0] 28)) 28).tb;rw[World.size_alloc]at hT0;have HT0:=mh hT0;have HA:=mh hA;have HXW:=mh hx0;have OPS:=mh (fun (i:Nat) (h1:1≤i) (h2:i≤11) (W:World)=>ops_any (i:Int) (by omega) (by omega) W);unfold StrGive at OPS;clear h hq hA0 hA hT0
   go_enter Tryz.func83,Tryz.ntmps83
   go_wp2
   go_loopw [6] (fun s6 wr=>∃i:Nat,1≤i∧i≤12∧s6=I O (i:Int)∧Below w.heap.size w wr∧TB w.heap.size wr (I O 0) (I O 0) (I O 0) (.slice none 0 0)∧TB (w.heap.size+1) wr (I O (if 3<i then 3 else 0)) (I O 0) (I O 0) (.slice none 0 0)) (fun s6 _=>12 - (intOf s6).toNat)
   case atStart=>exact⟨1,Nat.le_refl _,by omega,rfl,HA.out,HS0.out,by rw[if_neg (by omega)];exact HT0.out⟩
   case round =>
    clear HS0 HT0 HA;obtain⟨wo,rfl⟩:∃wo:World,wo=wr:=⟨_,rfl⟩;obtain⟨i,hi1,hi2,rfl,hb,hS,hT⟩:=hrel;have HB:=mh hb;have HS:=mh hS;have HT:=mh hT;have hsz:=hb.size
    by_cases hlt:i≤11
    ·have hlt1:(i:Int)≤11:=by omega
     have hxw:=(hb.cell (p:=⟨b,off,none⟩) hbl).trans HXW.out;have OP:=mh (fun W=>OPS.out i hi1 hlt W);obtain⟨S,eS⟩:∃S:ByteArray,(⟨(opW (i:Int)).toArray⟩:ByteArray)=S:=⟨_,rfl⟩;rw[eS]at OP;have KX:=mh (fun (W:World) (hW:Below wo.heap.size wo W)=>(hW.cell (p:=⟨b,off,none⟩) (by show b<wo.heap.size;omega)).trans hxw);have K0:=brf wo.heap.size wo;have K0d:=K0.drew
     by_cases hio:i=3
     ·subst hio
      have hs:(S.toList == [102,97,109,105,108,121])=true:=by rw[← eS];decide +kernel
      rw[if_neg (by omega)]at HT;clear eS hb hS hT hi1 hi2
      go_wp2_with fail
      clear hxw
      go_region_held3 (fun W=>W.cell? ⟨b,off,none⟩=some (.string ⟨#[102,97,109,105,108,121]⟩))
       (first|exact KX.out _ K0|exact KX.out _ K0d|exact KX.out _ K5|fail)
       (first
        | (go_at_call 99;(with_reducible refine cmo (OP.out _) ?_);rintro e w5 ⟨rfl,hb5⟩;have K5:Below wo.heap.size wo w5:=(by first|exact K0d.trans hb5|exact K0.trans hb5))
        | fail)
      have HT5:=mh (HT.out.below K5);have HS5:=mh (HS.out.below K5);have HB5:=mh (bstep mle HB.out K5);obtain⟨k0, -, -, -,f0, -, -, -,hl0⟩:=HT5.out
      go_wp2
      go_roundw
      case rel=>exact⟨3+1,by omega,by omega,by go_num,HB5.out.setCell (Nat.le_succ _) _,HS5.out.far (by omega) _,by rw[if_pos (by omega)];exact HT5.out.set0 _⟩
      case measure=>simp[intOf]
     ·have hs:(S.toList == [102,97,109,105,108,121])=false:=by
       rw[← eS];refine beq_no ?_
       show opW (i:Int) ≠ [102,97,109,105,108,121]
       intro e;have e1:=opOf_opW (i:Int) (by omega) (by omega);rw[e]at e1;have e2:opOf (⟨#[102,97,109,105,108,121]⟩:ByteArray).data.toList=3:=by decide +kernel
       rw[e2]at e1;omega
      clear eS hb hS hT
      go_wp2_with fail
      clear hxw
      go_region_held3 (fun W=>W.cell? ⟨b,off,none⟩=some (.string ⟨#[102,97,109,105,108,121]⟩))
       (first|exact KX.out _ K0|exact KX.out _ K0d|exact KX.out _ K5|fail)
       (first
        | (go_at_call 99;(with_reducible refine cmo (OP.out _) ?_);rintro e w5 ⟨rfl,hb5⟩;have K5:Below wo.heap.size wo w5:=(by first|exact K0d.trans hb5|exact K0.trans hb5))
        | fail)
      have HT5:=mh (HT.out.below K5);have HS5:=mh (HS.out.below K5);have HB5:=mh (bstep mle HB.out K5)
      go_wp2
      go_roundw
      case rel=>exact⟨i+1,by omega,by omega,by go_num,HB5.out,HS5.out,by
       have:(if 3<i+1 then (3:Int) else 0)=if 3<i then 3 else 0:=by
        by_cases h:3<i
        ·rw[if_pos h,if_pos (by omega)]
        ·rw[if_neg h,if_neg (by omega)]
       rw[this]
       exact HT5.out⟩
      case measure=>simp[intOf];omega
    ·obtain rfl:i=12:=by omega
     have hi3:¬((12:Nat):Int)≤11:=by omega
     rw[if_pos (by omega)]at HT;have HW:=mh (HQ.out.below (HB.out.mono mle));obtain⟨k0,k1,k2,k3,f0,f1,f2,f3,hl0⟩:=HS.out;obtain⟨t0,t1,t2,t3,e0,e1,e2,e3,hl1⟩:=HT.out;clear hb hS hT hi1 hi2 OPS
     by_cases h0:rs = []
     ·have h1:((rs.length:Int)==0)=true:=by rw[h0];rfl
      clear h0
      go_wp2
      have FIN:=mh (read_bad ⟨0,0,0,none,0,0⟩ none 0 0 HB.out);unfold put4 at FIN;exact bodyPost_ret (v := .tuple #[.agg #[I O 0,I O 0,I O 0,.slice none 0 0],.slice none 0 0,.bool false]) (by simp[results,Tryz.results83,go_sem,k0,k1,k2,k3]) rfl FIN.out
     have h1:((rs.length:Int)==0)=false:=beq_eq_false_iff_ne.2 (fun e=>h0 (List.length_eq_zero_iff.1 (by omega)));have h2:(0:Int)<(rs.length:Int):=by have:=List.length_pos_iff.2 h0;omega
     have h3:0<rs.length:=List.length_pos_iff.2 h0;obtain⟨b2,off2,q2,c2,rfl,hb2,hx2,hl2,hq2,hqb2,hsl2⟩:=HW.out.some h0;rw[EHD.out]at hx2;have HW2:=mh hq2
     have HQ2:=mh (fun a (e:q2=some a)=>show(ll rs.tail = []∨a.block=b) from .inr (by
      rw[hqb2 a e]
      exact(HQB.out _ rfl).resolve_left (fun e=>h0 (by rw[← bs_ll rs,e];rfl))))
     clear hq2 hqb2 h0
     go_wp2_with (go_at_call 84;(with_reducible refine cmo (NM.out _) ?_);rintro e w5 ⟨rfl,hb5⟩;clear k0 k1 k2 k3 f0 f1 f2 f3 t0 t1 t2 t3 e0 e1 e2 e3;have HS5:=mh (HS.out.below hb5);have HT5:=mh (HT.out.below hb5);have HB5:=mh (bstep mle HB.out hb5);have HW5:=mh (HW2.out.below hb5);obtain⟨k0,k1,k2,k3,f0,f1,f2,f3,hl5⟩:=HS5.out;obtain⟨t0,t1,t2,t3,e0,e1,e2,e3,hl6⟩:=HT5.out)
     have HBF:=mh (show Below w.heap.size w (w5.setCell ⟨w.heap.size+1,1,none⟩ (I O 0)) from HB5.out.setCell (Nat.le_succ _) _);have HWF:=mh (HW5.out.chg (B:=w.heap.size) (fun a e=>(HQ2.out a e).imp (fun h=>by rw[← bs_ll rs.tail,h];rfl) (fun h=>by rw[h];exact hbl)) (show Below w.heap.size w5 (w5.setCell ⟨w.heap.size+1,1,none⟩ (I O 0)) from(brf w.heap.size w5).setCell (Nat.le_succ _) _));have FIN:=mh (read_bad (w:=w) (W:=(w5.setCell ⟨w.heap.size+1,1,none⟩ (I O 0))) ⟨3,0,0,none,0,0⟩ q2 rs.tail.length c2 HBF.out);unfold put4 at FIN;exact bodyPost_ret (v := .tuple #[.agg #[I O 3,I O 0,I O 0,.slice none 0 0],.slice q2 rs.tail.length c2,.bool false]) (by simp[results,Tryz.results83,go_sem,k0,k1,k2,k3]) rfl FIN.out
 | some v =>
   show Calls _ _ _ _ (ReadGood b0 (.mk 3 v 0 []) (ll rs.tail) w)
   have NM:=mh (fun (W:World)=>show Calls Tryz.prog 84 #[.string hd,I O (-1125899906842624),I O 1125899906842624] W (fun e w' => e = .returned (.tuple #[I O v,.bool true])∧Below W.heap.size W w') from NM0.out W);obtain⟨b,off,q,c1,rfl,hbl,hx0,hle,hq,hqb,hsl⟩:=h.cons;obtain rfl:b=b0:=hpb _ rfl;clear hpb;have HQB:=mh (fun a (e:q=some a)=>show(ll rs = []∨a.block=b) from .inr (hqb a e));clear hqb;have HQ:=mh hq;have hp1:(0:Int)<((rs.length+1:Nat):Int):=by omega
   have hne0:((rs.length:Int)+1==0)=false:=beq_eq_false_iff_ne.2 (by omega);have hA0:Below w.heap.size w (w.alloc (.cells #[I O 0,I O 0,I O 0,.slice none 0 0] 28)):=(brf _ _).alloc mle _;have hA:Below w.heap.size w ((w.alloc (.cells #[I O 0,I O 0,I O 0,.slice none 0 0] 28)).alloc (.cells #[I O 0,I O 0,I O 0,.slice none 0 0] 28)):=hA0.alloc (by simp) _;have HS0:=mh ((Res4.new w 28).tb.below (W' := ((w.alloc (.cells #[I O 0,I O 0,I O 0,.slice none 0 0] 28)).alloc (.cells #[I O 0,I O 0,I O 0,.slice none 0 0] 28))) ((brf _ _).alloc mle _));have hT0:=(Res4.new (w.alloc (.cells #[I O 0,I O 0,I O 0,.slice none 0 0] 28)) 28).tb;rw[World.size_alloc]at hT0;have HT0:=mh hT0;have HA:=mh hA;have HXW:=mh hx0;have OPS:=mh (fun (i:Nat) (h1:1≤i) (h2:i≤11) (W:World)=>ops_any (i:Int) (by omega) (by omega) W);unfold StrGive at OPS;clear h hq hA0 hA hT0
   go_enter Tryz.func83,Tryz.ntmps83
   go_wp2
   go_loopw [6] (fun s6 wr=>∃i:Nat,1≤i∧i≤12∧s6=I O (i:Int)∧Below w.heap.size w wr∧TB w.heap.size wr (I O 0) (I O 0) (I O 0) (.slice none 0 0)∧TB (w.heap.size+1) wr (I O (if 3<i then 3 else 0)) (I O 0) (I O 0) (.slice none 0 0)) (fun s6 _=>12 - (intOf s6).toNat)
   case atStart=>exact⟨1,Nat.le_refl _,by omega,rfl,HA.out,HS0.out,by rw[if_neg (by omega)];exact HT0.out⟩
   case round =>
    clear HS0 HT0 HA;obtain⟨wo,rfl⟩:∃wo:World,wo=wr:=⟨_,rfl⟩;obtain⟨i,hi1,hi2,rfl,hb,hS,hT⟩:=hrel;have HB:=mh hb;have HS:=mh hS;have HT:=mh hT;have hsz:=hb.size
    by_cases hlt:i≤11
    ·have hlt1:(i:Int)≤11:=by omega
     have hxw:=(hb.cell (p:=⟨b,off,none⟩) hbl).trans HXW.out;have OP:=mh (fun W=>OPS.out i hi1 hlt W);obtain⟨S,eS⟩:∃S:ByteArray,(⟨(opW (i:Int)).toArray⟩:ByteArray)=S:=⟨_,rfl⟩;rw[eS]at OP;have KX:=mh (fun (W:World) (hW:Below wo.heap.size wo W)=>(hW.cell (p:=⟨b,off,none⟩) (by show b<wo.heap.size;omega)).trans hxw);have K0:=brf wo.heap.size wo;have K0d:=K0.drew
     by_cases hio:i=3
     ·subst hio
      have hs:(S.toList == [102,97,109,105,108,121])=true:=by rw[← eS];decide +kernel
      rw[if_neg (by omega)]at HT;clear eS hb hS hT hi1 hi2
      go_wp2_with fail
      clear hxw
      go_region_held3 (fun W=>W.cell? ⟨b,off,none⟩=some (.string ⟨#[102,97,109,105,108,121]⟩))
       (first|exact KX.out _ K0|exact KX.out _ K0d|exact KX.out _ K5|fail)
       (first
        | (go_at_call 99;(with_reducible refine cmo (OP.out _) ?_);rintro e w5 ⟨rfl,hb5⟩;have K5:Below wo.heap.size wo w5:=(by first|exact K0d.trans hb5|exact K0.trans hb5))
        | fail)
      have HT5:=mh (HT.out.below K5);have HS5:=mh (HS.out.below K5);have HB5:=mh (bstep mle HB.out K5);obtain⟨k0, -, -, -,f0, -, -, -,hl0⟩:=HT5.out
      go_wp2
      go_roundw
      case rel=>exact⟨3+1,by omega,by omega,by go_num,HB5.out.setCell (Nat.le_succ _) _,HS5.out.far (by omega) _,by rw[if_pos (by omega)];exact HT5.out.set0 _⟩
      case measure=>simp[intOf]
     ·have hs:(S.toList == [102,97,109,105,108,121])=false:=by
       rw[← eS];refine beq_no ?_
       show opW (i:Int) ≠ [102,97,109,105,108,121]
       intro e;have e1:=opOf_opW (i:Int) (by omega) (by omega);rw[e]at e1;have e2:opOf (⟨#[102,97,109,105,108,121]⟩:ByteArray).data.toList=3:=by decide +kernel
       rw[e2]at e1;omega
      clear eS hb hS hT
      go_wp2_with fail
      clear hxw
      go_region_held3 (fun W=>W.cell? ⟨b,off,none⟩=some (.string ⟨#[102,97,109,105,108,121]⟩))
       (first|exact KX.out _ K0|exact KX.out _ K0d|exact KX.out _ K5|fail)
       (first
        | (go_at_call 99;(with_reducible refine cmo (OP.out _) ?_);rintro e w5 ⟨rfl,hb5⟩;have K5:Below wo.heap.size wo w5:=(by first|exact K0d.trans hb5|exact K0.trans hb5))
        | fail)
      have HT5:=mh (HT.out.below K5);have HS5:=mh (HS.out.below K5);have HB5:=mh (bstep mle HB.out K5)
      go_wp2
      go_roundw
      case rel=>exact⟨i+1,by omega,by omega,by go_num,HB5.out,HS5.out,by
       have:(if 3<i+1 then (3:Int) else 0)=if 3<i then 3 else 0:=by
        by_cases h:3<i
        ·rw[if_pos h,if_pos (by omega)]
        ·rw[if_neg h,if_neg (by omega)]
       rw[this]
       exact HT5.out⟩
      case measure=>simp[intOf];omega
    ·obtain rfl:i=12:=by omega
     have hi3:¬((12:Nat):Int)≤11:=by omega
     rw[if_pos (by omega)]at HT;have HW:=mh (HQ.out.below (HB.out.mono mle));obtain⟨k0,k1,k2,k3,f0,f1,f2,f3,hl0⟩:=HS.out;obtain⟨t0,t1,t2,t3,e0,e1,e2,e3,hl1⟩:=HT.out;clear hb hS hT hi1 hi2 OPS
     by_cases h0:rs = []
     ·exact absurd (HNIL.out h0) (by simp)
     have h1:((rs.length:Int)==0)=false:=beq_eq_false_iff_ne.2 (fun e=>h0 (List.length_eq_zero_iff.1 (by omega)));have h2:(0:Int)<(rs.length:Int):=by have:=List.length_pos_iff.2 h0;omega
     have h3:0<rs.length:=List.length_pos_iff.2 h0;obtain⟨b2,off2,q2,c2,rfl,hb2,hx2,hl2,hq2,hqb2,hsl2⟩:=HW.out.some h0;rw[EHD.out]at hx2;have HW2:=mh hq2
     have HQ2:=mh (fun a (e:q2=some a)=>show(ll rs.tail = []∨a.block=b) from .inr (by
      rw[hqb2 a e]
      exact(HQB.out _ rfl).resolve_left (fun e=>h0 (by rw[← bs_ll rs,e];rfl))))
     clear hq2 hqb2 h0
     go_wp2_with (go_at_call 84;(with_reducible refine cmo (NM.out _) ?_);rintro e w5 ⟨rfl,hb5⟩;clear k0 k1 k2 k3 f0 f1 f2 f3 t0 t1 t2 t3 e0 e1 e2 e3;have HS5:=mh (HS.out.below hb5);have HT5:=mh (HT.out.below hb5);have HB5:=mh (bstep mle HB.out hb5);have HW5:=mh (HW2.out.below hb5);obtain⟨k0,k1,k2,k3,f0,f1,f2,f3,hl5⟩:=HS5.out;obtain⟨t0,t1,t2,t3,e0,e1,e2,e3,hl6⟩:=HT5.out)
     have HBF:=mh (show Below w.heap.size w (w5.setCell ⟨w.heap.size+1,1,none⟩ (I O v)) from HB5.out.setCell (Nat.le_succ _) _);have HWF:=mh (HW5.out.chg (B:=w.heap.size) (fun a e=>(HQ2.out a e).imp (fun h=>by rw[← bs_ll rs.tail,h];rfl) (fun h=>by rw[h];exact hbl)) (show Below w.heap.size w5 (w5.setCell ⟨w.heap.size+1,1,none⟩ (I O v)) from(brf w.heap.size w5).setCell (Nat.le_succ _) _));have FIN:=mh (by have:=read_good (w:=w) (W:=(w5.setCell ⟨w.heap.size+1,1,none⟩ (I O v))) (t := .mk 3 v 0 []) (r:=ll rs.tail) (row:=⟨3,v,0,none,0,0⟩) HBF.out hbl (by rw[bs_ll];exact HWF.out) HQ2.out (TV.leaf _ _ 3 v 0);rw[ll_len]at this;exact this);unfold put4 at FIN;exact bodyPost_ret (v := .tuple #[.agg #[I O 3,I O v,I O 0,.slice none 0 0],.slice q2 rs.tail.length c2,.bool true]) (by simp[results,Tryz.results83,go_sem,k0,k1,k2,k3]) rfl FIN.out
end Go.Proofs.YtbcmabolkkfgfaaGreatDoor
