/- Packed. -/
import Derived.Test.YtbcmabolkkfgfaaGreatDoorQ12
set_option maxRecDepth 100000
set_option maxHeartbeats 16000000
open Go.Value renaming int → I
open Go.IntKind renaming i64 → O
namespace Go.Proofs.YtbcmabolkkfgfaaGreatDoor
open Go.RowKit Te
theorem read_op4 {f:Nat}(x:ByteArray)(rs:List ByteArray)(p:Option Addr)(c:Nat)(w:World)(b0:Nat)(h:WSl w p c (x::rs))(hpb:∀a,p=some a→a.block=b0)(hlen:rs.length+1≤1000000)(eo:opOf x.data.toList=4):Calls Tryz.prog 83 #[.slice p (rs.length+1) c] w (ReadG b0 (readT (f+1) (ll (x::rs))) w):=by
 rw[readT_mark (f:=f) (rs:=rs) eo];obtain rfl:x=⟨#[109,97,114,107]⟩:=ba_word (opOf_word eo (by decide));clear eo;have HNIL:=mh (show rs = []→letter (hdW rs).data.toList=none from fun e=>by rw[e];exact letter_nil);have LT:=mh (fun (W:World)=>refletter_any (hdW rs) W);unfold LetG at LT;obtain⟨hd,ehd⟩:∃hd,hdW rs=hd:=⟨_,rfl⟩;rw[ehd]at HNIL LT ⊢;obtain⟨nv,env⟩:∃nv,letter hd.data.toList=nv:=⟨_,rfl⟩;rw[env]at HNIL LT ⊢;have EHD:=mh ehd;clear ehd env
 cases nv with
 | none =>
   show Calls _ _ _ _ (ReadBad w)
   obtain⟨b,off,q,c1,rfl,hbl,hx0,hle,hq,hqb,hsl⟩:=h.cons;obtain rfl:b=b0:=hpb _ rfl;clear hpb;have HQB:=mh (fun a (e:q=some a)=>show(ll rs = []∨a.block=b) from .inr (hqb a e));clear hqb;have HQ:=mh hq;have hp1:(0:Int)<((rs.length+1:Nat):Int):=by omega
   have hne0:((rs.length:Int)+1==0)=false:=beq_eq_false_iff_ne.2 (by omega);have hA0:Below w.heap.size w (w.alloc (.cells #[I O 0,I O 0,I O 0,.slice none 0 0] 28)):=(brf _ _).alloc mle _;have hA:Below w.heap.size w ((w.alloc (.cells #[I O 0,I O 0,I O 0,.slice none 0 0] 28)).alloc (.cells #[I O 0,I O 0,I O 0,.slice none 0 0] 28)):=hA0.alloc (by simp) _;have HS0:=mh ((Res4.new w 28).tb.below (W' := ((w.alloc (.cells #[I O 0,I O 0,I O 0,.slice none 0 0] 28)).alloc (.cells #[I O 0,I O 0,I O 0,.slice none 0 0] 28))) ((brf _ _).alloc mle _));have hT0:=(Res4.new (w.alloc (.cells #[I O 0,I O 0,I O 0,.slice none 0 0] 28)) 28).tb;rw[World.size_alloc]at hT0;have HT0:=mh hT0;have HA:=mh hA;have HXW:=mh hx0;have OPS:=mh (fun (i:Nat) (h1:1≤i) (h2:i≤11) (W:World)=>ops_any (i:Int) (by omega) (by omega) W);unfold StrGive at OPS;clear h hq hA0 hA hT0
   go_enter Tryz.func83,Tryz.ntmps83
   go_wp2
   go_loopw [6] (fun s6 wr=>∃i:Nat,1≤i∧i≤12∧s6=I O (i:Int)∧Below w.heap.size w wr∧TB w.heap.size wr (I O 0) (I O 0) (I O 0) (.slice none 0 0)∧TB (w.heap.size+1) wr (I O (if 4<i then 4 else 0)) (I O 0) (I O 0) (.slice none 0 0)) (fun s6 _=>12 - (intOf s6).toNat)
   case atStart=>exact⟨1,Nat.le_refl _,by omega,rfl,HA.out,HS0.out,by rw[if_neg (by omega)];exact HT0.out⟩
   case round =>
    clear HS0 HT0 HA;obtain⟨wo,rfl⟩:∃wo:World,wo=wr:=⟨_,rfl⟩;obtain⟨i,hi1,hi2,rfl,hb,hS,hT⟩:=hrel;have HB:=mh hb;have HS:=mh hS;have HT:=mh hT;have hsz:=hb.size
    by_cases hlt:i≤11
    ·have hlt1:(i:Int)≤11:=by omega
     have hxw:=(hb.cell (p:=⟨b,off,none⟩) hbl).trans HXW.out;have OP:=mh (fun W=>OPS.out i hi1 hlt W);obtain⟨S,eS⟩:∃S:ByteArray,(⟨(opW (i:Int)).toArray⟩:ByteArray)=S:=⟨_,rfl⟩;rw[eS]at OP;have KX:=mh (fun (W:World) (hW:Below wo.heap.size wo W)=>(hW.cell (p:=⟨b,off,none⟩) (by show b<wo.heap.size;omega)).trans hxw);have K0:=brf wo.heap.size wo;have K0d:=K0.drew
     by_cases hio:i=4
     ·subst hio
      have hs:(S.toList == [109,97,114,107])=true:=by rw[← eS];decide +kernel
      rw[if_neg (by omega)]at HT;clear eS hb hS hT hi1 hi2
      go_wp2_with fail
      clear hxw
      go_region_held3 (fun W=>W.cell? ⟨b,off,none⟩=some (.string ⟨#[109,97,114,107]⟩))
       (first|exact KX.out _ K0|exact KX.out _ K0d|exact KX.out _ K5|fail)
       (first
        | (go_at_call 99;(with_reducible refine cmo (OP.out _) ?_);rintro e w5 ⟨rfl,hb5⟩;have K5:Below wo.heap.size wo w5:=(by first|exact K0d.trans hb5|exact K0.trans hb5))
        | fail)
      have HT5:=mh (HT.out.below K5);have HS5:=mh (HS.out.below K5);have HB5:=mh (bstep mle HB.out K5);obtain⟨k0, -, -, -,f0, -, -, -,hl0⟩:=HT5.out
      go_wp2
      go_roundw
      case rel=>exact⟨4+1,by omega,by omega,by go_num,HB5.out.setCell (Nat.le_succ _) _,HS5.out.far (by omega) _,by rw[if_pos (by omega)];exact HT5.out.set0 _⟩
      case measure=>simp[intOf]
     ·have hs:(S.toList == [109,97,114,107])=false:=by
       rw[← eS];refine beq_no ?_
       show opW (i:Int) ≠ [109,97,114,107]
       intro e;have e1:=opOf_opW (i:Int) (by omega) (by omega);rw[e]at e1;have e2:opOf (⟨#[109,97,114,107]⟩:ByteArray).data.toList=4:=by decide +kernel
       rw[e2]at e1;omega
      clear eS hb hS hT
      go_wp2_with fail
      clear hxw
      go_region_held3 (fun W=>W.cell? ⟨b,off,none⟩=some (.string ⟨#[109,97,114,107]⟩))
       (first|exact KX.out _ K0|exact KX.out _ K0d|exact KX.out _ K5|fail)
       (first
        | (go_at_call 99;(with_reducible refine cmo (OP.out _) ?_);rintro e w5 ⟨rfl,hb5⟩;have K5:Below wo.heap.size wo w5:=(by first|exact K0d.trans hb5|exact K0.trans hb5))
        | fail)
      have HT5:=mh (HT.out.below K5);have HS5:=mh (HS.out.below K5);have HB5:=mh (bstep mle HB.out K5)
      go_wp2
      go_roundw
      case rel=>exact⟨i+1,by omega,by omega,by go_num,HB5.out,HS5.out,by
       have:(if 4<i+1 then (4:Int) else 0)=if 4<i then 4 else 0:=by
        by_cases h:4<i
        ·rw[if_pos h,if_pos (by omega)]
        ·rw[if_neg h,if_neg (by omega)]
       rw[this]
       exact HT5.out⟩
      case measure=>simp[intOf];omega
    ·obtain rfl:i=12:=by omega
     have hi3:¬((12:Nat):Int)≤11:=by omega
     rw[if_pos (by omega)]at HT;have HW:=mh (HQ.out.below (HB.out.mono mle));obtain⟨k0,k1,k2,k3,f0,f1,f2,f3,hl0⟩:=HS.out;obtain⟨t0,t1,t2,t3,e0,e1,e2,e3,hl1⟩:=HT.out;clear hb hS hT hi1 hi2 OPS
     by_cases h0:rs = []
     ·have h1:((rs.length:Int)==0)=true:=by rw[h0];rfl
      clear h0
      go_wp2
      have FIN:=mh (read_bad ⟨0,0,0,none,0,0⟩ none 0 0 HB.out);unfold put4 at FIN;exact bodyPost_ret (v := .tuple #[.agg #[I O 0,I O 0,I O 0,.slice none 0 0],.slice none 0 0,.bool false]) (by simp[results,Tryz.results83,go_sem,k0,k1,k2,k3]) rfl FIN.out
     have h1:((rs.length:Int)==0)=false:=beq_eq_false_iff_ne.2 (fun e=>h0 (List.length_eq_zero_iff.1 (by omega)));have h2:(0:Int)<(rs.length:Int):=by have:=List.length_pos_iff.2 h0;omega
     have h3:0<rs.length:=List.length_pos_iff.2 h0;obtain⟨b2,off2,q2,c2,rfl,hb2,hx2,hl2,hq2,hqb2,hsl2⟩:=HW.out.some h0;rw[EHD.out]at hx2;have HW2:=mh hq2
     have HQ2:=mh (fun a (e:q2=some a)=>show(ll rs.tail = []∨a.block=b) from .inr (by
      rw[hqb2 a e]
      exact(HQB.out _ rfl).resolve_left (fun e=>h0 (by rw[← bs_ll rs,e];rfl))))
     clear hq2 hqb2 h0;have LT:=mh (fun (W:World)=>show Calls Tryz.prog 111 #[.string hd] W (fun e w' => ∃v:Int,e = .returned (.tuple #[I O v,.bool false])∧(∀m,(none:Option Int)=some m→v=m)∧Below W.heap.size W w') from LT.out W)
     go_wp2_with (go_at_call 111;(with_reducible refine cmo (LT.out _) ?_);rintro e w5 ⟨v,rfl,hvv,hb5⟩;have HVV:=mh hvv;clear hvv;clear k0 k1 k2 k3 f0 f1 f2 f3 t0 t1 t2 t3 e0 e1 e2 e3;have HS5:=mh (HS.out.below hb5);have HT5:=mh (HT.out.below hb5);have HB5:=mh (bstep mle HB.out hb5);have HW5:=mh (HW2.out.below hb5);obtain⟨k0,k1,k2,k3,f0,f1,f2,f3,hl5⟩:=HS5.out;obtain⟨t0,t1,t2,t3,e0,e1,e2,e3,hl6⟩:=HT5.out)
     have HBF:=mh (show Below w.heap.size w (w5.setCell ⟨w.heap.size+1,1,none⟩ (I O v)) from HB5.out.setCell (Nat.le_succ _) _);have HWF:=mh (HW5.out.chg (B:=w.heap.size) (fun a e=>(HQ2.out a e).imp (fun h=>by rw[← bs_ll rs.tail,h];rfl) (fun h=>by rw[h];exact hbl)) (show Below w.heap.size w5 (w5.setCell ⟨w.heap.size+1,1,none⟩ (I O v)) from(brf w.heap.size w5).setCell (Nat.le_succ _) _));have HTF:=mh (HT5.out.set1 (I O v));have HSF:=mh (HS5.out.far (k:=w.heap.size+1) (i:=1) (by omega) (I O v));obtain⟨WX,eWX⟩:∃WX,w5.setCell ⟨w.heap.size+1,1,none⟩ (I O v)=WX:=⟨_,rfl⟩;rw[eWX]at HTF HSF HBF HWF ⊢;clear t0 t1 t2 t3 e0 e1 e2 e3 k0 k1 k2 k3 f0 f1 f2 f3 eWX;obtain⟨t0,t1,t2,t3,e0,e1,e2,e3, -⟩:=HTF.out;obtain⟨k0,k1,k2,k3,f0,f1,f2,f3, -⟩:=HSF.out
     go_region
     go_wp2
     have FIN:=mh (read_bad (w:=w) (W:=WX.drew) ⟨4,v,0,none,0,0⟩ q2 rs.tail.length c2 HBF.out.drew);unfold put4 at FIN;exact bodyPost_ret (v := .tuple #[.agg #[I O 4,I O v,I O 0,.slice none 0 0],.slice q2 rs.tail.length c2,.bool false]) (by simp[results,Tryz.results83,go_sem,k0,k1,k2,k3]) rfl FIN.out
 | some v0 =>
   show Calls _ _ _ _ (ReadGood b0 (.mk 4 v0 0 []) (ll rs.tail) w)
   obtain⟨b,off,q,c1,rfl,hbl,hx0,hle,hq,hqb,hsl⟩:=h.cons;obtain rfl:b=b0:=hpb _ rfl;clear hpb;have HQB:=mh (fun a (e:q=some a)=>show(ll rs = []∨a.block=b) from .inr (hqb a e));clear hqb;have HQ:=mh hq;have hp1:(0:Int)<((rs.length+1:Nat):Int):=by omega
   have hne0:((rs.length:Int)+1==0)=false:=beq_eq_false_iff_ne.2 (by omega);have hA0:Below w.heap.size w (w.alloc (.cells #[I O 0,I O 0,I O 0,.slice none 0 0] 28)):=(brf _ _).alloc mle _;have hA:Below w.heap.size w ((w.alloc (.cells #[I O 0,I O 0,I O 0,.slice none 0 0] 28)).alloc (.cells #[I O 0,I O 0,I O 0,.slice none 0 0] 28)):=hA0.alloc (by simp) _;have HS0:=mh ((Res4.new w 28).tb.below (W' := ((w.alloc (.cells #[I O 0,I O 0,I O 0,.slice none 0 0] 28)).alloc (.cells #[I O 0,I O 0,I O 0,.slice none 0 0] 28))) ((brf _ _).alloc mle _));have hT0:=(Res4.new (w.alloc (.cells #[I O 0,I O 0,I O 0,.slice none 0 0] 28)) 28).tb;rw[World.size_alloc]at hT0;have HT0:=mh hT0;have HA:=mh hA;have HXW:=mh hx0;have OPS:=mh (fun (i:Nat) (h1:1≤i) (h2:i≤11) (W:World)=>ops_any (i:Int) (by omega) (by omega) W);unfold StrGive at OPS;clear h hq hA0 hA hT0
   go_enter Tryz.func83,Tryz.ntmps83
   go_wp2
   go_loopw [6] (fun s6 wr=>∃i:Nat,1≤i∧i≤12∧s6=I O (i:Int)∧Below w.heap.size w wr∧TB w.heap.size wr (I O 0) (I O 0) (I O 0) (.slice none 0 0)∧TB (w.heap.size+1) wr (I O (if 4<i then 4 else 0)) (I O 0) (I O 0) (.slice none 0 0)) (fun s6 _=>12 - (intOf s6).toNat)
   case atStart=>exact⟨1,Nat.le_refl _,by omega,rfl,HA.out,HS0.out,by rw[if_neg (by omega)];exact HT0.out⟩
   case round =>
    clear HS0 HT0 HA;obtain⟨wo,rfl⟩:∃wo:World,wo=wr:=⟨_,rfl⟩;obtain⟨i,hi1,hi2,rfl,hb,hS,hT⟩:=hrel;have HB:=mh hb;have HS:=mh hS;have HT:=mh hT;have hsz:=hb.size
    by_cases hlt:i≤11
    ·have hlt1:(i:Int)≤11:=by omega
     have hxw:=(hb.cell (p:=⟨b,off,none⟩) hbl).trans HXW.out;have OP:=mh (fun W=>OPS.out i hi1 hlt W);obtain⟨S,eS⟩:∃S:ByteArray,(⟨(opW (i:Int)).toArray⟩:ByteArray)=S:=⟨_,rfl⟩;rw[eS]at OP;have KX:=mh (fun (W:World) (hW:Below wo.heap.size wo W)=>(hW.cell (p:=⟨b,off,none⟩) (by show b<wo.heap.size;omega)).trans hxw);have K0:=brf wo.heap.size wo;have K0d:=K0.drew
     by_cases hio:i=4
     ·subst hio
      have hs:(S.toList == [109,97,114,107])=true:=by rw[← eS];decide +kernel
      rw[if_neg (by omega)]at HT;clear eS hb hS hT hi1 hi2
      go_wp2_with fail
      clear hxw
      go_region_held3 (fun W=>W.cell? ⟨b,off,none⟩=some (.string ⟨#[109,97,114,107]⟩))
       (first|exact KX.out _ K0|exact KX.out _ K0d|exact KX.out _ K5|fail)
       (first
        | (go_at_call 99;(with_reducible refine cmo (OP.out _) ?_);rintro e w5 ⟨rfl,hb5⟩;have K5:Below wo.heap.size wo w5:=(by first|exact K0d.trans hb5|exact K0.trans hb5))
        | fail)
      have HT5:=mh (HT.out.below K5);have HS5:=mh (HS.out.below K5);have HB5:=mh (bstep mle HB.out K5);obtain⟨k0, -, -, -,f0, -, -, -,hl0⟩:=HT5.out
      go_wp2
      go_roundw
      case rel=>exact⟨4+1,by omega,by omega,by go_num,HB5.out.setCell (Nat.le_succ _) _,HS5.out.far (by omega) _,by rw[if_pos (by omega)];exact HT5.out.set0 _⟩
      case measure=>simp[intOf]
     ·have hs:(S.toList == [109,97,114,107])=false:=by
       rw[← eS];refine beq_no ?_
       show opW (i:Int) ≠ [109,97,114,107]
       intro e;have e1:=opOf_opW (i:Int) (by omega) (by omega);rw[e]at e1;have e2:opOf (⟨#[109,97,114,107]⟩:ByteArray).data.toList=4:=by decide +kernel
       rw[e2]at e1;omega
      clear eS hb hS hT
      go_wp2_with fail
      clear hxw
      go_region_held3 (fun W=>W.cell? ⟨b,off,none⟩=some (.string ⟨#[109,97,114,107]⟩))
       (first|exact KX.out _ K0|exact KX.out _ K0d|exact KX.out _ K5|fail)
       (first
        | (go_at_call 99;(with_reducible refine cmo (OP.out _) ?_);rintro e w5 ⟨rfl,hb5⟩;have K5:Below wo.heap.size wo w5:=(by first|exact K0d.trans hb5|exact K0.trans hb5))
        | fail)
      have HT5:=mh (HT.out.below K5);have HS5:=mh (HS.out.below K5);have HB5:=mh (bstep mle HB.out K5)
      go_wp2
      go_roundw
      case rel=>exact⟨i+1,by omega,by omega,by go_num,HB5.out,HS5.out,by
       have:(if 4<i+1 then (4:Int) else 0)=if 4<i then 4 else 0:=by
        by_cases h:4<i
        ·rw[if_pos h,if_pos (by omega)]
        ·rw[if_neg h,if_neg (by omega)]
       rw[this]
       exact HT5.out⟩
      case measure=>simp[intOf];omega
    ·obtain rfl:i=12:=by omega
     have hi3:¬((12:Nat):Int)≤11:=by omega
     rw[if_pos (by omega)]at HT;have HW:=mh (HQ.out.below (HB.out.mono mle));obtain⟨k0,k1,k2,k3,f0,f1,f2,f3,hl0⟩:=HS.out;obtain⟨t0,t1,t2,t3,e0,e1,e2,e3,hl1⟩:=HT.out;clear hb hS hT hi1 hi2 OPS
     by_cases h0:rs = []
     ·exact absurd (HNIL.out h0) (by simp)
     have h1:((rs.length:Int)==0)=false:=beq_eq_false_iff_ne.2 (fun e=>h0 (List.length_eq_zero_iff.1 (by omega)));have h2:(0:Int)<(rs.length:Int):=by have:=List.length_pos_iff.2 h0;omega
     have h3:0<rs.length:=List.length_pos_iff.2 h0;obtain⟨b2,off2,q2,c2,rfl,hb2,hx2,hl2,hq2,hqb2,hsl2⟩:=HW.out.some h0;rw[EHD.out]at hx2;have HW2:=mh hq2
     have HQ2:=mh (fun a (e:q2=some a)=>show(ll rs.tail = []∨a.block=b) from .inr (by
      rw[hqb2 a e]
      exact(HQB.out _ rfl).resolve_left (fun e=>h0 (by rw[← bs_ll rs,e];rfl))))
     clear hq2 hqb2 h0;have LT:=mh (fun (W:World)=>show Calls Tryz.prog 111 #[.string hd] W (fun e w' => ∃v:Int,e = .returned (.tuple #[I O v,.bool true])∧(∀m,some v0=some m→v=m)∧Below W.heap.size W w') from LT.out W)
     go_wp2_with (go_at_call 111;(with_reducible refine cmo (LT.out _) ?_);rintro e w5 ⟨v,rfl,hvv,hb5⟩;have HVV:=mh hvv;clear hvv;clear k0 k1 k2 k3 f0 f1 f2 f3 t0 t1 t2 t3 e0 e1 e2 e3;have HS5:=mh (HS.out.below hb5);have HT5:=mh (HT.out.below hb5);have HB5:=mh (bstep mle HB.out hb5);have HW5:=mh (HW2.out.below hb5);obtain⟨k0,k1,k2,k3,f0,f1,f2,f3,hl5⟩:=HS5.out;obtain⟨t0,t1,t2,t3,e0,e1,e2,e3,hl6⟩:=HT5.out)
     obtain rfl:v0=v:=(HVV.out v0 rfl).symm;have HBF:=mh (show Below w.heap.size w (w5.setCell ⟨w.heap.size+1,1,none⟩ (I O v0)) from HB5.out.setCell (Nat.le_succ _) _);have HWF:=mh (HW5.out.chg (B:=w.heap.size) (fun a e=>(HQ2.out a e).imp (fun h=>by rw[← bs_ll rs.tail,h];rfl) (fun h=>by rw[h];exact hbl)) (show Below w.heap.size w5 (w5.setCell ⟨w.heap.size+1,1,none⟩ (I O v0)) from(brf w.heap.size w5).setCell (Nat.le_succ _) _));have HTF:=mh (HT5.out.set1 (I O v0));have HSF:=mh (HS5.out.far (k:=w.heap.size+1) (i:=1) (by omega) (I O v0));obtain⟨WX,eWX⟩:∃WX,w5.setCell ⟨w.heap.size+1,1,none⟩ (I O v0)=WX:=⟨_,rfl⟩;rw[eWX]at HTF HSF HBF HWF ⊢;clear t0 t1 t2 t3 e0 e1 e2 e3 k0 k1 k2 k3 f0 f1 f2 f3 eWX;obtain⟨t0,t1,t2,t3,e0,e1,e2,e3, -⟩:=HTF.out;obtain⟨k0,k1,k2,k3,f0,f1,f2,f3, -⟩:=HSF.out
     go_region
     go_wp2
     have FIN:=mh (by have:=read_good (w:=w) (W:=WX.drew) (t := .mk 4 v0 0 []) (r:=ll rs.tail) (row:=⟨4,v0,0,none,0,0⟩) HBF.out.drew hbl (by rw[bs_ll];exact(HWF.out.below ((brf _ _).drew))) HQ2.out (TV.leaf _ _ 4 v0 0);rw[ll_len]at this;exact this);unfold put4 at FIN;exact bodyPost_ret (v := .tuple #[.agg #[I O 4,I O v0,I O 0,.slice none 0 0],.slice q2 rs.tail.length c2,.bool true]) (by simp[results,Tryz.results83,go_sem,k0,k1,k2,k3]) rfl FIN.out
theorem read_op7 {f:Nat}(x:ByteArray)(rs:List ByteArray)(p:Option Addr)(c:Nat)(w:World)(b0:Nat)(h:WSl w p c (x::rs))(hpb:∀a,p=some a→a.block=b0)(hwd:∀y∈rs,y.size≤16384)(hlen:rs.length+1≤1000000)(eo:opOf x.data.toList=7):Calls Tryz.prog 83 #[.slice p (rs.length+1) c] w (ReadG b0 (readT (f+1) (ll (x::rs))) w):=by
 rw[readT_before (f:=f) (rs:=rs) eo];obtain rfl:x=⟨#[98,101,102,111,114,101]⟩:=ba_word (opOf_word eo (by decide));clear eo;obtain⟨T,eT⟩:∃T,rs.tail=T:=⟨_,rfl⟩;rw[eT];obtain⟨U,eU⟩:∃U,T.tail=U:=⟨_,rfl⟩;rw[eU];have ET:=mh eT;have EU:=mh eU;clear eT eU;have hsz:(hdW rs).size≤9223372036854775807:=by
  cases rs with
  | nil=>show 0≤_;omega
  | cons y r=>have:=hwd y List.mem_cons_self;show y.size≤_;omega
 have HNIL:=mh (show rs = []→numM (hdW rs).data.toList=none from fun e=>by rw[e];exact numM_nil);have HNIL2:=mh (show T = []→letter (hdW T).data.toList=none from fun e=>by rw[e];exact letter_nil);obtain⟨hv,hvb⟩:=numM_val (hdW rs).data.toList
 have NM0:=mh (fun (W:World)=>show Calls Tryz.prog 84 #[.string (hdW rs),I O (-1125899906842624),I O 1125899906842624] W (fun e w' => e = .returned (.tuple #[I O ((numM (hdW rs).data.toList).getD 0),.bool (numM (hdW rs).data.toList).isSome])∧Below W.heap.size W w') by
  have:=refnumber_any (hdW rs) (-1125899906842624) 1125899906842624 W hsz;unfold NumGive at this;rw[hv,hvb]at this
  exact this)
 have LT:=mh (fun (W:World)=>refletter_any (hdW T) W);unfold LetG at LT;obtain⟨hd,ehd⟩:∃hd,hdW rs=hd:=⟨_,rfl⟩;obtain⟨hd2,ehd2⟩:∃hd,hdW T=hd:=⟨_,rfl⟩;rw[ehd]at HNIL NM0 ⊢;rw[ehd2]at HNIL2 LT ⊢;obtain⟨nv,env⟩:∃nv,numM hd.data.toList=nv:=⟨_,rfl⟩;obtain⟨mv,emv⟩:∃mv,letter hd2.data.toList=mv:=⟨_,rfl⟩;rw[env]at HNIL NM0 ⊢;rw[emv]at HNIL2 LT ⊢;have EHD:=mh ehd;have EHD2:=mh ehd2;clear hv hvb hsz hwd ehd env ehd2 emv
 cases nv with
 | none =>
   show Calls _ _ _ _ (ReadBad w)
   have NM:=mh (fun (W:World)=>show Calls Tryz.prog 84 #[.string hd,I O (-1125899906842624),I O 1125899906842624] W (fun e w' => e = .returned (.tuple #[I O 0,.bool false])∧Below W.heap.size W w') from NM0.out W);obtain⟨b,off,q,c1,rfl,hbl,hx0,hle,hq,hqb,hsl⟩:=h.cons;obtain rfl:b=b0:=hpb _ rfl;clear hpb;have HQB:=mh (fun a (e:q=some a)=>show(ll rs = []∨a.block=b) from .inr (hqb a e));clear hqb;have HQ:=mh hq;have hp1:(0:Int)<((rs.length+1:Nat):Int):=by omega
   have hne0:((rs.length:Int)+1==0)=false:=beq_eq_false_iff_ne.2 (by omega);have hA0:Below w.heap.size w (w.alloc (.cells #[I O 0,I O 0,I O 0,.slice none 0 0] 28)):=(brf _ _).alloc mle _;have hA:Below w.heap.size w ((w.alloc (.cells #[I O 0,I O 0,I O 0,.slice none 0 0] 28)).alloc (.cells #[I O 0,I O 0,I O 0,.slice none 0 0] 28)):=hA0.alloc (by simp) _;have HS0:=mh ((Res4.new w 28).tb.below (W' := ((w.alloc (.cells #[I O 0,I O 0,I O 0,.slice none 0 0] 28)).alloc (.cells #[I O 0,I O 0,I O 0,.slice none 0 0] 28))) ((brf _ _).alloc mle _));have hT0:=(Res4.new (w.alloc (.cells #[I O 0,I O 0,I O 0,.slice none 0 0] 28)) 28).tb;rw[World.size_alloc]at hT0;have HT0:=mh hT0;have HA:=mh hA;have HXW:=mh hx0;have OPS:=mh (fun (i:Nat) (h1:1≤i) (h2:i≤11) (W:World)=>ops_any (i:Int) (by omega) (by omega) W);unfold StrGive at OPS;clear h hq hA0 hA hT0
   go_enter Tryz.func83,Tryz.ntmps83
   go_wp2
   go_loopw [6] (fun s6 wr=>∃i:Nat,1≤i∧i≤12∧s6=I O (i:Int)∧Below w.heap.size w wr∧TB w.heap.size wr (I O 0) (I O 0) (I O 0) (.slice none 0 0)∧TB (w.heap.size+1) wr (I O (if 7<i then 7 else 0)) (I O 0) (I O 0) (.slice none 0 0)) (fun s6 _=>12 - (intOf s6).toNat)
   case atStart=>exact⟨1,Nat.le_refl _,by omega,rfl,HA.out,HS0.out,by rw[if_neg (by omega)];exact HT0.out⟩
   case round =>
    clear HS0 HT0 HA;obtain⟨wo,rfl⟩:∃wo:World,wo=wr:=⟨_,rfl⟩;obtain⟨i,hi1,hi2,rfl,hb,hS,hT⟩:=hrel;have HB:=mh hb;have HS:=mh hS;have HT:=mh hT;have hsz:=hb.size
    by_cases hlt:i≤11
    ·have hlt1:(i:Int)≤11:=by omega
     have hxw:=(hb.cell (p:=⟨b,off,none⟩) hbl).trans HXW.out;have OP:=mh (fun W=>OPS.out i hi1 hlt W);obtain⟨S,eS⟩:∃S:ByteArray,(⟨(opW (i:Int)).toArray⟩:ByteArray)=S:=⟨_,rfl⟩;rw[eS]at OP;have KX:=mh (fun (W:World) (hW:Below wo.heap.size wo W)=>(hW.cell (p:=⟨b,off,none⟩) (by show b<wo.heap.size;omega)).trans hxw);have K0:=brf wo.heap.size wo;have K0d:=K0.drew
     by_cases hio:i=7
     ·subst hio
      have hs:(S.toList == [98,101,102,111,114,101])=true:=by rw[← eS];decide +kernel
      rw[if_neg (by omega)]at HT;clear eS hb hS hT hi1 hi2
      go_wp2_with fail
      clear hxw
      go_region_held3 (fun W=>W.cell? ⟨b,off,none⟩=some (.string ⟨#[98,101,102,111,114,101]⟩))
       (first|exact KX.out _ K0|exact KX.out _ K0d|exact KX.out _ K5|fail)
       (first
        | (go_at_call 99;(with_reducible refine cmo (OP.out _) ?_);rintro e w5 ⟨rfl,hb5⟩;have K5:Below wo.heap.size wo w5:=(by first|exact K0d.trans hb5|exact K0.trans hb5))
        | fail)
      have HT5:=mh (HT.out.below K5);have HS5:=mh (HS.out.below K5);have HB5:=mh (bstep mle HB.out K5);obtain⟨k0, -, -, -,f0, -, -, -,hl0⟩:=HT5.out
      go_wp2
      go_roundw
      case rel=>exact⟨7+1,by omega,by omega,by go_num,HB5.out.setCell (Nat.le_succ _) _,HS5.out.far (by omega) _,by rw[if_pos (by omega)];exact HT5.out.set0 _⟩
      case measure=>simp[intOf]
     ·have hs:(S.toList == [98,101,102,111,114,101])=false:=by
       rw[← eS];refine beq_no ?_
       show opW (i:Int) ≠ [98,101,102,111,114,101]
       intro e;have e1:=opOf_opW (i:Int) (by omega) (by omega);rw[e]at e1;have e2:opOf (⟨#[98,101,102,111,114,101]⟩:ByteArray).data.toList=7:=by decide +kernel
       rw[e2]at e1;omega
      clear eS hb hS hT
      go_wp2_with fail
      clear hxw
      go_region_held3 (fun W=>W.cell? ⟨b,off,none⟩=some (.string ⟨#[98,101,102,111,114,101]⟩))
       (first|exact KX.out _ K0|exact KX.out _ K0d|exact KX.out _ K5|fail)
       (first
        | (go_at_call 99;(with_reducible refine cmo (OP.out _) ?_);rintro e w5 ⟨rfl,hb5⟩;have K5:Below wo.heap.size wo w5:=(by first|exact K0d.trans hb5|exact K0.trans hb5))
        | fail)
      have HT5:=mh (HT.out.below K5);have HS5:=mh (HS.out.below K5);have HB5:=mh (bstep mle HB.out K5)
      go_wp2
      go_roundw
      case rel=>exact⟨i+1,by omega,by omega,by go_num,HB5.out,HS5.out,by
       have:(if 7<i+1 then (7:Int) else 0)=if 7<i then 7 else 0:=by
        by_cases h:7<i
        ·rw[if_pos h,if_pos (by omega)]
        ·rw[if_neg h,if_neg (by omega)]
       rw[this]
       exact HT5.out⟩
      case measure=>simp[intOf];omega
    ·obtain rfl:i=12:=by omega
     have hi3:¬((12:Nat):Int)≤11:=by omega
     rw[if_pos (by omega)]at HT;have HW:=mh (HQ.out.below (HB.out.mono mle));obtain⟨k0,k1,k2,k3,f0,f1,f2,f3,hl0⟩:=HS.out;obtain⟨t0,t1,t2,t3,e0,e1,e2,e3,hl1⟩:=HT.out;clear hb hS hT hi1 hi2 OPS
     by_cases h0:rs = []
     ·have h1:((rs.length:Int)==0)=true:=by rw[h0];rfl
      clear h0
      go_wp2
      have FIN:=mh (read_bad ⟨0,0,0,none,0,0⟩ none 0 0 HB.out);unfold put4 at FIN;exact bodyPost_ret (v := .tuple #[.agg #[I O 0,I O 0,I O 0,.slice none 0 0],.slice none 0 0,.bool false]) (by simp[results,Tryz.results83,go_sem,k0,k1,k2,k3]) rfl FIN.out
     have h1:((rs.length:Int)==0)=false:=beq_eq_false_iff_ne.2 (fun e=>h0 (List.length_eq_zero_iff.1 (by omega)));have h2:(0:Int)<(rs.length:Int):=by have:=List.length_pos_iff.2 h0;omega
     have h3:0<rs.length:=List.length_pos_iff.2 h0;obtain⟨b2,off2,q2,c2,rfl,hb2,hx2,hl2,hq2,hqb2,hsl2⟩:=HW.out.some h0;rw[ET.out]at hq2 hsl2;rw[EHD.out]at hx2;have HW2:=mh hq2
     have HQ2:=mh (fun a (e:q2=some a)=>show(ll T = []∨a.block=b) from .inr (by
      rw[hqb2 a e]
      exact(HQB.out _ rfl).resolve_left (fun e=>h0 (by rw[← bs_ll rs,e];rfl))))
     clear hq2 hqb2 h0
     go_wp2_with (go_at_call 84;(with_reducible refine cmo (NM.out _) ?_);rintro e w5 ⟨rfl,hb5⟩;clear k0 k1 k2 k3 f0 f1 f2 f3 t0 t1 t2 t3 e0 e1 e2 e3;have HS5:=mh (HS.out.below hb5);have HT5:=mh (HT.out.below hb5);have HB5:=mh (bstep mle HB.out hb5);have HW5:=mh (HW2.out.below hb5);obtain⟨k0,k1,k2,k3,f0,f1,f2,f3,hl5⟩:=HS5.out;obtain⟨t0,t1,t2,t3,e0,e1,e2,e3,hl6⟩:=HT5.out)
     have HBF:=mh (show Below w.heap.size w (w5.setCell ⟨w.heap.size+1,1,none⟩ (I O 0)) from HB5.out.setCell (Nat.le_succ _) _);have HWF:=mh (HW5.out.chg (B:=w.heap.size) (fun a e=>(HQ2.out a e).imp (fun h=>by rw[← bs_ll T,h];rfl) (fun h=>by rw[h];exact hbl)) (show Below w.heap.size w5 (w5.setCell ⟨w.heap.size+1,1,none⟩ (I O 0)) from(brf w.heap.size w5).setCell (Nat.le_succ _) _));have FIN:=mh (read_bad (w:=w) (W:=(w5.setCell ⟨w.heap.size+1,1,none⟩ (I O 0))) ⟨7,0,0,none,0,0⟩ q2 T.length c2 HBF.out);unfold put4 at FIN;exact bodyPost_ret (v := .tuple #[.agg #[I O 7,I O 0,I O 0,.slice none 0 0],.slice q2 T.length c2,.bool false]) (by simp[results,Tryz.results83,go_sem,k0,k1,k2,k3]) rfl FIN.out
 | some v =>
   have NM:=mh (fun (W:World)=>show Calls Tryz.prog 84 #[.string hd,I O (-1125899906842624),I O 1125899906842624] W (fun e w' => e = .returned (.tuple #[I O v,.bool true])∧Below W.heap.size W w') from NM0.out W)
   cases mv with
   | none =>
     show Calls _ _ _ _ (ReadBad w)
     obtain⟨b,off,q,c1,rfl,hbl,hx0,hle,hq,hqb,hsl⟩:=h.cons;obtain rfl:b=b0:=hpb _ rfl;clear hpb;have HQB:=mh (fun a (e:q=some a)=>show(ll rs = []∨a.block=b) from .inr (hqb a e));clear hqb;have HQ:=mh hq;have hp1:(0:Int)<((rs.length+1:Nat):Int):=by omega
     have hne0:((rs.length:Int)+1==0)=false:=beq_eq_false_iff_ne.2 (by omega);have hA0:Below w.heap.size w (w.alloc (.cells #[I O 0,I O 0,I O 0,.slice none 0 0] 28)):=(brf _ _).alloc mle _;have hA:Below w.heap.size w ((w.alloc (.cells #[I O 0,I O 0,I O 0,.slice none 0 0] 28)).alloc (.cells #[I O 0,I O 0,I O 0,.slice none 0 0] 28)):=hA0.alloc (by simp) _;have HS0:=mh ((Res4.new w 28).tb.below (W' := ((w.alloc (.cells #[I O 0,I O 0,I O 0,.slice none 0 0] 28)).alloc (.cells #[I O 0,I O 0,I O 0,.slice none 0 0] 28))) ((brf _ _).alloc mle _));have hT0:=(Res4.new (w.alloc (.cells #[I O 0,I O 0,I O 0,.slice none 0 0] 28)) 28).tb;rw[World.size_alloc]at hT0;have HT0:=mh hT0;have HA:=mh hA;have HXW:=mh hx0;have OPS:=mh (fun (i:Nat) (h1:1≤i) (h2:i≤11) (W:World)=>ops_any (i:Int) (by omega) (by omega) W);unfold StrGive at OPS;clear h hq hA0 hA hT0
     go_enter Tryz.func83,Tryz.ntmps83
     go_wp2
     go_loopw [6] (fun s6 wr=>∃i:Nat,1≤i∧i≤12∧s6=I O (i:Int)∧Below w.heap.size w wr∧TB w.heap.size wr (I O 0) (I O 0) (I O 0) (.slice none 0 0)∧TB (w.heap.size+1) wr (I O (if 7<i then 7 else 0)) (I O 0) (I O 0) (.slice none 0 0)) (fun s6 _=>12 - (intOf s6).toNat)
     case atStart=>exact⟨1,Nat.le_refl _,by omega,rfl,HA.out,HS0.out,by rw[if_neg (by omega)];exact HT0.out⟩
     case round =>
      clear HS0 HT0 HA;obtain⟨wo,rfl⟩:∃wo:World,wo=wr:=⟨_,rfl⟩;obtain⟨i,hi1,hi2,rfl,hb,hS,hT⟩:=hrel;have HB:=mh hb;have HS:=mh hS;have HT:=mh hT;have hsz:=hb.size
      by_cases hlt:i≤11
      ·have hlt1:(i:Int)≤11:=by omega
       have hxw:=(hb.cell (p:=⟨b,off,none⟩) hbl).trans HXW.out;have OP:=mh (fun W=>OPS.out i hi1 hlt W);obtain⟨S,eS⟩:∃S:ByteArray,(⟨(opW (i:Int)).toArray⟩:ByteArray)=S:=⟨_,rfl⟩;rw[eS]at OP;have KX:=mh (fun (W:World) (hW:Below wo.heap.size wo W)=>(hW.cell (p:=⟨b,off,none⟩) (by show b<wo.heap.size;omega)).trans hxw);have K0:=brf wo.heap.size wo;have K0d:=K0.drew
       by_cases hio:i=7
       ·subst hio
        have hs:(S.toList == [98,101,102,111,114,101])=true:=by rw[← eS];decide +kernel
        rw[if_neg (by omega)]at HT;clear eS hb hS hT hi1 hi2
        go_wp2_with fail
        clear hxw
        go_region_held3 (fun W=>W.cell? ⟨b,off,none⟩=some (.string ⟨#[98,101,102,111,114,101]⟩))
         (first|exact KX.out _ K0|exact KX.out _ K0d|exact KX.out _ K5|fail)
         (first
          | (go_at_call 99;(with_reducible refine cmo (OP.out _) ?_);rintro e w5 ⟨rfl,hb5⟩;have K5:Below wo.heap.size wo w5:=(by first|exact K0d.trans hb5|exact K0.trans hb5))
          | fail)
        have HT5:=mh (HT.out.below K5);have HS5:=mh (HS.out.below K5);have HB5:=mh (bstep mle HB.out K5);obtain⟨k0, -, -, -,f0, -, -, -,hl0⟩:=HT5.out
        go_wp2
        go_roundw
        case rel=>exact⟨7+1,by omega,by omega,by go_num,HB5.out.setCell (Nat.le_succ _) _,HS5.out.far (by omega) _,by rw[if_pos (by omega)];exact HT5.out.set0 _⟩
        case measure=>simp[intOf]
       ·have hs:(S.toList == [98,101,102,111,114,101])=false:=by
         rw[← eS];refine beq_no ?_
         show opW (i:Int) ≠ [98,101,102,111,114,101]
         intro e;have e1:=opOf_opW (i:Int) (by omega) (by omega);rw[e]at e1;have e2:opOf (⟨#[98,101,102,111,114,101]⟩:ByteArray).data.toList=7:=by decide +kernel
         rw[e2]at e1;omega
        clear eS hb hS hT
        go_wp2_with fail
        clear hxw
        go_region_held3 (fun W=>W.cell? ⟨b,off,none⟩=some (.string ⟨#[98,101,102,111,114,101]⟩))
         (first|exact KX.out _ K0|exact KX.out _ K0d|exact KX.out _ K5|fail)
         (first
          | (go_at_call 99;(with_reducible refine cmo (OP.out _) ?_);rintro e w5 ⟨rfl,hb5⟩;have K5:Below wo.heap.size wo w5:=(by first|exact K0d.trans hb5|exact K0.trans hb5))
          | fail)
        have HT5:=mh (HT.out.below K5);have HS5:=mh (HS.out.below K5);have HB5:=mh (bstep mle HB.out K5)
        go_wp2
        go_roundw
        case rel=>exact⟨i+1,by omega,by omega,by go_num,HB5.out,HS5.out,by
         have:(if 7<i+1 then (7:Int) else 0)=if 7<i then 7 else 0:=by
          by_cases h:7<i
          ·rw[if_pos h,if_pos (by omega)]
          ·rw[if_neg h,if_neg (by omega)]
         rw[this]
         exact HT5.out⟩
        case measure=>simp[intOf];omega
      ·obtain rfl:i=12:=by omega
       have hi3:¬((12:Nat):Int)≤11:=by omega
       rw[if_pos (by omega)]at HT;have HW:=mh (HQ.out.below (HB.out.mono mle));obtain⟨k0,k1,k2,k3,f0,f1,f2,f3,hl0⟩:=HS.out;obtain⟨t0,t1,t2,t3,e0,e1,e2,e3,hl1⟩:=HT.out;clear hb hS hT hi1 hi2 OPS
       by_cases h0:rs = []
       ·exact absurd (HNIL.out h0) (by simp)
       have h1:((rs.length:Int)==0)=false:=beq_eq_false_iff_ne.2 (fun e=>h0 (List.length_eq_zero_iff.1 (by omega)));have h2:(0:Int)<(rs.length:Int):=by have:=List.length_pos_iff.2 h0;omega
       have h3:0<rs.length:=List.length_pos_iff.2 h0;obtain⟨b2,off2,q2,c2,rfl,hb2,hx2,hl2,hq2,hqb2,hsl2⟩:=HW.out.some h0;rw[ET.out]at hq2 hsl2;rw[EHD.out]at hx2;have HW2:=mh hq2
       have HQ2:=mh (fun a (e:q2=some a)=>show(ll T = []∨a.block=b) from .inr (by
        rw[hqb2 a e]
        exact(HQB.out _ rfl).resolve_left (fun e=>h0 (by rw[← bs_ll rs,e];rfl))))
       clear hq2 hqb2 h0
       by_cases h4:T = []
       ·have h5:((T.length:Int)==0)=true:=by rw[h4];rfl
        clear h4
        go_wp2_with (go_at_call 84;(with_reducible refine cmo (NM.out _) ?_);rintro e w5 ⟨rfl,hb5⟩;clear k0 k1 k2 k3 f0 f1 f2 f3 t0 t1 t2 t3 e0 e1 e2 e3;have HS5:=mh (HS.out.below hb5);have HT5:=mh (HT.out.below hb5);have HB5:=mh (bstep mle HB.out hb5);have HW5:=mh (HW2.out.below hb5);obtain⟨k0,k1,k2,k3,f0,f1,f2,f3,hl5⟩:=HS5.out;obtain⟨t0,t1,t2,t3,e0,e1,e2,e3,hl6⟩:=HT5.out;have HSG:=mh (HS5.out.far (k:=w.heap.size+1) (i:=1) (by omega) (I O v));have HTG:=mh (HT5.out.set1 (I O v));have HBF:=mh (show Below w.heap.size w (w5.setCell ⟨w.heap.size+1,1,none⟩ (I O v)) from HB5.out.setCell (Nat.le_succ _) _);have HWF:=mh (HW5.out.chg (B:=w.heap.size) (fun a e=>(HQ2.out a e).imp (fun h=>by rw[← bs_ll T,h];rfl) (fun h=>by rw[h];exact hbl)) (show Below w.heap.size w5 (w5.setCell ⟨w.heap.size+1,1,none⟩ (I O v)) from(brf w.heap.size w5).setCell (Nat.le_succ _) _)))
        have FIN:=mh (read_bad (w:=w) (W:=(w5.setCell ⟨w.heap.size+1,1,none⟩ (I O v))) ⟨0,0,0,none,0,0⟩ none 0 0 HBF.out);unfold put4 at FIN;exact bodyPost_ret (v := .tuple #[.agg #[I O 0,I O 0,I O 0,.slice none 0 0],.slice none 0 0,.bool false]) (by simp[results,Tryz.results83,go_sem,k0,k1,k2,k3]) rfl FIN.out
       have h5:((T.length:Int)==0)=false:=beq_eq_false_iff_ne.2 (fun e=>h4 (List.length_eq_zero_iff.1 (by omega)));have h6:(0:Int)<(T.length:Int):=by have:=List.length_pos_iff.2 h4;omega
       have h7:0<T.length:=List.length_pos_iff.2 h4;obtain⟨b3,off3,q3,c3,rfl,hb3,hx3,hl3,hq3,hqb3,hsl3⟩:=HW2.out.some h4;rw[EU.out]at hq3 hsl3;rw[EHD2.out]at hx3;have HX3:=mh hx3;have HB3W:=mh (show b3=b from(HQ2.out _ rfl).resolve_left (fun e=>h4 (by rw[← bs_ll T,e];rfl)));have hb3l:b3<w.heap.size:=by rw[HB3W.out];exact hbl
       have HW3o:=mh hq3;have HQ3:=mh (fun a (e:q3=some a)=>show(ll U = []∨a.block=b) from .inr (by rw[hqb3 a e];exact HB3W.out));have LT:=mh (fun (W:World)=>show Calls Tryz.prog 111 #[.string hd2] W (fun e w' => ∃m:Int,e = .returned (.tuple #[I O m,.bool false])∧(∀k,(none:Option Int)=some k→m=k)∧Below W.heap.size W w') from LT.out W);clear hq3 hqb3 h4 hx3
       go_wp2_with (first|(go_at_call 84;(with_reducible refine cmo (NM.out _) ?_);rintro e w5 ⟨rfl,hb5⟩;clear k0 k1 k2 k3 f0 f1 f2 f3 t0 t1 t2 t3 e0 e1 e2 e3;have HS5:=mh (HS.out.below hb5);have HT5:=mh (HT.out.below hb5);have HB5:=mh (bstep mle HB.out hb5);have HW5:=mh (HW2.out.below hb5);obtain⟨k0,k1,k2,k3,f0,f1,f2,f3,hl5⟩:=HS5.out;obtain⟨t0,t1,t2,t3,e0,e1,e2,e3,hl6⟩:=HT5.out;have HSG:=mh (HS5.out.far (k:=w.heap.size+1) (i:=1) (by omega) (I O v));have HTG:=mh (HT5.out.set1 (I O v));have HBF:=mh (show Below w.heap.size w (w5.setCell ⟨w.heap.size+1,1,none⟩ (I O v)) from HB5.out.setCell (Nat.le_succ _) _);have HWF:=mh (HW5.out.chg (B:=w.heap.size) (fun a e=>(HQ2.out a e).imp (fun h=>by rw[← bs_ll T,h];rfl) (fun h=>by rw[h];exact hbl)) (show Below w.heap.size w5 (w5.setCell ⟨w.heap.size+1,1,none⟩ (I O v)) from(brf w.heap.size w5).setCell (Nat.le_succ _) _));have hx3:=(hb5.cell (p:=⟨b3,off3,none⟩) hb3).trans HX3.out;have HW3:=mh ((HW3o.out.below hb5).chg (B:=w.heap.size) (fun a e=>(HQ3.out a e).imp (fun h=>by rw[← bs_ll U,h];rfl) (fun h=>by rw[h];exact hbl)) (show Below w.heap.size w5 (w5.setCell ⟨w.heap.size+1,1,none⟩ (I O v)) from(brf w.heap.size w5).setCell (Nat.le_succ _) _)))|(go_at_call 111;(with_reducible refine cmo (LT.out _) ?_);rintro e w6 ⟨m,rfl,hvv,hb6⟩;have HVV:=mh hvv;clear hvv;clear k0 k1 k2 k3 f0 f1 f2 f3 t0 t1 t2 t3 e0 e1 e2 e3 hx3;have HS6:=mh (HSG.out.below hb6);have HT6:=mh (HTG.out.below hb6);have HB6:=mh (bstep mle HBF.out hb6);have HW6:=mh (HW3.out.below hb6);obtain⟨k0,k1,k2,k3,f0,f1,f2,f3,hl5'⟩:=HS6.out;obtain⟨t0,t1,t2,t3,e0,e1,e2,e3,hl6'⟩:=HT6.out)|fail)
       have HTX:=mh (HT6.out.set2 (I O m));have HSX:=mh (HS6.out.far (k:=w.heap.size+1) (i:=2) (by omega) (I O m));have HBX:=mh (show Below w.heap.size w (w6.setCell ⟨w.heap.size+1,2,none⟩ (I O m)) from HB6.out.setCell (Nat.le_succ _) _);have HWX:=mh (HW6.out.chg (B:=w.heap.size) (fun a e=>(HQ3.out a e).imp (fun h=>by rw[← bs_ll U,h];rfl) (fun h=>by rw[h];exact hbl)) (show Below w.heap.size w6 (w6.setCell ⟨w.heap.size+1,2,none⟩ (I O m)) from(brf w.heap.size w6).setCell (Nat.le_succ _) _));obtain⟨WX,eWX⟩:∃WX,w6.setCell ⟨w.heap.size+1,2,none⟩ (I O m)=WX:=⟨_,rfl⟩;rw[eWX]at HTX HSX HBX HWX ⊢;clear t0 t1 t2 t3 e0 e1 e2 e3 k0 k1 k2 k3 f0 f1 f2 f3 eWX;obtain⟨t0,t1,t2,t3,e0,e1,e2,e3, -⟩:=HTX.out;obtain⟨k0,k1,k2,k3,f0,f1,f2,f3, -⟩:=HSX.out
       go_region
       go_wp2
       have FIN:=mh (read_bad (w:=w) (W:=WX.drew) ⟨7,v,m,none,0,0⟩ q3 U.length c3 HBX.out.drew);unfold put4 at FIN;exact bodyPost_ret (v := .tuple #[.agg #[I O 7,I O v,I O m,.slice none 0 0],.slice q3 U.length c3,.bool false]) (by simp[results,Tryz.results83,go_sem,k0,k1,k2,k3]) rfl FIN.out
   | some m0 =>
     show Calls _ _ _ _ (ReadGood b0 (.mk 7 v m0 []) (ll U) w)
     obtain⟨b,off,q,c1,rfl,hbl,hx0,hle,hq,hqb,hsl⟩:=h.cons;obtain rfl:b=b0:=hpb _ rfl;clear hpb;have HQB:=mh (fun a (e:q=some a)=>show(ll rs = []∨a.block=b) from .inr (hqb a e));clear hqb;have HQ:=mh hq;have hp1:(0:Int)<((rs.length+1:Nat):Int):=by omega
     have hne0:((rs.length:Int)+1==0)=false:=beq_eq_false_iff_ne.2 (by omega);have hA0:Below w.heap.size w (w.alloc (.cells #[I O 0,I O 0,I O 0,.slice none 0 0] 28)):=(brf _ _).alloc mle _;have hA:Below w.heap.size w ((w.alloc (.cells #[I O 0,I O 0,I O 0,.slice none 0 0] 28)).alloc (.cells #[I O 0,I O 0,I O 0,.slice none 0 0] 28)):=hA0.alloc (by simp) _;have HS0:=mh ((Res4.new w 28).tb.below (W' := ((w.alloc (.cells #[I O 0,I O 0,I O 0,.slice none 0 0] 28)).alloc (.cells #[I O 0,I O 0,I O 0,.slice none 0 0] 28))) ((brf _ _).alloc mle _));have hT0:=(Res4.new (w.alloc (.cells #[I O 0,I O 0,I O 0,.slice none 0 0] 28)) 28).tb;rw[World.size_alloc]at hT0;have HT0:=mh hT0;have HA:=mh hA;have HXW:=mh hx0;have OPS:=mh (fun (i:Nat) (h1:1≤i) (h2:i≤11) (W:World)=>ops_any (i:Int) (by omega) (by omega) W);unfold StrGive at OPS;clear h hq hA0 hA hT0
     go_enter Tryz.func83,Tryz.ntmps83
     go_wp2
     go_loopw [6] (fun s6 wr=>∃i:Nat,1≤i∧i≤12∧s6=I O (i:Int)∧Below w.heap.size w wr∧TB w.heap.size wr (I O 0) (I O 0) (I O 0) (.slice none 0 0)∧TB (w.heap.size+1) wr (I O (if 7<i then 7 else 0)) (I O 0) (I O 0) (.slice none 0 0)) (fun s6 _=>12 - (intOf s6).toNat)
     case atStart=>exact⟨1,Nat.le_refl _,by omega,rfl,HA.out,HS0.out,by rw[if_neg (by omega)];exact HT0.out⟩
     case round =>
      clear HS0 HT0 HA;obtain⟨wo,rfl⟩:∃wo:World,wo=wr:=⟨_,rfl⟩;obtain⟨i,hi1,hi2,rfl,hb,hS,hT⟩:=hrel;have HB:=mh hb;have HS:=mh hS;have HT:=mh hT;have hsz:=hb.size
      by_cases hlt:i≤11
      ·have hlt1:(i:Int)≤11:=by omega
       have hxw:=(hb.cell (p:=⟨b,off,none⟩) hbl).trans HXW.out;have OP:=mh (fun W=>OPS.out i hi1 hlt W);obtain⟨S,eS⟩:∃S:ByteArray,(⟨(opW (i:Int)).toArray⟩:ByteArray)=S:=⟨_,rfl⟩;rw[eS]at OP;have KX:=mh (fun (W:World) (hW:Below wo.heap.size wo W)=>(hW.cell (p:=⟨b,off,none⟩) (by show b<wo.heap.size;omega)).trans hxw);have K0:=brf wo.heap.size wo;have K0d:=K0.drew
       by_cases hio:i=7
       ·subst hio
        have hs:(S.toList == [98,101,102,111,114,101])=true:=by rw[← eS];decide +kernel
        rw[if_neg (by omega)]at HT;clear eS hb hS hT hi1 hi2
        go_wp2_with fail
        clear hxw
        go_region_held3 (fun W=>W.cell? ⟨b,off,none⟩=some (.string ⟨#[98,101,102,111,114,101]⟩))
         (first|exact KX.out _ K0|exact KX.out _ K0d|exact KX.out _ K5|fail)
         (first
          | (go_at_call 99;(with_reducible refine cmo (OP.out _) ?_);rintro e w5 ⟨rfl,hb5⟩;have K5:Below wo.heap.size wo w5:=(by first|exact K0d.trans hb5|exact K0.trans hb5))
          | fail)
        have HT5:=mh (HT.out.below K5);have HS5:=mh (HS.out.below K5);have HB5:=mh (bstep mle HB.out K5);obtain⟨k0, -, -, -,f0, -, -, -,hl0⟩:=HT5.out
        go_wp2
        go_roundw
        case rel=>exact⟨7+1,by omega,by omega,by go_num,HB5.out.setCell (Nat.le_succ _) _,HS5.out.far (by omega) _,by rw[if_pos (by omega)];exact HT5.out.set0 _⟩
        case measure=>simp[intOf]
       ·have hs:(S.toList == [98,101,102,111,114,101])=false:=by
         rw[← eS];refine beq_no ?_
         show opW (i:Int) ≠ [98,101,102,111,114,101]
         intro e;have e1:=opOf_opW (i:Int) (by omega) (by omega);rw[e]at e1;have e2:opOf (⟨#[98,101,102,111,114,101]⟩:ByteArray).data.toList=7:=by decide +kernel
         rw[e2]at e1;omega
        clear eS hb hS hT
        go_wp2_with fail
        clear hxw
        go_region_held3 (fun W=>W.cell? ⟨b,off,none⟩=some (.string ⟨#[98,101,102,111,114,101]⟩))
         (first|exact KX.out _ K0|exact KX.out _ K0d|exact KX.out _ K5|fail)
         (first
          | (go_at_call 99;(with_reducible refine cmo (OP.out _) ?_);rintro e w5 ⟨rfl,hb5⟩;have K5:Below wo.heap.size wo w5:=(by first|exact K0d.trans hb5|exact K0.trans hb5))
          | fail)
        have HT5:=mh (HT.out.below K5);have HS5:=mh (HS.out.below K5);have HB5:=mh (bstep mle HB.out K5)
        go_wp2
        go_roundw
        case rel=>exact⟨i+1,by omega,by omega,by go_num,HB5.out,HS5.out,by
         have:(if 7<i+1 then (7:Int) else 0)=if 7<i then 7 else 0:=by
          by_cases h:7<i
          ·rw[if_pos h,if_pos (by omega)]
          ·rw[if_neg h,if_neg (by omega)]
         rw[this]
         exact HT5.out⟩
        case measure=>simp[intOf];omega
      ·obtain rfl:i=12:=by omega
       have hi3:¬((12:Nat):Int)≤11:=by omega
       rw[if_pos (by omega)]at HT;have HW:=mh (HQ.out.below (HB.out.mono mle));obtain⟨k0,k1,k2,k3,f0,f1,f2,f3,hl0⟩:=HS.out;obtain⟨t0,t1,t2,t3,e0,e1,e2,e3,hl1⟩:=HT.out;clear hb hS hT hi1 hi2 OPS
       by_cases h0:rs = []
       ·exact absurd (HNIL.out h0) (by simp)
       have h1:((rs.length:Int)==0)=false:=beq_eq_false_iff_ne.2 (fun e=>h0 (List.length_eq_zero_iff.1 (by omega)));have h2:(0:Int)<(rs.length:Int):=by have:=List.length_pos_iff.2 h0;omega
       have h3:0<rs.length:=List.length_pos_iff.2 h0;obtain⟨b2,off2,q2,c2,rfl,hb2,hx2,hl2,hq2,hqb2,hsl2⟩:=HW.out.some h0;rw[ET.out]at hq2 hsl2;rw[EHD.out]at hx2;have HW2:=mh hq2
       have HQ2:=mh (fun a (e:q2=some a)=>show(ll T = []∨a.block=b) from .inr (by
        rw[hqb2 a e]
        exact(HQB.out _ rfl).resolve_left (fun e=>h0 (by rw[← bs_ll rs,e];rfl))))
       clear hq2 hqb2 h0
       by_cases h4:T = []
       ·exact absurd (HNIL2.out h4) (by simp)
       have h5:((T.length:Int)==0)=false:=beq_eq_false_iff_ne.2 (fun e=>h4 (List.length_eq_zero_iff.1 (by omega)));have h6:(0:Int)<(T.length:Int):=by have:=List.length_pos_iff.2 h4;omega
       have h7:0<T.length:=List.length_pos_iff.2 h4;obtain⟨b3,off3,q3,c3,rfl,hb3,hx3,hl3,hq3,hqb3,hsl3⟩:=HW2.out.some h4;rw[EU.out]at hq3 hsl3;rw[EHD2.out]at hx3;have HX3:=mh hx3;have HB3W:=mh (show b3=b from(HQ2.out _ rfl).resolve_left (fun e=>h4 (by rw[← bs_ll T,e];rfl)));have hb3l:b3<w.heap.size:=by rw[HB3W.out];exact hbl
       have HW3o:=mh hq3;have HQ3:=mh (fun a (e:q3=some a)=>show(ll U = []∨a.block=b) from .inr (by rw[hqb3 a e];exact HB3W.out));have LT:=mh (fun (W:World)=>show Calls Tryz.prog 111 #[.string hd2] W (fun e w' => ∃m:Int,e = .returned (.tuple #[I O m,.bool true])∧(∀k,some m0=some k→m=k)∧Below W.heap.size W w') from LT.out W);clear hq3 hqb3 h4 hx3
       go_wp2_with (first|(go_at_call 84;(with_reducible refine cmo (NM.out _) ?_);rintro e w5 ⟨rfl,hb5⟩;clear k0 k1 k2 k3 f0 f1 f2 f3 t0 t1 t2 t3 e0 e1 e2 e3;have HS5:=mh (HS.out.below hb5);have HT5:=mh (HT.out.below hb5);have HB5:=mh (bstep mle HB.out hb5);have HW5:=mh (HW2.out.below hb5);obtain⟨k0,k1,k2,k3,f0,f1,f2,f3,hl5⟩:=HS5.out;obtain⟨t0,t1,t2,t3,e0,e1,e2,e3,hl6⟩:=HT5.out;have HSG:=mh (HS5.out.far (k:=w.heap.size+1) (i:=1) (by omega) (I O v));have HTG:=mh (HT5.out.set1 (I O v));have HBF:=mh (show Below w.heap.size w (w5.setCell ⟨w.heap.size+1,1,none⟩ (I O v)) from HB5.out.setCell (Nat.le_succ _) _);have HWF:=mh (HW5.out.chg (B:=w.heap.size) (fun a e=>(HQ2.out a e).imp (fun h=>by rw[← bs_ll T,h];rfl) (fun h=>by rw[h];exact hbl)) (show Below w.heap.size w5 (w5.setCell ⟨w.heap.size+1,1,none⟩ (I O v)) from(brf w.heap.size w5).setCell (Nat.le_succ _) _));have hx3:=(hb5.cell (p:=⟨b3,off3,none⟩) hb3).trans HX3.out;have HW3:=mh ((HW3o.out.below hb5).chg (B:=w.heap.size) (fun a e=>(HQ3.out a e).imp (fun h=>by rw[← bs_ll U,h];rfl) (fun h=>by rw[h];exact hbl)) (show Below w.heap.size w5 (w5.setCell ⟨w.heap.size+1,1,none⟩ (I O v)) from(brf w.heap.size w5).setCell (Nat.le_succ _) _)))|(go_at_call 111;(with_reducible refine cmo (LT.out _) ?_);rintro e w6 ⟨m,rfl,hvv,hb6⟩;have HVV:=mh hvv;clear hvv;clear k0 k1 k2 k3 f0 f1 f2 f3 t0 t1 t2 t3 e0 e1 e2 e3 hx3;have HS6:=mh (HSG.out.below hb6);have HT6:=mh (HTG.out.below hb6);have HB6:=mh (bstep mle HBF.out hb6);have HW6:=mh (HW3.out.below hb6);obtain⟨k0,k1,k2,k3,f0,f1,f2,f3,hl5'⟩:=HS6.out;obtain⟨t0,t1,t2,t3,e0,e1,e2,e3,hl6'⟩:=HT6.out)|fail)
       obtain rfl:m0=m:=(HVV.out m0 rfl).symm;have HTX:=mh (HT6.out.set2 (I O m0));have HSX:=mh (HS6.out.far (k:=w.heap.size+1) (i:=2) (by omega) (I O m0));have HBX:=mh (show Below w.heap.size w (w6.setCell ⟨w.heap.size+1,2,none⟩ (I O m0)) from HB6.out.setCell (Nat.le_succ _) _);have HWX:=mh (HW6.out.chg (B:=w.heap.size) (fun a e=>(HQ3.out a e).imp (fun h=>by rw[← bs_ll U,h];rfl) (fun h=>by rw[h];exact hbl)) (show Below w.heap.size w6 (w6.setCell ⟨w.heap.size+1,2,none⟩ (I O m0)) from(brf w.heap.size w6).setCell (Nat.le_succ _) _));obtain⟨WX,eWX⟩:∃WX,w6.setCell ⟨w.heap.size+1,2,none⟩ (I O m0)=WX:=⟨_,rfl⟩;rw[eWX]at HTX HSX HBX HWX ⊢;clear t0 t1 t2 t3 e0 e1 e2 e3 k0 k1 k2 k3 f0 f1 f2 f3 eWX;obtain⟨t0,t1,t2,t3,e0,e1,e2,e3, -⟩:=HTX.out;obtain⟨k0,k1,k2,k3,f0,f1,f2,f3, -⟩:=HSX.out
       go_region
       go_wp2
       have FIN:=mh (by have:=read_good (w:=w) (W:=WX.drew) (t := .mk 7 v m0 []) (r:=ll U) (row:=⟨7,v,m0,none,0,0⟩) HBX.out.drew hbl (by rw[bs_ll];exact(HWX.out.below ((brf _ _).drew))) HQ3.out (TV.leaf _ _ 7 v m0);rw[ll_len]at this;exact this);unfold put4 at FIN;exact bodyPost_ret (v := .tuple #[.agg #[I O 7,I O v,I O m0,.slice none 0 0],.slice q3 U.length c3,.bool true]) (by simp[results,Tryz.results83,go_sem,k0,k1,k2,k3]) rfl FIN.out
end Go.Proofs.YtbcmabolkkfgfaaGreatDoor
