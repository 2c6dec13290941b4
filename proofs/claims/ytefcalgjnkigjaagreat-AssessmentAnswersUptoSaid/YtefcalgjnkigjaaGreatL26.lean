/- Packed. -/
import Derived.Test.YtefcalgjnkigjaaGreatL25
set_option maxRecDepth 100000
set_option maxHeartbeats 8000000
open Go.Value renaming int → I
open Go.IntKind renaming i64 → O
namespace Go.Proofs.YtefcalgjnkigjaaGreat
open Go.RowKit Sc As
structure FmO (w W:World) (t:Nat) (l:List Int) (q gy:Nat) (ya:Array Value) (v:Value) (R:List RF) (F:List FarmF):Prop where
 tp:TpB w W t l q
 yb:Blk W gy ya 29
 ro:yV SF FV 47 (gy+1) W v R F
 ord:w.heap.size≤gy
structure FmI (w wo W:World) (t:Nat) (l:List Int) (q gy gf:Nat) (ya:Array Value) (fa day:Int) (v:Value) (R:List RL) (K:List LineF):Prop where
 tp:TpB w W t l q
 yb:Blk W gy ya 29
 fb:Blk W gf #[I O fa,I O day,v] 47
 rw:yV SL LV 89 (gf+1) W v R K
 bo:But t wo W
 ord:t<gy∧gy<gf∧wo.heap.size≤gf∧w.heap.size≤gf
section
variable {w wo W W' w5 wa w7:World} {t q q' gy gf:Nat} {l:List Int} {ya:Array Value} {fa day:Int} {v v' : Value} {R:List RL} {K:List LineF} {r:RL} {x:LineF}
theorem FmO.next {R:List RF}{F:List FarmF}(h:FmO w W t l q gy ya v R F)(ht:qV W' t l q')(hb:But t W W'):FmO w W' t l q' gy ya v R F:=by
 have:=h.tp.lt;have:=h.ord;exact⟨h.tp.next ht hb,h.yb.but hb (by omega),h.ro.but FV.chgs hb (by omega),h.ord⟩
theorem FmI.init {R:List RF}{F:List FarmF}{vo:Value}(h:FmO w W t l q gy ya vo R F)(fa day:Int):FmI w W (W.alloc (.cells #[I O fa,I O day,.slice none 0 0] 47)) t l q gy W.heap.size ya fa day (.slice none 0 0) [] []:=by
 have hb:=(brf W.heap.size W).alloc mle (.cells #[I O fa,I O day,.slice none 0 0] 47);have:=h.tp.lt;have:=h.ord;exact⟨h.tp.below hb,h.yb.below hb,Blk.new _ _ _,yV.nil _ _ _ _ _,.of_below hb,by omega,h.yb.lt,Nat.le_refl _,h.tp.but.size⟩
theorem FmI.next (h:FmI w wo W t l q gy gf ya fa day v R K)(ht:qV W' t l q')(hb:But t W W'):FmI w wo W' t l q' gy gf ya fa day v R K:=by
 have:=h.ord;exact⟨h.tp.next ht hb,h.yb.but hb (by omega),h.fb.but hb (by omega),h.rw.but LV.chgs hb (by omega),h.bo.trans hb,h.ord⟩
theorem FmI.mid {H:Nat}(h:FmI w wo W t l q gy gf ya fa day v R K)(hb:But t W.drew w5)(hA:Below w5.heap.size w5 wa)(hap:jN wa w7 (gf+1) H v v'):Blk w7 gf #[I O fa,I O day,v] 47:=by
 have:=h.ord;have h1:Blk w5 gf #[I O fa,I O day,v] 47:=(h.fb.below (brf _ _).drew).but hb (by omega);exact(hap.below.block gf (Nat.lt_succ_self gf)).trans (h1.below hA)
theorem FmI.push (h:FmI w wo W t l q gy gf ya fa day v R K)(hb:But t W.drew w5)(ht:qV w5 t l q')(hv:LV (jP W.drew.heap.size) w5 r x)(hA:Below w5.heap.size w5 wa)
  (hO:qX SL w7 89 (gf+1) v' (R ++ [r])) (hap:jN wa w7 (gf+1) wa.heap.size v v'):FmI w wo (w7.setCell ⟨gf,2,none⟩ v') t l q' gy gf ya fa day v' (R ++ [r]) (K ++ [x]):=by
 have ho:=h.ord;have hfl:=h.fb.lt;have hd:=h.rw.below LV.chgs (brf W.heap.size W).drew;have hsz:W.heap.size≤w5.heap.size:=hb.size;have rr:=hd.push LV.chgs (show gf+1≤W.drew.heap.size from hfl) (hb.nxt hA) (by omega) mle (hv.below hA) hO hap;have b5:But t W w5:=(But.of_below (brf W.heap.size W).drew).trans hb;have ha5:=hA.size;have low:Below (gf+1) w5 w7:=(hA.mono (by omega)).trans hap.below;have low2:Below gf w5 (w7.setCell ⟨gf,2,none⟩ v'):=(low.mono (Nat.le_succ gf)).setCell mle _;have tw:=h.tp.lt;refine⟨⟨ht.belowB low2 (by omega),(h.tp.but.trans b5).stpB low2 ho.2.2.2,tw⟩,?_,?_,rr.setLow LV.chgs (Nat.lt_succ_self gf) _,?_,ho⟩
 ·exact(low2.block gy ho.2.1).trans (h.yb.but b5 (by omega))
 ·exact(h.mid hb hA hap).set 2 v'
 ·exact(h.bo.trans b5).stpB low2 ho.2.2.1
end
def FrmG (t:Nat) (l:List Int) (Y:YLaw) (most:Nat) (w:World) (e:Ending) (w' : World):Prop :=
 ∃(p:Option Addr) (F:List FarmF) (cap:Nat) (fa:Int) (q:Nat),e = .returned (.slice p F.length cap)∧F.length≤cap∧yF (jP w.heap.size) w' p F∧wN Y F fa∧F.length≤most∧TpB w w' t l q
theorem jNA {Q:Nat→Prop}(d t:Nat)(l:List Int)(a0 most:Nat)(r:RY)(Y:YLaw)(w:World)(h:qV w t l a0)(hQ:∀b,Q b→b≠t)(hY:YV Q w d r Y)(hl:YOk Y)(hm:most≤4) :
  Calls Tryz.prog 9 #[.pointer (some ⟨t,0,none⟩),.agg (yCells r).toArray,I O (most:Int)] w (FrmG t l Y most w):=by
 have LN:=mh (fun (W:World) (q:Nat) (hp:TpB w W t l q)=>xLA d t l q r Y W hp.tape hQ (hY.sch.change hp.but.size fun b k hl=>⟨hp.but.block b hl (hQ b k),k⟩) hY.sn hl);obtain⟨sp,sn,sc,tp,tn,tc,ldue,llast,lmille,gp,gn,gc,cp,ev,un,wd⟩:=r;simp only[yCells]at LN ⊢;have H0:=mh (TpB.init h);have TN:=mh (fun (W:World) (q:Nat) (n:Int) (h:qV W t l q) (hn:n≤9223372036854775807)=>qF t l q n W h hn);have TR:=mh (fun (W:World) (q:Nat) (h:qV W t l q)=>zU t l q 1 3 W h (by omega) (by omega) (by omega));obtain⟨gy,eg⟩:∃g,w.heap.size=g:=⟨_,rfl⟩;have O0:=mh (show FmO w (w.alloc (.cells #[.slice sp sn sc,.slice tp tn tc,I O ldue,I O llast,I O lmille,.slice gp gn gc,I O cp,I O ev,I O un,I O wd] 29)) t l a0 gy #[.slice sp sn sc,.slice tp tn tc,I O ldue,I O llast,I O lmille,.slice gp gn gc,I O cp,I O ev,I O un,I O wd] (.slice none 0 0) [] [] from⟨H0.alloc _,eg▸Blk.new _ _ _,yV.nil _ _ _ _ _,by omega⟩);have hmi:(most:Int)≤4:=by omega
 obtain⟨n0,en0⟩:∃x,qN l a0 ((most:Int)+1)=x:=⟨_,rfl⟩;have hn0:=qG l a0 (n:=(most:Int)+1) (by omega);rw[en0]at hn0;have T0:=mh (en0▸TN.out _ a0 ((most:Int)+1) O0.tp.tape (by omega));obtain⟨N0,rfl⟩:=Int.eq_ofNat_of_zero_le hn0.1;have hN0:N0≤most:=by omega
 clear h hY hl hQ en0 hn0
 go_enter Tryz.func9,Tryz.ntmps9
 go_wp2_with fail
 clear eg;generalize w.alloc (.cells #[.slice sp sn sc,.slice tp tn tc,I O ldue,I O llast,I O lmille,.slice gp gn gc,I O cp,I O ev,I O un,I O wd] 29)=w0 at *;(with_reducible refine cmo T0.out ?_);rintro e w1 ⟨rfl,ht1,hb1⟩;have O1:=mh (O0.next ht1 hb1);clear ht1 hb1 O0 T0
 go_wp2_with fail
 go_loopw [7,8,9] (fun vo fv nv W=>∃(N:Nat) (fa:Int) (F:List FarmF) (R:List RF) (q:Nat),nv=I O N∧fv=I O fa∧N+F.length≤most∧wN Y F fa∧FmO w W t l q gy #[.slice sp sn sc,.slice tp tn tc,I O ldue,I O llast,I O lmille,.slice gp gn gc,I O cp,I O ev,I O un,I O wd] vo R F) (fun _ _ n _=>(intOf n).toNat)
 case atStart=>exact⟨N0,0, [], [],_,rfl,rfl,by simpa using hN0,wN.nil _,O1.out⟩
 case round =>
  clear O1;obtain⟨wo,rfl⟩:∃wo:World,wo=wr:=⟨_,rfl⟩;obtain⟨N,fa,F,R,q,rfl,rfl,hN,hF,hO⟩:=hrel;have HO:=mh hO;have HF:=mh hF;have hf0:=hF.f0;have hf1:=hF.f1;have hNi:(0:Int)≤(N:Int):=inn _;clear hO hF
  rcases Nat.eq_zero_or_pos N with hz|hz
  ·subst hz
   rw[show((0:Nat):Int)=0 from rfl];obtain⟨p,c,rfl,hc, -,hFs⟩:=HO.ro.farms rfl;have HFs:=mh (And.intro hc hFs);clear hc hFs
   go_wp2_with fail
   go_ret
   exact⟨p,F,c,fa,q,rfl,HFs.1,HFs.2.change mle fun b k _=>⟨rfl,by have:=HO.ord;unfold jP;omega⟩,HF.out,by omega,HO.tp⟩
  ·obtain⟨M,rfl⟩:∃M,N=M+1:=⟨N - 1,by omega⟩
   have hMi:(0:Int)<((M+1:Nat):Int):=by omega
   obtain⟨g1,eg1⟩:∃x:Int,1+qN l q (3 - 1+1)=x:=⟨_,rfl⟩;have hg1:=qG l q (n:=3 - 1+1) (by omega);obtain⟨q1,eq1⟩:∃x,qM l q=x:=⟨_,rfl⟩;have T1:=mh (eq1▸eg1▸TR.out wo q HO.tp.tape);have hga:1≤g1∧g1≤3:=by omega
   clear eg1 eq1 hg1;obtain⟨fa2,efa⟩:∃x:Int,fa+g1=x:=⟨_,rfl⟩;have hwf:IntKind.i64.wrap (fa+g1)=fa2:=by rw[IntKind.wrap_i64];omega
   have HFA:=mh (show fa<fa2∧fa2≤fa+3∧1≤fa2∧fa2≤60 by omega);clear efa
   go_wp2_with fail
   (with_reducible refine cmo T1.out ?_);rintro e w2 ⟨rfl,ht2,hb2⟩;have O2:=mh (HO.next ht2 hb2);clear ht2 hb2 T1;obtain⟨day,ed⟩:∃x:Int,qN l q1 60=x:=⟨_,rfl⟩;have hd:=qG l q1 (n:=60) (by omega);rw[ed]at hd;obtain⟨q2,eq2⟩:∃x,qM l q1=x:=⟨_,rfl⟩;have T2:=mh (eq2▸ed▸TN.out w2 q1 60 O2.tp.tape (by omega));have HD:=mh hd;clear ed eq2 hd
   go_wp2_with fail
   (with_reducible refine cmo T2.out ?_);rintro e w3 ⟨rfl,ht3,hb3⟩;have O3:=mh (O2.next ht3 hb3);clear ht3 hb3 T2;have I0:=mh (FmI.init O3 fa2 day);obtain⟨n3,en3⟩:∃x:Int,qN l q2 4=x:=⟨_,rfl⟩;have hn3:=qG l q2 (n:=4) (by omega);rw[en3]at hn3;have T3:=mh (en3▸TN.out _ q2 4 I0.tp.tape (by omega));obtain⟨N3,rfl⟩:=Int.eq_ofNat_of_zero_le hn3.1;have hN3:N3≤3:=by omega
   clear en3 hn3;obtain⟨gf,egf⟩:∃g,w3.heap.size=g:=⟨_,rfl⟩;rw[egf]at I0
   go_wp2_with fail
   clear egf;generalize w3.alloc (.cells #[I O fa2,I O day,.slice none 0 0] 47)=w4 at *;(with_reducible refine cmo T3.out ?_);rintro e w6 ⟨rfl,ht6,hb6⟩;have I1:=mh (I0.next ht6 hb6);clear ht6 hb6 T3 I0
   go_wp2_with fail
   go_loopw [11] (fun kv W=>∃(m q:Nat) (v:Value) (K:List LineF) (R:List RL),kv=I O m∧m+K.length≤3∧tD Y K 3∧FmI w w3 W t l q gy gf #[.slice sp sn sc,.slice tp tn tc,I O ldue,I O llast,I O lmille,.slice gp gn gc,I O cp,I O ev,I O un,I O wd] fa2 day v R K) (fun k _=>(intOf k).toNat)
   case atStart=>exact⟨N3,_,_, [], [],rfl,by simpa using hN3,tD.nil _ _,I1.out⟩
   case round =>
    clear I1;obtain⟨wi,rfl⟩:∃wi:World,wi=wr:=⟨_,rfl⟩;obtain⟨m0,q0,v,K,R2,rfl,hmk,hLK,hI⟩:=hrel;have HLK:=mh hLK;have HI:=mh hI;have hmi0:(0:Int)≤(m0:Int):=inn _;obtain⟨lp,lc,rfl,hlc,hlz,hLs⟩:=hI.rw.lines rfl;clear hLK
    rcases Nat.eq_zero_or_pos m0 with hz0|hz0
    ·subst hz0
     rw[show((0:Nat):Int)=0 from rfl]
     have HV:=mh (show FV (jP w3.heap.size) wi ⟨fa2,day,lp,K.length,lc⟩ ⟨fa2,day,K⟩ from
      ⟨rfl,rfl,hLs.change mle fun b k _=>⟨rfl,by have:=hI.ord;unfold jP;omega⟩,rfl,hlc,hlz⟩)
     have HFM:=mh (HLK.farm HFA.2.2.1 HFA.2.2.2 HD.1 HD.2);have c0:=hI.fb.cell 0;have c1:=hI.fb.cell 1;have c2:=hI.fb.cell 2;have HOW:=mh (O3.ro.but FV.chgs HI.bo (by have:=HI.ord;omega));clear hI hLs hlc hlz
     go_wp2_with (first|(at_builtin;(refine qX.append kU rfl (.tmp 42) (.tmp 44) rfl (gy+1) _ R ⟨fa2,day,lp,K.length,lc⟩ #[I O fa2,I O day,.slice lp K.length lc] rfl HOW.own rfl (by simp[Act.eval]) (show gy<wi.heap.size from HI.yb.lt) (by have:=HOW.hl;omega) (by decide) ?_);intro v8 w8 hO8 hap8;have HRO:=mh (O3.ro.push FV.chgs (show gy<w3.heap.size from O3.yb.lt) HI.bo (by have:=HI.ord;omega) (Nat.le_succ _) HV hO8 hap8);have HOO:=mh (show FmO w w8 t l q0 gy #[.slice sp sn sc,.slice tp tn tc,I O ldue,I O llast,I O lmille,.slice gp gn gc,I O cp,I O ev,I O un,I O wd] v8 _ _ from⟨HI.tp.belowB (hap8.below.mono (by have:=O3.ord;omega)),(hap8.below.block gy (Nat.lt_succ_self gy)).trans HI.yb,HRO.out,O3.ord⟩);clear hO8 hap8)|fail)
     go_roundw
     case rel=>exact⟨M,fa2,F ++ [⟨fa2,day,K⟩],_,q0,by go_num,rfl,by rw[lap,List.length_singleton];omega,HF.snoc HFM HFA.1 HFA.2.1,HOO.out⟩
     case measure=>simp[intOf]
    ·obtain⟨m,rfl⟩:∃m,m0=m+1:=⟨m0 - 1,by omega⟩
     have hmp:(0:Int)<((m+1:Nat):Int):=by omega
     have HKL:=mh (show K.length<3 by omega);have ES:=mh (fun (W:World) (hb:Blk W gf #[I O fa2,I O day,.slice lp K.length lc] 47) (hy:Blk W gy #[.slice sp sn sc,.slice tp tn tc,I O ldue,I O llast,I O lmille,.slice gp gn gc,I O cp,I O ev,I O un,I O wd] 29)=>show W.cell? ⟨gf,2,none⟩=some (.slice lp K.length lc)∧W.cell? ⟨gy,0,none⟩=some (.slice sp sn sc)∧W.cell? ⟨gy,1,none⟩=some (.slice tp tn tc)∧W.cell? ⟨gy,2,none⟩=some (I O ldue)∧W.cell? ⟨gy,3,none⟩=some (I O llast)∧W.cell? ⟨gy,4,none⟩=some (I O lmille)∧W.cell? ⟨gy,5,none⟩=some (.slice gp gn gc)∧W.cell? ⟨gy,6,none⟩=some (I O cp)∧W.cell? ⟨gy,7,none⟩=some (I O ev)∧W.cell? ⟨gy,8,none⟩=some (I O un)∧W.cell? ⟨gy,9,none⟩=some (I O wd) from⟨hb.cell 2,hy.cell 0,hy.cell 1,hy.cell 2,hy.cell 3,hy.cell 4,hy.cell 5,hy.cell 6,hy.cell 7,hy.cell 8,hy.cell 9⟩);have KD:=mh (ES wi.drew (hI.fb.below (brf _ _).drew) (hI.yb.below (brf _ _).drew));have KS:=mh (fun (W:World) (hb:But t wi.drew W)=>ES.out W ((HI.fb.below (brf _ _).drew).but hb (by have:=HI.ord;omega)) ((HI.yb.below (brf _ _).drew).but hb (by have:=HI.ord;omega)))
     have KB:=mh (fun (W W' : World) (h:W.cell? ⟨gf,2,none⟩=some (.slice lp K.length lc)∧W.cell? ⟨gy,0,none⟩=some (.slice sp sn sc)∧W.cell? ⟨gy,1,none⟩=some (.slice tp tn tc)∧W.cell? ⟨gy,2,none⟩=some (I O ldue)∧W.cell? ⟨gy,3,none⟩=some (I O llast)∧W.cell? ⟨gy,4,none⟩=some (I O lmille)∧W.cell? ⟨gy,5,none⟩=some (.slice gp gn gc)∧W.cell? ⟨gy,6,none⟩=some (I O cp)∧W.cell? ⟨gy,7,none⟩=some (I O ev)∧W.cell? ⟨gy,8,none⟩=some (I O un)∧W.cell? ⟨gy,9,none⟩=some (I O wd)) (hb:Below (gf+1) W W')=>show W'.cell? ⟨gf,2,none⟩=some (.slice lp K.length lc)∧W'.cell? ⟨gy,0,none⟩=some (.slice sp sn sc)∧W'.cell? ⟨gy,1,none⟩=some (.slice tp tn tc)∧W'.cell? ⟨gy,2,none⟩=some (I O ldue)∧W'.cell? ⟨gy,3,none⟩=some (I O llast)∧W'.cell? ⟨gy,4,none⟩=some (I O lmille)∧W'.cell? ⟨gy,5,none⟩=some (.slice gp gn gc)∧W'.cell? ⟨gy,6,none⟩=some (I O cp)∧W'.cell? ⟨gy,7,none⟩=some (I O ev)∧W'.cell? ⟨gy,8,none⟩=some (I O un)∧W'.cell? ⟨gy,9,none⟩=some (I O wd) from
      ⟨(hb.cell (p:=⟨gf,2,none⟩) (Nat.lt_succ_self gf)).trans h.1,(hb.cell (p:=⟨gy,0,none⟩) (show gy<gf+1 by have:=HI.ord;omega)).trans h.2.1,(hb.cell (p:=⟨gy,1,none⟩) (show gy<gf+1 by have:=HI.ord;omega)).trans h.2.2.1,(hb.cell (p:=⟨gy,2,none⟩) (show gy<gf+1 by have:=HI.ord;omega)).trans h.2.2.2.1,(hb.cell (p:=⟨gy,3,none⟩) (show gy<gf+1 by have:=HI.ord;omega)).trans h.2.2.2.2.1,(hb.cell (p:=⟨gy,4,none⟩) (show gy<gf+1 by have:=HI.ord;omega)).trans h.2.2.2.2.2.1,(hb.cell (p:=⟨gy,5,none⟩) (show gy<gf+1 by have:=HI.ord;omega)).trans h.2.2.2.2.2.2.1,(hb.cell (p:=⟨gy,6,none⟩) (show gy<gf+1 by have:=HI.ord;omega)).trans h.2.2.2.2.2.2.2.1,(hb.cell (p:=⟨gy,7,none⟩) (show gy<gf+1 by have:=HI.ord;omega)).trans h.2.2.2.2.2.2.2.2.1,(hb.cell (p:=⟨gy,8,none⟩) (show gy<gf+1 by have:=HI.ord;omega)).trans h.2.2.2.2.2.2.2.2.2.1,(hb.cell (p:=⟨gy,9,none⟩) (show gy<gf+1 by have:=HI.ord;omega)).trans h.2.2.2.2.2.2.2.2.2.2⟩)
     clear hI hLs hlc hlz ES
     go_wp2_with fail
     refine kD (fun w' => w'.cell? ⟨gf,2,none⟩=some (.slice lp K.length lc)∧w'.cell? ⟨gy,0,none⟩=some (.slice sp sn sc)∧w'.cell? ⟨gy,1,none⟩=some (.slice tp tn tc)∧w'.cell? ⟨gy,2,none⟩=some (I O ldue)∧w'.cell? ⟨gy,3,none⟩=some (I O llast)∧w'.cell? ⟨gy,4,none⟩=some (I O lmille)∧w'.cell? ⟨gy,5,none⟩=some (.slice gp gn gc)∧w'.cell? ⟨gy,6,none⟩=some (I O cp)∧w'.cell? ⟨gy,7,none⟩=some (I O ev)∧w'.cell? ⟨gy,8,none⟩=some (I O un)∧w'.cell? ⟨gy,9,none⟩=some (I O wd)) 8 (by kernel_rfl) KD (fun hHeld=>?_)
     refine tkG 0 34 ?_
     refine tkG 1 35 ?_
     refine tkG 2 36 ?_
     refine tkG 3 37 ?_
     refine jM (i:=4) (o:=⟨some 38,_,_,_,_,_⟩) (by kernel_rfl) (by kernel_rfl) rfl (fun K0 hK=>?_)
     go_simp
     (with_reducible refine cmo (LN.out _ _ HI.out.tp.drew) ?_);rintro e w5 ⟨⟨dl,ls,dp,dn,dc,se,ki,ar,bo⟩,x,q5,rfl,hv,hok,hd,hp5⟩;simp only[jS]
     go_wp2_with fail
     have K5:=mh (KS w5 hp5.but);have HP5:=mh (TpB.trans HI.tp.drew hp5);have HX5:=mh (And.intro hv (And.intro hok hd));have HB5:=mh hp5.but;clear hv hok hd hp5;refine hK.out _ _ K5 ?_;clear hK K0
     (try dsimp only[Act.put])
     try simp only[mnA,mnB,mnC]
     have HA:=mh ((brf w5.heap.size w5).alloc mle (.cells #[I O dl,I O ls,.slice dp dn dc,I O se,I O ki,I O ar,I O bo] 89));have HZ5:=mh (show wi.heap.size≤w5.heap.size from HB5.size);have R5:=mh (((HI.rw.below LV.chgs (brf wi.heap.size wi).drew).but LV.chgs HB5 (by have:=HI.ord;omega)).below LV.chgs HA);have K6:=mh (KB _ (w5.alloc (.cells #[I O dl,I O ls,.slice dp dn dc,I O se,I O ki,I O ar,I O bo] 89)) K5 (HA.mono (by have:=HI.fb.lt;have:=HZ5.out;omega)));have SR5:=mh (show qD SL (w5.alloc (.cells #[I O dl,I O ls,.slice dp dn dc,I O se,I O ki,I O ar,I O bo] 89)) (some ⟨w5.heap.size,0,none⟩) [(⟨dl,ls,dp,dn,dc,se,ki,ar,bo⟩:RL)] from qD.lit (S:=SL) w5 _ [(⟨dl,ls,dp,dn,dc,se,ki,ar,bo⟩:RL)] (by show 1≤_;unfold maxLen;omega));refine jM (i:=5) (o:=⟨some 39,_,_,_,_,_⟩) (by kernel_rfl) (by kernel_rfl) rfl (fun K0 hK=>?_);go_simp;refine hK.out _ _ K6 ?_;clear hK K0
     (try dsimp only[Act.put])
     try simp only[mnA,mnB,mnC]
     refine jM (i:=6) (o:=⟨some 40,_,_,_,_,_⟩) (by kernel_rfl) (by kernel_rfl) rfl (fun K0 hK=>?_)
     refine qX.stepAp yUA (by rfl) (.tmp 35) (.tmp 39) (by rfl) (gf+1) (.slice lp K.length lc) R2 [(⟨dl,ls,dp,dn,dc,se,ki,ar,bo⟩:RL)] (some ⟨w5.heap.size,0,none⟩) 1 1 rfl R5.own SR5 (fun h=>by cases h) (by rfl) (by rfl) (by rw[World.size_alloc];have:=HI.fb.lt;have:=HZ5.out;omega) (by have:=R5.hl;have:=HKL.out;omega) (by decide) ?_
     intro v7 w7 hO7 hap7;obtain⟨p7,c7,rfl, -⟩:=hO7.cut (n:=K.length+1) (by rw[lap,R5.out.hl];rfl);have HF7:=mh (HI.push HB5 HP5.tape HX5.1 HA hO7 hap7);have K7:=mh (KB _ w7 K6 hap7.below);have B7:=mh (HI.mid HB5 HA hap7);have x2:=B7.cell 2;have x2f:=B7.fr 2;clear hO7 hap7;refine hK.out _ _ K7 ?_;clear hK K0
     (try dsimp only[Act.put])
     try simp only[mnA,mnB,mnC]
     refine tkG 7 41 ?_
     refine yJ (o:=⟨none,_,_,_,_,_⟩) (by kernel_rfl) rfl (fun K0 hK=>?_)
     go_simp
     refine hK.out _ _ ?_
     clear hK K0
     (try dsimp only[Act.put])
     try simp only[mnA,mnB,mnC]
     refine wpAnyH_done (by kernel_rfl) ?_ _
     go_wp2_with fail
     go_roundw
     case rel=>exact⟨m,q5,_,K ++ [x],_,by go_num,by rw[lap,List.length_singleton];omega,HLK.snoc (by have:=HKL.out;omega) HX5.2.1 HX5.2.2,HF7.out⟩
     case measure=>simp[intOf]
end Go.Proofs.YtefcalgjnkigjaaGreat
namespace Go.Proofs.YtefcalgjnkigjaaGreat
open Go.RowKit Sc As
structure zX {ρ β:Type} (S:jJ ρ) (V:(Nat→Prop)→World→ρ→β→Prop) (T:TypeId) (B:Nat) (Q:Nat→Prop) (W:World) (v:Value) (R:List ρ) (K:List β):Prop where
 hl:R.length=K.length
 own:qX S W T B v R
 oq:∀g,v.ownBlock=some g→Q g
 rows:∃φ:Nat→Nat→Prop,(∀k (h:k<R.length) (h' : k<K.length),V (φ k) W R[k] K[k])∧(∀k b,φ k b→Q b∧v.ownBlock≠some b)∧∀j k b,j≠k→φ j b→¬φ k b
section
variable {ρ β:Type} {S:jJ ρ} {V V2:(Nat→Prop)→World→ρ→β→Prop} {T:TypeId} {B t G:Nat} {Q Q' : Nat→Prop} {W w' w5 w6:World} {v v6:Value} {R:List ρ} {K:List β} {r:ρ} {x:β}
theorem zX.nil (S:jJ ρ)(V:(Nat→Prop)→World→ρ→β→Prop)(T:TypeId)(B:Nat)(Q:Nat→Prop)(W:World):zX S V T B Q W (.slice none 0 0) [] [] :=
 ⟨rfl,qX.nil _ _ _,(fun g e=>by cases e),fun _ _=>False,(fun k h=>by simp at h),(fun _ _ h=>h.elim),fun _ _ _ _ h=>h.elim⟩
theorem zX.change (hV:wH V)(h:zX S V T B Q W v R K)(hs:W.heap.size≤w'.heap.size)(hb:∀b,Q b→b<W.heap.size→w'.heap[b]?=W.heap[b]?∧Q' b):zX S V T B Q' w' v R K:=by
 obtain⟨h1,h2,h3,φ,h4,h5,h6⟩:=h;refine⟨h1,h2.blocks fun g hg _ hl=>(hb g (h3 g hg) hl).1,fun g hg=>(hb g (h3 g hg) (h2.lt hg).2).2,fun k b=>φ k b∧b<W.heap.size,fun k a c=>?_,fun k b q=>⟨(hb b (h5 k b q.1).1 q.2).2,(h5 k b q.1).2⟩,fun j k b e p q=>h6 j k b e p.1 q.1⟩;exact hV _ _ _ _ _ _ (h4 k a c) hs fun b q hl=>⟨(hb b (h5 k b q).1 hl).1,q,hl⟩
theorem zX.map (hV:∀Q W r x,V Q W r x→V2 Q W r x)(h:zX S V T B Q W v R K):zX S V2 T B Q W v R K:=by
 obtain⟨h1,h2,h3,φ,h4,h5,h6⟩:=h;exact⟨h1,h2,h3,φ,fun k a c=>hV _ _ _ _ (h4 k a c),h5,h6⟩
theorem zX.upd (hV:wH V)(h:zX S V T B Q W v R K){k:Nat}(hk:k<R.length)(hk' : k<K.length):∃φ:Nat→Prop,V φ W R[k] K[k]∧(∀b,φ b→Q b∧v.ownBlock≠some b) ∧
  ∀(w' : World) (a:ρ) (x:β) (φ' Q' : Nat→Prop),W.heap.size≤w'.heap.size→qX S w' T B v (R.set k a)→V φ' w' a x→(∀b,φ' b→(φ b∨W.heap.size≤b)∧Q' b) →
    (∀b,Q b→b<W.heap.size→(¬φ b→v.ownBlock≠some b→w'.heap[b]?=W.heap[b]?)∧Q' b)→zX S V T B Q' w' v (R.set k a) (K.set k x):=by
 obtain⟨h1,h2,h3,φ,h4,h5,h6⟩:=h;refine⟨φ k,h4 k hk hk', h5 k,fun w' a x φ' Q' hs hO hv hp hb=>⟨by simp[h1],hO,fun g hg=>(hb g (h3 g hg) (h2.lt hg).2).2,fun j b=>(j=k∧φ' b)∨(j≠k∧φ j b∧b<W.heap.size),fun j hj hj' => ?_,fun j b q=>?_,fun i j b e p q=>?_⟩⟩
 ·by_cases e:j=k
  ·subst e
   rw[List.getElem_set_self,List.getElem_set_self];exact(hV _ _ _ _ _ _ hv mle fun b q _=>⟨rfl,.inl ⟨rfl,q⟩⟩)
  ·rw[List.getElem_set_ne (Ne.symm e),List.getElem_set_ne (Ne.symm e)]
   rw[List.length_set]at hj hj'; refine hV _ _ _ _ _ _ (h4 j hj hj') hs fun b q hl=>⟨(hb b (h5 j b q).1 hl).1 (h6 j k b e q) (h5 j b q).2,.inr ⟨e,q,hl⟩⟩
 ·rcases q with⟨rfl,q⟩|⟨_,q,hl⟩
  ·refine⟨(hp b q).2,fun e=>?_⟩
   rcases (hp b q).1 with q|q
   ·exact(h5 j b q).2 e
   ·have:=(h2.lt e).2;omega
  ·exact⟨(hb b (h5 j b q).1 hl).2,(h5 j b q).2⟩
 ·rcases p with⟨rfl,p⟩|⟨ni,p,pl⟩
  ·rcases q with⟨rfl,q⟩|⟨nj,q,ql⟩
   ·exact e rfl
   ·rcases (hp b p).1 with p|p
    ·exact h6 i j b e p q
    ·omega
  ·rcases q with⟨rfl,q⟩|⟨nj,q,ql⟩
   ·rcases (hp b q).1 with q|q
    ·exact h6 i j b e p q
    ·omega
   ·exact h6 i j b e p q
theorem zX.push (hV:wH V)(h:zX S V T B Q W v R K)(hs:W.heap.size≤w5.heap.size)(hb:∀b,Q b→b<W.heap.size→w5.heap[b]?=W.heap[b]?∧Q' b)(hG:w5.heap.size≤G)(hQ:∀b,W.heap.size≤b→Q' b)
  (hv:V (jP W.heap.size) w5 r x) (hO:qX S w6 T B v6 (R ++ [r])) (hap:jN w5 w6 B G v v6):zX S V T B Q' w6 v6 (R ++ [r]) (K ++ [x]):=by
 obtain⟨h1,h2,h3,φ,h4,h5,h6⟩:=h;have hvl:∀g,v.ownBlock=some g→g<W.heap.size:=fun g e=>(h2.lt e).2
 have hap' : ∀b,b<w5.heap.size→v.ownBlock≠some b→v6.ownBlock≠some b:=fun b hl hn=>hap.apart hG hl hn
 refine⟨by rw[lap,lap,h1];rfl,hO,fun g hg=>?_,fun j b=>(j<R.length∧φ j b∧b<W.heap.size)∨(j=R.length∧W.heap.size≤b∧b<w5.heap.size),fun j a c=>?_,fun j b q=>?_,fun i j b e p q=>?_⟩
 ·rcases hap.block with e|e
  ·rw[e]at hg;exact(hb g (h3 g hg) (hvl g hg)).2
  ·rw[e]at hg;cases hg;exact hQ _ (by omega)
 ·by_cases hlt:j<R.length
  ·rw[List.getElem_append_left hlt,List.getElem_append_left (by rw[← h1];exact hlt)]
   refine hV _ _ _ _ _ _ (h4 j hlt (by rw[← h1];exact hlt)) (Nat.le_trans hs hap.size) fun b q hl=>⟨(hap.far b (nll hl hs) (h5 j b q).2).trans (hb b (h5 j b q).1 hl).1,.inl ⟨hlt,q,hl⟩⟩
  ·have ej:j=R.length:=by rw[lap]at a;simp at a;omega
   subst ej;rw[List.getElem_append_right mle,List.getElem_append_right (by rw[h1];exact Nat.le_refl _)];simp only[Nat.sub_self,h1,List.getElem_cons_zero];refine hV _ _ _ _ _ _ hv hap.size fun b q hl=>⟨hap.far b hl fun e=>by have:=hvl b e;unfold jP at q;omega,.inr ⟨by simp,q,hl⟩⟩
 ·rcases q with⟨_,q,hl⟩|⟨_,q,hl⟩
  ·exact⟨(hb b (h5 j b q).1 hl).2,hap' b (nll hl hs) (h5 j b q).2⟩
  ·exact⟨hQ b q,hap' b hl fun e=>by have:=hvl b e;omega⟩
 ·rcases p with⟨pi,p,pl⟩|⟨ei,p,pl⟩
  ·rcases q with⟨qj,q,ql⟩|⟨ej,q,ql⟩
   ·exact h6 i j b e p q
   ·omega
  ·rcases q with⟨qj,q,ql⟩|⟨ej,q,ql⟩
   ·omega
   ·omega
end
def LVw (Q:Nat→Prop) (w:World) (r:RL) (x:LineF):Prop:=LV Q w r x∧qX SI w 3 0 (.slice r.dp r.dn r.dc) x.due∧∀g,(Value.slice r.dp r.dn r.dc).ownBlock=some g→Q g
theorem LVw.chgs:wH LVw:=fun _ _ _ _ _ _ h hs hb=>⟨h.1.change hs hb,h.2.1.blocks fun g hg _ hl=>(hb g (h.2.2 g hg) hl).1,fun g hg=>(hb g (h.2.2 g hg) (h.2.1.lt hg).2).2⟩
structure FVs (V:(Nat→Prop)→World→RL→LineF→Prop) (Q:Nat→Prop) (w:World) (r:RF) (f:FarmF):Prop where
 farm:r.farm=f.farm
 day:r.day=f.day
 lines:∃L:List RL,zX SL V 89 0 Q w (.slice r.lp r.ln r.lc) L f.lines
theorem FVs.chgs {V:(Nat→Prop)→World→RL→LineF→Prop}(hV:wH V):wH (FVs V):=fun _ _ _ _ _ _ h hs hb=>⟨h.farm,h.day,h.lines.imp fun _ h=>h.change hV hs hb⟩
theorem FVs.map {V V2:(Nat→Prop)→World→RL→LineF→Prop}(hV:∀Q W r x,V Q W r x→V2 Q W r x){Q:Nat→Prop}{w:World}{r:RF}{f:FarmF}(h:FVs V Q w r f):FVs V2 Q w r f:=⟨h.farm,h.day,h.lines.imp fun _ h=>h.map hV⟩
theorem zX.lines {B:Nat}{Q:Nat→Prop}{W:World}{p:Option Addr}{n c:Nat}{R:List RL}{K:List LineF}(h:zX SL LV 89 B Q W (.slice p n c) R K):wF Q W p K∧n=K.length∧n≤c∧(p=none→c=0):=by
 obtain⟨h1,h2,h3,φ,h4,h5,h6⟩:=h;obtain⟨p', c', e,g1,g2,g3, -,g5⟩:=h2.cut (n:=K.length) h1
 cases e
 exact⟨⟨⟨R,h1,g5,fun k a b=>(h4 k a b).change mle fun b q _=>⟨rfl,(h5 k b q).1⟩⟩,fun a e => .inr (h3 a.block (by rw[e];rfl))⟩,rfl,g3,fun e=>(g1 e).1⟩
theorem FVs.fv {Q:Nat→Prop}{w:World}{r:RF}{f:FarmF}(h:FVs LV Q w r f):FV Q w r f:=by
 obtain⟨L,hL⟩:=h.lines;obtain⟨h1,h2,h3,h4⟩:=hL.lines;exact⟨h.farm,h.day,h1,h2,h3,h4⟩
theorem zX.farms {B:Nat}{Q:Nat→Prop}{W:World}{p:Option Addr}{n c:Nat}{R:List RF}{K:List FarmF}(h:zX SF (FVs LV) 47 B Q W (.slice p n c) R K):yF Q W p K∧n=K.length∧n≤c∧(p=none→c=0):=by
 obtain⟨h1,h2,h3,φ,h4,h5,h6⟩:=h;obtain⟨p', c', e,g1,g2,g3, -,g5⟩:=h2.cut (n:=K.length) h1
 cases e
 exact⟨⟨⟨R,h1,g5,fun k a b=>(h4 k a b).fv.change mle fun b q _=>⟨rfl,(h5 k b q).1⟩⟩,fun a e => .inr (h3 a.block (by rw[e];rfl))⟩,rfl,g3,fun e=>(g1 e).1⟩
end Go.Proofs.YtefcalgjnkigjaaGreat
namespace Go.Proofs.YtefcalgjnkigjaaGreat
open Go.RowKit
theorem gV {p:Prop} [Decidable p] (h:decide p=true):p:=of_decide_eq_true h
theorem xT {p:Prop} [Decidable p] (h:decide p=false):¬p:=of_decide_eq_false h
theorem gP (p:Option Addr)(D:List (Int × Int))(cap:Nat)(w:World)(h:jF w p D) :
  Calls Tryz.prog 55 #[.slice p D.length cap] w fun e w' => e = .returned (I O (Ce.chk D))∧∃n,w' = w.drewN n:=by
 have hn:=h.len
 by_cases h6:6<D.length
 ·have hc:Ce.chk D=66:=Ce.chk_not fun hR=>by have:=hR.len;omega
  rw[hc];clear h
  go_enter Tryz.func55,Tryz.ntmps55
  go_wp2
  go_ret
  exact⟨rfl,0,rfl⟩
 ·have H:=mh h
  clear h
  go_enter Tryz.func55,Tryz.ntmps55
  go_wp2
  go_loopw [3] (fun i wr=>∃k n:Nat,k≤D.length∧i=I O k∧(∀j,j<k→Ce.okAt D j=true)∧wr=w.drewN n) (fun i _=>D.length - (intOf i).toNat)
  case atStart=>exact⟨0,0,Nat.zero_le _,rfl,fun j hj=>absurd hj (Nat.not_lt_zero j),rfl⟩
  case round =>
   obtain⟨k,n,hk,rfl,hok,hwr⟩:=hrel;have HW:=mh hwr;have hcells:∀a,wr.cell? a=w.cell? a:=fun a=>by rw[hwr];rfl
   have HCE:=mh hcells;clear hwr hcells;have HOK:=mh hok;clear hok
   by_cases hlt:k<D.length
   ·obtain⟨b,off,x,y,rfl,hbl,hx0,hy0,hxy⟩:=H.get hlt
    rw[← HCE.out]at hx0 hy0;have hk0:(0:Int)≤(k:Int):=inn _;have hk1:(k:Int)<(D.length:Int):=by omega
    rcases Nat.eq_zero_or_pos k with rfl|hpos
    ·simp only[Nat.zero_mul,Nat.add_zero]at hx0 hy0
     rcases (show En.money x=false∨(En.money x=true∧decide (y<0)=true)∨(En.money x=true∧decide (y<0)=false∧decide (1000<y)=true)∨(En.money x=true∧decide (y<0)=false∧decide (1000<y)=false) by
      cases En.money x<;>simp<;>omega) with m|⟨m,b1⟩|⟨m,b1,b2⟩|⟨m,b1,b2⟩
     case inr.inr.inr =>
      have hO:=mh (cQ (lx:=0) (ly:=0) hxy.out (fun h=>absurd rfl h) m (xT b1) (xT b2) (by have:=xT b1;omega) (by omega))
      go_wp2_with fail
      go_quiet ((go_at_call 56;exact Calls.quiet_of_same (Calls.turn (qL _ _))))
      go_wp2
      go_roundw
      case rel=>exact⟨1,_,by omega,by go_num,fun j hj=>(show j=0 by omega)▸hO.out,by rw[HW.out];exact qE _ _ _⟩
      case measure=>simp[intOf];omega
     all_goals
      have hB:=mh (rQ hlt (mE (lx:=0) (ly:=0) hxy.out (fun h=>absurd rfl h) (fun _=>⟨rfl,rfl⟩) (by first|exact .inl m|exact .inr (.inl (gV b1))|exact .inr (.inr (.inl (gV b2))))))
      go_wp2_with fail
      go_quiet ((go_at_call 56;exact Calls.quiet_of_same (Calls.turn (qL _ _))))
      go_wp2
      go_ret
      exact⟨by rw[hB.out];rfl,_,by rw[HW.out];exact qE _ _ _⟩
    ·obtain⟨k', rfl⟩:∃k', k=k' + 1:=⟨k - 1,by omega⟩
     obtain⟨b', off', lx,ly,e, -,hlx0,hly0,hlxy⟩:=H.get (k:=k') (by omega);rw[← HCE.out]at hlx0 hly0;simp only[Option.some.injEq,Addr.mk.injEq]at e;obtain⟨rfl,rfl, -⟩:=e;have hw:IntKind.i64.wrap ((k' : Int)+1 - 1)=(k' : Int):=by rw[IntKind.wrap_i64];omega
     have hk0' : (0:Int)≤(k' : Int)+1:=by omega
     have hk1' : (k' : Int)+1<(D.length:Int):=by omega
     have hk2' : (0:Int)<(k' : Int)+1:=by omega
     have hq0:(0:Int)≤(k' : Int):=inn _;have hq1:(k' : Int)<(D.length:Int):=by omega
     rcases (show En.money x=false∨(En.money x=true∧decide (y<0)=true)∨(En.money x=true∧decide (y<0)=false∧decide (1000<y)=true)∨(En.money x=true∧decide (y<0)=false∧decide (1000<y)=false∧decide (x≤lx)=true)∨(En.money x=true∧decide (y<0)=false∧decide (1000<y)=false∧decide (x≤lx)=false∧decide (y<ly)=true)∨(En.money x=true∧decide (y<0)=false∧decide (1000<y)=false∧decide (x≤lx)=false∧decide (y<ly)=false) by
      cases En.money x<;>simp<;>omega) with m|⟨m,b1⟩|⟨m,b1,b2⟩|⟨m,b1,b2,b3⟩|⟨m,b1,b2,b3,b4⟩|⟨m,b1,b2,b3,b4⟩
     case inr.inr.inr.inr.inr =>
      have hO:=mh (cQ (lx:=lx) (ly:=ly) hxy.out (fun _=>hlxy.out) m (xT b1) (xT b2) (xT b4) (fun h=>xT b3 h.2))
      go_wp2_with fail
      go_quiet ((go_at_call 56;exact Calls.quiet_of_same (Calls.turn (qL _ _))))
      go_wp2
      go_roundw
      case rel=>exact⟨k' + 1+1,_,by omega,by go_num,fun j hj=>by
       by_cases e:j=k' + 1
       ·rw[e];exact hO.out
       ·exact HOK j (by omega),by rw[HW.out];exact qE _ _ _⟩
      case measure=>simp[intOf];omega
     all_goals
      have hB:=mh (rQ hlt (mE (lx:=lx) (ly:=ly) hxy.out (fun _=>hlxy.out) (fun h=>absurd h (by omega)) (by first|exact .inl m|exact .inr (.inl (gV b1))|exact .inr (.inr (.inl (gV b2)))|exact .inr (.inr (.inr (.inl (gV b4))))|exact .inr (.inr (.inr (.inr ⟨hpos,gV b3⟩))))))
      go_wp2_with fail
      go_quiet ((go_at_call 56;exact Calls.quiet_of_same (Calls.turn (qL _ _))))
      go_wp2
      go_ret
      exact⟨by rw[hB.out];rfl,_,by rw[HW.out];exact qE _ _ _⟩
   ·obtain rfl:k=D.length:=by omega
    have hc:=mh (show Ce.chk D=0 from Ce.chk_zero.2 ⟨by omega,HOK.out⟩);clear hlt hk
    go_wp2
    go_ret
    exact⟨by rw[hc.out];rfl,n,HW.out⟩
theorem lE {D:List (Int × Int)}{k:Nat}{x y:Int}(h:D.getD k (0,0)=(x,y)):Ce.fr D k=x:=by unfold Ce.fr;rw[h]
theorem mi_eq {D:List (Int × Int)}{k:Nat}{x y:Int}(h:D.getD k (0,0)=(x,y)):Ce.mi D k=y:=by unfold Ce.mi;rw[h]
theorem sP {D:List (Int × Int)}{k:Nat}{x y a:Int}(hR:Ce.Right D)(hk:k<D.length)(h:D.getD k (0,0)=(x,y))(a0:0≤a)(a1:a≤68719476736) :
  (0≤x∧x≤68719476736)∧(0≤y∧y≤1000)∧(0≤Ce.span D a k∧Ce.span D a k≤68719476736)∧(0≤Ce.span D a k*y∧Ce.span D a k*y≤68719476736000)∧Ce.cut D a k=Ex.up (Ce.span D a k*y) 1000∧Ce.span D a k=max 0 (Ce.till D a k - x):=by
 have h1:=hR.fr0 hk;have h2:=hR.mi0 hk;have h3:=hR.span_bd a0 a1 hk;have h4:Ce.cut D a k=Ex.up (Ce.span D a k*Ce.mi D k) 1000:=rfl;have h5:Ce.span D a k=max 0 (Ce.till D a k - Ce.fr D k):=rfl;rw[lE h]at h1 h5;rw[mi_eq h]at h2 h4;refine⟨h1,h2,h3,⟨Int.mul_nonneg h3.1 h2.1,?_⟩,h4,h5⟩;have:=Int.mul_le_mul h3.2 h2.2 h2.1 (show(0:Int)≤68719476736 by omega);omega
theorem qYA (p:Option Addr)(D:List (Int × Int))(cap:Nat)(a:Int)(w:World)(h:jF w p D)(hR:Ce.Right D)(a0:0≤a)(a1:a≤68719476736) :
  Calls Tryz.prog 147 #[.slice p D.length cap,I O a] w fun e w' => e = .returned (I O (Ce.red D a))∧Below w.heap.size w w' :=by
 have H:=mh h;have R:=mh hR;have h6:=hR.len;clear h hR
 go_enter Tryz.func147,Tryz.ntmps147
 go_wp2
 go_loopw [12,5] (fun i o wr=>∃k:Nat,k≤D.length∧i=I O k∧o=I O (a - Ce.cuts D a k)∧Below w.heap.size w wr) (fun i _ _=>D.length - (intOf i).toNat)
 case atStart=>exact⟨0,Nat.zero_le _,rfl,by simp[Ce.cuts],brf _ _⟩
 case round =>
  obtain⟨k,hk,rfl,rfl,hb⟩:=hrel;have HB:=mh hb;have hsz:=hb.size;have hp:=R.red_part a0 a1 hk
  by_cases hlt:k<D.length
  ·obtain⟨b,off,x,y,rfl,hbl,hx0,hy0,hxy⟩:=H.get hlt
   have hx1:=(hb.cell (p:=⟨b,off+k*2,none⟩) hbl).trans hx0;have hy1:=(hb.cell (p:=⟨b,off+k*2+1,none⟩) hbl).trans hy0;have hbl2:b<wr.heap.size:=nll hbl hsz;obtain⟨f1,f2,f3,f4,f5,f6⟩:=sP R hlt hxy.out a0 a1;have hp2:=R.red_part (k:=k+1) a0 a1 (by omega);have hcs:Ce.cuts D a (k+1)=Ce.cuts D a k+Ce.cut D a k:=rfl;rw[hcs]at hp2;have CS:=mh hcs
   by_cases hlt2:k+1<D.length
   ·obtain⟨b', off', x2,y2,e, -,hx2,hy2,hxy2⟩:=H.get hlt2
    simp only[Option.some.injEq,Addr.mk.injEq]at e;obtain⟨rfl,rfl, -⟩:=e;have hx3:=(hb.cell (p:=⟨b,off+(k+1)*2,none⟩) hbl).trans hx2;have ht:Ce.till D a k=min a x2:=by unfold Ce.till;rw[if_pos hlt2,lE hxy2.out]
    have hfr2:=R.fr0 hlt2;rw[lE hxy2.out]at hfr2;clear hb hx0 hy0 hx2 hy2 hcs;rw[ht]at f6;generalize Ce.span D a k=S at *;have f6' := f6.symm;have hmw:IntKind.i64.wrap (S*y)=S*y:=by
     generalize S*y=q at f4 ⊢;rw[IntKind.wrap_i64];omega
    have f5' := f5.symm;generalize Ce.cut D a k=C at *;generalize Ce.cuts D a k=Q at *;have hsw:IntKind.i64.wrap (a - Q - C)=a - Q - C:=by rw[IntKind.wrap_i64];omega
    clear f5 f6 ht
    go_wp2_with (first|(go_at_call 187;refine(uYA _ _ _ (by omega) (by omega)).mono ?_;rintro e w' ⟨rfl,rfl⟩))
    go_roundw
    case rel=>exact⟨k+1,by omega,by go_num,by rw[CS.out];congr 1;omega,HB.alloc hsz _⟩
    case measure=>simp[intOf];omega
   ·have ht:Ce.till D a k=a:=by unfold Ce.till;rw[if_neg hlt2]
    clear hb hx0 hy0 hcs;rw[ht]at f6;generalize Ce.span D a k=S at *;have f6' := f6.symm;have hmw:IntKind.i64.wrap (S*y)=S*y:=by
     generalize S*y=q at f4 ⊢;rw[IntKind.wrap_i64];omega
    have f5' := f5.symm;generalize Ce.cut D a k=C at *;generalize Ce.cuts D a k=Q at *;have hsw:IntKind.i64.wrap (a - Q - C)=a - Q - C:=by rw[IntKind.wrap_i64];omega
    clear f5 f6 ht
    go_wp2_with (first|(go_at_call 187;refine(uYA _ _ _ (by omega) (by omega)).mono ?_;rintro e w' ⟨rfl,rfl⟩))
    go_roundw
    case rel=>exact⟨k+1,by omega,by go_num,by rw[CS.out];congr 1;omega,HB.alloc hsz _⟩
    case measure=>simp[intOf];omega
  ·obtain rfl:k=D.length:=by omega
   clear hb hlt hk
   go_wp2
   go_ret
   exact⟨rfl,HB.out⟩
theorem Own.copyOf {P:Program}{T TS:TypeId}{i0:TypeInfo}(hi:P.info? T=some i0)(hz0:i0.zero=some (I O 0))(hz1:i0.size=1)(hz2:i0.bytes=8)(ht:P.underlying TS=some (.slice T)){w:World}{ops:Array Oper}{rest:List Oper}{o:Oper}{a:Act}{Q:Exit→Act→World→Prop}(hgd:o.guard=none)(s x:Operand)
  (ho:o.op = .call { callee := .builtin .append,args:=#[s,x],argTypes:=#[TS,TS] }) (xs:List Int) (p:Option Addr) (cap:Nat) (hI:qR w p xs) (hs:a.eval s = .slice none 0 0)
  (hx:a.eval x = .slice p xs.length cap) (hn:xs.length<1099511627776)
  (h:∀v' w', Own w' T w.heap.size v' xs→Below w.heap.size w w' → wpList P ops Q rest (a.put o.dst v') w'):wpList P ops Q (o::rest) a w:=by
 cases p with
 | none =>
   have hxs:xs = []:=by
    rcases hI.2 with h|⟨b,off,hp,_⟩
    ·exact h
    ·cases hp
   subst hxs;refine wpList_plain hgd fun K hK=>?_
   have hrun:(Builtin.append_ #[TS,TS] o.type #[.slice none 0 0,.slice none 0 cap]).run P w = .ok (.slice none 0 0) w:=by
    simp[Builtin.append_,run_underlying ht,sizeOf,typeInfo,hi,Builtin.lenOf,Builtin.firstCells]
   have hx' : a.eval x = .slice none 0 cap:=hx;unfold Oper.wp
   simp[execOp,ho,resolve,invoke,builtin,hs,hx', hrun,Result.andThen]
   exact hK _ _ (h _ _ (Own.nil _ _ _) (brf _ _))
 | some ad =>
   have hc:∀j u,(xs.map (Value.int .i64))[j]?=some u→w.cell? (ad.add j)=some u:=fun j u hu=>by
    have hj:j<xs.length:=by
     have:=(List.getElem?_eq_some_iff.1 hu).1
     simpa using this
    rcases hI.2 with h|⟨b,off,hp,hl,hcell⟩
    ·subst h;simp at hj
    ·cases hp
     rw[Go.WideShapes.add_plain,hcell j hj];rw[List.getElem?_map,List.getElem?_eq_getElem hj]at hu;rw[List.getD_eq_getElem?_getD,List.getElem?_eq_getElem hj]
     simpa using hu
   refine wpList_append_own _ hgd s x TS ho w.heap.size T i0 (I O 0) 1 8 ht hi hz0 hz1 hz2 rfl (by decide) (.slice none 0 0) 0 [] hs (World.ownsRow_nil w _ T 1) ad xs.length cap (xs.map (Value.int .i64)) hx (by simp) hc (by simp[Value.oneCell']) (by unfold maxLen;omega) (by omega) mle ?_
   intro v' w' h1 h2 _;refine h v' w' ?_ ?_
   ·unfold Own
    simpa using h1
   ·exact((brf _ w).grown h2 mle fun k hk=>by cases hk)
end Go.Proofs.YtefcalgjnkigjaaGreat
namespace Go.Proofs.YtefcalgjnkigjaaGreat.Sh
def Best (n:Nat) (r:Nat→Int) (k j:Nat) (b:Int):Prop :=
 (b = -1∧∀i,i<j→top n r k i=true)∨∃m:Nat,b=m∧m<j∧top n r k m=false∧∀i,i<j→top n r k i=false→i=m∨before r m i=true
variable {n k j:Nat} {r:Nat→Int} {b:Int}
theorem best_zero:Best n r k 0 (-1) := .inl ⟨rfl,fun i hi=>absurd hi (Nat.not_lt_zero i)⟩
theorem best_skip (h:Best n r k j b)(ht:top n r k j=true):Best n r k (j+1) b:=by
 rcases h with⟨h1,h2⟩|⟨m,h1,h2,h3,h4⟩
 ·exact .inl ⟨h1,fun i hi=>by
   by_cases e:i=j
   ·rw[e];exact ht
   ·exact h2 i (by omega)⟩
 ·exact .inr ⟨m,h1,by omega,h3,fun i hi hf=>by
   by_cases e:i=j
   ·subst e;rw[ht]at hf;cases hf
   ·exact h4 i (by omega) hf⟩
theorem best_first (h:Best n r k j b)(hb:b<0)(ht:top n r k j=false):Best n r k (j+1) j:=by
 rcases h with⟨h1,h2⟩|⟨m,h1,h2,h3,h4⟩
 ·exact .inr ⟨j,rfl,by omega,ht,fun i hi hf=>by
   by_cases e:i=j
   ·exact .inl e
   ·rw[h2 i (by omega)]at hf;cases hf⟩
 ·omega
theorem best_more (h:Best n r k j b)(hb:0≤b)(ht:top n r k j=false)(hr:r b.toNat<r j):Best n r k (j+1) j:=by
 rcases h with⟨h1,h2⟩|⟨m,rfl,h2,h3,h4⟩
 ·omega
 ·rw[Int.toNat_natCast]at hr
  refine .inr ⟨j,rfl,by omega,ht,fun i hi hf=>?_⟩
  by_cases e:i=j
  ·exact .inl e
  ·right
   rcases h4 i (by omega) hf with rfl|h5
   ·rw[zB];omega
   ·rw[zB]at h5 ⊢;omega
theorem best_keep (h:Best n r k j b)(hb:0≤b)(_ht:top n r k j=false)(hr:¬r b.toNat<r j):Best n r k (j+1) b:=by
 rcases h with⟨h1,h2⟩|⟨m,rfl,h2,h3,h4⟩
 ·omega
 ·rw[Int.toNat_natCast]at hr
  refine .inr ⟨m,rfl,by omega,h3,fun i hi hf=>?_⟩
  by_cases e:i=j
  ·subst e;right;rw[zB];omega
  ·exact h4 i (by omega) hf
theorem best_range (h:Best n r k j b):b = -1∨∃m:Nat,b=m∧m<j:=by
 rcases h with⟨h1,_⟩|⟨m,h1,h2,_⟩
 ·exact .inl h1
 ·exact .inr ⟨m,h1,h2⟩
theorem best_end (h:Best n r k n b)(hk:k<n):b=((order n r).getD k 0:Nat):=by
 have hkl:k<(order n r).length:=by rw[order_len];exact hk
 have e:(order n r).getD k 0=(order n r)[k]:=by rw[List.getD_eq_getElem?_getD,List.getElem?_eq_getElem hkl];rfl
 rw[e];have h0:=top_at hkl;have hn:=(order_mem n r _).1 (List.getElem_mem hkl)
 rcases h with⟨_,h2⟩|⟨m,rfl,h2,h3,h4⟩
 ·rw[h2 _ hn]at h0;cases h0
 ·by_cases hm:m=(order n r)[k]
  ·rw[hm]
  ·exfalso
   have b1:=uZA hkl h2 h3 hm
   rcases h4 _ hn h0 with h5|h5
   ·exact hm h5.symm
   ·rw[zB]at b1 h5;omega
end Go.Proofs.YtefcalgjnkigjaaGreat.Sh
