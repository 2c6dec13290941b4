/- Packed. -/
import Derived.Test.YtefcalgjnkigjaaGreatL30
set_option maxRecDepth 100000
set_option maxHeartbeats 8000000
open Go.Value renaming int → I
open Go.IntKind renaming i64 → O
namespace Go.Proofs.YtefcalgjnkigjaaGreat
open Go.RowKit Sc As
def xK (F:List FarmF):Prop:=∀f∈F,∀x∈f.lines, -9223372036854775808≤x.sch
theorem xK.set {F:List FarmF}(h:xK F){k:Nat}{f:FarmF}(hf:∀x∈f.lines, -9223372036854775808≤x.sch):xK (F.set k f):=fun g hg=>(List.mem_or_eq_of_mem_set hg).elim (h g) fun e=>by rw[e];exact hf
theorem xK.line {F:List FarmF}(h:xK F){k j:Nat}(hk:k<F.length){x:LineF}(hx : -9223372036854775808≤x.sch):xK (F.set k { F[k] with lines:=F[k].lines.set j x }) :=
 h.set fun y hy=>(List.mem_or_eq_of_mem_set hy).elim (h _ (List.getElem_mem hk) y) fun e=>by rw[e];exact hx
def tP (t:Nat) (l:List Int) (w:World) (e:Ending) (w' : World):Prop :=
 ∃(p:Option Addr) (n c:Nat) (F:List FarmF) (q:Nat),e = .returned (.slice p n c)∧n=F.length∧n≤c∧yF (jP w.heap.size) w' p F∧xK F∧TpB w w' t l q
structure OdS (w W:World) (t:Nat) (l:List Int) (q n c g:Nat) (R:List RF) (F:List FarmF):Prop where
 tp:TpB w W t l q
 fs:zX SF (FVs LVw) 47 w.heap.size (jP w.heap.size) W (.slice (some ⟨g,0,none⟩) n c) R F
section
variable {w W W' : World} {t q q' n c g k gl j ln lc:Nat} {l:List Int} {R:List RF} {F:List FarmF} {fa dy:Int}
theorem OdS.next (h:OdS w W t l q n c g R F)(ht:qV W' t l q')(hb:But t W W'):OdS w W' t l q' n c g R F :=
 ⟨h.tp.next ht hb,h.fs.change (FVs.chgs LVw.chgs) hb.size fun b k hl=>⟨hb.block b hl (by have:=h.tp.lt;unfold jP at k;omega),k⟩⟩
theorem OdS.drew (h:OdS w W t l q n c g R F):OdS w W.drew t l q n c g R F:=h.next (h.tp.tape.below (brf _ _).drew) (But.of_below (brf _ _).drew)
theorem OdS.row (h:OdS w W t l q n c g R F)(hk:k<R.length):W.cell? ⟨g,k*3,none⟩=some (I O R[k].farm)∧W.cell? ⟨g,k*3+1,none⟩=some (I O R[k].day)∧W.cell? ⟨g,k*3+2,none⟩=some (.slice R[k].lp R[k].ln R[k].lc)∧(∀i,W.frozen? ⟨g,i,none⟩=false)∧w.heap.size≤g∧g<W.heap.size:=by
 obtain⟨g', e, -,hB,hl,hc,hf, -⟩:=h.fs.own.at hk
 cases e
 exact⟨hc 0 _ rfl,hc 1 _ rfl,hc 2 _ rfl,hf,hB,hl⟩
theorem OdS.lines (h:OdS w W t l q n c g R F)(hk:k<R.length)(hk' : k<F.length):R[k].ln=F[k].lines.length∧R[k].ln≤R[k].lc∧(R[k].ln≠0→∃gl,R[k].lp=some ⟨gl,0,none⟩):=by
 obtain⟨φ,L,hL, -, -⟩:=h.fs.inner hk hk'; obtain⟨p', c', e,g1, -,g3, -, -⟩:=hL.own.cut hL.hl;obtain⟨e1,e2,e3⟩:=Value.slice.inj e;refine⟨e2,by rw[e2,e3];exact g3,fun hn=>?_⟩;obtain⟨gl,e4, -⟩:=hL.own.at (k:=0) (by rw[hL.hl,← e2];omega);exact⟨gl,e4⟩
theorem OdS.fin (h:OdS w W t l q n c g R F)(hF:xK F):tP t l w (.returned (.slice (some ⟨g,0,none⟩) n c)) W:=by
 obtain⟨h1,h2,h3,h4⟩:=(h.fs.map fun _ _ _ _ h=>h.map fun _ _ _ _ h=>h.1).farms;exact⟨_,n,c,F,q,rfl,h2,h3,h1,hF,h.tp⟩
theorem OdS.farm (h:OdS w W t l q n c g R F)(hk:k<R.length)(hk' : k<F.length)(hF:xK F)(x:Int):tP t l w (.returned (.slice (some ⟨g,0,none⟩) n c)) (W.setCell ⟨g,k*3,none⟩ (I O x)) :=
 OdS.fin ⟨h.tp.set (h.row hk).2.2.2.2.1 _,h.fs.setFarm LVw.chgs hk hk' x⟩ (hF.set (show ∀y∈F[k].lines, -9223372036854775808≤y.sch from hF _ (List.getElem_mem hk')))
theorem OdS.day (h:OdS w W t l q n c g R F)(hk:k<R.length)(hk' : k<F.length)(hF:xK F)(x:Int):tP t l w (.returned (.slice (some ⟨g,0,none⟩) n c)) (W.setCell ⟨g,k*3+1,none⟩ (I O x)) :=
 OdS.fin ⟨h.tp.set (h.row hk).2.2.2.2.1 _,h.fs.setDay LVw.chgs hk hk' x⟩ (hF.set (show ∀y∈F[k].lines, -9223372036854775808≤y.sch from hF _ (List.getElem_mem hk')))
theorem OdS.line (h:OdS w W t l q n c g R F)(hk:k<R.length)(hk' : k<F.length)(er:R[k]=⟨fa,dy,some ⟨gl,0,none⟩,ln,lc⟩)(hj:j<F[k].lines.length)(hF:xK F) :
  ∃r:RL,(∀i u,(jS r)[i]?=some u→W.cell? ⟨gl,j*7+i,none⟩=some u)∧(∀i,W.frozen? ⟨gl,i,none⟩=false)∧gl<W.heap.size∧w.heap.size≤gl∧qX SI W 3 w.heap.size (.slice r.dp r.dn r.dc) F[k].lines[j].due∧(Value.slice r.dp r.dn r.dc).ownBlock≠some gl ∧
    (∀(i:Nat) (u:Value) (a' : RL) (x' : LineF),i<7→jS a' = (jS r).set i u→(∀φ W,LVw φ W r F[k].lines[j]→LVw φ W a' x') → -9223372036854775808≤x'.sch→tP t l w (.returned (.slice (some ⟨g,0,none⟩) n c)) (W.setCell ⟨gl,j*7+i,none⟩ u)) ∧
    (0<F[k].lines[j].due.length→∃gd,r.dp=some ⟨gd,0,none⟩∧0<r.dn∧(∃v0,W.cell? ⟨gd,0,none⟩=some v0)∧W.frozen? ⟨gd,0,none⟩=false∧∀v:Int,tP t l w (.returned (.slice (some ⟨g,0,none⟩) n c)) (W.setCell ⟨gd,0,none⟩ (I O v))) ∧
    (∀(w5:World) (p5:Option Addr) (n5 c5:Nat) (y:Int) (H:Nat),qX SI w5 3 w.heap.size (.slice p5 n5 c5) (F[k].lines[j].due ++ [y])→jN W w5 w.heap.size H (.slice r.dp r.dn r.dc) (.slice p5 n5 c5)→W.heap.size≤H→tP t l w (.returned (.slice (some ⟨g,0,none⟩) n c)) (w5.setCell ⟨gl,j*7+2,none⟩ (.slice p5 n5 c5))):=by
 obtain⟨φ,L,hL,hφ,hback⟩:=h.fs.inner hk hk'; rw[er]at hL hback;simp only at hL hback;have hjL:j<L.length:=by rw[hL.hl];exact hj
 obtain⟨g', e, -, -,hgl,hc,hf, -⟩:=hL.own.at hjL
 cases e
 have gφ:φ gl:=hL.oq gl rfl;have hglw:w.heap.size≤gl:=(hφ gl gφ).1;obtain⟨ψ,hv,hψ, -⟩:=hL.upd LVw.chgs hjL hj;have hQ:∀b,W.heap.size≤b→jP w.heap.size b:=fun b hb=>Nat.le_trans h.tp.but.size hb
 have hlo:=hF _ (List.getElem_mem hk') _ (List.getElem_mem hj);have dq:∀b,(Value.slice L[j].dp L[j].dn L[j].dc).ownBlock=some b→φ b∧b≠gl:=fun b eb=>⟨(hψ b (hv.2.2 b eb)).1,fun e=>(hψ b (hv.2.2 b eb)).2 (by rw[e];rfl)⟩
 have low:∀b,φ b→w.heap.size≤b:=fun b q=>(hφ b q).1
 refine⟨L[j],hc,hf,hgl,hglw,hv.2.1.up fun b eb=>low b (dq b eb).1,fun e=>(dq gl e).2 rfl,fun i u a' x' hi ha hx hs=>?_,fun hd=>?_,fun w5 p5 n5 c5 y H hO hap hH=>?_⟩
 ·have hsz:(W.setCell ⟨gl,j*7+i,none⟩ u).heap.size=W.heap.size:=jG _ _ _
  exact OdS.fin ⟨h.tp.set hglw u,hback _ _ _ (by rw[hsz];exact Nat.le_refl _) (fun b _ hn=>qB _ (fun e=>hn (by rw[e];exact gφ)) _ _) hQ ((hL.fld hjL hj hi a' x' ha hx).wide LVw.chgs fun b q => .inl q)⟩ (hF.line hk' hs)
 ·obtain⟨gd,e1,e2,e3,e4,e5,e6⟩:=hL.due0 hjL hj hd
  refine⟨gd,e1,by omega,⟨_,e4⟩,e5,fun v=>?_⟩
  have hsz:(W.setCell ⟨gd,0,none⟩ (I O v)).heap.size=W.heap.size:=jG _ _ _;exact OdS.fin ⟨h.tp.set (low gd e3) _,hback _ _ _ (by rw[hsz];exact Nat.le_refl _) (fun b _ hn=>qB _ (fun e=>hn (by rw[e];exact e3)) _ _) hQ ((e6 v).wide LVw.chgs fun b q => .inl q)⟩ (hF.line hk' hlo)
 ·have hsz:(w5.setCell ⟨gl,j*7+2,none⟩ (.slice p5 n5 c5)).heap.size=w5.heap.size:=jG _ _ _
  exact OdS.fin ⟨(h.tp.belowB hap.below).set hglw _,hback _ _ _ (by rw[hsz];exact hap.size) (fun b hl hn=>(qB _ (fun e=>hn (by rw[e];exact gφ)) _ _).trans (hap.far b hl fun e=>hn (dq b e).1)) hQ (hL.dueApp hjL hj hO hap hH)⟩ (hF.line hk' hlo)
end
theorem xEA {Q:Nat→Prop}(t:Nat)(l:List Int)(a:Nat)(p:Option Addr)(F:List FarmF)(n c:Nat)(Y:YLaw)(x:Int)(w:World)(h:qV w t l a)(hF:yF Q w p F)(hn:F.length=n)(hm:∀f∈F,FmOk Y f)(lF:n≤4)(hs1:0<Y.sch.length)(hs3:Y.sch.length≤3)(hx : -9223372036854775808≤x) :
  Calls Tryz.prog 14 #[.pointer (some ⟨t,0,none⟩),.slice p n c,I O x] w (tP t l w):=by
 have CP:=mh (hn▸xQA p F c w hF (by omega) fun f hf=>⟨by have:=(hm f hf).len;omega,fun x hx=>by have:=((hm f hf).ok.line x hx).len;omega⟩:Calls Tryz.prog 57 #[.slice p n c] w (CyG F w));have LEN:=mh hn;have HLO:=mh (show xK F from fun f hf y hy=>by have:=(hm f hf).pos y hy;omega);have HDU:=mh (show ∀(k j:Nat) (hk:k<F.length) (hj:j<F[k].lines.length),0<(F[k].lines[j]).due.length∧(F[k].lines[j]).due.length≤3 from fun k j hk hj=>by have:=((hm _ (List.getElem_mem hk)).ok.line _ (List.getElem_mem hj)).len;omega);have HLL:=mh (show ∀(k:Nat) (hk:k<F.length),F[k].lines.length≤3 from fun k hk=>(hm _ (List.getElem_mem hk)).len);have HX:=mh hx;have TI:=mh (TpB.init h);have TN:=mh (fun (W:World) (q:Nat) (n:Int) (h:qV W t l q) (hn:n≤9223372036854775807)=>qF t l q n W h hn);have TO:=mh (fun (W:World) (q:Nat) (n:Int) (h:qV W t l q) (h1:1≤n) (h2:n≤9223372036854775807)=>xE t l q n W h h1 h2);unfold CyG at CP;clear h hF hn hm hs1 hs3 hx
 go_enter Tryz.func14,Tryz.ntmps14
 go_upto_region 2 with (first|(go_at_call 57;(with_reducible refine cmo CP.out ?_);rintro e w1 ⟨v,R,rfl,hsep,hbl⟩;obtain⟨p1,c1,rfl, -, -,k3, -, -⟩:=hsep.own.cut (hsep.hl.trans LEN.out);have SE:=mh hsep;have BL:=mh hbl;clear hsep hbl k3)|fail)
 by_cases hz:n=0
 ·subst hz
  go_upto_region 3 with fail
  have FIN:=mh (show tP t l w (.returned (.slice (some ⟨w1.heap.size,0,none⟩) 1 1)) (w1.alloc (.cells #[I O x,I O 0,.slice none 0 0] 47)) from
   ⟨_,1,1, [⟨x,0, []⟩],a,rfl,rfl,Nat.le_refl _,fs_one (r:=⟨x,0,none,0,0⟩) (B:=w.heap.size) (show FV _ _ _ ⟨x,0, []⟩ from⟨rfl,rfl,wF.nil _ _ _,rfl,Nat.le_refl _,fun _=>rfl⟩) BL.size 47,(show xK _ from fun f hf y hy=>by rw[List.mem_singleton.1 hf]at hy;cases hy),(TI.below BL.out).alloc _⟩)
  go_wp2_with fail
  go_ret
  exact FIN.out
 have hnp:(0:Int)<(n:Int):=by omega
 have hne:¬(n:Int)=0:=by omega
 have HRL:=mh (show R.length=n from SE.hl.trans LEN.out);obtain⟨g,ep, -, -, -, -, -, -⟩:=SE.own.at (k:=0) (by rw[HRL.out];omega);subst ep;have S1:=mh (show OdS w w1 t l a n c1 g R F from⟨TI.below BL.out,SE.out⟩);clear SE BL CP TI;obtain⟨k0,ek0⟩:∃x:Int,qN l a (n:Int)=x:=⟨_,rfl⟩;have hk0:=qG l a (n:=(n:Int)) (by omega);rw[ek0]at hk0;obtain⟨q1,eq1⟩:∃x,qM l a=x:=⟨_,rfl⟩;have T1:=mh (eq1▸ek0▸TN.out w1 a (n:Int) S1.tp.tape (by omega));obtain⟨k,rfl⟩:=Int.eq_ofNat_of_zero_le hk0.1;have hk1:(0:Int)≤(k:Int):=hk0.1;have hk2:(k:Int)<(n:Int):=hk0.2;have hkn:k<n:=by omega
 have HKR:=mh (show k<R.length by rw[HRL.out];exact hkn);have HKF:=mh (show k<F.length by rw[LEN.out];exact hkn);obtain⟨⟨rfa,rda,lp,ln,lc⟩,er⟩:∃r,R[k]'HKR.out=r:=⟨_,rfl⟩;have ER:=mh er;have hln:=S1.lines HKR.out HKF.out;rw[er]at hln;simp only at hln;obtain⟨hln1,hln2,hln3⟩:=hln;have HLN:=mh hln1;clear ek0 eq1 hk0 er hln1
 go_upto_region 5 with (first|(go_at_call 43;(with_reducible refine cmo T1.out ?_);rintro e w2 ⟨rfl,ht,hb⟩;have S2:=mh (S1.next ht hb);have x2:=(S2.row HKR.out).2.2.1;rw[ER.out]at x2;clear ht hb)|fail)
 by_cases hz2:ln=0
 ·subst hz2
  clear hln3
  go_upto_region 6 with fail
  obtain⟨b2,eb2⟩:∃b,(qN l q1 2==2 - 1)=b:=⟨_,rfl⟩;have T3:=mh (eb2▸TO.out w2 q1 2 S2.tp.tape (by omega) (by omega));clear eb2
  cases b2
  ·go_upto_region 8 with (first|(go_at_call 44;(with_reducible refine cmo T3.out ?_);rintro e w4 ⟨rfl,ht,hb⟩;have S4:=mh (S2.next ht hb);clear ht hb)|fail)
   have x1:=(S4.row HKR.out).2.1;have f1:=(S4.row HKR.out).2.2.2.1 (k*3+1);have FIN:=mh (S4.day HKR.out HKF.out HLO.out x)
   go_wp2_with fail
   go_ret
   exact FIN.out
  ·go_upto_region 7 with (first|(go_at_call 44;(with_reducible refine cmo T3.out ?_);rintro e w4 ⟨rfl,ht,hb⟩;have S4:=mh (S2.next ht hb);clear ht hb)|fail)
   have x0:=(S4.row HKR.out).1;have f0:=(S4.row HKR.out).2.2.2.1 (k*3);have FIN:=mh (S4.farm HKR.out HKF.out HLO.out x)
   go_wp2_with fail
   go_ret
   exact FIN.out
 have hnl:¬(ln:Int)=0:=by omega
 have hlp:(0:Int)<(ln:Int):=by omega
 obtain⟨gl,egl⟩:=hln3 hz2;subst egl;clear hln3;obtain⟨b1,eb1⟩:∃b,(qN l q1 4==4 - 1)=b:=⟨_,rfl⟩;obtain⟨q2,eq2⟩:∃x,qM l q1=x:=⟨_,rfl⟩;have T2:=mh (eq2▸eb1▸TO.out w2 q1 4 S2.tp.tape (by omega) (by omega));clear eb1 eq2
 cases b1
 rotate_left
 ·go_upto_region 6 with (first|(go_at_call 44;(with_reducible refine cmo T2.out ?_);rintro e w3 ⟨rfl,ht,hb⟩;have S3:=mh (S2.next ht hb);clear ht hb)|fail)
  obtain⟨b2,eb2⟩:∃b,(qN l q2 2==2 - 1)=b:=⟨_,rfl⟩;have T3:=mh (eb2▸TO.out w3 q2 2 S3.tp.tape (by omega) (by omega));clear eb2
  cases b2
  ·go_upto_region 8 with (first|(go_at_call 44;(with_reducible refine cmo T3.out ?_);rintro e w4 ⟨rfl,ht,hb⟩;have S4:=mh (S3.next ht hb);clear ht hb)|fail)
   have x1:=(S4.row HKR.out).2.1;have f1:=(S4.row HKR.out).2.2.2.1 (k*3+1);have FIN:=mh (S4.day HKR.out HKF.out HLO.out x)
   go_wp2_with fail
   go_ret
   exact FIN.out
  ·go_upto_region 7 with (first|(go_at_call 44;(with_reducible refine cmo T3.out ?_);rintro e w4 ⟨rfl,ht,hb⟩;have S4:=mh (S3.next ht hb);clear ht hb)|fail)
   have x0:=(S4.row HKR.out).1;have f0:=(S4.row HKR.out).2.2.2.1 (k*3);have FIN:=mh (S4.farm HKR.out HKF.out HLO.out x)
   go_wp2_with fail
   go_ret
   exact FIN.out
 go_upto_region 10 with (first|(go_at_call 44;(with_reducible refine cmo T2.out ?_);rintro e w3 ⟨rfl,ht,hb⟩;have S3:=mh (S2.next ht hb);clear ht hb)|fail)
 have LNB:=mh (show ln≤3 from by have:=HLN.out;have:=HLL.out k HKF.out;omega);obtain⟨j0,ej0⟩:∃x:Int,qN l q2 (ln:Int)=x:=⟨_,rfl⟩;have hj0:=qG l q2 (n:=(ln:Int)) (by omega);rw[ej0]at hj0;obtain⟨q3,eq3⟩:∃x,qM l q2=x:=⟨_,rfl⟩;have T3:=mh (eq3▸ej0▸TN.out w3.drew q2 (ln:Int) S3.drew.tp.tape (by have:=LNB.out;omega));obtain⟨j,rfl⟩:=Int.eq_ofNat_of_zero_le hj0.1;have hj1:(0:Int)≤(j:Int):=hj0.1;have hj2:(j:Int)<(ln:Int):=hj0.2;have HJF:=mh (show j<(F[k]'HKF.out).lines.length by rw[← HLN.out];omega);clear ej0 eq3 hj0;have hHeld0:w3.drew.cell? ⟨g,k*3+2,none⟩=some (.slice (some ⟨gl,0,none⟩) ln lc):=by have:=(S3.drew.row HKR.out).2.2.1;rwa [ER.out]at this
 refine wp_region_held_drew (S:=fun w' => w'.cell? ⟨g,k*3+2,none⟩=some (.slice (some ⟨gl,0,none⟩) ln lc)) (by kernel_rfl) hHeld0 (fun hHeld=>?_)
 refine tkH 0 44 hHeld ?_
 refine tkH 1 45 hHeld ?_
 refine tkH 2 46 hHeld ?_
 refine tkH 3 47 hHeld ?_
 refine tkH 4 48 hHeld ?_
 refine tkH 5 49 hHeld ?_
 refine tkH 6 50 hHeld ?_
 refine tkH 7 51 hHeld ?_
 refine tkH 8 52 hHeld ?_
 refine tkH 9 53 hHeld ?_
 refine rdA 10 54 (fun K hK=>?_)
 go_simp
 (with_reducible refine cmo T3.out ?_);rintro e w5 ⟨rfl,ht5,hb5⟩;have S5:=mh (S3.drew.next ht5 hb5);clear ht5 hb5;have hHeld2:w5.cell? ⟨g,k*3+2,none⟩=some (.slice (some ⟨gl,0,none⟩) ln lc):=by have:=(S5.row HKR.out).2.2.1;rwa [ER.out]at this
 go_wp2_with fail
 refine hK.out _ _ hHeld2 (fun _=>?_)
 clear hK K
 (try dsimp only[Act.put])
 try simp only[mnA,mnB,mnC]
 refine tkH 11 55 hHeld2 ?_
 refine tkH 12 8 hHeld2 ?_
 refine wpAnyH_done (by kernel_rfl) ?_ _
 clear hHeld0 hHeld hHeld2 x2;obtain⟨m,em⟩:∃x:Int,qN l q3 6=x:=⟨_,rfl⟩;have hm:=qG l q3 (n:=6) (by omega);rw[em]at hm;have T4:=mh (em▸TN.out w5 q3 6 S5.tp.tape (by omega));obtain⟨m0,m1⟩:=hm;clear em
 by_cases h0:m=0
 ·subst h0
  go_upto_region 13 with (first|(go_at_call 43;(with_reducible refine cmo T4.out ?_);rintro e w6 ⟨rfl,ht,hb⟩;have S6:=mh (S5.next ht hb);clear ht hb)|fail)
  obtain⟨r,hc,hf,hgl,hgw,hdu,hdn,hset,hdue,happ⟩:=S6.line HKR.out HKF.out ER.out HJF.out HLO.out;have y0:w6.cell? ⟨gl,j*7,none⟩=some _:=hc 0 _ rfl;have yf0:w6.frozen? ⟨gl,j*7,none⟩=false:=hf _;clear hc hf;have FIN:=mh (hset 0 (I O x) { r with decl:=x } { (F[k]'HKF.out).lines[j]'HJF.out with decl:=x } (by omega) rfl (fun φ W h=>⟨⟨rfl,h.1.sch,h.1.due,h.1.dn,h.1.dc,h.1.dz,h.1.dq,h.1.season,h.1.kind,h.1.area,h.1.border⟩,h.2⟩) (show -9223372036854775808≤((F[k]'HKF.out).lines[j]'HJF.out).sch from HLO.out _ (List.getElem_mem HKF.out) _ (List.getElem_mem HJF.out)));clear hset hdue happ
  go_wp2_with fail
  go_ret
  exact FIN.out
 by_cases h1:m=1
 ·subst h1
  go_upto_region 15 with (first|(go_at_call 43;(with_reducible refine cmo T4.out ?_);rintro e w6 ⟨rfl,ht,hb⟩;have S6:=mh (S5.next ht hb);clear ht hb)|fail)
  obtain⟨r,hc,hf,hgl,hgw,hdu,hdn,hset,hdue,happ⟩:=S6.line HKR.out HKF.out ER.out HJF.out HLO.out;have y1:w6.cell? ⟨gl,j*7+1,none⟩=some _:=hc 1 _ rfl;have yf1:w6.frozen? ⟨gl,j*7+1,none⟩=false:=hf _;clear hc hf;have FIN:=mh (hset 1 (I O x) { r with sch:=x } { (F[k]'HKF.out).lines[j]'HJF.out with sch:=x } (by omega) rfl (fun φ W h=>⟨⟨h.1.decl,rfl,h.1.due,h.1.dn,h.1.dc,h.1.dz,h.1.dq,h.1.season,h.1.kind,h.1.area,h.1.border⟩,h.2⟩) HX.out);clear hset hdue happ
  go_wp2_with fail
  go_ret
  exact FIN.out
 by_cases h2:m=2
 ·subst h2
  go_upto_region 17 with (first|(go_at_call 43;(with_reducible refine cmo T4.out ?_);rintro e w6 ⟨rfl,ht,hb⟩;have S6:=mh (S5.next ht hb);clear ht hb)|fail)
  obtain⟨r,hc,hf,hgl,hgw,hdu,hdn,hset,hdue,happ⟩:=S6.line HKR.out HKF.out ER.out HJF.out HLO.out;have y3:w6.cell? ⟨gl,j*7+3,none⟩=some _:=hc 3 _ rfl;have yf3:w6.frozen? ⟨gl,j*7+3,none⟩=false:=hf _;clear hc hf;have FIN:=mh (hset 3 (I O x) { r with season:=x } { (F[k]'HKF.out).lines[j]'HJF.out with season:=x } (by omega) rfl (fun φ W h=>⟨⟨h.1.decl,h.1.sch,h.1.due,h.1.dn,h.1.dc,h.1.dz,h.1.dq,rfl,h.1.kind,h.1.area,h.1.border⟩,h.2⟩) (show -9223372036854775808≤((F[k]'HKF.out).lines[j]'HJF.out).sch from HLO.out _ (List.getElem_mem HKF.out) _ (List.getElem_mem HJF.out)));clear hset hdue happ
  go_wp2_with fail
  go_ret
  exact FIN.out
 by_cases h3:m=3
 ·subst h3
  go_upto_region 19 with (first|(go_at_call 43;(with_reducible refine cmo T4.out ?_);rintro e w6 ⟨rfl,ht,hb⟩;have S6:=mh (S5.next ht hb);clear ht hb)|fail)
  obtain⟨r,hc,hf,hgl,hgw,hdu,hdn,hset,hdue,happ⟩:=S6.line HKR.out HKF.out ER.out HJF.out HLO.out;have y4:w6.cell? ⟨gl,j*7+4,none⟩=some _:=hc 4 _ rfl;have yf4:w6.frozen? ⟨gl,j*7+4,none⟩=false:=hf _;clear hc hf;have FIN:=mh (hset 4 (I O x) { r with kind:=x } { (F[k]'HKF.out).lines[j]'HJF.out with kind:=x } (by omega) rfl (fun φ W h=>⟨⟨h.1.decl,h.1.sch,h.1.due,h.1.dn,h.1.dc,h.1.dz,h.1.dq,h.1.season,rfl,h.1.area,h.1.border⟩,h.2⟩) (show -9223372036854775808≤((F[k]'HKF.out).lines[j]'HJF.out).sch from HLO.out _ (List.getElem_mem HKF.out) _ (List.getElem_mem HJF.out)));clear hset hdue happ
  go_wp2_with fail
  go_ret
  exact FIN.out
 by_cases h4:m=4
 ·subst h4
  go_upto_region 21 with (first|(go_at_call 43;(with_reducible refine cmo T4.out ?_);rintro e w6 ⟨rfl,ht,hb⟩;have S6:=mh (S5.next ht hb);clear ht hb)|fail)
  obtain⟨r,hc,hf,hgl,hgw,hdu,hdn,hset,hdue,happ⟩:=S6.line HKR.out HKF.out ER.out HJF.out HLO.out;have y2:w6.cell? ⟨gl,j*7+2,none⟩=some _:=hc 2 _ rfl;have yf2:w6.frozen? ⟨gl,j*7+2,none⟩=false:=hf _;clear hc hf;clear hset hdue;have HAP:=mh happ;have HDO:=mh hdu;have HGL:=mh hgl;have LD:=mh (show((F[k]'HKF.out).lines[j]'HJF.out).due.length≤3 from(HDU.out k j HKF.out HJF.out).2);have HDN:=mh hdn;have HGW:=mh hgw;have WS:=mh S6.tp.but.size;clear happ hdu hgl hdn hgw
  go_wp2_with (first
   | (at_builtin;(refine qX.append xR rfl (.tmp 89) (.tmp 90) rfl w.heap.size _ ((F[k]'HKF.out).lines[j]'HJF.out).due 0 #[I O 0] rfl HDO.out rfl (by simp[Act.eval]) WS.out (by have:=LD.out;omega) (by decide) ?_);intro v7 w7 hO7 hap7;obtain⟨p7,c7,rfl, -⟩:=hO7.cut rfl;obtain⟨n7,en7⟩:∃n7,(((F[k]'HKF.out).lines[j]'HJF.out).due ++ [(0:Int)]).length=n7:=⟨_,rfl⟩;rw[en7]at hO7 hap7 ⊢;clear en7;have FIN:=mh (HAP.out w7 p7 _ c7 0 _ hO7 hap7 (Nat.le_succ _));have z2:w7.cell? ⟨gl,j*7+2,none⟩=some _:=(World.cell?_of_block (w:=w6) (a:=⟨gl,j*7+2,none⟩) (hap7.far gl HGL.out HDN.out)).trans y2;have zf2:w7.frozen? ⟨gl,j*7+2,none⟩=false:=(World.frozen?_of_block (w:=w6) (a:=⟨gl,j*7+2,none⟩) (hap7.far gl HGL.out HDN.out)).trans yf2;clear hO7 hap7 y2 yf2)
   | fail)
  go_ret
  exact FIN.out
 by_cases h5:m=5
 ·subst h5
  go_upto_region 23 with (first|(go_at_call 43;(with_reducible refine cmo T4.out ?_);rintro e w6 ⟨rfl,ht,hb⟩;have S6:=mh (S5.next ht hb);clear ht hb)|fail)
  obtain⟨r,hc,hf,hgl,hgw,hdu,hdn,hset,hdue,happ⟩:=S6.line HKR.out HKF.out ER.out HJF.out HLO.out;have y2:w6.cell? ⟨gl,j*7+2,none⟩=some _:=hc 2 _ rfl;have yf2:w6.frozen? ⟨gl,j*7+2,none⟩=false:=hf _;clear hc hf;clear hset happ;obtain⟨gd,ed,hdl,⟨v0,hv0⟩,hfd,hfin⟩:=hdue (HDU.out k j HKF.out HJF.out).1;rw[ed]at y2;have hdl2:(0:Int)<(r.dn:Int):=by omega
  have FIN:=mh (hfin x);clear hfin hdue hdu hdn
  go_wp2_with fail
  go_ret
  exact FIN.out
 omega
end Go.Proofs.YtefcalgjnkigjaaGreat
namespace Go.Proofs.YtefcalgjnkigjaaGreat
open Go.RowKit
theorem kZA {n:Int}(h:(Lit.int .i64 n).wf=true) : -9223372036854775808≤n∧n≤9223372036854775807:=by simpa [Lit.wf,IntKind.min,IntKind.max,IntKind.signed,IntKind.bits] using h
open Sc As
def SYl:jJ RY:=⟨10,yCells,fun _=>rfl,by decide,fun a u hu=>by
 simp only[yCells,List.mem_cons,List.not_mem_nil,or_false]at hu
 rcases hu with rfl|rfl|rfl|rfl|rfl|rfl|rfl|rfl|rfl|rfl<;>rfl⟩
structure RSl where
 p:Option Addr
 n:Nat
 c:Nat
def yNA (r:RSl):List Value := [.slice r.p r.n r.c]
def SSl:jJ RSl:=⟨1,yNA,fun _=>rfl,by decide,fun a u hu=>by
 simp only[yNA,List.mem_cons,List.not_mem_nil,or_false]at hu
 rcases hu with rfl;rfl⟩
theorem IsRow.below' {k:IntKind}{w w' : World}{a:Option Addr}{len cap:Nat}{zs:List Int}(h:IsRow k w a len cap zs)(hb:Below w.heap.size w w'):IsRow k w' a len cap zs:=by
 rcases h with h|⟨x,e,h1,h2,h3,h4,h5⟩
 ·exact .inl h
 ·exact .inr ⟨x,e,h1,h2,h3,fun i hi=>(hb.cell (World.block_lt_of_cell? w _ (h4 i hi))).trans (h4 i hi),h5⟩
structure CkA (v W:World) (t:Nat) (l:List Int) (q gA:Nat) (R:List RY) (Y:YLaw) (pF:Option Addr) (F:List FarmF) (most:Nat):Prop where
 tape:qV W t l q
 low:Below v.heap.size v W
 wt:v.heap.size≤t
 row:qD SYl W (some ⟨gA,0,none⟩) R
 tg:t<gA
 laws:∀r∈R,∃d Y,YV (fun b=>b≠t) W d r Y
 fm:Fms W t Y pF F most
structure CkB (W:World) (t g gS:Nat) (r:RY) (d:Nat) (Y:YLaw) (L:List RSl):Prop where
 bl:Blk W g (yCells r).toArray 29
 yv:YV (fun b=>b≠t) W d r Y
 row:qD SSl W (some ⟨gS,0,none⟩) L
 fs:∀s∈L,∃F,s.n=F.length∧s.n≤s.c∧yF (fun b=>b≠t) W s.p F∧xK F
section
variable {v W W' : World} {t q q' g gA gS d most:Nat} {l:List Int} {r:RY} {R:List RY} {Y:YLaw} {pF:Option Addr} {F:List FarmF} {L:List RSl}
theorem YV.nt (h:YV (fun b=>b≠t) W d r Y)(hb:But t W W'):YV (fun b=>b≠t) W' d r Y:=h.change hb.size fun b k hl=>⟨hb.block b hl k,k⟩
theorem YV.raw (h:YV (fun _=>True) v d r Y)(hb:Below v.heap.size v W)(ht:v.heap.size≤t):YV (fun b=>b≠t) W d r Y:=h.lt.change hb.size fun b k hl=>⟨hb.block b hl,by omega⟩
theorem Fms.nt (h:Fms W t Y pF F most):yF (fun b=>b≠t) W pF F:=h.at_.change mle fun b k _=>⟨rfl,by omega⟩
theorem Fms.lo (h:Fms W t Y pF F most):xK F:=fun f hf y hy=>by have:=(h.fm f hf).pos y hy;omega
theorem CkA.next (h:CkA v W t l q gA R Y pF F most)(ht:qV W' t l q')(hb:But t W W'):CkA v W' t l q' gA R Y pF F most:=by
 have:=h.wt;have:=h.low.size;have:=h.tg
 exact⟨ht,h.low.trans (hb.below h.wt (by omega)),h.wt,h.row.blocks hb.size fun a e=>by
  cases e
  by_cases hR:R = []
  ·exact .inl hR
  ·exact .inr (hb.block gA (h.row.lt hR rfl) (by omega)),h.tg,fun r hr=>by
  obtain⟨d,Y,hy⟩:=h.laws r hr
  exact⟨d,Y,hy.nt hb⟩,h.fm.but hb⟩
theorem CkA.below (h:CkA v W t l q gA R Y pF F most)(hb:Below W.heap.size W W'):CkA v W' t l q gA R Y pF F most:=h.next (h.tape.below hb) (.of_below hb)
theorem CkA.at (h:CkA v W t l q gA R Y pF F most){k:Nat}(hk:k<R.length):∃d Y,YV (fun b=>b≠t) W d R[k] Y∧gA<W.heap.size∧W.cell? ⟨gA,k*10,none⟩=some (.slice R[k].sp R[k].sn R[k].sc)∧W.cell? ⟨gA,k*10+1,none⟩=some (.slice R[k].tp R[k].tn R[k].tc)∧W.cell? ⟨gA,k*10+2,none⟩=some (I O R[k].due)∧W.cell? ⟨gA,k*10+3,none⟩=some (I O R[k].last)∧W.cell? ⟨gA,k*10+4,none⟩=some (I O R[k].mille)∧W.cell? ⟨gA,k*10+5,none⟩=some (.slice R[k].gp R[k].gn R[k].gc)∧W.cell? ⟨gA,k*10+6,none⟩=some (I O R[k].cap)∧W.cell? ⟨gA,k*10+7,none⟩=some (I O R[k].env)∧W.cell? ⟨gA,k*10+8,none⟩=some (I O R[k].unit)∧W.cell? ⟨gA,k*10+9,none⟩=some (I O R[k].width):=by
 obtain⟨d,Y,hy⟩:=h.laws _ (List.getElem_mem hk);obtain⟨b,off,e,hl,hc⟩:=h.row.at hk
 cases e
 have hc' : ∀i u,(yCells R[k])[i]?=some u→W.cell? ⟨gA,k*10+i,none⟩=some u:=fun i u hu=>by have:=hc i u hu;rwa [Nat.zero_add]at this
 exact⟨d,Y,hy,hl,hc' 0 _ rfl,hc' 1 _ rfl,hc' 2 _ rfl,hc' 3 _ rfl,hc' 4 _ rfl,hc' 5 _ rfl,hc' 6 _ rfl,hc' 7 _ rfl,hc' 8 _ rfl,hc' 9 _ rfl⟩
theorem CkB.below (h:CkB W t g gS r d Y L)(hb:Below W.heap.size W W'):CkB W' t g gS r d Y L :=
 ⟨h.bl.below hb,h.yv.below hb,h.row.below hb,fun s hs=>by obtain⟨F,h1,h2,h3,h4⟩:=h.fs s hs;exact⟨F,h1,h2,h3.below hb,h4⟩⟩
theorem CkB.at (h:CkB W t g gS r d Y L){k:Nat}(hk:k<L.length):∃(p:Option Addr) (F:List FarmF) (c:Nat),F.length≤c∧yF (fun b=>b≠t) W p F∧xK F∧W.cell? ⟨gS,k,none⟩=some (.slice p F.length c)∧gS<W.heap.size:=by
 obtain⟨F,h1,h2,h3,h4⟩:=h.fs _ (List.getElem_mem hk);obtain⟨b,off,e,hl,hc⟩:=h.row.at hk
 cases e
 have:=hc 0 _ rfl;have e2:0+k*SSl.k+0=k:=by show 0+k*1+0=k;omega
 rw[e2]at this;refine⟨L[k].p,F,L[k].c,by omega,h3,h4,?_,hl⟩;rw[this,h1]
end
end Go.Proofs.YtefcalgjnkigjaaGreat
namespace Go.Proofs.YtefcalgjnkigjaaGreat
open Go.RowKit
theorem sV (a b:Int)(w:World):Calls Tryz.prog 223 #[.agg #[I O a,I O b]] w fun e w' => e = .returned (.bool (As.measB a b))∧Below w.heap.size w w' :=by
 have HA:=mh (qK mle (brf w.heap.size w) (.cells #[I O a,I O b] 85))
 by_cases h1:0≤a
 rotate_left
 ·rw[As.measB_not (by omega)]
  go_enter Tryz.func223,Tryz.ntmps223
  go_wp2
  go_ret
  exact⟨rfl,HA.out⟩
 by_cases h2:a≤268435456
 rotate_left
 ·rw[As.measB_not (by omega)]
  go_enter Tryz.func223,Tryz.ntmps223
  go_wp2
  go_ret
  exact⟨rfl,HA.out⟩
 by_cases h3:0≤b
 rotate_left
 ·rw[As.measB_not (by omega)]
  go_enter Tryz.func223,Tryz.ntmps223
  go_wp2
  go_ret
  exact⟨rfl,HA.out⟩
 by_cases h4:b≤16777216
 rotate_left
 ·rw[As.measB_not (by omega)]
  go_enter Tryz.func223,Tryz.ntmps223
  go_wp2
  go_ret
  exact⟨rfl,HA.out⟩
 ·rw[As.measB_iff.2 ⟨h1,h2,h3,h4⟩]
  go_enter Tryz.func223,Tryz.ntmps223
  go_wp2
  go_ret
  exact⟨rfl,HA.out⟩
theorem mL (a b:Int)(w:World):Calls Tryz.prog 131 #[.agg #[I O a,I O b]] w fun e w' => e = .returned (.bool (As.measB a b))∧Below w.heap.size w w' :=by
 have HA:=mh (qK mle (brf w.heap.size w) (.cells #[I O a,I O b] 85))
 by_cases h1:0≤a
 rotate_left
 ·rw[As.measB_not (by omega)]
  go_enter Tryz.func131,Tryz.ntmps131
  go_wp2
  go_ret
  exact⟨rfl,HA.out⟩
 by_cases h2:a≤268435456
 rotate_left
 ·rw[As.measB_not (by omega)]
  go_enter Tryz.func131,Tryz.ntmps131
  go_wp2
  go_ret
  exact⟨rfl,HA.out⟩
 by_cases h3:0≤b
 rotate_left
 ·rw[As.measB_not (by omega)]
  go_enter Tryz.func131,Tryz.ntmps131
  go_wp2
  go_ret
  exact⟨rfl,HA.out⟩
 by_cases h4:b≤16777216
 rotate_left
 ·rw[As.measB_not (by omega)]
  go_enter Tryz.func131,Tryz.ntmps131
  go_wp2
  go_ret
  exact⟨rfl,HA.out⟩
 ·rw[As.measB_iff.2 ⟨h1,h2,h3,h4⟩]
  go_enter Tryz.func131,Tryz.ntmps131
  go_wp2
  go_ret
  exact⟨rfl,HA.out⟩
theorem cP (a b width:Int)(w:World)(hm:As.measB a b=true)(w0:0≤width)(w1:width≤200) :
  Calls Tryz.prog 214 #[.agg #[I O a,I O b],I O width] w fun e w' => e = .returned (.tuple #[I O (As.margin a b width),I O 0])∧Below w.heap.size w w' :=by
 obtain⟨a0,a1,b0,b1⟩:=As.measB_iff.1 hm;have HA:=mh (qK mle (brf w.heap.size w) (.cells #[I O a,I O b] 85));have VL:=mh (fun (W:World)=>sV a b W);rw[hm]at VL;have hp:=As.prod_bd b0 b1 w0 w1
 have EM:=mh (show As.margin a b width=min a ((b*width+99) / 100) from by
  unfold As.margin
  rw[(As.up_bd hp.1 (by omega)).2.2,Int.min_comm])
 obtain⟨X,eX⟩:∃X,b*width=X:=⟨_,rfl⟩;have hw:IntKind.i64.wrap (b*width)=X:=by rw[eX,IntKind.wrap_i64];omega
 have x1:X≤3355443200:=by omega
 have x0:0≤X:=by omega
 rw[eX]at EM;clear hp eX hm
 go_enter Tryz.func214,Tryz.ntmps214
 go_wp2_with (go_at_call 223;(with_reducible refine cmo (VL.out _) ?_);rintro e w1 ⟨rfl,hb1⟩;have HB1:=mh (qZ mle HA.out hb1);have C0:=qJ hb1 0;have C1:=qJ hb1 1;clear hb1)
 all_goals
  go_ret2
  exact⟨by rw[EM.out];first|rfl|exact congrArg (fun x=>Ending.returned (.tuple #[I O x,I O 0])) (by omega),HB1.out⟩
theorem pB (c a b width:Int)(w:World)(hm:As.measB a b=true)(w0:0≤width)(w1:width≤200)(c0:0≤c)(c1:c≤268435456) :
  Calls Tryz.prog 190 #[I O c,.agg #[I O a,I O b],I O width] w fun e w' => e = .returned (.tuple #[I O (As.margin a b width),I O 0])∧Below w.heap.size w w' :=by
 have HA:=mh (qK mle (brf w.heap.size w) (.cells #[I O a,I O b] 85));have MG:=mh (fun (W:World)=>cP a b width W hm w0 w1);obtain⟨M,eM⟩:∃M,As.margin a b width=M:=⟨_,rfl⟩;rw[eM]at MG ⊢;clear eM hm
 go_enter Tryz.func190,Tryz.ntmps190
 go_wp2_with (go_at_call 214;(with_reducible refine cmo (MG.out _) ?_);rintro e w1 ⟨rfl,hb1⟩;have HB1:=mh (qZ mle HA.out hb1);clear hb1)
 go_ret2
 exact⟨rfl,HB1.out⟩
theorem cW (c a b width:Int)(w:World)(hm:As.measB a b=true)(w0:0≤width)(w1:width≤200)(c0:0≤c)(c1:c≤268435456) :
  Calls Tryz.prog 154 #[I O c,.agg #[I O a,I O b],I O width] w fun e w' => e = .returned (.tuple #[I O (As.accept c a b width),I O 0])∧Below w.heap.size w w' :=by
 obtain⟨a0,a1,b0,b1⟩:=As.measB_iff.1 hm;have HA:=mh (qK mle (brf w.heap.size w) (.cells #[I O a,I O b] 85));have CK:=mh (fun (W:World)=>pB c a b width W hm w0 w1 c0 c1);obtain⟨M,eM⟩:∃M,As.margin a b width=M:=⟨_,rfl⟩;have EA:=mh (show As.accept c a b width=if max (c - a) (a - c)≤M then c else a from by unfold As.accept;rw[eM]);rw[eM]at CK;have hw1:IntKind.i64.wrap (c - a)=c - a:=by rw[IntKind.wrap_i64];omega
 have hw2:IntKind.i64.wrap (a - c)=a - c:=by rw[IntKind.wrap_i64];omega
 clear eM hm
 by_cases h1:c - a≤M
 rotate_left
 ·have EV:=mh (show As.accept c a b width=a from by rw[EA.out,if_neg (by omega)])
  go_enter Tryz.func154,Tryz.ntmps154
  go_wp2_with (go_at_call 190;(with_reducible refine cmo (CK.out _) ?_);rintro e w1 ⟨rfl,hb1⟩;have HB1:=mh (qZ mle HA.out hb1);have C0:=qJ hb1 0;clear hb1)
  go_ret2
  exact⟨by rw[EV.out];rfl,HB1.out⟩
 by_cases h2:a - c≤M
 rotate_left
 ·have EV:=mh (show As.accept c a b width=a from by rw[EA.out,if_neg (by omega)])
  go_enter Tryz.func154,Tryz.ntmps154
  go_wp2_with (go_at_call 190;(with_reducible refine cmo (CK.out _) ?_);rintro e w1 ⟨rfl,hb1⟩;have HB1:=mh (qZ mle HA.out hb1);have C0:=qJ hb1 0;clear hb1)
  go_ret2
  exact⟨by rw[EV.out];rfl,HB1.out⟩
 ·have EV:=mh (show As.accept c a b width=c from by rw[EA.out,if_pos (by omega)])
  go_enter Tryz.func154,Tryz.ntmps154
  go_wp2_with (go_at_call 190;(with_reducible refine cmo (CK.out _) ?_);rintro e w1 ⟨rfl,hb1⟩;have HB1:=mh (qZ mle HA.out hb1);have C0:=qJ hb1 0;clear hb1)
  go_ret2
  exact⟨by rw[EV.out];rfl,HB1.out⟩
theorem As.seenB_eq {k a b:Int}:As.seenB k a b=true↔0≤k∧k≤4∧As.measB a b=true∧(k=1∨(a=0∧b=0)):=by
 rw[As.seenB_iff,As.measB_iff]
 constructor
 ·rintro ⟨h1,h2,h3,h4⟩
  by_cases h:k=1
  ·exact⟨h1,h2,h3 h,.inl h⟩
  ·obtain⟨e1,e2⟩:=h4 h
   exact⟨h1,h2,by omega,.inr ⟨e1,e2⟩⟩
 ·rintro ⟨h1,h2,h3,h4⟩
  exact⟨h1,h2,fun _=>h3,fun h=>h4.resolve_left h⟩
theorem As.chk28_68 {f:As.Fct}{width:Int}(h:¬(0≤f.decl∧f.decl≤268435456∧0≤f.due∧f.due≤f.decl ∧ -1≤f.season∧f.season≤1∧0≤f.kind∧f.kind≤4∧As.measB f.area f.border=true∧(f.kind=1∨(f.area=0∧f.border=0)))):As.chk28 f width=68:=by
 unfold As.chk28;rw[if_pos];rw[← Bool.not_eq_true];intro hf;unfold As.factB at hf;simp only[Bool.and_eq_true,decide_eq_true_eq]at hf;obtain⟨h1,h2,h3,h4,h5,h6,h7⟩:=hf;obtain⟨k0,k1,k2,k3⟩:=As.seenB_eq.1 h7;exact h ⟨h1,h2,h3,h4,h5,h6,k0,k1,k2,k3⟩
theorem As.chk28_ok {f:As.Fct}{width:Int}(h:0≤f.decl∧f.decl≤268435456∧0≤f.due∧f.due≤f.decl ∧ -1≤f.season∧f.season≤1∧0≤f.kind∧f.kind≤4∧As.measB f.area f.border=true∧(f.kind=1∨(f.area=0∧f.border=0))):As.chk28 f width=if width<0∨200<width then 2 else 0:=by
 unfold As.chk28;obtain⟨h1,h2,h3,h4,h5,h6,k0,k1,k2,k3⟩:=h;have:As.factB f=true:=by
  unfold As.factB;simp only[Bool.and_eq_true,decide_eq_true_eq];exact⟨h1,h2,h3,h4,h5,h6,As.seenB_eq.2 ⟨k0,k1,k2,k3⟩⟩
 rw[this]
 rfl
theorem kJ (d u s k a b width:Int)(w:World):Calls Tryz.prog 93 #[.agg #[I O d,I O u,I O s,I O k,I O a,I O b],I O width] w fun e w' => e = .returned (I O (As.chk28 ⟨d,u,s,k,a,b⟩ width))∧Below w.heap.size w w' :=by
 have HA:=mh (qK mle (brf w.heap.size w) (.cells #[I O d,I O u,I O s,I O k,I O a,I O b] 126));have MS:=mh (fun (W:World)=>mL a b W);obtain⟨m,em⟩:∃m,As.measB a b=m:=⟨_,rfl⟩;rw[em]at MS
 rcases (show(d<0)∨(¬d<0∧268435456<d)∨(¬d<0∧¬268435456<d∧u<0)∨(¬d<0∧¬268435456<d∧¬u<0∧d<u)∨(¬d<0∧¬268435456<d∧¬u<0∧¬d<u∧s < -1) ∨
   (¬d<0∧¬268435456<d∧¬u<0∧¬d<u∧¬s < -1∧1<s)∨(¬d<0∧¬268435456<d∧¬u<0∧¬d<u∧¬s < -1∧¬1<s∧k<0)∨(¬d<0∧¬268435456<d∧¬u<0∧¬d<u∧¬s < -1∧¬1<s∧¬k<0∧4<k) ∨
   (¬d<0∧¬268435456<d∧¬u<0∧¬d<u∧¬s < -1∧¬1<s∧¬k<0∧¬4<k) by omega)
  with h1|⟨h1,h2⟩|⟨h1,h2,h3⟩|⟨h1,h2,h3,h4⟩|⟨h1,h2,h3,h4,h5⟩|⟨h1,h2,h3,h4,h5,h6⟩|⟨h1,h2,h3,h4,h5,h6,h7⟩|⟨h1,h2,h3,h4,h5,h6,h7,h8⟩|⟨h1,h2,h3,h4,h5,h6,h7,h8⟩
 case' inr.inr.inr.inr.inr.inr.inr.inr=>skip
 rotate_right
 rotate_left
 all_goals first
  | (rw[As.chk28_68 (f:=⟨d,u,s,k,a,b⟩) (by simp only;omega)]
     go_enter Tryz.func93,Tryz.ntmps93
     go_wp2
     go_ret
     exact⟨rfl,HA.out⟩)
  | skip
 cases m
 ·rw[As.chk28_68 (f:=⟨d,u,s,k,a,b⟩) (by simp only;rw[em];simp)]
  go_enter Tryz.func93,Tryz.ntmps93
  go_wp2_with (go_at_call 131;(with_reducible refine cmo (MS.out _) ?_);rintro e w1 ⟨rfl,hb1⟩;have HB1:=mh (qZ mle HA.out hb1);have C3:=qJ hb1 3;have C4:=qJ hb1 4;have C5:=qJ hb1 5;clear hb1)
  go_ret
  exact⟨rfl,HB1.out⟩
 by_cases hk:k=1
 ·subst hk
  rw[As.chk28_ok (f:=⟨d,u,s,1,a,b⟩) (by simp only;exact⟨by omega,by omega,by omega,by omega,by omega,by omega,by omega,by omega,em,.inl trivial⟩)]
  by_cases w0:width<0
  ·rw[if_pos (.inl w0)]
   go_enter Tryz.func93,Tryz.ntmps93
   go_wp2_with (go_at_call 131;(with_reducible refine cmo (MS.out _) ?_);rintro e w1 ⟨rfl,hb1⟩;have HB1:=mh (qZ mle HA.out hb1);have C3:=qJ hb1 3;have C4:=qJ hb1 4;have C5:=qJ hb1 5;clear hb1)
   go_ret
   exact⟨rfl,HB1.out⟩
  by_cases w1:200<width
  ·rw[if_pos (.inr w1)]
   go_enter Tryz.func93,Tryz.ntmps93
   go_wp2_with (go_at_call 131;(with_reducible refine cmo (MS.out _) ?_);rintro e w1 ⟨rfl,hb1⟩;have HB1:=mh (qZ mle HA.out hb1);have C3:=qJ hb1 3;have C4:=qJ hb1 4;have C5:=qJ hb1 5;clear hb1)
   go_ret
   exact⟨rfl,HB1.out⟩
  ·rw[if_neg (by omega)]
   go_enter Tryz.func93,Tryz.ntmps93
   go_wp2_with (go_at_call 131;(with_reducible refine cmo (MS.out _) ?_);rintro e w1 ⟨rfl,hb1⟩;have HB1:=mh (qZ mle HA.out hb1);have C3:=qJ hb1 3;have C4:=qJ hb1 4;have C5:=qJ hb1 5;clear hb1)
   go_ret
   exact⟨rfl,HB1.out⟩
 by_cases ha:a=0
 rotate_left
 ·rw[As.chk28_68 (f:=⟨d,u,s,k,a,b⟩) (by simp only;omega)]
  go_enter Tryz.func93,Tryz.ntmps93
  go_wp2_with (go_at_call 131;(with_reducible refine cmo (MS.out _) ?_);rintro e w1 ⟨rfl,hb1⟩;have HB1:=mh (qZ mle HA.out hb1);have C3:=qJ hb1 3;have C4:=qJ hb1 4;have C5:=qJ hb1 5;clear hb1)
  go_ret
  exact⟨rfl,HB1.out⟩
 subst ha
 by_cases hb:b=0
 rotate_left
 ·rw[As.chk28_68 (f:=⟨d,u,s,k,0,b⟩) (by simp only;omega)]
  go_enter Tryz.func93,Tryz.ntmps93
  go_wp2_with (go_at_call 131;(with_reducible refine cmo (MS.out _) ?_);rintro e w1 ⟨rfl,hb1⟩;have HB1:=mh (qZ mle HA.out hb1);have C3:=qJ hb1 3;have C4:=qJ hb1 4;have C5:=qJ hb1 5;clear hb1)
  go_ret
  exact⟨rfl,HB1.out⟩
 subst hb;rw[As.chk28_ok (f:=⟨d,u,s,k,0,0⟩) (by simp only;exact⟨by omega,by omega,by omega,by omega,by omega,by omega,by omega,by omega,em,.inr ⟨trivial,trivial⟩⟩)]
 by_cases w0:width<0
 ·rw[if_pos (.inl w0)]
  go_enter Tryz.func93,Tryz.ntmps93
  go_wp2_with (go_at_call 131;(with_reducible refine cmo (MS.out _) ?_);rintro e w1 ⟨rfl,hb1⟩;have HB1:=mh (qZ mle HA.out hb1);have C3:=qJ hb1 3;have C4:=qJ hb1 4;have C5:=qJ hb1 5;clear hb1)
  go_ret
  exact⟨rfl,HB1.out⟩
 by_cases w1:200<width
 ·rw[if_pos (.inr w1)]
  go_enter Tryz.func93,Tryz.ntmps93
  go_wp2_with (go_at_call 131;(with_reducible refine cmo (MS.out _) ?_);rintro e w1 ⟨rfl,hb1⟩;have HB1:=mh (qZ mle HA.out hb1);have C3:=qJ hb1 3;have C4:=qJ hb1 4;have C5:=qJ hb1 5;clear hb1)
  go_ret
  exact⟨rfl,HB1.out⟩
 ·rw[if_neg (by omega)]
  go_enter Tryz.func93,Tryz.ntmps93
  go_wp2_with (go_at_call 131;(with_reducible refine cmo (MS.out _) ?_);rintro e w1 ⟨rfl,hb1⟩;have HB1:=mh (qZ mle HA.out hb1);have C3:=qJ hb1 3;have C4:=qJ hb1 4;have C5:=qJ hb1 5;clear hb1)
  go_ret
  exact⟨rfl,HB1.out⟩
end Go.Proofs.YtefcalgjnkigjaaGreat
