/- Packed. -/
import Derived.Test.YtbcmabolkkfgfaaGreatDoorQ20
set_option maxRecDepth 100000
set_option maxHeartbeats 8000000
open Go.Value renaming int → I
open Go.IntKind renaming i64 → O
namespace Go.Proofs.YtbcmabolkkfgfaaGreatDoor
open Go.RowKit Te Sc
theorem OwnR.mk00 {α:Type}{S:Shape α}(w:World)(T:TypeId):OwnR S (w.alloc (.cells #[] T)) T w.heap.size (.slice (some ⟨w.heap.size,0,none⟩) 0 0) [] :=
 World.ownsRow_made w #[] 0 mle (by unfold maxLen;omega) (by simp)
theorem OwnR.mk1 {α:Type}{S:Shape α}{w:World}{T:TypeId}{y:α}{cs:Array Value}(hcs:cs.toList=S.cells y):OwnR S (w.alloc (.cells cs T)) T w.heap.size (.slice (some ⟨w.heap.size,0,none⟩) 1 1) [y]:=by
 have hl:cs.toList.length=S.k:=by rw[hcs,S.len]
 refine⟨by simp[Shape.flat,S.len],.inr ⟨w.heap.size,1,cs,rfl,Nat.le_refl _,Array.getElem?_push_size,Nat.le_refl _,by unfold maxLen;omega,by simpa using hl,?_⟩⟩
 show cs.toList.take (1*S.k)=S.cells y ++ []
 rw[List.append_nil,Nat.one_mul,← hl,List.take_length,hcs]
theorem OwnR.len2 {α:Type}{S:Shape α}{w:World}{T:TypeId}{B n c:Nat}{p:Option Addr}{L:List α}(h:OwnR S w T B (.slice p n c) L):L.length=n:=by
 rcases h.2 with⟨hv,hn⟩|⟨g,cap,cur,hv,_⟩
 ·cases hv;exact hn
 ·cases hv;rfl
structure SmX (s:Sch):Prop where
 nm:s.nm.size≤1000
 ct:count s.cond≤1000
def SpoG (t:Nat) (l:List Int) (w:World) (e:Ending) (w' : World):Prop :=
 ∃(p:Option Addr) (n c d:Nat) (L:List Sch) (q:Nat),e = .returned (.slice p n c)∧n=L.length∧n≤c∧SsAt (fun b=>w.heap.size≤b) w' d p L∧(∀s∈L,SmX s)∧TpB w w' t l q
theorem SpoG.below {t:Nat}{l:List Int}{w W W' : World}{e:Ending}(h:SpoG t l w e W)(hb:Below W.heap.size W W'):SpoG t l w e W' :=by
 obtain⟨p,n,c,d,L,q,h1,h2,h3,h4,h5,h6⟩:=h;exact⟨p,n,c,d,L,q,h1,h2,h3,h4.below hb,h5,h6.below hb⟩
structure S17 (w W:World) (t:Nat) (l:List Int) (q n c g d:Nat) (R:List RSx) (L:List Sch):Prop where
 tp:TpB w W t l q
 own:OwnR SSc W 31 w.heap.size (.slice (some ⟨g,0,none⟩) n c) R
 hl:R.length=L.length
 sv:∀k (a:k<R.length) (b:k<L.length),SV (fun b=>w.heap.size≤b∧b≠g) W d R[k] L[k]
 sm:∀s∈L,SmX s
section
variable {w W W' : World} {t q q' n c g d k:Nat} {l:List Int} {R:List RSx} {L:List Sch}
theorem S17.next (h:S17 w W t l q n c g d R L)(ht:TapeAt W' t l q')(hb:But t W W'):S17 w W' t l q' n c g d R L :=
 ⟨h.tp.next ht hb,h.own.blocks fun b _ hB hl=>hb.block b hl (by have:=h.tp.lt;omega),h.hl,fun k a b=>(h.sv k a b).change hb.size fun b k hl=>⟨hb.block b hl (by have:=h.tp.lt;omega),k⟩,h.sm⟩
theorem S17.below (h:S17 w W t l q n c g d R L)(hb:Below W.heap.size W W'):S17 w W' t l q n c g d R L:=h.next (h.tp.tape.below hb) (.of_below hb)
theorem S17.drew (h:S17 w W t l q n c g d R L):S17 w W.drew t l q n c g d R L:=h.below (brf _ _).drew
theorem S17.fin (h:S17 w W t l q n c g d R L):SpoG t l w (.returned (.slice (some ⟨g,0,none⟩) n c)) W:=by
 obtain⟨p', c', e,k1,k2,k3, -,k5⟩:=h.own.cut h.own.len2
 cases e
 exact⟨_,n,c,d,L,q,rfl,by rw[← h.hl];exact h.own.len2.symm,k3,⟨⟨R,h.hl,k5,fun k a b=>(h.sv k a b).change mle fun b k _=>⟨rfl,k.1⟩⟩,fun a ea => .inr (k2 a ea).2.2.1⟩,h.sm,h.tp⟩
theorem S17.at (h:S17 w W t l q n c g d R L)(hk:k<R.length):(∀i u,(sCells R[k])[i]?=some u→W.cell? ⟨g,k*10+i,none⟩=some u)∧(∀i,W.frozen? ⟨g,i,none⟩=false)∧w.heap.size≤g∧g<W.heap.size:=by
 obtain⟨g', e, -,hB,hl,hc,hf, -⟩:=h.own.at hk
 cases e
 exact⟨hc,hf,hB,hl⟩
theorem S17.put (h:S17 w W t l q n c g d R L)(hk:k<R.length)(i:Nat)(hi:i<10)(u:Value)(a' : RSx)(s' : Sch)(ha:sCells a' = (sCells R[k]).set i u)
  (hs:∀Q W,SV Q W d R[k] (L[k]'(h.hl▸hk))→SV Q W d a' s') (hm:SmX s'):SpoG t l w (.returned (.slice (some ⟨g,0,none⟩) n c)) (W.setCell ⟨g,k*10+i,none⟩ u):=by
 obtain⟨g', e, -,hB,hgl,hc,hf,hst⟩:=h.own.at hk
 cases e
 have hk' : k<L.length:=h.hl▸hk;have hsz:(W.setCell ⟨g,k*10+i,none⟩ u).heap.size=W.heap.size:=setCell_sz _ _ _;have far:∀b,(w.heap.size≤b∧b≠g)→b<W.heap.size→(W.setCell ⟨g,k*10+i,none⟩ u).heap[b]?=W.heap[b]?∧(w.heap.size≤b∧b≠g):=fun b q _=>⟨setCell_far _ q.2 _ _,q⟩
 refine S17.fin (d:=d) (R:=R.set k a') (L:=L.set k s') ⟨h.tp.set hB _,hst i u a' hi ha,by simp[h.hl],fun j a b=>?_,fun s m=>(List.mem_or_eq_of_mem_set m).elim (h.sm s) fun e=>by rw[e];exact hm⟩
 rw[List.getElem_set,List.getElem_set]
 by_cases ej:k=j
 ·subst ej
  rw[if_pos rfl,if_pos rfl];exact hs _ _ ((h.sv k hk hk').change (by rw[hsz];exact Nat.le_refl _) far)
 ·rw[if_neg ej,if_neg ej]
  rw[List.length_set]at a b;exact(h.sv j a b).change (by rw[hsz];exact Nat.le_refl _) far
theorem S17.brk (h:S17 w W t l q n c g d R L)(hk:k<R.length)(hb:Below W.heap.size W W'){p5:Option Addr}{n5 c5:Nat}{B5:List Brk}(hO:OwnR SBk W' 54 W.heap.size (.slice p5 n5 c5) B5) :
  SpoG t l w (.returned (.slice (some ⟨g,0,none⟩) n c)) (W'.setCell ⟨g,k*10+6,none⟩ (.slice p5 n5 c5)):=by
 have h2:=h.below hb;obtain⟨g', e, -,hB,hgl,hc,hf,hst⟩:=h2.own.at hk
 cases e
 have hgW:=(h.at hk).2.2.2;have hk' : k<L.length:=h.hl▸hk;obtain⟨p', c', e,k1,k2,k3, -,k5⟩:=hO.cut hO.len2
 cases e
 have hsz:(W'.setCell ⟨g,k*10+6,none⟩ (.slice p5 n5 c5)).heap.size=W'.heap.size:=setCell_sz _ _ _;have far:∀b,(w.heap.size≤b∧b≠g)→b<W'.heap.size→(W'.setCell ⟨g,k*10+6,none⟩ (.slice p5 n5 c5)).heap[b]?=W'.heap[b]?∧(w.heap.size≤b∧b≠g):=fun b q _=>⟨setCell_far _ q.2 _ _,q⟩
 have hwW:=h.tp.but.size
 refine S17.fin (d:=d) (R:=R.set k { R[k] with bp:=p5,bn:=n5,bc:=c5 }) (L:=L.set k { L[k] with br:=B5 }) ⟨h2.tp.set hB _,hst 6 _ _ (by show 6<10;omega) rfl,by simp[h.hl],fun j a b=>?_,fun s m=>(List.mem_or_eq_of_mem_set m).elim (h.sm s) fun e=>by
  rw[e];have:=h.sm L[k] (List.getElem_mem hk')
  exact⟨this.nm,this.ct⟩⟩
 rw[List.getElem_set,List.getElem_set]
 by_cases ej:k=j
 ·subst ej
  rw[if_pos rfl,if_pos rfl];have v:=(h2.sv k hk hk').change (by rw[hsz];exact Nat.le_refl _) far;exact⟨v.num,v.nm,v.t,k5.blocks (by rw[hsz];exact Nat.le_refl _) fun a ea => .inr (setCell_far _ (by have:=(k2 a ea).2.2.1;omega) _ _),hO.len2.symm,k3,fun e=>(k1 e).1,fun a ea => .inr (by have:=(k2 a ea).2.2.1;omega),v.least,v.ex,v.needs⟩
 ·rw[if_neg ej,if_neg ej]
  rw[List.length_set]at a b;exact(h2.sv j a b).change (by rw[hsz];exact Nat.le_refl _) far
theorem S17.more (h:S17 w W t l q n c g d R L)(hk:k<R.length){v5:Value}{H:Nat}(hO:OwnR SSc W' 31 w.heap.size v5 (R ++ [R[k]]))(ha:Appends W W' w.heap.size H (.slice (some ⟨g,0,none⟩) n c) v5)(_hH:W.heap.size≤H) :
  SpoG t l w (.returned v5) W' :=by
 have hk' : k<L.length:=h.hl▸hk;obtain⟨p', c', e,k1,k2,k3, -,k5⟩:=hO.cut (n:=L.length+1) (by rw[lap,h.hl];rfl);subst e;have key:∀j (a:j<R.length) (b:j<L.length),SV (fun b=>w.heap.size≤b) W' d R[j] L[j]:=fun j a b=>(h.sv j a b).change ha.size fun b q hl=>⟨ha.far b hl fun e=>q.2 (by cases e;rfl),q.1⟩
 refine⟨p', L.length+1,c', d,L ++ [L[k]],q,rfl,by rw[lap];rfl,k3,⟨⟨R ++ [R[k]],by rw[lap,lap,h.hl];rfl,k5,fun j a b=>?_⟩,fun a ea => .inr (k2 a ea).2.2.1⟩,fun s m=>(List.mem_append.1 m).elim (h.sm s) fun e=>by rw[List.mem_singleton.1 e];exact h.sm _ (List.getElem_mem hk'),h.tp.belowB ha.below⟩
 by_cases hj:j<R.length
 ·rw[List.getElem_append_left hj,List.getElem_append_left (h.hl▸hj)]
  exact key j hj (h.hl▸hj)
 ·have a' : j<R.length+1:=by simpa using a
  have ej:j=R.length:=by omega
  subst ej;rw[List.getElem_append_right mle,List.getElem_append_right (by rw[h.hl];exact Nat.le_refl _)];simp only[h.hl,Nat.sub_self,List.getElem_cons_zero];exact key k hk hk'
end
theorem one_brX {L:List Sch}(h:∀s∈L,one17 s=0){k:Nat}(hk:k<L.length):L[k].br.length≤1000:=by
 have h1:=h _ (List.getElem_mem hk);unfold one17 at h1
 split at h1
 ·cases h1
 split at h1
 ·cases h1
 split at h1
 ·exact absurd h1 (by assumption)
 split at h1
 ·cases h1
 rename_i h2
 have h3:brB L[k].br=true:=by
  cases e:brB L[k].br
  ·exact absurd (.inl e) h2
  ·rfl
 unfold brB at h3;simp only[Bool.and_eq_true,decide_eq_true_eq]at h3;omega
def setOp (t:Tm) (x:Int):Tm := .mk x t.num t.more t.kids
theorem count_setOp (t:Tm)(x:Int):count (setOp t x)=count t:=by
 cases t;rfl
theorem spoilt17_any (t:Nat)(l:List Int)(a:Nat)(x:Int)(w:World)(h:TapeAt w t l a)(hx : -9223372036854775808≤x):Calls Tryz.prog 8 #[.pointer (some ⟨t,0,none⟩),I O x] w (SpoG t l w):=by
 have htl:=h.lt;have HX:=mh hx;have T1:=mh ((TpB.init h).alloc (.cells #[] 31));have OV:=mh (OwnR.mk00 (S:=SSc) w 31);have SZ:=mh (show(w.alloc (.cells #[] 31)).heap.size=w.heap.size+1 from by simp);have LW:=mh (tapeLaw_any t l a 3 (by decide) (w.alloc (.cells #[] 31)) T1.out.tape);unfold LawGive at LW;have TN:=mh (fun (W:World) (q:Nat) (n:Int) (h:TapeAt W t l q) (hn:n≤9223372036854775807)=>next_any t l q n W h hn);have MD:=mh (fun (W:World) (m:Int) (hm:m≤9223372036854775807)=>mod_any x m W hx hm);clear h hx
 go_enter Tryz.func8,Tryz.ntmps8
 go_wp2_with fail
 (with_reducible refine cmo LW.out ?_);rintro e w1 ⟨v0,L,q1,rfl,hlw,hck,hl3,hsm,ht1,hb1⟩;have BRL:=mh (fun k (hk:k<L.length)=>one_brX (lawOk hck).one hk);clear hck;obtain⟨p0,c0,d,rfl,hnc,hz0,hss⟩:=hlw.ss rfl;obtain⟨⟨R,hrl,hrr,hrv⟩, -⟩:=hss;have OV1:=mh (OV.out.blocks (w' := w1) fun b eb _ hl=>hb1.block b hl (by have:=htl;cases eb;omega));have TP1:=mh (T1.out.next ht1 hb1);have RR:=mh hrr;have HRL:=mh hrl;have HRV:=mh hrv;have HL3:=mh hl3;have HSM:=mh hsm;have WS:=mh hb1.size;have HZ0:=mh hz0;clear hrr hrl hrv hl3 hsm hlw hz0 hnc ht1 hb1
 go_upto_region 2 with (first
  | (at_builtin;(refine OwnR.appendAll el_sch rfl (.tmp 7) (.tmp 9) rfl w.heap.size (.slice (some ⟨w.heap.size,0,none⟩) 0 0) [] R p0 c0 L.length HRL.out OV1.out RR.out HZ0.out rfl rfl (by have h1:=WS.out;have h2:=SZ.out;omega) (by have:=HL3.out;simp;omega) (by decide) ?_);intro v5 w5 hO5 hap5;rw[List.nil_append]at hO5;have HO5:=mh hO5;have HAP:=mh hap5;clear hO5 hap5)
  | fail)
 obtain⟨n,en⟩:∃n,L.length=n:=⟨_,rfl⟩;have EN:=mh en;obtain⟨p5,c5,rfl, -, -,hc5, -,hr5⟩:=HO5.out.cut (HRL.out.trans en);have HC5:=mh hc5;have HR5:=mh hr5;have HN3:=mh (show n≤3 from en▸HL3.out);clear hc5 hr5 en
 by_cases hz:n=0
 ·subst hz
  have FIN:=mh (show SpoG t l w (.returned (.slice p5 0 c5)) w5 from
   ⟨p5,0,c5,d, [],q1,rfl,rfl,Nat.zero_le _,⟨⟨[],rfl,Recs.nil _ _,fun k h=>by simp at h⟩,fun _ _ => .inl rfl⟩,(fun s hs=>by cases hs),TP1.out.belowB HAP.out.below⟩)
  go_wp2_with fail
  go_ret
  exact FIN.out
 have hnp:(0:Int)<(n:Int):=by omega
 have hne:¬(n:Int)=0:=by omega
 have HRN:=mh (show R.length=n from HRL.out.trans EN.out);obtain⟨g,ep, -, -, -, -, -, -⟩:=HO5.out.at (k:=0) (by rw[HRN.out];omega);subst ep
 have S1:=mh (show S17 w w5 t l q1 n c5 g d R L from⟨TP1.out.belowB HAP.out.below,HO5.out,HRL.out,fun k a b=>(HRV.out k a b).change HAP.out.size fun b q hl=>⟨HAP.out.far b hl fun e=>(by have h1:=SZ.out;have q' : (w.alloc (.cells #[] 31)).heap.size≤b:=q;have e4:w.heap.size=b:=Option.some.inj e;omega),by
  have q' : (w.alloc (.cells #[] 31)).heap.size≤b:=q;have hl' : b<w1.heap.size:=hl;have h1:=SZ.out;have h2:=WS.out;refine⟨by omega,fun e=>?_⟩
  rcases HAP.out.block with e3|e3
  ·have e4:g=w.heap.size:=Option.some.inj e3
   omega
  ·have e4:g=w1.heap.size:=Option.some.inj e3
   omega⟩,fun s hs=>by have:=HSM.out s hs;exact⟨by have:=this.nm;omega,by have:=this.ct;omega⟩⟩)
 clear OV OV1 T1 TP1 LW RR HRV HSM HO5 HAP HR5 WS SZ HZ0;obtain⟨k0,ek0⟩:∃x:Int,gives l q1 (n:Int)=x:=⟨_,rfl⟩;have hk0:=gives_bd l q1 (n:=(n:Int)) (by omega);rw[ek0]at hk0;obtain⟨q2,eq2⟩:∃x,taken l q1=x:=⟨_,rfl⟩;have T2:=mh (eq2▸ek0▸TN.out w5 q1 (n:Int) S1.out.tp.tape (by have:=HN3.out;omega));obtain⟨k,rfl⟩:=Int.eq_ofNat_of_zero_le hk0.1;have hk1:(0:Int)≤(k:Int):=hk0.1;have hk2:(k:Int)<(n:Int):=hk0.2;have HKR:=mh (show k<R.length by rw[HRN.out];omega);have HKL:=mh (show k<L.length by rw[EN.out];omega);clear ek0 eq2 hk0
 go_upto_region 5 with (first|(go_at_call 23;(with_reducible refine cmo T2.out ?_);rintro e w2 ⟨rfl,ht,hb⟩;have S2:=mh (S1.out.next ht hb);clear ht hb)|fail)
 obtain⟨m,em⟩:∃x:Int,gives l q2 11=x:=⟨_,rfl⟩;have hm:=gives_bd l q2 (n:=11) (by omega);rw[em]at hm;have T3:=mh (em▸TN.out w2 q2 11 S2.out.tp.tape (by omega));obtain⟨m0,m1⟩:=hm;clear em T2 S1
 by_cases h0:m=0
 ·subst h0
  go_upto_region 7 with (first|(go_at_call 23;(with_reducible refine cmo T3.out ?_);rintro e w3 ⟨rfl,ht,hb⟩;have S3:=mh (S2.out.next ht hb);clear ht hb)|fail)
  obtain⟨hc,hf,hgw,hgl⟩:=S3.out.at HKR.out;have y0:w3.cell? ⟨g,k*10,none⟩=some _:=hc 0 _ rfl;have yf0:w3.frozen? ⟨g,k*10,none⟩=false:=hf _;clear hc hf;have FIN:=mh (S3.out.put HKR.out 0 (by omega) (I O x) { (R[k]'HKR.out) with num:=x } { (L[k]'HKL.out) with num:=x } rfl (fun Q W h=>⟨rfl,h.nm,h.t,h.br,h.bn,h.bc,h.bz,h.bq,h.least,h.ex,h.needs⟩) (by have:=S3.out.sm _ (List.getElem_mem HKL.out);exact⟨this.nm,this.ct⟩))
  go_wp2_with fail
  go_ret
  exact FIN.out
 by_cases h4:m=4
 ·subst h4
  go_upto_region 15 with (first|(go_at_call 23;(with_reducible refine cmo T3.out ?_);rintro e w3 ⟨rfl,ht,hb⟩;have S3:=mh (S2.out.next ht hb);clear ht hb)|fail)
  obtain⟨hc,hf,hgw,hgl⟩:=S3.out.at HKR.out;have y7:w3.cell? ⟨g,k*10+7,none⟩=some _:=hc 7 _ rfl;have yf7:w3.frozen? ⟨g,k*10+7,none⟩=false:=hf _;clear hc hf;have FIN:=mh (S3.out.put HKR.out 7 (by omega) (I O x) { (R[k]'HKR.out) with least:=x } { (L[k]'HKL.out) with least:=x } rfl (fun Q W h=>⟨h.num,h.nm,h.t,h.br,h.bn,h.bc,h.bz,h.bq,rfl,h.ex,h.needs⟩) (by have:=S3.out.sm _ (List.getElem_mem HKL.out);exact⟨this.nm,this.ct⟩))
  go_wp2_with fail
  go_ret
  exact FIN.out
 by_cases h2:m=2
 ·subst h2
  go_upto_region 11 with (first|(go_at_call 23;(with_reducible refine cmo T3.out ?_);rintro e w3 ⟨rfl,ht,hb⟩;have S3:=mh (S2.out.next ht hb);clear ht hb)|fail)
  obtain⟨hc,hf,hgw,hgl⟩:=S3.out.at HKR.out;have y2:w3.cell? ⟨g,k*10+2,none⟩=some _:=hc 2 _ rfl;have yf2:w3.frozen? ⟨g,k*10+2,none⟩=false:=hf _;clear hc hf;obtain⟨y,ey⟩:∃y,mod x 14=y:=⟨_,rfl⟩;have M1:=mh (ey▸MD.out w3 14 (by omega));clear ey;have FIN:=mh (S3.out.put HKR.out 2 (by omega) (I O y) { (R[k]'HKR.out) with t:={ (R[k]'HKR.out).t with op:=y } } { (L[k]'HKL.out) with cond:=setOp (L[k]'HKL.out).cond y } rfl (fun Q W h=>⟨h.num,h.nm,⟨⟨rfl,h.t.is.num,h.t.is.more,h.t.is.n,h.t.is.c,h.t.is.z⟩,h.t.at_⟩,h.br,h.bn,h.bc,h.bz,h.bq,h.least,h.ex,h.needs⟩) (by have:=S3.out.sm _ (List.getElem_mem HKL.out);exact⟨this.nm,by show count (setOp _ _)≤1000;rw[count_setOp];exact this.ct⟩))
  go_wp2_with (go_at_call 14;(with_reducible refine cmo M1.out ?_);rintro e wm ⟨rfl,rfl⟩)
  go_ret
  exact FIN.out
 by_cases h1:m=1
 ·subst h1
  go_upto_region 9 with (first|(go_at_call 23;(with_reducible refine cmo T3.out ?_);rintro e w3 ⟨rfl,ht,hb⟩;have S3:=mh (S2.out.next ht hb);clear ht hb)|fail)
  obtain⟨hc,hf,hgw,hgl⟩:=S3.out.at HKR.out;have y1:w3.cell? ⟨g,k*10+1,none⟩=some _:=hc 1 _ rfl;have yf1:w3.frozen? ⟨g,k*10+1,none⟩=false:=hf _;clear hc hf;have hal:=(brf w3.heap.size w3).alloc mle (.cells #[.string ⟨#[]⟩,.string ⟨#[115,49]⟩,.string ⟨#[57]⟩,.string ⟨#[97,98,99,100,101,102,103,104,105,106,107,108,109]⟩] 9);obtain⟨y,ey⟩:∃y,mod x 4=y:=⟨_,rfl⟩;have hy:=mod_bd x (n:=4) (by omega);have M1:=mh (fun W=>ey▸MD.out W 4 (by omega));rw[ey]at hy;clear ey hal;have FIN:=mh (fun (nm:ByteArray) (hn:nm.size≤1000)=>(S3.out.put HKR.out 1 (by omega) (.string nm) { (R[k]'HKR.out) with nm:=nm } { (L[k]'HKL.out) with nm:=nm } rfl (fun Q W h=>⟨h.num,rfl,h.t,h.br,h.bn,h.bc,h.bz,h.bq,h.least,h.ex,h.needs⟩) (by have:=S3.out.sm _ (List.getElem_mem HKL.out);exact⟨hn,this.ct⟩)).below ((brf _ _).alloc mle (.cells #[.string ⟨#[]⟩,.string ⟨#[115,49]⟩,.string ⟨#[57]⟩,.string ⟨#[97,98,99,100,101,102,103,104,105,106,107,108,109]⟩] 9)));have z0:=cwn w3 #[.string ⟨#[]⟩,.string ⟨#[115,49]⟩,.string ⟨#[57]⟩,.string ⟨#[97,98,99,100,101,102,103,104,105,106,107,108,109]⟩] 9 0;have z1:=cwn w3 #[.string ⟨#[]⟩,.string ⟨#[115,49]⟩,.string ⟨#[57]⟩,.string ⟨#[97,98,99,100,101,102,103,104,105,106,107,108,109]⟩] 9 1;have z2:=cwn w3 #[.string ⟨#[]⟩,.string ⟨#[115,49]⟩,.string ⟨#[57]⟩,.string ⟨#[97,98,99,100,101,102,103,104,105,106,107,108,109]⟩] 9 2;have z3:=cwn w3 #[.string ⟨#[]⟩,.string ⟨#[115,49]⟩,.string ⟨#[57]⟩,.string ⟨#[97,98,99,100,101,102,103,104,105,106,107,108,109]⟩] 9 3;have z:y=0∨y=1∨y=2∨y=3:=by omega
  clear hy
  rcases z with rfl|rfl|rfl|rfl
  ·go_wp2_with (go_at_call 14;(with_reducible refine cmo (M1.out _) ?_);rintro e wm ⟨rfl,rfl⟩)
   go_ret
   exact FIN.out ⟨#[]⟩ (by decide)
  ·go_wp2_with (go_at_call 14;(with_reducible refine cmo (M1.out _) ?_);rintro e wm ⟨rfl,rfl⟩)
   go_ret
   exact FIN.out ⟨#[115,49]⟩ (by decide)
  ·go_wp2_with (go_at_call 14;(with_reducible refine cmo (M1.out _) ?_);rintro e wm ⟨rfl,rfl⟩)
   go_ret
   exact FIN.out ⟨#[57]⟩ (by decide)
  ·go_wp2_with (go_at_call 14;(with_reducible refine cmo (M1.out _) ?_);rintro e wm ⟨rfl,rfl⟩)
   go_ret
   exact FIN.out ⟨#[97,98,99,100,101,102,103,104,105,106,107,108,109]⟩ (by decide)
 by_cases h6:m=6
 ·subst h6
  go_upto_region 19 with (first|(go_at_call 23;(with_reducible refine cmo T3.out ?_);rintro e w3 ⟨rfl,ht,hb⟩;have S3:=mh (S2.out.next ht hb);clear ht hb)|fail)
  obtain⟨hc,hf,hgw,hgl⟩:=S3.out.at HKR.out;obtain⟨⟨rn,rnm,⟨rto,rtn,rtm,rtp,rtl,rtc⟩,rbp,rbn,rbc,rle,rex,rne⟩,er⟩:∃r,R[k]'HKR.out=r:=⟨_,rfl⟩;have FIN:=mh (fun (w7:World) (v7:Value) (H:Nat) hO ha hH=>S3.out.more (W' := w7) (v5:=v7) (H:=H) HKR.out hO ha hH);rw[er]at hc;rw[er]at FIN;have y0:w3.cell? ⟨g,k*10,none⟩=some _:=hc 0 _ rfl;have y1:w3.cell? ⟨g,k*10+1,none⟩=some _:=hc 1 _ rfl;have y2:w3.cell? ⟨g,k*10+2,none⟩=some _:=hc 2 _ rfl;have y3:w3.cell? ⟨g,k*10+3,none⟩=some _:=hc 3 _ rfl;have y4:w3.cell? ⟨g,k*10+4,none⟩=some _:=hc 4 _ rfl;have y5:w3.cell? ⟨g,k*10+5,none⟩=some _:=hc 5 _ rfl;have y6:w3.cell? ⟨g,k*10+6,none⟩=some _:=hc 6 _ rfl;have y7:w3.cell? ⟨g,k*10+7,none⟩=some _:=hc 7 _ rfl;have y8:w3.cell? ⟨g,k*10+8,none⟩=some _:=hc 8 _ rfl;have y9:w3.cell? ⟨g,k*10+9,none⟩=some _:=hc 9 _ rfl;have ROW:=mh S3.out.own;have WS:=mh S3.out.tp.but.size;clear hc hf
  go_wp2_with (first
   | (at_builtin;(refine OwnR.append el_sch rfl (.tmp 87) (.tmp 92) rfl w.heap.size _ R ⟨rn,rnm,⟨rto,rtn,rtm,rtp,rtl,rtc⟩,rbp,rbn,rbc,rle,rex,rne⟩ #[I O rn,.string rnm,I O rto,I O rtn,I O rtm,.slice rtp rtl rtc,.slice rbp rbn rbc,I O rle,I O rex,.bool rne] rfl ROW.out rfl (by simp[Act.eval]) WS.out (by have h1:=HRN.out;have h2:=HN3.out;omega) (by decide) ?_);intro v7 w7 hO7 hap7;have FN:=mh (FIN.out _ _ _ hO7 hap7 (Nat.le_succ _));clear hO7 hap7)
   | fail)
  go_ret
  exact FN.out
 by_cases h3:m=3
 ·subst h3
  go_upto_region 13 with (first|(go_at_call 23;(with_reducible refine cmo T3.out ?_);rintro e w3 ⟨rfl,ht,hb⟩;have S3:=mh (S2.out.next ht hb);clear ht hb)|fail)
  obtain⟨hc,hf,hgw,hgl⟩:=S3.out.at HKR.out;have y6:w3.cell? ⟨g,k*10+6,none⟩=some _:=hc 6 _ rfl;have yf6:w3.frozen? ⟨g,k*10+6,none⟩=false:=hf _;clear hc hf;have SVK:=S3.out.sv k HKR.out HKL.out;have HBN:=mh SVK.bn;have HBZ:=mh SVK.bz;have HBR:=mh SVK.br;have LB:=mh (BRL.out k HKL.out);obtain⟨rbp,rbn,rbc,erp,ern,erc⟩:∃p n c,(R[k]'HKR.out).bp=p∧(R[k]'HKR.out).bn=n∧(R[k]'HKR.out).bc=c:=⟨_,_,_,rfl,rfl,rfl⟩;rw[erp,ern,erc]at y6;rw[ern]at HBN;rw[erp,erc]at HBZ;rw[erp]at HBR;clear SVK erp ern erc;have AZ:=mh (show Below w3.heap.size w3 (w3.alloc (.cells #[] 54)) from(brf _ _).alloc mle _)
  go_wp2_with (first
   | (at_builtin;(refine OwnR.appendAll el_brk rfl (.tmp 52) (.tmp 57) rfl w3.heap.size (.slice (some ⟨w3.heap.size,0,none⟩) 0 0) [] (L[k]'HKL.out).br rbp rbc rbn HBN.out.symm (OwnR.mk00 w3 54) (HBR.out.below AZ.out) HBZ.out rfl rfl AZ.out.size (by have h1:=HBN.out;have h2:=LB.out;simp;omega) (by decide) ?_);intro v5 w6 hO6 hap6;rw[List.nil_append]at hO6;have HO6:=mh hO6;have HB6:=mh (AZ.out.trans hap6.below);clear hO6 hap6)
   | (at_builtin;(refine OwnR.append el_brk rfl (.tmp 58) (.tmp 61) rfl w3.heap.size _ (L[k]'HKL.out).br ⟨x,1⟩ #[I O x,I O 1] rfl HO6.out rfl (by simp[Act.eval]) HB6.out.size (by have h2:=LB.out;omega) (by decide) ?_);intro v7 w7 hO7 hap7;have HB7:=mh (HB6.out.trans hap7.below);obtain⟨p7,c7,rfl, -⟩:=hO7.cut rfl;obtain⟨n7,en7⟩:∃n7,((L[k]'HKL.out).br ++ [(⟨x,1⟩:Brk)]).length=n7:=⟨_,rfl⟩;rw[en7]at hO7 ⊢;have FIN:=mh (S3.out.brk HKR.out HB7.out hO7);have z6:=(HB7.out.cell (p:=⟨g,k*10+6,none⟩) hgl).trans y6;have zf6:=(HB7.out.frozen (p:=⟨g,k*10+6,none⟩) hgl).trans yf6;clear hO7 hap7 en7)
   | fail)
  go_ret
  exact FIN.out
 by_cases h5:m=5
 ·subst h5
  go_upto_region 17 with (first|(go_at_call 23;(with_reducible refine cmo T3.out ?_);rintro e w3 ⟨rfl,ht,hb⟩;have S3:=mh (S2.out.next ht hb);clear ht hb)|fail)
  obtain⟨y,ey⟩:∃y,mod x 18=y:=⟨_,rfl⟩;have hy:=mod_bd x (n:=18) (by omega);have M1:=mh (fun W=>ey▸MD.out W 18 (by omega));rw[ey]at hy;obtain⟨hy0,hy1⟩:=hy;clear ey;obtain⟨hc,hf,hgw,hgl⟩:=S3.out.drew.at HKR.out;have y8:w3.drew.cell? ⟨g,k*10+8,none⟩=some _:=hc 8 _ rfl;have yf8:w3.drew.frozen? ⟨g,k*10+8,none⟩=false:=hf _;obtain⟨E,eE⟩:∃E,(R[k]'HKR.out).ex=E:=⟨_,rfl⟩;have FIN:=mh (fun z:Int=>S3.out.drew.put HKR.out 8 (by omega) (I O z) { (R[k]'HKR.out) with ex:=z } { (L[k]'HKL.out) with ex:=z } rfl (fun Q W h=>⟨h.num,h.nm,h.t,h.br,h.bn,h.bc,h.bz,h.bq,h.least,rfl,h.needs⟩) (by have:=S3.out.sm _ (List.getElem_mem HKL.out);exact⟨this.nm,this.ct⟩));rw[eE]at y8;clear hc hf eE;refine wp_region_K (fun w' => w'.cell? ⟨g,k*10+8,none⟩=some (I O E)) 11 (by kernel_rfl) y8 (fun hHeld=>?_);refine tkK 0 74 hHeld ?_;refine tkK 1 75 hHeld ?_;refine tkK 2 76 hHeld ?_;refine tkK 3 77 hHeld ?_;refine tkK 4 78 hHeld ?_;refine tkK 5 79 hHeld ?_;refine wpAnyK_one (i:=6) (o:=⟨some 80,_,_,_,_,_⟩) (by kernel_rfl) (by kernel_rfl) rfl (fun K hK=>?_);go_simp;(with_reducible refine cmo (M1.out _) ?_);rintro e wm ⟨rfl,rfl⟩
  go_wp2_with fail
  refine hK.out _ _ hHeld ?_
  clear hK K
  (try dsimp only[Act.put])
  try simp only[mnA,mnB,mnC]
  refine tkK 7 81 hHeld ?_
  refine tkK 8 82 hHeld ?_
  refine tkK 9 83 hHeld ?_ (m:=10)
  refine tkK 10 84 hHeld ?_
  refine wpAnyK_last (o:=⟨none,_,_,_,_,_⟩) (by kernel_rfl) rfl (fun K hK=>?_)
  go_simp
  refine hK.out _ _ ?_
  clear hK K
  (try dsimp only[Act.put])
  try simp only[mnA,mnB,mnC]
  refine wpAnyH_done (by kernel_rfl) ?_ _
  go_wp2_with fail
  go_ret
  exact FIN.out _
 by_cases h7:m=7
 ·subst h7
  go_upto_region 21 with (first|(go_at_call 23;(with_reducible refine cmo T3.out ?_);rintro e w3 ⟨rfl,ht,hb⟩;have S3:=mh (S2.out.next ht hb);clear ht hb)|fail)
  obtain⟨y,ey⟩:∃y,mod x 30=y:=⟨_,rfl⟩;have M1:=mh (fun W=>ey▸MD.out W 30 (by omega));clear ey;have S4:=mh S3.out.drew;clear S3;obtain⟨hc,hf,hgw,hgl⟩:=S4.out.at HKR.out;have y6:w3.drew.cell? ⟨g,k*10+6,none⟩=some _:=hc 6 _ rfl;have yf6:w3.drew.frozen? ⟨g,k*10+6,none⟩=false:=hf _;clear hc hf;have SVK:=S4.out.sv k HKR.out HKL.out;have HBN:=mh SVK.bn;have HBZ:=mh SVK.bz;have HBR:=mh SVK.br;have LB:=mh (BRL.out k HKL.out);obtain⟨rbp,rbn,rbc,erp,ern,erc⟩:∃p n c,(R[k]'HKR.out).bp=p∧(R[k]'HKR.out).bn=n∧(R[k]'HKR.out).bc=c:=⟨_,_,_,rfl,rfl,rfl⟩;rw[erp,ern,erc]at y6;rw[ern]at HBN;rw[erp,erc]at HBZ;rw[erp]at HBR;clear SVK erp ern erc;refine wp_region_K (fun w' => w'.cell? ⟨g,k*10+6,none⟩=some (.slice rbp rbn rbc)) 15 (by kernel_rfl) y6 (fun hHeld=>?_);generalize w3.drew=w4 at *;refine tkK 0 96 hHeld ?_;refine tkK 1 97 hHeld ?_;refine tkK 2 98 hHeld ?_;refine tkK 4 100 hHeld ?_;refine tkK 7 103 hHeld ?_;refine tkK 8 104 hHeld ?_;refine tkK 9 105 hHeld ?_;refine tkK 10 106 hHeld ?_;refine tkK 11 107 hHeld ?_;refine wpAnyK_one (i:=3) (o:=⟨some 99,_,_,_,_,_⟩) (by kernel_rfl) (by kernel_rfl) rfl (fun K hK=>?_);go_simp;(with_reducible refine cmo (M1.out _) ?_);rintro e wm ⟨rfl,rfl⟩
  go_wp2_with fail
  refine hK.out _ _ hHeld ?_
  clear hK K
  (try dsimp only[Act.put])
  try simp only[mnA,mnB,mnC]
  refine tkK 5 101 hHeld ?_
  refine wpAnyK_one (i:=6) (o:=⟨some 102,_,_,_,_,_⟩) (by kernel_rfl) (by kernel_rfl) rfl (fun K hK=>?_)
  go_simp
  have AZ:=mh (show Below w4.heap.size w4 (w4.alloc (.cells #[I O y,I O x] 54)) from(brf _ _).alloc mle _);have O1:=mh (show OwnR SBk (w4.alloc (.cells #[I O y,I O x] 54)) 54 w4.heap.size (.slice (some ⟨w4.heap.size,0,none⟩) 1 1) [⟨y,x⟩] from OwnR.mk1 rfl);have hHeld2:=(AZ.out.cell (p:=⟨g,k*10+6,none⟩) hgl).trans y6;refine hK.out _ _ hHeld2 ?_;clear hK K
  (try dsimp only[Act.put])
  try simp only[mnA,mnB,mnC]
  refine wpAnyK_one (i:=12) (o:=⟨some 108,_,_,_,_,_⟩) (by kernel_rfl) (by kernel_rfl) rfl (fun K hK=>?_)
  refine OwnR.stepAp el_brk (by rfl) (.tmp 102) (.tmp 107) (by rfl) w4.heap.size (.slice (some ⟨w4.heap.size,0,none⟩) 1 1) [⟨y,x⟩] (L[k]'HKL.out).br rbp rbc rbn HBN.out.symm O1.out (HBR.out.below AZ.out) HBZ.out (by rfl) (by rfl) AZ.out.size (by have h1:=HBN.out;have h2:=LB.out;simp;omega) (by decide) ?_
  intro v7 w7 hO7 hap7;have HB7:=mh (AZ.out.trans hap7.below);obtain⟨p7,c7,rfl, -⟩:=hO7.cut rfl;obtain⟨n7,en7⟩:∃n7,([(⟨y,x⟩:Brk)]++(L[k]'HKL.out).br).length=n7:=⟨_,rfl⟩;rw[en7]at hO7;have FIN:=mh (S4.out.brk HKR.out HB7.out hO7);have z6:=(HB7.out.cell (p:=⟨g,k*10+6,none⟩) hgl).trans y6;have zf6:=(HB7.out.frozen (p:=⟨g,k*10+6,none⟩) hgl).trans yf6;rw[en7];clear hO7 hap7 en7 y6 yf6;refine hK.out _ _ z6 ?_;clear hK K
  (try dsimp only[Act.put])
  try simp only[mnA,mnB,mnC]
  refine tkK 13 109 z6 ?_ (m:=14)
  refine tkK 14 110 z6 ?_
  refine wpAnyK_last (o:=⟨none,_,_,_,_,_⟩) (by kernel_rfl) rfl (fun K hK=>?_)
  go_simp
  refine hK.out _ _ ?_
  clear hK K
  (try dsimp only[Act.put])
  try simp only[mnA,mnB,mnC]
  refine wpAnyH_done (by kernel_rfl) ?_ _
  go_wp2_with fail
  go_ret
  exact FIN.out
 have z:m=8∨m=9∨m=10:=by omega
 clear m0 m1 h0 h1 h2 h3 h4 h5 h6 h7
 rcases z with rfl|rfl|rfl
 all_goals
  go_upto_region 22 with (first|(go_at_call 23;(with_reducible refine cmo T3.out ?_);rintro e w3 ⟨rfl,ht,hb⟩;have S3:=mh (S2.out.next ht hb);clear ht hb)|fail)
  have FIN:=mh S3.out.fin
  go_wp2_with fail
  go_ret
  exact FIN.out
end Go.Proofs.YtbcmabolkkfgfaaGreatDoor
namespace Go.Proofs.YtbcmabolkkfgfaaGreatDoor
open Go.RowKit Te Sc
def CondG (t:Nat) (ws:List (List UInt8)) (A:List Sch) (s0:Sch) (last:Int) (w:World):Ending→World→Prop :=
 match ws with
 | []=>StE t 4 w
 | x::r=>if x=wIf then (match condR r with | .inl c=>StG 109 t (A ++ [{ s0 with cond:=c }]) last w | .inr e=>StE t e w) else StE t 4 w
theorem box_term (W:World)(x0 x1 x2 x3:Value)(w' : World)(hb:Below (W.heap.size+1) (W.alloc (.cells #[x0,x1,x2,x3] 28)) w'):w'.cell? ⟨W.heap.size,0,none⟩=some x0∧w'.cell? ⟨W.heap.size,1,none⟩=some x1∧w'.cell? ⟨W.heap.size,2,none⟩=some x2∧w'.cell? ⟨W.heap.size,3,none⟩=some x3 :=
 ⟨(hb.cell (p:=⟨W.heap.size,0,none⟩) (Nat.lt_succ_self _)).trans (cwn _ _ _ 0),(hb.cell (p:=⟨W.heap.size,1,none⟩) (Nat.lt_succ_self _)).trans (cwn _ _ _ 1),
   (hb.cell (p:=⟨W.heap.size,2,none⟩) (Nat.lt_succ_self _)).trans (cwn _ _ _ 2),(hb.cell (p:=⟨W.heap.size,3,none⟩) (Nat.lt_succ_self _)).trans (cwn _ _ _ 3)⟩
def condV (o:Option (Tm × List (List UInt8))):Tm ⊕ Int:=match o with|none => .inr 4|some (t,r')=>if chkT t≠0 then .inr (chkT t) else if r' = [] then .inl t else .inr 4
theorem condR_of {r:List (List UInt8)}{o:Option (Tm × List (List UInt8))}(h:readT (2*r.length) r=o):condR r=condV o:=by
 unfold condR;rw[h];rfl
theorem cond17_any (t:Nat)(A:List Sch)(s0:Sch)(last:Int)(q:Option Addr)(x:ByteArray)(r:List ByteArray)(n c:Nat)(w:World)(hn:r.length+1=n)(h:WSl w q c (x::r))(hz:∀y∈r,y.size≤16384)(hrl:r.length≤1000000)(hE:Env w)(hR:RdrAt w t (A ++ [s0]) last)(hA:A.length≤1000)(ht:gtop<t) :
  Calls Tryz.prog 80 #[.pointer (some ⟨t,0,none⟩),.slice q n c] w (CondG t (ll (x::r)) A s0 last w):=by
 subst hn;obtain⟨B,Ox,q2,c1,rfl,hBl,g0,hlc,hw2,hq2,hrun⟩:=h.cons;have htl:=hR.lt
 show Calls _ _ _ _ (if x.data.toList=wIf then (match condR (ll r) with | .inl c=>StG 109 t (A ++ [{ s0 with cond:=c }]) last w | .inr e=>StE t e w) else StE t 4 w)
 by_cases hx:x.data.toList=wIf
 rotate_left
 ·rw[if_neg hx]
  have ez:(x.toList == [105,102])=false:=by rw[lit_eq];exact dqf hx
  clear h hE hR hz hx hrun;obtain⟨m,em⟩:∃m,r.length+1=m:=⟨_,rfl⟩;have hm:0<(m:Int):=by omega
  rw[em];clear em
  go_enter Tryz.func80,Tryz.ntmps80
  go_wp2
  go_ret2
  exact StE.nil _ _ _ _ (brf _ _)
 rw[if_pos hx];have ez:(x.toList == [105,102])=true:=by rw[lit_eq];exact dqt hx
 have PA:=mh (parse16_any q2 r c1 w hw2.recs hw2.le hw2.nn hz hrl hE (by omega));have HRD:=mh hR;obtain⟨tv,etv⟩:∃tv,readT (2*r.length) (ll r)=tv:=⟨_,rfl⟩;have hcr:=condR_of (r:=ll r) (o:=tv) (by unfold ll at etv ⊢;rw[List.length_map];exact etv);rw[etv]at PA;rw[hcr];have hm0:0<((r.length+1:Nat):Int):=by omega
 clear h hE hR hz hx etv hcr hw2 hq2
 -- the last row's cells, in whatever world behind
 have KX:=mh (fun (W:World) (hb:Below w.heap.size w W)=>show ∃g cc,W.cell? ⟨t,0,none⟩=some (.slice (some ⟨g,0,none⟩) (A.length+1) cc)∧t+1≤g∧g<w.heap.size∧Bld (t+1) w (.slice (some ⟨g,0,none⟩) (A.length+1) cc) A s0∧(∃rr,SCells W g (A.length*10) rr)∧(∀i,W.frozen? ⟨g,i,none⟩=false) from by
  have h2:=HRD.out;obtain⟨⟨v,h0,hB⟩, -, -,h5⟩:=h2
  rcases hB with⟨e, -⟩|⟨A', s', e,hB⟩
  ·exact absurd e (by simp)
  ·obtain⟨rfl,rfl⟩:=snoc_inj e
   have hB2:=hB;obtain⟨d,R,rr,lb,k1,k2⟩:=hB2;obtain⟨g,cc,rfl,a1,a2,a3,a4,a5, -⟩:=k1.at
   exact⟨g,cc,(hb.cell (p:=⟨t,0,none⟩) h5).trans h0,a1,a2,hB,⟨rr,a4.below hb a2⟩,fun i=>(hb.frozen (p:=⟨g,i,none⟩) a2).trans (a5 i)⟩)
 have KXZ:=mh (fun (g cc:Nat) {W:World} (hb:Below w.heap.size w W) (h:W.cell? ⟨t,0,none⟩=some (.slice (some ⟨g,0,none⟩) (A.length+1) cc))=>show w.cell? ⟨t,0,none⟩=some (.slice (some ⟨g,0,none⟩) (A.length+1) cc) from(hb.cell (p:=⟨t,0,none⟩) htl).symm.trans h);have hA1:A.length+1≤9223372036854775807:=by omega
 cases tv with
 | none =>
   show Calls _ _ _ _ (StE t 4 w)
   unfold ParseTG ParseBad at PA
   go_enter Tryz.func80,Tryz.ntmps80
   go_wp2_with (go_at_call 108;(with_reducible refine cmo PA.out ?_);rintro e w2 ⟨rfl,hb2⟩;have HB2:=mh hb2;clear hb2)
   obtain⟨W4,eW4⟩:∃W4:World,w2.alloc (.cells #[Value.int .i64 0,Value.int .i64 0,Value.int .i64 0,Value.slice none 0 0] 28)=W4:=⟨_,rfl⟩;have hA4:Below w.heap.size w W4:=eW4▸balloc mle HB2.out _;obtain⟨b0,b1,b2,b3⟩:=box_term w2 (Value.int .i64 0) (Value.int .i64 0) (Value.int .i64 0) (Value.slice none 0 0) W4 (eW4▸brf _ _);have hbx:w.heap.size≤w2.heap.size:=HB2.out.size;have hbl:w2.heap.size<W4.heap.size:=by rw[← eW4];simp
   obtain⟨g,cc,k0,hg1,hg2,HBD,⟨rr,hC⟩,hf⟩:=KX.out _ hA4;have NOW:=mh (fun (W:World) (h:W.cell? ⟨t,0,none⟩=some (.slice (some ⟨g,0,none⟩) (A.length+1) cc))=>now17_any t g A.length cc W h hA1);rw[eW4];have NOWd:=mh (NOW.out W4.drew k0);have HA4:=mh hA4;have HBDH:=mh HBD;have e2:=hC.c2;have e3:=hC.c3;have e4:=hC.c4;have e5:=hC.c5;have f2:=hf (A.length*10+2);have f3:=hf (A.length*10+3);have f4:=hf (A.length*10+4);have f5:=hf (A.length*10+5);have hne:g≠w2.heap.size:=by omega
   have HRT:=mh (show t<W4.heap.size by omega);have CT1:=HRD.out.below hA4;have EW4:=mh eW4;clear hC hf HBD hA4 eW4 CT1
   go_region_held3 (fun W=>W.cell? ⟨w2.heap.size,0,none⟩=some (Value.int .i64 0)∧W.cell? ⟨w2.heap.size,1,none⟩=some (Value.int .i64 0)∧W.cell? ⟨w2.heap.size,2,none⟩=some (Value.int .i64 0)∧W.cell? ⟨w2.heap.size,3,none⟩=some (Value.slice none 0 0))
    (first|exact⟨b0,b1,b2,b3⟩|(refine⟨?_,?_,?_,?_⟩<;>(repeat rw[World.cell?_setCell_other _ _ _ _ (fun e=>hne (congrArg Addr.block e))])<;>first|exact b0|exact b1|exact b2|exact b3)|fail)
    (first
     | (go_at_call 81;(with_reducible refine cmo NOWd.out ?_);rintro e wn ⟨rfl,m,rfl⟩)
     | fail)
   have FB:=mh (show Below t w (W4.drewN (1+m)) from(HA4.out.trans ((drewN_below _ _).mono HA4.out.size)).mono (Nat.le_of_lt htl));have hgt:t≤g:=by omega
   have FIN:=mh (show Below t w (((((W4.drewN (1+m)).setCell ⟨g,A.length*10+2,none⟩ (Value.int .i64 0)).setCell ⟨g,A.length*10+2+1,none⟩ (Value.int .i64 0)).setCell ⟨g,A.length*10+2+2,none⟩ (Value.int .i64 0)).setCell ⟨g,A.length*10+2+3,none⟩ (Value.slice none 0 0)) from(((FB.out.setCell hgt _).setCell hgt _).setCell hgt _).setCell hgt _)
   go_wp2
   go_ret2
   exact⟨⟨_,rfl⟩,FIN.out⟩
 | some tr =>
   obtain⟨tm,rr0⟩:=tr
   show Calls _ _ _ _ (match (if chkT tm≠0 then .inr (chkT tm) else if rr0 = [] then .inl tm else .inr 4:Tm ⊕ Int) with | .inl c=>StG 109 t (A ++ [{ s0 with cond:=c }]) last w | .inr e=>StE t e w)
   unfold ParseTG at PA
   by_cases hck:chkT tm=0
   rotate_left
   ·rw[if_pos hck]
    simp only[if_neg hck]at PA
    show Calls _ _ _ _ (StE t (chkT tm) w)
    obtain⟨er,eer⟩:∃e,chkT tm=e:=⟨_,rfl⟩;rw[eer]at PA hck ⊢;have hne:(er==0)=false:=by simpa using hck
    unfold ParseBad at PA;clear eer hck
    go_enter Tryz.func80,Tryz.ntmps80
    go_wp2_with (go_at_call 108;(with_reducible refine cmo PA.out ?_);rintro e w2 ⟨rfl,hb2⟩;have HB2:=mh hb2;clear hb2)
    obtain⟨W4,eW4⟩:∃W4:World,w2.alloc (.cells #[Value.int .i64 0,Value.int .i64 0,Value.int .i64 0,Value.slice none 0 0] 28)=W4:=⟨_,rfl⟩;have hA4:Below w.heap.size w W4:=eW4▸balloc mle HB2.out _;obtain⟨b0,b1,b2,b3⟩:=box_term w2 (Value.int .i64 0) (Value.int .i64 0) (Value.int .i64 0) (Value.slice none 0 0) W4 (eW4▸brf _ _);have hbx:w.heap.size≤w2.heap.size:=HB2.out.size;have hbl:w2.heap.size<W4.heap.size:=by rw[← eW4];simp
    obtain⟨g,cc,k0,hg1,hg2,HBD,⟨rr,hC⟩,hf⟩:=KX.out _ hA4;have NOW:=mh (fun (W:World) (h:W.cell? ⟨t,0,none⟩=some (.slice (some ⟨g,0,none⟩) (A.length+1) cc))=>now17_any t g A.length cc W h hA1);rw[eW4];have NOWd:=mh (NOW.out W4.drew k0);have HA4:=mh hA4;have HBDH:=mh HBD;have e2:=hC.c2;have e3:=hC.c3;have e4:=hC.c4;have e5:=hC.c5;have f2:=hf (A.length*10+2);have f3:=hf (A.length*10+3);have f4:=hf (A.length*10+4);have f5:=hf (A.length*10+5);have hne:g≠w2.heap.size:=by omega
    have HRT:=mh (show t<W4.heap.size by omega);have CT1:=HRD.out.below hA4;have EW4:=mh eW4;clear hC hf HBD hA4 eW4 CT1
    go_region_held3 (fun W=>W.cell? ⟨w2.heap.size,0,none⟩=some (Value.int .i64 0)∧W.cell? ⟨w2.heap.size,1,none⟩=some (Value.int .i64 0)∧W.cell? ⟨w2.heap.size,2,none⟩=some (Value.int .i64 0)∧W.cell? ⟨w2.heap.size,3,none⟩=some (Value.slice none 0 0))
     (first|exact⟨b0,b1,b2,b3⟩|(refine⟨?_,?_,?_,?_⟩<;>(repeat rw[World.cell?_setCell_other _ _ _ _ (fun e=>hne (congrArg Addr.block e))])<;>first|exact b0|exact b1|exact b2|exact b3)|fail)
     (first
      | (go_at_call 81;(with_reducible refine cmo NOWd.out ?_);rintro e wn ⟨rfl,m,rfl⟩)
      | fail)
    have FB:=mh (show Below t w (W4.drewN (1+m)) from(HA4.out.trans ((drewN_below _ _).mono HA4.out.size)).mono (Nat.le_of_lt htl));have hgt:t≤g:=by omega
    have FIN:=mh (show Below t w (((((W4.drewN (1+m)).setCell ⟨g,A.length*10+2,none⟩ (Value.int .i64 0)).setCell ⟨g,A.length*10+2+1,none⟩ (Value.int .i64 0)).setCell ⟨g,A.length*10+2+2,none⟩ (Value.int .i64 0)).setCell ⟨g,A.length*10+2+3,none⟩ (Value.slice none 0 0)) from(((FB.out.setCell hgt _).setCell hgt _).setCell hgt _).setCell hgt _)
    go_wp2
    go_ret2
    exact⟨⟨_,rfl⟩,FIN.out⟩
   rw[if_neg (by rw[hck];decide)];simp only[if_pos hck]at PA;unfold ParseGood at PA
   by_cases hr0:rr0 = []
   ·rw[if_pos hr0]
    show Calls _ _ _ _ (StG 109 t (A ++ [{ s0 with cond:=tm }]) last w)
    subst hr0;clear hck
    go_enter Tryz.func80,Tryz.ntmps80
    go_wp2_with (go_at_call 108;(with_reducible refine cmo PA.out ?_);rintro e w2 ⟨row,p5,c5,d5,rfl,hv5,hb2⟩;have HB2:=mh hb2;have HV:=mh hv5;clear hb2 hv5)
    obtain⟨W4,eW4⟩:∃W4:World,w2.alloc (.cells #[Value.int .i64 row.op,Value.int .i64 row.num,Value.int .i64 row.more,Value.slice row.p row.n row.c] 28)=W4:=⟨_,rfl⟩;have hA4:Below w.heap.size w W4:=eW4▸balloc mle HB2.out _;obtain⟨b0,b1,b2,b3⟩:=box_term w2 (Value.int .i64 row.op) (Value.int .i64 row.num) (Value.int .i64 row.more) (Value.slice row.p row.n row.c) W4 (eW4▸brf _ _);have hbx:w.heap.size≤w2.heap.size:=HB2.out.size;have hbl:w2.heap.size<W4.heap.size:=by rw[← eW4];simp
    obtain⟨g,cc,k0,hg1,hg2,HBD,⟨rr,hC⟩,hf⟩:=KX.out _ hA4;have NOW:=mh (fun (W:World) (h:W.cell? ⟨t,0,none⟩=some (.slice (some ⟨g,0,none⟩) (A.length+1) cc))=>now17_any t g A.length cc W h hA1);rw[eW4];have NOWd:=mh (NOW.out W4.drew k0);have HA4:=mh hA4;have HBDH:=mh HBD;have e2:=hC.c2;have e3:=hC.c3;have e4:=hC.c4;have e5:=hC.c5;have f2:=hf (A.length*10+2);have f3:=hf (A.length*10+3);have f4:=hf (A.length*10+4);have f5:=hf (A.length*10+5);have hne:g≠w2.heap.size:=by omega
    have HRT:=mh (show t<W4.heap.size by omega);have CT1:=HRD.out.below hA4;have EW4:=mh eW4;clear hC hf HBD hA4 eW4 CT1
    go_region_held3 (fun W=>W.cell? ⟨w2.heap.size,0,none⟩=some (Value.int .i64 row.op)∧W.cell? ⟨w2.heap.size,1,none⟩=some (Value.int .i64 row.num)∧W.cell? ⟨w2.heap.size,2,none⟩=some (Value.int .i64 row.more)∧W.cell? ⟨w2.heap.size,3,none⟩=some (Value.slice row.p row.n row.c))
     (first|exact⟨b0,b1,b2,b3⟩|(refine⟨?_,?_,?_,?_⟩<;>(repeat rw[World.cell?_setCell_other _ _ _ _ (fun e=>hne (congrArg Addr.block e))])<;>first|exact b0|exact b1|exact b2|exact b3)|fail)
     (first
      | (go_at_call 81;(with_reducible refine cmo NOWd.out ?_);rintro e wn ⟨rfl,m,rfl⟩)
      | fail)
    have HB5:=mh (show Below w.heap.size w (W4.drewN (1+m)) from HA4.out.trans ((drewN_below _ _).mono HA4.out.size));have FB:=mh (HB5.out.mono (Nat.le_of_lt htl));have hgt:t≤g:=by omega
    have FIN:=mh (show Below t w (((((W4.drewN (1+m)).setCell ⟨g,A.length*10+2,none⟩ (Value.int .i64 row.op)).setCell ⟨g,A.length*10+3,none⟩ (Value.int .i64 row.num)).setCell ⟨g,A.length*10+4,none⟩ (Value.int .i64 row.more)).setCell ⟨g,A.length*10+5,none⟩ (Value.slice row.p row.n row.c)) from(((FB.out.setCell hgt _).setCell hgt _).setCell hgt _).setCell hgt _);have TV5:=(HV.out.below (show Below w2.heap.size w2 W4 from EW4.out▸(brf _ _).alloc mle _)).below (drewN_below W4 (1+m));have CN:=mh (HBDH.out.setCond HB5.out TV5 rfl);have k00:=KXZ.out g cc HA4.out k0;have FR:=mh (HRD.out.row k00 HB5.out (by rw[setCell_sz,setCell_sz,setCell_sz,setCell_sz]) (fun b hn=>by rw[setCell_far _ hn,setCell_far _ hn,setCell_far _ hn,setCell_far _ hn]) hg1 CN.out);clear TV5 k00
    go_wp2
    go_ret2
    exact⟨rfl,FR.out,FIN.out⟩
   ·rw[if_neg hr0]
    show Calls _ _ _ _ (StE t 4 w)
    obtain⟨rl,erl⟩:∃l,rr0.length=l:=⟨_,rfl⟩;have hrl0:0<(rl:Int):=by
     have:=List.length_pos_iff.2 hr0;omega
    rw[erl]at PA;clear hck hr0 erl
    go_enter Tryz.func80,Tryz.ntmps80
    go_wp2_with (go_at_call 108;(with_reducible refine cmo PA.out ?_);rintro e w2 ⟨row,p5,c5,d5,rfl,hv5,hb2⟩;have HB2:=mh hb2;have HV:=mh hv5;clear hb2 hv5)
    obtain⟨W4,eW4⟩:∃W4:World,w2.alloc (.cells #[Value.int .i64 row.op,Value.int .i64 row.num,Value.int .i64 row.more,Value.slice row.p row.n row.c] 28)=W4:=⟨_,rfl⟩;have hA4:Below w.heap.size w W4:=eW4▸balloc mle HB2.out _;obtain⟨b0,b1,b2,b3⟩:=box_term w2 (Value.int .i64 row.op) (Value.int .i64 row.num) (Value.int .i64 row.more) (Value.slice row.p row.n row.c) W4 (eW4▸brf _ _);have hbx:w.heap.size≤w2.heap.size:=HB2.out.size;have hbl:w2.heap.size<W4.heap.size:=by rw[← eW4];simp
    obtain⟨g,cc,k0,hg1,hg2,HBD,⟨rr,hC⟩,hf⟩:=KX.out _ hA4;have NOW:=mh (fun (W:World) (h:W.cell? ⟨t,0,none⟩=some (.slice (some ⟨g,0,none⟩) (A.length+1) cc))=>now17_any t g A.length cc W h hA1);rw[eW4];have NOWd:=mh (NOW.out W4.drew k0);have HA4:=mh hA4;have HBDH:=mh HBD;have e2:=hC.c2;have e3:=hC.c3;have e4:=hC.c4;have e5:=hC.c5;have f2:=hf (A.length*10+2);have f3:=hf (A.length*10+3);have f4:=hf (A.length*10+4);have f5:=hf (A.length*10+5);have hne:g≠w2.heap.size:=by omega
    have HRT:=mh (show t<W4.heap.size by omega);have CT1:=HRD.out.below hA4;have EW4:=mh eW4;clear hC hf HBD hA4 eW4 CT1
    go_region_held3 (fun W=>W.cell? ⟨w2.heap.size,0,none⟩=some (Value.int .i64 row.op)∧W.cell? ⟨w2.heap.size,1,none⟩=some (Value.int .i64 row.num)∧W.cell? ⟨w2.heap.size,2,none⟩=some (Value.int .i64 row.more)∧W.cell? ⟨w2.heap.size,3,none⟩=some (Value.slice row.p row.n row.c))
     (first|exact⟨b0,b1,b2,b3⟩|(refine⟨?_,?_,?_,?_⟩<;>(repeat rw[World.cell?_setCell_other _ _ _ _ (fun e=>hne (congrArg Addr.block e))])<;>first|exact b0|exact b1|exact b2|exact b3)|fail)
     (first
      | (go_at_call 81;(with_reducible refine cmo NOWd.out ?_);rintro e wn ⟨rfl,m,rfl⟩)
      | fail)
    have FB:=mh (show Below t w (W4.drewN (1+m)) from(HA4.out.trans ((drewN_below _ _).mono HA4.out.size)).mono (Nat.le_of_lt htl));have hgt:t≤g:=by omega
    have FIN:=mh (show Below t w (((((W4.drewN (1+m)).setCell ⟨g,A.length*10+2,none⟩ (Value.int .i64 row.op)).setCell ⟨g,A.length*10+2+1,none⟩ (Value.int .i64 row.num)).setCell ⟨g,A.length*10+2+2,none⟩ (Value.int .i64 row.more)).setCell ⟨g,A.length*10+2+3,none⟩ (Value.slice row.p row.n row.c)) from(((FB.out.setCell hgt _).setCell hgt _).setCell hgt _).setCell hgt _)
    go_wp2
    go_ret2
    exact⟨⟨_,rfl⟩,FIN.out⟩
end Go.Proofs.YtbcmabolkkfgfaaGreatDoor
