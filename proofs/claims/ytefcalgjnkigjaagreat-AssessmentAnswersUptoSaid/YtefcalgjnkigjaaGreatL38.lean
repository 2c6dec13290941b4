/- Packed. -/
import Derived.Test.YtefcalgjnkigjaaGreatL33
import Derived.Test.YtefcalgjnkigjaaGreatL36
import Derived.Test.YtefcalgjnkigjaaGreatL37
set_option maxRecDepth 100000
set_option maxHeartbeats 8000000
open Go.Value renaming int → I
open Go.IntKind renaming i64 → O
namespace Go.Proofs.YtefcalgjnkigjaaGreat
open Go.RowKit Sc As
structure RfS (w W:World) (b0:Nat) (ya fa:Array Value) (va vt:Value) (A:List Awd) (X:List Int):Prop where
 bl:Blk W b0 ya 29
 bf:Blk W (b0+1) fa 47
 oa:qX SA W 91 (b0+2) va A
 ot:qX SI W 3 (b0+2) vt X
 low:Below b0 w W
 ap:yN va vt
 e:w.heap.size=b0
section
variable {w W W' : World} {b0:Nat} {ya fa:Array Value} {va vt u:Value} {A A' : List Awd} {X X' : List Int}
theorem RfS.up (h:RfS w W b0 ya fa va vt A X):b0+2≤W.heap.size:=h.bf.lt
theorem RfS.below (h:RfS w W b0 ya fa va vt A X)(hb:Below W.heap.size W W'):RfS w W' b0 ya fa va vt A X :=
 ⟨h.bl.below hb,h.bf.below hb,h.oa.below hb,h.ot.below hb,h.low.trans (hb.mono (Nat.le_of_lt h.bl.lt)),h.ap,h.e⟩
theorem RfS.appA (h:RfS w W b0 ya fa va vt A X){H:Nat}(ho:qX SA W' 91 (b0+2) u A')(ha:jN W W' (b0+2) H va u)(hH:W.heap.size≤H):RfS w W' b0 ya fa u vt A' X:=by
 have e1:vt.ownBlock=none∨vt.ownBlock≠va.ownBlock:=by
  cases e:vt.ownBlock with
  | none=>exact .inl rfl
  | some g=>exact .inr fun k=>h.ap g k.symm e
 exact⟨(ha.below.block _ (by omega)).trans h.bl,(ha.below.block _ (by omega)).trans h.bf,ho,ha.keep h.ot e1,h.low.trans (ha.below.mono (by omega)),xC ha h.ap (fun g hg=>(h.ot.lt hg).2) hH,h.e⟩
theorem RfS.appT (h:RfS w W b0 ya fa va vt A X){H:Nat}(ho:qX SI W' 3 (b0+2) u X')(ha:jN W W' (b0+2) H vt u)(hH:W.heap.size≤H):RfS w W' b0 ya fa va u A X' :=by
 have e1:va.ownBlock=none∨va.ownBlock≠vt.ownBlock:=by
  cases e:va.ownBlock with
  | none=>exact .inl rfl
  | some g=>exact .inr fun k=>h.ap g e k.symm
 exact⟨(ha.below.block _ (by omega)).trans h.bl,(ha.below.block _ (by omega)).trans h.bf,ha.keep h.oa e1,ho,h.low.trans (ha.below.mono (by omega)),(xC ha h.ap.symm (fun g hg=>(h.oa.lt hg).2) hH).symm,h.e⟩
end
structure RfC (w W:World) (b0 H:Nat) (ya fa:Array Value) (va:Value) (A:List Awd) (pF:Option Addr) (C:List Int) (j:Nat):Prop where
 bl:Blk W b0 ya 29
 bf:Blk W (b0+1) fa 47
 oa:qX SA W 91 (b0+2) va (capN A C j)
 low:Below b0 w W
 ints:qR W pF C
 nb:∀g,va.ownBlock=some g→g<H
 pf:∀a,pF=some a→H≤a.block
theorem RfC.set {w W:World}{b0 H:Nat}{ya fa:Array Value}{va:Value}{A:List Awd}{pF:Option Addr}{C:List Int}{j n:Nat}(h:RfC w W b0 H ya fa va A pF C j)(hn:A.length=n)(hj:j<n) :
  ∃g c u,va = .slice (some ⟨g,0,none⟩) n c∧W.cell? ⟨g,j*9+7,none⟩=some u∧W.frozen? ⟨g,j*9+7,none⟩=false∧RfC w (W.setCell ⟨g,j*9+7,none⟩ (I O (C.getD j 0))) b0 H ya fa va A pF C (j+1):=by
 have hl:(capN A C j).length=n:=by rw[capN_len,hn]
 obtain⟨p,c,e, -, -, -, -, -⟩:=h.oa.cut hl;have ho:=h.oa;rw[e]at ho;obtain⟨g,rfl, -,hB,hg,hcl,hf,hs⟩:=ho.at (show j<(capN A C j).length by rw[hl];exact hj);have h9:SA.k=9:=rfl;rw[h9]at hcl hs;have hgo:va.ownBlock=some g:=by rw[e];rfl
 refine⟨g,c,_,e,hcl 7 _ rfl,hf _,⟨h.bl.far (by omega) _,h.bf.far (by omega) _,?_,h.low.setCell (show b0≤g by omega) _,?_,h.nb,h.pf⟩⟩
 ·rw[e,capN_succ _ _ _ (show j<(capN A C j).length by rw[hl];exact hj)]
  exact hs 7 _ _ (by omega) rfl
 ·refine⟨h.ints.1,?_⟩
  rcases h.ints.2 with q|⟨b,off,q,hlt,hc⟩
  ·exact .inl q
  ·have:H≤b:=h.pf _ q
   have:=h.nb g hgo;exact .inr ⟨b,off,q,by simp[World.setCell];exact hlt,fun k hk=>(World.cell?_setCell_other _ _ _ _ (fun e=>by simp only[Addr.mk.injEq]at e;omega)).trans (hc k hk)⟩
structure RfR (w W:World) (b0:Nat) (ya fa:Array Value) (va vr:Value) (A:List Awd) (R:List Rsn):Prop where
 bl:Blk W b0 ya 29
 bf:Blk W (b0+1) fa 47
 oa:qX SA W 91 (b0+2) va A
 or:qX SRn W 129 (b0+2) vr R
 low:Below b0 w W
 ap:yN va vr
section
variable {w W W' : World} {b0:Nat} {ya fa:Array Value} {va vr u:Value} {A:List Awd} {R R' : List Rsn}
theorem RfR.up (h:RfR w W b0 ya fa va vr A R):b0+2≤W.heap.size:=h.bf.lt
theorem RfR.below (h:RfR w W b0 ya fa va vr A R)(hb:Below W.heap.size W W'):RfR w W' b0 ya fa va vr A R :=
 ⟨h.bl.below hb,h.bf.below hb,h.oa.below hb,h.or.below hb,h.low.trans (hb.mono (Nat.le_of_lt h.bl.lt)),h.ap⟩
theorem RfR.app (h:RfR w W b0 ya fa va vr A R){H:Nat}(ho:qX SRn W' 129 (b0+2) u R')(ha:jN W W' (b0+2) H vr u)(hH:W.heap.size≤H):RfR w W' b0 ya fa va u A R' :=by
 have e1:va.ownBlock=none∨va.ownBlock≠vr.ownBlock:=by
  cases e:va.ownBlock with
  | none=>exact .inl rfl
  | some g=>exact .inr fun k=>h.ap g e k.symm
 exact⟨(ha.below.block _ (by have:=h.up;omega)).trans h.bl,(ha.below.block _ (by have:=h.up;omega)).trans h.bf,ha.keep h.oa e1,ho,h.low.trans (ha.below.mono (by omega)),(xC ha h.ap.symm (fun g hg=>(h.oa.lt hg).2) hH).symm⟩
end
theorem As.reasonsN_lenK (l:YLaw)(f:FarmF):∀m,(zZ l f m).length≤m*l.sch.length
 | 0=>Nat.zero_le _
 | m+1=>by
   show(zZ l f m++zV l f m l.sch.length).length≤_
   have h:=reasonsN_lenK l f m;have h2:(zV l f m l.sch.length).length≤l.sch.length:=by
    unfold zV
    split
    ·exact bY _ _ _ _
    ·exact Nat.zero_le _
   rw[lap,Nat.add_mul,Nat.one_mul];omega
theorem wC {Q Q2:Nat→Prop}(d:Nat)(r:RY)(l:YLaw)(rf:RF)(f:FarmF)(w:World)(h:YV Q w d r l)(hF:FV Q2 w rf f)(hlo:∀x∈f.lines, -9223372036854775808≤x.sch) :
  Calls Tryz.prog 25 #[.agg (yCells r).toArray,.agg (fCells rf).toArray] w (FrG l f w):=by
 have HB:=mh (show Below w.heap.size w (((w.alloc (.cells (yCells r).toArray 29)).alloc (.cells (fCells rf).toArray 47)).alloc (.cells (fCells rf).toArray 47)) from qK mle (qK mle (qK mle (brf w.heap.size w) _) _) _)
 have FA:=mh (show Calls Tryz.prog 16 #[.agg (yCells r).toArray,.slice (some ⟨((w.alloc (.cells (yCells r).toArray 29)).alloc (.cells (fCells rf).toArray 47)).heap.size,0,none⟩) 1 1] (((w.alloc (.cells (yCells r).toArray 29)).alloc (.cells (fCells rf).toArray 47)).alloc (.cells (fCells rf).toArray 47)) (kW (xG l [f]) (((w.alloc (.cells (yCells r).toArray 29)).alloc (.cells (fCells rf).toArray 47)).alloc (.cells (fCells rf).toArray 47))) from
  uA d r l _ [f] 1 _ (h.below HB.out) h.sc (yF.one ((hF.any).below (qK mle (qK mle (brf w.heap.size w) _) _)) _) (fun g hg x hx=>by rw[List.mem_singleton.1 hg]at hx;exact hlo x hx))
 have HY:=mh h;have HF:=mh hF;obtain⟨b,off,hsp⟩:∃b off,(l.sch.length=0∧b=0∧off=0)∨r.sp=some ⟨b,off,none⟩:=by
  by_cases h0:l.sch.length=0
  ·exact⟨0,0,.inl ⟨h0,rfl,rfl⟩⟩
  ·obtain⟨b,off, -,e, -⟩:=h.sch.at (show 0<l.sch.length by omega)
   exact⟨b,off,.inr e⟩
 obtain⟨c,ec⟩:∃c,xG l [f]=c:=⟨_,rfl⟩;rw[ec]at FA;have EC:=mh ec;have e2:((w.alloc (.cells (yCells r).toArray 29)).alloc (.cells (fCells rf).toArray 47)).heap.size=w.heap.size+2:=by simp
 rw[e2]at FA
 by_cases hc:c=0
 rotate_left
 ·have hne:(c != 0)=true:=by simpa using hc
  have HNE:=mh hc;have ER:=mh (show farmErr l f=c from by unfold farmErr;rw[EC.out,if_pos hc]);clear hc h hF hlo ec hsp e2;obtain⟨sp,sn,sc,tp,tn,tc,ldue,llast,lmille,gp,gn,gc,cp,ev,un,wd⟩:=r;obtain⟨ff,fd,lp,ln,lc⟩:=rf;simp only[yCells,fCells]at HB FA ⊢
  go_enter Tryz.func25,Tryz.ntmps25
  go_wp2_with (go_at_call 16;(with_reducible refine cmo FA.out ?_);rintro e w1 ⟨rfl,hb1⟩;have HB1:=mh (qZ mle HB.out hb1);clear hb1)
  exact bodyPost_ret (v := .tuple #[.slice none 0 0,.slice none 0 0,I O c]) (by simp[results,Tryz.results25,go_sem]) rfl (FrG.err ER.out HNE.out HB1.out)
 ·subst hc
  have hf:FOk l [f]:=fOk EC.out;have hl:=hf.law;have hfo:=hf.farm f (List.mem_singleton.2 rfl);have hsq:r.sp=some ⟨b,off,none⟩:=by
   rcases hsp with⟨h0, -⟩|h0
   ·exact absurd h0 hl.ne
   ·exact h0
  have e1:=hF.farm;have e3:=hF.ln;have e4:=hF.day;have k1:=h.sn;have k2:=h.gn;have k3:=h.cap;have k4:=h.width;have HL:=mh hl;have HFO:=mh hfo;have hkl:=hl.len;have hl20:=hfo.len
  have BY:=mh (show(((w.alloc (.cells (yCells r).toArray 29)).alloc (.cells (fCells rf).toArray 47)).alloc (.cells (fCells rf).toArray 47)).heap[w.heap.size]?=some (.cells (yCells r).toArray 29) from by
   rw[(((brf (w.alloc (.cells (yCells r).toArray 29)).heap.size (w.alloc (.cells (yCells r).toArray 29))).alloc mle (.cells (fCells rf).toArray 47)).alloc (by simp) (.cells (fCells rf).toArray 47)).block w.heap.size (by simp)]
   exact Array.getElem?_push_size)
  have BF:=mh (show(((w.alloc (.cells (yCells r).toArray 29)).alloc (.cells (fCells rf).toArray 47)).alloc (.cells (fCells rf).toArray 47)).heap[w.heap.size+1]?=some (.cells (fCells rf).toArray 47) from by
   have e:(w.alloc (.cells (yCells r).toArray 29)).heap.size=w.heap.size+1:=by simp
   rw[((brf ((w.alloc (.cells (yCells r).toArray 29)).alloc (.cells (fCells rf).toArray 47)).heap.size ((w.alloc (.cells (yCells r).toArray 29)).alloc (.cells (fCells rf).toArray 47))).alloc mle (.cells (fCells rf).toArray 47)).block (w.heap.size+1) (by simp),← e]
   exact Array.getElem?_push_size)
  clear h hF hlo ec e2 hf hl hfo hsp;obtain⟨sp,sn,sc,tp,tn,tc,ldue,llast,lmille,gp,gn,gc,cp,ev,un,wd⟩:=r;obtain⟨ff,fd,lp,ln,lc⟩:=rf;simp only at hsq e1 e3 e4 k1 k2 k3 k4;subst hsq e1 e3 e4 k1 k2 k3 k4;have AWC:=mh (fun (k:Nat) (hk:k<l.sch.length) (W:World) (hb:Below w.heap.size w W)=>show Calls Tryz.prog 65 #[.agg #[.slice (some ⟨b,off,none⟩) l.sch.length sc,.slice tp tn tc,I O ldue,I O llast,I O lmille,.slice gp l.deg.length gc,I O l.cap,I O ev,I O un,I O l.width],.agg #[I O f.farm,I O f.day,.slice lp f.lines.length lc],I O k] W (AwG l f k l.sch[k] W) from cG d ⟨some ⟨b,off,none⟩,l.sch.length,sc,tp,tn,tc,ldue,llast,lmille,gp,l.deg.length,gc,l.cap,ev,un,l.width⟩ l ⟨f.farm,f.day,lp,f.lines.length,lc⟩ f k W (HY.below hb) (HF.below hb) HL.out HFO.line HFO.sum HFO.d0 HFO.d1 hl20 hk);simp only[yCells,fCells]at HB FA BY BF ⊢
  go_enter Tryz.func25,Tryz.ntmps25
  go_wp2_with (go_at_call 16;(with_reducible refine cmo FA.out ?_);rintro e w1 ⟨rfl,hb1⟩;have S0:=mh (show RfS w w1 w.heap.size #[.slice (some ⟨b,off,none⟩) l.sch.length sc,.slice tp tn tc,I O ldue,I O llast,I O lmille,.slice gp l.deg.length gc,I O l.cap,I O ev,I O un,I O l.width] #[I O f.farm,I O f.day,.slice lp f.lines.length lc] (.slice none 0 0) (.slice none 0 0) (qW l f 0) (qY (qW l f 0)) from⟨(hb1.block _ (by simp;omega)).trans BY.out,(hb1.block _ (by simp)).trans BF.out,qX.nil _ _ _,qX.nil _ _ _,qZ mle HB.out hb1,yN.nil _,rfl⟩);clear hb1)
  clear HB FA BY BF;obtain⟨b0,eb0⟩:∃n,w.heap.size=n:=⟨_,rfl⟩;rw[eb0];have S0:=mh (show RfS w w1 b0 #[.slice (some ⟨b,off,none⟩) l.sch.length sc,.slice tp tn tc,I O ldue,I O llast,I O lmille,.slice gp l.deg.length gc,I O l.cap,I O ev,I O un,I O l.width] #[I O f.farm,I O f.day,.slice lp f.lines.length lc] (.slice none 0 0) (.slice none 0 0) (qW l f 0) (qY (qW l f 0)) from eb0▸S0.out);have c0:=S0.bl.cell 0;clear eb0
  go_loopw [8,9,10] (fun av tv kv W=>∃(k:Nat) (va vt:Value),k≤l.sch.length∧kv=I O k∧va=av∧vt=tv∧RfS w W b0 #[.slice (some ⟨b,off,none⟩) l.sch.length sc,.slice tp tn tc,I O ldue,I O llast,I O lmille,.slice gp l.deg.length gc,I O l.cap,I O ev,I O un,I O l.width] #[I O f.farm,I O f.day,.slice lp f.lines.length lc] va vt (qW l f k) (qY (qW l f k))) (fun _ _ kv _=>l.sch.length - (intOf kv).toNat)
  case atStart=>exact⟨0,_,_,Nat.zero_le _,rfl,rfl,rfl,S0.out⟩
  case round =>
   clear c0 S0;obtain⟨wo,rfl⟩:∃wo:World,wo=wr:=⟨_,rfl⟩;obtain⟨k,va,vt,hk,rfl,rfl,rfl,hS⟩:=hrel;have HS:=mh hS;have hk0:(0:Int)≤(k:Int):=inn _;have c0:=hS.bl.cell 0;have c1:=hS.bl.cell 1;have c2:=hS.bl.cell 2;have c3:=hS.bl.cell 3;have c4:=hS.bl.cell 4;have c5:=hS.bl.cell 5;have c6:=hS.bl.cell 6;have c7:=hS.bl.cell 7;have c8:=hS.bl.cell 8;have c9:=hS.bl.cell 9;have f0:=hS.bf.cell 0;have f1:=hS.bf.cell 1;have f2:=hS.bf.cell 2;have EB:=mh hS.e;have up:=hS.up;clear hS;have hla:(qW l f k).length≤16:=Nat.le_trans (awardsN_le l f k) (by omega);have hlb:(qY (qW l f k)).length≤16:=by unfold qY;rw[List.length_map];exact hla
   by_cases hlt:k<l.sch.length
   ·have hk1:(k:Int)<(l.sch.length:Int):=by omega
    have AW:=awardsN_succ (l:=l) (f:=f) hlt;obtain⟨x,ex⟩:∃x,uF l f k l.sch[k]=x:=⟨_,rfl⟩;obtain⟨sm,esm⟩:∃z,kM l.sch[k] f.lines=z:=⟨_,rfl⟩;have AC:=mh (AWC.out k hlt);unfold As.AwG at AC;rw[ex,esm]at AC AW;obtain⟨a0,a1,a2,a3,a4,a5,a6,a7,a8⟩:=x;have AC:=mh (fun (W:World) (hb:Below b0 w W)=>show Calls Tryz.prog 65 #[.agg #[.slice (some ⟨b,off,none⟩) l.sch.length sc,.slice tp tn tc,I O ldue,I O llast,I O lmille,.slice gp l.deg.length gc,I O l.cap,I O ev,I O un,I O l.width],.agg #[I O f.farm,I O f.day,.slice lp f.lines.length lc],I O k] W (fun e w' => e = .returned (.tuple #[.agg #[I O a0,I O a1,I O a2,I O a3,I O a4,I O a5,I O a6,I O a7,I O a8],.bool sm])∧Below W.heap.size W w') from AC.out W (EB.out▸hb));clear ex esm
    cases sm
    ·have SAME:=mh (show qW l f (k+1)=qW l f k from by rw[AW];simp)
     clear AW
     go_wp2_with (go_at_call 65;(with_reducible refine cmo (AC.out _ HS.out.low) ?_);rintro e w2 ⟨rfl,hb2⟩;have S2:=mh (HS.below hb2);clear hb2)
     go_roundw
     case rel=>exact⟨k+1,va,vt,by omega,by go_num,rfl,rfl,by rw[SAME.out];exact S2.below ((brf _ _).alloc mle _)⟩
     case measure=>simp[intOf];omega
    ·have EAW:=mh (rfl:(True:Prop)=True)
     have MORE:=mh (show qW l f (k+1)=qW l f k ++ [⟨a0,a1,a2,a3,a4,a5,a6,a7,a8⟩] from by rw[AW];simp);clear AW EAW
     go_upto_region 11 with (first|(go_at_call 65;(with_reducible refine cmo (AC.out _ HS.out.low) ?_);rintro e w2 ⟨rfl,hb2⟩;have S2:=mh (HS.below hb2);clear hb2)|fail)
     have S3:=mh (S2.below ((brf w2.heap.size w2).alloc mle (.cells #[I O a0,I O a1,I O a2,I O a3,I O a4,I O a5,I O a6,I O a7,I O a8] 91)));have HX3:=mh (show(w2.alloc (.cells #[I O a0,I O a1,I O a2,I O a3,I O a4,I O a5,I O a6,I O a7,I O a8] 91)).heap[w2.heap.size]?=some (.cells #[I O a0,I O a1,I O a2,I O a3,I O a4,I O a5,I O a6,I O a7,I O a8] 91) from Array.getElem?_push_size);have NVA:=mh (show va.ownBlock≠some w2.heap.size from fun e=>by have:=(S2.oa.lt e).2;omega);have NVT:=mh (show vt.ownBlock≠some w2.heap.size from fun e=>by have:=(S2.ot.lt e).2;omega);obtain⟨xb,exb⟩:∃n,w2.heap.size=n:=⟨_,rfl⟩;rw[exb];have HX3:=mh (show(w2.alloc (.cells #[I O a0,I O a1,I O a2,I O a3,I O a4,I O a5,I O a6,I O a7,I O a8] 91)).heap[xb]?=some (.cells #[I O a0,I O a1,I O a2,I O a3,I O a4,I O a5,I O a6,I O a7,I O a8] 91) from exb▸HX3.out);have NVA:=mh (show va.ownBlock≠some xb from exb▸NVA.out);have NVT:=mh (show vt.ownBlock≠some xb from exb▸NVT.out);clear exb;generalize w2.alloc (.cells #[I O a0,I O a1,I O a2,I O a3,I O a4,I O a5,I O a6,I O a7,I O a8] 91)=w3 at *;have XL3:=mh (show xb<w3.heap.size from(Array.getElem?_eq_some_iff.1 HX3.out).1);clear c0 c1 c2 c3 c4 c5 c6 c7 c8 c9 f0 f1 f2 S2 AC;have KS:=mh (fun (W:World) (hx:W.heap[xb]?=some (.cells #[I O a0,I O a1,I O a2,I O a3,I O a4,I O a5,I O a6,I O a7,I O a8] 91))=>show W.cell? ⟨xb,0,none⟩=some (I O a0)∧W.cell? ⟨xb,1,none⟩=some (I O a1)∧W.cell? ⟨xb,2,none⟩=some (I O a2)∧W.cell? ⟨xb,3,none⟩=some (I O a3)∧W.cell? ⟨xb,4,none⟩=some (I O a4)∧W.cell? ⟨xb,5,none⟩=some (I O a5)∧W.cell? ⟨xb,6,none⟩=some (I O a6)∧W.cell? ⟨xb,7,none⟩=some (I O a7)∧W.cell? ⟨xb,8,none⟩=some (I O a8) from⟨by simp[World.cell?,hx],by simp[World.cell?,hx],by simp[World.cell?,hx],by simp[World.cell?,hx],by simp[World.cell?,hx],by simp[World.cell?,hx],by simp[World.cell?,hx],by simp[World.cell?,hx],by simp[World.cell?,hx]⟩);have KD:=mh (show w3.drew.cell? ⟨xb,0,none⟩=some (I O a0)∧w3.drew.cell? ⟨xb,1,none⟩=some (I O a1)∧w3.drew.cell? ⟨xb,2,none⟩=some (I O a2)∧w3.drew.cell? ⟨xb,3,none⟩=some (I O a3)∧w3.drew.cell? ⟨xb,4,none⟩=some (I O a4)∧w3.drew.cell? ⟨xb,5,none⟩=some (I O a5)∧w3.drew.cell? ⟨xb,6,none⟩=some (I O a6)∧w3.drew.cell? ⟨xb,7,none⟩=some (I O a7)∧w3.drew.cell? ⟨xb,8,none⟩=some (I O a8) from KS.out _ HX3.out)
     have B1:=mh (show Below w3.heap.size w3 (w3.drew.alloc (.cells #[I O a0,I O a1,I O a2,I O a3,I O a4,I O a5,I O a6,I O a7,I O a8] 91)) from((brf w3.heap.size w3).drew).alloc (by simp) (.cells #[I O a0,I O a1,I O a2,I O a3,I O a4,I O a5,I O a6,I O a7,I O a8] 91));have CA1:=mh (S3.below B1.out);have KX1:=mh (KS.out _ ((B1.block _ XL3.out).trans HX3.out));have B2:=mh (show Below w3.heap.size w3 (w3.drew.alloc (.cells #[I O a6] 3)) from((brf w3.heap.size w3).drew).alloc (by simp) (.cells #[I O a6] 3));have CA2:=mh (S3.below B2.out);have KX2:=mh (KS.out _ ((B2.block _ XL3.out).trans HX3.out));have B12:=mh (show Below w3.heap.size w3 ((w3.drew.alloc (.cells #[I O a0,I O a1,I O a2,I O a3,I O a4,I O a5,I O a6,I O a7,I O a8] 91)).alloc (.cells #[I O a6] 3)) from(((brf w3.heap.size w3).drew).alloc (by simp) (.cells #[I O a0,I O a1,I O a2,I O a3,I O a4,I O a5,I O a6,I O a7,I O a8] 91)).alloc (by simp) (.cells #[I O a6] 3));have CA12:=mh (S3.below B12.out);have KX12:=mh (KS.out _ ((B12.block _ XL3.out).trans HX3.out));have B21:=mh (show Below w3.heap.size w3 ((w3.drew.alloc (.cells #[I O a6] 3)).alloc (.cells #[I O a0,I O a1,I O a2,I O a3,I O a4,I O a5,I O a6,I O a7,I O a8] 91)) from(((brf w3.heap.size w3).drew).alloc (by simp) (.cells #[I O a6] 3)).alloc (by simp) (.cells #[I O a0,I O a1,I O a2,I O a3,I O a4,I O a5,I O a6,I O a7,I O a8] 91));have CA21:=mh (S3.below B21.out);have KX21:=mh (KS.out _ ((B21.block _ XL3.out).trans HX3.out));have SR1:=mh (show qD SA (w3.drew.alloc (.cells #[I O a0,I O a1,I O a2,I O a3,I O a4,I O a5,I O a6,I O a7,I O a8] 91)) (some ⟨w3.heap.size,0,none⟩) [⟨a0,a1,a2,a3,a4,a5,a6,a7,a8⟩] from qD.lit (S:=SA) w3.drew _ [⟨a0,a1,a2,a3,a4,a5,a6,a7,a8⟩] (by show 1≤_;unfold maxLen;omega));have SR12:=mh (show qD SA ((w3.drew.alloc (.cells #[I O a0,I O a1,I O a2,I O a3,I O a4,I O a5,I O a6,I O a7,I O a8] 91)).alloc (.cells #[I O a6] 3)) (some ⟨w3.heap.size,0,none⟩) [⟨a0,a1,a2,a3,a4,a5,a6,a7,a8⟩] from SR1.below ((brf _ _).alloc mle _))
     have SR21:=mh (show qD SA ((w3.drew.alloc (.cells #[I O a6] 3)).alloc (.cells #[I O a0,I O a1,I O a2,I O a3,I O a4,I O a5,I O a6,I O a7,I O a8] 91)) (some ⟨w3.heap.size+1,0,none⟩) [⟨a0,a1,a2,a3,a4,a5,a6,a7,a8⟩] from by
      have e:(w3.drew.alloc (.cells #[I O a6] 3)).heap.size=w3.heap.size+1:=by simp
      rw[← e]
      exact qD.lit (S:=SA) _ _ [⟨a0,a1,a2,a3,a4,a5,a6,a7,a8⟩] (by show 1≤_;unfold maxLen;omega))
     have SI12:=mh (show qD SI ((w3.drew.alloc (.cells #[I O a0,I O a1,I O a2,I O a3,I O a4,I O a5,I O a6,I O a7,I O a8] 91)).alloc (.cells #[I O a6] 3)) (some ⟨w3.heap.size+1,0,none⟩) [a6] from by
      have e:(w3.drew.alloc (.cells #[I O a0,I O a1,I O a2,I O a3,I O a4,I O a5,I O a6,I O a7,I O a8] 91)).heap.size=w3.heap.size+1:=by simp
      rw[← e]
      exact qD.lit (S:=SI) _ _ [a6] (by show 1≤_;unfold maxLen;omega))
     have SI21:=mh (show qD SI ((w3.drew.alloc (.cells #[I O a6] 3)).alloc (.cells #[I O a0,I O a1,I O a2,I O a3,I O a4,I O a5,I O a6,I O a7,I O a8] 91)) (some ⟨w3.heap.size,0,none⟩) [a6] from(qD.lit (S:=SI) w3.drew _ [a6] (by show 1≤_;unfold maxLen;omega)).below ((brf _ _).alloc mle _));have NV3:=mh (fun i (h:w3.heap.size≤i)=>show va.ownBlock≠some i from fun e=>by have:=(S3.oa.lt e).2;omega);refine wp_region_held_drew (S:=fun w' => w'.cell? ⟨xb,0,none⟩=some (I O a0)∧w'.cell? ⟨xb,1,none⟩=some (I O a1)∧w'.cell? ⟨xb,2,none⟩=some (I O a2)∧w'.cell? ⟨xb,3,none⟩=some (I O a3)∧w'.cell? ⟨xb,4,none⟩=some (I O a4)∧w'.cell? ⟨xb,5,none⟩=some (I O a5)∧w'.cell? ⟨xb,6,none⟩=some (I O a6)∧w'.cell? ⟨xb,7,none⟩=some (I O a7)∧w'.cell? ⟨xb,8,none⟩=some (I O a8)) (by kernel_rfl) KD.out (fun hHeld=>?_);refine tkD 0 44 ?_;refine tkD 1 45 ?_;refine tkD 4 48 ?_;refine tkD 5 49 ?_;refine tkD 6 50 ?_;refine wpAnyH_ready (rs := [2,7]) (by kernel_rfl) (by simp) ?_;refine AllReadyH.cons (o:=⟨some 46,_,_,_,_,_⟩) rfl (fun K hK=>?_) (AllReadyH.cons (o:=⟨some 51,_,_,_,_,_⟩) rfl (fun K hK=>?_) AllReadyH.nil)
     ·go_simp
      refine hK.out _ _ KX1.out (fun hHeld2=>?_)
      clear hK K
      (try dsimp only[Act.put])
      try simp only[mnA,mnB,mnC]
      refine wpAnyH_ready (rs := [3,7]) (by kernel_rfl) (by simp) ?_
      refine AllReadyH.cons (o:=⟨some 47,_,_,_,_,_⟩) rfl (fun K hK=>?_) (AllReadyH.cons (o:=⟨some 51,_,_,_,_,_⟩) rfl (fun K hK=>?_) AllReadyH.nil)
      ·refine qX.stepAp gN (by rfl) (.tmp 44) (.tmp 46) (by rfl) (b0+2) va (qW l f k) [⟨a0,a1,a2,a3,a4,a5,a6,a7,a8⟩] (some ⟨w3.heap.size,0,none⟩) 1 1 rfl CA1.oa SR1.out (fun h=>by cases h) (by rfl) (by rfl) (Nat.le_trans S3.up B1.size) (by omega) (by decide) ?_
       intro v5 w5 hO5 hap5;obtain⟨p5,c5,rfl, -⟩:=hO5.cut (n:=(qW l f k).length+1) (by rw[lap];rfl);have CP5:=mh (CA1.appA hO5 hap5 mle);have HX5:=mh (show w5.heap[xb]?=some (.cells #[I O a0,I O a1,I O a2,I O a3,I O a4,I O a5,I O a6,I O a7,I O a8] 91) from(hap5.far _ (nll XL3.out B1.size) (fun e=>NVA.out e)).trans ((B1.block _ XL3.out).trans HX3.out));have XL5:=mh (show xb<w5.heap.size from(Array.getElem?_eq_some_iff.1 HX5.out).1);have KX5:=mh (KS.out _ HX5.out);clear hO5 hap5;refine hK.out _ _ KX5.out (fun hHeld2=>?_);clear hK K
       (try dsimp only[Act.put])
       try simp only[mnA,mnB,mnC]
       have BA5:=mh ((brf w5.heap.size w5).alloc mle (.cells #[I O a6] 3));have CP6:=mh (CP5.below BA5.out);have HX6:=mh ((BA5.block _ XL5.out).trans HX5.out);have SB6:=mh (show qD SI (w5.alloc (.cells #[I O a6] 3)) (some ⟨w5.heap.size,0,none⟩) [a6] from qD.lit (S:=SI) w5 _ [a6] (by show 1≤_;unfold maxLen;omega));have KX6:=mh (KS.out _ HX6.out);refine rdA 7 51 (fun K hK=>?_);go_simp;refine hK.out _ _ KX6.out (fun hHeld2=>?_);clear hK K
       (try dsimp only[Act.put])
       try simp only[mnA,mnB,mnC]
       refine rdA 8 52 (fun K hK=>?_)
       refine qX.stepAp xR (by rfl) (.tmp 48) (.tmp 51) (by rfl) (b0+2) vt (qY (qW l f k)) [a6] (some ⟨w5.heap.size,0,none⟩) 1 1 rfl CP6.ot SB6.out (fun h=>by cases h) (by rfl) (by rfl) CP6.up (by omega) (by decide) ?_
       intro v7 w7 hO7 hap7;obtain⟨p7,c7,rfl, -⟩:=hO7.cut (n:=(qY (qW l f k)).length+1) (by rw[lap];rfl);have CP7:=mh (CP6.appT hO7 hap7 mle);have HX7:=mh (show w7.heap[xb]?=some (.cells #[I O a0,I O a1,I O a2,I O a3,I O a4,I O a5,I O a6,I O a7,I O a8] 91) from(hap7.far _ (Array.getElem?_eq_some_iff.1 HX6.out).1 (fun e=>NVT.out e)).trans HX6.out);have KX7:=mh (KS.out _ HX7.out)
       have CMF:=mh (show RfS w w7 b0 #[.slice (some ⟨b,off,none⟩) l.sch.length sc,.slice tp tn tc,I O ldue,I O llast,I O lmille,.slice gp l.deg.length gc,I O l.cap,I O ev,I O un,I O l.width] #[I O f.farm,I O f.day,.slice lp f.lines.length lc] (.slice p5 ((qW l f k).length+1) c5) (.slice p7 ((qY (qW l f k)).length+1) c7) (qW l f (k+1)) (qY (qW l f (k+1))) from by
        rw[MORE.out,timelies_snoc]
        exact CP7.out)
       clear hO7 hap7;refine hK.out _ _ KX7.out (fun hHeld2=>?_);clear hK K
       (try dsimp only[Act.put])
       try simp only[mnA,mnB,mnC]
       refine tkA 9 8 ?_
       simp only[Act.put,mnA,mnB,mnC];refine tkD 10 9 ?_;refine wpAnyH_done (by kernel_rfl) ?_ _
       go_wp2_with fail
       go_roundw
       case rel=>exact⟨k+1,_,_,by omega,by go_num,rfl,rfl,CMF.out⟩
       case measure=>simp[intOf];omega
      ·go_simp
       refine hK.out _ _ KX12.out (fun hHeld2=>?_)
       clear hK K
       (try dsimp only[Act.put])
       try simp only[mnA,mnB,mnC]
       refine rdA 3 47 (fun K hK=>?_)
       refine qX.stepAp gN (by rfl) (.tmp 44) (.tmp 46) (by rfl) (b0+2) va (qW l f k) [⟨a0,a1,a2,a3,a4,a5,a6,a7,a8⟩] (some ⟨w3.heap.size,0,none⟩) 1 1 rfl CA12.oa SR12.out (fun h=>by cases h) (by rfl) (by rfl) (Nat.le_trans S3.up B12.size) (by omega) (by decide) ?_
       intro v5 w5 hO5 hap5;obtain⟨p5,c5,rfl, -⟩:=hO5.cut (n:=(qW l f k).length+1) (by rw[lap];rfl);have CP5:=mh (CA12.appA hO5 hap5 mle);have HX5:=mh (show w5.heap[xb]?=some (.cells #[I O a0,I O a1,I O a2,I O a3,I O a4,I O a5,I O a6,I O a7,I O a8] 91) from(hap5.far _ (nll XL3.out B12.size) (fun e=>NVA.out e)).trans ((B12.block _ XL3.out).trans HX3.out));have XL5:=mh (show xb<w5.heap.size from(Array.getElem?_eq_some_iff.1 HX5.out).1);have SB5:=mh (qD.blocks (w' := w5) SI12.out hap5.size fun a e => .inr (by cases e;exact hap5.far _ (by simp<;>omega) (NV3.out _ (Nat.le_succ _))));have KX5:=mh (KS.out _ HX5.out);clear hO5 hap5;refine hK.out _ _ KX5.out (fun hHeld2=>?_);clear hK K
       (try dsimp only[Act.put])
       try simp only[mnA,mnB,mnC]
       have CP6:=mh CP5.out;have HX6:=mh HX5.out;have SB6:=mh SB5.out;refine rdA 8 52 (fun K hK=>?_);refine qX.stepAp xR (by rfl) (.tmp 48) (.tmp 51) (by rfl) (b0+2) vt (qY (qW l f k)) [a6] (some ⟨w3.heap.size+1,0,none⟩) 1 1 rfl CP6.ot SB6.out (fun h=>by cases h) (by rfl) (by rfl) CP6.up (by omega) (by decide) ?_;intro v7 w7 hO7 hap7;obtain⟨p7,c7,rfl, -⟩:=hO7.cut (n:=(qY (qW l f k)).length+1) (by rw[lap];rfl);have CP7:=mh (CP6.appT hO7 hap7 mle);have HX7:=mh (show w7.heap[xb]?=some (.cells #[I O a0,I O a1,I O a2,I O a3,I O a4,I O a5,I O a6,I O a7,I O a8] 91) from(hap7.far _ (Array.getElem?_eq_some_iff.1 HX6.out).1 (fun e=>NVT.out e)).trans HX6.out);have KX7:=mh (KS.out _ HX7.out)
       have CMF:=mh (show RfS w w7 b0 #[.slice (some ⟨b,off,none⟩) l.sch.length sc,.slice tp tn tc,I O ldue,I O llast,I O lmille,.slice gp l.deg.length gc,I O l.cap,I O ev,I O un,I O l.width] #[I O f.farm,I O f.day,.slice lp f.lines.length lc] (.slice p5 ((qW l f k).length+1) c5) (.slice p7 ((qY (qW l f k)).length+1) c7) (qW l f (k+1)) (qY (qW l f (k+1))) from by
        rw[MORE.out,timelies_snoc]
        exact CP7.out)
       clear hO7 hap7;refine hK.out _ _ KX7.out (fun hHeld2=>?_);clear hK K
       (try dsimp only[Act.put])
       try simp only[mnA,mnB,mnC]
       refine tkA 9 8 ?_
       simp only[Act.put,mnA,mnB,mnC];refine tkD 10 9 ?_;refine wpAnyH_done (by kernel_rfl) ?_ _
       go_wp2_with fail
       go_roundw
       case rel=>exact⟨k+1,_,_,by omega,by go_num,rfl,rfl,CMF.out⟩
       case measure=>simp[intOf];omega
     ·go_simp
      refine hK.out _ _ KX2.out (fun hHeld2=>?_)
      clear hK K
      (try dsimp only[Act.put])
      try simp only[mnA,mnB,mnC]
      refine rdA 2 46 (fun K hK=>?_)
      go_simp
      refine hK.out _ _ KX21.out (fun hHeld2=>?_)
      clear hK K
      (try dsimp only[Act.put])
      try simp only[mnA,mnB,mnC]
      refine rdA 3 47 (fun K hK=>?_)
      refine qX.stepAp gN (by rfl) (.tmp 44) (.tmp 46) (by rfl) (b0+2) va (qW l f k) [⟨a0,a1,a2,a3,a4,a5,a6,a7,a8⟩] (some ⟨w3.heap.size+1,0,none⟩) 1 1 rfl CA21.oa SR21.out (fun h=>by cases h) (by rfl) (by rfl) (Nat.le_trans S3.up B21.size) (by omega) (by decide) ?_
      intro v5 w5 hO5 hap5;obtain⟨p5,c5,rfl, -⟩:=hO5.cut (n:=(qW l f k).length+1) (by rw[lap];rfl);have CP5:=mh (CA21.appA hO5 hap5 mle);have HX5:=mh (show w5.heap[xb]?=some (.cells #[I O a0,I O a1,I O a2,I O a3,I O a4,I O a5,I O a6,I O a7,I O a8] 91) from(hap5.far _ (nll XL3.out B21.size) (fun e=>NVA.out e)).trans ((B21.block _ XL3.out).trans HX3.out));have XL5:=mh (show xb<w5.heap.size from(Array.getElem?_eq_some_iff.1 HX5.out).1);have SB5:=mh (qD.blocks (w' := w5) SI21.out hap5.size fun a e => .inr (by cases e;exact hap5.far _ (by simp<;>omega) (NV3.out _ mle)));have KX5:=mh (KS.out _ HX5.out);clear hO5 hap5;refine hK.out _ _ KX5.out (fun hHeld2=>?_);clear hK K
      (try dsimp only[Act.put])
      try simp only[mnA,mnB,mnC]
      have CP6:=mh CP5.out;have HX6:=mh HX5.out;have SB6:=mh SB5.out;refine rdA 8 52 (fun K hK=>?_);refine qX.stepAp xR (by rfl) (.tmp 48) (.tmp 51) (by rfl) (b0+2) vt (qY (qW l f k)) [a6] (some ⟨w3.heap.size,0,none⟩) 1 1 rfl CP6.ot SB6.out (fun h=>by cases h) (by rfl) (by rfl) CP6.up (by omega) (by decide) ?_;intro v7 w7 hO7 hap7;obtain⟨p7,c7,rfl, -⟩:=hO7.cut (n:=(qY (qW l f k)).length+1) (by rw[lap];rfl);have CP7:=mh (CP6.appT hO7 hap7 mle);have HX7:=mh (show w7.heap[xb]?=some (.cells #[I O a0,I O a1,I O a2,I O a3,I O a4,I O a5,I O a6,I O a7,I O a8] 91) from(hap7.far _ (Array.getElem?_eq_some_iff.1 HX6.out).1 (fun e=>NVT.out e)).trans HX6.out);have KX7:=mh (KS.out _ HX7.out)
      have CMF:=mh (show RfS w w7 b0 #[.slice (some ⟨b,off,none⟩) l.sch.length sc,.slice tp tn tc,I O ldue,I O llast,I O lmille,.slice gp l.deg.length gc,I O l.cap,I O ev,I O un,I O l.width] #[I O f.farm,I O f.day,.slice lp f.lines.length lc] (.slice p5 ((qW l f k).length+1) c5) (.slice p7 ((qY (qW l f k)).length+1) c7) (qW l f (k+1)) (qY (qW l f (k+1))) from by
       rw[MORE.out,timelies_snoc]
       exact CP7.out)
      clear hO7 hap7;refine hK.out _ _ KX7.out (fun hHeld2=>?_);clear hK K
      (try dsimp only[Act.put])
      try simp only[mnA,mnB,mnC]
      refine tkA 9 8 ?_
      simp only[Act.put,mnA,mnB,mnC];refine tkD 10 9 ?_;refine wpAnyH_done (by kernel_rfl) ?_ _
      go_wp2_with fail
      go_roundw
      case rel=>exact⟨k+1,_,_,by omega,by go_num,rfl,rfl,CMF.out⟩
      case measure=>simp[intOf];omega
   ·obtain rfl:k=l.sch.length:=by omega
    have HS:=mh (show RfS w wo b0 #[.slice (some ⟨b,off,none⟩) l.sch.length sc,.slice tp tn tc,I O ldue,I O llast,I O lmille,.slice gp l.deg.length gc,I O l.cap,I O ev,I O un,I O l.width] #[I O f.farm,I O f.day,.slice lp f.lines.length lc] va vt (qC l f) (qY (qC l f)) from HS.out)
    have FEQ:=mh (show Ce.farmErr l.deg l.cap (qY (qC l f))=0→(Ce.farm l.deg l.cap (qY (qC l f))).length=(qC l f).length from fun h=>by
     rw[(Ce.fine_of h).farm_len];unfold qY;rw[List.length_map])
    have HAL:=mh (show(qC l f).length≤16 from hla);have EFE:=mh (show farmErr l f=Ce.farmErr l.deg l.cap (qY (qC l f)) from by unfold farmErr;rw[EC.out,if_neg (by simp)]);have EFA:=mh (show farmErr l f=0→jV l f=jT (qC l f) (Ce.farm l.deg l.cap (qY (qC l f))) from fun h=>by unfold jV;rw[if_neg (by rw[h];simp)]);have EFR:=mh (show farmErr l f=0→gD l f=xN l f from fun h=>by unfold gD;rw[if_neg (by rw[h];simp)]);clear hla hlb hk hlt hk0 EC;obtain⟨A,eA⟩:∃A,qC l f=A:=⟨_,rfl⟩;rw[eA]at HS FEQ HAL EFE EFA;obtain⟨n,en⟩:∃n,A.length=n:=⟨_,rfl⟩;have HNA:=mh en;have tl:(qY A).length=n:=by unfold qY;rw[List.length_map,en]
    obtain⟨pa,ca,rfl, -, -, -, -, -⟩:=HS.oa.cut en;obtain⟨pt,ct,rfl, -, -, -, -,hrt⟩:=HS.ot.cut tl
    have FRC:=mh (show Calls Tryz.prog 66 #[.slice gp l.deg.length gc,I O l.cap,.slice pt n ct] wo (zK wo (Ce.farm l.deg l.cap (qY A)) (Ce.farmErr l.deg l.cap (qY A))) from by
     have:=qUA gp l.deg gc l.cap pt (qY A) ct wo (HY.below (EB.out▸HS.low)).deg hrt.ints;rw[tl]at this
     exact this)
    obtain⟨E,eE⟩:∃E,Ce.farmErr l.deg l.cap (qY A)=E:=⟨_,rfl⟩;obtain⟨C,eC⟩:∃C,Ce.farm l.deg l.cap (qY A)=C:=⟨_,rfl⟩;rw[eE,eC]at FRC FEQ;rw[eE]at EFE;rw[eC]at EFA;clear eA en tl hrt eE eC
    by_cases hE:E=0
    rotate_left
    ·have hne:(E != 0)=true:=by simpa using hE
     have HNE:=mh hE;clear hE
     go_wp2_with (go_at_call 66;(with_reducible refine cmo FRC.out ?_);rintro e w6 ⟨pF,cF,rfl,hI,hb6,hnw⟩;have S6:=mh (HS.below hb6);clear hI hb6 hnw)
     exact bodyPost_ret (v := .tuple #[.slice none 0 0,.slice none 0 0,I O E]) (by simp[results,Tryz.results25,go_sem]) rfl (FrG.err EFE.out HNE.out (EB.symm▸S6.low))
    ·subst hE
     have hCA:=FEQ.out rfl;obtain⟨nC,enC⟩:∃n,C.length=n:=⟨_,rfl⟩;obtain rfl:nC=n:=by rw[← enC,hCA,HNA.out]
     have HNC:=mh enC;have hn16:nC≤16:=by have:=HNA.out;have:=HAL.out;omega
     have EFA:=mh (show jV l f=jT A C from EFA.out EFE.out);have EFR:=mh (show gD l f=xN l f from EFR.out EFE.out);clear hCA enC FEQ
     go_upto_region 15 with (first|(go_at_call 66;(with_reducible refine cmo FRC.out ?_);rintro e w6 ⟨pF,cF,rfl,hI,hb6,hnw⟩;have S6:=mh (HS.below hb6);have HI:=mh hI;have HNW:=mh hnw;clear hI hb6 hnw)|fail)
     have C0:=mh (show RfC w w6 b0 wo.heap.size #[.slice (some ⟨b,off,none⟩) l.sch.length sc,.slice tp tn tc,I O ldue,I O llast,I O lmille,.slice gp l.deg.length gc,I O l.cap,I O ev,I O un,I O l.width] #[I O f.farm,I O f.day,.slice lp f.lines.length lc] (.slice pa nC ca) A pF C 0 from⟨S6.bl,S6.bf,by rw[capN_zero];exact S6.oa,S6.low,HI.out,fun g hg=>(HS.oa.lt hg).2,HNW.out⟩);clear c0 c1 c2 c3 c4 c5 c6 c7 c8 c9 f0 f1 f2 S6 HI HNW;rw[HNC.out];have TOP:=mh HS.up;clear HS FRC;generalize wo.heap.size=H at *
     go_wp2_with fail
     trace_state
     go_loopw [15] (fun iv W=>∃j:Nat,j≤nC∧iv=I O (j:Int)∧RfC w W b0 H #[.slice (some ⟨b,off,none⟩) l.sch.length sc,.slice tp tn tc,I O ldue,I O llast,I O lmille,.slice gp l.deg.length gc,I O l.cap,I O ev,I O un,I O l.width] #[I O f.farm,I O f.day,.slice lp f.lines.length lc] (.slice pa nC ca) A pF C j) (fun iv _=>nC - (intOf iv).toNat)
     case atStart=>exact⟨0,Nat.zero_le _,rfl,C0.out⟩
     case round =>
      clear C0;obtain⟨wp,rfl⟩:∃wp:World,wp=wr:=⟨_,rfl⟩;obtain⟨j,hj,rfl,hp⟩:=hrel;have HP:=mh hp;clear hp;have hj0:(0:Int)≤(j:Int):=inn _
      by_cases hlt:j<nC
      ·have hj1:(j:Int)<(nC:Int):=by omega
       obtain⟨bi,oi,x,rfl,hb,hcx,hx⟩:=HP.ints.get (show j<C.length by rw[HNC.out];exact hlt);obtain⟨g,c,u,ev,h7,f7,hset⟩:=HP.set HNA.out hlt
       cases ev
       rw[hx.out]at hset;have HSET:=mh hset;clear hset hx hb
       go_wp2
       go_roundw
       case rel=>exact⟨j+1,by omega,by go_num,HSET.out⟩
       case measure=>simp[intOf];omega
      ·obtain rfl:j=nC:=by omega
       have R0:=mh (show RfR w wp b0 #[.slice (some ⟨b,off,none⟩) l.sch.length sc,.slice tp tn tc,I O ldue,I O llast,I O lmille,.slice gp l.deg.length gc,I O l.cap,I O ev,I O un,I O l.width] #[I O f.farm,I O f.day,.slice lp f.lines.length lc] (.slice pa j ca) (.slice none 0 0) (jV l f) (zZ l f 0) from⟨HP.bl,HP.bf,by rw[EFA.out,← capN_all,HNA.out];exact HP.oa,qX.nil _ _ _,HP.low,yN.nil _⟩);clear hlt HP hj hj0 HNA HNC HAL
       go_wp2_with fail
       go_loopw [16,17] (fun vv iv W=>∃(i:Nat) (vr:Value),i≤f.lines.length∧iv=I O (i:Int)∧vr=vv∧RfR w W b0 #[.slice (some ⟨b,off,none⟩) l.sch.length sc,.slice tp tn tc,I O ldue,I O llast,I O lmille,.slice gp l.deg.length gc,I O l.cap,I O ev,I O un,I O l.width] #[I O f.farm,I O f.day,.slice lp f.lines.length lc] (.slice pa j ca) vr (jV l f) (zZ l f i)) (fun _ iv _=>f.lines.length - (intOf iv).toNat)
       case atStart=>exact⟨0,_,Nat.zero_le _,rfl,rfl,R0.out⟩
       case round =>
        clear R0;obtain⟨wq,rfl⟩:∃wq:World,wq=wr:=⟨_,rfl⟩;obtain⟨i,vr,hi,rfl,rfl,hR⟩:=hrel;have HR:=mh hR;have f2:=hR.bf.cell 2;clear hR;have hi0:(0:Int)≤(i:Int):=inn _
        by_cases hlt:i<f.lines.length
        ·have hi1:(i:Int)<(f.lines.length:Int):=by omega
         have KR:=mh (show RfR w wq b0 #[.slice (some ⟨b,off,none⟩) l.sch.length sc,.slice tp tn tc,I O ldue,I O llast,I O lmille,.slice gp l.deg.length gc,I O l.cap,I O ev,I O un,I O l.width] #[I O f.farm,I O f.day,.slice lp f.lines.length lc] (.slice pa j ca) vr (jV l f) (zZ l f i++yM l f.lines[i] i 0) from by show RfR _ _ _ _ _ _ _ _ (zZ l f i ++ []);rw[List.append_nil];exact HR.out)
         go_wp2_with fail
         clear f2
         go_loopw [16,18] (fun vv kv W=>∃(k:Nat) (vr:Value),k≤l.sch.length∧kv=I O (k:Int)∧vr=vv∧RfR w W b0 #[.slice (some ⟨b,off,none⟩) l.sch.length sc,.slice tp tn tc,I O ldue,I O llast,I O lmille,.slice gp l.deg.length gc,I O l.cap,I O ev,I O un,I O l.width] #[I O f.farm,I O f.day,.slice lp f.lines.length lc] (.slice pa j ca) vr (jV l f) (zZ l f i++yM l f.lines[i] i k)) (fun _ kv _=>l.sch.length - (intOf kv).toNat)
         case atStart=>exact⟨0,_,Nat.zero_le _,rfl,rfl,KR.out⟩
         case round =>
          clear KR;obtain⟨wk,rfl⟩:∃wk:World,wk=wr:=⟨_,rfl⟩;obtain⟨k,vr,hk,rfl,rfl,hR⟩:=hrel;have HRK:=mh hR;have c0:=hR.bl.cell 0;clear hR;have hk0:(0:Int)≤(k:Int):=inn _
          by_cases hkl2:k<l.sch.length
          ·have hk1:(k:Int)<(l.sch.length:Int):=by omega
           obtain⟨b', off', y,esp,hbl,hsc,hv⟩:=HY.sch.at hkl2
           cases esp
           obtain⟨bl,ol,⟨dl,ls,dp,dn,dc,se,ki,ar,bo⟩,elp,hbl2,hlc,hlv⟩:=HF.lines.at hlt;simp only at elp;subst elp;have n1:=hv.num;have HS2:=mh (List.getElem?_eq_getElem hkl2);have RST:=mh (show yM l f.lines[i] i (k+1)=yM l f.lines[i] i k++gC l f.lines[i] i k from rfl);have HNUM:=mh (YOk.num HL.out l.sch[k] (List.getElem_mem hkl2));obtain⟨s,es⟩:∃s,l.sch[k]=s:=⟨_,rfl⟩;rw[es]at hv n1 HS2 HNUM;have HLV:=mh hlv;have HXJ:=mh (HFO.line f.lines[i] (List.getElem_mem hlt));obtain⟨x,ex⟩:∃x,f.lines[i]=x:=⟨_,rfl⟩;have EXX:=mh ex;rw[ex]at HLV RST HXJ HRK
           have RL:=mh (show(zZ l f i++yM l x i k).length≤1000 from by
            have h1:=bY l x i k;have h2:∀m,(zZ l f m).length≤m*l.sch.length:=reasonsN_lenK l f;have h3:=h2 i;have h4:i*l.sch.length≤20*16:=Nat.mul_le_mul (by omega) hkl;rw[lap]
            omega)
           obtain⟨num,nm,⟨o,tn2,tm,tq,tl,tz⟩,bp,bn,bc,least,exs,needs⟩:=y;simp only at n1;subst n1;have els:ls=x.sch:=HLV.sch;obtain⟨b1,eb1⟩:∃b,zW x s=b:=⟨_,rfl⟩;have EBN:=mh eb1
           have NM:=mh (fun (W:World)=>show Calls Tryz.prog 67 #[.agg #[I O dl,I O ls,.slice dp dn dc,I O se,I O ki,I O ar,I O bo],.agg #[I O s.num,.string nm,I O o,I O tn2,I O tm,.slice tq tl tz,.slice bp bn bc,I O least,I O exs,.bool needs]] W fun e w' => e = .returned (.bool b1)∧Below W.heap.size W w' from by
            have:=kZ ⟨dl,ls,dp,dn,dc,se,ki,ar,bo⟩ ⟨s.num,nm,⟨o,tn2,tm,tq,tl,tz⟩,bp,bn,bc,least,exs,needs⟩ W HNUM.1 HNUM.2;have e:zH ls s.num=b1:=by rw[els];exact eb1
            simp only[e]at this
            exact this)
           have HBB:=mh (show b<b0∧bl<b0 from⟨EB.out▸hbl,EB.out▸hbl2⟩)
           have KS:=mh (fun (W:World) (v:Value) (R:List Rsn) (h:RfR w W b0 #[.slice (some ⟨b,off,none⟩) l.sch.length sc,.slice tp tn tc,I O ldue,I O llast,I O lmille,.slice gp l.deg.length gc,I O l.cap,I O ev,I O un,I O l.width] #[I O f.farm,I O f.day,.slice (some ⟨bl,ol,none⟩) f.lines.length lc] (.slice pa j ca) v (jV l f) R)=>show W.cell? ⟨b0+1,2,none⟩=some (.slice (some ⟨bl,ol,none⟩) f.lines.length lc)∧W.cell? ⟨bl,ol+i*7,none⟩=some (I O dl)∧W.cell? ⟨bl,ol+i*7+1,none⟩=some (I O ls)∧W.cell? ⟨bl,ol+i*7+2,none⟩=some (.slice dp dn dc)∧W.cell? ⟨bl,ol+i*7+3,none⟩=some (I O se)∧W.cell? ⟨bl,ol+i*7+4,none⟩=some (I O ki)∧W.cell? ⟨bl,ol+i*7+5,none⟩=some (I O ar)∧W.cell? ⟨bl,ol+i*7+6,none⟩=some (I O bo)∧W.cell? ⟨b0,0,none⟩=some (.slice (some ⟨b,off,none⟩) l.sch.length sc)∧W.cell? ⟨b,off+k*10,none⟩=some (I O s.num)∧W.cell? ⟨b,off+k*10+1,none⟩=some (.string nm)∧W.cell? ⟨b,off+k*10+2,none⟩=some (I O o)∧W.cell? ⟨b,off+k*10+3,none⟩=some (I O tn2)∧W.cell? ⟨b,off+k*10+4,none⟩=some (I O tm)∧W.cell? ⟨b,off+k*10+5,none⟩=some (.slice tq tl tz)∧W.cell? ⟨b,off+k*10+6,none⟩=some (.slice bp bn bc)∧W.cell? ⟨b,off+k*10+7,none⟩=some (I O least)∧W.cell? ⟨b,off+k*10+8,none⟩=some (I O exs)∧W.cell? ⟨b,off+k*10+9,none⟩=some (.bool needs) from by
            have hb:Below w.heap.size w W:=EB.symm▸h.low;have g:=hlc.below hb hbl2;have g2:=hsc.below hb hbl
            exact⟨h.bf.cell 2,g.c0,g.c1,g.c2,g.c3,g.c4,g.c5,g.c6,h.bl.cell 0,g2.c0,g2.c1,g2.c2,g2.c3,g2.c4,g2.c5,g2.c6,g2.c7,g2.c8,g2.c9⟩)
           have JD:=mh (HRK.below (brf _ _).drew);have KD:=mh (KS.out _ _ _ JD.out);clear hsc hv hlc hlv es ex els eb1 hbl hbl2
           cases b1
           ·have SAME:=mh (show yM l x i (k+1)=yM l x i k from by
             rw[RST.out];unfold gC;rw[HS2.out];simp[EBN.out])
            go_wp2_with fail
            clear c0;refine wp_region_held_drew (S:=fun w' => w'.cell? ⟨b0+1,2,none⟩=some (.slice (some ⟨bl,ol,none⟩) f.lines.length lc)∧w'.cell? ⟨bl,ol+i*7,none⟩=some (I O dl)∧w'.cell? ⟨bl,ol+i*7+1,none⟩=some (I O ls)∧w'.cell? ⟨bl,ol+i*7+2,none⟩=some (.slice dp dn dc)∧w'.cell? ⟨bl,ol+i*7+3,none⟩=some (I O se)∧w'.cell? ⟨bl,ol+i*7+4,none⟩=some (I O ki)∧w'.cell? ⟨bl,ol+i*7+5,none⟩=some (I O ar)∧w'.cell? ⟨bl,ol+i*7+6,none⟩=some (I O bo)∧w'.cell? ⟨b0,0,none⟩=some (.slice (some ⟨b,off,none⟩) l.sch.length sc)∧w'.cell? ⟨b,off+k*10,none⟩=some (I O s.num)∧w'.cell? ⟨b,off+k*10+1,none⟩=some (.string nm)∧w'.cell? ⟨b,off+k*10+2,none⟩=some (I O o)∧w'.cell? ⟨b,off+k*10+3,none⟩=some (I O tn2)∧w'.cell? ⟨b,off+k*10+4,none⟩=some (I O tm)∧w'.cell? ⟨b,off+k*10+5,none⟩=some (.slice tq tl tz)∧w'.cell? ⟨b,off+k*10+6,none⟩=some (.slice bp bn bc)∧w'.cell? ⟨b,off+k*10+7,none⟩=some (I O least)∧w'.cell? ⟨b,off+k*10+8,none⟩=some (I O exs)∧w'.cell? ⟨b,off+k*10+9,none⟩=some (.bool needs)) (by kernel_rfl) KD.out (fun hHeld=>?_);refine tkD 0 93 ?_;refine tkD 1 94 ?_;refine tkD 2 95 ?_;refine tkD 3 96 ?_;refine tkD 4 97 ?_;refine tkD 5 98 ?_;refine tkD 6 99 ?_;refine tkD 7 100 ?_;refine tkD 8 101 ?_;refine tkD 9 102 ?_;refine rdA 10 103 (fun K hK=>?_);go_simp;(with_reducible refine cmo (NM.out _) ?_);rintro e w6 ⟨rfl,hb6⟩;have J6:=mh (JD.below hb6);have K6:=mh (KS.out _ _ _ J6.out);clear hb6
            go_wp2_with fail
            refine hK.out _ _ ?hSa0_10 (fun hHeld2=>?_)
            case hSa0_10=>exact K6.out
            clear hK K;refine tkA 11 104 ?_;refine wpAnyH_done (by kernel_rfl) ?_ _
            go_wp2_with fail
            go_roundw
            case rel=>exact⟨k+1,_,by omega,by go_num,rfl,by rw[EXX.out,SAME.out];exact J6.out⟩
            case measure=>simp[intOf];omega
           ·go_wp2_with fail
            clear c0;refine wp_region_held_drew (S:=fun w' => w'.cell? ⟨b0+1,2,none⟩=some (.slice (some ⟨bl,ol,none⟩) f.lines.length lc)∧w'.cell? ⟨bl,ol+i*7,none⟩=some (I O dl)∧w'.cell? ⟨bl,ol+i*7+1,none⟩=some (I O ls)∧w'.cell? ⟨bl,ol+i*7+2,none⟩=some (.slice dp dn dc)∧w'.cell? ⟨bl,ol+i*7+3,none⟩=some (I O se)∧w'.cell? ⟨bl,ol+i*7+4,none⟩=some (I O ki)∧w'.cell? ⟨bl,ol+i*7+5,none⟩=some (I O ar)∧w'.cell? ⟨bl,ol+i*7+6,none⟩=some (I O bo)∧w'.cell? ⟨b0,0,none⟩=some (.slice (some ⟨b,off,none⟩) l.sch.length sc)∧w'.cell? ⟨b,off+k*10,none⟩=some (I O s.num)∧w'.cell? ⟨b,off+k*10+1,none⟩=some (.string nm)∧w'.cell? ⟨b,off+k*10+2,none⟩=some (I O o)∧w'.cell? ⟨b,off+k*10+3,none⟩=some (I O tn2)∧w'.cell? ⟨b,off+k*10+4,none⟩=some (I O tm)∧w'.cell? ⟨b,off+k*10+5,none⟩=some (.slice tq tl tz)∧w'.cell? ⟨b,off+k*10+6,none⟩=some (.slice bp bn bc)∧w'.cell? ⟨b,off+k*10+7,none⟩=some (I O least)∧w'.cell? ⟨b,off+k*10+8,none⟩=some (I O exs)∧w'.cell? ⟨b,off+k*10+9,none⟩=some (.bool needs)) (by kernel_rfl) KD.out (fun hHeld=>?_);refine tkD 0 93 ?_;refine tkD 1 94 ?_;refine tkD 2 95 ?_;refine tkD 3 96 ?_;refine tkD 4 97 ?_;refine tkD 5 98 ?_;refine tkD 6 99 ?_;refine tkD 7 100 ?_;refine tkD 8 101 ?_;refine tkD 9 102 ?_;refine rdA 10 103 (fun K hK=>?_);go_simp;(with_reducible refine cmo (NM.out _) ?_);rintro e w6 ⟨rfl,hb6⟩;have J6:=mh (JD.below hb6);have K6:=mh (KS.out _ _ _ J6.out);clear hb6
            go_wp2_with fail
            refine hK.out _ _ ?hSb0_10 (fun hHeld2=>?_)
            case hSb0_10=>exact K6.out
            clear hK K;refine tkA 11 104 ?_;refine wpAnyH_done (by kernel_rfl) ?_ _;have hdk:k<x.due.length:=by rw[HXJ.out.len];exact hkl2
            have FC:=mh (fun (W:World) (v:Value) (R:List Rsn) (h:RfR w W b0 #[.slice (some ⟨b,off,none⟩) l.sch.length sc,.slice tp tn tc,I O ldue,I O llast,I O lmille,.slice gp l.deg.length gc,I O l.cap,I O ev,I O un,I O l.width] #[I O f.farm,I O f.day,.slice (some ⟨bl,ol,none⟩) f.lines.length lc] (.slice pa j ca) v (jV l f) R)=>show Calls Tryz.prog 69 #[.agg #[I O dl,I O ls,.slice dp dn dc,I O se,I O ki,I O ar,I O bo],I O (k:Int)] W fun e w' => e = .returned (.agg #[I O (factOf x k).decl,I O (factOf x k).due,I O (factOf x k).season,I O (factOf x k).kind,I O (factOf x k).area,I O (factOf x k).border])∧Below W.heap.size W w' from kR ⟨dl,ls,dp,dn,dc,se,ki,ar,bo⟩ x k W (HLV.below (EB.symm▸h.low)) hdk);have hch:=HXJ.fact k s HS2.out EBN.out
            have LD:=mh (fun (W:World)=>show Calls Tryz.prog 68 #[.agg #[I O (factOf x k).decl,I O (factOf x k).due,I O (factOf x k).season,I O (factOf x k).kind,I O (factOf x k).area,I O (factOf x k).border],I O l.width] W fun e w' => e = .returned (.tuple #[I O (det (factOf x k) l.width).1,I O (det (factOf x k) l.width).2,I O 0])∧Below W.heap.size W w' from by
             have:=wB (factOf x k) l.width W;unfold DetG detV at this;rw[if_pos hch,hch]at this
             exact this)
            have KT:=mh (fun (W:World) (v:Value) (R:List Rsn) (h:RfR w W b0 #[.slice (some ⟨b,off,none⟩) l.sch.length sc,.slice tp tn tc,I O ldue,I O llast,I O lmille,.slice gp l.deg.length gc,I O l.cap,I O ev,I O un,I O l.width] #[I O f.farm,I O f.day,.slice (some ⟨bl,ol,none⟩) f.lines.length lc] (.slice pa j ca) v (jV l f) R)=>show W.cell? ⟨b0+1,2,none⟩=some (.slice (some ⟨bl,ol,none⟩) f.lines.length lc)∧W.cell? ⟨bl,ol+i*7,none⟩=some (I O dl)∧W.cell? ⟨bl,ol+i*7+1,none⟩=some (I O ls)∧W.cell? ⟨bl,ol+i*7+2,none⟩=some (.slice dp dn dc)∧W.cell? ⟨bl,ol+i*7+3,none⟩=some (I O se)∧W.cell? ⟨bl,ol+i*7+4,none⟩=some (I O ki)∧W.cell? ⟨bl,ol+i*7+5,none⟩=some (I O ar)∧W.cell? ⟨bl,ol+i*7+6,none⟩=some (I O bo)∧W.cell? ⟨b0,9,none⟩=some (I O l.width) from⟨(KS.out W v R h).1,(KS.out W v R h).2.1,(KS.out W v R h).2.2.1,(KS.out W v R h).2.2.2.1,(KS.out W v R h).2.2.2.2.1,(KS.out W v R h).2.2.2.2.2.1,(KS.out W v R h).2.2.2.2.2.2.1,(KS.out W v R h).2.2.2.2.2.2.2.1,h.bl.cell 9⟩);clear hdk hch;have JE:=mh (J6.below (brf _ _).drew);have KD9:=mh (KT.out _ _ _ JE.out)
            go_wp2_with fail
            refine wp_region_held_drew (S:=fun w' => w'.cell? ⟨b0+1,2,none⟩=some (.slice (some ⟨bl,ol,none⟩) f.lines.length lc)∧w'.cell? ⟨bl,ol+i*7,none⟩=some (I O dl)∧w'.cell? ⟨bl,ol+i*7+1,none⟩=some (I O ls)∧w'.cell? ⟨bl,ol+i*7+2,none⟩=some (.slice dp dn dc)∧w'.cell? ⟨bl,ol+i*7+3,none⟩=some (I O se)∧w'.cell? ⟨bl,ol+i*7+4,none⟩=some (I O ki)∧w'.cell? ⟨bl,ol+i*7+5,none⟩=some (I O ar)∧w'.cell? ⟨bl,ol+i*7+6,none⟩=some (I O bo)∧w'.cell? ⟨b0,9,none⟩=some (I O l.width)) (by kernel_rfl) KD9.out (fun hHeld=>?_)
            refine tkA 0 106 ?_
            simp only[Act.put,mnA,mnB,mnC];refine tkD 1 107 ?_;refine tkD 2 108 ?_;refine tkD 3 109 ?_;refine tkD 4 110 ?_;refine tkD 5 111 ?_;refine tkD 7 113 ?_;refine tkD 8 114 ?_;refine rdA 6 112 (fun K hK=>?_);go_simp;(with_reducible refine cmo (FC.out _ _ _ JE.out) ?_);rintro e w7 ⟨rfl,hb7⟩;have J7:=mh (JE.below hb7);have K7:=mh (KT.out _ _ _ J7.out);clear hb7
            go_wp2_with fail
            refine hK.out _ _ ?hSc0_6 (fun hHeld2=>?_)
            case hSc0_6=>exact K7.out
            clear hK K;refine rdA 9 115 (fun K hK=>?_);go_simp;(with_reducible refine cmo (LD.out _) ?_);rintro e w8 ⟨rfl,hb8⟩;have J8:=mh (J7.below hb8);have K8:=mh (KT.out _ _ _ J8.out);clear hb8
            go_wp2_with fail
            refine hK.out _ _ ?hSc0_9 (fun hHeld2=>?_)
            case hSc0_9=>exact K8.out
            clear hK K;refine tkD 10 105 ?_;refine tkD 11 116 ?_;refine tkD 12 117 ?_;refine tkD 13 118 ?_;refine tkD 14 19 ?_;refine tkD 15 20 ?_;refine tkA 16 21 ?_;refine wpAnyH_done (by kernel_rfl) ?_ _;have J9:=mh (J8.below (brf _ _).drew);obtain⟨kd,ekd⟩:∃z,(det (factOf x k) l.width).2=z:=⟨_,rfl⟩;have EKD:=mh ekd;rw[ekd];have zs:=(KS.out _ _ _ J8.out).2.2.2.2.2.2.2.2.2.1;clear ekd FC LD KT KD KD9 JD K6 J6 JE NM KS K7 K8 J7
            by_cases hk0d:kd=0
            ·have SAME:=mh (show yM l x i (k+1)=yM l x i k from by
              rw[RST.out];unfold gC;rw[HS2.out];simp[EKD.out,hk0d])
             go_wp2_with fail
             go_roundw
             case rel=>exact⟨k+1,_,by omega,by go_num,rfl,by rw[EXX.out,SAME.out];exact J8.out⟩
             case measure=>simp[intOf];omega
            ·have MORE:=mh (show yM l x i (k+1)=yM l x i k ++ [⟨(i:Int),s.num,kd⟩] from by
              rw[RST.out];unfold gC;rw[HS2.out];simp only;rw[if_pos ⟨EBN.out,by rw[EKD.out];exact hk0d⟩,EKD.out])
             have hkn:(kd != 0)=true:=by simpa using hk0d
             have z0:=J8.bl.cell 0;clear hk0d
             go_wp2_with (first|(at_builtin;(refine qX.append fK rfl (.tmp 121) (.tmp 131) rfl (b0+2) _ (zZ l f i++yM l x i k) ⟨(i:Int),s.num,kd⟩ #[I O (i:Int),I O s.num,I O kd] rfl J8.or rfl (by simp[Act.eval]) J8.up (by have:=RL.out;omega) (by decide) ?_);intro v5 w5 hO5 hap5;have R5:=mh (J8.app hO5 hap5 (Nat.le_succ _));clear hO5 hap5)|fail)
             go_roundw
             case rel=>exact⟨k+1,_,by omega,by go_num,rfl,by rw[EXX.out,MORE.out,← List.append_assoc];exact R5.out⟩
             case measure=>simp[intOf];omega
          ·obtain rfl:k=l.sch.length:=by omega
           have NX:=mh (show RfR w wk b0 #[.slice (some ⟨b,off,none⟩) l.sch.length sc,.slice tp tn tc,I O ldue,I O llast,I O lmille,.slice gp l.deg.length gc,I O l.cap,I O ev,I O un,I O l.width] #[I O f.farm,I O f.day,.slice lp f.lines.length lc] (.slice pa j ca) vr (jV l f) (zZ l f (i+1)) from by
            have e:zZ l f (i+1)=zZ l f i++yM l f.lines[i] i l.sch.length:=by
             show zZ l f i++zV l f i l.sch.length=_
             unfold zV;rw[List.getElem?_eq_getElem hlt]
            rw[e];exact HRK.out)
           go_wp2_with fail
           go_roundw
           case rel=>exact⟨i+1,_,by omega,by go_num,rfl,NX.out⟩
           case measure=>simp[intOf];omega
        ·obtain rfl:i=f.lines.length:=by omega
         go_wp2_with fail
         exact bodyPost_ret (v := .tuple #[.slice pa j ca,vr,I O 0]) (by simp[results,Tryz.results25,go_sem]) rfl ⟨.slice pa j ca,vr,by rw[EFE.out],HR.oa.mono (by have:=EB.out;omega),by rw[EFR.out];exact HR.or.mono (by have:=EB.out;omega),EB.out▸HR.low⟩
end Go.Proofs.YtefcalgjnkigjaaGreat
