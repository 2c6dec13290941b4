/- Packed. -/
import Derived.Test.YtefcalgjnkigjaaGreatK29
set_option maxRecDepth 100000
set_option maxHeartbeats 8000000
open Go.Value renaming int → I
open Go.IntKind renaming i64 → O
namespace Go.Proofs.YtefcalgjnkigjaaGreat
open Go.RowKit Sc As
theorem SepR.base {ρ β:Type}{S:Shape ρ}{V:(Nat→Prop)→World→ρ→β→Prop}{T:TypeId}{B B' : Nat}{Q:Nat→Prop}{W:World}{v:Value}{R:List ρ}{K:List β}(h:SepR S V T B Q W v R K)(hB:B' ≤ B):SepR S V T B' Q W v R K :=
 ⟨h.hl,h.own.mono hB,h.oq,h.rows⟩
def CyG (F:List FarmF) (w:World) (e:Ending) (w' : World):Prop :=
 ∃v R,e = .returned v∧SepR SF (FVs LVw) 47 w.heap.size (NewQ w.heap.size) w' v R F∧Below w.heap.size w w'
structure CpI (wo W:World) (gg:Nat) (fa day:Int) (v:Value) (L:List RL) (K:List LineF):Prop where
 fb:Blk W gg #[I O fa,I O day,v] 47
 rw:SepR SL LVw 89 (gg+1) (NewQ (gg+1)) W v L K
 bo:Below wo.heap.size wo W
 le:wo.heap.size≤gg
theorem CpI.push {wo W w6 w7:World}{gg H:Nat}{fa day:Int}{v v7:Value}{L:List RL}{K:List LineF}{r:RL}{x:LineF}(h:CpI wo W gg fa day v L K)(hb:Below W.heap.size W w6)(hv:LVw (NewQ W.heap.size) w6 r x)
  (hO:OwnR SL w7 89 (gg+1) v7 (L ++ [r])) (hap:Appends w6 w7 (gg+1) H v v7) (hH:w6.heap.size≤H):CpI wo (w7.setCell ⟨gg,2,none⟩ v7) gg fa day v7 (L ++ [r]) (K ++ [x]):=by
 have hgl:=h.fb.lt;have p:=h.rw.push LVw.chgs (Q' := NewQ (gg+1)) hb.size (fun b q hl=>⟨hb.block b hl,q⟩) hH (fun b q=>by unfold NewQ;omega) hv hO hap;have b67:Below wo.heap.size w6 w7:=hap.below.mono (by have:=h.le;omega);refine⟨?_,p.change LVw.chgs (by rw[setCell_sz];exact Nat.le_refl _) fun b q _=>⟨setCell_far _ (by unfold NewQ at q;omega) _ _,q⟩,((h.bo.trans (hb.mono h.bo.size)).trans b67).setCell h.le _,h.le⟩;exact(show Blk w7 gg #[I O fa,I O day,v] 47 from(hap.below.block gg (Nat.lt_succ_self gg)).trans (h.fb.below hb)).set 2 v7
theorem LV.lvw {W:World}{B:Nat}{dl ls se ki ar bo:Int}{p:Option Addr}{n c:Nat}{x:LineF}{r:RL}{Q:Nat→Prop}{W0:World}(hv:LV Q W0 ⟨dl,ls,r.dp,r.dn,r.dc,se,ki,ar,bo⟩ x)(hO:OwnR SI W 3 B (.slice p n c) x.due):LVw (NewQ B) W ⟨dl,ls,p,n,c,se,ki,ar,bo⟩ x:=by
 obtain⟨p', c', e,h1,h2,h3, -,h5⟩:=hO.cut (n:=x.due.length) rfl
 cases e
 exact⟨⟨hv.decl,hv.sch,h5.ints,rfl,h3,fun e=>(h1 e).1,fun a e => .inr (h2 a e).2.2.1,hv.season,hv.kind,hv.area,hv.border⟩,hO.mono (Nat.zero_le _),fun g e=>(hO.lt e).1⟩
theorem copy2_any {Q:Nat→Prop}(p:Option Addr)(F:List FarmF)(c:Nat)(w:World)(h:FsAt Q w p F)(lF:F.length≤1000)(lL:∀f∈F,f.lines.length≤1000∧∀x∈f.lines,x.due.length≤1000) :
  Calls Tryz.prog 57 #[.slice p F.length c] w (CyG F w):=by
 have H:=mh h;have LL:=mh lL;have B0:=mh (brf w.heap.size w);have hlen:=h.len;clear h lL;unfold CyG
 go_enter Tryz.func57,Tryz.ntmps57
 go_wp2_with fail
 go_loopw [3,11] (fun v i W=>∃(k:Nat) (R:List RF),k≤F.length∧i=I O k∧SepR SF (FVs LVw) 47 w.heap.size (NewQ w.heap.size) W v R (F.take k)∧Below w.heap.size w W) (fun _ i _=>F.length - (intOf i).toNat)
 case atStart=>exact⟨0, [],Nat.zero_le _,rfl,SepR.nil _ _ _ _ _ _,B0.out⟩
 case round =>
  obtain⟨wo,rfl⟩:∃wo:World,wo=wr:=⟨_,rfl⟩;obtain⟨k,R,hk,rfl,hR,hb⟩:=hrel;have HR:=mh hR;have HB:=mh hb;have hk0:(0:Int)≤(k:Int):=inn _
  by_cases hlt:k<F.length
  ·have hk1:(k:Int)<(F.length:Int):=by omega
   have ST:=mh (tsg hlt);have LK:=mh (LL.out F[k] (List.getElem_mem hlt));obtain⟨b,off,⟨xf,xd,lp,ln,lc⟩,rfl,hbl,⟨c0,c1,c2⟩,hv⟩:=(H.out.below hb).at hlt;have e1:=hv.farm;have e2:=hv.day;have e3:=hv.ln;simp only at c0 c1 c2 e1 e2 e3;subst e1 e2 e3;have FL:=mh hv.lines;have FE:=mh (Eq.refl F[k]);obtain⟨f,ef⟩:∃f,F[k]=f:=⟨_,rfl⟩;rw[ef]at c0 c1 c2 ST LK FL;have hll:=LK.out.1;obtain⟨fa,day,K⟩:=f;simp only at c0 c1 c2 LK FL hll;have hal:=(brf wo.heap.size wo).alloc mle (.cells #[I O fa,I O day,.slice lp K.length lc] 47);have hs1:(wo.alloc (.cells #[I O fa,I O day,.slice lp K.length lc] 47)).heap.size=wo.heap.size+1:=by rw[World.size_alloc]
   have hal2:=(brf (wo.alloc (.cells #[I O fa,I O day,.slice lp K.length lc] 47)).heap.size (wo.alloc (.cells #[I O fa,I O day,.slice lp K.length lc] 47))).alloc mle (.cells #[I O fa,I O day,.slice none 0 0] 47);obtain⟨gf,egf⟩:∃g,wo.heap.size=g:=⟨_,rfl⟩;have EGF:=mh egf
   have I0:=mh (show CpI wo ((wo.alloc (.cells #[I O fa,I O day,.slice lp K.length lc] 47)).alloc (.cells #[I O fa,I O day,.slice none 0 0] 47)) (gf+1) fa day (.slice none 0 0) [] [] from
    ⟨by rw[← egf,← hs1];exact Blk.new _ _ _,SepR.nil _ _ _ _ _ _,hal.trans (hal2.mono hal.size),by omega⟩)
   clear hv hb hR hal hal2 hs1 ef
   go_wp2_with fail
   clear egf c0 c1 c2;generalize (wo.alloc (.cells #[I O fa,I O day,.slice lp K.length lc] 47)).alloc (.cells #[I O fa,I O day,.slice none 0 0] 47)=w1 at *
   go_loopw [23] (fun iv W=>∃(m:Nat) (v:Value) (L:List RL),m≤K.length∧iv=I O m∧CpI wo W (gf+1) fa day v L (K.take m)) (fun iv _=>K.length - (intOf iv).toNat)
   case atStart=>exact⟨0,_, [],Nat.zero_le _,rfl,I0.out⟩
   case round =>
    clear I0;obtain⟨wi,rfl⟩:∃wi:World,wi=wr:=⟨_,rfl⟩;obtain⟨m,v,L,hm,rfl,hI⟩:=hrel;have HI:=mh hI;have hm0:(0:Int)≤(m:Int):=inn _;obtain⟨p2,cc2,rfl, -, -, -, -, -⟩:=hI.rw.own.cut (n:=m) (by rw[hI.rw.hl,List.length_take];omega);have g0:=hI.fb.cell 0;have g1:=hI.fb.cell 1;have g2:=hI.fb.cell 2
    by_cases hlt2:m<K.length
    ·have hm1:(m:Int)<(K.length:Int):=by omega
     have ST2:=mh (tsg hlt2);have LD:=mh (LK.out.2 K[m] (List.getElem_mem hlt2));obtain⟨bl,ol,⟨dl,ls,dp,dn,dc,se,ki,ar,bo⟩,rfl,hbl2,⟨d0,d1,d2,d3,d4,d5,d6⟩,hv2⟩:=(FL.out.below hI.bo).at hlt2;have e4:=hv2.dn;simp only at d0 d1 d2 d3 d4 d5 d6 e4;subst e4;have HV:=mh hv2;have hba:=(brf wi.heap.size wi).alloc mle (.cells #[I O dl,I O ls,.slice dp K[m].due.length dc,I O se,I O ki,I O ar,I O bo] 89);have HBA:=mh hba;obtain⟨gx,egx⟩:∃g,wi.heap.size=g:=⟨_,rfl⟩;have EGX:=mh egx;have XB:=mh (egx▸Blk.new wi #[I O dl,I O ls,.slice dp K[m].due.length dc,I O se,I O ki,I O ar,I O bo] 89);have DR:=mh ((hv2.due.recs).below hba);have GBA:=mh (hI.fb.below hba);obtain⟨y,ey⟩:∃y,K[m]=y:=⟨_,rfl⟩;rw[ey]at d2 HBA XB HV DR ST2 LD GBA;have hyl:=LD.out;have hlm:=HI.out.rw.hl;rw[List.length_take]at hlm;have HLM:=mh hlm;clear hv2 hba ey hI hlm
     go_upto_region 10 with (first|(at_builtin;(refine OwnR.appendAny el_int rfl (.const (.slice none 0 0)) (.tmp 28) rfl (gx+1) _ [] y.due dp dc y.due.length rfl (OwnR.nil _ _ _) DR.out rfl rfl (by rw[World.size_alloc];have:=EGX.out;omega) (by simp;omega) (by decide) ?_);intro v5 w5 hO5 hap5;rw[List.nil_append]at hO5;obtain⟨p5,c5,rfl, -, -, -, -, -⟩:=hO5.cut (n:=y.due.length) rfl;have O5:=mh hO5;have X5:=mh (show Blk w5 gx #[I O dl,I O ls,.slice dp y.due.length dc,I O se,I O ki,I O ar,I O bo] 89 from(hap5.below.block gx (Nat.lt_succ_self gx)).trans XB.out);have B5:=mh (show Below gx wi w5 from(HBA.out.mono (by have:=EGX.out;omega)).trans (hap5.below.mono (Nat.le_succ gx)));have G5:=mh (show Blk w5 (gf+1) #[I O fa,I O day,.slice p2 m cc2] 47 from(hap5.below.block (gf+1) (by have:=HI.out.fb.lt;have:=EGX.out;omega)).trans GBA.out);have f2:=X5.out.fr 2;have q2:=X5.out.cell 2;clear hO5 hap5)|fail)
     clear f2 q2 g0 g1 g2 d0 d1 d2 d3 d4 d5 d6 egx;have X6:=mh (show Blk (w5.setCell ⟨gx,2,none⟩ (.slice p5 y.due.length c5)) gx #[I O dl,I O ls,.slice p5 y.due.length c5,I O se,I O ki,I O ar,I O bo] 89 from X5.out.set 2 _);have G6:=mh (show Blk (w5.setCell ⟨gx,2,none⟩ (.slice p5 y.due.length c5)) (gf+1) #[I O fa,I O day,.slice p2 m cc2] 47 from G5.out.far (by have:=HI.out.fb.lt;have:=EGX.out;omega) _);have O6:=mh (show OwnR SI (w5.setCell ⟨gx,2,none⟩ (.slice p5 y.due.length c5)) 3 (gx+1) (.slice p5 y.due.length c5) y.due from O5.out.blocks fun g _ hB _=>setCell_far _ (by omega) _ _);have B6:=mh (show Below wi.heap.size wi (w5.setCell ⟨gx,2,none⟩ (.slice p5 y.due.length c5)) from by rw[EGX.out];exact B5.out.setCell mle _);have V6:=mh (show LVw (NewQ wi.heap.size) (w5.setCell ⟨gx,2,none⟩ (.slice p5 y.due.length c5)) ⟨dl,ls,p5,y.due.length,c5,se,ki,ar,bo⟩ y from LV.lvw (r:=⟨dl,ls,dp,y.due.length,dc,se,ki,ar,bo⟩) HV.out (O6.out.mono (by have:=EGX.out;omega)));generalize w5.setCell ⟨gx,2,none⟩ (.slice p5 y.due.length c5)=w6 at *;have x0:=X6.out.cell 0;have x1:=X6.out.cell 1;have x2:=X6.out.cell 2;have x3:=X6.out.cell 3;have x4:=X6.out.cell 4;have x5:=X6.out.cell 5;have x6:=X6.out.cell 6;have g2:=G6.out.cell 2;have OW:=mh (HI.out.rw.own.below B6.out)
     go_wp2_with (first|(at_builtin;(refine OwnR.append el_line rfl (.tmp 32) (.tmp 34) rfl (gf+1+1) _ L ⟨dl,ls,p5,y.due.length,c5,se,ki,ar,bo⟩ #[I O dl,I O ls,.slice p5 y.due.length c5,I O se,I O ki,I O ar,I O bo] rfl OW.out rfl (by simp[Act.eval]) (show gf+1<w6.heap.size from G6.out.lt) (by have:=HLM.out;omega) (by decide) ?_);intro v7 w7 hO7 hap7;obtain⟨p7,c7,rfl, -, -, -, -, -⟩:=hO7.cut (n:=m+1) (by rw[lap,HLM.out];simp;omega);have HP:=mh (HI.out.push B6.out V6.out hO7 hap7 (Nat.le_succ _));have G7:=mh (show Blk w7 (gf+1) #[I O fa,I O day,.slice p2 m cc2] 47 from(hap7.below.block (gf+1) (Nat.lt_succ_self _)).trans G6.out);have f2:=G7.out.fr 2;have q2:=G7.out.cell 2;clear hO7 hap7)|fail)
     go_roundw
     case rel=>exact⟨m+1,_,_,by omega,by go_num,by rw[ST2.out];exact HP.out⟩
     case measure=>simp[intOf];omega
    ·obtain rfl:m=K.length:=by omega
     have hI' := hI;rw[List.take_length]at hI'; have OWF:=mh (HR.out.own.below hI.bo);have BI:=mh (HB.out.trans (hI.bo.mono HB.out.size));have FI:=mh (show FVs LVw (NewQ wo.heap.size) wi ⟨fa,day,p2,K.length,cc2⟩ ⟨fa,day,K⟩ from⟨rfl,rfl,L,(hI'.rw.base (Nat.zero_le _)).change LVw.chgs mle fun b q _=>⟨rfl,by have:=EGF.out;unfold NewQ at q ⊢;omega⟩⟩);have HRL:=mh (show R.length≤1000 by rw[HR.out.hl,List.length_take];omega);clear hI hI'
     go_wp2_with (first|(at_builtin;(refine OwnR.append el_farm rfl (.tmp 38) (.tmp 40) rfl w.heap.size _ R ⟨fa,day,p2,K.length,cc2⟩ #[I O fa,I O day,.slice p2 K.length cc2] rfl OWF.out rfl (by simp[Act.eval]) BI.out.size (by have:=HRL.out;omega) (by decide) ?_);intro v8 w8 hO8 hap8;have PU:=mh (HR.out.push (FVs.chgs LVw.chgs) (Q' := NewQ w.heap.size) HI.out.bo.size (fun b q hl=>⟨HI.out.bo.block b hl,q⟩) (Nat.le_succ _) (fun b q=>Nat.le_trans HB.out.size q) FI.out hO8 hap8);have B8:=mh (BI.out.trans hap8.below);clear hO8 hap8)|fail)
     go_roundw
     case rel=>exact⟨k+1,_,by omega,by go_num,by rw[ST.out];exact PU.out,B8.out⟩
     case measure=>simp[intOf];omega
  ·obtain rfl:k=F.length:=by omega
   rw[List.take_length]at hR;have HR2:=mh hR;clear hR hb
   go_wp2_with fail
   go_ret
   exact⟨_,R,rfl,HR2.out,HB.out⟩
theorem OwnR.len {α:Type}{S:Shape α}{w:World}{T:TypeId}{B n c:Nat}{p:Option Addr}{L:List α}(h:OwnR S w T B (.slice p n c) L):n=L.length:=by
 rcases h.2 with⟨hv,hn⟩|⟨g,cap,cur,hv,_⟩
 ·cases hv;omega
 ·cases hv;rfl
section
variable {Q:Nat→Prop} {w w5 w' W:World} {T:TypeId} {B n c g:Nat} {p:Option Addr} {R:List RF} {F:List FarmF}
theorem SepR.setDay {V:(Nat→Prop)→World→RL→LineF→Prop}(hV:Chgs V)(h:SepR SF (FVs V) T B Q W (.slice (some ⟨g,0,none⟩) n c) R F){k:Nat}(hk:k<R.length)(hk' : k<F.length)(day:Int) :
  SepR SF (FVs V) T B Q (W.setCell ⟨g,k*3+1,none⟩ (I O day)) (.slice (some ⟨g,0,none⟩) n c) (R.set k { R[k] with day:=day }) (F.set k { F[k] with day:=day }):=by
 obtain⟨φ,h1,h2,h3⟩:=h.upd (FVs.chgs hV) hk hk'; obtain⟨g', e, -, -, -, -, -,hst⟩:=h.own.at hk
 cases e
 have hsz:(W.setCell ⟨g,k*3+1,none⟩ (I O day)).heap.size=W.heap.size:=setCell_sz _ _ _;have far:∀b,b≠g→(W.setCell ⟨g,k*3+1,none⟩ (I O day)).heap[b]?=W.heap[b]?:=fun b hb=>setCell_far _ hb _ _
 refine h3 _ { R[k] with day:=day } { F[k] with day:=day } φ Q (by rw[hsz];exact Nat.le_refl _) (hst 1 _ _ (by show 1<3;omega) rfl) ?_ (fun b q=>⟨.inl q,(h2 b q).1⟩) fun b q _=>⟨fun _ hn=>far b (fun e=>hn (by rw[e];rfl)),q⟩
 exact⟨h1.farm,rfl,h1.lines.imp fun L hL=>hL.change hV (by rw[hsz];exact Nat.le_refl _) fun b q _=>⟨far b fun e=>(h2 b q).2 (by rw[e];rfl),q⟩⟩
end
section
variable {w W W' : World} {t q q' gy:Nat} {l:List Int} {ya:Array Value} {v v' : Value} {R R' : List RF} {G G' : List FarmF}
end
end Go.Proofs.YtefcalgjnkigjaaGreat
namespace Go.Proofs.YtefcalgjnkigjaaGreat
open Go.RowKit Sc As
section
variable {Q:Nat→Prop} {W:World} {g n c k:Nat} {p:Option Addr} {L:List RL} {X:List LineF}
theorem SepR.fld (h:SepR SL LVw 89 0 Q W (.slice (some ⟨g,0,none⟩) n c) L X)(hk:k<L.length)(hk' : k<X.length){i:Nat}(hi:i<7){u:Value}(a:RL)(x:LineF)(ha:lCells a=(lCells L[k]).set i u)
  (hx:∀φ W,LVw φ W L[k] X[k]→LVw φ W a x):SepR SL LVw 89 0 Q (W.setCell ⟨g,k*7+i,none⟩ u) (.slice (some ⟨g,0,none⟩) n c) (L.set k a) (X.set k x):=by
 obtain⟨φ,h1,h2,h3⟩:=h.upd LVw.chgs hk hk'; obtain⟨g', e, -, -, -, -, -,hst⟩:=h.own.at hk
 cases e
 have hsz:(W.setCell ⟨g,k*7+i,none⟩ u).heap.size=W.heap.size:=setCell_sz _ _ _;have far:∀b,b≠g→(W.setCell ⟨g,k*7+i,none⟩ u).heap[b]?=W.heap[b]?:=fun b hb=>setCell_far _ hb _ _
 exact h3 _ a x φ Q (by rw[hsz];exact Nat.le_refl _) (hst i _ _ hi ha) (hx _ _ (LVw.chgs _ _ _ _ _ _ h1 (by rw[hsz];exact Nat.le_refl _) fun b q _=>⟨far b fun e=>(h2 b q).2 (by rw[e];rfl),q⟩)) (fun b q=>⟨.inl q,(h2 b q).1⟩) fun b q _=>⟨fun _ hn=>far b (fun e=>hn (by rw[e];rfl)),q⟩
theorem SepR.due0 (h:SepR SL LVw 89 0 Q W (.slice p n c) L X)(hk:k<L.length)(hk' : k<X.length)(hd:0<X[k].due.length) :
  ∃gd,L[k].dp=some ⟨gd,0,none⟩∧L[k].dn=X[k].due.length∧Q gd∧W.cell? ⟨gd,0,none⟩=some (I O X[k].due[0])∧W.frozen? ⟨gd,0,none⟩=false ∧
    ∀v:Int,SepR SL LVw 89 0 Q (W.setCell ⟨gd,0,none⟩ (I O v)) (.slice p n c) L (X.set k { X[k] with due:=X[k].due.set 0 v }):=by
 obtain⟨φ,h1,h2,h3⟩:=h.upd LVw.chgs hk hk'; obtain⟨hl,ho,hq⟩:=h1;obtain⟨gd,e,en, -, -,hc,hf,hst⟩:=ho.at hd;have qd:=h2 gd (hq gd (by rw[e];rfl));refine⟨gd,e,hl.dn,qd.1,hc 0 _ rfl,hf 0,fun v=>?_⟩;have hsz:(W.setCell ⟨gd,0,none⟩ (I O v)).heap.size=W.heap.size:=setCell_sz _ _ _;have far:∀b,b≠gd→(W.setCell ⟨gd,0,none⟩ (I O v)).heap[b]?=W.heap[b]?:=fun b hb=>setCell_far _ hb _ _
 have hO:=hst 0 (I O v) v (by show 0<1;omega) rfl;have hL:OwnR SL (W.setCell ⟨gd,0,none⟩ (I O v)) 89 0 (.slice p n c) L:=h.own.blocks fun g eg _ _=>far g fun e=>qd.2 (by rw[eg,e])
 obtain⟨p', c', e', g1,g2,g3, -,g5⟩:=hO.cut (n:=X[k].due.length) (by rw[List.length_set]);have:=h3 (W.setCell ⟨gd,0,none⟩ (I O v)) L[k] { X[k] with due:=X[k].due.set 0 v } φ Q (by rw[hsz];exact Nat.le_refl _) (by rw[List.set_getElem_self];exact hL) ?_ (fun b q=>⟨.inl q,(h2 b q).1⟩) fun b q _=>⟨fun hn _=>far b fun e2=>hn (hq b (by rw[e,e2];rfl)),q⟩
 ·rwa [List.set_getElem_self]at this
 ·refine⟨⟨hl.decl,hl.sch,?_,?_,hl.dc,hl.dz,fun a ea => .inr (hq _ (by rw[ea];rfl)),hl.season,hl.kind,hl.area,hl.border⟩,hO,hq⟩
  ·obtain⟨ep, -, -⟩:=Value.slice.inj e'
   exact ep▸g5.ints
  ·show _=(X[k].due.set 0 v).length
   rw[List.length_set];exact hl.dn
end
theorem OwnR.up {α:Type}{S:Shape α}{w:World}{T:TypeId}{B:Nat}{v:Value}{L:List α}(h:OwnR S w T 0 v L)(hq:∀g,v.ownBlock=some g→B≤g):OwnR S w T B v L:=by
 rcases h.2 with⟨hv,hn⟩|⟨g,cap,cur,hv, -,hr⟩
 ·exact⟨h.1,.inl ⟨hv,hn⟩⟩
 ·exact⟨h.1,.inr ⟨g,cap,cur,hv,hq g (by rw[hv];rfl),hr⟩⟩
section
variable {Q:Nat→Prop} {W w5:World} {g n c k H:Nat} {p:Option Addr} {L:List RL} {X:List LineF}
theorem SepR.dueApp (h:SepR SL LVw 89 0 Q W (.slice (some ⟨g,0,none⟩) n c) L X)(hk:k<L.length)(hk' : k<X.length){y:Int}{p5:Option Addr}{n5 c5:Nat}
  {B:Nat} (hO:OwnR SI w5 3 B (.slice p5 n5 c5) (X[k].due ++ [y])) (ha:Appends W w5 B H (.slice L[k].dp L[k].dn L[k].dc) (.slice p5 n5 c5)) (hH:W.heap.size≤H) :
  SepR SL LVw 89 0 (fun b=>Q b∨W.heap.size≤b) (w5.setCell ⟨g,k*7+2,none⟩ (.slice p5 n5 c5)) (.slice (some ⟨g,0,none⟩) n c) (L.set k { L[k] with dp:=p5,dn:=n5,dc:=c5 }) (X.set k { X[k] with due:=X[k].due ++ [y] }):=by
 obtain⟨φ,h1,h2,h3⟩:=h.upd LVw.chgs hk hk'; obtain⟨hl,ho,hq⟩:=h1;have hgl:g<W.heap.size:=(h.own.lt rfl).2;have gne:(Value.slice L[k].dp L[k].dn L[k].dc).ownBlock≠some g:=fun e=>(h2 g (hq g e)).2 rfl
 have own5:OwnR SL w5 89 0 (.slice (some ⟨g,0,none⟩) n c) L:=h.own.blocks fun b eb _ hl2=>by cases eb;exact ha.far g hgl gne
 obtain⟨g', e, -, -, -, -, -,hst⟩:=own5.at hk
 cases e
 have hsz:(w5.setCell ⟨g,k*7+2,none⟩ (.slice p5 n5 c5)).heap.size=w5.heap.size:=setCell_sz _ _ _;have nb:∀b,(Value.slice p5 n5 c5).ownBlock=some b→(φ b∨W.heap.size≤b)∧b≠g:=fun b eb=>by
  rcases ha.block with e|e
  ·rw[e]at eb;exact⟨.inl (hq b eb),fun e2=>gne (by rw[← e2];exact eb)⟩
  ·rw[e]at eb;cases eb;exact⟨.inr hH,by omega⟩
 obtain⟨p', c', e', g1,g2,g3, -,g5⟩:=hO.cut (n:=n5) hO.len.symm
 cases e'
 have hn5:n5=(X[k].due ++ [y]).length:=hO.len;have hO' := hO.blocks (w' := w5.setCell ⟨g,k*7+2,none⟩ (.slice p5 n5 c5)) fun b eb _ _=>setCell_far _ (nb b eb).2 _ _
 refine h3 _ { L[k] with dp:=p5,dn:=n5,dc:=c5 } { X[k] with due:=X[k].due ++ [y] } (fun b=>φ b∨W.heap.size≤b) _ (by rw[hsz];exact ha.size) (hst 2 _ _ (by show 2<7;omega) rfl) ?_ (fun b q=>⟨q,q.imp (fun q=>(h2 b q).1) id⟩) fun b q hl2=>⟨fun hn hb=>(setCell_far _ (fun e=>hb (by rw[e];rfl)) _ _).trans (ha.far b hl2 fun e=>hn (hq b e)),.inl q⟩
 have g5' := g5.blocks (w' := w5.setCell ⟨g,k*7+2,none⟩ (.slice p5 n5 c5)) (by rw[hsz];exact Nat.le_refl _) fun a ea => .inr (setCell_far _ (nb a.block (by subst ea;obtain⟨s1,s2, -, -⟩:=g2 a rfl;obtain⟨x,y2,z⟩:=a;simp only at s1 s2;subst s1 s2;rfl)).2 _ _)
 exact⟨⟨hl.decl,hl.sch,g5'.ints,hn5,g3,fun e=>(g1 e).1,fun a ea => .inr ((nb a.block (by subst ea;obtain⟨s1,s2, -, -⟩:=g2 a rfl;obtain⟨x,y2,z⟩:=a;simp only at s1 s2;subst s1 s2;rfl)).1),hl.season,hl.kind,hl.area,hl.border⟩,hO'.mono (Nat.zero_le _),fun b eb=>(nb b eb).1⟩
end
section
variable {Q:Nat→Prop} {W W' : World} {T:TypeId} {B n c g:Nat} {p:Option Addr} {v:Value} {R:List RF} {F:List FarmF} {L' : List RL} {K' : List LineF}
theorem SepR.setFarm {V:(Nat→Prop)→World→RL→LineF→Prop}(hV:Chgs V)(h:SepR SF (FVs V) T B Q W (.slice (some ⟨g,0,none⟩) n c) R F){k:Nat}(hk:k<R.length)(hk' : k<F.length)(x:Int) :
  SepR SF (FVs V) T B Q (W.setCell ⟨g,k*3,none⟩ (I O x)) (.slice (some ⟨g,0,none⟩) n c) (R.set k { R[k] with farm:=x }) (F.set k { F[k] with farm:=x }):=by
 obtain⟨φ,h1,h2,h3⟩:=h.upd (FVs.chgs hV) hk hk'; obtain⟨g', e, -, -, -, -, -,hst⟩:=h.own.at hk
 cases e
 have hsz:(W.setCell ⟨g,k*3,none⟩ (I O x)).heap.size=W.heap.size:=setCell_sz _ _ _;have far:∀b,b≠g→(W.setCell ⟨g,k*3,none⟩ (I O x)).heap[b]?=W.heap[b]?:=fun b hb=>setCell_far _ hb _ _
 refine h3 _ { R[k] with farm:=x } { F[k] with farm:=x } φ Q (by rw[hsz];exact Nat.le_refl _) (hst 0 _ _ (by show 0<3;omega) rfl) ?_ (fun b q=>⟨.inl q,(h2 b q).1⟩) fun b q _=>⟨fun _ hn=>far b (fun e=>hn (by rw[e];rfl)),q⟩
 exact⟨rfl,h1.day,h1.lines.imp fun L hL=>hL.change hV (by rw[hsz];exact Nat.le_refl _) fun b q _=>⟨far b fun e=>(h2 b q).2 (by rw[e];rfl),q⟩⟩
theorem SepR.inner (h:SepR SF (FVs LVw) T B Q W v R F){k:Nat}(hk:k<R.length)(hk' : k<F.length):∃(φ:Nat→Prop) (L:List RL),SepR SL LVw 89 0 φ W (.slice R[k].lp R[k].ln R[k].lc) L F[k].lines∧(∀b,φ b→Q b∧v.ownBlock≠some b) ∧
  ∀(W' : World) (L' : List RL) (K' : List LineF),W.heap.size≤W'.heap.size→(∀b,b<W.heap.size→¬φ b→W'.heap[b]?=W.heap[b]?)→(∀b,W.heap.size≤b→Q b)→SepR SL LVw 89 0 (fun b=>φ b∨W.heap.size≤b) W' (.slice R[k].lp R[k].ln R[k].lc) L' K' → SepR SF (FVs LVw) T B Q W' v R (F.set k { F[k] with lines:=K' }):=by
 obtain⟨φ,h1,h2,h3⟩:=h.upd (FVs.chgs LVw.chgs) hk hk'; obtain⟨L,hL⟩:=h1.lines;refine⟨φ,L,hL,h2,fun W' L' K' hs hb hQ hN=>?_⟩;have:=h3 W' R[k] { F[k] with lines:=K' } (fun b=>φ b∨W.heap.size≤b) Q hs (by rw[List.set_getElem_self];exact h.own.blocks fun b eb _ hl=>hb b hl fun q=>(h2 b q).2 eb) ⟨h1.farm,h1.day,L', hN⟩ (fun b q=>⟨q,q.elim (fun q=>(h2 b q).1) (hQ b)⟩) fun b q hl=>⟨fun hn _=>hb b hl hn,q⟩
 rwa [List.set_getElem_self]at this
theorem SepR.wide {V:(Nat→Prop)→World→RL→LineF→Prop}(hV:Chgs V){Q2:Nat→Prop}{L:List RL}{K:List LineF}(h:SepR SL V T B Q W v L K)(hq:∀b,Q b→Q2 b):SepR SL V T B Q2 W v L K:=h.change hV mle fun b q _=>⟨rfl,hq b q⟩
end
end Go.Proofs.YtefcalgjnkigjaaGreat
namespace Go.Proofs.YtefcalgjnkigjaaGreat
open Go.RowKit Sc As
def SchLo (F:List FarmF):Prop:=∀f∈F,∀x∈f.lines, -9223372036854775808≤x.sch
theorem SchLo.set {F:List FarmF}(h:SchLo F){k:Nat}{f:FarmF}(hf:∀x∈f.lines, -9223372036854775808≤x.sch):SchLo (F.set k f):=fun g hg=>(List.mem_or_eq_of_mem_set hg).elim (h g) fun e=>by rw[e];exact hf
theorem SchLo.line {F:List FarmF}(h:SchLo F){k j:Nat}(hk:k<F.length){x:LineF}(hx : -9223372036854775808≤x.sch):SchLo (F.set k { F[k] with lines:=F[k].lines.set j x }) :=
 h.set fun y hy=>(List.mem_or_eq_of_mem_set hy).elim (h _ (List.getElem_mem hk) y) fun e=>by rw[e];exact hx
def OddG (t:Nat) (l:List Int) (w:World) (e:Ending) (w' : World):Prop :=
 ∃(p:Option Addr) (n c:Nat) (F:List FarmF) (q:Nat),e = .returned (.slice p n c)∧n=F.length∧n≤c∧FsAt (NewQ w.heap.size) w' p F∧SchLo F∧TpB w w' t l q
structure OdS (w W:World) (t:Nat) (l:List Int) (q n c g:Nat) (R:List RF) (F:List FarmF):Prop where
 tp:TpB w W t l q
 fs:SepR SF (FVs LVw) 47 w.heap.size (NewQ w.heap.size) W (.slice (some ⟨g,0,none⟩) n c) R F
section
variable {w W W' : World} {t q q' n c g k gl j ln lc:Nat} {l:List Int} {R:List RF} {F:List FarmF} {fa dy:Int}
theorem OdS.next (h:OdS w W t l q n c g R F)(ht:TapeAt W' t l q')(hb:But t W W'):OdS w W' t l q' n c g R F :=
 ⟨h.tp.next ht hb,h.fs.change (FVs.chgs LVw.chgs) hb.size fun b k hl=>⟨hb.block b hl (by have:=h.tp.lt;unfold NewQ at k;omega),k⟩⟩
theorem OdS.drew (h:OdS w W t l q n c g R F):OdS w W.drew t l q n c g R F:=h.next (h.tp.tape.below (brf _ _).drew) (But.of_below (brf _ _).drew)
theorem OdS.row (h:OdS w W t l q n c g R F)(hk:k<R.length):W.cell? ⟨g,k*3,none⟩=some (I O R[k].farm)∧W.cell? ⟨g,k*3+1,none⟩=some (I O R[k].day)∧W.cell? ⟨g,k*3+2,none⟩=some (.slice R[k].lp R[k].ln R[k].lc)∧(∀i,W.frozen? ⟨g,i,none⟩=false)∧w.heap.size≤g∧g<W.heap.size:=by
 obtain⟨g', e, -,hB,hl,hc,hf, -⟩:=h.fs.own.at hk
 cases e
 exact⟨hc 0 _ rfl,hc 1 _ rfl,hc 2 _ rfl,hf,hB,hl⟩
theorem OdS.lines (h:OdS w W t l q n c g R F)(hk:k<R.length)(hk' : k<F.length):R[k].ln=F[k].lines.length∧R[k].ln≤R[k].lc∧(R[k].ln≠0→∃gl,R[k].lp=some ⟨gl,0,none⟩):=by
 obtain⟨φ,L,hL, -, -⟩:=h.fs.inner hk hk'; obtain⟨p', c', e,g1, -,g3, -, -⟩:=hL.own.cut hL.hl;obtain⟨e1,e2,e3⟩:=Value.slice.inj e;refine⟨e2,by rw[e2,e3];exact g3,fun hn=>?_⟩;obtain⟨gl,e4, -⟩:=hL.own.at (k:=0) (by rw[hL.hl,← e2];omega);exact⟨gl,e4⟩
theorem OdS.fin (h:OdS w W t l q n c g R F)(hF:SchLo F):OddG t l w (.returned (.slice (some ⟨g,0,none⟩) n c)) W:=by
 obtain⟨h1,h2,h3,h4⟩:=(h.fs.map fun _ _ _ _ h=>h.map fun _ _ _ _ h=>h.1).farms;exact⟨_,n,c,F,q,rfl,h2,h3,h1,hF,h.tp⟩
theorem OdS.farm (h:OdS w W t l q n c g R F)(hk:k<R.length)(hk' : k<F.length)(hF:SchLo F)(x:Int):OddG t l w (.returned (.slice (some ⟨g,0,none⟩) n c)) (W.setCell ⟨g,k*3,none⟩ (I O x)) :=
 OdS.fin ⟨h.tp.set (h.row hk).2.2.2.2.1 _,h.fs.setFarm LVw.chgs hk hk' x⟩ (hF.set (show ∀y∈F[k].lines, -9223372036854775808≤y.sch from hF _ (List.getElem_mem hk')))
theorem OdS.day (h:OdS w W t l q n c g R F)(hk:k<R.length)(hk' : k<F.length)(hF:SchLo F)(x:Int):OddG t l w (.returned (.slice (some ⟨g,0,none⟩) n c)) (W.setCell ⟨g,k*3+1,none⟩ (I O x)) :=
 OdS.fin ⟨h.tp.set (h.row hk).2.2.2.2.1 _,h.fs.setDay LVw.chgs hk hk' x⟩ (hF.set (show ∀y∈F[k].lines, -9223372036854775808≤y.sch from hF _ (List.getElem_mem hk')))
theorem OdS.line (h:OdS w W t l q n c g R F)(hk:k<R.length)(hk' : k<F.length)(er:R[k]=⟨fa,dy,some ⟨gl,0,none⟩,ln,lc⟩)(hj:j<F[k].lines.length)(hF:SchLo F) :
  ∃r:RL,(∀i u,(lCells r)[i]?=some u→W.cell? ⟨gl,j*7+i,none⟩=some u)∧(∀i,W.frozen? ⟨gl,i,none⟩=false)∧gl<W.heap.size∧w.heap.size≤gl∧OwnR SI W 3 w.heap.size (.slice r.dp r.dn r.dc) F[k].lines[j].due∧(Value.slice r.dp r.dn r.dc).ownBlock≠some gl ∧
    (∀(i:Nat) (u:Value) (a' : RL) (x' : LineF),i<7→lCells a' = (lCells r).set i u→(∀φ W,LVw φ W r F[k].lines[j]→LVw φ W a' x') → -9223372036854775808≤x'.sch→OddG t l w (.returned (.slice (some ⟨g,0,none⟩) n c)) (W.setCell ⟨gl,j*7+i,none⟩ u)) ∧
    (0<F[k].lines[j].due.length→∃gd,r.dp=some ⟨gd,0,none⟩∧0<r.dn∧(∃v0,W.cell? ⟨gd,0,none⟩=some v0)∧W.frozen? ⟨gd,0,none⟩=false∧∀v:Int,OddG t l w (.returned (.slice (some ⟨g,0,none⟩) n c)) (W.setCell ⟨gd,0,none⟩ (I O v))) ∧
    (∀(w5:World) (p5:Option Addr) (n5 c5:Nat) (y:Int) (H:Nat),OwnR SI w5 3 w.heap.size (.slice p5 n5 c5) (F[k].lines[j].due ++ [y])→Appends W w5 w.heap.size H (.slice r.dp r.dn r.dc) (.slice p5 n5 c5)→W.heap.size≤H→OddG t l w (.returned (.slice (some ⟨g,0,none⟩) n c)) (w5.setCell ⟨gl,j*7+2,none⟩ (.slice p5 n5 c5))):=by
 obtain⟨φ,L,hL,hφ,hback⟩:=h.fs.inner hk hk'; rw[er]at hL hback;simp only at hL hback;have hjL:j<L.length:=by rw[hL.hl];exact hj
 obtain⟨g', e, -, -,hgl,hc,hf, -⟩:=hL.own.at hjL
 cases e
 have gφ:φ gl:=hL.oq gl rfl;have hglw:w.heap.size≤gl:=(hφ gl gφ).1;obtain⟨ψ,hv,hψ, -⟩:=hL.upd LVw.chgs hjL hj;have hQ:∀b,W.heap.size≤b→NewQ w.heap.size b:=fun b hb=>Nat.le_trans h.tp.but.size hb
 have hlo:=hF _ (List.getElem_mem hk') _ (List.getElem_mem hj);have dq:∀b,(Value.slice L[j].dp L[j].dn L[j].dc).ownBlock=some b→φ b∧b≠gl:=fun b eb=>⟨(hψ b (hv.2.2 b eb)).1,fun e=>(hψ b (hv.2.2 b eb)).2 (by rw[e];rfl)⟩
 have low:∀b,φ b→w.heap.size≤b:=fun b q=>(hφ b q).1
 refine⟨L[j],hc,hf,hgl,hglw,hv.2.1.up fun b eb=>low b (dq b eb).1,fun e=>(dq gl e).2 rfl,fun i u a' x' hi ha hx hs=>?_,fun hd=>?_,fun w5 p5 n5 c5 y H hO hap hH=>?_⟩
 ·have hsz:(W.setCell ⟨gl,j*7+i,none⟩ u).heap.size=W.heap.size:=setCell_sz _ _ _
  exact OdS.fin ⟨h.tp.set hglw u,hback _ _ _ (by rw[hsz];exact Nat.le_refl _) (fun b _ hn=>setCell_far _ (fun e=>hn (by rw[e];exact gφ)) _ _) hQ ((hL.fld hjL hj hi a' x' ha hx).wide LVw.chgs fun b q => .inl q)⟩ (hF.line hk' hs)
 ·obtain⟨gd,e1,e2,e3,e4,e5,e6⟩:=hL.due0 hjL hj hd
  refine⟨gd,e1,by omega,⟨_,e4⟩,e5,fun v=>?_⟩
  have hsz:(W.setCell ⟨gd,0,none⟩ (I O v)).heap.size=W.heap.size:=setCell_sz _ _ _;exact OdS.fin ⟨h.tp.set (low gd e3) _,hback _ _ _ (by rw[hsz];exact Nat.le_refl _) (fun b _ hn=>setCell_far _ (fun e=>hn (by rw[e];exact e3)) _ _) hQ ((e6 v).wide LVw.chgs fun b q => .inl q)⟩ (hF.line hk' hlo)
 ·have hsz:(w5.setCell ⟨gl,j*7+2,none⟩ (.slice p5 n5 c5)).heap.size=w5.heap.size:=setCell_sz _ _ _
  exact OdS.fin ⟨(h.tp.belowB hap.below).set hglw _,hback _ _ _ (by rw[hsz];exact hap.size) (fun b hl hn=>(setCell_far _ (fun e=>hn (by rw[e];exact gφ)) _ _).trans (hap.far b hl fun e=>hn (dq b e).1)) hQ (hL.dueApp hjL hj hO hap hH)⟩ (hF.line hk' hlo)
end
theorem odd34_any {Q:Nat→Prop}(t:Nat)(l:List Int)(a:Nat)(p:Option Addr)(F:List FarmF)(n c:Nat)(Y:YLaw)(x:Int)(w:World)(h:TapeAt w t l a)(hF:FsAt Q w p F)(hn:F.length=n)(hm:∀f∈F,FmOk Y f)(lF:n≤4)(hs1:0<Y.sch.length)(hs3:Y.sch.length≤3)(hx : -9223372036854775808≤x) :
  Calls Tryz.prog 14 #[.pointer (some ⟨t,0,none⟩),.slice p n c,I O x] w (OddG t l w):=by
 have CP:=mh (hn▸copy2_any p F c w hF (by omega) fun f hf=>⟨by have:=(hm f hf).len;omega,fun x hx=>by have:=((hm f hf).ok.line x hx).len;omega⟩:Calls Tryz.prog 57 #[.slice p n c] w (CyG F w));have LEN:=mh hn;have HLO:=mh (show SchLo F from fun f hf y hy=>by have:=(hm f hf).pos y hy;omega);have HDU:=mh (show ∀(k j:Nat) (hk:k<F.length) (hj:j<F[k].lines.length),0<(F[k].lines[j]).due.length∧(F[k].lines[j]).due.length≤3 from fun k j hk hj=>by have:=((hm _ (List.getElem_mem hk)).ok.line _ (List.getElem_mem hj)).len;omega);have HLL:=mh (show ∀(k:Nat) (hk:k<F.length),F[k].lines.length≤3 from fun k hk=>(hm _ (List.getElem_mem hk)).len);have HX:=mh hx;have TI:=mh (TpB.init h);have TN:=mh (fun (W:World) (q:Nat) (n:Int) (h:TapeAt W t l q) (hn:n≤9223372036854775807)=>next_any t l q n W h hn);have TO:=mh (fun (W:World) (q:Nat) (n:Int) (h:TapeAt W t l q) (h1:1≤n) (h2:n≤9223372036854775807)=>one_any t l q n W h h1 h2);unfold CyG at CP;clear h hF hn hm hs1 hs3 hx
 go_enter Tryz.func14,Tryz.ntmps14
 go_upto_region 2 with (first|(go_at_call 57;(with_reducible refine cmo CP.out ?_);rintro e w1 ⟨v,R,rfl,hsep,hbl⟩;obtain⟨p1,c1,rfl, -, -,k3, -, -⟩:=hsep.own.cut (hsep.hl.trans LEN.out);have SE:=mh hsep;have BL:=mh hbl;clear hsep hbl k3)|fail)
 by_cases hz:n=0
 ·subst hz
  go_upto_region 3 with fail
  have FIN:=mh (show OddG t l w (.returned (.slice (some ⟨w1.heap.size,0,none⟩) 1 1)) (w1.alloc (.cells #[I O x,I O 0,.slice none 0 0] 47)) from
   ⟨_,1,1, [⟨x,0, []⟩],a,rfl,rfl,Nat.le_refl _,fs_one (r:=⟨x,0,none,0,0⟩) (B:=w.heap.size) (show FV _ _ _ ⟨x,0, []⟩ from⟨rfl,rfl,LsAt.nil _ _ _,rfl,Nat.le_refl _,fun _=>rfl⟩) BL.out.size 47,(show SchLo _ from fun f hf y hy=>by rw[List.mem_singleton.1 hf]at hy;cases hy),(TI.out.below BL.out).alloc _⟩)
  go_wp2_with fail
  go_ret
  exact FIN.out
 have hnp:(0:Int)<(n:Int):=by omega
 have hne:¬(n:Int)=0:=by omega
 have HRL:=mh (show R.length=n from SE.out.hl.trans LEN.out);obtain⟨g,ep, -, -, -, -, -, -⟩:=SE.out.own.at (k:=0) (by rw[HRL.out];omega);subst ep;have S1:=mh (show OdS w w1 t l a n c1 g R F from⟨TI.out.below BL.out,SE.out⟩);clear SE BL CP TI;obtain⟨k0,ek0⟩:∃x:Int,gives l a (n:Int)=x:=⟨_,rfl⟩;have hk0:=gives_bd l a (n:=(n:Int)) (by omega);rw[ek0]at hk0;obtain⟨q1,eq1⟩:∃x,taken l a=x:=⟨_,rfl⟩;have T1:=mh (eq1▸ek0▸TN.out w1 a (n:Int) S1.out.tp.tape (by omega));obtain⟨k,rfl⟩:=Int.eq_ofNat_of_zero_le hk0.1;have hk1:(0:Int)≤(k:Int):=hk0.1;have hk2:(k:Int)<(n:Int):=hk0.2;have hkn:k<n:=by omega
 have HKR:=mh (show k<R.length by rw[HRL.out];exact hkn);have HKF:=mh (show k<F.length by rw[LEN.out];exact hkn);obtain⟨⟨rfa,rda,lp,ln,lc⟩,er⟩:∃r,R[k]'HKR.out=r:=⟨_,rfl⟩;have ER:=mh er;have hln:=S1.out.lines HKR.out HKF.out;rw[er]at hln;simp only at hln;obtain⟨hln1,hln2,hln3⟩:=hln;have HLN:=mh hln1;clear ek0 eq1 hk0 er hln1
 go_upto_region 5 with (first|(go_at_call 43;(with_reducible refine cmo T1.out ?_);rintro e w2 ⟨rfl,ht,hb⟩;have S2:=mh (S1.out.next ht hb);have x2:=(S2.out.row HKR.out).2.2.1;rw[ER.out]at x2;clear ht hb)|fail)
 by_cases hz2:ln=0
 ·subst hz2
  clear hln3
  go_upto_region 6 with fail
  obtain⟨b2,eb2⟩:∃b,(gives l q1 2==2 - 1)=b:=⟨_,rfl⟩;have T3:=mh (eb2▸TO.out w2 q1 2 S2.out.tp.tape (by omega) (by omega));clear eb2
  cases b2
  ·go_upto_region 8 with (first|(go_at_call 44;(with_reducible refine cmo T3.out ?_);rintro e w4 ⟨rfl,ht,hb⟩;have S4:=mh (S2.out.next ht hb);clear ht hb)|fail)
   have x1:=(S4.out.row HKR.out).2.1;have f1:=(S4.out.row HKR.out).2.2.2.1 (k*3+1);have FIN:=mh (S4.out.day HKR.out HKF.out HLO.out x)
   go_wp2_with fail
   go_ret
   exact FIN.out
  ·go_upto_region 7 with (first|(go_at_call 44;(with_reducible refine cmo T3.out ?_);rintro e w4 ⟨rfl,ht,hb⟩;have S4:=mh (S2.out.next ht hb);clear ht hb)|fail)
   have x0:=(S4.out.row HKR.out).1;have f0:=(S4.out.row HKR.out).2.2.2.1 (k*3);have FIN:=mh (S4.out.farm HKR.out HKF.out HLO.out x)
   go_wp2_with fail
   go_ret
   exact FIN.out
 have hnl:¬(ln:Int)=0:=by omega
 have hlp:(0:Int)<(ln:Int):=by omega
 obtain⟨gl,egl⟩:=hln3 hz2;subst egl;clear hln3;obtain⟨b1,eb1⟩:∃b,(gives l q1 4==4 - 1)=b:=⟨_,rfl⟩;obtain⟨q2,eq2⟩:∃x,taken l q1=x:=⟨_,rfl⟩;have T2:=mh (eq2▸eb1▸TO.out w2 q1 4 S2.out.tp.tape (by omega) (by omega));clear eb1 eq2
 cases b1
 rotate_left
 ·go_upto_region 6 with (first|(go_at_call 44;(with_reducible refine cmo T2.out ?_);rintro e w3 ⟨rfl,ht,hb⟩;have S3:=mh (S2.out.next ht hb);clear ht hb)|fail)
  obtain⟨b2,eb2⟩:∃b,(gives l q2 2==2 - 1)=b:=⟨_,rfl⟩;have T3:=mh (eb2▸TO.out w3 q2 2 S3.out.tp.tape (by omega) (by omega));clear eb2
  cases b2
  ·go_upto_region 8 with (first|(go_at_call 44;(with_reducible refine cmo T3.out ?_);rintro e w4 ⟨rfl,ht,hb⟩;have S4:=mh (S3.out.next ht hb);clear ht hb)|fail)
   have x1:=(S4.out.row HKR.out).2.1;have f1:=(S4.out.row HKR.out).2.2.2.1 (k*3+1);have FIN:=mh (S4.out.day HKR.out HKF.out HLO.out x)
   go_wp2_with fail
   go_ret
   exact FIN.out
  ·go_upto_region 7 with (first|(go_at_call 44;(with_reducible refine cmo T3.out ?_);rintro e w4 ⟨rfl,ht,hb⟩;have S4:=mh (S3.out.next ht hb);clear ht hb)|fail)
   have x0:=(S4.out.row HKR.out).1;have f0:=(S4.out.row HKR.out).2.2.2.1 (k*3);have FIN:=mh (S4.out.farm HKR.out HKF.out HLO.out x)
   go_wp2_with fail
   go_ret
   exact FIN.out
 go_upto_region 10 with (first|(go_at_call 44;(with_reducible refine cmo T2.out ?_);rintro e w3 ⟨rfl,ht,hb⟩;have S3:=mh (S2.out.next ht hb);clear ht hb)|fail)
 have LNB:=mh (show ln≤3 from by have:=HLN.out;have:=HLL.out k HKF.out;omega);obtain⟨j0,ej0⟩:∃x:Int,gives l q2 (ln:Int)=x:=⟨_,rfl⟩;have hj0:=gives_bd l q2 (n:=(ln:Int)) (by omega);rw[ej0]at hj0;obtain⟨q3,eq3⟩:∃x,taken l q2=x:=⟨_,rfl⟩;have T3:=mh (eq3▸ej0▸TN.out w3.drew q2 (ln:Int) S3.out.drew.tp.tape (by have:=LNB.out;omega));obtain⟨j,rfl⟩:=Int.eq_ofNat_of_zero_le hj0.1;have hj1:(0:Int)≤(j:Int):=hj0.1;have hj2:(j:Int)<(ln:Int):=hj0.2;have HJF:=mh (show j<(F[k]'HKF.out).lines.length by rw[← HLN.out];omega);clear ej0 eq3 hj0;have hHeld0:w3.drew.cell? ⟨g,k*3+2,none⟩=some (.slice (some ⟨gl,0,none⟩) ln lc):=by have:=(S3.out.drew.row HKR.out).2.2.1;rwa [ER.out]at this
 refine wp_region_held_drew (S:=fun w' => w'.cell? ⟨g,k*3+2,none⟩=some (.slice (some ⟨gl,0,none⟩) ln lc)) (by kernel_rfl) hHeld0 (fun hHeld=>?_)
 refine tkH 0 44 hHeld ?_
 refine tkH 1 45 hHeld ?_
 refine tkH 2 46 hHeld ?_
 refine tkH 3 47 hHeld ?_
 refine tkH 4 48 hHeld ?_
 refine tkH 5 49 hHeld ?_
 refine tkH 6 50 hHeld ?_
 refine tkH 7 51 hHeld ?_
 refine tkH 8 52 hHeld ?_
 refine tkH 9 53 hHeld ?_
 refine rdA 10 54 (fun K hK=>?_)
 go_simp
 (with_reducible refine cmo T3.out ?_);rintro e w5 ⟨rfl,ht5,hb5⟩;have S5:=mh (S3.out.drew.next ht5 hb5);clear ht5 hb5;have hHeld2:w5.cell? ⟨g,k*3+2,none⟩=some (.slice (some ⟨gl,0,none⟩) ln lc):=by have:=(S5.out.row HKR.out).2.2.1;rwa [ER.out]at this
 go_wp2_with fail
 refine hK.out _ _ hHeld2 (fun _=>?_)
 clear hK K
 (try dsimp only[Act.put])
 try simp only[mnA,mnB,mnC]
 refine tkH 11 55 hHeld2 ?_
 refine tkH 12 8 hHeld2 ?_
 refine wpAnyH_done (by kernel_rfl) ?_ _
 clear hHeld0 hHeld hHeld2 x2;obtain⟨m,em⟩:∃x:Int,gives l q3 6=x:=⟨_,rfl⟩;have hm:=gives_bd l q3 (n:=6) (by omega);rw[em]at hm;have T4:=mh (em▸TN.out w5 q3 6 S5.out.tp.tape (by omega));obtain⟨m0,m1⟩:=hm;clear em
 by_cases h0:m=0
 ·subst h0
  go_upto_region 13 with (first|(go_at_call 43;(with_reducible refine cmo T4.out ?_);rintro e w6 ⟨rfl,ht,hb⟩;have S6:=mh (S5.out.next ht hb);clear ht hb)|fail)
  obtain⟨r,hc,hf,hgl,hgw,hdu,hdn,hset,hdue,happ⟩:=S6.out.line HKR.out HKF.out ER.out HJF.out HLO.out;have y0:w6.cell? ⟨gl,j*7,none⟩=some _:=hc 0 _ rfl;have yf0:w6.frozen? ⟨gl,j*7,none⟩=false:=hf _;clear hc hf;have FIN:=mh (hset 0 (I O x) { r with decl:=x } { (F[k]'HKF.out).lines[j]'HJF.out with decl:=x } (by omega) rfl (fun φ W h=>⟨⟨rfl,h.1.sch,h.1.due,h.1.dn,h.1.dc,h.1.dz,h.1.dq,h.1.season,h.1.kind,h.1.area,h.1.border⟩,h.2⟩) (show -9223372036854775808≤((F[k]'HKF.out).lines[j]'HJF.out).sch from HLO.out _ (List.getElem_mem HKF.out) _ (List.getElem_mem HJF.out)));clear hset hdue happ
  go_wp2_with fail
  go_ret
  exact FIN.out
 by_cases h1:m=1
 ·subst h1
  go_upto_region 15 with (first|(go_at_call 43;(with_reducible refine cmo T4.out ?_);rintro e w6 ⟨rfl,ht,hb⟩;have S6:=mh (S5.out.next ht hb);clear ht hb)|fail)
  obtain⟨r,hc,hf,hgl,hgw,hdu,hdn,hset,hdue,happ⟩:=S6.out.line HKR.out HKF.out ER.out HJF.out HLO.out;have y1:w6.cell? ⟨gl,j*7+1,none⟩=some _:=hc 1 _ rfl;have yf1:w6.frozen? ⟨gl,j*7+1,none⟩=false:=hf _;clear hc hf;have FIN:=mh (hset 1 (I O x) { r with sch:=x } { (F[k]'HKF.out).lines[j]'HJF.out with sch:=x } (by omega) rfl (fun φ W h=>⟨⟨h.1.decl,rfl,h.1.due,h.1.dn,h.1.dc,h.1.dz,h.1.dq,h.1.season,h.1.kind,h.1.area,h.1.border⟩,h.2⟩) HX.out);clear hset hdue happ
  go_wp2_with fail
  go_ret
  exact FIN.out
 by_cases h2:m=2
 ·subst h2
  go_upto_region 17 with (first|(go_at_call 43;(with_reducible refine cmo T4.out ?_);rintro e w6 ⟨rfl,ht,hb⟩;have S6:=mh (S5.out.next ht hb);clear ht hb)|fail)
  obtain⟨r,hc,hf,hgl,hgw,hdu,hdn,hset,hdue,happ⟩:=S6.out.line HKR.out HKF.out ER.out HJF.out HLO.out;have y3:w6.cell? ⟨gl,j*7+3,none⟩=some _:=hc 3 _ rfl;have yf3:w6.frozen? ⟨gl,j*7+3,none⟩=false:=hf _;clear hc hf;have FIN:=mh (hset 3 (I O x) { r with season:=x } { (F[k]'HKF.out).lines[j]'HJF.out with season:=x } (by omega) rfl (fun φ W h=>⟨⟨h.1.decl,h.1.sch,h.1.due,h.1.dn,h.1.dc,h.1.dz,h.1.dq,rfl,h.1.kind,h.1.area,h.1.border⟩,h.2⟩) (show -9223372036854775808≤((F[k]'HKF.out).lines[j]'HJF.out).sch from HLO.out _ (List.getElem_mem HKF.out) _ (List.getElem_mem HJF.out)));clear hset hdue happ
  go_wp2_with fail
  go_ret
  exact FIN.out
 by_cases h3:m=3
 ·subst h3
  go_upto_region 19 with (first|(go_at_call 43;(with_reducible refine cmo T4.out ?_);rintro e w6 ⟨rfl,ht,hb⟩;have S6:=mh (S5.out.next ht hb);clear ht hb)|fail)
  obtain⟨r,hc,hf,hgl,hgw,hdu,hdn,hset,hdue,happ⟩:=S6.out.line HKR.out HKF.out ER.out HJF.out HLO.out;have y4:w6.cell? ⟨gl,j*7+4,none⟩=some _:=hc 4 _ rfl;have yf4:w6.frozen? ⟨gl,j*7+4,none⟩=false:=hf _;clear hc hf;have FIN:=mh (hset 4 (I O x) { r with kind:=x } { (F[k]'HKF.out).lines[j]'HJF.out with kind:=x } (by omega) rfl (fun φ W h=>⟨⟨h.1.decl,h.1.sch,h.1.due,h.1.dn,h.1.dc,h.1.dz,h.1.dq,h.1.season,rfl,h.1.area,h.1.border⟩,h.2⟩) (show -9223372036854775808≤((F[k]'HKF.out).lines[j]'HJF.out).sch from HLO.out _ (List.getElem_mem HKF.out) _ (List.getElem_mem HJF.out)));clear hset hdue happ
  go_wp2_with fail
  go_ret
  exact FIN.out
 by_cases h4:m=4
 ·subst h4
  go_upto_region 21 with (first|(go_at_call 43;(with_reducible refine cmo T4.out ?_);rintro e w6 ⟨rfl,ht,hb⟩;have S6:=mh (S5.out.next ht hb);clear ht hb)|fail)
  obtain⟨r,hc,hf,hgl,hgw,hdu,hdn,hset,hdue,happ⟩:=S6.out.line HKR.out HKF.out ER.out HJF.out HLO.out;have y2:w6.cell? ⟨gl,j*7+2,none⟩=some _:=hc 2 _ rfl;have yf2:w6.frozen? ⟨gl,j*7+2,none⟩=false:=hf _;clear hc hf;clear hset hdue;have HAP:=mh happ;have HDO:=mh hdu;have HGL:=mh hgl;have LD:=mh (show((F[k]'HKF.out).lines[j]'HJF.out).due.length≤3 from(HDU.out k j HKF.out HJF.out).2);have HDN:=mh hdn;have HGW:=mh hgw;have WS:=mh S6.out.tp.but.size;clear happ hdu hgl hdn hgw
  go_wp2_with (first
   | (at_builtin;(refine OwnR.append el_int rfl (.tmp 89) (.tmp 90) rfl w.heap.size _ ((F[k]'HKF.out).lines[j]'HJF.out).due 0 #[I O 0] rfl HDO.out rfl (by simp[Act.eval]) WS.out (by have:=LD.out;omega) (by decide) ?_);intro v7 w7 hO7 hap7;obtain⟨p7,c7,rfl, -⟩:=hO7.cut rfl;obtain⟨n7,en7⟩:∃n7,(((F[k]'HKF.out).lines[j]'HJF.out).due ++ [(0:Int)]).length=n7:=⟨_,rfl⟩;rw[en7]at hO7 hap7 ⊢;clear en7;have FIN:=mh (HAP.out w7 p7 _ c7 0 _ hO7 hap7 (Nat.le_succ _));have z2:w7.cell? ⟨gl,j*7+2,none⟩=some _:=(World.cell?_of_block (w:=w6) (a:=⟨gl,j*7+2,none⟩) (hap7.far gl HGL.out HDN.out)).trans y2;have zf2:w7.frozen? ⟨gl,j*7+2,none⟩=false:=(World.frozen?_of_block (w:=w6) (a:=⟨gl,j*7+2,none⟩) (hap7.far gl HGL.out HDN.out)).trans yf2;clear hO7 hap7 y2 yf2)
   | fail)
  go_ret
  exact FIN.out
 by_cases h5:m=5
 ·subst h5
  go_upto_region 23 with (first|(go_at_call 43;(with_reducible refine cmo T4.out ?_);rintro e w6 ⟨rfl,ht,hb⟩;have S6:=mh (S5.out.next ht hb);clear ht hb)|fail)
  obtain⟨r,hc,hf,hgl,hgw,hdu,hdn,hset,hdue,happ⟩:=S6.out.line HKR.out HKF.out ER.out HJF.out HLO.out;have y2:w6.cell? ⟨gl,j*7+2,none⟩=some _:=hc 2 _ rfl;have yf2:w6.frozen? ⟨gl,j*7+2,none⟩=false:=hf _;clear hc hf;clear hset happ;obtain⟨gd,ed,hdl,⟨v0,hv0⟩,hfd,hfin⟩:=hdue (HDU.out k j HKF.out HJF.out).1;rw[ed]at y2;have hdl2:(0:Int)<(r.dn:Int):=by omega
  have FIN:=mh (hfin x);clear hfin hdue hdu hdn
  go_wp2_with fail
  go_ret
  exact FIN.out
 omega
end Go.Proofs.YtefcalgjnkigjaaGreat
namespace Go.Proofs.YtefcalgjnkigjaaGreat
open Go.RowKit
theorem bd_i64 {n:Int}(h:(Lit.int .i64 n).wf=true) : -9223372036854775808≤n∧n≤9223372036854775807:=by simpa [Lit.wf,IntKind.min,IntKind.max,IntKind.signed,IntKind.bits] using h
open Sc As
def SYl:Shape RY:=⟨10,yCells,fun _=>rfl,by decide,fun a u hu=>by
 simp only[yCells,List.mem_cons,List.not_mem_nil,or_false]at hu
 rcases hu with rfl|rfl|rfl|rfl|rfl|rfl|rfl|rfl|rfl|rfl<;>rfl⟩
structure RSl where
 p:Option Addr
 n:Nat
 c:Nat
def slCells (r:RSl):List Value := [.slice r.p r.n r.c]
def SSl:Shape RSl:=⟨1,slCells,fun _=>rfl,by decide,fun a u hu=>by
 simp only[slCells,List.mem_cons,List.not_mem_nil,or_false]at hu
 rcases hu with rfl;rfl⟩
theorem IsRow.below' {k:IntKind}{w w' : World}{a:Option Addr}{len cap:Nat}{zs:List Int}(h:IsRow k w a len cap zs)(hb:Below w.heap.size w w'):IsRow k w' a len cap zs:=by
 rcases h with h|⟨x,e,h1,h2,h3,h4,h5⟩
 ·exact .inl h
 ·exact .inr ⟨x,e,h1,h2,h3,fun i hi=>(hb.cell (World.block_lt_of_cell? w _ (h4 i hi))).trans (h4 i hi),h5⟩
structure CkA (v W:World) (t:Nat) (l:List Int) (q gA:Nat) (R:List RY) (Y:YLaw) (pF:Option Addr) (F:List FarmF) (most:Nat):Prop where
 tape:TapeAt W t l q
 low:Below v.heap.size v W
 wt:v.heap.size≤t
 row:Recs SYl W (some ⟨gA,0,none⟩) R
 tg:t<gA
 laws:∀r∈R,∃d Y,YV (fun b=>b≠t) W d r Y
 fm:Fms W t Y pF F most
structure CkB (W:World) (t g gS:Nat) (r:RY) (d:Nat) (Y:YLaw) (L:List RSl):Prop where
 bl:Blk W g (yCells r).toArray 29
 yv:YV (fun b=>b≠t) W d r Y
 row:Recs SSl W (some ⟨gS,0,none⟩) L
 fs:∀s∈L,∃F,s.n=F.length∧s.n≤s.c∧FsAt (fun b=>b≠t) W s.p F∧SchLo F
section
variable {v W W' : World} {t q q' g gA gS d most:Nat} {l:List Int} {r:RY} {R:List RY} {Y:YLaw} {pF:Option Addr} {F:List FarmF} {L:List RSl}
theorem YV.nt (h:YV (fun b=>b≠t) W d r Y)(hb:But t W W'):YV (fun b=>b≠t) W' d r Y:=h.change hb.size fun b k hl=>⟨hb.block b hl k,k⟩
theorem FsAt.nt (h:FsAt (fun b=>b≠t) W pF F)(hb:But t W W'):FsAt (fun b=>b≠t) W' pF F:=h.change hb.size fun b k hl=>⟨hb.block b hl k,k⟩
theorem YV.raw (h:YV (fun _=>True) v d r Y)(hb:Below v.heap.size v W)(ht:v.heap.size≤t):YV (fun b=>b≠t) W d r Y:=h.lt.change hb.size fun b k hl=>⟨hb.block b hl,by omega⟩
theorem FsAt.raw (h:FsAt (fun _=>True) v pF F)(hb:Below v.heap.size v W)(ht:v.heap.size≤t):FsAt (fun b=>b≠t) W pF F :=
 h.change (Q' := fun b=>b≠t) hb.size fun b _ hl=>⟨hb.block b hl,by omega⟩
theorem Fms.nt (h:Fms W t Y pF F most):FsAt (fun b=>b≠t) W pF F:=h.at_.change mle fun b k _=>⟨rfl,by omega⟩
theorem Fms.lo (h:Fms W t Y pF F most):SchLo F:=fun f hf y hy=>by have:=(h.fm f hf).pos y hy;omega
theorem CkA.next (h:CkA v W t l q gA R Y pF F most)(ht:TapeAt W' t l q')(hb:But t W W'):CkA v W' t l q' gA R Y pF F most:=by
 have:=h.wt;have:=h.low.size;have:=h.tg
 exact⟨ht,h.low.trans (hb.below h.wt (by omega)),h.wt,h.row.blocks hb.size fun a e=>by
  cases e
  by_cases hR:R = []
  ·exact .inl hR
  ·exact .inr (hb.block gA (h.row.lt hR rfl) (by omega)),h.tg,fun r hr=>by
  obtain⟨d,Y,hy⟩:=h.laws r hr
  exact⟨d,Y,hy.nt hb⟩,h.fm.but hb⟩
theorem CkA.below (h:CkA v W t l q gA R Y pF F most)(hb:Below W.heap.size W W'):CkA v W' t l q gA R Y pF F most:=h.next (h.tape.below hb) (.of_below hb)
theorem CkA.at (h:CkA v W t l q gA R Y pF F most){k:Nat}(hk:k<R.length):∃d Y,YV (fun b=>b≠t) W d R[k] Y∧gA<W.heap.size∧W.cell? ⟨gA,k*10,none⟩=some (.slice R[k].sp R[k].sn R[k].sc)∧W.cell? ⟨gA,k*10+1,none⟩=some (.slice R[k].tp R[k].tn R[k].tc)∧W.cell? ⟨gA,k*10+2,none⟩=some (I O R[k].due)∧W.cell? ⟨gA,k*10+3,none⟩=some (I O R[k].last)∧W.cell? ⟨gA,k*10+4,none⟩=some (I O R[k].mille)∧W.cell? ⟨gA,k*10+5,none⟩=some (.slice R[k].gp R[k].gn R[k].gc)∧W.cell? ⟨gA,k*10+6,none⟩=some (I O R[k].cap)∧W.cell? ⟨gA,k*10+7,none⟩=some (I O R[k].env)∧W.cell? ⟨gA,k*10+8,none⟩=some (I O R[k].unit)∧W.cell? ⟨gA,k*10+9,none⟩=some (I O R[k].width):=by
 obtain⟨d,Y,hy⟩:=h.laws _ (List.getElem_mem hk);obtain⟨b,off,e,hl,hc⟩:=h.row.at hk
 cases e
 have hc' : ∀i u,(yCells R[k])[i]?=some u→W.cell? ⟨gA,k*10+i,none⟩=some u:=fun i u hu=>by have:=hc i u hu;rwa [Nat.zero_add]at this
 exact⟨d,Y,hy,hl,hc' 0 _ rfl,hc' 1 _ rfl,hc' 2 _ rfl,hc' 3 _ rfl,hc' 4 _ rfl,hc' 5 _ rfl,hc' 6 _ rfl,hc' 7 _ rfl,hc' 8 _ rfl,hc' 9 _ rfl⟩
theorem CkB.below (h:CkB W t g gS r d Y L)(hb:Below W.heap.size W W'):CkB W' t g gS r d Y L :=
 ⟨h.bl.below hb,h.yv.below hb,h.row.below hb,fun s hs=>by obtain⟨F,h1,h2,h3,h4⟩:=h.fs s hs;exact⟨F,h1,h2,h3.below hb,h4⟩⟩
theorem CkB.at (h:CkB W t g gS r d Y L){k:Nat}(hk:k<L.length):∃(p:Option Addr) (F:List FarmF) (c:Nat),F.length≤c∧FsAt (fun b=>b≠t) W p F∧SchLo F∧W.cell? ⟨gS,k,none⟩=some (.slice p F.length c)∧gS<W.heap.size:=by
 obtain⟨F,h1,h2,h3,h4⟩:=h.fs _ (List.getElem_mem hk);obtain⟨b,off,e,hl,hc⟩:=h.row.at hk
 cases e
 have:=hc 0 _ rfl;have e2:0+k*SSl.k+0=k:=by show 0+k*1+0=k;omega
 rw[e2]at this;refine⟨L[k].p,F,L[k].c,by omega,h3,h4,?_,hl⟩;rw[this,h1]
end
end Go.Proofs.YtefcalgjnkigjaaGreat
namespace Go.Proofs.YtefcalgjnkigjaaGreat
open Go.RowKit
theorem refcheck30_any (d l m:Int)(w:World):Calls Tryz.prog 54 #[.agg #[I O d,I O l,I O m]] w fun e w' => e = .returned (I O (As.chkL ⟨d,l,m⟩))∧Below w.heap.size w w' :=by
 have HA:=mh (balloc mle (brf w.heap.size w) (.cells #[I O d,I O l,I O m] 26));obtain⟨v,ev⟩:∃v,As.chkL ⟨d,l,m⟩=v:=⟨_,rfl⟩;have hv:(d<0∧v=66)∨(¬d<0∧l<d∧v=66)∨(¬d<0∧¬l<d∧36864<l∧v=66)∨(¬d<0∧¬l<d∧¬36864<l∧m<0∧v=66)∨(¬d<0∧¬l<d∧¬36864<l∧¬m<0∧1000<m∧v=66)∨(¬d<0∧¬l<d∧¬36864<l∧¬m<0∧¬1000<m∧v=0):=by
  rw[← ev];unfold As.chkL;simp only
  split<;>omega
 rw[ev];clear ev
 rcases hv with⟨h1,rfl⟩|⟨h1,h2,rfl⟩|⟨h1,h2,h3,rfl⟩|⟨h1,h2,h3,h4,rfl⟩|⟨h1,h2,h3,h4,h5,rfl⟩|⟨h1,h2,h3,h4,h5,rfl⟩
 all_goals
  go_enter Tryz.func54,Tryz.ntmps54
  go_wp2
  go_ret
  exact⟨rfl,HA.out⟩
end Go.Proofs.YtefcalgjnkigjaaGreat
