/- Packed. -/
import Derived.Test.YtbcmabolkkfgfaaGreatDoorQ16
set_option maxRecDepth 100000
set_option maxHeartbeats 8000000
open Go.Value renaming int → I
open Go.IntKind renaming i64 → O
namespace Go.Proofs.YtbcmabolkkfgfaaGreatDoor
open Go.RowKit Go.Shelf Go.Sort
attribute [local go_sem] Oper.semAt_some
attribute [-go_sem] Builtin.append_
theorem lines_any (s:ByteArray)(w:World):Calls Tryz.prog 72 #[.string s] w fun e w' => e = .returned (.func (.func 103) #[] #[.pointer (some ⟨w.heap.size,0,none⟩)])∧w' = w.alloc (.cells #[.string s] 9):=by
 go_enter Tryz.func72,Tryz.ntmps72
 go_wp2
 go_ret
 exact⟨rfl,rfl⟩
theorem box_new (w:World)(v:Value)(T:TypeId):(w.alloc (.cells #[v] T)).cell? ⟨w.heap.size,0,none⟩=some v∧(w.alloc (.cells #[v] T)).frozen? ⟨w.heap.size,0,none⟩=false:=by
 have h:=World.alloc_heap_new w (.cells #[v] T);exact⟨by simp only[World.cell?,h];rfl,by simp only[World.frozen?,h];rfl⟩
def SpGive (l9:ByteArray) (W2 wB:World) (v:Value) (e:Ending) (w4:World):Prop :=
 ∃ws:List ByteArray,ws.map (·.data.toList)=Wo.pcs 32 [] l9.data.toList∧ws.length≤l9.size+1∧e = .returned (.slice (some ⟨W2.heap.size,0,none⟩) ws.length ws.length)∧Hid (w4.heap[W2.heap.size]?=some (.cells (SB.flat ws).toArray 9)) ∧
   w4.heap.size=W2.heap.size+1∧Hid (Below W2.heap.size W2 w4)∧Hid (KeepsOthers W2 w4)∧w4.cell? ⟨wB.heap.size,0,none⟩=some v
theorem SpGive.of {l9:ByteArray}{W2 wB:World}{v:Value}{e:Ending}{w4:World}(h:PcsGive l9 W2.drew e w4)(hc:W2.cell? ⟨wB.heap.size,0,none⟩=some v)(hz:wB.heap.size<W2.heap.size):SpGive l9 W2 wB v e w4:=by
 obtain⟨ws,h1,h2,h3,h4⟩:=h;have hb:Below W2.heap.size W2 w4:=by
  rw[h4];exact(brf W2.heap.size W2).drew.alloc mle _
 refine⟨ws,h1,h2,h3,mh ?_,by rw[h4,World.size_alloc];rfl,mh hb,mh ?_,(hb.cell (p:=⟨wB.heap.size,0,none⟩) hz).trans hc⟩
 ·rw[h4];exact World.alloc_heap_new W2.drew _
 ·rw[h4];exact(KeepsOthers.drew W2).trans (KeepsOthers.alloc _ _)
def DlGive (w4 wB:World) (B:Nat) (v:Value) (ws:List ByteArray) (e:Ending) (w5:World):Prop :=
 e = .returned (.slice (some ⟨B,0,none⟩) (ws.filter neB).length ws.length)∧Hid (Recs SB w5 (some ⟨B,0,none⟩) (ws.filter neB))∧Hid (Below B w4 w5)∧Hid (KeepsOthers w4 w5)∧w5.cell? ⟨wB.heap.size,0,none⟩=some v∧w4.heap.size≤w5.heap.size
theorem DlGive.of {w4 wB:World}{B:Nat}{v:Value}{ws:List ByteArray}{args:Array Value}{f:Nat}(h:Calls Tryz.prog f args w4 (DelGive w4 B ws))(hc:w4.cell? ⟨wB.heap.size,0,none⟩=some v)(hz:wB.heap.size<B):Calls Tryz.prog f args w4 (DlGive w4 wB B v ws) :=
 h.mono fun _ _ ⟨h1,h2,h3,h4⟩=>⟨h1,mh h2,mh h3,mh h4,(h3.cell (p:=⟨wB.heap.size,0,none⟩) hz).trans hc,h3.size⟩
theorem frozen_lit {W:World}{B:Nat}{c:Array Value}{T:TypeId}(h:W.heap[B]?=some (.cells c T)){n:Nat}:∀j,j<n→W.frozen? ⟨B,j,none⟩=false:=fun j _=>by
 simp only[World.frozen?,h];simp
theorem app_run {w5:World}{B:Nat}{v:Value}{H:List Hd}(y:Hd)(hO:OwnR SH w5 48 B v H)(hB:B≤w5.heap.size)(hn:H.length<1073741824) :
  ∃v6 w6,(Builtin.append_ #[65,65] 65 #[v,.slice (some ⟨w5.heap.size,0,none⟩) 1 1]).run Tryz.prog (w5.alloc (.cells #[.slice y.p y.n y.c] 48)) = .ok v6 w6 ∧
    OwnR SH w6 48 B v6 (H ++ [y])∧Appends w5 w6 B (w5.heap.size+1) v v6∧KeepsOthers w5 w6:=by
 obtain⟨i0,z,e1,e2,e3,e4,e5⟩:=el_row.ex;have hown:(w5.alloc (.cells #[.slice y.p y.n y.c] 48)).ownsRow B 48 SH.k v H.length (SH.flat H):=World.ownsRow.alloc hO _
 obtain⟨v6,w6,hr,h2,h3,h4,h5⟩:=run_append_own_at (P:=Tryz.prog) (w5.alloc (.cells #[.slice y.p y.n y.c] 48)) B 65 65 48 i0 z SH.k 24 el_row.ts e1 e2 e3 e4 e5 SH.pos v H.length (SH.flat H) hown ⟨w5.heap.size,0,none⟩ 1 1 (SH.cells y) (by rw[SH.len];omega) (by
  intro j u hu;rw[Go.WideShapes.add_plain,Nat.zero_add,cwn]
  simpa [SH] using hu) (SH.one y) (by unfold maxLen;omega) (by omega) (by simp;omega)
 have hz:=h3.size;rw[World.size_alloc]at hz h5;have hal:=(brf w5.heap.size w5).alloc mle (.cells #[.slice y.p y.n y.c] 48);have far:∀k,k<w5.heap.size→v.ownBlock≠some k→w6.heap[k]?=w5.heap[k]?:=fun k hk hne=>by
  rw[h3.block k (by rw[World.size_alloc];omega) (fun e=>hne e.symm)];exact hal.block k hk
 refine⟨v6,w6,hr,?_,⟨(((brf B w5).alloc hB _).grown h3 (by simp;omega) fun k hk=>(World.ownsRow.lt hO k hk).1),by omega,far,h5⟩,⟨by omega,fun k o hk ho=>?_⟩⟩
 ·unfold OwnR
  rw[lap,SH.flat_append,SH.flat_single];exact h2
 ·have hlt:=(Array.getElem?_eq_some_iff.1 hk).1
  rw[far k hlt ?_]
  ·exact hk
  ·intro e
   rcases hO.2 with⟨a,b⟩|⟨g,cap,cur,g1,g2,g3,g4⟩
   ·rw[a]at e;cases e
   ·rw[g1]at e
    have:g=k:=by simpa [Value.ownBlock] using e
    subst this;rw[g3]at hk;cases hk;cases ho
theorem OwnR.two {w2 w4 w5:World}{B:Nat}{v:Value}{H:List Hd}(h:OwnR SH w2 48 B v H)(h1:Below w2.heap.size w2 w4)(h2:Below w2.heap.size w4 w5):OwnR SH w5 48 B v H:=h.below (h1.trans h2)
theorem OwnR.slc {w:World}{B:Nat}{v:Value}{H:List Hd}{y:Hd}(h:OwnR SH w 48 B v (H ++ [y])):∃g c,v = .slice (some ⟨g,0,none⟩) (H.length+1) c:=by
 rcases h.2 with⟨a,b⟩|⟨g,cap,cur,g1, -⟩
 ·simp at b
 ·exact⟨g,cap,by rw[g1,lap];rfl⟩
theorem LI.next {s t l9:ByteArray}{wB W2 w5 w6:World}{v v6:Value}{dn:List (List UInt8)}{H:List Hd}{ws:List ByteArray}{o:Nat}(HR:RS s wB W2 t v dn H)
  (HKX:∀k (hk:k<H.length) x,H[k].p=some x→wB.heap.size+2≤x.block) (ho:Lib.indexByte t.data.toList 10=(o:Int)) (hsz:t.size≤16384) (hpz:wB.heap.size+2≤W2.heap.size)
  (hws:ws.map (·.data.toList)=Wo.pcs 32 [] l9.data.toList) (HL9:l9.data.toList=(t.data.toList.take o).takeWhile (· != 35)) (hR5:Recs SB w5 (some ⟨W2.heap.size,0,none⟩) (ws.filter neB))
  (hb25:Below W2.heap.size W2 w5) (h45:W2.heap.size+1≤w5.heap.size) (HA6:Appends w5 w6 (wB.heap.size+2) (w5.heap.size+1) v v6)
  (HO6:OwnR SH w6 48 (wB.heap.size+2) v6 (H ++ [⟨some ⟨W2.heap.size,0,none⟩,(ws.filter neB).length,ws.length⟩])) (hf6:w6.frozen? ⟨wB.heap.size,0,none⟩=false) (hc6:w6.cell? ⟨wB.heap.size,0,none⟩=some v) :
  LI s wB (restOf t o) (w6.setCell ⟨wB.heap.size,0,none⟩ v6):=by
 have hfl:(ws.filter neB).length≤ws.length:=List.length_filter_le _ _;have hwd:=words_of ws (t.data.toList.take o) (by rw[hws,HL9]);have hrest:(restOf t o).data.toList=t.data.toList.drop (o+1):=by
  unfold restOf;rw[Lib.extract_data,List.take_of_length_le (by rw[List.length_drop,size_len];exact Nat.le_refl _)]
 have hB6:Below wB.heap.size wB w6:=HR.below.trans ((hb25.mono HR.below.size).trans (HA6.below.mono (by omega)));have N:=HR.next (t2:=restOf t o) ho hrest hb25 hwd ⟨rfl,hR5,(fun h=>by cases h),hfl⟩ (fun x e=>by cases e;exact⟨Nat.le_refl _,by show W2.heap.size<_;omega⟩) (Nat.le_succ _) (HO6.mono (by omega)) HA6 hB6;have hne6:v6.ownBlock≠some wB.heap.size:=fun e=>by have:=(HO6.lt e).1;omega
 have hk6:∀k (hk:k<(H ++ [(⟨some ⟨W2.heap.size,0,none⟩,(ws.filter neB).length,ws.length⟩:Hd)]).length) x,(H ++ [(⟨some ⟨W2.heap.size,0,none⟩,(ws.filter neB).length,ws.length⟩:Hd)])[k].p=some x→wB.heap.size+2≤x.block:=by
  intro k hk x e
  by_cases hlt:k<H.length
  ·rw[List.getElem_append_left hlt]at e
   exact HKX k hlt x e
  ·rw[List.getElem_append_right (by omega)]at e
   simp only[List.getElem_singleton]at e
   cases e
   exact hpz
 refine⟨⟨v6,_,_,N.world (N.own.setOther hne6 v6) (by rw[setCell_size];exact Nat.le_refl _) (fun k hk2 L h=>h.aside fun x e=>by have:=hk6 k hk2 x e;omega) (hB6.setCell (p:=⟨wB.heap.size,0,none⟩) mle v6),HO6.setOther hne6 v6,hk6,World.cell?_setCell_same' _ _ _ (by rw[hc6];rfl)⟩,by rw[World.frozen?_setCell];exact hf6,?_,?_⟩
 ·have h1:=size_len (restOf t o)
  rw[hrest,List.length_drop,size_len]at h1;omega
 ·rw[setCell_size]
  have h1:=hb25.size;have h2:=HA6.size;omega
theorem LI.fin {s:ByteArray}{w wB W:World}{t:ByteArray}{v:Value}(h:LI s wB t W)(hc:W.cell? ⟨wB.heap.size,0,none⟩=some v)(ht:t.data.toList = [])(hok:Wo.sErr s.data.toList=0)(hb:Below w.heap.size w wB) :
  SplitGive s w (.returned (.tuple #[v,I O 0])) W:=by
 obtain⟨⟨v2,dn,H,hr,hO,hk,hc2⟩,hf,hs2,hp⟩:=h;rw[hc]at hc2
 cases hc2
 obtain⟨p,c,rfl,hn, -, -, -,hrec⟩:=hr.own.cut rfl;have e1:Wo.lns s.data.toList=dn:=by rw[hr.ln,ht];simp[show Wo.lns []=[] from rfl]
 have e2:sLines s=dn.map fun l=>(Wo.wds l).map bs:=by unfold sLines Wo.sList;rw[if_pos hok,e1,List.map_map];rfl
 have e3:(sLines s).length=H.length:=by rw[e2,List.length_map,hr.hl]
 refine⟨p,c,by rw[e3,hok],⟨H,e3.symm,hrec,fun k hk hk' => ?_⟩,fun h=>(hn h).1,hb.trans (hr.below.mono hb.size)⟩
 have:=hr.rows k hk (by rw[← hr.hl];exact hk)
 simpa [e2] using this
theorem split_good (s:ByteArray)(w:World)(hE:Env w)(hs:s.size≤16384)(hc4:¬400<s.data.toList.count 10)(hse:¬s.toList = [])(hla:s.data.toList.getLast?=some 10)
  (hpl:s.data.toList.all Wo.plainB=true):Calls Tryz.prog 40 #[.string s] w (SplitGive s w):=by
 have g1:¬(16384:Int)<(s.size:Int):=by omega
 have C1:=mh (fun (W:World)=>Tryz.strings_Count_one s 10 W);obtain⟨cn,ecn⟩:∃n:Nat,Lib.countByte s.data.toList 10=n:=⟨_,rfl⟩;have ecn' : s.data.toList.count 10=cn:=ecn;rw[ecn]at C1;have g2:¬(400:Int)<(cn:Int):=by omega
 have h1:s.toList.isEmpty=false:=by cases h:s.toList with|nil=>exact absurd h hse|cons a b=>rfl
 have C2:=mh (fun (W:World)=>Tryz.strings_HasSuffix s ⟨#[10]⟩ W (by omega));have e2:Lib.hasSuffix s.data.toList (⟨#[10]⟩:ByteArray).data.toList=true:=by
  show Lib.hasSuffix s.data.toList [10]=true
  unfold Lib.hasSuffix;rw[List.isSuffixOf_iff_suffix];obtain⟨i,hi⟩:=List.getLast?_eq_some_iff.1 hla;rw[hi];exact List.suffix_append _ _
 rw[e2]at C2;have C3:=mh (fun (W:World)=>notplain_any s W);rw[hpl,Bool.not_true]at C3;have HLA:=mh hla;have HPL:=mh hpl;have HC4:=mh hc4;have HEN:=mh hE;clear hla hpl hc4 hE e2 ecn ecn'; refine(callsIn_wide (n:=5)).1 ?_;refine callsIn_of_wp_marks Tryz.func40 rfl trivial ?_ rfl;simp only[Tryz.ntmps40,List.size_toArray,List.length_cons,List.length_nil,Nat.reduceAdd,Nat.reduceSub,Array.replicate_succ,Array.replicate_zero,List.push_toArray,List.append_toArray,List.nil_append,List.cons_append]
 gi_wp2_with (first
  | (refine⟨trivial,?_⟩;gi_at_call 47;refine(callsIn_wide.2 (C1.out _)).mono ?_;rintro e w1 ⟨rfl,hw⟩;obtain rfl:=hw.symm)
  | (refine⟨trivial,?_⟩;gi_at_call 68;refine(callsIn_wide.2 (C2.out _)).mono ?_;rintro e w1 ⟨rfl,hw⟩;obtain rfl:=hw.symm)
  | (refine⟨trivial,?_⟩;gi_at_call 69;refine(callsIn_wide.2 (C3.out _)).mono ?_;rintro e wB ⟨rfl,hb⟩)
  | (refine⟨trivial,?_⟩;gi_at_call 72;refine(callsIn_wide.2 (lines_any s _)).mono ?_;rintro e w3 ⟨rfl,hw3⟩))
 have hz0:((wB.alloc (.cells #[.slice none 0 0] 65)).alloc (.cells #[.string s] 9)).heap.size=wB.heap.size+2:=by rw[World.size_alloc,World.size_alloc]
 have hE2:=mh (HEN.out.below hb);refine wpIn_lines (n:=5) (by omega) (wB.heap.size+1) s rfl rfl (by rw[hz0];omega) ?hc ?hf (LI s wB) (by rw[hz0];exact LI.own) (fun _ _ h=>h.drew) (fun _ _ v h=>h.set v) (fun t W h=>⟨h.sz,?hnl⟩) ?h0
  (fun x=>{ tmps:=#[.string s,undef,.slice none 0 0,I O 0,.pointer (some ⟨wB.heap.size,0,none⟩),.string x,.string s,I O (s.size:Int),.bool false,.bool false,.string s,I O (cn:Int),.bool (decide ((400:Int)<(cn:Int))),.bool (decide ((400:Int)<(cn:Int))),.string s,.bool true,.bool true,.string s,.bool true,.bool false,.bool false,.bool false,.string s,.bool false,.bool false,.string s,.func (.func 103) #[] #[.pointer (some ⟨wB.heap.size+1,0,none⟩)],.string x,undef,undef,undef,undef,undef,undef,undef,undef,undef,undef,undef,undef,undef,undef],defers := [] }) ?assign ?body ?done
 case hc=>rw[← World.size_alloc wB (.cells #[.slice none 0 0] 65)];exact(box_new _ _ _).1
 case hf=>rw[← World.size_alloc wB (.cells #[.slice none 0 0] 65)];exact(box_new _ _ _).2
 case hnl =>
  obtain⟨v,dn,H,hr, -⟩:=h.st;exact hr.nl
 case h0 =>
  have hcn:=box_new wB (.slice none 0 0) 65;have hb0:Below wB.heap.size wB ((wB.alloc (.cells #[.slice none 0 0] 65)).alloc (.cells #[.string s] 9)):=((brf _ wB).alloc mle _).alloc (by simp) _;exact⟨⟨_, [], [],⟨rfl,.inr HLA.out,OwnR.nil _ _ _,rfl,fun k hk=>by simp at hk,fun k hk=>by simp at hk,hb0⟩,OwnR.nil _ _ _,fun k hk=>by simp at hk,(Below.cell (((brf _ _).alloc mle _):Below (wB.alloc (.cells #[.slice none 0 0] 65)).heap.size _ _) (p:=⟨wB.heap.size,0,none⟩) (by simp)).trans hcn.1⟩,(Below.frozen (((brf _ _).alloc mle _):Below (wB.alloc (.cells #[.slice none 0 0] 65)).heap.size _ _) (p:=⟨wB.heap.size,0,none⟩) (by simp)).trans hcn.2,hs,by rw[hz0];omega⟩
 case assign =>
  intro l x W K hK
  gi_wp2
  exact hK
 case body =>
  rintro l t o W hI ho hol hcb hfb;have HI:=mh hI;have hEW:Env W:=by
   obtain⟨v,dn,H,hr, -⟩:=hI.st;exact hE2.out.below hr.below
  have T1:=mh (trim_any t o ho hol hI.sz W);have HW:=mh hEW;have HO:=mh ho;clear hI hEW ho
  gi_wp2_with (first
   | (refine⟨trivial,?_⟩;gi_at_call 74;refine(CallsIn.inRound l (callsIn_wide.2 T1.out)).mono ?_;rintro e w1 ⟨⟨l0,hl0,hz1,rfl⟩,hw⟩;obtain rfl:=hw.symm;clear T1)
   | (refine⟨trivial,?_⟩;gi_at_call 73;refine(CallsIn.inRound l (callsIn_wide.2 (cut35_any l0 hz1 _ HW.out))).mono ?_;rintro e w2 ⟨⟨l9,cx,cy,hl9,hz9,rfl⟩,q,hq⟩))
  have HI2:=mh (show LI s wB t (W.drewN q) from LI.own t W _ none HI.out ⟨rfl,rfl,rfl,Nat.le_refl _,fun _ _ _=>rfl⟩ (fun r e=>by cases e));have HE3:=mh (show Env (W.drewN q) from HW.out.below ⟨rfl,rfl,rfl,Nat.le_refl _,fun _ _=>rfl⟩);have HK0:=mh (show KeepsOthers W (W.drewN q) from⟨Nat.le_refl _,fun _ _ h _=>h⟩);have hcb2:(W.drewN q).cell? ⟨wB.heap.size+1,0,none⟩=some (.string (restOf t o)):=hcb;have hfb2:(W.drewN q).frozen? ⟨wB.heap.size+1,0,none⟩=false:=hfb;clear hcb hfb hq;obtain⟨W2,eW2⟩:∃V:World,W.drewN q=V:=⟨_,rfl⟩;rw[eW2]at HI2 HE3 HK0 hcb2 hfb2 ⊢;clear eW2;obtain⟨v,dn,H,hr,hOw,hk,hcv⟩:=HI2.out.st;have hfv:=HI2.out.fz;have hpz:=HI2.out.hp;have HR:=mh hr;have HOW:=mh hOw;have HKX:=mh hk;have HL9:=mh (show l9.data.toList=(t.data.toList.take o).takeWhile (· != 35) by rw[hl9,hl0]);clear hr hOw hk hl9 hl0;have HSP:=mh (split32_any l9 W2.drew (HE3.out.below ⟨rfl,rfl,rfl,Nat.le_refl _,fun _ _=>rfl⟩) (by omega));have hszd:W2.drew.heap.size=W2.heap.size:=rfl;have hcvd:W2.drew.cell? ⟨wB.heap.size,0,none⟩=some v:=hcv;have hmx:Tryz.prog.follows .mixedOrders=true:=by kernel_rfl
  have HSQ:=mh (show Calls Tryz.prog 76 #[.string l9,.string ⟨#[32]⟩] W2.drew (SpGive l9 W2 wB v) from HSP.out.mono fun e w' h=>SpGive.of h hcv (by omega));clear HSP;have hne:v.ownBlock≠some wB.heap.size:=fun e=>by have:=(HOW.out.lt e).1;omega
  have hHn:H.length<1073741824:=by
   have h1:=Wo.lns_len s.data.toList;have h2:=HR.out.hl;rw[HR.out.ln,lap,size_len]at h1;omega
  gi_region_with_o (first
   | (refine⟨trivial,?_⟩;gi_at_call 76;refine(CallsIn.inRound l (callsIn_wide.2 HSQ.out)).mono ?_;rintro e w4 ⟨ws,hws,hwl,rfl,HH4,hs4,hB4,hK4,hc4⟩)
   | (refine⟨trivial,?_⟩;gi_at_call 75;refine(CallsIn.inRound l (callsIn_wide.2 (DlGive.of (delete_any w4 W2.heap.size ws (by omega) HH4.out (frozen_lit HH4.out)) hc4 (by omega)))).mono ?_;rintro e w5 ⟨rfl,hR5,hB5,hK5,hc5,hs5⟩;obtain⟨v6,w6,hrun,hO6,hA6,hK6⟩:=app_run ⟨some ⟨W2.heap.size,0,none⟩,(ws.filter neB).length,ws.length⟩ (HOW.out.two hB4.out hB5.out) (by omega) hHn;obtain⟨g6,c6,rfl⟩:=hO6.slc;have heq6:=hA6.far wB.heap.size (by omega) hne;have hc6:=(World.cell?_of_block (a:=⟨wB.heap.size,0,none⟩) heq6).trans hc5;have hf6:=(World.frozen?_of_block (a:=⟨wB.heap.size,0,none⟩) heq6).trans (((hB4.out.trans hB5.out).frozen (p:=⟨wB.heap.size,0,none⟩) (by show wB.heap.size<W2.heap.size;omega)).trans hfv);have hc7:=(((brf w5.heap.size w5).alloc mle (.cells #[.slice (some ⟨W2.heap.size,0,none⟩) (ws.filter neB).length ws.length] 48)).cell (p:=⟨wB.heap.size,0,none⟩) (by show wB.heap.size<_;omega)).trans hc5;have HA6:=mh hA6;have HO6:=mh hO6;have HK6:=mh hK6;clear heq6 hA6 hO6 hK6))
  all_goals
   have hb25:Below W2.heap.size W2 w5:=hB4.out.trans hB5.out;have hnb:v.ownBlock≠some (wB.heap.size+1):=fun e=>by have:=(HOW.out.lt e).1;omega
   have heq7:=HA6.out.far (wB.heap.size+1) (by omega) hnb;have hcb6:=(World.cell?_of_block (a:=⟨wB.heap.size+1,0,none⟩) heq7).trans ((hb25.cell (p:=⟨wB.heap.size+1,0,none⟩) (by show wB.heap.size+1<W2.heap.size;omega)).trans hcb2);have hfb6:=(World.frozen?_of_block (a:=⟨wB.heap.size+1,0,none⟩) heq7).trans ((hb25.frozen (p:=⟨wB.heap.size+1,0,none⟩) (by show wB.heap.size+1<W2.heap.size;omega)).trans hfb2);refine⟨(((HK0.out.trans hK4.out).trans hK5.out).trans HK6.out).trans (KeepsOthers.setCell _ _ _),LI.next HR.out HKX.out HO.out HI.out.sz hpz hws HL9.out hR5.out hb25 (by omega) HA6.out HO6.out hf6 hc6,?_,?_⟩
   ·exact(World.cell?_of_block (a:=⟨wB.heap.size+1,0,none⟩) (setCell_block _ _ _ _ _ (by show wB.heap.size+1≠wB.heap.size;omega))).trans hcb6
   ·rw[World.frozen?_setCell];exact hfb6
 case done =>
  rintro D t W hD ht hI hK;obtain⟨v,dn,H,hr,hO,hk,hc⟩:=hI.st
  have hok:Wo.sErr s.data.toList=0:=sErr_ok (by rw[size_len];have:=HC4.out;omega) (by
   rintro (⟨-,h⟩|h)
   ·exact h HLA.out
   ·rw[HPL.out]at h;cases h)
  have hg2:=grownBy_putObj' W D (.deferred none);have hr2:∀r,some D=some r→∃o:Obj,W.heap[r]?=some o∧o.isCells=false:=fun r e=>by cases e;exact⟨_,hK,rfl⟩
  have HF:=mh (LI.fin (LI.own.putObj (.deferred none) hI (by rw[hz0]at hD;exact hD) hK rfl) (cell_kept hc hg2 hr2) ht hok hb);clear hok hr hO hk hI ht hg2 hr2
  gi_wp2
  refine⟨by simp,.inl ⟨_,_,rfl,run_takeDeferred hK,?_⟩⟩
  exact⟨_,results_tmp2 (t:=2) (u:=3) rfl _ _ _,HF.out⟩
attribute [local go_sem] Oper.semAt_some
attribute [-go_sem] Builtin.append_
theorem split_empty (s:ByteArray)(w:World)(hE:Env w)(hs:s.size≤16384)(hc4:¬400<s.data.toList.count 10)(hse:s.toList = []):Calls Tryz.prog 40 #[.string s] w (SplitGive s w):=by
 have g1:¬(16384:Int)<(s.size:Int):=by omega
 have C1:=mh (fun (W:World)=>Tryz.strings_Count_one s 10 W);obtain⟨cn,ecn⟩:∃n:Nat,Lib.countByte s.data.toList 10=n:=⟨_,rfl⟩;have ecn' : s.data.toList.count 10=cn:=ecn;rw[ecn]at C1;have g2:¬(400:Int)<(cn:Int):=by omega
 have h1:s.toList.isEmpty=true:=by rw[hse];rfl
 have hd0:s.data.toList = []:=by rw[← ByteArray.toList_eq];exact hse
 have hpl:s.data.toList.all Wo.plainB=true:=by rw[hd0];rfl
 have C3:=mh (fun (W:World)=>notplain_any s W);rw[hpl,Bool.not_true]at C3;have HD0:=mh hd0;have HPL:=mh hpl;have HC4:=mh hc4;have HEN:=mh hE;clear hd0 hpl hc4 hE ecn ecn'; refine(callsIn_wide (n:=5)).1 ?_;refine callsIn_of_wp_marks Tryz.func40 rfl trivial ?_ rfl;simp only[Tryz.ntmps40,List.size_toArray,List.length_cons,List.length_nil,Nat.reduceAdd,Nat.reduceSub,Array.replicate_succ,Array.replicate_zero,List.push_toArray,List.append_toArray,List.nil_append,List.cons_append]
 gi_wp2_with (first
  | (refine⟨trivial,?_⟩;gi_at_call 47;refine(callsIn_wide.2 (C1.out _)).mono ?_;rintro e w1 ⟨rfl,hw⟩;obtain rfl:=hw.symm)
  | (fail))
 refine⟨trivial,?_⟩
 gi_wp2_with (first
  | (refine⟨trivial,?_⟩;gi_at_call 69;refine(callsIn_wide.2 (C3.out _)).mono ?_;rintro e wB ⟨rfl,hb⟩)
  | (refine⟨trivial,?_⟩;gi_at_call 72;refine(callsIn_wide.2 (lines_any s _)).mono ?_;rintro e w3 ⟨rfl,hw3⟩))
 have hz0:((wB.alloc (.cells #[.slice none 0 0] 65)).alloc (.cells #[.string s] 9)).heap.size=wB.heap.size+2:=by rw[World.size_alloc,World.size_alloc]
 have hE2:=mh (HEN.out.below hb);refine wpIn_lines (n:=5) (by omega) (wB.heap.size+1) s rfl rfl (by rw[hz0];omega) ?hc ?hf (LI s wB) (by rw[hz0];exact LI.own) (fun _ _ h=>h.drew) (fun _ _ v h=>h.set v) (fun t W h=>⟨h.sz,?hnl⟩) ?h0
  (fun x=>{ tmps:=#[.string s,undef,.slice none 0 0,I O 0,.pointer (some ⟨wB.heap.size,0,none⟩),.string x,.string s,I O (s.size:Int),.bool false,.bool false,.string s,I O (cn:Int),.bool (decide ((400:Int)<(cn:Int))),.bool (decide ((400:Int)<(cn:Int))),.string s,.bool false,.bool false,undef,undef,undef,.bool false,.bool false,.string s,.bool false,.bool false,.string s,.func (.func 103) #[] #[.pointer (some ⟨wB.heap.size+1,0,none⟩)],.string x,undef,undef,undef,undef,undef,undef,undef,undef,undef,undef,undef,undef,undef,undef],defers := [] }) ?assign ?body ?done
 case hc=>rw[← World.size_alloc wB (.cells #[.slice none 0 0] 65)];exact(box_new _ _ _).1
 case hf=>rw[← World.size_alloc wB (.cells #[.slice none 0 0] 65)];exact(box_new _ _ _).2
 case hnl =>
  obtain⟨v,dn,H,hr, -⟩:=h.st;exact hr.nl
 case h0 =>
  have hcn:=box_new wB (.slice none 0 0) 65;have hb0:Below wB.heap.size wB ((wB.alloc (.cells #[.slice none 0 0] 65)).alloc (.cells #[.string s] 9)):=((brf _ wB).alloc mle _).alloc (by simp) _;exact⟨⟨_, [], [],⟨rfl,.inl HD0.out,OwnR.nil _ _ _,rfl,fun k hk=>by simp at hk,fun k hk=>by simp at hk,hb0⟩,OwnR.nil _ _ _,fun k hk=>by simp at hk,(Below.cell (((brf _ _).alloc mle _):Below (wB.alloc (.cells #[.slice none 0 0] 65)).heap.size _ _) (p:=⟨wB.heap.size,0,none⟩) (by simp)).trans hcn.1⟩,(Below.frozen (((brf _ _).alloc mle _):Below (wB.alloc (.cells #[.slice none 0 0] 65)).heap.size _ _) (p:=⟨wB.heap.size,0,none⟩) (by simp)).trans hcn.2,hs,by rw[hz0];omega⟩
 case assign =>
  intro l x W K hK
  gi_wp2
  exact hK
 case body =>
  rintro l t o W hI ho hol hcb hfb;have HI:=mh hI;have hEW:Env W:=by
   obtain⟨v,dn,H,hr, -⟩:=hI.st;exact hE2.out.below hr.below
  have T1:=mh (trim_any t o ho hol hI.sz W);have HW:=mh hEW;have HO:=mh ho;clear hI hEW ho
  gi_wp2_with (first
   | (refine⟨trivial,?_⟩;gi_at_call 74;refine(CallsIn.inRound l (callsIn_wide.2 T1.out)).mono ?_;rintro e w1 ⟨⟨l0,hl0,hz1,rfl⟩,hw⟩;obtain rfl:=hw.symm;clear T1)
   | (refine⟨trivial,?_⟩;gi_at_call 73;refine(CallsIn.inRound l (callsIn_wide.2 (cut35_any l0 hz1 _ HW.out))).mono ?_;rintro e w2 ⟨⟨l9,cx,cy,hl9,hz9,rfl⟩,q,hq⟩))
  have HI2:=mh (show LI s wB t (W.drewN q) from LI.own t W _ none HI.out ⟨rfl,rfl,rfl,Nat.le_refl _,fun _ _ _=>rfl⟩ (fun r e=>by cases e));have HE3:=mh (show Env (W.drewN q) from HW.out.below ⟨rfl,rfl,rfl,Nat.le_refl _,fun _ _=>rfl⟩);have HK0:=mh (show KeepsOthers W (W.drewN q) from⟨Nat.le_refl _,fun _ _ h _=>h⟩);have hcb2:(W.drewN q).cell? ⟨wB.heap.size+1,0,none⟩=some (.string (restOf t o)):=hcb;have hfb2:(W.drewN q).frozen? ⟨wB.heap.size+1,0,none⟩=false:=hfb;clear hcb hfb hq;obtain⟨W2,eW2⟩:∃V:World,W.drewN q=V:=⟨_,rfl⟩;rw[eW2]at HI2 HE3 HK0 hcb2 hfb2 ⊢;clear eW2;obtain⟨v,dn,H,hr,hOw,hk,hcv⟩:=HI2.out.st;have hfv:=HI2.out.fz;have hpz:=HI2.out.hp;have HR:=mh hr;have HOW:=mh hOw;have HKX:=mh hk;have HL9:=mh (show l9.data.toList=(t.data.toList.take o).takeWhile (· != 35) by rw[hl9,hl0]);clear hr hOw hk hl9 hl0;have HSP:=mh (split32_any l9 W2.drew (HE3.out.below ⟨rfl,rfl,rfl,Nat.le_refl _,fun _ _=>rfl⟩) (by omega));have hszd:W2.drew.heap.size=W2.heap.size:=rfl;have hcvd:W2.drew.cell? ⟨wB.heap.size,0,none⟩=some v:=hcv;have hmx:Tryz.prog.follows .mixedOrders=true:=by kernel_rfl
  have HSQ:=mh (show Calls Tryz.prog 76 #[.string l9,.string ⟨#[32]⟩] W2.drew (SpGive l9 W2 wB v) from HSP.out.mono fun e w' h=>SpGive.of h hcv (by omega));clear HSP;have hne:v.ownBlock≠some wB.heap.size:=fun e=>by have:=(HOW.out.lt e).1;omega
  have hHn:H.length<1073741824:=by
   have h1:=Wo.lns_len s.data.toList;have h2:=HR.out.hl;rw[HR.out.ln,lap,size_len]at h1;omega
  gi_region_with_o (first
   | (refine⟨trivial,?_⟩;gi_at_call 76;refine(CallsIn.inRound l (callsIn_wide.2 HSQ.out)).mono ?_;rintro e w4 ⟨ws,hws,hwl,rfl,HH4,hs4,hB4,hK4,hc4⟩)
   | (refine⟨trivial,?_⟩;gi_at_call 75;refine(CallsIn.inRound l (callsIn_wide.2 (DlGive.of (delete_any w4 W2.heap.size ws (by omega) HH4.out (frozen_lit HH4.out)) hc4 (by omega)))).mono ?_;rintro e w5 ⟨rfl,hR5,hB5,hK5,hc5,hs5⟩;obtain⟨v6,w6,hrun,hO6,hA6,hK6⟩:=app_run ⟨some ⟨W2.heap.size,0,none⟩,(ws.filter neB).length,ws.length⟩ (HOW.out.two hB4.out hB5.out) (by omega) hHn;obtain⟨g6,c6,rfl⟩:=hO6.slc;have heq6:=hA6.far wB.heap.size (by omega) hne;have hc6:=(World.cell?_of_block (a:=⟨wB.heap.size,0,none⟩) heq6).trans hc5;have hf6:=(World.frozen?_of_block (a:=⟨wB.heap.size,0,none⟩) heq6).trans (((hB4.out.trans hB5.out).frozen (p:=⟨wB.heap.size,0,none⟩) (by show wB.heap.size<W2.heap.size;omega)).trans hfv);have hc7:=(((brf w5.heap.size w5).alloc mle (.cells #[.slice (some ⟨W2.heap.size,0,none⟩) (ws.filter neB).length ws.length] 48)).cell (p:=⟨wB.heap.size,0,none⟩) (by show wB.heap.size<_;omega)).trans hc5;have HA6:=mh hA6;have HO6:=mh hO6;have HK6:=mh hK6;clear heq6 hA6 hO6 hK6))
  all_goals
   have hb25:Below W2.heap.size W2 w5:=hB4.out.trans hB5.out;have hnb:v.ownBlock≠some (wB.heap.size+1):=fun e=>by have:=(HOW.out.lt e).1;omega
   have heq7:=HA6.out.far (wB.heap.size+1) (by omega) hnb;have hcb6:=(World.cell?_of_block (a:=⟨wB.heap.size+1,0,none⟩) heq7).trans ((hb25.cell (p:=⟨wB.heap.size+1,0,none⟩) (by show wB.heap.size+1<W2.heap.size;omega)).trans hcb2);have hfb6:=(World.frozen?_of_block (a:=⟨wB.heap.size+1,0,none⟩) heq7).trans ((hb25.frozen (p:=⟨wB.heap.size+1,0,none⟩) (by show wB.heap.size+1<W2.heap.size;omega)).trans hfb2);refine⟨(((HK0.out.trans hK4.out).trans hK5.out).trans HK6.out).trans (KeepsOthers.setCell _ _ _),LI.next HR.out HKX.out HO.out HI.out.sz hpz hws HL9.out hR5.out hb25 (by omega) HA6.out HO6.out hf6 hc6,?_,?_⟩
   ·exact(World.cell?_of_block (a:=⟨wB.heap.size+1,0,none⟩) (setCell_block _ _ _ _ _ (by show wB.heap.size+1≠wB.heap.size;omega))).trans hcb6
   ·rw[World.frozen?_setCell];exact hfb6
 case done =>
  rintro D t W hD ht hI hK;obtain⟨v,dn,H,hr,hO,hk,hc⟩:=hI.st
  have hok:Wo.sErr s.data.toList=0:=sErr_ok (by rw[size_len];have:=HC4.out;omega) (by
   rintro (⟨h, -⟩|h)
   ·exact h HD0.out
   ·rw[HPL.out]at h;cases h)
  have hg2:=grownBy_putObj' W D (.deferred none);have hr2:∀r,some D=some r→∃o:Obj,W.heap[r]?=some o∧o.isCells=false:=fun r e=>by cases e;exact⟨_,hK,rfl⟩
  have HF:=mh (LI.fin (LI.own.putObj (.deferred none) hI (by rw[hz0]at hD;exact hD) hK rfl) (cell_kept hc hg2 hr2) ht hok hb);clear hok hr hO hk hI ht hg2 hr2
  gi_wp2
  refine⟨by simp,.inl ⟨_,_,rfl,run_takeDeferred hK,?_⟩⟩
  exact⟨_,results_tmp2 (t:=2) (u:=3) rfl _ _ _,HF.out⟩
theorem split_any (s:ByteArray)(w:World)(hE:Env w)(hs:s.size≤9223372036854775807):Calls Tryz.prog 40 #[.string s] w (SplitGive s w):=by
 have hlen:=size_len s
 by_cases h1:16384<s.size
 ·have HF:=mh (split_bad (sErr_long (l:=s.data.toList) (.inl (by omega))) (by decide) w w (brf _ _))
  have h1' : (16384:Int)<(s.size:Int):=by omega
  clear h1 hlen hE
  go_enter Tryz.func40,Tryz.ntmps40
  go_wp2
  go_ret2
  exact HF.out
 have g1:¬(16384:Int)<(s.size:Int):=by omega
 have C1:=mh (fun (W:World)=>Tryz.strings_Count_one s 10 W);obtain⟨cn,ecn⟩:∃n:Nat,Lib.countByte s.data.toList 10=n:=⟨_,rfl⟩;rw[ecn]at C1;have ecn' : s.data.toList.count 10=cn:=ecn
 by_cases h2:400<cn
 ·have HF:=mh (split_bad (sErr_long (l:=s.data.toList) (.inr (by rw[ecn'];omega))) (by decide) w w (brf _ _))
  have h2' : (400:Int)<(cn:Int):=by omega
  clear h1 h2 hlen hE ecn ecn'
  go_enter Tryz.func40,Tryz.ntmps40
  go_wp2_with (first|(go_at_call 47;refine cmo (C1.out _) ?_;rintro e w1 ⟨rfl,hw⟩;obtain rfl:=hw.symm))
  go_ret2
  exact HF.out
 have g2:¬(400:Int)<(cn:Int):=by omega
 have hL:=mh (show ¬(16384<s.data.toList.length∨400<s.data.toList.count 10) by rw[ecn'];omega)
 by_cases hse:s.toList = []
 ·exact split_empty s w hE (by omega) (by rw[ecn'];exact h2) hse
 have h3:s.toList.isEmpty=false:=by cases h:s.toList with|nil=>exact absurd h hse|cons a b=>rfl
 have hd0:s.data.toList ≠ []:=by rw[← ByteArray.toList_eq];exact hse
 have C2:=mh (fun (W:World)=>Tryz.strings_HasSuffix s ⟨#[10]⟩ W (by omega));have e2:Lib.hasSuffix s.data.toList (⟨#[10]⟩:ByteArray).data.toList=decide (s.data.toList.getLast?=some 10):=by
  show Lib.hasSuffix s.data.toList [10]=_
  unfold Lib.hasSuffix;rw[Bool.eq_iff_iff,List.isSuffixOf_iff_suffix,decide_eq_true_eq,List.getLast?_eq_some_iff]
  constructor
  ·rintro ⟨i,hi⟩;exact⟨i,hi.symm⟩
  ·rintro ⟨i,hi⟩;exact⟨i,hi.symm⟩
 rw[e2]at C2
 by_cases hla:s.data.toList.getLast?=some 10
 ·rw[dqt hla]at C2
  have C3:=mh (fun (W:World)=>notplain_any s W)
  by_cases hpl:s.data.toList.all Wo.plainB=true
  ·exact split_good s w hE (by omega) (by rw[ecn'];exact h2) hse hla hpl
  ·have hpf:s.data.toList.all Wo.plainB=false:=by simpa using hpl
   rw[hpf,Bool.not_false]at C3;have HF:=mh (fun (w' : World) (hb:Below w.heap.size w w')=>split_bad (sErr_form hL.out (.inr hpf)) (by decide) w w' hb);clear hpl hpf hla e2 hd0 hlen h1 h2 ecn ecn' hE
   go_enter Tryz.func40,Tryz.ntmps40
   go_wp2_with (first|(go_at_call 47;refine cmo (C1.out _) ?_;rintro e w1 ⟨rfl,hw⟩;obtain rfl:=hw.symm)|(go_at_call 68;refine cmo (C2.out _) ?_;rintro e w1 ⟨rfl,hw⟩;obtain rfl:=hw.symm)|(go_at_call 69;refine cmo (C3.out _) ?_;rintro e wB ⟨rfl,hb⟩))
   go_ret2
   exact HF.out _ hb
 ·rw[dqf hla]at C2
  have HF:=mh (fun (w' : World) (hb:Below w.heap.size w w')=>split_bad (sErr_form hL.out (.inl ⟨hd0,hla⟩)) (by decide) w w' hb);clear hla e2 hd0 hlen h1 h2 ecn ecn' hE
  go_enter Tryz.func40,Tryz.ntmps40
  go_wp2_with (first|(go_at_call 47;refine cmo (C1.out _) ?_;rintro e w1 ⟨rfl,hw⟩;obtain rfl:=hw.symm)|(go_at_call 68;refine cmo (C2.out _) ?_;rintro e w1 ⟨rfl,hw⟩;obtain rfl:=hw.symm))
  go_ret2
  exact HF.out _ (brf _ _)
def JnB (LL:List (List ByteArray)) (w:World) (e:Ending) (w' : World):Prop:=∃S:ByteArray,S.data.toList=Wo.jText (lb LL)∧e = .returned (.tuple #[.string S,I O 0])∧Below w.heap.size w w'
theorem joinB (LL:List (List ByteArray))(p:Option Addr)(n c:Nat)(w:World)(hn:LL.length=n)(h:LinesAt w p LL)(hT:(Wo.jText (lb LL)).length≤1099511627776)(hz:∀ws∈LL,ws.length≤1099511627776)(h0:Wo.jErr (lb LL)=0)(ho:Wo.jOut (lb LL)=Wo.jText (lb LL)) :
  Calls Tryz.prog 34 #[.slice p n c] w (JnB LL w) :=
 (hn▸join_any LL p c w h hT hz).mono fun _ _ ⟨h1,h2⟩=>⟨⟨(Wo.jOut (lb LL)).toArray⟩,by rw[ho],by rw[h1,h0],h2⟩
theorem OwnR.stepAp {α:Type}{S:Shape α}{P:Program}{T TS:TypeId}{bytes:Nat}(he:Elem S P T TS bytes){w:World}{ops:Array Oper}{o:Oper}{a:Act}{K:Act→World→Prop}{Q:Exit→Act→World→Prop}{E:Prop}(hgd:o.guard=none)(s x:Operand)
  (ho:o.op = .call { callee := .builtin .append,args:=#[s,x],argTypes:=#[TS,TS] }) (B:Nat) (v:Value) (L M:List α) (p:Option Addr) (c n:Nat) (hM:M.length=n) (hown:OwnR S w T B v L) (hsrc:Recs S w p M) (hp:p=none→c=0) (hs:a.eval s=v)
  (hx:a.eval x = .slice p n c) (hB:B≤w.heap.size) (hn:L.length+n<1073741824) (hby:bytes≤65536)
  (h:∀v' w', OwnR S w' T B v' (L++M)→Appends w w' B w.heap.size v v' → K (a.put o.dst v') w'):if Region.wanted o (yielded ops a.tmps)=true then Oper.wp P o a w K Q else E:=by
 subst hM;have hw:Region.wanted o (yielded ops a.tmps)=true:=by simp[Region.wanted,hgd]
 rw[if_pos hw];obtain⟨i0,z,e1,e2,e3,e4,e5⟩:=he.ex;have hb2:(L.length+M.length)*bytes≤1073741824*65536:=Nat.mul_le_mul (by omega) hby
 cases p with
 | none =>
   obtain rfl:=hp rfl;have hM:M = []:=by
    rcases hsrc.2 with h|⟨b,off,h,_⟩
    ·exact h
    ·cases h
   subst hM;have hrun:=run_append_owned_none (P:=P) (w:=w) B TS o.type T i0 S.k he.ts e1 v L.length (S.flat L) hown;unfold Oper.wp
   simp[execOp,ho,resolve,invoke,builtin,hs,hx,hrun,Result.andThen]
   exact h _ _ (by rw[List.append_nil];exact hown) ⟨brf _ _,Nat.le_refl _,fun _ _ _=>rfl,.inl rfl⟩
 | some ad =>
   obtain⟨v', w', hr,h2,h3, -,h4⟩:=run_append_own_at (P:=P) w B TS o.type T i0 z S.k bytes he.ts e1 e2 e3 e4 e5 S.pos v L.length (S.flat L) hown ad M.length c (S.flat M) (S.flat_len M) (fun j u hu=>by
    rcases hsrc.2 with rfl|⟨b', off', hp', hl,hc⟩
    ·simp[Shape.flat]at hu
    ·cases hp'
     rw[Go.WideShapes.add_plain]
     exact hc j u hu) (S.flat_ones M) (by unfold maxLen;omega) (by omega) hB
   unfold Oper.wp execOp;simp only[ho,resolve,invoke,builtin,Sem.run_bind,Sem.run_pure,Result.andThen_ok,List.map_toArray,List.map_cons,List.map_nil,hs,hx,hr];refine h v' w' ?_ ⟨(brf B w).grown h3 hB fun k hk=>(World.ownsRow.lt hown k hk).1,h3.size,fun k hk hne=>h3.block k hk (fun e=>hne e.symm),h4⟩;unfold OwnR;rw[lap,S.flat_append];exact h2
structure LB (w wr:World) (v:Value) (LL:List (List ByteArray)) (H:List Hd):Prop where
 own:OwnR SH wr 48 w.heap.size v H
 hl:H.length=LL.length
 rows:∀k (hk:k<H.length) (hk' : k<LL.length),WordsAt wr H[k] LL[k]
 apart:∀k (hk:k<H.length) a,H[k].p=some a→v.ownBlock≠some a.block∧w.heap.size≤a.block∧a.block<wr.heap.size
 below:Below w.heap.size w wr
theorem LB.nil {w wr:World}(h:Below w.heap.size w wr):LB w wr (.slice none 0 0) [] [] :=
 ⟨OwnR.nil _ _ _,rfl,fun k hk=>by simp at hk,fun k hk=>by simp at hk,h⟩
theorem LB.stp {w wr w' : World}{v:Value}{LL:List (List ByteArray)}{H:List Hd}(h:LB w wr v LL H)(hb:Below wr.heap.size wr w'):LB w w' v LL H :=
 ⟨h.own.below hb,h.hl,fun k hk hk' => (h.rows k hk hk').below hb,fun k hk a e=>⟨(h.apart k hk a e).1,(h.apart k hk a e).2.1,nll (h.apart k hk a e).2.2 hb.size⟩,h.below.trans (hb.mono h.below.size)⟩
theorem LB.lines {w wr:World}{v:Value}{LL:List (List ByteArray)}{H:List Hd}(h:LB w wr v LL H){n:Nat}(hn:LL.length=n):∃p c,v = .slice p n c∧LinesAt wr p LL:=by
 obtain⟨p,c,e, -, -, -, -,hr⟩:=h.own.cut (h.hl.trans hn);exact⟨p,c,e,H,h.hl,hr,h.rows⟩
theorem LB.add {w wr w5 w6:World}{v v6:Value}{LL:List (List ByteArray)}{H:List Hd}(h:LB w wr v LL H)(hb:Below wr.heap.size wr w5)(ws:List ByteArray)(y:Hd)(hy:WordsAt w5 y ws)(hya:∀a,y.p=some a→wr.heap.size≤a.block∧a.block<w5.heap.size){G:Nat}
  (hG:w5.heap.size≤G) (hO:OwnR SH w6 48 w.heap.size v6 (H ++ [y])) (hap:Appends w5 w6 w.heap.size G v v6):LB w w6 v6 (LL ++ [ws]) (H ++ [y]):=by
 have h5:=h.stp hb;have hyv:∀a,y.p=some a→v.ownBlock≠some a.block:=fun a e e2=>by have:=(hya a e).1;have:=(h.own.lt e2).2;omega
 have hsz:=hap.size;refine⟨hO,by rw[lap,lap,h.hl];rfl,fun k hk hk' => ?_,fun k hk a e=>?_,h5.below.trans hap.below⟩
 ·by_cases hlt:k<H.length
  ·rw[List.getElem_append_left hlt,List.getElem_append_left (by rw[← h.hl];exact hlt)]
   have:=h5.rows k hlt (by rw[← h.hl];exact hlt);exact⟨this.1,this.2.1.far hap (fun a e=>(h5.apart k hlt a e).1),this.2.2⟩
  ·have e:k=H.length:=by rw[lap]at hk;simp at hk;omega
   subst e;rw[List.getElem_append_right mle,List.getElem_append_right (by rw[h.hl];exact Nat.le_refl _)];simp only[Nat.sub_self,h.hl,List.getElem_cons_zero];exact⟨hy.1,hy.2.1.far hap hyv,hy.2.2⟩
 ·have key:∀b:Nat,v.ownBlock≠some b→b<w5.heap.size→v6.ownBlock≠some b:=fun b h1 h2 e2=>by
   rcases hap.block with e3|e3
   ·rw[e3]at e2;exact h1 e2
   ·rw[e3]at e2;injection e2 with e2;omega
  by_cases hlt:k<H.length
  ·rw[List.getElem_append_left hlt]at e
   obtain⟨a1,a2,a3⟩:=h5.apart k hlt a e;exact⟨key _ a1 a3,a2,by omega⟩
  ·have e2:k=H.length:=by rw[lap]at hk;simp at hk;omega
   subst e2;rw[List.getElem_append_right mle]at e;simp only[Nat.sub_self,List.getElem_cons_zero]at e;obtain⟨a1,a2⟩:=hya a e;exact⟨key _ (hyv a e) a2,by have:=h.below.size;omega,by omega⟩
theorem bl1 {wo W:World}{o:Obj}{B:Nat}(h:Below B (wo.alloc o) W):wo.heap.size+1≤W.heap.size:=by
 have:=h.size;rw[World.size_alloc]at this;exact this
theorem Appends.cells {w w' : World}{B G:Nat}{v v' : Value}(h:Appends w w' B G v v'){b:Nat}(hb:b<w.heap.size)(hn:v.ownBlock≠some b)(i:Nat):w'.cell? ⟨b,i,none⟩=w.cell? ⟨b,i,none⟩:=by
 have:=h.far b hb hn;simp only[World.cell?,this]
theorem OwnR.away {α:Type}{S:Shape α}{w:World}{T:TypeId}{B:Nat}{v:Value}{L:List α}(h:OwnR S w T B v L){b:Nat}(hb:w.heap.size≤b):v.ownBlock≠some b:=fun e=>by have:=(h.lt e).2;omega
theorem take_map_succ {α β:Type}(f:α→β)(L:List α)(k:Nat)(h:k<L.length):(L.take (k+1)).map f=(L.take k).map f ++ [f L[k]]:=by
 rw[tsg h,List.map_append];rfl
theorem row_at (W:World)(ws:List ByteArray){n:Nat}(hn:ws.length=n)(hl:n≤1000):WordsAt (W.alloc (.cells (SB.flat ws).toArray 9)) ⟨some ⟨W.heap.size,0,none⟩,n,n⟩ ws :=
 ⟨hn.symm,Recs.lit W 9 ws (by unfold maxLen;omega),fun h=>(by cases h),Nat.le_refl _⟩
theorem row_hd {w6:World}{c:Obj}{ws:List ByteArray}{n:Nat}(h:WordsAt (w6.alloc c) ⟨some ⟨w6.heap.size,0,none⟩,n,n⟩ ws) :
  Recs SH ((w6.alloc c).alloc (.cells #[.slice (some ⟨w6.heap.size,0,none⟩) n n] 48)) (some ⟨w6.heap.size+1,0,none⟩) [(⟨some ⟨w6.heap.size,0,none⟩,n,n⟩:Hd)]∧WordsAt ((w6.alloc c).alloc (.cells #[.slice (some ⟨w6.heap.size,0,none⟩) n n] 48)) ⟨some ⟨w6.heap.size,0,none⟩,n,n⟩ ws:=by
 refine⟨?_,h.below ((brf _ _).alloc mle _)⟩
 have:=Recs.lit (S:=SH) (w6.alloc c) 48 [(⟨some ⟨w6.heap.size,0,none⟩,n,n⟩:Hd)] (by show 1≤_;unfold maxLen;omega);rw[World.size_alloc]at this;exact this
theorem row_own {α:Type}{S:Shape α}(W:World)(T:TypeId)(L:List α){n B:Nat}(hn:L.length=n)(hl:n≤1000)(hB:B≤W.heap.size):OwnR S (W.alloc (.cells (S.flat L).toArray T)) T B (.slice (some ⟨W.heap.size,0,none⟩) n n) L:=by
 subst hn;exact OwnR.of_block (cur:=(S.flat L).toArray) (by unfold BlockAt;exact heap_alloc_new W _) hB mle (by unfold maxLen;omega) (by rw[List.size_toArray,S.flat_len]) (by simp[S.flat_len,List.take_of_length_le])
theorem LB.elder {w w1 wr:World}{v:Value}{LL:List (List ByteArray)}{H:List Hd}(h:LB w1 wr v LL H)(hb:Below w.heap.size w w1):LB w wr v LL H :=
 ⟨h.own.mono hb.size,h.hl,h.rows,fun k hk a e=>⟨(h.apart k hk a e).1,Nat.le_trans hb.size (h.apart k hk a e).2.1,(h.apart k hk a e).2.2⟩,bstep mle hb h.below⟩
theorem LB.adds {w wr w5 w6:World}{v v6:Value}{LL MM:List (List ByteArray)}{H M:List Hd}(h:LB w wr v LL H)(hb:Below wr.heap.size wr w5)(hM:M.length=MM.length)(hy:∀k (hk:k<M.length) (hk' : k<MM.length),WordsAt w5 M[k] MM[k])
  (hya:∀k (hk:k<M.length) a,M[k].p=some a→wr.heap.size≤a.block∧a.block<w5.heap.size) {G:Nat} (hG:w5.heap.size≤G) (hO:OwnR SH w6 48 w.heap.size v6 (H++M)) (hap:Appends w5 w6 w.heap.size G v v6):LB w w6 v6 (LL++MM) (H++M):=by
 have h5:=h.stp hb;have hyv:∀k (hk:k<M.length) a,M[k].p=some a→v.ownBlock≠some a.block:=fun k hk a e e2=>by have:=(hya k hk a e).1;have:=(h.own.lt e2).2;omega
 have hsz:=hap.size;have key:∀b:Nat,v.ownBlock≠some b→b<w5.heap.size→v6.ownBlock≠some b:=fun b h1 h2 e2=>by
  rcases hap.block with e3|e3
  ·rw[e3]at e2;exact h1 e2
  ·rw[e3]at e2;injection e2 with e2;omega
 refine⟨hO,by rw[lap,lap,h.hl,hM],fun k hk hk' => ?_,fun k hk a e=>?_,h5.below.trans hap.below⟩
 ·by_cases hlt:k<H.length
  ·rw[List.getElem_append_left hlt,List.getElem_append_left (by rw[← h.hl];exact hlt)]
   have:=h5.rows k hlt (by rw[← h.hl];exact hlt);exact⟨this.1,this.2.1.far hap (fun a e=>(h5.apart k hlt a e).1),this.2.2⟩
  ·have hk2:k - H.length<M.length:=by rw[lap]at hk;omega
   have e1:(H++M)[k]=M[k - H.length]:=List.getElem_append_right (by omega);have e2:(LL++MM)[k]=MM[k - H.length]'(by rw[← hM];exact hk2):=by
    rw[List.getElem_append_right (by rw[← h.hl];omega)]
    congr 1
    rw[h.hl]
   rw[e1,e2];have:=hy (k - H.length) hk2 (by rw[← hM];exact hk2);exact⟨this.1,this.2.1.far hap (hyv _ hk2),this.2.2⟩
 ·by_cases hlt:k<H.length
  ·rw[List.getElem_append_left hlt]at e
   obtain⟨a1,a2,a3⟩:=h5.apart k hlt a e;exact⟨key _ a1 a3,a2,by omega⟩
  ·have hk2:k - H.length<M.length:=by rw[lap]at hk;omega
   have e1:(H++M)[k]=M[k - H.length]:=List.getElem_append_right (by omega);rw[e1]at e;obtain⟨a1,a2⟩:=hya _ hk2 a e;exact⟨key _ (hyv _ hk2 a e) a2,by have:=h.below.size;omega,by omega⟩
theorem LB.two {w w5:World}{y1 y2:Hd}{ws1 ws2:List ByteArray}(hb:Below w.heap.size w w5)(h1:WordsAt w5 y1 ws1)(h2:WordsAt w5 y2 ws2)(a1:∀a,y1.p=some a→w.heap.size≤a.block∧a.block<w5.heap.size)(a2:∀a,y2.p=some a→w.heap.size≤a.block∧a.block<w5.heap.size) :
  LB w (w5.alloc (.cells #[.slice y1.p y1.n y1.c,.slice y2.p y2.n y2.c] 48)) (.slice (some ⟨w5.heap.size,0,none⟩) 2 2) [ws1,ws2] [y1,y2]:=by
 have hB:Below w5.heap.size w5 (w5.alloc (.cells #[.slice y1.p y1.n y1.c,.slice y2.p y2.n y2.c] 48)):=(brf _ _).alloc mle _;refine⟨row_own (S:=SH) w5 48 [y1,y2] rfl (by omega) hb.size,rfl,fun k hk hk' => ?_,fun k hk a e=>?_,bstep mle hb hB⟩
 ·match k,hk with
  | 0,_=>exact h1.below hB
  | 1,_=>exact h2.below hB
 ·have hs:(w5.alloc (.cells #[.slice y1.p y1.n y1.c,.slice y2.p y2.n y2.c] 48)).heap.size=w5.heap.size+1:=World.size_alloc _ _
  have key:∀a:Addr,w.heap.size≤a.block∧a.block<w5.heap.size→(Value.slice (some ⟨w5.heap.size,0,none⟩) 2 2).ownBlock≠some a.block∧w.heap.size≤a.block∧a.block<(w5.alloc (.cells #[.slice y1.p y1.n y1.c,.slice y2.p y2.n y2.c] 48)).heap.size:=fun a ⟨x1,x2⟩ =>
   ⟨fun e=>by simp only[Value.ownBlock]at e;injection e with e;omega,x1,by omega⟩
  match k,hk with
  | 0,_=>exact key a (a1 a e)
  | 1,_=>exact key a (a2 a e)
end Go.Proofs.YtbcmabolkkfgfaaGreatDoor
