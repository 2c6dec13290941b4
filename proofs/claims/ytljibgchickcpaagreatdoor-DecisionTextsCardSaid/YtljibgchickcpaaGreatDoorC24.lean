/- Packed. -/
import Derived.Test.YtljibgchickcpaaGreatDoorC23
set_option maxRecDepth 100000
set_option maxHeartbeats 4000000
open Go.Value renaming int → I
open Go.IntKind renaming i64 → O
namespace Go.Proofs.YtljibgchickcpaaGreatDoor
open Go.RowKit Sc As Dn
theorem own_lt {α:Type}{S:Shape α}{w:World}{T:TypeId}{B:Nat}{v:Value}{L:List α}(h:OwnR S w T B v L){g:Nat}(e:v.ownBlock=some g):g<w.heap.size:=(h.lt e).2
theorem RdS.pushA {w w' : World}{t:Nat}{r:RD}{pt tot:Int}{d:Dec}{v' : Value}{y:Awd}
  (h1:Blk w t #[I O r.year,I O r.farm,I O r.ver,.slice r.ap r.an r.ac,.slice r.rp r.rn r.rc,I O pt,I O tot] 90) (h2:DO (t+1) w r d)
  (hO:OwnR SA w' 78 (t+1) v' (d.aw ++ [y])) (ap:Appends w w' (t+1) w.heap.size (.slice r.ap r.an r.ac) v') :
  RdS (w'.setCell ⟨t,3,none⟩ v') t ⟨pt,{ d with aw:=d.aw ++ [y] },tot⟩:=by
 obtain⟨p,c,rfl, -⟩:=hO.cut rfl;have hB:Blk w' t _ _:=(ap.below.block t (Nat.lt_succ_self t)).trans h1;have k:∀i,i≠t→(w'.setCell ⟨t,3,none⟩ (.slice p ↑(d.aw ++ [y]).length c)).heap[i]?=w'.heap[i]?:=fun i hi=>setCell_far _ hi _ _
 have hrs:=ap.keep h2.rs (by
  cases e:(Value.slice r.rp r.rn r.rc).ownBlock with
  | none=>exact .inl rfl
  | some g=>exact .inr fun e2=>h2.ap g e2.symm e)
 refine⟨{ r with ap:=p,an:=(d.aw ++ [y]).length,ac:=c },hB.set 3 _,⟨h2.year,h2.farm,h2.ver,hO.blocks fun i _ hb _=>k i (by omega),hrs.blocks fun i _ hb _=>k i (by omega),?_⟩⟩
 intro g hg e
 rcases ap.block with hb|hb
 ·exact h2.ap g (hb▸hg) e
 ·have h3:=own_lt h2.rs e
  rw[hb]at hg
  cases hg
  omega
theorem RdS.pushR {w w' : World}{t:Nat}{r:RD}{pt tot:Int}{d:Dec}{v' : Value}{y:Rsn}
  (h1:Blk w t #[I O r.year,I O r.farm,I O r.ver,.slice r.ap r.an r.ac,.slice r.rp r.rn r.rc,I O pt,I O tot] 90) (h2:DO (t+1) w r d)
  (hO:OwnR SRn w' 76 (t+1) v' (d.rs ++ [y])) (ap:Appends w w' (t+1) w.heap.size (.slice r.rp r.rn r.rc) v') :
  RdS ((w'.setCell ⟨t,4,none⟩ v').setCell ⟨t,5,none⟩ (I O 2)) t ⟨2,{ d with rs:=d.rs ++ [y] },tot⟩:=by
 obtain⟨p,c,rfl, -⟩:=hO.cut rfl;have hB:Blk w' t _ _:=(ap.below.block t (Nat.lt_succ_self t)).trans h1;have k:∀i,i≠t→((w'.setCell ⟨t,4,none⟩ (.slice p ↑(d.rs ++ [y]).length c)).setCell ⟨t,5,none⟩ (I O 2)).heap[i]?=w'.heap[i]?:=fun i hi=>by rw[setCell_far _ hi,setCell_far _ hi]
 have haw:=ap.keep h2.aw (by
  cases e:(Value.slice r.ap r.an r.ac).ownBlock with
  | none=>exact .inl rfl
  | some g=>exact .inr fun e2=>h2.ap g e e2.symm)
 refine⟨{ r with rp:=p,rn:=(d.rs ++ [y]).length,rc:=c },(hB.set 4 _).set 5 _,⟨h2.year,h2.farm,h2.ver,haw.blocks fun i _ hb _=>k i (by omega),hO.blocks fun i _ hb _=>k i (by omega),?_⟩⟩
 intro g hg e
 rcases ap.block with hb|hb
 ·exact h2.ap g hg (hb▸e)
 ·have h3:=own_lt h2.aw hg
  rw[hb]at e
  cases e
  omega
theorem rdaward_any (t:Nat)(s:PS)(q:Option Addr)(ws:List ByteArray)(c:Nat)(w:World)(hR:RdS w t s)(h:Recs SB w q ws)(hE:Env w)(hz:∀x∈ws,x.size≤16384)(hl:ws.length≤20000)(hal:s.d.aw.length≤100000) :
  Calls Tryz.prog 71 #[.pointer (some ⟨t,0,none⟩),.slice q ws.length c] w (StepG t (stepA s (tl ws)) w):=by
 have NU:=mh (show Calls Tryz.prog 92 #[.slice q ws.length c,I O 8] w (NumsG (tl ws) 8 w) from numbers35_any q ws c 8 w h hE hz hl);have HR:=mh hR;have htl:=hR.lt;unfold NumsG at NU;clear h hE hz
 cases hb:numsB (tl ws) 8
 ·have HN:=mh (show stepA s (tl ws)=none from by unfold stepA;rw[hb];rfl)
  rw[hb]at NU;clear hb hR hal
  go_enter Tryz.func71,Tryz.ntmps71
  go_wp2_with (go_at_call 92;(with_reducible refine cmo NU.out ?_);rintro e w1 ⟨v1,rfl, -,hb1⟩;have HB1:=mh (hb1.mono (Nat.le_of_lt htl));clear hb1)
  go_ret
  exact StepG.no HN.out HB1.out
 obtain⟨⟨pt,d,tot⟩,es⟩:∃x,s=x:=⟨_,rfl⟩;subst es;have HG:=mh (fun (v:Value) (w1:World) (h:true=true→OwnR SI w1 3 w.heap.size v ((tl ws).map nv))=>NumsG.good hb (fun _=>h rfl))
 by_cases hp:pt=1
 rotate_left
 ·have HN:=mh (show stepA ⟨pt,d,tot⟩ (tl ws)=none from by unfold stepA;rw[hb];simp[hp])
  rw[hb]at NU;have hpb:(pt != 1)=true:=bne_iff_ne.2 hp;clear hb hp hR hal
  go_enter Tryz.func71,Tryz.ntmps71
  go_wp2_with (go_at_call 92;(with_reducible refine cmo NU.out ?_);rintro e w1 ⟨v1,rfl, -,hb1⟩;obtain⟨r,hB1, -⟩:=(HR.out.below hb1).v;have c5:=hB1.cell 5;simp at c5;have hlt1:=hB1.lt;have HB1:=mh (hb1.mono (Nat.le_of_lt htl));clear hb1 hB1)
  go_ret
  exact StepG.no HN.out HB1.out
 subst hp;have HN:=mh (show stepA ⟨1,d,tot⟩ (tl ws)=some ⟨1,{ d with aw:=d.aw ++ [⟨d.farm,nvs (tl ws) 0,nvs (tl ws) 1,nvs (tl ws) 2,nvs (tl ws) 3,nvs (tl ws) 4,nvs (tl ws) 5,nvs (tl ws) 6,nvs (tl ws) 7⟩] },tot⟩ from by unfold stepA;rw[hb];rfl);have HAL:=mh (show d.aw.length≤100000 from hal);rw[hb]at NU;clear hb hR hal;obtain⟨x0,ex0⟩:∃x,nvs (tl ws) 0=x:=⟨_,rfl⟩;obtain⟨x1,ex1⟩:∃x,nvs (tl ws) 1=x:=⟨_,rfl⟩;obtain⟨x2,ex2⟩:∃x,nvs (tl ws) 2=x:=⟨_,rfl⟩;obtain⟨x3,ex3⟩:∃x,nvs (tl ws) 3=x:=⟨_,rfl⟩;obtain⟨x4,ex4⟩:∃x,nvs (tl ws) 4=x:=⟨_,rfl⟩;obtain⟨x5,ex5⟩:∃x,nvs (tl ws) 5=x:=⟨_,rfl⟩;obtain⟨x6,ex6⟩:∃x,nvs (tl ws) 6=x:=⟨_,rfl⟩;obtain⟨x7,ex7⟩:∃x,nvs (tl ws) 7=x:=⟨_,rfl⟩;rw[ex0,ex1,ex2,ex3,ex4,ex5,ex6,ex7]at HN;have EX:=mh (And.intro ex0 (And.intro ex1 (And.intro ex2 (And.intro ex3 (And.intro ex4 (And.intro ex5 (And.intro ex6 ex7)))))));clear ex0 ex1 ex2 ex3 ex4 ex5 ex6 ex7
 go_enter Tryz.func71,Tryz.ntmps71
 go_wp2_with (go_at_call 92;(with_reducible refine cmo NU.out ?_);rintro e w1 ⟨v1,rfl,ho1,hb1⟩;obtain⟨b,off,c1,rfl,hwb,hbl,hc⟩:=HG.out v1 w1 ho1;obtain⟨ex0,ex1,ex2,ex3,ex4,ex5,ex6,ex7⟩:=EX.out;have g0:=hc 0 (by omega);have g1:=hc 1 (by omega);have g2:=hc 2 (by omega);have g3:=hc 3 (by omega);have g4:=hc 4 (by omega);have g5:=hc 5 (by omega);have g6:=hc 6 (by omega);have g7:=hc 7 (by omega);rw[Nat.add_zero,ex0]at g0;rw[ex1]at g1;rw[ex2]at g2;rw[ex3]at g3;rw[ex4]at g4;rw[ex5]at g5;rw[ex6]at g6;rw[ex7]at g7;clear ex0 ex1 ex2 ex3 ex4 ex5 ex6 ex7;have HR1:=mh (HR.out.below hb1);obtain⟨r,hB0,hD0⟩:=HR.out.v;have NB:=mh (show(Value.slice r.ap r.an r.ac).ownBlock≠some b from fun e=>by have h1:=own_lt hD0.aw e;omega);have hB1:=hB0.below hb1;have hD1:=hD0.below hb1;clear hB0 hD0;have k1:=hB1.cell 1;have k3:=hB1.cell 3;have k5:=hB1.cell 5;simp at k1 k3 k5;rw[hD1.farm]at k1;have f3:=hB1.fr 3;have hlt1:=hB1.lt;have HBK:=mh hB1;have HD:=mh hD1;have HB1:=mh (hb1.mono (Nat.le_of_lt htl));have hne:b≠t:=Nat.ne_of_gt (nll htl hwb);clear hb1 hB1 hD1 hc ho1)
 have KS:=mh (show ∀W:World,W.heap[b]?=w1.heap[b]?→W.heap[t]?=w1.heap[t]?→(W.cell? ⟨b,off,none⟩=some (I O x0)∧W.cell? ⟨b,off+1,none⟩=some (I O x1)∧W.cell? ⟨b,off+2,none⟩=some (I O x2)∧W.cell? ⟨b,off+3,none⟩=some (I O x3)∧W.cell? ⟨b,off+4,none⟩=some (I O x4)∧W.cell? ⟨b,off+5,none⟩=some (I O x5)∧W.cell? ⟨b,off+6,none⟩=some (I O x6)∧W.cell? ⟨b,off+7,none⟩=some (I O x7)∧W.cell? ⟨t,1,none⟩=some (I O d.farm)∧W.cell? ⟨t,3,none⟩=some (.slice r.ap r.an r.ac)) from fun W hb2 ht2=>⟨(World.cell?_of_block (w:=w1) hb2).trans g0,(World.cell?_of_block (w:=w1) hb2).trans g1,(World.cell?_of_block (w:=w1) hb2).trans g2,(World.cell?_of_block (w:=w1) hb2).trans g3,(World.cell?_of_block (w:=w1) hb2).trans g4,(World.cell?_of_block (w:=w1) hb2).trans g5,(World.cell?_of_block (w:=w1) hb2).trans g6,(World.cell?_of_block (w:=w1) hb2).trans g7,(World.cell?_of_block (w:=w1) ht2).trans k1,(World.cell?_of_block (w:=w1) ht2).trans k3⟩);have BL:=mh (And.intro hbl hlt1);have SR:=mh (show Recs SA (w1.drew.alloc (.cells #[I O d.farm,I O x0,I O x1,I O x2,I O x3,I O x4,I O x5,I O x6,I O x7] 78)) (some ⟨w1.heap.size,0,none⟩) [⟨d.farm,x0,x1,x2,x3,x4,x5,x6,x7⟩] from Recs.lit (S:=SA) _ _ [⟨d.farm,x0,x1,x2,x3,x4,x5,x6,x7⟩] (by show 1≤_;unfold maxLen;omega));refine wp_region_K (fun w' => w'.cell? ⟨b,off,none⟩=some (I O x0)∧w'.cell? ⟨b,off+1,none⟩=some (I O x1)∧w'.cell? ⟨b,off+2,none⟩=some (I O x2)∧w'.cell? ⟨b,off+3,none⟩=some (I O x3)∧w'.cell? ⟨b,off+4,none⟩=some (I O x4)∧w'.cell? ⟨b,off+5,none⟩=some (I O x5)∧w'.cell? ⟨b,off+6,none⟩=some (I O x6)∧w'.cell? ⟨b,off+7,none⟩=some (I O x7)∧w'.cell? ⟨t,1,none⟩=some (I O d.farm)∧w'.cell? ⟨t,3,none⟩=some (.slice r.ap r.an r.ac)) 41 (by kernel_rfl) (KS.out _ rfl rfl) (fun hHeld=>?_);clear g0 g1 g2 g3 g4 g5 g6 g7 k1 k3;refine tkK 0 21 (by assumption) ?_;refine tkK 1 22 (by assumption) ?_;refine tkK 2 23 (by assumption) ?_;refine tkK 3 24 (by assumption) ?_;refine tkK 4 25 (by assumption) ?_;refine tkK 5 26 (by assumption) ?_;refine tkK 6 27 (by assumption) ?_;refine tkK 7 28 (by assumption) ?_;refine tkK 8 29 (by assumption) ?_;refine tkK 9 30 (by assumption) ?_;refine tkK 10 31 (by assumption) ?_;refine tkK 11 32 (by assumption) ?_;refine tkK 12 33 (by assumption) ?_;refine tkK 13 34 (by assumption) ?_;refine tkK 14 35 (by assumption) ?_;refine tkK 15 36 (by assumption) ?_;refine tkK 16 37 (by assumption) ?_;refine tkK 17 38 (by assumption) ?_;refine tkK 18 39 (by assumption) ?_;refine tkK 19 40 (by assumption) ?_;refine tkK 20 41 (by assumption) ?_;refine tkK 21 42 (by assumption) ?_;refine tkK 22 43 (by assumption) ?_;refine tkK 23 44 (by assumption) ?_
 refine tkK 24 45 (by assumption) ?_
 refine tkK 25 46 (by assumption) ?_
 refine tkK 26 47 (by assumption) ?_
 refine tkK 27 48 (by assumption) ?_
 refine tkK 28 49 (by assumption) ?_
 refine tkK 29 50 (by assumption) ?_
 refine tkK 30 51 (by assumption) ?_
 refine tkK 31 52 (by assumption) ?_
 refine tkK 32 53 (by assumption) ?_
 refine tkK 33 54 (by assumption) ?_
 refine tkK 34 55 (by assumption) ?_
 refine tkK 35 56 (by assumption) ?_
 refine wpAnyK_one (i:=36) (o:=⟨some 57,_,_,_,_,_⟩) (by kernel_rfl) (by kernel_rfl) rfl (fun K hK=>?_)
 go_simp
 have BA:=mh (show Below w1.heap.size w1 (w1.drew.alloc (.cells #[I O d.farm,I O x0,I O x1,I O x2,I O x3,I O x4,I O x5,I O x6,I O x7] 78)) from(brf _ _).drew.alloc mle _);have hHeld2:=KS.out _ (BA.out.block _ BL.out.1) (BA.out.block _ BL.out.2);refine hK.out _ _ hHeld2 ?_;clear hK K
 (try dsimp only[Act.put])
 try simp only[mnA,mnB,mnC]
 refine wpAnyK_one (i:=37) (o:=⟨some 58,_,_,_,_,_⟩) (by kernel_rfl) (by kernel_rfl) rfl (fun K hK=>?_)
 refine OwnR.stepAp el_awd (by rfl) (.tmp 26) (.tmp 57) (by rfl) (t+1) (.slice r.ap r.an r.ac) d.aw [⟨d.farm,x0,x1,x2,x3,x4,x5,x6,x7⟩] (some ⟨w1.heap.size,0,none⟩) 1 1 rfl (HD.out.aw.below BA.out) SR.out (fun h=>by cases h) (by rfl) (by rfl) (Nat.le_trans BL.out.2 BA.out.size) (by have:=HAL.out;simp;omega) (by decide) ?_
 intro v5 w5 hO5 hap5;have HP:=mh (RdS.pushA (HBK.out.below BA.out) (HD.out.below BA.out) hO5 hap5);have HB5:=mh (show Below t w w5 from(HB1.out.trans (BA.out.mono (Nat.le_of_lt BL.out.2))).trans (hap5.below.mono (Nat.le_succ t)));have f3' := (hap5.below.frozen (p:=⟨t,3,none⟩) (Nat.lt_succ_self t)).trans ((BA.out.frozen (p:=⟨t,3,none⟩) BL.out.2).trans f3);have hHeld3:=KS.out w5 ((hap5.far b (nll BL.out.1 BA.out.size) (NB.out)).trans (BA.out.block _ BL.out.1)) ((hap5.below.block t (Nat.lt_succ_self t)).trans (BA.out.block _ BL.out.2));have k3' := hHeld3.2.2.2.2.2.2.2.2.2;have hlt5:t<w5.heap.size:=World.block_lt_of_cell? _ _ k3'; obtain⟨p5,c5,rfl, -⟩:=hO5.cut (n:=d.aw.length+1) (by rw[lap];rfl);clear hO5 hap5 f3;refine hK.out _ _ hHeld3 ?_;clear hK K
 (try dsimp only[Act.put])
 try simp only[mnA,mnB,mnC]
 refine wpAnyK_one (i:=38) (o:=⟨some 59,_,_,_,_,_⟩) (by kernel_rfl) (by kernel_rfl) rfl (fun K hK=>?_)
 go_simp
 refine hK.out _ _ hHeld3 ?_
 clear hK K
 (try dsimp only[Act.put])
 try simp only[mnA,mnB,mnC]
 refine tkK 39 60 (by assumption) (m:=40) ?_
 refine tkK 40 61 (by assumption) ?_
 refine wpAnyK_last (o:=⟨none,_,_,_,_,_⟩) (by kernel_rfl) rfl (fun K hK=>?_)
 go_simp
 refine hK.out _ _ ?_
 clear hK K
 (try dsimp only[Act.put])
 try simp only[mnA,mnB,mnC]
 refine wpAnyH_done (by kernel_rfl) ?_ _
 clear hHeld hHeld2 hHeld3
 go_wp2
 go_ret
 exact StepG.yes HN.out HP.out (HB5.out.setCell (p:=⟨t,3,none⟩) (Nat.le_refl t) _)
def idxW (x:ByteArray):List ByteArray→Int→Int
 | [],_ => -1
 | y::l,i=>if x.data.toList=y.data.toList then i else idxW x l (i+1)
theorem idxW_cons (x y:ByteArray)(l:List ByteArray)(i:Int):idxW x (y::l) i=if x.data.toList=y.data.toList then i else idxW x l (i+1):=rfl
theorem tlb_eq (x y:ByteArray):(x.toList==y.toList)=decide (x.data.toList=y.data.toList):=by
 rw[ByteArray.toList_eq,ByteArray.toList_eq,Bool.eq_iff_iff,beq_iff_eq,decide_eq_true_eq]
theorem index35_any (q:Option Addr)(ws:List ByteArray)(n c:Nat)(x:ByteArray)(w:World)(hn:ws.length=n)(h:Recs SB w q ws)(hl:n≤20000) :
  Calls Tryz.prog 93 #[.slice q n c,.string x] w (fun e w' => e = .returned (I O (idxW x ws 0))∧w=w'):=by
 have H:=mh h;clear h
 go_enter Tryz.func93,Tryz.ntmps93
 go_wp2
 go_loopw [8] (fun iv W=>∃k:Nat,k≤n∧iv=I O (k:Int)∧idxW x (ws.drop k) (k:Int)=idxW x ws 0∧w=W) (fun iv _=>n - (intOf iv).toNat)
 case atStart=>exact⟨0,Nat.zero_le _,rfl,rfl,rfl⟩
 case round =>
  obtain⟨k,hk,rfl,hI,rfl⟩:=hrel;have HI:=mh hI;have hk0:(0:Int)≤(k:Int):=inn _
  by_cases hlt:k<n
  ·have hk1:(k:Int)<(n:Int):=by omega
   obtain⟨b,off,rfl,hbl,hc⟩:=SB_at H.out (show k<ws.length by omega);have HD:=mh (show ws.drop k=ws[k]::ws.drop (k+1) from List.drop_eq_getElem_cons (by omega));obtain⟨y,ey⟩:∃y,ws[k]=y:=⟨_,rfl⟩;rw[ey]at hc HD;clear ey hI
   cases hv:decide (x.data.toList=y.data.toList)
   ·have hne:=of_decide_eq_false hv
    have hxy:(x.toList==y.toList)=false:=by rw[tlb_eq];exact hv
    have HN:=mh (show idxW x (ws.drop (k+1)) ((k+1:Nat):Int)=idxW x ws 0 from by have:=HI.out;rw[HD.out,idxW_cons,if_neg hne]at this;push_cast;exact this);clear hv hne
    go_wp2
    go_roundw
    case rel=>exact⟨k+1,by omega,by go_num,HN.out,by first|rfl|trivial⟩
    case measure=>simp[intOf];omega
   ·have heq:=of_decide_eq_true hv
    have hxy:(x.toList==y.toList)=true:=by rw[tlb_eq];exact hv
    have HN:=mh (show(k:Int)=idxW x ws 0 from by have:=HI.out;rw[HD.out,idxW_cons,if_pos heq]at this;exact this);clear hv heq
    go_wp2
    go_ret
    exact⟨by rw[← HN.out];rfl,rfl⟩
  ·obtain rfl:k=n:=by omega
   have HN:=mh (show(-1:Int)=idxW x ws 0 from by have:=HI.out;rw[List.drop_eq_nil_of_le (by omega)]at this;exact this);clear hI
   go_wp2
   go_ret
   exact⟨by rw[← HN.out];rfl,rfl⟩
theorem below_drewN {B:Nat}{w w' : World}(h:Below B w w')(n:Nat):Below B w (w'.drewN n):=⟨h.os,h.tape,h.output,h.size,h.block⟩
def kws:List ByteArray := [⟨#[]⟩,⟨#[100,117,101]⟩,⟨#[115,101,97,115,111,110]⟩,⟨#[114,101,102,117,115,101,100]⟩,⟨#[110,111,116,104,105,110,103]⟩,⟨#[99,114,111,112]⟩,⟨#[97,114,101,97]⟩]
theorem idxW_kind (x:ByteArray):idxW x kws 0=kindI x.data.toList:=by
 unfold kws kindI;rw[idxW_cons,idxW_cons,idxW_cons,idxW_cons,idxW_cons,idxW_cons,idxW_cons]
 rfl
theorem kws_recs {W:World}{g:Nat}{T:TypeId}(h:Blk W g #[.string ⟨#[]⟩,.string ⟨#[100,117,101]⟩,.string ⟨#[115,101,97,115,111,110]⟩,.string ⟨#[114,101,102,117,115,101,100]⟩,.string ⟨#[110,111,116,104,105,110,103]⟩,.string ⟨#[99,114,111,112]⟩,.string ⟨#[97,114,101,97]⟩] T):Recs SB W (some ⟨g,0,none⟩) kws:=by
 refine⟨by show 7≤_;unfold maxLen;omega,.inr ⟨g,0,rfl,h.lt,fun j u hj=>?_⟩⟩
 have:=h.cell j;rw[Nat.zero_add,this];rw[← hj]
 match j with
 | 0=>rfl
 | 1=>rfl
 | 2=>rfl
 | 3=>rfl
 | 4=>rfl
 | 5=>rfl
 | 6=>rfl
 | j+7=>rfl
theorem rdreason_any (t:Nat)(s:PS)(q:Option Addr)(ws:List ByteArray)(n c:Nat)(w:World)(hn:ws.length=n)(hR:RdS w t s)(h:Recs SB w q ws)(hc:n≤c)(hE:Env w)(hz:∀x∈ws,x.size≤16384)(hl:n≤20000)(hrl:s.d.rs.length≤100000) :
  Calls Tryz.prog 72 #[.pointer (some ⟨t,0,none⟩),.slice q n c] w (StepG t (stepR s (tl ws)) w):=by
 have HR:=mh hR;have htl:=hR.lt;have hn0:0≤(n:Int):=inn _
 by_cases h3:n=3
 rotate_left
 ·have HN:=mh (show stepR s (tl ws)=none from by unfold stepR;rw[tl_len,dqf (by omega:¬ws.length=3)];rfl)
  have d3:((n:Int) != 3)=true:=by simp;omega
  clear h hE hz hR
  go_enter Tryz.func72,Tryz.ntmps72
  go_wp2
  go_ret
  exact StepG.no HN.out (brf _ _)
 subst h3;obtain⟨⟨pt,d,tot⟩,es⟩:∃x,s=x:=⟨_,rfl⟩;subst es
 by_cases hp:pt=1∨pt=2
 rotate_left
 ·have HN:=mh (show stepR ⟨pt,d,tot⟩ (tl ws)=none from by unfold stepR midB;rw[dqf (fun e=>hp (.inl e)),dqf (fun e=>hp (.inr e))];simp)
  have hp1:(pt != 1)=true:=bne_iff_ne.2 (fun e=>hp (.inl e));have hp2:(pt != 2)=true:=bne_iff_ne.2 (fun e=>hp (.inr e));obtain⟨r,hB1, -⟩:=hR.v;have c5:=hB1.cell 5
  simp at c5
  clear h hE hz hR hp hB1 hn hc
  go_enter Tryz.func72,Tryz.ntmps72
  go_wp2
  go_ret
  exact StepG.no HN.out (brf _ _)
 obtain⟨a,b,k,rfl⟩:∃a b k,ws = [a,b,k]:=by
  match ws,hn with
  | [a,b,k],_=>exact⟨a,b,k,rfl⟩
 have HN:=mh (show stepR ⟨pt,d,tot⟩ (tl [a,b,k])=if (numsB (tl [a,b]) 2&&decide (1≤kindI k.data.toList))=true then some ⟨2,{ d with rs:=d.rs ++ [⟨nvs (tl [a,b]) 0,nvs (tl [a,b]) 1,kindI k.data.toList⟩] },tot⟩ else none from by
  have hm:midB ⟨pt,d,tot⟩=true:=by unfold midB;rcases hp with rfl|rfl<;>rfl
  unfold stepR;rw[hm]
  rfl)
 have HT:=h.take 2;have NU:=mh (show Calls Tryz.prog 92 #[.slice q 2 c,I O 2] w (NumsG (tl [a,b]) 2 w) from numbers35_any q [a,b] c 2 w HT hE (fun x hx=>hz x (by simp at hx ⊢;rcases hx with h|h<;>simp[h])) (by simp));obtain⟨B,Ox,rfl,hBl,g2⟩:=SB_at h (show 2 < [a,b,k].length by simp);simp only[List.getElem_cons_zero,List.getElem_cons_succ]at g2;unfold NumsG at NU;have KI:=mh (idxW_kind k);rw[HN.out];have HRL:=mh (show d.rs.length≤100000 from hrl);have HG:=mh (fun (hb:numsB (tl [a,b]) 2=true) (v:Value) (w1:World) (h:true=true→OwnR SI w1 3 w.heap.size v ((tl [a,b]).map nv))=>NumsG.good hb (fun _=>h rfl));obtain⟨m,em⟩:∃m,kindI k.data.toList=m:=⟨_,rfl⟩;obtain⟨nbv,enb⟩:∃z,numsB (tl [a,b]) 2=z:=⟨_,rfl⟩;obtain⟨x0,ex0⟩:∃x,nvs (tl [a,b]) 0=x:=⟨_,rfl⟩;obtain⟨x1,ex1⟩:∃x,nvs (tl [a,b]) 1=x:=⟨_,rfl⟩;rw[em]at KI ⊢;rw[enb]at NU HG ⊢;rw[ex0,ex1];have EX:=mh (And.intro ex0 ex1);obtain⟨r,hB0,hD0⟩:=hR.v;have c5:=hB0.cell 5
 simp at c5
 have hlt0:=hB0.lt;have HB0:=mh (And.intro hB0 hD0);clear h hE hz hn HN HT hB0 hD0 hR em enb ex0 ex1 hrl
 go_enter Tryz.func72,Tryz.ntmps72
 rcases hp with rfl|rfl
 all_goals
  go_upto_region 5 with (first|(go_at_call 92;(with_reducible refine cmo NU.out ?_);rintro e w1 ⟨v1,rfl,ho1,hb1⟩;have HO1:=mh ho1;have HB1:=mh hb1;have k2:=(hb1.cell (p:=⟨B,Ox+2,none⟩) hBl).trans g2;have hBl1:=nll hBl hb1.size;clear ho1 hb1)|(go_at_call 37;(with_reducible refine cmo (kinds35_any _) ?_);rintro e w2 ⟨rfl,hb2⟩;have HB2:=mh hb2;have m2:=(hb2.cell (p:=⟨B,Ox+2,none⟩) hBl1).trans k2;have hBl2:=nll hBl1 hb2.size;clear hb2)|fail)
  have BK:=mh (show Blk (w2.alloc (.cells #[.string ⟨#[]⟩,.string ⟨#[100,117,101]⟩,.string ⟨#[115,101,97,115,111,110]⟩,.string ⟨#[114,101,102,117,115,101,100]⟩,.string ⟨#[110,111,116,104,105,110,103]⟩,.string ⟨#[99,114,111,112]⟩,.string ⟨#[97,114,101,97]⟩] 84)) w2.heap.size #[.string ⟨#[]⟩,.string ⟨#[100,117,101]⟩,.string ⟨#[115,101,97,115,111,110]⟩,.string ⟨#[114,101,102,117,115,101,100]⟩,.string ⟨#[110,111,116,104,105,110,103]⟩,.string ⟨#[99,114,111,112]⟩,.string ⟨#[97,114,101,97]⟩] 84 from Blk.new w2 #[.string ⟨#[]⟩,.string ⟨#[100,117,101]⟩,.string ⟨#[115,101,97,115,111,110]⟩,.string ⟨#[114,101,102,117,115,101,100]⟩,.string ⟨#[110,111,116,104,105,110,103]⟩,.string ⟨#[99,114,111,112]⟩,.string ⟨#[97,114,101,97]⟩] 84);have B3:=mh (show Below w2.heap.size w2 (w2.alloc (.cells #[.string ⟨#[]⟩,.string ⟨#[100,117,101]⟩,.string ⟨#[115,101,97,115,111,110]⟩,.string ⟨#[114,101,102,117,115,101,100]⟩,.string ⟨#[110,111,116,104,105,110,103]⟩,.string ⟨#[99,114,111,112]⟩,.string ⟨#[97,114,101,97]⟩] 84)) from(brf _ _).alloc mle _);have m3:=(B3.out.cell (p:=⟨B,Ox+2,none⟩) hBl2).trans m2;generalize w2.alloc (.cells #[.string ⟨#[]⟩,.string ⟨#[100,117,101]⟩,.string ⟨#[115,101,97,115,111,110]⟩,.string ⟨#[114,101,102,117,115,101,100]⟩,.string ⟨#[110,111,116,104,105,110,103]⟩,.string ⟨#[99,114,111,112]⟩,.string ⟨#[97,114,101,97]⟩] 84)=w3 at *;obtain⟨g3,eg3⟩:∃g,w2.heap.size=g:=⟨_,rfl⟩;rw[eg3]at BK ⊢;have HB3:=mh (show Below w1.heap.size w1 w3 from HB2.out.trans (B3.out.mono HB2.out.size));have HB13:=mh (show Below w.heap.size w w3 from HB1.out.trans (HB3.out.mono HB1.out.size))
  have IX:=mh (show ∀W:World,W.heap[g3]?=w3.heap[g3]?→Calls Tryz.prog 93 #[.slice (some ⟨g3,0,none⟩) 7 7,.string k] W (fun e w' => e = .returned (I O m)∧W=w') from fun W hW=>by
   have h0:=index35_any (some ⟨g3,0,none⟩) kws 7 7 k W rfl (kws_recs (T:=84) (hW.trans BK.out)) (by omega);rw[KI.out]at h0
   exact h0)
  clear m2 hBl2 eg3 B3 HB2 BK
  go_quiet ((go_at_call 93;exact Calls.quiet_of_same (Calls.turn (IX.out _ rfl))))
  obtain⟨w4,e4⟩:∃w4,w3.drewN nq=w4:=⟨_,rfl⟩;have E4:=mh (show Below w.heap.size w w4 from e4▸below_drewN HB13.out nq);rw[e4]
  cases nbv
  ·have HQ:=mh (show(if (false&&decide (1≤m))=true then (some ⟨2,{ d with rs:=d.rs ++ [⟨x0,x1,m⟩] },tot⟩:Option PS) else none)=none from rfl)
   go_wp2
   go_ret
   exact StepG.no rfl (E4.out.mono (Nat.le_of_lt htl))
  by_cases hm:m<1
  ·have HQ:=mh (show(if (true&&decide (1≤m))=true then (some ⟨2,{ d with rs:=d.rs ++ [⟨x0,x1,m⟩] },tot⟩:Option PS) else none)=none from by rw[dqf (by omega)];rfl)
   go_wp2
   go_ret
   exact StepG.no rfl (E4.out.mono (Nat.le_of_lt htl))
  have HQ:=mh (show(if (true&&decide (1≤m))=true then (some ⟨2,{ d with rs:=d.rs ++ [⟨x0,x1,m⟩] },tot⟩:Option PS) else none)=some ⟨2,{ d with rs:=d.rs ++ [⟨x0,x1,m⟩] },tot⟩ from by rw[dqt (by omega)];rfl);obtain⟨b2,off2,cc,rfl,hwb,hbl,hcn⟩:=HG.out rfl v1 w1 (fun _=>HO1.out rfl);have g0:=hcn 0 (by omega);have g1:=hcn 1 (by omega);obtain⟨ex0,ex1⟩:=EX.out;rw[Nat.add_zero,ex0]at g0;rw[ex1]at g1;clear ex0 ex1 hcn;have B14:=mh (show Below w1.heap.size w1 w4 from e4▸below_drewN HB3.out nq);have hbl4:b2<w4.heap.size:=nll hbl B14.out.size;have g0:=(B14.out.cell (p:=⟨b2,off2,none⟩) hbl).trans g0;have g1:=(B14.out.cell (p:=⟨b2,off2+1,none⟩) hbl).trans g1;have HBK:=mh (HB0.out.1.below E4.out);have HD:=mh (HB0.out.2.below E4.out);have NB:=mh (show(Value.slice r.rp r.rn r.rc).ownBlock≠some b2 from fun e=>by have h1:=own_lt HB0.out.2.rs e;omega);have k4:=HBK.out.cell 4
  simp at k4
  have f4:=HBK.out.fr 4;have k5:=HBK.out.cell 5
  simp at k5
  have f5:=HBK.out.fr 5;have hlt4:=HBK.out.lt;have HB4:=mh (E4.out.mono (Nat.le_of_lt htl));clear e4 c5 hlt0
  go_upto_region 8 with fail
  have KS:=mh (show ∀W:World,W.heap[b2]?=w4.heap[b2]?→W.heap[t]?=w4.heap[t]?→(W.cell? ⟨b2,off2,none⟩=some (I O x0)∧W.cell? ⟨b2,off2+1,none⟩=some (I O x1)∧W.cell? ⟨t,4,none⟩=some (.slice r.rp r.rn r.rc)) from fun W hb2 ht2=>⟨(World.cell?_of_block (w:=w4) hb2).trans g0,(World.cell?_of_block (w:=w4) hb2).trans g1,(World.cell?_of_block (w:=w4) ht2).trans k4⟩);have BL:=mh (And.intro hbl4 hlt4);have SR:=mh (show Recs SRn (w4.drew.alloc (.cells #[I O x0,I O x1,I O m] 76)) (some ⟨w4.heap.size,0,none⟩) [⟨x0,x1,m⟩] from Recs.lit (S:=SRn) _ _ [⟨x0,x1,m⟩] (by show 1≤_;unfold maxLen;omega));refine wp_region_K (fun w' => w'.cell? ⟨b2,off2,none⟩=some (I O x0)∧w'.cell? ⟨b2,off2+1,none⟩=some (I O x1)∧w'.cell? ⟨t,4,none⟩=some (.slice r.rp r.rn r.rc)) 20 (by kernel_rfl) (KS.out _ rfl rfl) (fun hHeld=>?_);clear g0 g1 k4;refine wpAnyK_pure (i:=1) (oi:=⟨some 45,_,_,_,_,_⟩) rfl (by kernel_rfl) (by kernel_rfl) (by kernel_rfl) (by kernel_rfl) (fun _ _ _ h=>h) (Or.inl ⟨by kernel_rfl,by intro W0 hSw;(try dsimp only at hSw);go_simp;try with_reducible rfl⟩) (by assumption) ?_;simp only[Act.put,mnA,mnB,mnC];refine tkK 0 44 (by assumption) ?_;refine tkK 2 46 (by assumption) ?_;refine tkK 3 47 (by assumption) ?_;refine tkK 4 48 (by assumption) ?_;refine tkK 5 49 (by assumption) ?_;refine tkK 6 50 (by assumption) ?_;refine tkK 7 51 (by assumption) ?_;refine tkK 8 52 (by assumption) ?_;refine tkK 9 53 (by assumption) ?_;refine tkK 10 54 (by assumption) ?_;refine tkK 11 55 (by assumption) ?_;refine tkK 12 56 (by assumption) ?_;refine tkK 13 57 (by assumption) ?_;refine tkK 14 58 (by assumption) ?_;refine wpAnyK_one (i:=15) (o:=⟨some 59,_,_,_,_,_⟩) (by kernel_rfl) (by kernel_rfl) rfl (fun K hK=>?_);go_simp;have BA:=mh (show Below w4.heap.size w4 (w4.drew.alloc (.cells #[I O x0,I O x1,I O m] 76)) from(brf _ _).drew.alloc mle _);have hHeld2:=KS.out _ (BA.out.block _ BL.out.1) (BA.out.block _ BL.out.2);refine hK.out _ _ hHeld2 ?_;clear hK K
  (try dsimp only[Act.put])
  try simp only[mnA,mnB,mnC]
  refine wpAnyK_one (i:=16) (o:=⟨some 60,_,_,_,_,_⟩) (by kernel_rfl) (by kernel_rfl) rfl (fun K hK=>?_)
  refine OwnR.stepAp el_rsn (by rfl) (.tmp 50) (.tmp 59) (by rfl) (t+1) (.slice r.rp r.rn r.rc) d.rs [⟨x0,x1,m⟩] (some ⟨w4.heap.size,0,none⟩) 1 1 rfl (HD.out.rs.below BA.out) SR.out (fun h=>by cases h) (by rfl) (by rfl) (Nat.le_trans BL.out.2 BA.out.size) (by have:=HRL.out;simp;omega) (by decide) ?_
  intro v5 w5 hO5 hap5;have HP:=mh (RdS.pushR (HBK.out.below BA.out) (HD.out.below BA.out) hO5 hap5);have HB5:=mh (show Below t w w5 from(HB4.out.trans (BA.out.mono (Nat.le_of_lt BL.out.2))).trans (hap5.below.mono (Nat.le_succ t)));have f4' := (hap5.below.frozen (p:=⟨t,4,none⟩) (Nat.lt_succ_self t)).trans ((BA.out.frozen (p:=⟨t,4,none⟩) BL.out.2).trans f4);have f5' := (hap5.below.frozen (p:=⟨t,5,none⟩) (Nat.lt_succ_self t)).trans ((BA.out.frozen (p:=⟨t,5,none⟩) BL.out.2).trans f5);have k5' := (hap5.below.cell (p:=⟨t,5,none⟩) (Nat.lt_succ_self t)).trans ((BA.out.cell (p:=⟨t,5,none⟩) BL.out.2).trans k5);have hHeld3:=KS.out w5 ((hap5.far b2 (nll BL.out.1 BA.out.size) (NB.out)).trans (BA.out.block _ BL.out.1)) ((hap5.below.block t (Nat.lt_succ_self t)).trans (BA.out.block _ BL.out.2));have k4' := hHeld3.2.2;have hlt5:t<w5.heap.size:=World.block_lt_of_cell? _ _ k4'; obtain⟨p5,c5,rfl, -⟩:=hO5.cut (n:=d.rs.length+1) (by rw[lap];rfl);clear hO5 hap5 f4 f5 k5;refine hK.out _ _ hHeld3 ?_;clear hK K
  (try dsimp only[Act.put])
  try simp only[mnA,mnB,mnC]
  refine wpAnyK_one (i:=17) (o:=⟨some 61,_,_,_,_,_⟩) (by kernel_rfl) (by kernel_rfl) rfl (fun K hK=>?_)
  go_simp
  refine hK.out _ _ hHeld3 ?_
  clear hK K
  (try dsimp only[Act.put])
  try simp only[mnA,mnB,mnC]
  refine tkK 18 62 (by assumption) (m:=19) ?_
  refine tkK 19 63 (by assumption) ?_
  refine wpAnyK_last (o:=⟨none,_,_,_,_,_⟩) (by kernel_rfl) rfl (fun K hK=>?_)
  go_simp
  refine hK.out _ _ ?_
  clear hK K
  (try dsimp only[Act.put])
  try simp only[mnA,mnB,mnC]
  refine tkH 21 64 trivial ?_
  refine tkH 22 65 trivial ?_
  refine wpAnyH_ready (rs := [23]) (by kernel_rfl) (by simp) ?_
  refine AllReadyH.cons (o:=⟨none,_,_,_,_,_⟩) rfl (fun K hK=>?_) AllReadyH.nil
  go_simp
  refine hK.out _ _ trivial (fun _=>?_)
  clear hK K
  (try dsimp only[Act.put])
  try simp only[mnA,mnB,mnC]
  refine wpAnyH_done (by kernel_rfl) ?_ _
  clear hHeld hHeld2 hHeld3
  go_wp2
  go_ret
  exact StepG.yes rfl HP.out ((HB5.out.setCell (p:=⟨t,4,none⟩) (Nat.le_refl t) _).setCell (p:=⟨t,5,none⟩) (Nat.le_refl t) _)
theorem ins_ex {P:Program}{W:World}{mty kt et:TypeId}{r clock:Nat}{es:Array MapEntry}(s:ByteArray)(val:Value)(hm:P.underlying mty=some (.map kt et))(hk:P.underlying kt=some .string)
  (hb:W.heap[r]?=some (.map es clock)) (hf:Instr.findNow .string (.string s) es.toList 0=some none) :
  ∃W', (Instr.mapUpdate mty (.map (some r)) (.string s) val).run P W = .ok () W' ∧ W'.heap[r]?=some (.map (es.push { key := .string s,val:=val,born:=clock }) (clock+1))∧Below r W W' :=by
 have hc:(Instr.checkKey false 10000 kt (.string s)).run P W = .ok () W:=MapKept.run_checkKey (k := .string s) hk (by simp[MapKept.IsKey]) false 9999;refine⟨{ W with heap:=W.heap.setIfInBounds r (.map (es.push { key := .string s,val:=val,born:=clock }) (clock+1)) },?_,(MapKept.heap_set hb).1,⟨rfl,rfl,rfl,by simp,fun i hi=>(MapKept.heap_set hb).2 i (by omega)⟩⟩
 simp[Instr.mapUpdate,run_underlying hm,MapKept.run_getObj_map hb,hc,MapKept.run_findKey hk hf,MapKept.run_setObj_map _ hb,Result.andThen]
theorem look_yes {P:Program}{W:World}{mty kt et:TypeId}{r clock i:Nat}{es:Array MapEntry}{v:Value}(s:ByteArray)(hm:P.underlying mty=some (.map kt et))(hk:P.underlying kt=some .string)
  (hb:W.heap[r]?=some (.map es clock)) (hf:Instr.findNow .string (.string s) es.toList 0=some (some (i,v))) :
  (Instr.lookup mty (.map (some r)) (.string s) true).run P W = .ok (.tuple #[v,.bool true]) W:=by
 have hc:∀e,(Instr.checkKey e 10000 kt (.string s)).run P W = .ok () W:=fun e=>MapKept.run_checkKey (k := .string s) hk (by simp[MapKept.IsKey]) e 9999
 simp[Instr.lookup,run_underlying hm,MapKept.run_getObj_map hb,hc,MapKept.run_findKey hk hf,Result.andThen]
theorem look_no {P:Program}{W:World}{mty kt et:TypeId}{r clock:Nat}{es:Array MapEntry}{z:Value}(s:ByteArray)(hm:P.underlying mty=some (.map kt et))(hk:P.underlying kt=some .string)
  (hb:W.heap[r]?=some (.map es clock)) (hf:Instr.findNow .string (.string s) es.toList 0=some none) (hz:(zeroValue et).run P W = .ok z W) :
  (Instr.lookup mty (.map (some r)) (.string s) true).run P W = .ok (.tuple #[z,.bool false]) W:=by
 have hc:∀e,(Instr.checkKey e 10000 kt (.string s)).run P W = .ok () W:=fun e=>MapKept.run_checkKey (k := .string s) hk (by simp[MapKept.IsKey]) e 9999
 simp[Instr.lookup,run_underlying hm,MapKept.run_getObj_map hb,hc,MapKept.run_findKey hk hf,Result.andThen,hz]
def kD:ByteArray:=⟨#[100,101,99,105,115,105,111,110]⟩
def kA:ByteArray:=⟨#[97,119,97,114,100]⟩
def kR:ByteArray:=⟨#[114,101,97,115,111,110]⟩
def kT:ByteArray:=⟨#[116,111,116,97,108]⟩
def fV (F t:Nat):Value := .func (.func F) #[.pointer (some ⟨t,0,none⟩)] #[]
def mE (t:Nat):Array MapEntry:=#[{ key := .string kD,val:=fV 70 t,born:=0 },{ key := .string kA,val:=fV 71 t,born:=1 },{ key := .string kR,val:=fV 72 t,born:=2 },{ key := .string kT,val:=fV 73 t,born:=3 }]
theorem beq_tl (x y:ByteArray):(x==y)=decide (x.data.toList=y.data.toList):=by
 have e:(x==y)=(x.data==y.data):=by cases x;cases y;rfl
 rw[e,Bool.eq_iff_iff,beq_iff_eq,decide_eq_true_eq];exact⟨fun h=>by rw[h],fun h=>Array.toList_inj.1 h⟩
theorem mE_fill (W:World)(t:Nat):∃W1 W2 W3 W4,
  (Instr.mapUpdate 136 (.map (some W.heap.size)) (.string kD) (fV 70 t)).run Tryz.prog (W.alloc (.map #[] 0)) = .ok () W1
  ∧ (Instr.mapUpdate 136 (.map (some W.heap.size)) (.string kA) (fV 71 t)).run Tryz.prog W1 = .ok () W2
  ∧ (Instr.mapUpdate 136 (.map (some W.heap.size)) (.string kR) (fV 72 t)).run Tryz.prog W2 = .ok () W3
  ∧ (Instr.mapUpdate 136 (.map (some W.heap.size)) (.string kT) (fV 73 t)).run Tryz.prog W3 = .ok () W4
  ∧ W4.heap[W.heap.size]?=some (.map (mE t) 4)∧Below W.heap.size W W4:=by
 have hm:=Tryz.underlying136;have hk:=Tryz.underlying9;obtain⟨W1,r1,h1,b1⟩:=ins_ex (P:=Tryz.prog) (W:=W.alloc (.map #[] 0)) (r:=W.heap.size) (clock:=0) (es:=#[]) kD (fV 70 t) hm hk (World.alloc_heap_new _ _) rfl;obtain⟨W2,r2,h2,b2⟩:=ins_ex (P:=Tryz.prog) kA (fV 71 t) hm hk h1 (by rfl);obtain⟨W3,r3,h3,b3⟩:=ins_ex (P:=Tryz.prog) kR (fV 72 t) hm hk h2 (by rfl);obtain⟨W4,r4,h4,b4⟩:=ins_ex (P:=Tryz.prog) kT (fV 73 t) hm hk h3 (by rfl);exact⟨W1,W2,W3,W4,r1,r2,r3,r4,h4,(((((brf _ _).alloc mle _).trans b1).trans b2).trans b3).trans b4⟩
def fnW (x:List UInt8):Option Nat:=if x=wDecision then some 70 else if x=wAward then some 71 else if x=wReason then some 72 else if x=wTotal then some 73 else none
theorem mE_find (t:Nat)(x:ByteArray):(fnW x.data.toList=none→Instr.findNow .string (.string x) (mE t).toList 0=some none)∧(∀F,fnW x.data.toList=some F→∃i,Instr.findNow .string (.string x) (mE t).toList 0=some (some (i,fV F t))):=by
 unfold mE fnW;simp only[Instr.findNow,Instr.sameNow,beq_tl];rw[show kD.data.toList=wDecision from rfl,show kA.data.toList=wAward from rfl,show kR.data.toList=wReason from rfl,show kT.data.toList=wTotal from rfl]
 by_cases h1:x.data.toList=wDecision
 ·rw[if_pos h1,dqt h1];exact⟨(fun h=>by cases h),(fun F h=>by cases h;exact⟨0,rfl⟩)⟩
 by_cases h2:x.data.toList=wAward
 ·rw[if_neg h1,if_pos h2,dqf h1,dqt h2];exact⟨(fun h=>by cases h),(fun F h=>by cases h;exact⟨1,rfl⟩)⟩
 by_cases h3:x.data.toList=wReason
 ·rw[if_neg h1,if_neg h2,if_pos h3,dqf h1,dqf h2,dqt h3];exact⟨(fun h=>by cases h),(fun F h=>by cases h;exact⟨2,rfl⟩)⟩
 by_cases h4:x.data.toList=wTotal
 ·rw[if_neg h1,if_neg h2,if_neg h3,if_pos h4,dqf h1,dqf h2,dqf h3,dqt h4];exact⟨(fun h=>by cases h),(fun F h=>by cases h;exact⟨3,rfl⟩)⟩
 ·rw[if_neg h1,if_neg h2,if_neg h3,if_neg h4,dqf h1,dqf h2,dqf h3,dqf h4];exact⟨(fun _=>rfl),(fun F h=>by cases h)⟩
theorem pcs_some (s:UInt8):∀(l cur:List UInt8),∃x r,Wo.pcs s cur l=x::r:=by
 intro l
 induction l with
 | nil=>intro cur;exact⟨_,_,rfl⟩
 | cons a l ih =>
   intro cur;unfold Wo.pcs
   split
   ·exact⟨_,_,rfl⟩
   ·exact ih _
theorem pcs_sub35 (s:UInt8):∀(l cur x:List UInt8),x∈Wo.pcs s cur l→x.Sublist (cur++l):=by
 intro l
 induction l with
 | nil=>intro cur x hx;unfold Wo.pcs at hx;simp at hx;rw[hx];simp
 | cons a l ih =>
   intro cur x hx;unfold Wo.pcs at hx
   split at hx
   ·rcases List.mem_cons.1 hx with rfl|h
    ·exact List.sublist_append_left _ _
    ·have:=ih [] x h
     rw[List.nil_append]at this;exact(this.trans (List.sublist_cons_self _ _)).trans (List.sublist_append_right _ _)
   ·have:=ih _ x hx
    rw[List.append_assoc]at this;exact this
theorem tl_bs (l:List (List UInt8)):tl (l.map bs)=l:=by
 unfold tl;rw[List.map_map];have:∀x∈l,((fun x:ByteArray=>x.data.toList) ∘ bs) x=x:=fun x _=>bs_list x
 rw[List.map_congr_left this,List.map_id']
theorem bs_tl (ws:List ByteArray):(tl ws).map bs=ws:=by
 unfold tl;rw[List.map_map];have:∀x∈ws,(bs ∘ fun x:ByteArray=>x.data.toList) x=x:=fun x _=>bs_back x
 rw[List.map_congr_left this,List.map_id']
theorem splitW_any (s:ByteArray)(w:World)(hE:Env w)(hs:s.size<4294967281){ws:List ByteArray}{n:Nat}(hw:ws=(Wo.pcs 32 [] s.data.toList).map bs)(hn:ws.length=n):Calls Tryz.prog 69 #[.string s,.string ⟨#[32]⟩] w (fun e w' => e = .returned (.slice (some ⟨w.heap.size,0,none⟩) n n)∧w' = w.alloc (.cells (SB.flat ws).toArray 9)) :=
 (split32_any s w hE hs).mono fun e w' ⟨ws2,h1,_,h2,h3⟩=>by
  have:ws2=ws:=by rw[hw,← h1];exact(bs_tl ws2).symm
  subst this;rw[hn]at h2;exact⟨h2,h3⟩
theorem stepW_cons (s:PS)(x:List UInt8)(l:List (List UInt8)):stepW s (x::l)=if x=wDecision then stepD s l else if x=wAward then stepA s l else if x=wReason then stepR s l else if x=wTotal then Dn.stepT s l else none:=rfl
theorem step_any (t:Nat)(s:PS)(x:ByteArray)(r:List ByteArray)(p:Option Addr)(c:Nat)(W5:World)(hR5:RdS W5 t s)(hr:Recs SB W5 p r)(hc:r.length≤c)(hE5:Env W5)(hz:∀y∈r,y.size≤16384)(hl:r.length≤20000)(hal:s.d.aw.length≤100000)(hrl:s.d.rs.length≤100000)(F:Nat)(hF:fnW x.data.toList=some F) :
  Calls Tryz.prog F #[.pointer (some ⟨t,0,none⟩),.slice p r.length c] W5 (StepG t (stepW s (tl (x::r))) W5):=by
 show Calls Tryz.prog F _ W5 (StepG t (stepW s (x.data.toList::tl r)) W5)
 unfold fnW at hF;rw[stepW_cons]
 by_cases h0:x.data.toList=wDecision
 ·rw[if_pos h0]at hF ⊢
  cases hF
  exact(rddecision_any t s p r c W5 hR5 hr hE5 hz hl)
 by_cases h1:x.data.toList=wAward
 ·rw[if_neg h0,if_pos h1]at hF ⊢
  cases hF
  exact(rdaward_any t s p r c W5 hR5 hr hE5 hz hl hal)
 by_cases h2:x.data.toList=wReason
 ·rw[if_neg h0,if_neg h1,if_pos h2]at hF ⊢
  cases hF
  exact(rdreason_any t s p r r.length c W5 rfl hR5 hr hc hE5 hz hl hrl)
 by_cases h3:x.data.toList=wTotal
 ·rw[if_neg h0,if_neg h1,if_neg h2,if_pos h3]at hF ⊢
  cases hF
  exact(rdsum_any t s p r c W5 hR5 hr hE5 hz hl)
 ·rw[if_neg h0,if_neg h1,if_neg h2,if_neg h3]at hF
  cases hF
theorem fn_none {x:List UInt8}(h:fnW x=none)(s:PS)(l:List (List UInt8)):stepW s (x::l)=none:=by
 unfold fnW at h;rw[stepW_cons]
 by_cases h0:x=wDecision
 ·rw[if_pos h0]at h;cases h
 by_cases h1:x=wAward
 ·rw[if_neg h0,if_pos h1]at h;cases h
 by_cases h2:x=wReason
 ·rw[if_neg h0,if_neg h1,if_pos h2]at h;cases h
 by_cases h3:x=wTotal
 ·rw[if_neg h0,if_neg h1,if_neg h2,if_pos h3]at h;cases h
 ·rw[if_neg h0,if_neg h1,if_neg h2,if_neg h3]
theorem fn_cases {x:List UInt8}{F:Nat}(h:fnW x=some F):F=70∨F=71∨F=72∨F=73:=by
 unfold fnW at h
 split at h
 ·cases h;exact .inl rfl
 split at h
 ·cases h;exact .inr (.inl rfl)
 split at h
 ·cases h;exact .inr (.inr (.inl rfl))
 split at h
 ·cases h;exact .inr (.inr (.inr rfl))
 ·cases h
theorem rdline_any (t:Nat)(s:PS)(one:ByteArray)(w:World)(hR:RdS w t s)(hE:Env w)(hone:one.size≤16384)(hal:s.d.aw.length≤100000)(hrl:s.d.rs.length≤100000) :
  Calls Tryz.prog 42 #[.pointer (some ⟨t,0,none⟩),.string one] w (StepG t (stepW s (Wo.pcs 32 [] one.data.toList)) w):=by
 obtain⟨x0,r0,e0⟩:=pcs_some 32 one.data.toList [];have hplen:=Wo.pcs_len 32 one.data.toList [];rw[size_len]at hplen;have hsub:=pcs_sub35 32 one.data.toList [];rw[e0]at hplen hsub;have hzz:∀y∈x0::r0,(bs y).size≤16384:=fun y hy=>by
  have:=(hsub y hy).length_le;rw[List.nil_append,size_len]at this;rw[bs_size];omega
 obtain⟨x,ex⟩:∃x,bs x0=x:=⟨_,rfl⟩;obtain⟨r,er⟩:∃r,r0.map bs=r:=⟨_,rfl⟩;obtain⟨n,hn⟩:∃n,r.length=n:=⟨_,rfl⟩;have hn2:n≤20000:=by rw[← hn,← er,List.length_map];rw[List.length_cons]at hplen;omega
 have SP:=mh (splitW_any one w hE (by omega) (ws:=x::r) (n:=n+1) (by rw[e0,← ex,← er];rfl) (by rw[List.length_cons,hn]));have hEQ:x0::r0=tl (x::r):=by rw[← ex,← er];show x0::r0=(bs x0).data.toList::tl (r0.map bs);rw[bs_list,tl_bs]
 rw[e0,hEQ];have htl:=hR.lt;have B1:Below w.heap.size w (w.alloc (.cells (SB.flat (x::r)).toArray 9)):=(brf _ _).alloc mle _;have R1:Recs SB (w.alloc (.cells (SB.flat (x::r)).toArray 9)) (some ⟨w.heap.size,0,none⟩) (x::r):=Recs.lit (S:=SB) w 9 (x::r) (by rw[List.length_cons,hn];unfold maxLen;omega);have SZ1:(w.alloc (.cells (SB.flat (x::r)).toArray 9)).heap.size=w.heap.size+1:=by simp
 have hz:∀y∈r,y.size≤16384:=fun y hy=>by
  rw[← er]at hy;obtain⟨y0,hy0,rfl⟩:=List.mem_map.1 hy;exact hzz y0 (List.mem_cons_of_mem _ hy0)
 generalize w.alloc (.cells (SB.flat (x::r)).toArray 9)=W1 at *;obtain⟨V1,V2,V3,V4,i1,i2,i3,i4,hmap,B4⟩:=mE_fill W1 t;have B5:Below w.heap.size w V4:=B1.trans (B4.mono B1.size);have R5:=R1.below B4;obtain⟨b,off,ead,hbl,hc⟩:=SB_at R1 (k:=0) (by simp)
 cases ead
 simp only[List.getElem_cons_zero,Nat.add_zero]at hc;have hc4:=(B4.cell (p:=⟨w.heap.size,0,none⟩) hbl).trans hc;have ST:=mh (fun (p:Option Addr) (c:Nat) (hr:Recs SB V4 p r) (hcc:n≤c) (F:Nat) (hF:fnW x.data.toList=some F)=>show Calls Tryz.prog F #[.pointer (some ⟨t,0,none⟩),.slice p n c] V4 (StepG t (stepW s (tl (x::r))) V4) from hn▸step_any t s x r p c V4 (hR.below B5) hr (hn▸hcc) (hE.below B5) hz (by omega) hal hrl F hF);have HB5:=mh (B5.mono (Nat.le_of_lt htl));have hm:=Tryz.underlying136;have hk:=Tryz.underlying9;have hmm := @run_makeMap Tryz.prog;have hn0:0≤(n:Int):=inn _;unfold kD at i1;unfold kA at i2;unfold kR at i3;unfold kT at i4;unfold fV at i1 i2 i3 i4;obtain⟨FND1,FND2⟩:=mE_find t x
 cases hf:fnW x.data.toList with
 | none =>
   have hlook:=look_no (P:=Tryz.prog) (z := .nilFunc) x hm hk hmap (FND1 hf) rfl;have HN:=mh (show stepW s (tl (x::r))=none from fn_none hf s (tl r));have HI:=mh (And.intro i1 (And.intro i2 (And.intro i3 i4)));clear SZ1 FND1 FND2 hm hk hR hE R5 R1 B1 B4 B5 hmap ex er hsub hzz hEQ e0 hz
   go_enter Tryz.func42,Tryz.ntmps42
   go_wp2_with (go_at_call 69;(with_reducible refine cmo SP.out ?_);rintro e w1 ⟨rfl,rfl⟩)
   go_ret
   exact StepG.no HN.out HB5.out
 | some F =>
   obtain⟨ix,hfind⟩:=FND2 F hf;have hlook:=look_yes (P:=Tryz.prog) x hm hk hmap hfind;unfold fV at hlook;have hlt:t<V4.heap.size:=nll htl B5.size
   have RD:=mh (show Recs SB V4 (some ⟨w.heap.size,1,none⟩) r from by
    have:=R5.drop 1;rw[show SB.k=1 from rfl]at this
    exact this)
   have FC:=fn_cases hf;have HF:=mh hf;clear SZ1 FND1 FND2 hm hk hR hE R5 R1 B1 B4 hmap ex er hsub hzz hEQ e0 hz hf hfind hc hbl
   by_cases h0:n=0
   ·subst h0
    have hr0:r = []:=List.length_eq_zero_iff.1 hn;subst hr0;have ST0:=mh (ST.out (some ⟨w.heap.size,0,none⟩) 0 (Recs.nil _ _) mle F HF.out);clear ST RD hn hn0 hn2
    rcases FC with rfl|rfl|rfl|rfl
    ·go_enter Tryz.func42,Tryz.ntmps42
     go_wp2_with (first|(go_at_call 69;(with_reducible refine cmo SP.out ?_);rintro e w1 ⟨rfl,rfl⟩)|(go_at_call 70;(with_reducible refine cmo ST0.out ?_);rintro e w9 ⟨rfl,hst,hb9⟩;have HST:=mh hst;have HB9:=mh hb9;clear hst hb9)|fail)
     go_ret
     exact⟨rfl,HST.out,HB5.out.trans (HB9.out)⟩
    ·go_enter Tryz.func42,Tryz.ntmps42
     go_wp2_with (first|(go_at_call 69;(with_reducible refine cmo SP.out ?_);rintro e w1 ⟨rfl,rfl⟩)|(go_at_call 71;(with_reducible refine cmo ST0.out ?_);rintro e w9 ⟨rfl,hst,hb9⟩;have HST:=mh hst;have HB9:=mh hb9;clear hst hb9)|fail)
     go_ret
     exact⟨rfl,HST.out,HB5.out.trans (HB9.out)⟩
    ·go_enter Tryz.func42,Tryz.ntmps42
     go_wp2_with (first|(go_at_call 69;(with_reducible refine cmo SP.out ?_);rintro e w1 ⟨rfl,rfl⟩)|(go_at_call 72;(with_reducible refine cmo ST0.out ?_);rintro e w9 ⟨rfl,hst,hb9⟩;have HST:=mh hst;have HB9:=mh hb9;clear hst hb9)|fail)
     go_ret
     exact⟨rfl,HST.out,HB5.out.trans (HB9.out)⟩
    ·go_enter Tryz.func42,Tryz.ntmps42
     go_wp2_with (first|(go_at_call 69;(with_reducible refine cmo SP.out ?_);rintro e w1 ⟨rfl,rfl⟩)|(go_at_call 73;(with_reducible refine cmo ST0.out ?_);rintro e w9 ⟨rfl,hst,hb9⟩;have HST:=mh hst;have HB9:=mh hb9;clear hst hb9)|fail)
     go_ret
     exact⟨rfl,HST.out,HB5.out.trans (HB9.out)⟩
   ·have hn1:0<n:=Nat.pos_of_ne_zero h0
    have hc1:1<n+1:=by omega
    have hc2:(1:Int)≤(n:Int)+1:=by omega
    have hc3:(n+1==1)=false:=beq_eq_false_iff_ne.2 (by omega);have hc5:(n==0)=false:=beq_eq_false_iff_ne.2 h0;have ST0:=mh (ST.out (some ⟨w.heap.size,1,none⟩) n RD.out mle F HF.out);clear ST RD hn hn2
    rcases FC with rfl|rfl|rfl|rfl
    ·go_enter Tryz.func42,Tryz.ntmps42
     go_wp2_with (first|(go_at_call 69;(with_reducible refine cmo SP.out ?_);rintro e w1 ⟨rfl,rfl⟩)|(go_at_call 70;(with_reducible refine cmo ST0.out ?_);rintro e w9 ⟨rfl,hst,hb9⟩;have HST:=mh hst;have HB9:=mh hb9;clear hst hb9)|fail)
     go_ret
     exact⟨rfl,HST.out,HB5.out.trans (HB9.out)⟩
    ·go_enter Tryz.func42,Tryz.ntmps42
     go_wp2_with (first|(go_at_call 69;(with_reducible refine cmo SP.out ?_);rintro e w1 ⟨rfl,rfl⟩)|(go_at_call 71;(with_reducible refine cmo ST0.out ?_);rintro e w9 ⟨rfl,hst,hb9⟩;have HST:=mh hst;have HB9:=mh hb9;clear hst hb9)|fail)
     go_ret
     exact⟨rfl,HST.out,HB5.out.trans (HB9.out)⟩
    ·go_enter Tryz.func42,Tryz.ntmps42
     go_wp2_with (first|(go_at_call 69;(with_reducible refine cmo SP.out ?_);rintro e w1 ⟨rfl,rfl⟩)|(go_at_call 72;(with_reducible refine cmo ST0.out ?_);rintro e w9 ⟨rfl,hst,hb9⟩;have HST:=mh hst;have HB9:=mh hb9;clear hst hb9)|fail)
     go_ret
     exact⟨rfl,HST.out,HB5.out.trans (HB9.out)⟩
    ·go_enter Tryz.func42,Tryz.ntmps42
     go_wp2_with (first|(go_at_call 69;(with_reducible refine cmo SP.out ?_);rintro e w1 ⟨rfl,rfl⟩)|(go_at_call 73;(with_reducible refine cmo ST0.out ?_);rintro e w9 ⟨rfl,hst,hb9⟩;have HST:=mh hst;have HB9:=mh hb9;clear hst hb9)|fail)
     go_ret
     exact⟨rfl,HST.out,HB5.out.trans (HB9.out)⟩
end Go.Proofs.YtljibgchickcpaaGreatDoor
