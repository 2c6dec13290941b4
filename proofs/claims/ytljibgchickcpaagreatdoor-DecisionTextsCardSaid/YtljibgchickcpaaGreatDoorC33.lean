/- Packed. -/
import Derived.Test.YtljibgchickcpaaGreatDoorC32
set_option maxRecDepth 100000
set_option maxHeartbeats 8000000
open Go.Value renaming int → I
open Go.IntKind renaming i64 → O
namespace Go.Proofs.YtljibgchickcpaaGreatDoor
open Go.RowKit Te Sc
section
variable {α:Type} {S:Shape α} {w:World} {T:TypeId} {B g n c:Nat} {L:List α}
theorem OwnR.one {y:α}{cs:Array Value}(hcs:cs.toList=S.cells y)(hB:B≤w.heap.size):OwnR S (w.alloc (.cells cs T)) T B (.slice (some ⟨w.heap.size,0,none⟩) 1 1) [y]:=by
 have hl:cs.toList.length=S.k:=by rw[hcs,S.len]
 refine⟨by simp[Shape.flat,S.len],.inr ⟨w.heap.size,1,cs,rfl,hB,Array.getElem?_push_size,Nat.le_refl _,by unfold maxLen;omega,by simpa using hl,?_⟩⟩
 show cs.toList.take (1*S.k)=S.cells y ++ []
 rw[List.append_nil,Nat.one_mul,← hl,List.take_length,hcs]
theorem OwnR.put (h:OwnR S w T B (.slice (some ⟨g,0,none⟩) n c) L){k:Nat}(hk:k<L.length)(i:Nat)(u:Value)(a:α)(hi:i<S.k)(ha:S.cells a=(S.cells L[k]).set i u):OwnR S (w.setCell ⟨g,k*S.k+i,none⟩ u) T B (.slice (some ⟨g,0,none⟩) n c) (L.set k a):=by
 obtain⟨g', e, -, -, -, -, -,hs⟩:=h.at hk
 cases e
 exact hs i u a hi ha
theorem OwnR.put' {b:α}{k:Nat}(h:OwnR S w T B (.slice (some ⟨g,0,none⟩) n c) (L.set k b))(hk:k<L.length)(i:Nat)(u:Value)(a:α)(hi:i<S.k)(ha:S.cells a=(S.cells b).set i u):OwnR S (w.setCell ⟨g,k*S.k+i,none⟩ u) T B (.slice (some ⟨g,0,none⟩) n c) (L.set k a):=by
 have hk' : k<(L.set k b).length:=by rw[List.length_set];exact hk
 have:=h.put hk' i u a hi (by rw[List.getElem_set_self];exact ha);rw[List.set_set]at this;exact this
end
def cond4 (w:World) (g o:Nat):World:=(((w.setCell ⟨g,o+2,none⟩ (I O 1)).setCell ⟨g,o+3,none⟩ (I O 0)).setCell ⟨g,o+4,none⟩ (I O 0)).setCell ⟨g,o+5,none⟩ (.slice none 0 0)
theorem cond4_far (w:World){g b:Nat}(o:Nat)(h:b≠g):(cond4 w g o).heap[b]?=w.heap[b]?:=by
 unfold cond4;rw[setCell_far _ h,setCell_far _ h,setCell_far _ h,setCell_far _ h]
theorem cond4_sz (w:World)(g o:Nat):(cond4 w g o).heap.size=w.heap.size:=by
 unfold cond4;rw[setCell_sz,setCell_sz,setCell_sz,setCell_sz]
theorem LwAt.cond {B:Nat}{wr:World}{v:Value}{L:List Sch}(h:LwAt B wr v L){k:Nat}(hk:k<L.length) :
  ∃g c r,v = .slice (some ⟨g,0,none⟩) L.length c∧B≤g∧SCells wr g (k*10) r∧(∀i,wr.frozen? ⟨g,i,none⟩=false)∧LwAt B (cond4 wr g (k*10)) v (L.set k { L[k] with cond:=tmTrue }):=by
 obtain⟨d,R,h⟩:=h;have hk' : k<R.length:=by rw[h.hl];exact hk
 obtain⟨p,c,e, -, -,hc, -, -⟩:=h.own.cut h.hl;have ho:=h.own;rw[e]at ho;obtain⟨g,eg,hn,hB,hg,hcl,hf, -⟩:=ho.at hk'; subst eg;have hk10:SSc.k=10:=rfl;rw[hk10]at hcl;have hrow:=h.rows k hk' hk;refine⟨g,c,R[k],e,hB,⟨hcl 0 _ rfl,hcl 1 _ rfl,hcl 2 _ rfl,hcl 3 _ rfl,hcl 4 _ rfl,hcl 5 _ rfl,hcl 6 _ rfl,hcl 7 _ rfl,hcl 8 _ rfl,hcl 9 _ rfl⟩,hf,?_⟩;have o1:=ho.put hk' 2 (I O 1) { R[k] with t:={ R[k].t with op:=1 } } (by decide) rfl;have o2:=o1.put' hk' 3 (I O 0) { R[k] with t:={ R[k].t with op:=1,num:=0 } } (by decide) rfl;have o3:=o2.put' hk' 4 (I O 0) { R[k] with t:={ R[k].t with op:=1,num:=0,more:=0 } } (by decide) rfl;have o4:=o3.put' hk' 5 (.slice none 0 0) { R[k] with t:=⟨1,0,0,none,0,0⟩ } (by decide) rfl;rw[hk10]at o4;have o5:OwnR SSc (cond4 wr g (k*10)) 112 B (.slice (some ⟨g,0,none⟩) L.length c) (R.set k { R[k] with t:=⟨1,0,0,none,0,0⟩ }):=o4;have key:∀b,Qx B v none b→b<wr.heap.size→(cond4 wr g (k*10)).heap[b]?=wr.heap[b]?∧Qx B v none b:=fun b q _=>⟨cond4_far _ _ (fun e2=>q.2.1 (by rw[e,e2];rfl)),q⟩
 have hz:wr.heap.size≤(cond4 wr g (k*10)).heap.size:=by rw[cond4_sz];exact Nat.le_refl _
 refine⟨d,R.set k { R[k] with t:=⟨1,0,0,none,0,0⟩ },by rw[List.length_set,List.length_set,h.hl],by rw[e];exact o5,fun j a b=>?_⟩
 rw[List.length_set]at a b;rw[List.getElem_set,List.getElem_set]
 by_cases ej:k=j
 ·subst ej
  rw[if_pos rfl,if_pos rfl];have:=hrow.change hz key;exact⟨this.num,this.nm,⟨⟨rfl,rfl,rfl,rfl,Nat.le_refl _,fun _=>rfl⟩,TmsAt.nil _ _ _ _⟩,this.br,this.bn,this.bc,this.bz,this.bq,this.least,this.ex,this.needs⟩
 ·rw[if_neg ej,if_neg ej]
  exact(h.rows j a b).change hz key
theorem SmallS.true {L:List Sch}(h:∀s∈L,SmallS s){k:Nat}(hk:k<L.length):∀s∈L.set k { L[k] with cond:=tmTrue },SmallS s:=by
 intro s hs
 rcases List.mem_or_eq_of_mem_set hs with hs|rfl
 ·exact h s hs
 ·have:=h L[k] (List.getElem_mem hk)
  exact⟨this.nm,by show count tmTrue<8;decide,this.n0,this.n3⟩
def sch1 (x:Int):Sch:=⟨0,⟨#[115,48]⟩,tmTrue, [⟨500,x⟩],0,0,false⟩
theorem sch1_ok {x:Int}(h0:0≤x)(h1:x≤1048576):chk17 [sch1 x]=(-1,0):=by
 have hb:brB [(⟨500,x⟩:Brk)]=true:=by
  unfold brB brAll
  simp[brAt,upB,h0,h1]
 have ho:one17 (sch1 x)=0:=by
  unfold one17 sch1;simp only;rw[if_neg (by omega),if_neg (by decide),if_neg (show ¬chkT tmTrue≠0 by decide),if_neg];rintro (h|h|h|h)
  ·rw[hb]at h;cases h
  ·omega
  ·omega
  ·revert h;decide
 have hm:mutual17 [sch1 x] (sch1 x)=true:=by
  unfold mutual17;rw[List.all_eq_true];intro n _;unfold mutN;have:bitB (sch1 x).ex n=false:=by
   show bitB 0 n=false
   unfold bitB;simp
  rw[this];rfl
 have hA:fst (errA [sch1 x]) 1=none:=fst_none fun j hj=>by
  obtain rfl:j=0:=by omega
  unfold errA;simp only[List.getElem?_cons_zero];rw[if_neg (by rw[ho];decide)]
  rfl
 have hB:fst (errB [sch1 x]) 1=none:=fst_none fun j hj=>by
  obtain rfl:j=0:=by omega
  unfold errB;simp only[List.getElem?_cons_zero];rw[hm];rfl
 unfold chk17;simp only[List.length_singleton];rw[if_neg (by omega),hA];simp only;rw[hB]
theorem sch1_small (x:Int):∀s ∈ [sch1 x],SmallS s:=by
 intro s hs;rw[List.mem_singleton.1 hs];exact⟨by show(⟨#[115,48]⟩:ByteArray).size≤40;decide,by show count tmTrue<8;decide,by show(0:Int)≤0;omega,by show(0:Int)≤3;omega⟩
theorem sch1_at {B:Nat}{w3:World}(x:Int)(hB:B≤w3.heap.size)(TB TS:TypeId)(hTS:TS=112) :
  LwAt B ((w3.alloc (.cells #[I O 500,I O x] TB)).alloc (.cells #[I O 0,.string ⟨#[115,48]⟩,I O 1,I O 0,I O 0,.slice none 0 0,.slice (some ⟨w3.heap.size,0,none⟩) 1 1,I O 0,I O 0,.bool false] TS)) (.slice (some ⟨w3.heap.size+1,0,none⟩) 1 1) [sch1 x]:=by
 subst hTS;have e:(w3.alloc (.cells #[I O 500,I O x] TB)).heap.size=w3.heap.size+1:=by simp
 have hA:=(brf (w3.alloc (.cells #[I O 500,I O x] TB)).heap.size (w3.alloc (.cells #[I O 500,I O x] TB))).alloc mle (.cells #[I O 0,.string ⟨#[115,48]⟩,I O 1,I O 0,I O 0,.slice none 0 0,.slice (some ⟨w3.heap.size,0,none⟩) 1 1,I O 0,I O 0,.bool false] 112);refine⟨0, [⟨0,⟨#[115,48]⟩,⟨1,0,0,none,0,0⟩,some ⟨w3.heap.size,0,none⟩,1,1,0,0,false⟩],rfl,?_,fun k a b=>?_⟩
 ·rw[← e]
  exact OwnR.one (S:=SSc) rfl (by rw[e];omega)
 ·obtain rfl:k=0:=by simp at a;exact a
  refine⟨rfl,rfl,⟨⟨rfl,rfl,rfl,rfl,Nat.le_refl _,fun _=>rfl⟩,rfl⟩,?_,rfl,Nat.le_refl _,(fun h=>by cases h),fun q hq => .inr ?_,rfl,rfl,rfl⟩
  ·exact(Recs.lit (S:=SBk) w3 TB [⟨500,x⟩] (by show 1≤_;unfold maxLen;omega)).below hA
  ·cases hq
   exact⟨hB,(fun h=>by injection h with h;simp only at h;omega),(fun h=>by cases h)⟩
def SchGive (t:Nat) (l:List Int) (w:World) (e:Ending) (w' : World):Prop :=
 ∃(v:Value) (L:List Sch) (q:Nat),e = .returned v∧LwAt w.heap.size w' v L∧chk17 L=(-1,0)∧1≤L.length∧L.length≤3∧(∀s∈L,SmallS s)∧TpB w w' t l q
structure SchS (w wr:World) (t:Nat) (l:List Int) (q:Nat) (v:Value) (L:List Sch):Prop where
 tp:TpB w wr t l q
 at_:LwAt w.heap.size wr v L
 chk:chk17 L=(-1,0)
 ne:1≤L.length
 le:L.length≤3
 sm:∀s∈L,SmallS s
theorem SchS.next {w wr w' : World}{t q q' : Nat}{l:List Int}{v:Value}{L:List Sch}(h:SchS w wr t l q v L)(ht:TapeAt w' t l q')(hb:But t wr w'):SchS w w' t l q' v L :=
 ⟨h.tp.next ht hb,h.at_.but hb h.tp.lt,h.chk,h.ne,h.le,h.sm⟩
theorem SchS.cond {w wr:World}{t q:Nat}{l:List Int}{v:Value}{L:List Sch}(h:SchS w wr t l q v L){k n:Nat}(hn:L.length=n)(hk:k<n) :
  ∃g c r,v = .slice (some ⟨g,0,none⟩) n c∧SCells wr g (k*10) r∧(∀i,wr.frozen? ⟨g,i,none⟩=false)∧SchS w (cond4 wr g (k*10)) t l q v (L.set k { L[k] with cond:=tmTrue }):=by
 subst hn;obtain⟨g,c,r,e,hB,h1,h2,h3⟩:=h.at_.cond hk;refine⟨g,c,r,e,h1,h2,?_,h3,chk17_true h.chk hk,by rw[List.length_set];exact h.ne,by rw[List.length_set];exact h.le,SmallS.true h.sm hk⟩;exact h.tp.belowB ((((brf _ _).setCell hB _).setCell hB _).setCell hB _ |>.setCell hB _)
theorem schemes2_any (t:Nat)(l:List Int)(a:Nat)(w:World)(h:TapeAt w t l a) :
  Calls Tryz.prog 47 #[.pointer (some ⟨t,0,none⟩)] w (SchGive t l w):=by
 have LW:=mh (show Calls Tryz.prog 77 #[.pointer (some ⟨t,0,none⟩),I O 3] w (LawGive t l 3 w) from tapeLaw_any t l a 3 (by omega) w h);have HT:=mh (show t<w.heap.size from h.lt);have H0:=mh (TpB.init h);have T9:=mh (fun (W:World) (q:Nat) (h:TapeAt W t l q)=>next_any t l q 900 W h (by omega));have T3:=mh (fun (W:World) (q:Nat) (h:TapeAt W t l q)=>next_any t l q 3 W h (by omega));clear h
 go_enter Tryz.func47,Tryz.ntmps47
 go_wp2_with fail
 (with_reducible refine cmo LW.out ?_);rintro e w1 ⟨v,L,q1,rfl,hL,hc,hle,hsm,ht1,hb1⟩;obtain⟨n,hn⟩:∃n,L.length=n:=⟨_,rfl⟩;obtain⟨p,c, -,rfl, -, -, -⟩:=hL.ss hn;have HL:=mh hL;have P1:=mh (H0.out.next ht1 hb1);have HC:=mh hc;have HSM:=mh hsm;have HN:=mh hn;rw[hn]at hle;clear hL hc hsm ht1 hb1 hn
 rcases Nat.eq_zero_or_pos n with hz|hz
 ·subst hz
  obtain⟨x,ex⟩:∃x,gives l q1 900=x:=⟨_,rfl⟩;have hx:=gives_bd l q1 (n:=900) (by omega);have T9' := mh (T9.out _ _ P1.out.tape);rw[ex]at hx T9'; clear ex
  go_wp2_with fail
  (with_reducible refine cmo T9'.out ?_);rintro e w3 ⟨rfl,ht3,hb3⟩;have P3:=mh (P1.out.next ht3 hb3);clear ht3 hb3;have HX:=mh hx
  have ST:=mh (show SchS w ((w3.alloc (.cells #[I O 500,I O (100+x)] 143)).alloc (.cells #[I O 0,.string ⟨#[115,48]⟩,I O 1,I O 0,I O 0,.slice none 0 0,.slice (some ⟨w3.heap.size,0,none⟩) 1 1,I O 0,I O 0,.bool false] 112)) t l _ (.slice (some ⟨w3.heap.size+1,0,none⟩) 1 1) [sch1 (100+x)] from
   ⟨(P3.out.alloc _).alloc _,sch1_at _ P3.out.but.size _ _ rfl,sch1_ok (by omega) (by omega),Nat.le_refl _,by show 1≤3;omega,sch1_small _⟩)
  clear HL P1
  go_wp2_with fail
  go_loopw [20] (fun i wr=>∃(k q:Nat) (L' : List Sch),k≤1∧i=I O k∧L'.length=1∧SchS w wr t l q (.slice (some ⟨w3.heap.size+1,0,none⟩) 1 1) L') (fun i _=>1 - (intOf i).toNat)
  case atStart=>exact⟨0,_, [sch1 (100+x)],Nat.zero_le _,rfl,rfl,ST.out⟩
  case round =>
   clear ST;obtain⟨wo,rfl⟩:∃wo:World,wo=wr:=⟨_,rfl⟩;obtain⟨k,q,L', hk,rfl,hl', hS⟩:=hrel;have HS:=mh hS;have HL' := mh hl'; have hk0:(0:Int)≤(k:Int):=inn _
   by_cases hlt:k<1
   ·have hk1:(k:Int)<1:=by omega
    obtain⟨g3,eg3⟩:∃x,gives l q 3=x:=⟨_,rfl⟩;have T3' := mh (T3.out _ q hS.tp.tape);rw[eg3]at T3'; obtain⟨g,c2,r2,ev, -, -, -⟩:=hS.cond hl' hlt;clear ev;clear hS hl' eg3
    by_cases hg:0<g3
    ·go_wp2_with (go_at_call 28;(with_reducible refine cmo T3'.out ?_);rintro e w5 ⟨rfl,ht5,hb5⟩;have HS5:=mh (HS.out.next ht5 hb5);obtain⟨g', c3,r3,ev2,⟨-, -,k2,k3,k4,k5, -, -, -, -⟩,hf,hset⟩:=HS5.out.cond HL'.out hlt;simp only[Value.slice.injEq,Option.some.injEq,Addr.mk.injEq,and_true,true_and]at ev2;obtain⟨rfl,rfl⟩:=ev2;have f2:=hf (k*10+2);have f3:=hf (k*10+3);have f4:=hf (k*10+4);have f5:=hf (k*10+5);have HSET:=mh hset;clear ht5 hb5 hset hf)
     go_roundw
     case rel=>exact⟨k+1,_,_,by omega,by go_num,by rw[List.length_set];exact HL'.out,HSET.out⟩
     case measure=>simp[intOf];omega
    ·go_wp2_with (go_at_call 28;(with_reducible refine cmo T3'.out ?_);rintro e w5 ⟨rfl,ht5,hb5⟩;have HS5:=mh (HS.out.next ht5 hb5);clear ht5 hb5)
     go_roundw
     case rel=>exact⟨k+1,_,L', by omega,by go_num,HL'.out,HS5.out⟩
     case measure=>simp[intOf];omega
   ·clear hS hl'
    go_wp2
    go_ret
    exact⟨_,L', _,rfl,HS.out.at_,HS.out.chk,HS.out.ne,HS.out.le,HS.out.sm,HS.out.tp⟩
 ·have ST:=mh (show SchS w w1 t l _ (.slice p n c) L from⟨P1.out,HL.out,HC.out,by rw[HN.out];exact hz,by rw[HN.out];exact hle,HSM.out⟩)
  have hzi:(0:Int)<(n:Int):=by omega
  have hzb:((n:Int)==0)=false:=by rw[beq_eq_false_iff_ne];omega
  clear HL P1
  go_wp2_with fail
  go_loopw [20] (fun i wr=>∃(k q:Nat) (L' : List Sch),k≤n∧i=I O k∧L'.length=n∧SchS w wr t l q (.slice p n c) L') (fun i _=>n - (intOf i).toNat)
  case atStart=>exact⟨0,_,L,Nat.zero_le _,rfl,HN.out,ST.out⟩
  case round =>
   clear ST;obtain⟨wo,rfl⟩:∃wo:World,wo=wr:=⟨_,rfl⟩;obtain⟨k,q,L', hk,rfl,hl', hS⟩:=hrel;have HS:=mh hS;have HL' := mh hl'; have hk0:(0:Int)≤(k:Int):=inn _
   by_cases hlt:k<n
   ·have hk1:(k:Int)<(n:Int):=by omega
    obtain⟨g3,eg3⟩:∃x,gives l q 3=x:=⟨_,rfl⟩;have T3' := mh (T3.out _ q hS.tp.tape);rw[eg3]at T3'; obtain⟨g,c2,r2,ev, -, -, -⟩:=hS.cond hl' hlt
    cases ev
    clear hS hl' eg3
    by_cases hg:0<g3
    ·go_wp2_with (go_at_call 28;(with_reducible refine cmo T3'.out ?_);rintro e w5 ⟨rfl,ht5,hb5⟩;have HS5:=mh (HS.out.next ht5 hb5);obtain⟨g', c3,r3,ev2,⟨-, -,k2,k3,k4,k5, -, -, -, -⟩,hf,hset⟩:=HS5.out.cond HL'.out hlt;cases ev2;have f2:=hf (k*10+2);have f3:=hf (k*10+3);have f4:=hf (k*10+4);have f5:=hf (k*10+5);have HSET:=mh hset;clear ht5 hb5 hset hf)
     go_roundw
     case rel=>exact⟨k+1,_,_,by omega,by go_num,by rw[List.length_set];exact HL'.out,HSET.out⟩
     case measure=>simp[intOf];omega
    ·go_wp2_with (go_at_call 28;(with_reducible refine cmo T3'.out ?_);rintro e w5 ⟨rfl,ht5,hb5⟩;have HS5:=mh (HS.out.next ht5 hb5);clear ht5 hb5)
     go_roundw
     case rel=>exact⟨k+1,_,L', by omega,by go_num,HL'.out,HS5.out⟩
     case measure=>simp[intOf];omega
   ·clear hS hl'
    go_wp2
    go_ret
    exact⟨_,L', _,rfl,HS.out.at_,HS.out.chk,HS.out.ne,HS.out.le,HS.out.sm,HS.out.tp⟩
end Go.Proofs.YtljibgchickcpaaGreatDoor
namespace Go.Proofs.YtljibgchickcpaaGreatDoor
open Go.RowKit Sc As
/-! ### Fact -/
def FacGive (w:World) (t:Nat) (l:List Int) (e:Ending) (w' : World):Prop :=
 ∃(f:Fct) (q:Nat),e = .returned (.agg (fcells f).toArray)∧SeenOk f.decl f.season f.kind f.area f.border∧0≤f.due∧f.due≤f.decl∧f.decl<120∧TpB w w' t l q
theorem seen_of {k a b:Int}(k0:0≤k)(k4:k<5)(h:(k=1∧0≤a∧a≤268435456∧0≤b∧b<40)∨(k≠1∧a=0∧b=0)):seenB k a b=true:=by
 refine seenB_iff.2 ⟨k0,by omega,fun e=>?_,fun e=>?_⟩
 ·rcases h with h|h
  ·omega
  ·exact absurd e h.1
 ·rcases h with h|h
  ·exact absurd h.1 e
  ·exact h.2
theorem fact2_any (t:Nat)(l:List Int)(a:Nat)(w:World)(h:TapeAt w t l a) :
  Calls Tryz.prog 52 #[.pointer (some ⟨t,0,none⟩)] w (FacGive w t l):=by
 obtain⟨D,ex⟩:∃g,gives l a 120=g:=⟨_,rfl⟩;obtain⟨q1,eq1⟩:∃q,taken l a=q:=⟨_,rfl⟩;obtain⟨S,ey⟩:∃g:Int, -1+gives l q1 (1 - -1+1)=g:=⟨_,rfl⟩;obtain⟨q2,eq2⟩:∃q,taken l q1=q:=⟨_,rfl⟩;obtain⟨K,ez⟩:∃g,gives l q2 5=g:=⟨_,rfl⟩;obtain⟨q3,eq3⟩:∃q,taken l q2=q:=⟨_,rfl⟩;obtain⟨c,ec⟩:∃c,(gives l q3 2==2 - 1)=c:=⟨_,rfl⟩;obtain⟨q4,eq4⟩:∃q,taken l q3=q:=⟨_,rfl⟩;obtain⟨u,eu⟩:∃g,gives l q4 (D+1)=g:=⟨_,rfl⟩;obtain⟨q5,eq5⟩:∃q,taken l q4=q:=⟨_,rfl⟩;have x1:=gives_bd l a (n:=120) (by omega);have y1:=gives_bd l q1 (n:=1 - -1+1) (by omega);have z1:=gives_bd l q2 (n:=5) (by omega);rw[ex]at x1;have u1:=gives_bd l q4 (n:=D+1) (by omega);rw[eu]at u1;rw[ez]at z1;have y2 : -1≤S∧S≤1:=by omega
 clear y1;have T1:=mh (fun (W:World) (h:TapeAt W t l a)=>eq1▸ex▸next_any t l a 120 W h (by omega));have T2:=mh (fun (W:World) (h:TapeAt W t l q1)=>eq2▸ey▸range_any t l q1 (-1) 1 W h (by omega) (by omega) (by omega));have T3:=mh (fun (W:World) (h:TapeAt W t l q2)=>eq3▸ez▸next_any t l q2 5 W h (by omega));have T4:=mh (fun (W:World) (h:TapeAt W t l q3)=>eq4▸ec▸one_any t l q3 2 W h (by omega) (by omega));have T5:=mh (fun (W:World) (h:TapeAt W t l q4)=>eq5▸eu▸next_any t l q4 (D+1) W h (by omega));have T6:=mh (fun (W:World) (q:Nat) (h:TapeAt W t l q)=>measured2_any t l q D W h x1.1 (by omega));have H0:=mh (TpB.init h);obtain⟨g,eg⟩:∃g,w.heap.size=g:=⟨_,rfl⟩;have HG:=mh (show w.heap.size≤g∧t<g by have:=h.lt;omega);have B0:=mh (show Blk (w.alloc (.cells #[I O 0,I O 0,I O 0,I O 0,I O 0,I O 0] 105)) g #[I O 0,I O 0,I O 0,I O 0,I O 0,I O 0] 105 from eg▸Blk.new _ _ _);have P0:=mh (H0.out.alloc (.cells #[I O 0,I O 0,I O 0,I O 0,I O 0,I O 0] 105));have HX:=mh (And.intro x1 (And.intro y2 (And.intro z1 u1)));clear h ex ey ez ec eu eq1 eq2 eq3 eq4 eq5
 go_enter Tryz.func52,Tryz.ntmps52
 go_wp2_with fail
 clear eg;generalize w.alloc (.cells #[I O 0,I O 0,I O 0,I O 0,I O 0,I O 0] 105)=w0 at *;(with_reducible refine cmo (T1.out _ P0.out.tape) ?_);rintro e w1 ⟨rfl,ht1,hb1⟩;have P1:=mh (P0.out.next ht1 hb1);have B1:=mh (B0.out.but hb1 (by have:=HG.out;omega));clear ht1 hb1
 go_wp2_with fail
 (with_reducible refine cmo (T2.out _ P1.out.tape) ?_);rintro e w2 ⟨rfl,ht2,hb2⟩;have P2:=mh (P1.out.next ht2 hb2);have B2:=mh (B1.out.but hb2 (by have:=HG.out;omega));clear ht2 hb2
 go_wp2_with fail
 (with_reducible refine cmo (T3.out _ P2.out.tape) ?_);rintro e w3 ⟨rfl,ht3,hb3⟩;have P3:=mh (P2.out.next ht3 hb3);have B3:=mh (B2.out.but hb3 (by have:=HG.out;omega));clear ht3 hb3;have P3a:=mh (P3.out.alloc (.cells #[I O D,I O D,I O S,I O K,I O 0,I O 0] 105));have hgl:g<w3.heap.size:=B3.out.lt;obtain⟨g3,e3⟩:∃g,w3.heap.size=g:=⟨_,rfl⟩;have B3a:=mh (show Blk (w3.alloc (.cells #[I O D,I O D,I O S,I O K,I O 0,I O 0] 105)) g #[I O 0,I O 0,I O 0,I O 0,I O 0,I O 0] 105 from B3.out.below ((brf _ _).alloc mle _));have C3a:=mh (show Blk (w3.alloc (.cells #[I O D,I O D,I O S,I O K,I O 0,I O 0] 105)) g3 #[I O D,I O D,I O S,I O K,I O 0,I O 0] 105 from e3▸Blk.new _ _ _);have HG3:=mh (show g<g3∧w.heap.size≤g3∧t<g3 by have:=HG.out;omega);clear hgl x1 y2 z1 u1
 go_wp2_with fail
 clear e3;generalize w3.alloc (.cells #[I O D,I O D,I O S,I O K,I O 0,I O 0] 105)=w4 at *;(with_reducible refine cmo (T4.out _ P3a.out.tape) ?_);rintro e w5 ⟨rfl,ht5,hb5⟩;have P5:=mh (P3a.out.next ht5 hb5);have B5:=mh (B3a.out.but hb5 (by have:=HG.out;omega));have C5:=mh (C3a.out.but hb5 (by have:=HG3.out;omega));clear ht5 hb5 P3a B3a C3a B0 B1 B2 B3 P0 P1 P2 P3
 cases c
 ·by_cases hk:K=1
  ·have hkb:(K==1)=true:=by simpa using hk
   have HKK:=mh hk;clear hk;have k0:=C5.out.cell 0;have k1:=C5.out.cell 1;have k2:=C5.out.cell 2;have k3:=C5.out.cell 3;have k4:=C5.out.cell 4;have k5:=C5.out.cell 5;have m0:=C5.out.fr 0;have m1:=C5.out.fr 1;have m2:=C5.out.fr 2;have m3:=C5.out.fr 3;have m4:=C5.out.fr 4;have m5:=C5.out.fr 5
   go_wp2_with fail
   (with_reducible refine cmo (T6.out _ _ P5.out.tape) ?_);rintro e w8 ⟨aa,bb,q8,rfl,a0,a1,b0,b1,hp8⟩;have P8:=mh (P5.out.trans hp8);have B8:=mh (B5.out.but hp8.but (by have:=HG.out;omega));have C8:=mh (C5.out.but hp8.but (by have:=HG3.out;omega));clear hp8 k0 k1 k2 k3 k4 k5 m0 m1 m2 m3 m4 m5;have P9:=mh ((P8.out.set HG3.out.2.1 (i:=4) (I O aa)).set HG3.out.2.1 (i:=5) (I O bb));have C9:=mh (show Blk ((w8.setCell ⟨g3,4,none⟩ (I O aa)).setCell ⟨g3,5,none⟩ (I O bb)) g3 #[I O D,I O D,I O S,I O K,I O aa,I O bb] 105 from(C8.out.set 4 _).set 5 _);have B9:=mh ((B8.out.far (show g≠g3 by have:=HG3.out;omega) (i:=4) (I O aa)).far (show g≠g3 by have:=HG3.out;omega) (i:=5) (I O bb));have k0:=C8.out.cell 0;have k1:=C8.out.cell 1;have k2:=C8.out.cell 2;have k3:=C8.out.cell 3;have k4:=C8.out.cell 4;have k5:=C8.out.cell 5;have m0:=C8.out.fr 0;have m1:=C8.out.fr 1;have m2:=C8.out.fr 2;have m3:=C8.out.fr 3;have m4:=C8.out.fr 4;have m5:=C8.out.fr 5
   go_upto_region 7 with fail
   generalize (w8.setCell ⟨g3,4,none⟩ (I O aa)).setCell ⟨g3,5,none⟩ (I O bb)=w9 at *;clear k0 k1 k2 k3 k4 k5 m0 m1 m2 m3 m4 m5;have k0:=C9.out.cell 0;have k1:=C9.out.cell 1;have k2:=C9.out.cell 2;have k3:=C9.out.cell 3;have k4:=C9.out.cell 4;have k5:=C9.out.cell 5;have c0:=B9.out.cell 0;have c1:=B9.out.cell 1;have c2:=B9.out.cell 2;have c3:=B9.out.cell 3;have c4:=B9.out.cell 4;have c5:=B9.out.cell 5;have f0:=B9.out.fr 0;have f1:=B9.out.fr 1;have f2:=B9.out.fr 2;have f3:=B9.out.fr 3;have f4:=B9.out.fr 4;have f5:=B9.out.fr 5;have BF:=mh (B9.out.put6 (I O D) (I O D) (I O S) (I O K) (I O aa) (I O bb));have PF:=mh (P9.out.put6 HG.out.1 (I O D) (I O D) (I O S) (I O K) (I O aa) (I O bb))
   go_wp2
   generalize ((((((w9.setCell ⟨g,0,none⟩ (I O D)).setCell ⟨g,1,none⟩ (I O D)).setCell ⟨g,2,none⟩ (I O S)).setCell ⟨g,3,none⟩ (I O K)).setCell ⟨g,4,none⟩ (I O aa)).setCell ⟨g,5,none⟩ (I O bb))=wf at *;have d0:=BF.out.cell 0;have d1:=BF.out.cell 1;have d2:=BF.out.cell 2;have d3:=BF.out.cell 3;have d4:=BF.out.cell 4;have d5:=BF.out.cell 5;exact bodyPost_ret (v := .agg #[I O D,I O D,I O S,I O K,I O aa,I O bb]) (by simp[results,Tryz.results52,go_sem,d0,d1,d2,d3,d4,d5]) rfl ⟨⟨D,D,S,K,aa,bb⟩,_,rfl,⟨HX.out.1.1,by have:=HX.out.1;simp only;omega,HX.out.2.1.1,HX.out.2.1.2,seen_of HX.out.2.2.1.1 HX.out.2.2.1.2 (.inl ⟨HKK.out,a0,a1,b0,b1⟩)⟩,by have:=HX.out;simp only;omega,by have:=HX.out;simp only;omega,HX.out.1.2,PF.out⟩
  ·have hkb:(K==1)=false:=by simpa using hk
   have HKK:=mh hk;clear hk;have k0:=C5.out.cell 0;have k1:=C5.out.cell 1;have k2:=C5.out.cell 2;have k3:=C5.out.cell 3;have k4:=C5.out.cell 4;have k5:=C5.out.cell 5;have c0:=B5.out.cell 0;have c1:=B5.out.cell 1;have c2:=B5.out.cell 2;have c3:=B5.out.cell 3;have c4:=B5.out.cell 4;have c5:=B5.out.cell 5;have f0:=B5.out.fr 0;have f1:=B5.out.fr 1;have f2:=B5.out.fr 2;have f3:=B5.out.fr 3;have f4:=B5.out.fr 4;have f5:=B5.out.fr 5;have BF:=mh (B5.out.put6 (I O D) (I O D) (I O S) (I O K) (I O 0) (I O 0));have PF:=mh (P5.out.put6 HG.out.1 (I O D) (I O D) (I O S) (I O K) (I O 0) (I O 0))
   go_wp2
   generalize ((((((w5.setCell ⟨g,0,none⟩ (I O D)).setCell ⟨g,1,none⟩ (I O D)).setCell ⟨g,2,none⟩ (I O S)).setCell ⟨g,3,none⟩ (I O K)).setCell ⟨g,4,none⟩ (I O 0)).setCell ⟨g,5,none⟩ (I O 0))=wf at *;have d0:=BF.out.cell 0;have d1:=BF.out.cell 1;have d2:=BF.out.cell 2;have d3:=BF.out.cell 3;have d4:=BF.out.cell 4;have d5:=BF.out.cell 5;exact bodyPost_ret (v := .agg #[I O D,I O D,I O S,I O K,I O 0,I O 0]) (by simp[results,Tryz.results52,go_sem,d0,d1,d2,d3,d4,d5]) rfl ⟨⟨D,D,S,K,0,0⟩,_,rfl,⟨HX.out.1.1,by have:=HX.out.1;simp only;omega,HX.out.2.1.1,HX.out.2.1.2,seen_of HX.out.2.2.1.1 HX.out.2.2.1.2 (.inr ⟨HKK.out,rfl,rfl⟩)⟩,by have:=HX.out;simp only;omega,by have:=HX.out;simp only;omega,HX.out.1.2,PF.out⟩
 ·have k0:=C5.out.cell 0
  have k1:=C5.out.cell 1;have m1:=C5.out.fr 1;have dd:IntKind.i64.wrap (D+1)=D+1:=by have:=HX.out;rw[IntKind.wrap_i64];omega
  go_wp2_with fail
  (with_reducible refine cmo (T5.out _ P5.out.tape) ?_);rintro e w6 ⟨rfl,ht6,hb6⟩;have P6:=mh (P5.out.next ht6 hb6);have B6:=mh (B5.out.but hb6 (by have:=HG.out;omega));have C6:=mh (C5.out.but hb6 (by have:=HG3.out;omega));clear ht6 hb6 k0 k1 m1;have P7:=mh (P6.out.set HG3.out.2.1 (i:=1) (I O u));have C7:=mh (show Blk (w6.setCell ⟨g3,1,none⟩ (I O u)) g3 #[I O D,I O u,I O S,I O K,I O 0,I O 0] 105 from C6.out.set 1 _);have B7:=mh (B6.out.far (show g≠g3 by have:=HG3.out;omega) (i:=1) (I O u));have k1:=C6.out.cell 1;have m1:=C6.out.fr 1
  go_upto_region 5 with fail
  generalize w6.setCell ⟨g3,1,none⟩ (I O u)=w7 at *;clear k1 m1
  by_cases hk:K=1
  ·have hkb:(K==1)=true:=by simpa using hk
   have HKK:=mh hk;clear hk;have k0:=C7.out.cell 0;have k1:=C7.out.cell 1;have k2:=C7.out.cell 2;have k3:=C7.out.cell 3;have k4:=C7.out.cell 4;have k5:=C7.out.cell 5;have m0:=C7.out.fr 0;have m1:=C7.out.fr 1;have m2:=C7.out.fr 2;have m3:=C7.out.fr 3;have m4:=C7.out.fr 4;have m5:=C7.out.fr 5
   go_wp2_with fail
   (with_reducible refine cmo (T6.out _ _ P7.out.tape) ?_);rintro e w8 ⟨aa,bb,q8,rfl,a0,a1,b0,b1,hp8⟩;have P8:=mh (P7.out.trans hp8);have B8:=mh (B7.out.but hp8.but (by have:=HG.out;omega));have C8:=mh (C7.out.but hp8.but (by have:=HG3.out;omega));clear hp8 k0 k1 k2 k3 k4 k5 m0 m1 m2 m3 m4 m5;have P9:=mh ((P8.out.set HG3.out.2.1 (i:=4) (I O aa)).set HG3.out.2.1 (i:=5) (I O bb));have C9:=mh (show Blk ((w8.setCell ⟨g3,4,none⟩ (I O aa)).setCell ⟨g3,5,none⟩ (I O bb)) g3 #[I O D,I O u,I O S,I O K,I O aa,I O bb] 105 from(C8.out.set 4 _).set 5 _);have B9:=mh ((B8.out.far (show g≠g3 by have:=HG3.out;omega) (i:=4) (I O aa)).far (show g≠g3 by have:=HG3.out;omega) (i:=5) (I O bb));have k0:=C8.out.cell 0;have k1:=C8.out.cell 1;have k2:=C8.out.cell 2;have k3:=C8.out.cell 3;have k4:=C8.out.cell 4;have k5:=C8.out.cell 5;have m0:=C8.out.fr 0;have m1:=C8.out.fr 1;have m2:=C8.out.fr 2;have m3:=C8.out.fr 3;have m4:=C8.out.fr 4;have m5:=C8.out.fr 5
   go_upto_region 7 with fail
   generalize (w8.setCell ⟨g3,4,none⟩ (I O aa)).setCell ⟨g3,5,none⟩ (I O bb)=w9 at *;clear k0 k1 k2 k3 k4 k5 m0 m1 m2 m3 m4 m5;have k0:=C9.out.cell 0;have k1:=C9.out.cell 1;have k2:=C9.out.cell 2;have k3:=C9.out.cell 3;have k4:=C9.out.cell 4;have k5:=C9.out.cell 5;have c0:=B9.out.cell 0;have c1:=B9.out.cell 1;have c2:=B9.out.cell 2;have c3:=B9.out.cell 3;have c4:=B9.out.cell 4;have c5:=B9.out.cell 5;have f0:=B9.out.fr 0;have f1:=B9.out.fr 1;have f2:=B9.out.fr 2;have f3:=B9.out.fr 3;have f4:=B9.out.fr 4;have f5:=B9.out.fr 5;have BF:=mh (B9.out.put6 (I O D) (I O u) (I O S) (I O K) (I O aa) (I O bb));have PF:=mh (P9.out.put6 HG.out.1 (I O D) (I O u) (I O S) (I O K) (I O aa) (I O bb))
   go_wp2
   generalize ((((((w9.setCell ⟨g,0,none⟩ (I O D)).setCell ⟨g,1,none⟩ (I O u)).setCell ⟨g,2,none⟩ (I O S)).setCell ⟨g,3,none⟩ (I O K)).setCell ⟨g,4,none⟩ (I O aa)).setCell ⟨g,5,none⟩ (I O bb))=wf at *;have d0:=BF.out.cell 0;have d1:=BF.out.cell 1;have d2:=BF.out.cell 2;have d3:=BF.out.cell 3;have d4:=BF.out.cell 4;have d5:=BF.out.cell 5;exact bodyPost_ret (v := .agg #[I O D,I O u,I O S,I O K,I O aa,I O bb]) (by simp[results,Tryz.results52,go_sem,d0,d1,d2,d3,d4,d5]) rfl ⟨⟨D,u,S,K,aa,bb⟩,_,rfl,⟨HX.out.1.1,by have:=HX.out.1;simp only;omega,HX.out.2.1.1,HX.out.2.1.2,seen_of HX.out.2.2.1.1 HX.out.2.2.1.2 (.inl ⟨HKK.out,a0,a1,b0,b1⟩)⟩,by have:=HX.out;simp only;omega,by have:=HX.out;simp only;omega,HX.out.1.2,PF.out⟩
  ·have hkb:(K==1)=false:=by simpa using hk
   have HKK:=mh hk;clear hk;have k0:=C7.out.cell 0;have k1:=C7.out.cell 1;have k2:=C7.out.cell 2;have k3:=C7.out.cell 3;have k4:=C7.out.cell 4;have k5:=C7.out.cell 5;have c0:=B7.out.cell 0;have c1:=B7.out.cell 1;have c2:=B7.out.cell 2;have c3:=B7.out.cell 3;have c4:=B7.out.cell 4;have c5:=B7.out.cell 5;have f0:=B7.out.fr 0;have f1:=B7.out.fr 1;have f2:=B7.out.fr 2;have f3:=B7.out.fr 3;have f4:=B7.out.fr 4;have f5:=B7.out.fr 5;have BF:=mh (B7.out.put6 (I O D) (I O u) (I O S) (I O K) (I O 0) (I O 0));have PF:=mh (P7.out.put6 HG.out.1 (I O D) (I O u) (I O S) (I O K) (I O 0) (I O 0))
   go_wp2
   generalize ((((((w7.setCell ⟨g,0,none⟩ (I O D)).setCell ⟨g,1,none⟩ (I O u)).setCell ⟨g,2,none⟩ (I O S)).setCell ⟨g,3,none⟩ (I O K)).setCell ⟨g,4,none⟩ (I O 0)).setCell ⟨g,5,none⟩ (I O 0))=wf at *;have d0:=BF.out.cell 0;have d1:=BF.out.cell 1;have d2:=BF.out.cell 2;have d3:=BF.out.cell 3;have d4:=BF.out.cell 4;have d5:=BF.out.cell 5;exact bodyPost_ret (v := .agg #[I O D,I O u,I O S,I O K,I O 0,I O 0]) (by simp[results,Tryz.results52,go_sem,d0,d1,d2,d3,d4,d5]) rfl ⟨⟨D,u,S,K,0,0⟩,_,rfl,⟨HX.out.1.1,by have:=HX.out.1;simp only;omega,HX.out.2.1.1,HX.out.2.1.2,seen_of HX.out.2.2.1.1 HX.out.2.2.1.2 (.inr ⟨HKK.out,rfl,rfl⟩)⟩,by have:=HX.out;simp only;omega,by have:=HX.out;simp only;omega,HX.out.1.2,PF.out⟩
section
variable {w wr w' : World} {t g gf gx q q' : Nat} {l:List Int} {decl due season kind area border:Int} {a:Nat} {v v' : Value} {D D' : List Int}
theorem Blk.put7 {z0 z1 z2 z3 z4 z5 z6:Value}{T:TypeId}(h:Blk wr g #[z0,z1,z2,z3,z4,z5,z6] T)(u0 u1 u2 u3 u4 u5 u6:Value):Blk (((((((wr.setCell ⟨g,0,none⟩ u0).setCell ⟨g,1,none⟩ u1).setCell ⟨g,2,none⟩ u2).setCell ⟨g,3,none⟩ u3).setCell ⟨g,4,none⟩ u4).setCell ⟨g,5,none⟩ u5).setCell ⟨g,6,none⟩ u6) g #[u0,u1,u2,u3,u4,u5,u6] T:=by
 have a0:Blk _ g #[u0,z1,z2,z3,z4,z5,z6] T:=h.set 0 u0;have a1:Blk _ g #[u0,u1,z2,z3,z4,z5,z6] T:=a0.set 1 u1;have a2:Blk _ g #[u0,u1,u2,z3,z4,z5,z6] T:=a1.set 2 u2;have a3:Blk _ g #[u0,u1,u2,u3,z4,z5,z6] T:=a2.set 3 u3;have a4:Blk _ g #[u0,u1,u2,u3,u4,z5,z6] T:=a3.set 4 u4;have a5:Blk _ g #[u0,u1,u2,u3,u4,u5,z6] T:=a4.set 5 u5;exact a5.set 6 u6
theorem TpB.put7 (h:TpB w wr t l q)(hg:w.heap.size≤g)(u0 u1 u2 u3 u4 u5 u6:Value):TpB w (((((((wr.setCell ⟨g,0,none⟩ u0).setCell ⟨g,1,none⟩ u1).setCell ⟨g,2,none⟩ u2).setCell ⟨g,3,none⟩ u3).setCell ⟨g,4,none⟩ u4).setCell ⟨g,5,none⟩ u5).setCell ⟨g,6,none⟩ u6) t l q :=
 (h.put6 hg u0 u1 u2 u3 u4 u5).set hg u6
structure LnS (w wr:World) (t:Nat) (l:List Int) (q g gf gx:Nat) (decl due season kind area border:Int) (a:Nat) (v:Value) (D:List Int):Prop where
 tp:TpB w wr t l q
 res:Blk wr g #[I O 0,I O 0,.slice none 0 0,I O 0,I O 0,I O 0,I O 0] 67
 fb:Blk wr gf #[I O decl,I O due,I O season,I O kind,I O area,I O border] 105
 xb:Blk wr gx #[I O decl,I O (a:Int),v,I O season,I O kind,I O area,I O border] 67
 own:OwnR SI wr 3 (gx+1) v D
 ord:w.heap.size≤g∧g<gf∧gf<gx
theorem LnS.tl (h:LnS w wr t l q g gf gx decl due season kind area border a v D):t<g:=by have:=h.ord;have:=h.tp.lt;omega
theorem LnS.next (h:LnS w wr t l q g gf gx decl due season kind area border a v D)(ht:TapeAt w' t l q')(hb:But t wr w'):LnS w w' t l q' g gf gx decl due season kind area border a v D:=by
 have:=h.tl;have:=h.ord;exact⟨h.tp.next ht hb,h.res.but hb (by omega),h.fb.but hb (by omega),h.xb.but hb (by omega),h.own.but hb (by omega),h.ord⟩
theorem LnS.below (h:LnS w wr t l q g gf gx decl due season kind area border a v D)(hb:Below wr.heap.size wr w'):LnS w w' t l q g gf gx decl due season kind area border a v D :=
 ⟨h.tp.below hb,h.res.below hb,h.fb.below hb,h.xb.below hb,h.own.below hb,h.ord⟩
theorem LnS.bit (h:LnS w wr t l q g gf gx decl due season kind area border a v D)(b:Nat):LnS w (wr.setCell ⟨gx,1,none⟩ (I O (b:Int))) t l q g gf gx decl due season kind area border b v D:=by
 have:=h.ord;exact⟨h.tp.set (by omega) _,h.res.far (by omega) _,h.fb.far (by omega) _,h.xb.set 1 _,h.own.setOther (fun e=>by have:=(h.own.lt e).1;omega) _,h.ord⟩
theorem LnS.snoc {H:Nat}(h:LnS w wr t l q g gf gx decl due season kind area border a v D)(ho:OwnR SI w' 3 (gx+1) v' D')(ha:Appends wr w' (gx+1) H v v'):LnS w (w'.setCell ⟨gx,2,none⟩ v') t l q g gf gx decl due season kind area border a v' D' :=by
 have hord:=h.ord;have k:∀b,b≤gx→b<wr.heap.size→w'.heap[b]?=wr.heap[b]?:=fun b h1 h2=>ha.far b h2 fun e=>by have:=(h.own.lt e).1;omega
 have x:Blk w' gx #[I O decl,I O (a:Int),v,I O season,I O kind,I O area,I O border] 67:=(k gx mle h.xb.lt).trans h.xb;exact⟨(h.tp.belowB (ha.below.mono (by omega))).set (by omega) _,Blk.far ((k g (by omega) h.res.lt).trans h.res) (by omega) _,Blk.far ((k gf (by omega) h.fb.lt).trans h.fb) (by omega) _,x.set 2 _,ho.setOther (fun e=>by have:=(ho.lt e).1;omega) _,h.ord⟩
theorem LnS.mid {H:Nat}(h:LnS w wr t l q g gf gx decl due season kind area border a v D)(ha:Appends wr w' (gx+1) H v v'):Blk w' gx #[I O decl,I O (a:Int),v,I O season,I O kind,I O area,I O border] 67 :=
 (ha.far gx h.xb.lt fun e=>by have:=(h.own.lt e).1;omega).trans h.xb
end
def LinGive (w:World) (t:Nat) (l:List Int) (Y:YLaw) (e:Ending) (w' : World):Prop :=
 ∃(r:RL) (x:LineF) (q:Nat),e = .returned (.agg (lCells r).toArray)∧LV (NewQ w.heap.size) w' r x∧LineOk Y x∧(x.decl<120∧0≤x.sch)∧TpB w w' t l q
theorem or_bit {a:Nat}{n:Int}(ha:a<65536)(h0:0≤n)(h15:n≤15):bits BinOp.or IntKind.i64 (a:Int) (wrap64 (2 ^ n.toNat))=((a ||| 2 ^ n.toNat:Nat):Int):=by
 have hp:(2:Nat) ^ n.toNat<65536:=by
  have:(2:Nat) ^ n.toNat≤2 ^ 15:=Nat.pow_le_pow_right (by omega) (by omega);omega
 have hw:wrap64 ((2:Int) ^ n.toNat)=((2 ^ n.toNat:Nat):Int):=by
  have e:((2:Int) ^ n.toNat)=((2 ^ n.toNat:Nat):Int):=by push_cast;rfl
  rw[e];generalize 2 ^ n.toNat=m at *;unfold wrap64;omega
 rw[hw,bits_or_nat _ _ (by omega) (by omega)]
theorem line2_any {Q:Nat→Prop}(d t:Nat)(l:List Int)(a0:Nat)(r:RY)(Y:YLaw)(w:World)(h:TapeAt w t l a0)(hQ:∀b,Q b→b≠t)(hY:SsAt Q w d r.sp Y.sch)(hsn:r.sn=Y.sch.length)(hl:YOk Y) :
  Calls Tryz.prog 26 #[.pointer (some ⟨t,0,none⟩),.agg (yCells r).toArray] w (LinGive w t l Y):=by
 obtain⟨sp,sn,sc,tp,tn,tc,ldue,llast,lmille,gp,gn,gc,cp,ev,un,wd⟩:=r;simp only at hY hsn;have hlen:=hl.len;have HN:=mh hsn.symm;rw[← hsn]at hlen;clear hsn;have HY:=mh (fun (W:World) (hb:But t w W)=>show SsAt Q W d sp Y.sch from hY.change hb.size fun b q hl=>⟨hb.block b hl (hQ b q),q⟩);have HOK:=mh hl;have ASC:=mh (lawOk hl.sch).asc;have NUM:=mh (show ∀s∈Y.sch,0≤s.num∧s.num≤15 from fun s hs=>(lawOk hl.sch).num hs);have H0:=mh (TpB.init h);have FC:=mh (fun (W:World) (h:TapeAt W t l a0)=>fact2_any t l a0 W h);have T3:=mh (fun (W:World) (q:Nat) (h:TapeAt W t l q)=>next_any t l q 3 W h (by omega));have TO:=mh (fun (W:World) (q:Nat) (h:TapeAt W t l q)=>one_any t l q 3 W h (by omega) (by omega));obtain⟨gy,eg⟩:∃g,w.heap.size=g:=⟨_,rfl⟩;obtain⟨g,eg2⟩:∃g,gy+1=g:=⟨_,rfl⟩;have HG:=mh (show w.heap.size≤gy∧gy+1=g∧t<gy by have:=h.lt;omega);have P0:=mh ((H0.out.alloc (.cells #[.slice sp sn sc,.slice tp tn tc,I O ldue,I O llast,I O lmille,.slice gp gn gc,I O cp,I O ev,I O un,I O wd] 58)).alloc (.cells #[I O 0,I O 0,.slice none 0 0,I O 0,I O 0,I O 0,I O 0] 67));have BY:=mh (show Blk ((w.alloc (.cells #[.slice sp sn sc,.slice tp tn tc,I O ldue,I O llast,I O lmille,.slice gp gn gc,I O cp,I O ev,I O un,I O wd] 58)).alloc (.cells #[I O 0,I O 0,.slice none 0 0,I O 0,I O 0,I O 0,I O 0] 67)) gy _ 58 from eg▸(Blk.new w _ _).below ((brf _ _).alloc mle _))
 have B0:=mh (show Blk ((w.alloc (.cells #[.slice sp sn sc,.slice tp tn tc,I O ldue,I O llast,I O lmille,.slice gp gn gc,I O cp,I O ev,I O un,I O wd] 58)).alloc (.cells #[I O 0,I O 0,.slice none 0 0,I O 0,I O 0,I O 0,I O 0] 67)) g #[I O 0,I O 0,.slice none 0 0,I O 0,I O 0,I O 0,I O 0] 67 from by
  have e:(w.alloc (.cells #[.slice sp sn sc,.slice tp tn tc,I O ldue,I O llast,I O lmille,.slice gp gn gc,I O cp,I O ev,I O un,I O wd] 58)).heap.size=g:=by rw[World.size_alloc];omega
  exact e▸Blk.new _ _ _)
 clear h hY hl;simp only[yCells]
 go_enter Tryz.func26,Tryz.ntmps26
 go_wp2_with fail
 clear eg eg2;generalize (w.alloc (.cells #[.slice sp sn sc,.slice tp tn tc,I O ldue,I O llast,I O lmille,.slice gp gn gc,I O cp,I O ev,I O un,I O wd] 58)).alloc (.cells #[I O 0,I O 0,.slice none 0 0,I O 0,I O 0,I O 0,I O 0] 67)=w0 at *;(with_reducible refine cmo (FC.out _ P0.out.tape) ?_);rintro e w1 ⟨⟨decl,due,season,kind,area,border⟩,q1,rfl,hseen,hd0,hd1,hd2,hp1⟩;simp only at hseen hd0 hd1 hd2;simp only[fcells];have P1:=mh (P0.out.trans hp1);have BY1:=mh (BY.out.but hp1.but (by have:=HG.out;omega));have B1:=mh (B0.out.but hp1.but (by have:=HG.out;omega));have SEEN:=mh hseen;have hdb:0≤decl:=by omega
 have y0:=((BY1.out.below ((brf w1.heap.size w1).alloc mle (.cells #[I O decl,I O due,I O season,I O kind,I O area,I O border] 105))).below ((brf _ _).alloc mle (.cells #[I O decl,I O 0,.slice none 0 0,I O season,I O kind,I O area,I O border] 67))).cell 0;obtain⟨gf,ef⟩:∃g,w1.heap.size=g:=⟨_,rfl⟩;obtain⟨gx,ex⟩:∃g,gf+1=g:=⟨_,rfl⟩
 have HS:=mh (show LnS w ((w1.alloc (.cells #[I O decl,I O due,I O season,I O kind,I O area,I O border] 105)).alloc (.cells #[I O decl,I O ((0:Nat):Int),.slice none 0 0,I O season,I O kind,I O area,I O border] 67)) t l q1 g gf gx decl due season kind area border 0 (.slice none 0 0) [] from by
  have e:(w1.alloc (.cells #[I O decl,I O due,I O season,I O kind,I O area,I O border] 105)).heap.size=gx:=by rw[World.size_alloc];omega
  have hgl:=B1.out.lt
  exact⟨(P1.out.alloc _).alloc _,(B1.out.below ((brf _ _).alloc mle _)).below ((brf _ _).alloc mle _),(ef▸(Blk.new w1 _ _)).below ((brf _ _).alloc mle _),e▸Blk.new _ _ _,OwnR.nil _ _ _,by have:=HG.out;omega⟩)
 rw[show((0:Nat):Int)=0 from rfl]at HS;clear hseen hp1
 go_wp2_with fail
 go_loopw [22] (fun i wr=>∃(k q a:Nat) (D:List Int) (v:Value),k≤sn∧i=I O k∧LnMk Y.sch decl k a D∧LnS w wr t l q g gf gx decl due season kind area border a v D) (fun i _=>sn - (intOf i).toNat)
 case atStart=>exact⟨0,q1,0, [],_,Nat.zero_le _,rfl,LnMk.nil _ _,HS.out⟩
 case round =>
  clear HS P0 BY B0 P1 BY1 B1 FC y0 ef ex;obtain⟨wo,rfl⟩:∃wo:World,wo=wr:=⟨_,rfl⟩;obtain⟨k,q,a,D,v,hk,rfl,hM,hS⟩:=hrel;have HM:=mh hM;have HSS:=mh hS;have hk0:(0:Int)≤(k:Int):=inn _
  by_cases hlt:k<sn
  ·have hk1:(k:Int)<(sn:Int):=by omega
   have hlt' : k<Y.sch.length:=by rw[HN.out];exact hlt
   obtain⟨b,off,y,esp,hbl,⟨c0,c1,c2,c3,c4,c5,c6,c7,c8,c9⟩,hv⟩:=(HY.out _ hS.tp.but).at hlt'; have hnum:=hv.num;have hn:=NUM.out _ (List.getElem_mem hlt');have HNO:=mh (hM.no ASC.out NUM.out hlt');have HYES:=mh (fun (u:Int) (h0:0≤u) (h1:u≤decl)=>hM.yes (u:=u) ASC.out NUM.out hlt' h0 h1);obtain⟨num,nm,⟨o,tn2,tm,tq,tl,tz⟩,bp,bn,bc,least,exs,needs⟩:=y;simp only at c0 c1 c2 c3 c4 c5 c6 c7 c8 c9 hnum;subst esp;rw[← hnum]at hn HYES;have OB:=mh (or_bit hM.lt hn.1 hn.2);obtain⟨a2,ea2⟩:∃x,a ||| 2 ^ num.toNat=x:=⟨_,rfl⟩
   rw[ea2]at OB HYES;have HS1:=mh (hS.below ((brf wo.heap.size wo).alloc mle (.cells #[I O num,.string nm,I O o,I O tn2,I O tm,.slice tq tl tz,.slice bp bn bc,I O least,I O exs,.bool needs] 112)));have BS1:=mh (Blk.new wo #[I O num,.string nm,I O o,I O tn2,I O tm,.slice tq tl tz,.slice bp bn bc,I O least,I O exs,.bool needs] 112);have HWT:=mh (show wo.heap.size≠t by have:=hS.tp.tape.lt;omega);have T3' := mh (T3.out _ q HS1.out.tp.tape);obtain⟨g3,eg3⟩:∃x,gives l q 3=x:=⟨_,rfl⟩;obtain⟨q3,eq3⟩:∃x,taken l q=x:=⟨_,rfl⟩;rw[eg3,eq3]at T3'; clear hM hS hv hbl hnum ea2 eg3 eq3
   by_cases hg:0<g3
   rotate_left
   ·go_wp2_with (first|(go_at_call 28;(with_reducible refine cmo T3'.out ?_);rintro e w3 ⟨rfl,ht3,hb3⟩;have HS3:=mh (HS1.out.next ht3 hb3);have BS3:=mh (BS1.out.but hb3 HWT.out);have x2:=HS3.out.xb.cell 2;have x2f:=HS3.out.xb.fr 2;  clear ht3 hb3)|(at_builtin;(refine OwnR.append el_int rfl (.tmp 46) (.tmp 48) rfl (gx+1) v D 0 #[I O 0] rfl HS3.out.own rfl (by simp[Act.eval]) (show gx<w3.heap.size from HS3.out.xb.lt) (by have:=HM.out.len;omega) (by decide) ?_);intro v6 w6 hO6 hap6;obtain⟨p6,c6,rfl, -⟩:=hO6.cut (n:=k+1) (by rw[lap,HM.out.len];rfl);have HS6:=mh (HS3.out.snoc hO6 hap6);have XM:=mh (HS3.out.mid hap6);have x6:=XM.out.cell 2;have x6f:=XM.out.fr 2;clear hO6 hap6)|fail)
    go_roundw
    case rel=>exact⟨k+1,_,a,D ++ [0],_,by omega,by go_num,HNO.out,HS6.out⟩
    case measure=>simp[intOf];omega
   ·go_wp2_with (go_at_call 28;(with_reducible refine cmo T3'.out ?_);rintro e w3 ⟨rfl,ht3,hb3⟩;have HS3:=mh (HS1.out.next ht3 hb3);have BS3:=mh (BS1.out.but hb3 HWT.out);have s0:=BS3.out.cell 0;have x1:=HS3.out.xb.cell 1;have x1f:=HS3.out.xb.fr 1;  clear ht3 hb3)
    clear c0 c1 c2 c3 c4 c5 c6 c7 c8 c9
    go_region
    rw[OB.out];have HS4:=mh ((HS3.out.bit a2).below (brf _ _).drew);generalize (w3.setCell ⟨gx,1,none⟩ (I O (a2:Int))).drew=w4 at *;clear x1 x1f s0;have f0:=HS4.out.fb.cell 0;have TO' := mh (TO.out _ q3 HS4.out.tp.tape);obtain⟨c,ec⟩:∃c,(gives l q3 3==3 - 1)=c:=⟨_,rfl⟩;obtain⟨q4,eq4⟩:∃x,taken l q3=x:=⟨_,rfl⟩;rw[ec,eq4]at TO'; clear ec eq4
    cases c
    ·have YY:=mh (HYES.out decl hdb (Int.le_refl _))
     go_wp2_with (first|(go_at_call 51;(with_reducible refine cmo TO'.out ?_);rintro e w5 ⟨rfl,ht5,hb5⟩;have HS5:=mh (HS4.out.next ht5 hb5);have x2:=HS5.out.xb.cell 2;have x2f:=HS5.out.xb.fr 2;have g0:=HS5.out.fb.cell 0;clear ht5 hb5)|(at_builtin;(refine OwnR.append el_int rfl (.tmp 46) (.tmp 48) rfl (gx+1) v D decl #[I O decl] rfl HS5.out.own rfl (by simp[Act.eval]) (show gx<w5.heap.size from HS5.out.xb.lt) (by have:=HM.out.len;omega) (by decide) ?_);intro v6 w6 hO6 hap6;obtain⟨p6,c6,rfl, -⟩:=hO6.cut (n:=k+1) (by rw[lap,HM.out.len];rfl);have HS6:=mh (HS5.out.snoc hO6 hap6);have XM:=mh (HS5.out.mid hap6);have x6:=XM.out.cell 2;have x6f:=XM.out.fr 2;clear hO6 hap6)|fail)
     go_roundw
     case rel=>exact⟨k+1,_,a2,D ++ [decl],_,by omega,by go_num,YY.out,HS6.out⟩
     case measure=>simp[intOf];omega
    ·have dd:IntKind.i64.wrap (decl+1)=decl+1:=by rw[IntKind.wrap_i64];omega
     obtain⟨u,eu⟩:∃x,gives l q4 (decl+1)=x:=⟨_,rfl⟩;have hu:=gives_bd l q4 (n:=decl+1) (by omega);rw[eu]at hu;have TN:=mh (fun (W:World) (h:TapeAt W t l q4)=>eu▸next_any t l q4 (decl+1) W h (by omega));have YY:=mh (HYES.out u hu.1 (by omega));clear eu hu
     go_wp2_with (first|(go_at_call 51;(with_reducible refine cmo TO'.out ?_);rintro e w5 ⟨rfl,ht5,hb5⟩;have HS5:=mh (HS4.out.next ht5 hb5);have x2:=HS5.out.xb.cell 2;have x2f:=HS5.out.xb.fr 2;have g0:=HS5.out.fb.cell 0;clear ht5 hb5)|(go_at_call 28;(with_reducible refine cmo (TN.out _ HS5.out.tp.tape) ?_);rintro e w7 ⟨rfl,ht7,hb7⟩;have HS7:=mh (HS5.out.next ht7 hb7);have y2:=HS7.out.xb.cell 2;have y2f:=HS7.out.xb.fr 2;clear ht7 hb7)|(at_builtin;(refine OwnR.append el_int rfl (.tmp 46) (.tmp 48) rfl (gx+1) v D u #[I O u] rfl HS7.out.own rfl (by simp[Act.eval]) (show gx<w7.heap.size from HS7.out.xb.lt) (by have:=HM.out.len;omega) (by decide) ?_);intro v6 w6 hO6 hap6;obtain⟨p6,c6,rfl, -⟩:=hO6.cut (n:=k+1) (by rw[lap,HM.out.len];rfl);have HS6:=mh (HS7.out.snoc hO6 hap6);have XM:=mh (HS7.out.mid hap6);have x6:=XM.out.cell 2;have x6f:=XM.out.fr 2;clear hO6 hap6)|fail)
     go_roundw
     case rel=>exact⟨k+1,_,a2,D ++ [u],_,by omega,by go_num,YY.out,HS6.out⟩
     case measure=>simp[intOf];omega
  ·obtain rfl:k=sn:=by omega
   obtain⟨dp,dc,rfl,hz,hq,hc, -,hrec⟩:=hS.own.cut hM.len;have HRES:=mh (show LineOk Y ⟨decl,(a:Int),D,season,kind,area,border⟩ from(HN.out▸hM).line HOK.out SEEN.out)
   have HLV:=mh (fun (W:World) (hI:Ints W dp D)=>show LV (NewQ w.heap.size) W ⟨decl,(a:Int),dp,k,dc,season,kind,area,border⟩ ⟨decl,(a:Int),D,season,kind,area,border⟩ from
    ⟨rfl,rfl,hI,hM.len.symm,hc,fun e=>(hz e).1,fun x e => .inr (by have h1:=(hq x e).2.2.1;have h2:=hS.ord;show w.heap.size≤x.block;omega),rfl,rfl,rfl,rfl⟩)
   have HPF:=mh (hS.tp.put7 hS.ord.1 (I O decl) (I O (a:Int)) (.slice dp k dc) (I O season) (I O kind) (I O area) (I O border));have HBF:=mh (hS.res.put7 (I O decl) (I O (a:Int)) (.slice dp k dc) (I O season) (I O kind) (I O area) (I O border))
   have HIF:=mh (show Ints ((((((((wo.setCell ⟨g,0,none⟩ (I O decl)).setCell ⟨g,1,none⟩ (I O (a:Int))).setCell ⟨g,2,none⟩ (.slice dp k dc)).setCell ⟨g,3,none⟩ (I O season)).setCell ⟨g,4,none⟩ (I O kind)).setCell ⟨g,5,none⟩ (I O area)).setCell ⟨g,6,none⟩ (I O border))) dp D from by
    have ho:OwnR SI wo 3 (gx+1) (.slice dp k dc) D:=hS.own;have hgn:(Value.slice dp k dc).ownBlock≠some g:=fun e=>by have h1:=(ho.lt e).1;have h2:=hS.ord;omega
    have ho2:=((((((ho.setOther hgn (i:=0) (I O decl)).setOther hgn (i:=1) (I O (a:Int))).setOther hgn (i:=2) (.slice dp k dc)).setOther hgn (i:=3) (I O season)).setOther hgn (i:=4) (I O kind)).setOther hgn (i:=5) (I O area)).setOther hgn (i:=6) (I O border);obtain⟨p', c', e', -, -, -, -,hr'⟩:=ho2.cut hM.len
    cases e'
    exact hr'.ints)
   have x0:=HSS.out.xb.cell 0;have x1:=HSS.out.xb.cell 1;have x2:=HSS.out.xb.cell 2;have x3:=HSS.out.xb.cell 3;have x4:=HSS.out.xb.cell 4;have x5:=HSS.out.xb.cell 5;have x6:=HSS.out.xb.cell 6;have r0:=HSS.out.res.cell 0;have r1:=HSS.out.res.cell 1;have r2:=HSS.out.res.cell 2;have r3:=HSS.out.res.cell 3;have r4:=HSS.out.res.cell 4;have r5:=HSS.out.res.cell 5;have r6:=HSS.out.res.cell 6;have m0:=HSS.out.res.fr 0;have m1:=HSS.out.res.fr 1;have m2:=HSS.out.res.fr 2;have m3:=HSS.out.res.fr 3;have m4:=HSS.out.res.fr 4;have m5:=HSS.out.res.fr 5;have m6:=HSS.out.res.fr 6;clear hM hS hz hq hc hrec
   go_wp2
   generalize (((((((wo.setCell ⟨g,0,none⟩ (I O decl)).setCell ⟨g,1,none⟩ (I O (a:Int))).setCell ⟨g,2,none⟩ (.slice dp k dc)).setCell ⟨g,3,none⟩ (I O season)).setCell ⟨g,4,none⟩ (I O kind)).setCell ⟨g,5,none⟩ (I O area)).setCell ⟨g,6,none⟩ (I O border))=wf at *;have d0:=HBF.out.cell 0;have d1:=HBF.out.cell 1;have d2:=HBF.out.cell 2;have d3:=HBF.out.cell 3;have d4:=HBF.out.cell 4;have d5:=HBF.out.cell 5;have d6:=HBF.out.cell 6;exact bodyPost_ret (v := .agg #[I O decl,I O (a:Int),.slice dp k dc,I O season,I O kind,I O area,I O border]) (by simp[results,Tryz.results26,go_sem,d0,d1,d2,d3,d4,d5,d6]) rfl ⟨_,_,_,rfl,HLV.out _ HIF.out,HRES.out,⟨hd2,inn _⟩,HPF.out⟩
end Go.Proofs.YtljibgchickcpaaGreatDoor
