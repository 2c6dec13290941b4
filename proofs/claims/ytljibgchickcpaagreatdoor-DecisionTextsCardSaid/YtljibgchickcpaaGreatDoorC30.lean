/- Packed. -/
import Derived.Test.YtljibgchickcpaaGreatDoorC28
open Go.Value renaming int → I
open Go.IntKind renaming i64 → O
namespace Go.Proofs.YtljibgchickcpaaGreatDoor
open Go.RowKit Sc As Dn
namespace Dn
def unw (x:List UInt8) (l:List (List UInt8)):List UInt8:=x++l.flatMap fun y=>32::y
theorem pcs_unw {l:List (List UInt8)}:∀{x:List UInt8},(∀c∈x,c≠32)→(∀y∈l,∀c∈y,c≠32)→Wo.pcs 32 [] (unw x l)=x::l:=by
 induction l with
 | nil =>
   intro x hx _;unfold unw;rw[List.flatMap_nil,List.append_nil,Wo.pcs_none 32 x [] hx,List.nil_append]
 | cons y l ih =>
   intro x hx hl;have e:unw x (y::l)=x++32::unw y l:=by unfold unw;simp
   rw[e,Wo.pcs_hit 32 x _ [] hx,List.nil_append,ih (hl y List.mem_cons_self) (fun z hz=>hl z (List.mem_cons_of_mem _ hz))]
theorem unw_pcs:∀(t cur x:List UInt8) (l:List (List UInt8)),Wo.pcs 32 cur t=x::l→unw x l=cur++t
 | [],cur,x,l,h=>by
   unfold Wo.pcs at h
   cases h
   unfold unw
   simp
 | c::t,cur,x,l,h=>by
   unfold Wo.pcs at h
   by_cases hc:c=32
   ·rw[if_pos hc]at h
    obtain⟨x', l', e⟩:=pcs_some 32 t [];rw[e]at h
    cases h
    have ih:=unw_pcs t [] x' l' e;rw[List.nil_append]at ih;have e2:unw cur (x' :: l')=cur++32::unw x' l' :=by unfold unw;simp
    rw[e2,ih,hc]
   ·rw[if_neg hc]at h
    have ih:=unw_pcs t (cur ++ [c]) x l h;rw[ih]
    simp
theorem nums_nv:∀{l:List (List UInt8)},(∀y∈l,nb y=true)→nums (l.map nv)=l.flatMap fun y=>32::y
 | [],_=>rfl
 | y::l,h=>by
   have ih:=nums_nv (l:=l) fun z hz=>h z (List.mem_cons_of_mem _ hz)
   have hy:=h y List.mem_cons_self;have e:Lib.itoa (nv y)=y:=by
    unfold nb at hy;simp only[Bool.and_eq_true]at hy;unfold nv;rw[itoa_nat];exact(dec_canon y.length y rfl hy.1.1).1
   unfold nums at ih ⊢;rw[List.map_cons,List.flatMap_cons,List.flatMap_cons,ih,e]
theorem kind_back {k:List UInt8}(h:1≤kindI k):kindL (kindI k)=k:=by
 unfold kindI at h ⊢
 by_cases h0:k = []
 ·rw[if_pos h0]at h;omega
 rw[if_neg h0]at h ⊢
 by_cases h1:k = [100,117,101]
 ·rw[if_pos h1,h1];rfl
 rw[if_neg h1]at h ⊢
 by_cases h2:k = [115,101,97,115,111,110]
 ·rw[if_pos h2,h2];rfl
 rw[if_neg h2]at h ⊢
 by_cases h3:k = [114,101,102,117,115,101,100]
 ·rw[if_pos h3,h3];rfl
 rw[if_neg h3]at h ⊢
 by_cases h4:k = [110,111,116,104,105,110,103]
 ·rw[if_pos h4,h4];rfl
 rw[if_neg h4]at h ⊢
 by_cases h5:k = [99,114,111,112]
 ·rw[if_pos h5,h5];rfl
 rw[if_neg h5]at h ⊢
 by_cases h6:k = [97,114,101,97]
 ·rw[if_pos h6,h6];rfl
 rw[if_neg h6]at h;omega
def stT (s:PS):List UInt8 :=
 if s.part=0 then [] else cat (headL s.d::(s.d.aw.map awL++s.d.rs.map rsL))++(if s.part=3 then lineT wTotal [s.tot] ++ [10] else [])
theorem stT_0 {s:PS}(h:s.part=0):stT s = []:=by unfold stT;rw[if_pos h]
theorem stT_12 {s:PS}(h:s.part=1∨s.part=2):stT s=cat (headL s.d::(s.d.aw.map awL++s.d.rs.map rsL)):=by unfold stT;rw[if_neg (by omega),if_neg (by omega),List.append_nil]
theorem stT_3 {s:PS}(h:s.part=3):stT s=cat (headL s.d::(s.d.aw.map awL++s.d.rs.map rsL))++(lineT wTotal [s.tot] ++ [10]):=by unfold stT;rw[if_neg (by omega),if_pos h]
structure StI (s:PS):Prop where
 z:s.part=0→s.d=Dec.none
 a:s.part=1→s.d.rs = []
 p:s.part=0∨s.part=1∨s.part=2∨s.part=3
theorem cat_one (x:List UInt8):cat [x]=x ++ [10]:=by unfold cat;simp
theorem step_back {s s' : PS}{t:List UInt8}(hI:StI s)(h:stepW s (Wo.pcs 32 [] t)=some s'):StI s' ∧ stT s' = stT s++(t ++ [10]):=by
 obtain⟨x,l,e⟩:=pcs_some 32 t [];have ht:=unw_pcs t [] x l e;rw[List.nil_append]at ht;rw[e,stepW_cons]at h
 by_cases h0:x=wDecision
 ·rw[if_pos h0]at h
  unfold stepD at h
  split at h
  ·rename_i hc
   rw[Bool.and_eq_true,decide_eq_true_eq]at hc;obtain⟨hb,hp⟩:=hc;obtain⟨hn,hall⟩:=numsB_all hb;have hd:=hI.z hp;have hnum:=nums_nv hall;obtain⟨a,b,c,rfl⟩:∃a b c,l = [a,b,c]:=by
    match l,hn with
    | [a,b,c],_=>exact⟨a,b,c,rfl⟩
   cases h
   refine⟨⟨(fun h=>by cases h),(fun _=>by rw[hd];rfl),.inr (.inl rfl)⟩,?_⟩
   rw[stT_12 (.inl rfl),stT_0 hp,hd]
   show cat (headL ⟨nv a,nv b,nv c, [], []⟩::([] ++ [])) = []++(t ++ [10])
   rw[List.append_nil,List.nil_append,cat_one];unfold headL lineT;rw[show [nv a,nv b,nv c] = [a,b,c].map nv from rfl,hnum,← ht,h0]
   rfl
  ·cases h
 rw[if_neg h0]at h
 by_cases h1:x=wAward
 ·rw[if_pos h1]at h
  unfold stepA at h
  split at h
  ·rename_i hc
   rw[Bool.and_eq_true,decide_eq_true_eq]at hc;obtain⟨hb,hp⟩:=hc;obtain⟨hn,hall⟩:=numsB_all hb;have hd:=hI.a hp;have hnum:=nums_nv hall;obtain⟨a1,a2,a3,a4,a5,a6,a7,a8,rfl⟩:∃a1 a2 a3 a4 a5 a6 a7 a8,l = [a1,a2,a3,a4,a5,a6,a7,a8]:=by
    match l,hn with
    | [a1,a2,a3,a4,a5,a6,a7,a8],_=>exact⟨a1,a2,a3,a4,a5,a6,a7,a8,rfl⟩
   cases h
   refine⟨⟨(fun h=>by cases h),(fun _=>hd),.inr (.inl rfl)⟩,?_⟩
   rw[stT_12 (.inl rfl),stT_12 (.inl hp)]
   show cat (headL s.d::((s.d.aw ++ [(⟨s.d.farm,nv a1,nv a2,nv a3,nv a4,nv a5,nv a6,nv a7,nv a8⟩:Awd)]).map awL++s.d.rs.map rsL))=cat (headL s.d::(s.d.aw.map awL++s.d.rs.map rsL))++(t ++ [10])
   rw[hd,List.map_nil,List.append_nil,List.append_nil,List.map_append,← List.cons_append,cat_append]
   congr 1
   rw[List.map_cons,List.map_nil,cat_one];unfold awL lineT awN;rw[show [nv a1,nv a2,nv a3,nv a4,nv a5,nv a6,nv a7,nv a8] = [a1,a2,a3,a4,a5,a6,a7,a8].map nv from rfl,hnum,← ht,h1]
   rfl
  ·cases h
 rw[if_neg h1]at h
 by_cases h2:x=wReason
 ·rw[if_pos h2]at h
  unfold stepR at h
  split at h
  ·rename_i hc
   rw[Bool.and_eq_true,Bool.and_eq_true,Bool.and_eq_true,decide_eq_true_eq,decide_eq_true_eq]at hc;obtain⟨⟨⟨hn,hm⟩,hb⟩,hk⟩:=hc;obtain⟨a,b,c,rfl⟩:∃a b c,l = [a,b,c]:=by
    match l,hn with
    | [a,b,c],_=>exact⟨a,b,c,rfl⟩
   obtain⟨-,hall⟩:=numsB_all hb;have hnum:=nums_nv hall;have hkb:=kind_back hk;have hp:s.part=1∨s.part=2:=by unfold midB at hm;simpa using hm
   cases h
   refine⟨⟨(fun h=>by cases h),(fun h=>by cases h),.inr (.inr (.inl rfl))⟩,?_⟩
   rw[stT_12 (.inr rfl),stT_12 hp]
   show cat (headL s.d::(s.d.aw.map awL++(s.d.rs ++ [(⟨nv a,nv b,kindI c⟩:Rsn)]).map rsL))=cat (headL s.d::(s.d.aw.map awL++s.d.rs.map rsL))++(t ++ [10])
   rw[List.map_append,← List.append_assoc,← List.cons_append,cat_append]
   congr 1
   rw[List.map_cons,List.map_nil,cat_one];have hkb:kindL (kindI c)=c:=hkb;have hnum:nums [nv a,nv b] = [a,b].flatMap fun y=>32::y:=hnum
   unfold rsL lineT;rw[hkb,hnum,← ht,h2];unfold unw
   simp
  ·cases h
 rw[if_neg h2]at h
 by_cases h3:x=wTotal
 ·rw[if_pos h3]at h
  unfold Dn.stepT at h
  split at h
  ·rename_i hc
   rw[Bool.and_eq_true]at hc;obtain⟨hb,hm⟩:=hc;obtain⟨hn,hall⟩:=numsB_all hb;have hnum:=nums_nv hall;obtain⟨a,rfl⟩:∃a,l = [a]:=by
    match l,hn with
    | [a],_=>exact⟨a,rfl⟩
   have hp:s.part=1∨s.part=2:=by unfold midB at hm;simpa using hm
   cases h
   refine⟨⟨(fun h=>by cases h),(fun h=>by cases h),.inr (.inr (.inr rfl))⟩,?_⟩
   rw[stT_3 rfl,stT_12 hp]
   show cat (headL s.d::(s.d.aw.map awL++s.d.rs.map rsL))++(lineT wTotal [nv a] ++ [10])=cat (headL s.d::(s.d.aw.map awL++s.d.rs.map rsL))++(t ++ [10])
   congr 2
   unfold lineT
   show wTotal++nums ([a].map nv)=t
   rw[hnum,← ht,h3]
   rfl
  ·cases h
 rw[if_neg h3]at h
 cases h
theorem run_back:∀(f:Nat) (n:Int)(s:PS)(t:List UInt8)(D:Dec)(m:Int),StI s→run f n s t=(D,m,0)→chk D=0∧textL D=stT s++t
 | 0,n,s,t,D,m,_,h=>by
   unfold run at h
   simp at h
 | f+1,n,s,t,D,m,hI,h=>by
   by_cases ht:t = []
   ·subst ht
    rw[run_nil]at h;unfold fin at h
    by_cases hp:s.part=3
    ·rw[if_neg (by omega)]at h
     by_cases hc:chk s.d=0
     ·rw[if_neg (by omega)]at h
      by_cases htot:s.tot=totW s.d.aw
      ·rw[if_neg (by omega)]at h
       cases h
       refine⟨hc,?_⟩
       rw[stT_3 hp,htot,List.append_nil];unfold textL linesL totL;rw[← List.append_assoc,← List.cons_append,cat_append,cat_one]
      ·rw[if_pos (by omega)]at h
       simp at h
     ·rw[if_pos hc]at h
      simp at h
      omega
    ·rw[if_pos hp]at h
     simp at h
   ·by_cases hi:Lib.indexByte t 10<0
    ·rw[run_open ht hi]at h
     simp at h
    ·cases hs:stepW s (Wo.pcs 32 [] (t.take (Lib.indexByte t 10).toNat)) with
     | none =>
       rw[run_bad ht hi hs]at h
       simp at h
     | some s' =>
       rw[run_step ht hi hs]at h;obtain⟨hI', e⟩:=step_back hI hs;obtain⟨h1,h2⟩:=run_back f (n+1) s' _ D m hI' h;refine⟨h1,h2.trans ?_⟩;obtain⟨g1,g2⟩:=Lib.indexByte_some (l:=t) (c:=10) (o:=(Lib.indexByte t 10).toNat) (by omega);obtain⟨e3, -⟩:=Wo.cut_at g1 g2;rw[e]
       conv=>rhs;rw[e3]
       simp
theorem parse_back {t:List UInt8}{D:Dec}{m:Int}(h:parse t=(D,m,0)):chk D=0∧textL D=t:=by
 unfold parse at h
 split at h
 ·simp at h
 ·obtain⟨h1,h2⟩:=run_back _ _ _ _ D m ⟨(fun _=>rfl),(fun h=>by cases h),.inl rfl⟩ h
  refine⟨h1,h2.trans ?_⟩
  rw[stT_0 rfl]
  rfl
theorem ix_at:∀{a r:List UInt8},(∀x∈a,x≠10)→Lib.indexByte (a++10::r) 10=(a.length:Int)
 | [],r,_=>by simp[Lib.indexByte]
 | x::a,r,h=>by
   have ih:=ix_at (a:=a) (r:=r) fun y hy=>h y (List.mem_cons_of_mem _ hy)
   have hx:=h x List.mem_cons_self;rw[List.cons_append,Lib.indexByte,ih,if_neg (by simpa using hx),if_neg (by simp<;>omega)]
   simp
theorem run_line {f:Nat}{n:Int}{s s' : PS}{L r:List UInt8}(hL:∀x∈L,x≠10)(hs:stepW s (Wo.pcs 32 [] L)=some s'):run (f+1) n s (L++10::r)=run f (n+1) s' r:=by
 have e:=ix_at (r:=r) hL;rw[run_step (by simp) (by rw[e];omega) (s' := s') (by rw[e,Int.toNat_natCast,List.take_left];exact hs),e,Int.toNat_natCast]
 congr 1
 rw[show L++10::r=(L ++ [10])++r by simp,show L.length+1=(L ++ [10]).length by simp,List.drop_left]
structure Nm (v:Int):Prop where
 nb:nb (Lib.itoa v)=true
 nv:nv (Lib.itoa v)=v
 c:∀x∈Lib.itoa v,x≠32∧x≠10
theorem nm {v:Int}(h0:0≤v)(h1:v≤1125899906842624):Nm v:=by
 obtain⟨u,rfl⟩:∃u:Nat,v=(u:Int):=⟨v.toNat,by omega⟩;have hl:(Lib.itoa (u:Int)).length≤17:=Te.itoa_le (by omega) (by omega) (by omega);obtain⟨c1,c2, -⟩:=canon_dec u;have e:=itoa_nat u;rw[e]at hl;refine⟨?_,?_,?_⟩
 ·rw[e]
  unfold Dn.nb;rw[c1,c2];simp only[Bool.true_and,Bool.and_eq_true,decide_eq_true_eq];omega
 ·rw[e];unfold Dn.nv;rw[c2]
 ·rw[e]
  intro x hx;unfold canon at c1;simp only[Bool.and_eq_true]at c1;have:=List.all_eq_true.1 c1.1.2 x hx;unfold dg at this;simp only[Bool.and_eq_true,decide_eq_true_eq]at this
  constructor
  ·rintro rfl;have:(32:UInt8).toNat=32:=rfl;omega
  ·rintro rfl;have:(10:UInt8).toNat=10:=rfl;omega
theorem lineT_unw (f:List UInt8)(L:List Int):lineT f L=unw f (L.map Lib.itoa):=by
 unfold lineT unw nums;rw[List.flatMap_map]
theorem unw_snoc (f:List UInt8)(l:List (List UInt8))(y:List UInt8):unw f (l ++ [y])=unw f l++32::y:=by unfold unw;simp
theorem unw_mem {f:List UInt8}{l:List (List UInt8)}{c:UInt8}(hf:∀x∈f,x≠c)(h32:(32:UInt8)≠c)(hl:∀y∈l,∀x∈y,x≠c):∀x∈unw f l,x≠c:=by
 intro x hx;unfold unw at hx
 rcases List.mem_append.1 hx with h|h
 ·exact hf x h
 ·obtain⟨y,hy,hx⟩:=List.mem_flatMap.1 h
  rcases List.mem_cons.1 hx with rfl|h
  ·exact h32
  ·exact hl y hy x h
theorem words_ok {f:List UInt8}{l:List (List UInt8)}(hf:∀x∈f,x≠32∧x≠10)(hl:∀y∈l,∀x∈y,x≠32∧x≠10):Wo.pcs 32 [] (unw f l)=f::l∧∀x∈unw f l,x≠10 :=
 ⟨pcs_unw (fun c hc=>(hf c hc).1) (fun y hy c hc=>(hl y hy c hc).1),unw_mem (fun x hx=>(hf x hx).2) (by decide) (fun y hy x hx=>(hl y hy x hx).2)⟩
theorem numsB_nm {L:List Int}(h:∀v∈L,Nm v):numsB (L.map Lib.itoa) L.length=true:=by
 unfold numsB;rw[List.length_map,dqt rfl,Bool.true_and,List.all_eq_true];intro y hy;obtain⟨v,hv,rfl⟩:=List.mem_map.1 hy;exact(h v hv).nb
theorem nm_words {L:List Int}(h:∀v∈L,Nm v):∀y∈L.map Lib.itoa,∀x∈y,x≠32∧x≠10:=by
 intro y hy;obtain⟨v,hv,rfl⟩:=List.mem_map.1 hy;exact(h v hv).c
theorem kind_fwd {k:Int}(h1:1≤k)(h2:k≤6):kindI (kindL k)=k∧∀x∈kindL k,x≠32∧x≠10:=by
 have:k=1∨k=2∨k=3∨k=4∨k=5∨k=6:=by omega
 rcases this with rfl|rfl|rfl|rfl|rfl|rfl<;>exact⟨by decide,by decide⟩
theorem run_aw (tot:Int)(rest:List UInt8)(f:Nat):∀(A:List Awd) (n:Int) (d:Dec),(∀a∈A,awB a d.farm=true)→run (f+A.length) n ⟨1,d,tot⟩ (cat (A.map awL)++rest)=run f (n+A.length) ⟨1,{ d with aw:=d.aw++A },tot⟩ rest
 | [],n,d,_=>by
   show run f n ⟨1,d,tot⟩ rest=run f (n+0) ⟨1,{ d with aw:=d.aw ++ [] },tot⟩ rest
   rw[List.append_nil,Int.add_zero]
 | a::A,n,d,h=>by
   have ha:=awB_iff.1 (h a List.mem_cons_self);have hN:∀v∈awN a,Nm v:=by
    intro v hv;simp only[awN,List.mem_cons,List.not_mem_nil,or_false]at hv
    rcases hv with rfl|rfl|rfl|rfl|rfl|rfl|rfl|rfl<;>exact nm (by omega) (by omega)
   obtain⟨w1,w2⟩:=words_ok (f:=wAward) (l:=(awN a).map Lib.itoa) (by decide) (nm_words hN);have hB:=numsB_nm hN;have hs:stepW ⟨1,d,tot⟩ (Wo.pcs 32 [] (awL a))=some ⟨1,{ d with aw:=d.aw ++ [a] },tot⟩:=by
    unfold awL;rw[lineT_unw,w1,stepW_cons,if_neg (by decide),if_pos rfl];unfold stepA;rw[if_pos (by rw[show(awN a).length=8 from rfl]at hB;rw[hB];rfl)];obtain⟨a1,a2,a3,a4,a5,a6,a7,a8,a9⟩:=a;have g:∀v∈awN ⟨a1,a2,a3,a4,a5,a6,a7,a8,a9⟩,nv (Lib.itoa v)=v:=fun v hv=>(hN v hv).nv
    show some (PS.mk 1 { d with aw:=d.aw ++ [⟨d.farm,nv (Lib.itoa a2),nv (Lib.itoa a3),nv (Lib.itoa a4),nv (Lib.itoa a5),nv (Lib.itoa a6),nv (Lib.itoa a7),nv (Lib.itoa a8),nv (Lib.itoa a9)⟩] } tot)=_
    rw[g a2 (by simp[awN]),g a3 (by simp[awN]),g a4 (by simp[awN]),g a5 (by simp[awN]),g a6 (by simp[awN]),g a7 (by simp[awN]),g a8 (by simp[awN]),g a9 (by simp[awN]),← ha.1]
   have e:cat ((a::A).map awL)++rest=awL a++10::(cat (A.map awL)++rest):=by unfold cat;simp
   rw[e,show f+(a::A).length=f+A.length+1 from rfl,run_line (by unfold awL;rw[lineT_unw];exact w2) hs];have ih:=run_aw tot rest f A (n+1) { d with aw:=d.aw ++ [a] } fun b hb=>h b (List.mem_cons_of_mem _ hb)
   rw[ih];rw[show n+1+(A.length:Int)=n+((a::A).length:Nat) by rw[List.length_cons];push_cast;omega];simp only[List.append_assoc,List.cons_append,List.nil_append]
theorem run_rs (tot:Int)(rest:List UInt8)(f:Nat):∀(R:List Rsn) (n:Int) (p:Int) (d:Dec),(p=1∨p=2)→(∀r∈R,0≤r.line∧r.line≤19∧1≤r.kind∧r.kind≤6∧0≤r.scheme∧r.scheme≤15) →
  ∃p' : Int,(p' = 1∨p' = 2)∧run (f+R.length) n ⟨p,d,tot⟩ (cat (R.map rsL)++rest)=run f (n+R.length) ⟨p', { d with rs:=d.rs++R },tot⟩ rest
 | [],n,p,d,hp,_=>⟨p,hp,by
   show run f n ⟨p,d,tot⟩ rest=run f (n+0) ⟨p,{ d with rs:=d.rs ++ [] },tot⟩ rest
   rw[List.append_nil,Int.add_zero]⟩
 | r::R,n,p,d,hp,h=>by
   have hr:=h r List.mem_cons_self;have hN:∀v ∈ [r.line,r.scheme],Nm v:=by
    intro v hv;simp only[List.mem_cons,List.not_mem_nil,or_false]at hv
    rcases hv with rfl|rfl<;>exact nm (by omega) (by omega)
   obtain⟨k1,k2⟩:=kind_fwd hr.2.2.1 hr.2.2.2.1;have eL:rsL r=unw wReason ([r.line,r.scheme].map Lib.itoa ++ [kindL r.kind]):=by
    rw[unw_snoc,← lineT_unw];rfl
   obtain⟨w1,w2⟩:=words_ok (f:=wReason) (l := [r.line,r.scheme].map Lib.itoa ++ [kindL r.kind]) (by decide) (fun y hy=>by
    rcases List.mem_append.1 hy with hy|hy
    ·exact nm_words hN y hy
    ·rw[List.mem_singleton.1 hy];exact k2)
   have hB:=numsB_nm hN;have hmid:midB ⟨p,d,tot⟩=true:=by unfold midB;rcases hp with rfl|rfl<;>rfl
   have hs:stepW ⟨p,d,tot⟩ (Wo.pcs 32 [] (rsL r))=some ⟨2,{ d with rs:=d.rs ++ [r] },tot⟩:=by
    rw[eL,w1,stepW_cons,if_neg (by decide),if_neg (by decide),if_pos rfl];unfold stepR;have hc:(decide (([r.line,r.scheme].map Lib.itoa ++ [kindL r.kind]).length=3)&&midB ⟨p,d,tot⟩&&numsB (([r.line,r.scheme].map Lib.itoa ++ [kindL r.kind]).take 2) 2&&decide (1≤kindI (([r.line,r.scheme].map Lib.itoa ++ [kindL r.kind]).getD 2 [])))=true:=by
     rw[hmid]
     show(true&&true&&numsB ([r.line,r.scheme].map Lib.itoa) 2&&decide (1≤kindI (kindL r.kind)))=true
     rw[show(2:Nat) = [r.line,r.scheme].length from rfl,hB,k1,dqt hr.2.2.1]
     rfl
    rw[if_pos hc];obtain⟨a1,a2,a3⟩:=r
    show some (PS.mk 2 { d with rs:=d.rs ++ [⟨nv (Lib.itoa a1),nv (Lib.itoa a2),kindI (kindL a3)⟩] } tot)=_
    rw[(hN a1 (by simp)).nv,(hN a2 (by simp)).nv,k1]
   have e:cat ((r::R).map rsL)++rest=rsL r++10::(cat (R.map rsL)++rest):=by unfold cat;simp
   obtain⟨p', hp', ih⟩:=run_rs tot rest f R (n+1) 2 { d with rs:=d.rs ++ [r] } (.inr rfl) fun b hb=>h b (List.mem_cons_of_mem _ hb)
   refine⟨p', hp', ?_⟩
   rw[e,show f+(r::R).length=f+R.length+1 from rfl,run_line (by rw[eL];exact w2) hs,ih];rw[show n+1+(R.length:Int)=n+((r::R).length:Nat) by rw[List.length_cons];push_cast;omega];simp only[List.append_assoc,List.cons_append,List.nil_append]
theorem tot_small {A:List Awd}{farm:Int}(h:∀a∈A,awB a farm=true)(hl:A.length≤16):∀k,k≤A.length→0≤totW (A.take k)∧totW (A.take k)≤(k:Int)*68719476736
 | 0,_=>by rw[List.take_zero];decide
 | k+1,hk=>by
   have ih:=tot_small h hl k (by omega);have ha:=awB_iff.1 (h A[k] (List.getElem_mem (by omega)));rw[totW_take (by omega)];unfold wrap64
   push_cast
   omega
theorem cat_count (X:List (List UInt8)):X.length≤(cat X).length:=by
 unfold cat
 induction X with
 | nil=>simp
 | cons x X ih=>simp only[List.flatMap_cons,lap,List.length_cons,List.length_nil];omega
theorem parse_text {D:Dec}(h:chk D=0):parse (textL D)=(D,0,0):=by
 have hok:=ok_of h;have hnm:=hok.nm;have hlen:=hok.text;unfold parse;rw[if_neg (by omega)];have hct:D.aw.length+D.rs.length+2≤(textL D).length:=by
  have:=cat_count (linesL D);unfold linesL at this;simp only[List.length_cons,lap,List.length_map,List.length_nil]at this;unfold textL linesL;omega
 obtain⟨k,hk⟩:∃k,(textL D).length+1=(k+1+1+D.rs.length+D.aw.length)+1:=⟨(textL D).length - 2 - D.aw.length - D.rs.length,by omega⟩;rw[hk];have eT:textL D=headL D++10::(cat (D.aw.map awL)++(cat (D.rs.map rsL)++(totL D++10 :: []))):=by
  unfold textL linesL cat;simp
 rw[eT];have hN:∀v ∈ [D.year,D.farm,D.ver],Nm v:=by
  intro v hv;simp only[List.mem_cons,List.not_mem_nil,or_false]at hv
  rcases hv with rfl|rfl|rfl<;>exact nm (by omega) (by omega)
 obtain⟨w1,w2⟩:=words_ok (f:=wDecision) (l := [D.year,D.farm,D.ver].map Lib.itoa) (by decide) (nm_words hN);have hB:=numsB_nm hN;have hs:stepW PS.start (Wo.pcs 32 [] (headL D))=some ⟨1,⟨D.year,D.farm,D.ver, [], []⟩,0⟩:=by
  unfold headL;rw[lineT_unw,w1,stepW_cons,if_pos rfl];unfold stepD;rw[if_pos (by rw[show [D.year,D.farm,D.ver].length=3 from rfl]at hB;rw[hB];rfl)]
  show some (PS.mk 1 ⟨nv (Lib.itoa D.year),nv (Lib.itoa D.farm),nv (Lib.itoa D.ver), [], []⟩ 0)=_
  rw[(hN D.year (by simp)).nv,(hN D.farm (by simp)).nv,(hN D.ver (by simp)).nv]
 rw[run_line (by unfold headL;rw[lineT_unw];exact w2) hs];rw[run_aw 0 _ _ D.aw _ ⟨D.year,D.farm,D.ver, [], []⟩ hok.aw];obtain⟨p', hp', e⟩:=run_rs 0 (totL D++10 :: []) (k+1+1) D.rs (0+1+(D.aw.length:Int)) 1 ⟨D.year,D.farm,D.ver, []++D.aw, []⟩ (.inl rfl) hok.rs;rw[show(⟨1,{ year:=D.year,farm:=D.farm,ver:=D.ver,aw := []++D.aw,rs := [] },0⟩:PS)=⟨1,⟨D.year,D.farm,D.ver, []++D.aw, []⟩,0⟩ from rfl,e,List.nil_append,List.nil_append];have ht:=tot_small hok.aw hok.al D.aw.length mle;rw[List.take_length]at ht;have hal:=hok.al;have hT:∀v ∈ [totW D.aw],Nm v:=by
  intro v hv;rw[List.mem_singleton.1 hv];exact nm ht.1 (by omega)
 obtain⟨t1,t2⟩:=words_ok (f:=wTotal) (l := [totW D.aw].map Lib.itoa) (by decide) (nm_words hT);have hTB:=numsB_nm hT;have hs2:stepW ⟨p', ⟨D.year,D.farm,D.ver,D.aw,D.rs⟩,0⟩ (Wo.pcs 32 [] (totL D))=some ⟨3,D,totW D.aw⟩:=by
  unfold totL;rw[lineT_unw,t1,stepW_cons,if_neg (by decide),if_neg (by decide),if_neg (by decide),if_pos rfl];unfold Dn.stepT;have hm:midB ⟨p', ⟨D.year,D.farm,D.ver,D.aw,D.rs⟩,0⟩=true:=by unfold midB;rcases hp' with rfl|rfl<;>rfl
  rw[if_pos (by rw[show [totW D.aw].length=1 from rfl]at hTB;rw[hTB,hm];rfl)]
  show some (PS.mk 3 D (nv (Lib.itoa (totW D.aw))))=_
  rw[(hT _ (by simp)).nv]
 rw[run_line (by unfold totL;rw[lineT_unw];exact t2) hs2,run_nil];unfold fin;rw[if_neg (by simp),if_neg (by simp[h]),if_neg (by simp)]
end Dn
open Te
theorem refdec_any (n:Int)(w:World)(h0 : -9223372036854775808≤n)(h1:n≤9223372036854775807):Calls Tryz.prog 99 #[I O n] w (DecGive n w):=refdecimal_any (n.natAbs+1) n w (by omega) h0 h1
theorem fst_ne {f:Nat→Int}{n k:Nat}(h:fst f n=some k):k<n∧f k≠0:=by
 unfold fst at h;have h1:=List.mem_of_find?_eq_some h;have h2:=List.find?_some h;exact⟨List.mem_range.1 h1,by simpa using h2⟩
theorem fst_no {f:Nat→Int}{n:Nat}(h:fst f n=none):∀j,j<n→f j=0:=by
 intro j hj;unfold fst at h;rw[List.find?_eq_none]at h
 simpa using h j (List.mem_range.2 hj)
theorem chk_fine {L:List Sch}(h:(chk17 L).2=0):chk17 L=(-1,0)∧L.length≤16∧(∀j,j<L.length→errA L j=0)∧(∀j,j<L.length→errB L j=0):=by
 by_cases h16:16<L.length
 ·rw[chk_long h16]at h;cases h
 cases hA:fst (errA L) L.length with
 | some i =>
   have e:chk17 L=((i:Int),errA L i):=by unfold chk17;rw[if_neg h16,hA]
   rw[e]at h;exact absurd h (fst_ne hA).2
 | none =>
   cases hB:fst (errB L) L.length with
   | some i =>
     have e:chk17 L=((i:Int),17):=by unfold chk17;rw[if_neg h16,hA];simp only;rw[hB]
     rw[e]at h
     cases h
   | none=>exact⟨chk_ok h16 (fst_no hA) (fst_no hB),by omega,fst_no hA,fst_no hB⟩
theorem one_brk (W:World)(b:Brk):Recs SBk (W.alloc (.cells #[I O b.up,I O b.rate] 143)) (some ⟨W.heap.size,0,none⟩) [b]:=Recs.lit (S:=SBk) W 143 [b] (by show 1≤_;unfold maxLen;omega)
def NewQ (B:Nat):Nat→Prop:=fun b=>B≤b
def put4 (W:World) (b:Nat) (x0 x1 x2 x3:Value):World:=(((W.setCell ⟨b,0,none⟩ x0).setCell ⟨b,1,none⟩ x1).setCell ⟨b,2,none⟩ x2).setCell ⟨b,3,none⟩ x3
theorem put4_block (W:World)(b:Nat)(x0 x1 x2 x3:Value):(put4 W b x0 x1 x2 x3).heap.size=W.heap.size∧∀k,k≠b→(put4 W b x0 x1 x2 x3).heap[k]?=W.heap[k]?:=by
 refine⟨by simp[put4,World.setCell],fun k hk=>?_⟩
 unfold put4
 simp[World.setCell,Array.getElem?_modify,Ne.symm hk]
theorem put4_below {B b:Nat}{W:World}(hb:B≤b)(x0 x1 x2 x3:Value):Below B W (put4 W b x0 x1 x2 x3) :=
 ((((brf B W).setCell hb _).setCell hb _).setCell hb _).setCell hb _
theorem put4_but {rd:Nat}{w W:World}(hb:But rd w W)(x0 x1 x2 x3:Value):But rd w (put4 W w.heap.size x0 x1 x2 x3) :=
 hb.stpB (put4_below mle x0 x1 x2 x3) mle
structure LwR (B d:Nat) (wr:World) (v:Value) (R:List RSx) (L:List Sch):Prop where
 hl:R.length=L.length
 own:OwnR SSc wr 112 B v R
 rows:∀k (h:k<R.length) (h' : k<L.length),SV (Qx B v none) wr d R[k] L[k]
def LwAt (B:Nat) (wr:World) (v:Value) (L:List Sch):Prop:=∃d R,LwR B d wr v R L
theorem LwAt.nil (B:Nat)(wr:World):LwAt B wr (.slice none 0 0) []:=⟨0, [],rfl,OwnR.nil _ _ _,fun k h=>by simp at h⟩
theorem LwR.blocks {B d:Nat}{wr w' : World}{v:Value}{R:List RSx}{L:List Sch}(h:LwR B d wr v R L)(hs:wr.heap.size≤w'.heap.size)(hb:∀b,B≤b→b<wr.heap.size→w'.heap[b]?=wr.heap[b]?):LwR B d w' v R L :=
 ⟨h.hl,h.own.blocks fun g _ h3 h4=>hb g h3 h4,fun k a b=>(h.rows k a b).change hs fun b q hl=>⟨hb b q.1 hl,q⟩⟩
theorem LwAt.blocks {B:Nat}{wr w' : World}{v:Value}{L:List Sch}(h:LwAt B wr v L)(hs:wr.heap.size≤w'.heap.size)(hb:∀b,B≤b→b<wr.heap.size→w'.heap[b]?=wr.heap[b]?):LwAt B w' v L:=by
 obtain⟨d,R,h⟩:=h;exact⟨d,R,h.blocks hs hb⟩
theorem LwAt.below {B:Nat}{wr w' : World}{v:Value}{L:List Sch}(h:LwAt B wr v L)(hb:Below wr.heap.size wr w'):LwAt B w' v L:=h.blocks hb.size fun b _ hl=>hb.block b hl
theorem LwAt.but {B t:Nat}{wr w' : World}{v:Value}{L:List Sch}(h:LwAt B wr v L)(hb:But t wr w')(ht:t<B):LwAt B w' v L:=h.blocks hb.size fun b h1 hl=>hb.block b hl (by omega)
theorem LwR.push {B d d' t G:Nat}{wr w5 w6:World}{v v6:Value}{R:List RSx}{L:List Sch}{r:RSx}{s:Sch}(h:LwR B d wr v R L)(hB:B≤wr.heap.size)(hb:But t wr w5)(ht:t<B)(hG:w5.heap.size≤G)(hv:SV (NewQ wr.heap.size) w5 d' r s)
  (hO:OwnR SSc w6 112 B v6 (R ++ [r])) (hap:Appends w5 w6 B G v v6):LwAt B w6 v6 (L ++ [s]):=by
 have hsz:wr.heap.size≤w6.heap.size:=Nat.le_trans hb.size hap.size;refine⟨max d d', R ++ [r],by rw[lap,lap,h.hl];rfl,hO,fun k a b=>?_⟩
 by_cases hlt:k<R.length
 ·rw[List.getElem_append_left hlt,List.getElem_append_left (by rw[← h.hl];exact hlt)]
  refine((h.rows k hlt (by rw[← h.hl];exact hlt)).change hsz fun b q hl=>?_).deep (Nat.le_max_left _ _)
  have hl5:=nll hl hb.size;exact⟨(hap.far b hl5 q.2.1).trans (hb.block b hl (by have:=q.1;omega)),q.1,hap.apart hG hl5 q.2.1,fun e=>by cases e⟩
 ·have ek:k=R.length:=by rw[lap]at a;simp at a;omega
  subst ek;rw[List.getElem_append_right mle,List.getElem_append_right (by rw[h.hl];exact Nat.le_refl _)];simp only[Nat.sub_self,h.hl,List.getElem_cons_zero];refine(hv.change hap.size fun b q hl=>?_).deep (Nat.le_max_right _ _);have hn:v.ownBlock≠some b:=fun e=>by have:=(h.own.lt e).2;unfold NewQ at q;omega
  exact⟨hap.far b hl hn,by unfold NewQ at q;omega,hap.apart hG hl hn,fun e=>by cases e⟩
theorem LwAt.at {B:Nat}{wr:World}{v:Value}{L:List Sch}(h:LwAt B wr v L){k:Nat}(hk:k<L.length) :
  ∃g c r,v = .slice (some ⟨g,0,none⟩) L.length c∧L.length≤c∧B≤g∧g<wr.heap.size∧SCells wr g (k*10) r∧r.num=L[k].num∧r.ex=L[k].ex∧(∀i,wr.frozen? ⟨g,i,none⟩=false) ∧
    ∀x,LwAt B (wr.setCell ⟨g,k*10+8,none⟩ (I O x)) v (L.set k { L[k] with ex:=x }):=by
 obtain⟨d,R,h⟩:=h;have hk' : k<R.length:=by rw[h.hl];exact hk
 obtain⟨p,c,e, -, -,hc, -, -⟩:=h.own.cut h.hl;have ho:=h.own;rw[e]at ho;obtain⟨g,eg,hn,hB,hg,hcl,hf,hs⟩:=ho.at hk'; have hk10:SSc.k=10:=rfl;rw[hk10]at hcl hs;have hrow:=h.rows k hk' hk;refine⟨g,c,R[k],by rw[e,eg],hc,hB,hg,⟨hcl 0 _ rfl,hcl 1 _ rfl,hcl 2 _ rfl,hcl 3 _ rfl,hcl 4 _ rfl,hcl 5 _ rfl,hcl 6 _ rfl,hcl 7 _ rfl,hcl 8 _ rfl,hcl 9 _ rfl⟩,hrow.num,hrow.ex,hf,fun x=>?_⟩;have ho2:=hs 8 (I O x) { R[k] with ex:=x } (by omega) rfl;have key:∀b,Qx B v none b→b<wr.heap.size→(wr.setCell ⟨g,k*10+8,none⟩ (I O x)).heap[b]?=wr.heap[b]?∧Qx B v none b:=fun b q _=>⟨setCell_far _ (fun e2=>q.2.1 (by rw[e,eg,e2];rfl)) _ _,q⟩
 refine⟨d,R.set k { R[k] with ex:=x },by rw[List.length_set,List.length_set,h.hl],by rw[e];exact ho2,fun j a b=>?_⟩
 rw[List.length_set]at a b;have hz:wr.heap.size≤(wr.setCell ⟨g,k*10+8,none⟩ (I O x)).heap.size:=by rw[setCell_sz];exact Nat.le_refl _
 rw[List.getElem_set,List.getElem_set]
 by_cases ej:k=j
 ·subst ej
  rw[if_pos rfl,if_pos rfl];have:=hrow.change hz key;exact⟨this.num,this.nm,this.t,this.br,this.bn,this.bc,this.bz,this.bq,this.least,rfl,this.needs⟩
 ·rw[if_neg ej,if_neg ej]
  exact(h.rows j a b).change hz key
theorem LwAt.ss {B:Nat}{wr:World}{v:Value}{L:List Sch}(h:LwAt B wr v L){n:Nat}(hn:L.length=n):∃p c d,v = .slice p n c∧n≤c∧(p=none→c=0)∧SsAt (fun b=>B≤b) wr d p L:=by
 obtain⟨d,R,h⟩:=h;obtain⟨p,c,e,h1,h2,h3, -,h5⟩:=h.own.cut (h.hl.trans hn);exact⟨p,c,d,e,h3,fun e=>(h1 e).1,⟨R,h.hl,h5,fun k a b=>(h.rows k a b).change mle fun b q _=>⟨rfl,q.1⟩⟩,fun a ea => .inr (h2 a ea).2.2.1⟩
structure SmallS (s:Sch):Prop where
 nm:s.nm.size≤40
 ct:count s.cond<8
 n0:0≤s.num
 n3:s.num≤3
theorem SmallS.put {L:List Sch}(h:∀s∈L,SmallS s){k:Nat}(hk:k<L.length)(x:Int):∀s∈L.set k { L[k] with ex:=x },SmallS s:=by
 intro s hs
 rcases List.mem_or_eq_of_mem_set hs with hs|rfl
 ·exact h s hs
 ·have:=h L[k] (List.getElem_mem hk)
  exact⟨this.nm,this.ct,this.n0,this.n3⟩
def LawGive (t:Nat) (l:List Int) (most:Nat) (w:World) (e:Ending) (w' : World):Prop :=
 ∃(v:Value) (L:List Sch) (q:Nat),e = .returned v∧LwAt w.heap.size w' v L∧chk17 L=(-1,0)∧L.length≤most∧(∀s∈L,SmallS s)∧TapeAt w' t l q∧But t w w'
/-! ### the block of a term -/
structure TB (b:Nat) (W:World) (x0 x1 x2 x3:Value):Prop where
 c0:W.cell? ⟨b,0,none⟩=some x0
 c1:W.cell? ⟨b,1,none⟩=some x1
 c2:W.cell? ⟨b,2,none⟩=some x2
 c3:W.cell? ⟨b,3,none⟩=some x3
 f0:W.frozen? ⟨b,0,none⟩=false
 f1:W.frozen? ⟨b,1,none⟩=false
 f2:W.frozen? ⟨b,2,none⟩=false
 f3:W.frozen? ⟨b,3,none⟩=false
 lt:b<W.heap.size
theorem TB.blk {b:Nat}{W W' : World}{x0 x1 x2 x3:Value}(h:TB b W x0 x1 x2 x3)(hs:W.heap.size≤W'.heap.size)(e:W'.heap[b]?=W.heap[b]?):TB b W' x0 x1 x2 x3:=by
 have c:∀i,W'.cell? ⟨b,i,none⟩=W.cell? ⟨b,i,none⟩:=fun i=>World.cell?_of_block (w:=W) e
 have f:∀i,W'.frozen? ⟨b,i,none⟩=W.frozen? ⟨b,i,none⟩:=fun i=>by simp only[World.frozen?,e]
 exact⟨(c 0).trans h.c0,(c 1).trans h.c1,(c 2).trans h.c2,(c 3).trans h.c3,(f 0).trans h.f0,(f 1).trans h.f1,(f 2).trans h.f2,(f 3).trans h.f3,nll h.lt hs⟩
theorem TB.below {b:Nat}{W W' : World}{x0 x1 x2 x3:Value}(h:TB b W x0 x1 x2 x3)(hb:Below W.heap.size W W'):TB b W' x0 x1 x2 x3:=h.blk hb.size (hb.block b h.lt)
theorem sizeCell17 (W:World)(b i:Nat)(v:Value):(W.setCell ⟨b,i,none⟩ v).heap.size=W.heap.size:=by simp[World.setCell]
theorem TB.set0 {b:Nat}{W:World}{x0 x1 x2 x3:Value}(h:TB b W x0 x1 x2 x3)(v:Value):TB b (W.setCell ⟨b,0,none⟩ v) v x1 x2 x3 :=
 ⟨World.cell?_setCell_same _ _ _ h.c0,(World.cell?_setCell_other _ _ _ _ (fun e=>by cases e)).trans h.c1,(World.cell?_setCell_other _ _ _ _ (fun e=>by cases e)).trans h.c2,(World.cell?_setCell_other _ _ _ _ (fun e=>by cases e)).trans h.c3,
  (World.frozen?_setCell _ _ _ _).trans h.f0,(World.frozen?_setCell _ _ _ _).trans h.f1,(World.frozen?_setCell _ _ _ _).trans h.f2,(World.frozen?_setCell _ _ _ _).trans h.f3,by rw[sizeCell17];exact h.lt⟩
theorem TB.set1 {b:Nat}{W:World}{x0 x1 x2 x3:Value}(h:TB b W x0 x1 x2 x3)(v:Value):TB b (W.setCell ⟨b,1,none⟩ v) x0 v x2 x3 :=
 ⟨(World.cell?_setCell_other _ _ _ _ (fun e=>by cases e)).trans h.c0,World.cell?_setCell_same _ _ _ h.c1,(World.cell?_setCell_other _ _ _ _ (fun e=>by cases e)).trans h.c2,(World.cell?_setCell_other _ _ _ _ (fun e=>by cases e)).trans h.c3,
   (World.frozen?_setCell _ _ _ _).trans h.f0,(World.frozen?_setCell _ _ _ _).trans h.f1,(World.frozen?_setCell _ _ _ _).trans h.f2,(World.frozen?_setCell _ _ _ _).trans h.f3,by rw[sizeCell17];exact h.lt⟩
theorem TB.set2 {b:Nat}{W:World}{x0 x1 x2 x3:Value}(h:TB b W x0 x1 x2 x3)(v:Value):TB b (W.setCell ⟨b,2,none⟩ v) x0 x1 v x3 :=
 ⟨(World.cell?_setCell_other _ _ _ _ (fun e=>by cases e)).trans h.c0,(World.cell?_setCell_other _ _ _ _ (fun e=>by cases e)).trans h.c1,World.cell?_setCell_same _ _ _ h.c2,(World.cell?_setCell_other _ _ _ _ (fun e=>by cases e)).trans h.c3,
   (World.frozen?_setCell _ _ _ _).trans h.f0,(World.frozen?_setCell _ _ _ _).trans h.f1,(World.frozen?_setCell _ _ _ _).trans h.f2,(World.frozen?_setCell _ _ _ _).trans h.f3,by rw[sizeCell17];exact h.lt⟩
theorem TB.set3 {b:Nat}{W:World}{x0 x1 x2 x3:Value}(h:TB b W x0 x1 x2 x3)(v:Value):TB b (W.setCell ⟨b,3,none⟩ v) x0 x1 x2 v :=
 ⟨(World.cell?_setCell_other _ _ _ _ (fun e=>by cases e)).trans h.c0,(World.cell?_setCell_other _ _ _ _ (fun e=>by cases e)).trans h.c1,(World.cell?_setCell_other _ _ _ _ (fun e=>by cases e)).trans h.c2,World.cell?_setCell_same _ _ _ h.c3,
   (World.frozen?_setCell _ _ _ _).trans h.f0,(World.frozen?_setCell _ _ _ _).trans h.f1,(World.frozen?_setCell _ _ _ _).trans h.f2,(World.frozen?_setCell _ _ _ _).trans h.f3,by rw[sizeCell17];exact h.lt⟩
theorem TB.res {b:Nat}{W:World}{x0 x1 x2 x3:Value}(h:TB b W x0 x1 x2 x3)(y0 y1 y2 y3:Value):TB b (put4 W b y0 y1 y2 y3) y0 y1 y2 y3:=(((h.set0 y0).set1 y1).set2 y2).set3 y3
/-! ### what read gives -/
end Go.Proofs.YtljibgchickcpaaGreatDoor
