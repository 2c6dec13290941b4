/- Packed. -/
import Derived.Test.YtefcalgjnkigjaaGreatL22
set_option maxRecDepth 100000
set_option maxHeartbeats 4000000
open Go.Value renaming int → I
open Go.IntKind renaming i64 → O
namespace Go.Proofs.YtefcalgjnkigjaaGreat
open Go.RowKit Sc As
noncomputable def jQ:Array Oper :=
 match Tryz.f8.body with
 | some (.seq _ (.seq (.region _ ops _) _))=>ops
 | _=>#[]
structure LwD where
 q:Nat
 d:Nat
 sp:Option Addr
 sc:Nat
 L:List Sch
 tp:Option Addr
 tc:Nat
 D:List (Int × Int)
 x:Int
 y:Int
 z:Int
 gp:Option Addr
 gc:Nat
 E:List (Int × Int)
 c4:Int
 c5:Int
 X:Nat
 u:Int
 c7:Int
 gv:Nat
 gb:Nat
def jK (t g:Nat) (v3 v5 v7 v9 v11 v13 v15 v16 v18 v19 v20 v22 v23:Value):Act :=
 ⟨#[.pointer (some ⟨t,0,none⟩),undef,.pointer (some ⟨g,0,none⟩),v3,.pointer (some ⟨t,0,none⟩),v5,.pointer (some ⟨t,0,none⟩),v7,.pointer (some ⟨t,0,none⟩),v9,.pointer (some ⟨t,0,none⟩),v11,.pointer (some ⟨t,0,none⟩),v13,.pointer (some ⟨t,0,none⟩),v15,v16,.pointer (some ⟨t,0,none⟩),v18,v19,v20,.pointer (some ⟨t,0,none⟩),v22,v23,undef,undef,undef,undef,undef,undef,undef], []⟩
def LwD.a3 (S:LwD):Value := .pointer (some ⟨S.gv,0,none⟩)
def LwD.a5 (S:LwD):Value := .slice S.sp S.L.length S.sc
def LwD.a7 (S:LwD):Value := .slice S.tp S.D.length S.tc
def LwD.a9 (S:LwD):Value := .agg #[I O S.x,I O S.y,I O S.z]
def LwD.a11 (S:LwD):Value := .slice S.gp S.E.length S.gc
def LwD.a13 (S:LwD):Value:=I O S.c4
def LwD.a15 (S:LwD):Value:=I O S.c5
def LwD.a16 (S:LwD):Value := .slice (some ⟨S.gb,0,none⟩) 4 4
def LwD.a18 (S:LwD):Value:=I O (S.X:Int)
def LwD.a19 (S:LwD):Value := .pointer (some ⟨S.gb,S.X,none⟩)
def LwD.a20 (S:LwD):Value:=I O S.u
def LwD.a22 (S:LwD):Value:=I O S.c7
def LwD.a23 (S:LwD):Value := .agg #[.slice S.sp S.L.length S.sc,.slice S.tp S.D.length S.tc,I O S.x,I O S.y,I O S.z,.slice S.gp S.E.length S.gc,I O S.c4,I O S.c5,I O S.u,I O S.c7]
def Pq (W:World) (g:Nat) (V:Bool) (gv:Nat) (p:Option Addr) (K:List (Int × Int)):Prop:=jF W p K∧∀a,p=some a→K = []∨(g<a.block∧(V=true→a.block≠gv))
structure LwJ (w W:World) (t:Nat) (l:List Int) (g:Nat) (S:LwD) (i:Nat) (V B D:Bool):Prop where
 tp:TpB w W t l S.q
 res:Blk W g #[.slice none 0 0,.slice none 0 0,I O 0,I O 0,I O 0,.slice none 0 0,I O 0,I O 0,I O 0,I O 0] 29
 ord:w.heap.size≤g
 hs:1≤i→xY (fun b=>g<b∧(V=true→b≠S.gv)) W S.d S.sp S.L∧S.L.length≤S.sc∧jU S.L=(-1,0)∧1≤S.L.length∧S.L.length≤3∧∀s∈S.L,yZ s
 ht:2≤i→Pq W g V S.gv S.tp S.D∧Re.Right S.D
 hl:3≤i→nP ⟨S.x,S.y,S.z⟩∧S.x<40
 hd:4≤i→Pq W g V S.gv S.gp S.E∧Ce.Right S.E
 h5:5≤i→0≤S.c4∧S.c4<20000
 h6:6≤i→0≤S.c5∧S.c5<30000
 h7:7≤i→S.X<4
 h8:8≤i→0≤S.c7∧S.c7<150
 hv:V=true→Blk W S.gv #[.slice none 0 0,.slice none 0 0,I O 0,I O 0,I O 0,.slice none 0 0,I O 0,I O 0,I O 0,I O 0] 29∧g<S.gv
 hb:B=true→Blk W S.gb #[I O 1,I O 1,I O 10,I O 100] 3∧g<S.gb
 hu:D=true→1≤S.u∧S.u≤100
section
variable {w W W' : World} {t g:Nat} {l:List Int} {S:LwD} {i:Nat} {V B D:Bool}
theorem yL.lowB {T:TypeId}{C n c:Nat}{p:Option Addr}{K:List (Int × Int)}(h:yL W T C (.slice p n c) K):∀a,p=some a→C≤a.block:=fun a e=>by
 subst e
 rcases h.2 with⟨hv,_⟩|⟨g,cap,cur,hv,hB,_⟩
 ·cases hv
 ·cases hv;exact hB
theorem Pq.but {gv:Nat}{p:Option Addr}{K:List (Int × Int)}(h:Pq W g V gv p K)(hb:But t W W')(hg:t<g):Pq W' g V gv p K:=by
 refine⟨?_,h.2⟩
 by_cases h0:K = []
 ·exact h.1.blocks hb.size fun a _ => .inl h0
 ·exact h.1.blocks hb.size fun a e => .inr (hb.block _ (h.1.lt h0 e) (by rcases h.2 a e with h|h;exact absurd h h0;omega))
theorem Pq.var {gv:Nat}{p:Option Addr}{K:List (Int × Int)}(h:Pq W g V gv p K)(o:Obj):Pq (W.alloc o) g true W.heap.size p K:=by
 have k:jF (W.alloc o) p K:=h.1.blocks (by simp) fun a e=>by
  by_cases h0:K = []
  ·exact .inl h0
  ·exact .inr (((brf W.heap.size W).alloc mle o).block _ (h.1.lt h0 e))
 refine⟨k,fun a e=>?_⟩
 by_cases h0:K = []
 ·exact .inl h0
 ·have:=h.1.lt h0 e
  rcases h.2 a e with h|h
  ·exact absurd h h0
  ·exact .inr ⟨h.1,fun _=>by omega⟩
theorem LwJ.tg (h:LwJ w W t l g S i V B D):t<g:=nll h.tp.lt h.ord
theorem LwJ.gl (h:LwJ w W t l g S i V B D):g<W.heap.size:=h.res.lt
theorem LwJ.but (h:LwJ w W t l g S i V B D){q:Nat}(ht:qV W' t l q)(hb:But t W W'):LwJ w W' t l g { S with q:=q } i V B D:=by
 have htg:=h.tg
 exact⟨h.tp.next ht hb,h.res.but hb (by omega),h.ord,
  fun e=>⟨(h.hs e).1.change hb.size fun b q hl=>⟨hb.block b hl (by have:g<b:=q.1;omega),q⟩,(h.hs e).2⟩,
  fun e=>⟨(h.ht e).1.but hb htg,(h.ht e).2⟩,h.hl,fun e=>⟨(h.hd e).1.but hb htg,(h.hd e).2⟩,h.h5,h.h6,h.h7,h.h8,
  fun e=>⟨(h.hv e).1.but hb (by have:=(h.hv e).2;omega),(h.hv e).2⟩,fun e=>⟨(h.hb e).1.but hb (by have:=(h.hb e).2;omega),(h.hb e).2⟩,h.hu⟩
theorem LwJ.below (h:LwJ w W t l g S i V B D)(hb:Below W.heap.size W W'):LwJ w W' t l g S i V B D:=h.but (h.tp.tape.below hb) (.of_below hb)
theorem LwJ.c0 {q d sc:Nat}{sp:Option Addr}{L:List Sch}(h:LwJ w W t l g S 0 V B D)(hp:TpB W W' t l q)(hS:xY (fun b=>W.heap.size≤b) W' d sp L)(hsc:L.length≤sc)(hc:jU L=(-1,0))(h1:1≤L.length)(h3:L.length≤3)(hsm:∀s∈L,yZ s) :
  LwJ w W' t l g { S with q:=q,d:=d,sp:=sp,sc:=sc,L:=L } 1 V B D:=by
 have k:=h.but hp.tape hp.but;have hgl:=h.gl;exact⟨k.tp,k.res,k.ord,fun _=>⟨hS.change mle fun b q _=>⟨rfl,by have:W.heap.size≤b:=q;exact⟨by omega,fun hV=>by have:=(h.hv hV).1.lt;show b≠S.gv;omega⟩⟩,hsc,hc,h1,h3,hsm⟩,fun e=>by omega,fun e=>by omega,fun e=>by omega,fun e=>by omega,fun e=>by omega,fun e=>by omega,fun e=>by omega,k.hv,k.hb,k.hu⟩
theorem LwJ.c1 {q tc:Nat}{tp:Option Addr}{K:List (Int × Int)}{T:TypeId}(h:LwJ w W t l g S 1 V B D)(ht:qV W' t l q)(hb:But t W W')(hO:yL W' T W.heap.size (.slice tp K.length tc) K)(hR:Re.Right K) :
  LwJ w W' t l g { S with q:=q,tp:=tp,tc:=tc,D:=K } 2 V B D:=by
 have k:=h.but ht hb;have hgl:=h.gl;exact⟨k.tp,k.res,k.ord,fun _=>k.hs mle,fun _=>⟨⟨hO.pairs_at,fun a e => .inr ⟨by have:=hO.lowB a e;omega,fun hV=>by have:=(h.hv hV).1.lt;have:=hO.lowB a e;show a.block≠S.gv;omega⟩⟩,hR⟩,fun e=>by omega,fun e=>by omega,fun e=>by omega,fun e=>by omega,fun e=>by omega,fun e=>by omega,k.hv,k.hb,k.hu⟩
theorem LwJ.c2 {q:Nat}{x y z:Int}(h:LwJ w W t l g S 2 V B D)(hp:TpB W W' t l q)(hl:nP ⟨x,y,z⟩∧x<40):LwJ w W' t l g { S with q:=q,x:=x,y:=y,z:=z } 3 V B D:=by
 have k:=h.but hp.tape hp.but;exact⟨k.tp,k.res,k.ord,fun _=>k.hs (by omega),fun _=>k.ht (by omega),fun _=>hl,fun e=>by omega,fun e=>by omega,fun e=>by omega,fun e=>by omega,fun e=>by omega,k.hv,k.hb,k.hu⟩
theorem LwJ.c3 {q tc:Nat}{tp:Option Addr}{K:List (Int × Int)}{T:TypeId}(h:LwJ w W t l g S 3 V B D)(ht:qV W' t l q)(hb:But t W W')(hO:yL W' T W.heap.size (.slice tp K.length tc) K)(hR:Ce.Right K) :
  LwJ w W' t l g { S with q:=q,gp:=tp,gc:=tc,E:=K } 4 V B D:=by
 have k:=h.but ht hb;have hgl:=h.gl;exact⟨k.tp,k.res,k.ord,fun _=>k.hs (by omega),fun _=>k.ht (by omega),fun _=>k.hl (by omega),fun _=>⟨⟨hO.pairs_at,fun a e => .inr ⟨by have:=hO.lowB a e;omega,fun hV=>by have:=(h.hv hV).1.lt;have:=hO.lowB a e;show a.block≠S.gv;omega⟩⟩,hR⟩,fun e=>by omega,fun e=>by omega,fun e=>by omega,fun e=>by omega,k.hv,k.hb,k.hu⟩
theorem LwJ.c4 {q:Nat}{c:Int}(h:LwJ w W t l g S 4 V B D)(ht:qV W' t l q)(hb:But t W W')(hc:0≤c∧c<20000):LwJ w W' t l g { S with q:=q,c4:=c } 5 V B D:=by
 have k:=h.but ht hb;exact⟨k.tp,k.res,k.ord,fun _=>k.hs (by omega),fun _=>k.ht (by omega),fun _=>k.hl (by omega),fun _=>k.hd (by omega),fun _=>hc,fun e=>by omega,fun e=>by omega,fun e=>by omega,k.hv,k.hb,k.hu⟩
theorem LwJ.c5 {q:Nat}{c:Int}(h:LwJ w W t l g S 5 V B D)(ht:qV W' t l q)(hb:But t W W')(hc:0≤c∧c<30000):LwJ w W' t l g { S with q:=q,c5:=c } 6 V B D:=by
 have k:=h.but ht hb;exact⟨k.tp,k.res,k.ord,fun _=>k.hs (by omega),fun _=>k.ht (by omega),fun _=>k.hl (by omega),fun _=>k.hd (by omega),fun _=>k.h5 (by omega),fun _=>hc,fun e=>by omega,fun e=>by omega,k.hv,k.hb,k.hu⟩
theorem LwJ.c6 {q:Nat}{X:Nat}(h:LwJ w W t l g S 6 V B D)(ht:qV W' t l q)(hb:But t W W')(hc:X<4):LwJ w W' t l g { S with q:=q,X:=X } 7 V B D:=by
 have k:=h.but ht hb;exact⟨k.tp,k.res,k.ord,fun _=>k.hs (by omega),fun _=>k.ht (by omega),fun _=>k.hl (by omega),fun _=>k.hd (by omega),fun _=>k.h5 (by omega),fun _=>k.h6 (by omega),fun _=>hc,fun e=>by omega,k.hv,k.hb,k.hu⟩
theorem LwJ.c7 {q:Nat}{c:Int}(h:LwJ w W t l g S 7 V B D)(ht:qV W' t l q)(hb:But t W W')(hc:0≤c∧c<150):LwJ w W' t l g { S with q:=q,c7:=c } 8 V B D:=by
 have k:=h.but ht hb;exact⟨k.tp,k.res,k.ord,fun _=>k.hs (by omega),fun _=>k.ht (by omega),fun _=>k.hl (by omega),fun _=>k.hd (by omega),fun _=>k.h5 (by omega),fun _=>k.h6 (by omega),fun _=>k.h7 (by omega),fun _=>hc,k.hv,k.hb,k.hu⟩
theorem LwJ.var (h:LwJ w W t l g S i V B D):LwJ w (W.alloc (.cells #[.slice none 0 0,.slice none 0 0,I O 0,I O 0,I O 0,.slice none 0 0,I O 0,I O 0,I O 0,I O 0] 29)) t l g { S with gv:=W.heap.size } i true B D:=by
 have k:=h.below ((brf W.heap.size W).alloc mle (.cells #[.slice none 0 0,.slice none 0 0,I O 0,I O 0,I O 0,.slice none 0 0,I O 0,I O 0,I O 0,I O 0] 29));exact⟨k.tp,k.res,k.ord,fun e=>⟨(h.hs e).1.change (by simp) fun b q hl=>⟨((brf W.heap.size W).alloc mle (.cells #[.slice none 0 0,.slice none 0 0,I O 0,I O 0,I O 0,.slice none 0 0,I O 0,I O 0,I O 0,I O 0] 29)).block b hl,q.1,fun _=>Nat.ne_of_lt hl⟩,(h.hs e).2⟩,fun e=>⟨(h.ht e).1.var _,(h.ht e).2⟩,k.hl,fun e=>⟨(h.hd e).1.var _,(h.hd e).2⟩,k.h5,k.h6,k.h7,k.h8,fun _=>⟨Blk.new _ _ _,h.gl⟩,k.hb,k.hu⟩
theorem LwJ.lit (h:LwJ w W t l g S i V B D):LwJ w (W.alloc (.cells #[I O 1,I O 1,I O 10,I O 100] 3)) t l g { S with gb:=W.heap.size } i V true D:=by
 have k:=h.below ((brf W.heap.size W).alloc mle (.cells #[I O 1,I O 1,I O 10,I O 100] 3));exact⟨k.tp,k.res,k.ord,k.hs,k.ht,k.hl,k.hd,k.h5,k.h6,k.h7,k.h8,k.hv,fun _=>⟨Blk.new _ _ _,h.gl⟩,k.hu⟩
theorem LwJ.load {u:Int}(h:LwJ w W t l g S i V B D)(hu:1≤u∧u≤100):LwJ w W t l g { S with u:=u } i V B true :=
 ⟨h.tp,h.res,h.ord,h.hs,h.ht,h.hl,h.hd,h.h5,h.h6,h.h7,h.h8,h.hv,h.hb,fun _=>hu⟩
theorem LwJ.cellX (h:LwJ w W t l g S i V B D)(hB:B=true)(hi:7≤i):∃u:Int,W.cell? ⟨S.gb,S.X,none⟩=some (I O u)∧1≤u∧u≤100:=by
 have hx:=h.h7 hi;have hb:=(h.hb hB).1;rw[hb.cell];generalize S.X=X at *
 match X,hx with
 | 0,_=>exact⟨1,rfl,by omega⟩
 | 1,_=>exact⟨1,rfl,by omega⟩
 | 2,_=>exact⟨10,rfl,by omega⟩
 | 3,_=>exact⟨100,rfl,by omega⟩
end
def vW (w:World) (g:Nat) (u0 u1 u2 u3 u4 u5 u6 u7 u8 u9:Value):World :=
 (((((((((w.setCell ⟨g,0,none⟩ u0).setCell ⟨g,1,none⟩ u1).setCell ⟨g,2,none⟩ u2).setCell ⟨g,3,none⟩ u3).setCell ⟨g,4,none⟩ u4).setCell ⟨g,5,none⟩ u5).setCell ⟨g,6,none⟩ u6).setCell ⟨g,7,none⟩ u7).setCell ⟨g,8,none⟩ u8).setCell ⟨g,9,none⟩ u9
def jX (Q:Exit→Act→World→Prop) (w:World) (t:Nat) (l:List Int) (g:Nat):Prop :=
 (∀(S:LwD) (W:World),LwJ w W t l g S 8 true true true→Q .normal (jK t g S.a3 S.a5 S.a7 S.a9 S.a11 S.a13 S.a15 S.a16 S.a18 S.a19 S.a20 S.a22 S.a23) (vW W S.gv (.slice S.sp S.L.length S.sc) (.slice S.tp S.D.length S.tc) (I O S.x) (I O S.y) (I O S.z) (.slice S.gp S.E.length S.gc) (I O S.c4) (I O S.c5) (I O S.u) (I O S.c7))) ∧
 ∀(c:_) (a:Act) (s:Option Nat) (v:Value) (W:World),Q (.panic c) (a.put s v) W→Q (.panic c) a W
section
variable {Q:Exit→Act→World→Prop} {w W:World} {t g:Nat} {l:List Int} {S:LwD}
theorem mS (J:LwJ w W t l g S 8 true true true)(HQ:jX Q w t l g) :
  wpAnyH Tryz.prog .any jQ Q (fun _=>True) 1 #[true,true,true,true,true,true,true,true,true,true,true,true,true,true,true,true,true,true,true,true,true,false] (jK t g S.a3 S.a5 S.a7 S.a9 S.a11 S.a13 S.a15 S.a16 S.a18 S.a19 S.a20 S.a22 S.a23) W:=by
 dsimp only[jK,LwD.a3,LwD.a5,LwD.a7,LwD.a9,LwD.a11,LwD.a13,LwD.a15,LwD.a16,LwD.a18,LwD.a19,LwD.a20,LwD.a22,LwD.a23]
 have hv:=(J.hv rfl).1;have J0:=mh J;have HQ0:=mh HQ;clear J HQ;have z0:=hv.cell 0;have z1:=hv.cell 1;have z2:=hv.cell 2;have z3:=hv.cell 3;have z4:=hv.cell 4;have z5:=hv.cell 5;have z6:=hv.cell 6;have z7:=hv.cell 7;have z8:=hv.cell 8;have z9:=hv.cell 9;have f0:=hv.fr 0;have f1:=hv.fr 1;have f2:=hv.fr 2;have f3:=hv.fr 3;have f4:=hv.fr 4;have f5:=hv.fr 5;have f6:=hv.fr 6;have f7:=hv.fr 7;have f8:=hv.fr 8;have f9:=hv.fr 9;clear hv;refine wpAnyH_ready (rs := [21]) (by kernel_rfl) (by simp) ?_;refine AllReadyH.cons (o:=⟨none,_,_,_,_,_⟩) rfl (fun K hK=>?_) AllReadyH.nil;go_simp;refine hK.out _ _ trivial (fun _=>?_);clear hK K;refine wpAnyH_done (by kernel_rfl) ?_ _;exact HQ0.1 S W J0.out
theorem aR (J:LwJ w W t l g S 8 false true true)(HQ:jX Q w t l g) :
  wpAnyH Tryz.prog .any jQ Q (fun _=>True) 2 #[true,true,true,true,true,true,true,true,true,true,true,true,true,true,true,true,true,true,true,true,false,false] (jK t g undef S.a5 S.a7 S.a9 S.a11 S.a13 S.a15 S.a16 S.a18 S.a19 S.a20 S.a22 S.a23) W:=by
 dsimp only[jK,LwD.a3,LwD.a5,LwD.a7,LwD.a9,LwD.a11,LwD.a13,LwD.a15,LwD.a16,LwD.a18,LwD.a19,LwD.a20,LwD.a22,LwD.a23]
 refine rdA 20 3 (fun K hK=>?_)
 ·go_simp
  have J2:=J.var;refine hK.out _ _ trivial (fun _=>?_);clear hK K;simp only[mnA,mnB,mnC];exact mS J2 HQ
theorem mB (J:LwJ w W t l g S 8 true true false)(HQ:jX Q w t l g) :
  wpAnyH Tryz.prog .any jQ Q (fun _=>True) 3 #[true,true,true,true,true,true,true,true,true,true,true,true,true,true,true,true,false,true,true,false,true,false] (jK t g S.a3 S.a5 S.a7 S.a9 S.a11 S.a13 S.a15 S.a16 S.a18 S.a19 undef S.a22 undef) W:=by
 dsimp only[jK,LwD.a3,LwD.a5,LwD.a7,LwD.a9,LwD.a11,LwD.a13,LwD.a15,LwD.a16,LwD.a18,LwD.a19,LwD.a20,LwD.a22,LwD.a23]
 obtain⟨u,hu,hu0⟩:=J.cellX rfl (by omega);have HU:=mh hu0;clear hu0;refine rdA 16 20 (fun K hK=>?_)
 ·go_simp
  have J2:=J.load HU.out;refine hK.out _ _ trivial (fun _=>?_);clear hK K;simp only[mnA,mnB,mnC];refine tkC 19 23 (fun c a w h=>HQ.2 c a _ _ w h) ?_;simp only[Act.put,mnA,mnB,mnC];exact mS J2 HQ
theorem aT (J:LwJ w W t l g S 8 false true false)(HQ:jX Q w t l g) :
  wpAnyH Tryz.prog .any jQ Q (fun _=>True) 4 #[true,true,true,true,true,true,true,true,true,true,true,true,true,true,true,true,false,true,true,false,false,false] (jK t g undef S.a5 S.a7 S.a9 S.a11 S.a13 S.a15 S.a16 S.a18 S.a19 undef S.a22 undef) W:=by
 dsimp only[jK,LwD.a3,LwD.a5,LwD.a7,LwD.a9,LwD.a11,LwD.a13,LwD.a15,LwD.a16,LwD.a18,LwD.a19,LwD.a20,LwD.a22,LwD.a23]
 obtain⟨u,hu,hu0⟩:=J.cellX rfl (by omega);have HU:=mh hu0;clear hu0;refine wpAnyH_ready (rs := [16,20]) (by kernel_rfl) (by simp) ?_;refine AllReadyH.cons (o:=⟨some 20,_,_,_,_,_⟩) rfl (fun K hK=>?_) (AllReadyH.cons (o:=⟨some 3,_,_,_,_,_⟩) rfl (fun K hK=>?_) (AllReadyH.nil))
 ·go_simp
  have J2:=J.load HU.out;refine hK.out _ _ trivial (fun _=>?_);clear hK K;simp only[mnA,mnB,mnC];refine tkC 19 23 (fun c a w h=>HQ.2 c a _ _ w h) ?_;simp only[Act.put,mnA,mnB,mnC];exact aR J2 HQ
 ·go_simp
  have J2:=J.var;refine hK.out _ _ trivial (fun _=>?_);clear hK K;simp only[mnA,mnB,mnC];exact mB J2 HQ
theorem aL (J:LwJ w W t l g S 8 true false false)(HQ:jX Q w t l g) :
  wpAnyH Tryz.prog .any jQ Q (fun _=>True) 5 #[true,true,true,true,true,true,true,true,true,true,true,true,false,true,true,false,false,true,true,false,true,false] (jK t g S.a3 S.a5 S.a7 S.a9 S.a11 S.a13 S.a15 undef S.a18 undef undef S.a22 undef) W:=by
 dsimp only[jK,LwD.a3,LwD.a5,LwD.a7,LwD.a9,LwD.a11,LwD.a13,LwD.a15,LwD.a16,LwD.a18,LwD.a19,LwD.a20,LwD.a22,LwD.a23]
 refine rdA 12 16 (fun K hK=>?_)
 ·go_simp
  have J2:=J.lit;refine hK.out _ _ trivial (fun _=>?_);clear hK K;simp only[mnA,mnB,mnC];have hx0:(0:Int)≤(S.X:Int):=inn _;have hx1:(S.X:Int)<4:=by have:=J2.h7 (by omega);simp only at this;omega
  refine tkC 15 19 (fun c a w h=>HQ.2 c a _ _ w h) ?_
  simp only[Act.put,mnA,mnB,mnC];exact mB J2 HQ
theorem gUA (J:LwJ w W t l g S 8 false false false)(HQ:jX Q w t l g) :
  wpAnyH Tryz.prog .any jQ Q (fun _=>True) 6 #[true,true,true,true,true,true,true,true,true,true,true,true,false,true,true,false,false,true,true,false,false,false] (jK t g undef S.a5 S.a7 S.a9 S.a11 S.a13 S.a15 undef S.a18 undef undef S.a22 undef) W:=by
 dsimp only[jK,LwD.a3,LwD.a5,LwD.a7,LwD.a9,LwD.a11,LwD.a13,LwD.a15,LwD.a16,LwD.a18,LwD.a19,LwD.a20,LwD.a22,LwD.a23]
 refine wpAnyH_ready (rs := [12,20]) (by kernel_rfl) (by simp) ?_
 refine AllReadyH.cons (o:=⟨some 16,_,_,_,_,_⟩) rfl (fun K hK=>?_) (AllReadyH.cons (o:=⟨some 3,_,_,_,_,_⟩) rfl (fun K hK=>?_) (AllReadyH.nil))
 ·go_simp
  have J2:=J.lit;refine hK.out _ _ trivial (fun _=>?_);clear hK K;simp only[mnA,mnB,mnC];have hx0:(0:Int)≤(S.X:Int):=inn _;have hx1:(S.X:Int)<4:=by have:=J2.h7 (by omega);simp only at this;omega
  refine tkC 15 19 (fun c a w h=>HQ.2 c a _ _ w h) ?_
  simp only[Act.put,mnA,mnB,mnC];exact aT J2 HQ
 ·go_simp
  have J2:=J.var;refine hK.out _ _ trivial (fun _=>?_);clear hK K;simp only[mnA,mnB,mnC];exact aL J2 HQ
theorem aS (J:LwJ w W t l g S 7 true true true)(HQ:jX Q w t l g) :
  wpAnyH Tryz.prog .any jQ Q (fun _=>True) 3 #[true,true,true,true,true,true,true,true,true,true,true,true,true,true,true,true,true,true,false,false,true,false] (jK t g S.a3 S.a5 S.a7 S.a9 S.a11 S.a13 S.a15 S.a16 S.a18 S.a19 S.a20 undef undef) W:=by
 dsimp only[jK,LwD.a3,LwD.a5,LwD.a7,LwD.a9,LwD.a11,LwD.a13,LwD.a15,LwD.a16,LwD.a18,LwD.a19,LwD.a20,LwD.a22,LwD.a23]
 refine rdA 18 22 (fun K hK=>?_)
 ·go_simp
  (with_reducible refine cmo (qF t l S.q 150 W J.tp.tape (by omega)) ?_);rintro e w2 ⟨rfl,ht,hb⟩;have hg:=qG l S.q (n:=150) (by omega);generalize qN l S.q 150=c at *;generalize qM l S.q=q at *;have J2:=J.c7 ht hb hg
  go_wp2_with fail
  refine hK.out _ _ trivial (fun _=>?_)
  clear hK K;simp only[mnA,mnB,mnC];refine tkC 19 23 (fun c a w h=>HQ.2 c a _ _ w h) ?_;simp only[Act.put,mnA,mnB,mnC];exact mS J2 HQ
theorem gGA (J:LwJ w W t l g S 7 false true true)(HQ:jX Q w t l g) :
  wpAnyH Tryz.prog .any jQ Q (fun _=>True) 4 #[true,true,true,true,true,true,true,true,true,true,true,true,true,true,true,true,true,true,false,false,false,false] (jK t g undef S.a5 S.a7 S.a9 S.a11 S.a13 S.a15 S.a16 S.a18 S.a19 S.a20 undef undef) W:=by
 dsimp only[jK,LwD.a3,LwD.a5,LwD.a7,LwD.a9,LwD.a11,LwD.a13,LwD.a15,LwD.a16,LwD.a18,LwD.a19,LwD.a20,LwD.a22,LwD.a23]
 refine wpAnyH_ready (rs := [18,20]) (by kernel_rfl) (by simp) ?_
 refine AllReadyH.cons (o:=⟨some 22,_,_,_,_,_⟩) rfl (fun K hK=>?_) (AllReadyH.cons (o:=⟨some 3,_,_,_,_,_⟩) rfl (fun K hK=>?_) (AllReadyH.nil))
 ·go_simp
  (with_reducible refine cmo (qF t l S.q 150 W J.tp.tape (by omega)) ?_);rintro e w2 ⟨rfl,ht,hb⟩;have hg:=qG l S.q (n:=150) (by omega);generalize qN l S.q 150=c at *;generalize qM l S.q=q at *;have J2:=J.c7 ht hb hg
  go_wp2_with fail
  refine hK.out _ _ trivial (fun _=>?_)
  clear hK K;simp only[mnA,mnB,mnC];refine tkC 19 23 (fun c a w h=>HQ.2 c a _ _ w h) ?_;simp only[Act.put,mnA,mnB,mnC];exact aR J2 HQ
 ·go_simp
  have J2:=J.var;refine hK.out _ _ trivial (fun _=>?_);clear hK K;simp only[mnA,mnB,mnC];exact aS J2 HQ
theorem mC (J:LwJ w W t l g S 7 true true false)(HQ:jX Q w t l g) :
  wpAnyH Tryz.prog .any jQ Q (fun _=>True) 4 #[true,true,true,true,true,true,true,true,true,true,true,true,true,true,true,true,false,true,false,false,true,false] (jK t g S.a3 S.a5 S.a7 S.a9 S.a11 S.a13 S.a15 S.a16 S.a18 S.a19 undef undef undef) W:=by
 dsimp only[jK,LwD.a3,LwD.a5,LwD.a7,LwD.a9,LwD.a11,LwD.a13,LwD.a15,LwD.a16,LwD.a18,LwD.a19,LwD.a20,LwD.a22,LwD.a23]
 obtain⟨u,hu,hu0⟩:=J.cellX rfl (by omega);have HU:=mh hu0;clear hu0;refine wpAnyH_ready (rs := [16,18]) (by kernel_rfl) (by simp) ?_;refine AllReadyH.cons (o:=⟨some 20,_,_,_,_,_⟩) rfl (fun K hK=>?_) (AllReadyH.cons (o:=⟨some 22,_,_,_,_,_⟩) rfl (fun K hK=>?_) (AllReadyH.nil))
 ·go_simp
  have J2:=J.load HU.out;refine hK.out _ _ trivial (fun _=>?_);clear hK K;simp only[mnA,mnB,mnC];exact aS J2 HQ
 ·go_simp
  (with_reducible refine cmo (qF t l S.q 150 W J.tp.tape (by omega)) ?_);rintro e w2 ⟨rfl,ht,hb⟩;have hg:=qG l S.q (n:=150) (by omega);generalize qN l S.q 150=c at *;generalize qM l S.q=q at *;have J2:=J.c7 ht hb hg
  go_wp2_with fail
  refine hK.out _ _ trivial (fun _=>?_)
  clear hK K;simp only[mnA,mnB,mnC];exact mB J2 HQ
theorem aC (J:LwJ w W t l g S 7 false true false)(HQ:jX Q w t l g) :
  wpAnyH Tryz.prog .any jQ Q (fun _=>True) 5 #[true,true,true,true,true,true,true,true,true,true,true,true,true,true,true,true,false,true,false,false,false,false] (jK t g undef S.a5 S.a7 S.a9 S.a11 S.a13 S.a15 S.a16 S.a18 S.a19 undef undef undef) W:=by
 dsimp only[jK,LwD.a3,LwD.a5,LwD.a7,LwD.a9,LwD.a11,LwD.a13,LwD.a15,LwD.a16,LwD.a18,LwD.a19,LwD.a20,LwD.a22,LwD.a23]
 obtain⟨u,hu,hu0⟩:=J.cellX rfl (by omega);have HU:=mh hu0;clear hu0;refine wpAnyH_ready (rs := [16,18,20]) (by kernel_rfl) (by simp) ?_;refine AllReadyH.cons (o:=⟨some 20,_,_,_,_,_⟩) rfl (fun K hK=>?_) (AllReadyH.cons (o:=⟨some 22,_,_,_,_,_⟩) rfl (fun K hK=>?_) (AllReadyH.cons (o:=⟨some 3,_,_,_,_,_⟩) rfl (fun K hK=>?_) (AllReadyH.nil)))
 ·go_simp
  have J2:=J.load HU.out;refine hK.out _ _ trivial (fun _=>?_);clear hK K;simp only[mnA,mnB,mnC];exact gGA J2 HQ
 ·go_simp
  (with_reducible refine cmo (qF t l S.q 150 W J.tp.tape (by omega)) ?_);rintro e w2 ⟨rfl,ht,hb⟩;have hg:=qG l S.q (n:=150) (by omega);generalize qN l S.q 150=c at *;generalize qM l S.q=q at *;have J2:=J.c7 ht hb hg
  go_wp2_with fail
  refine hK.out _ _ trivial (fun _=>?_)
  clear hK K;simp only[mnA,mnB,mnC];exact aT J2 HQ
 ·go_simp
  have J2:=J.var;refine hK.out _ _ trivial (fun _=>?_);clear hK K;simp only[mnA,mnB,mnC];exact mC J2 HQ
theorem aB (J:LwJ w W t l g S 7 true false false)(HQ:jX Q w t l g) :
  wpAnyH Tryz.prog .any jQ Q (fun _=>True) 6 #[true,true,true,true,true,true,true,true,true,true,true,true,false,true,true,false,false,true,false,false,true,false] (jK t g S.a3 S.a5 S.a7 S.a9 S.a11 S.a13 S.a15 undef S.a18 undef undef undef undef) W:=by
 dsimp only[jK,LwD.a3,LwD.a5,LwD.a7,LwD.a9,LwD.a11,LwD.a13,LwD.a15,LwD.a16,LwD.a18,LwD.a19,LwD.a20,LwD.a22,LwD.a23]
 refine wpAnyH_ready (rs := [12,18]) (by kernel_rfl) (by simp) ?_
 refine AllReadyH.cons (o:=⟨some 16,_,_,_,_,_⟩) rfl (fun K hK=>?_) (AllReadyH.cons (o:=⟨some 22,_,_,_,_,_⟩) rfl (fun K hK=>?_) (AllReadyH.nil))
 ·go_simp
  have J2:=J.lit;refine hK.out _ _ trivial (fun _=>?_);clear hK K;simp only[mnA,mnB,mnC];have hx0:(0:Int)≤(S.X:Int):=inn _;have hx1:(S.X:Int)<4:=by have:=J2.h7 (by omega);simp only at this;omega
  refine tkC 15 19 (fun c a w h=>HQ.2 c a _ _ w h) ?_
  simp only[Act.put,mnA,mnB,mnC];exact mC J2 HQ
 ·go_simp
  (with_reducible refine cmo (qF t l S.q 150 W J.tp.tape (by omega)) ?_);rintro e w2 ⟨rfl,ht,hb⟩;have hg:=qG l S.q (n:=150) (by omega);generalize qN l S.q 150=c at *;generalize qM l S.q=q at *;have J2:=J.c7 ht hb hg
  go_wp2_with fail
  refine hK.out _ _ trivial (fun _=>?_)
  clear hK K;simp only[mnA,mnB,mnC];exact aL J2 HQ
theorem gWA (J:LwJ w W t l g S 7 false false false)(HQ:jX Q w t l g) :
  wpAnyH Tryz.prog .any jQ Q (fun _=>True) 7 #[true,true,true,true,true,true,true,true,true,true,true,true,false,true,true,false,false,true,false,false,false,false] (jK t g undef S.a5 S.a7 S.a9 S.a11 S.a13 S.a15 undef S.a18 undef undef undef undef) W:=by
 dsimp only[jK,LwD.a3,LwD.a5,LwD.a7,LwD.a9,LwD.a11,LwD.a13,LwD.a15,LwD.a16,LwD.a18,LwD.a19,LwD.a20,LwD.a22,LwD.a23]
 refine wpAnyH_ready (rs := [12,18,20]) (by kernel_rfl) (by simp) ?_
 refine AllReadyH.cons (o:=⟨some 16,_,_,_,_,_⟩) rfl (fun K hK=>?_) (AllReadyH.cons (o:=⟨some 22,_,_,_,_,_⟩) rfl (fun K hK=>?_) (AllReadyH.cons (o:=⟨some 3,_,_,_,_,_⟩) rfl (fun K hK=>?_) (AllReadyH.nil)))
 ·go_simp
  have J2:=J.lit;refine hK.out _ _ trivial (fun _=>?_);clear hK K;simp only[mnA,mnB,mnC];have hx0:(0:Int)≤(S.X:Int):=inn _;have hx1:(S.X:Int)<4:=by have:=J2.h7 (by omega);simp only at this;omega
  refine tkC 15 19 (fun c a w h=>HQ.2 c a _ _ w h) ?_
  simp only[Act.put,mnA,mnB,mnC];exact aC J2 HQ
 ·go_simp
  (with_reducible refine cmo (qF t l S.q 150 W J.tp.tape (by omega)) ?_);rintro e w2 ⟨rfl,ht,hb⟩;have hg:=qG l S.q (n:=150) (by omega);generalize qN l S.q 150=c at *;generalize qM l S.q=q at *;have J2:=J.c7 ht hb hg
  go_wp2_with fail
  refine hK.out _ _ trivial (fun _=>?_)
  clear hK K;simp only[mnA,mnB,mnC];exact gUA J2 HQ
 ·go_simp
  have J2:=J.var;refine hK.out _ _ trivial (fun _=>?_);clear hK K;simp only[mnA,mnB,mnC];exact aB J2 HQ
theorem mP (J:LwJ w W t l g S 6 true true false)(HQ:jX Q w t l g) :
  wpAnyH Tryz.prog .any jQ Q (fun _=>True) 6 #[true,true,true,true,true,true,true,true,true,true,true,true,true,true,false,false,false,true,false,false,true,false] (jK t g S.a3 S.a5 S.a7 S.a9 S.a11 S.a13 S.a15 S.a16 undef undef undef undef undef) W:=by
 dsimp only[jK,LwD.a3,LwD.a5,LwD.a7,LwD.a9,LwD.a11,LwD.a13,LwD.a15,LwD.a16,LwD.a18,LwD.a19,LwD.a20,LwD.a22,LwD.a23]
 refine rdA 14 18 (fun K hK=>?_)
 ·go_simp
  (with_reducible refine cmo (qF t l S.q 4 W J.tp.tape (by omega)) ?_);rintro e w2 ⟨rfl,ht,hb⟩;have hg:=qG l S.q (n:=4) (by omega);generalize qN l S.q 4=c at *;generalize qM l S.q=q at *;obtain⟨X,rfl⟩:=Int.eq_ofNat_of_zero_le hg.1;have J2:=J.c6 ht hb (show X<4 by omega)
  go_wp2_with fail
  refine hK.out _ _ trivial (fun _=>?_)
  clear hK K;simp only[mnA,mnB,mnC];have hx0:(0:Int)≤(X:Int):=inn _;have hx1:(X:Int)<4:=by have:=J2.h7 (by omega);simp only at this;omega
  refine tkC 15 19 (fun c a w h=>HQ.2 c a _ _ w h) ?_
  simp only[Act.put,mnA,mnB,mnC];exact mC J2 HQ
theorem aD (J:LwJ w W t l g S 6 false true false)(HQ:jX Q w t l g) :
  wpAnyH Tryz.prog .any jQ Q (fun _=>True) 7 #[true,true,true,true,true,true,true,true,true,true,true,true,true,true,false,false,false,true,false,false,false,false] (jK t g undef S.a5 S.a7 S.a9 S.a11 S.a13 S.a15 S.a16 undef undef undef undef undef) W:=by
 dsimp only[jK,LwD.a3,LwD.a5,LwD.a7,LwD.a9,LwD.a11,LwD.a13,LwD.a15,LwD.a16,LwD.a18,LwD.a19,LwD.a20,LwD.a22,LwD.a23]
 refine wpAnyH_ready (rs := [14,20]) (by kernel_rfl) (by simp) ?_
 refine AllReadyH.cons (o:=⟨some 18,_,_,_,_,_⟩) rfl (fun K hK=>?_) (AllReadyH.cons (o:=⟨some 3,_,_,_,_,_⟩) rfl (fun K hK=>?_) (AllReadyH.nil))
 ·go_simp
  (with_reducible refine cmo (qF t l S.q 4 W J.tp.tape (by omega)) ?_);rintro e w2 ⟨rfl,ht,hb⟩;have hg:=qG l S.q (n:=4) (by omega);generalize qN l S.q 4=c at *;generalize qM l S.q=q at *;obtain⟨X,rfl⟩:=Int.eq_ofNat_of_zero_le hg.1;have J2:=J.c6 ht hb (show X<4 by omega)
  go_wp2_with fail
  refine hK.out _ _ trivial (fun _=>?_)
  clear hK K;simp only[mnA,mnB,mnC];have hx0:(0:Int)≤(X:Int):=inn _;have hx1:(X:Int)<4:=by have:=J2.h7 (by omega);simp only at this;omega
  refine tkC 15 19 (fun c a w h=>HQ.2 c a _ _ w h) ?_
  simp only[Act.put,mnA,mnB,mnC];exact aC J2 HQ
 ·go_simp
  have J2:=J.var;refine hK.out _ _ trivial (fun _=>?_);clear hK K;simp only[mnA,mnB,mnC];exact mP J2 HQ
theorem aP (J:LwJ w W t l g S 6 true false false)(HQ:jX Q w t l g) :
  wpAnyH Tryz.prog .any jQ Q (fun _=>True) 7 #[true,true,true,true,true,true,true,true,true,true,true,true,false,true,false,false,false,true,false,false,true,false] (jK t g S.a3 S.a5 S.a7 S.a9 S.a11 S.a13 S.a15 undef undef undef undef undef undef) W:=by
 dsimp only[jK,LwD.a3,LwD.a5,LwD.a7,LwD.a9,LwD.a11,LwD.a13,LwD.a15,LwD.a16,LwD.a18,LwD.a19,LwD.a20,LwD.a22,LwD.a23]
 refine wpAnyH_ready (rs := [12,14]) (by kernel_rfl) (by simp) ?_
 refine AllReadyH.cons (o:=⟨some 16,_,_,_,_,_⟩) rfl (fun K hK=>?_) (AllReadyH.cons (o:=⟨some 18,_,_,_,_,_⟩) rfl (fun K hK=>?_) (AllReadyH.nil))
 ·go_simp
  have J2:=J.lit;refine hK.out _ _ trivial (fun _=>?_);clear hK K;simp only[mnA,mnB,mnC];exact mP J2 HQ
 ·go_simp
  (with_reducible refine cmo (qF t l S.q 4 W J.tp.tape (by omega)) ?_);rintro e w2 ⟨rfl,ht,hb⟩;have hg:=qG l S.q (n:=4) (by omega);generalize qN l S.q 4=c at *;generalize qM l S.q=q at *;obtain⟨X,rfl⟩:=Int.eq_ofNat_of_zero_le hg.1;have J2:=J.c6 ht hb (show X<4 by omega)
  go_wp2_with fail
  refine hK.out _ _ trivial (fun _=>?_)
  clear hK K;simp only[mnA,mnB,mnC];exact aB J2 HQ
theorem gYA (J:LwJ w W t l g S 6 false false false)(HQ:jX Q w t l g) :
  wpAnyH Tryz.prog .any jQ Q (fun _=>True) 8 #[true,true,true,true,true,true,true,true,true,true,true,true,false,true,false,false,false,true,false,false,false,false] (jK t g undef S.a5 S.a7 S.a9 S.a11 S.a13 S.a15 undef undef undef undef undef undef) W:=by
 dsimp only[jK,LwD.a3,LwD.a5,LwD.a7,LwD.a9,LwD.a11,LwD.a13,LwD.a15,LwD.a16,LwD.a18,LwD.a19,LwD.a20,LwD.a22,LwD.a23]
 refine wpAnyH_ready (rs := [12,14,20]) (by kernel_rfl) (by simp) ?_
 refine AllReadyH.cons (o:=⟨some 16,_,_,_,_,_⟩) rfl (fun K hK=>?_) (AllReadyH.cons (o:=⟨some 18,_,_,_,_,_⟩) rfl (fun K hK=>?_) (AllReadyH.cons (o:=⟨some 3,_,_,_,_,_⟩) rfl (fun K hK=>?_) (AllReadyH.nil)))
 ·go_simp
  have J2:=J.lit;refine hK.out _ _ trivial (fun _=>?_);clear hK K;simp only[mnA,mnB,mnC];exact aD J2 HQ
 ·go_simp
  (with_reducible refine cmo (qF t l S.q 4 W J.tp.tape (by omega)) ?_);rintro e w2 ⟨rfl,ht,hb⟩;have hg:=qG l S.q (n:=4) (by omega);generalize qN l S.q 4=c at *;generalize qM l S.q=q at *;obtain⟨X,rfl⟩:=Int.eq_ofNat_of_zero_le hg.1;have J2:=J.c6 ht hb (show X<4 by omega)
  go_wp2_with fail
  refine hK.out _ _ trivial (fun _=>?_)
  clear hK K;simp only[mnA,mnB,mnC];exact gWA J2 HQ
 ·go_simp
  have J2:=J.var;refine hK.out _ _ trivial (fun _=>?_);clear hK K;simp only[mnA,mnB,mnC];exact aP J2 HQ
theorem mD (J:LwJ w W t l g S 5 true true false)(HQ:jX Q w t l g) :
  wpAnyH Tryz.prog .any jQ Q (fun _=>True) 7 #[true,true,true,true,true,true,true,true,true,true,true,false,true,true,false,false,false,true,false,false,true,false] (jK t g S.a3 S.a5 S.a7 S.a9 S.a11 S.a13 undef S.a16 undef undef undef undef undef) W:=by
 dsimp only[jK,LwD.a3,LwD.a5,LwD.a7,LwD.a9,LwD.a11,LwD.a13,LwD.a15,LwD.a16,LwD.a18,LwD.a19,LwD.a20,LwD.a22,LwD.a23]
 refine rdA 11 15 (fun K hK=>?_)
 ·go_simp
  (with_reducible refine cmo (qF t l S.q 30000 W J.tp.tape (by omega)) ?_);rintro e w2 ⟨rfl,ht,hb⟩;have hg:=qG l S.q (n:=30000) (by omega);generalize qN l S.q 30000=c at *;generalize qM l S.q=q at *;have J2:=J.c5 ht hb hg
  go_wp2_with fail
  refine hK.out _ _ trivial (fun _=>?_)
  clear hK K;simp only[mnA,mnB,mnC];exact mP J2 HQ
theorem aN (J:LwJ w W t l g S 5 false true false)(HQ:jX Q w t l g) :
  wpAnyH Tryz.prog .any jQ Q (fun _=>True) 8 #[true,true,true,true,true,true,true,true,true,true,true,false,true,true,false,false,false,true,false,false,false,false] (jK t g undef S.a5 S.a7 S.a9 S.a11 S.a13 undef S.a16 undef undef undef undef undef) W:=by
 dsimp only[jK,LwD.a3,LwD.a5,LwD.a7,LwD.a9,LwD.a11,LwD.a13,LwD.a15,LwD.a16,LwD.a18,LwD.a19,LwD.a20,LwD.a22,LwD.a23]
 refine wpAnyH_ready (rs := [11,20]) (by kernel_rfl) (by simp) ?_
 refine AllReadyH.cons (o:=⟨some 15,_,_,_,_,_⟩) rfl (fun K hK=>?_) (AllReadyH.cons (o:=⟨some 3,_,_,_,_,_⟩) rfl (fun K hK=>?_) (AllReadyH.nil))
 ·go_simp
  (with_reducible refine cmo (qF t l S.q 30000 W J.tp.tape (by omega)) ?_);rintro e w2 ⟨rfl,ht,hb⟩;have hg:=qG l S.q (n:=30000) (by omega);generalize qN l S.q 30000=c at *;generalize qM l S.q=q at *;have J2:=J.c5 ht hb hg
  go_wp2_with fail
  refine hK.out _ _ trivial (fun _=>?_)
  clear hK K;simp only[mnA,mnB,mnC];exact aD J2 HQ
 ·go_simp
  have J2:=J.var;refine hK.out _ _ trivial (fun _=>?_);clear hK K;simp only[mnA,mnB,mnC];exact mD J2 HQ
theorem aM (J:LwJ w W t l g S 5 true false false)(HQ:jX Q w t l g) :
  wpAnyH Tryz.prog .any jQ Q (fun _=>True) 8 #[true,true,true,true,true,true,true,true,true,true,true,false,false,true,false,false,false,true,false,false,true,false] (jK t g S.a3 S.a5 S.a7 S.a9 S.a11 S.a13 undef undef undef undef undef undef undef) W:=by
 dsimp only[jK,LwD.a3,LwD.a5,LwD.a7,LwD.a9,LwD.a11,LwD.a13,LwD.a15,LwD.a16,LwD.a18,LwD.a19,LwD.a20,LwD.a22,LwD.a23]
 refine wpAnyH_ready (rs := [11,12]) (by kernel_rfl) (by simp) ?_
 refine AllReadyH.cons (o:=⟨some 15,_,_,_,_,_⟩) rfl (fun K hK=>?_) (AllReadyH.cons (o:=⟨some 16,_,_,_,_,_⟩) rfl (fun K hK=>?_) (AllReadyH.nil))
 ·go_simp
  (with_reducible refine cmo (qF t l S.q 30000 W J.tp.tape (by omega)) ?_);rintro e w2 ⟨rfl,ht,hb⟩;have hg:=qG l S.q (n:=30000) (by omega);generalize qN l S.q 30000=c at *;generalize qM l S.q=q at *;have J2:=J.c5 ht hb hg
  go_wp2_with fail
  refine hK.out _ _ trivial (fun _=>?_)
  clear hK K;simp only[mnA,mnB,mnC];exact aP J2 HQ
 ·go_simp
  have J2:=J.lit;refine hK.out _ _ trivial (fun _=>?_);clear hK K;simp only[mnA,mnB,mnC];exact mD J2 HQ
theorem gKA (J:LwJ w W t l g S 5 false false false)(HQ:jX Q w t l g) :
  wpAnyH Tryz.prog .any jQ Q (fun _=>True) 9 #[true,true,true,true,true,true,true,true,true,true,true,false,false,true,false,false,false,true,false,false,false,false] (jK t g undef S.a5 S.a7 S.a9 S.a11 S.a13 undef undef undef undef undef undef undef) W:=by
 dsimp only[jK,LwD.a3,LwD.a5,LwD.a7,LwD.a9,LwD.a11,LwD.a13,LwD.a15,LwD.a16,LwD.a18,LwD.a19,LwD.a20,LwD.a22,LwD.a23]
 refine wpAnyH_ready (rs := [11,12,20]) (by kernel_rfl) (by simp) ?_
 refine AllReadyH.cons (o:=⟨some 15,_,_,_,_,_⟩) rfl (fun K hK=>?_) (AllReadyH.cons (o:=⟨some 16,_,_,_,_,_⟩) rfl (fun K hK=>?_) (AllReadyH.cons (o:=⟨some 3,_,_,_,_,_⟩) rfl (fun K hK=>?_) (AllReadyH.nil)))
 ·go_simp
  (with_reducible refine cmo (qF t l S.q 30000 W J.tp.tape (by omega)) ?_);rintro e w2 ⟨rfl,ht,hb⟩;have hg:=qG l S.q (n:=30000) (by omega);generalize qN l S.q 30000=c at *;generalize qM l S.q=q at *;have J2:=J.c5 ht hb hg
  go_wp2_with fail
  refine hK.out _ _ trivial (fun _=>?_)
  clear hK K;simp only[mnA,mnB,mnC];exact gYA J2 HQ
 ·go_simp
  have J2:=J.lit;refine hK.out _ _ trivial (fun _=>?_);clear hK K;simp only[mnA,mnB,mnC];exact aN J2 HQ
 ·go_simp
  have J2:=J.var;refine hK.out _ _ trivial (fun _=>?_);clear hK K;simp only[mnA,mnB,mnC];exact aM J2 HQ
theorem mM (J:LwJ w W t l g S 4 true true false)(HQ:jX Q w t l g) :
  wpAnyH Tryz.prog .any jQ Q (fun _=>True) 8 #[true,true,true,true,true,true,true,true,true,false,true,false,true,true,false,false,false,true,false,false,true,false] (jK t g S.a3 S.a5 S.a7 S.a9 S.a11 undef undef S.a16 undef undef undef undef undef) W:=by
 dsimp only[jK,LwD.a3,LwD.a5,LwD.a7,LwD.a9,LwD.a11,LwD.a13,LwD.a15,LwD.a16,LwD.a18,LwD.a19,LwD.a20,LwD.a22,LwD.a23]
 refine rdA 9 13 (fun K hK=>?_)
 ·go_simp
  (with_reducible refine cmo (qF t l S.q 20000 W J.tp.tape (by omega)) ?_);rintro e w2 ⟨rfl,ht,hb⟩;have hg:=qG l S.q (n:=20000) (by omega);generalize qN l S.q 20000=c at *;generalize qM l S.q=q at *;have J2:=J.c4 ht hb hg
  go_wp2_with fail
  refine hK.out _ _ trivial (fun _=>?_)
  clear hK K;simp only[mnA,mnB,mnC];exact mD J2 HQ
theorem aH (J:LwJ w W t l g S 4 false true false)(HQ:jX Q w t l g) :
  wpAnyH Tryz.prog .any jQ Q (fun _=>True) 9 #[true,true,true,true,true,true,true,true,true,false,true,false,true,true,false,false,false,true,false,false,false,false] (jK t g undef S.a5 S.a7 S.a9 S.a11 undef undef S.a16 undef undef undef undef undef) W:=by
 dsimp only[jK,LwD.a3,LwD.a5,LwD.a7,LwD.a9,LwD.a11,LwD.a13,LwD.a15,LwD.a16,LwD.a18,LwD.a19,LwD.a20,LwD.a22,LwD.a23]
 refine wpAnyH_ready (rs := [9,20]) (by kernel_rfl) (by simp) ?_
 refine AllReadyH.cons (o:=⟨some 13,_,_,_,_,_⟩) rfl (fun K hK=>?_) (AllReadyH.cons (o:=⟨some 3,_,_,_,_,_⟩) rfl (fun K hK=>?_) (AllReadyH.nil))
 ·go_simp
  (with_reducible refine cmo (qF t l S.q 20000 W J.tp.tape (by omega)) ?_);rintro e w2 ⟨rfl,ht,hb⟩;have hg:=qG l S.q (n:=20000) (by omega);generalize qN l S.q 20000=c at *;generalize qM l S.q=q at *;have J2:=J.c4 ht hb hg
  go_wp2_with fail
  refine hK.out _ _ trivial (fun _=>?_)
  clear hK K;simp only[mnA,mnB,mnC];exact aN J2 HQ
 ·go_simp
  have J2:=J.var;refine hK.out _ _ trivial (fun _=>?_);clear hK K;simp only[mnA,mnB,mnC];exact mM J2 HQ
theorem aF (J:LwJ w W t l g S 4 true false false)(HQ:jX Q w t l g) :
  wpAnyH Tryz.prog .any jQ Q (fun _=>True) 9 #[true,true,true,true,true,true,true,true,true,false,true,false,false,true,false,false,false,true,false,false,true,false] (jK t g S.a3 S.a5 S.a7 S.a9 S.a11 undef undef undef undef undef undef undef undef) W:=by
 dsimp only[jK,LwD.a3,LwD.a5,LwD.a7,LwD.a9,LwD.a11,LwD.a13,LwD.a15,LwD.a16,LwD.a18,LwD.a19,LwD.a20,LwD.a22,LwD.a23]
 refine wpAnyH_ready (rs := [9,12]) (by kernel_rfl) (by simp) ?_
 refine AllReadyH.cons (o:=⟨some 13,_,_,_,_,_⟩) rfl (fun K hK=>?_) (AllReadyH.cons (o:=⟨some 16,_,_,_,_,_⟩) rfl (fun K hK=>?_) (AllReadyH.nil))
 ·go_simp
  (with_reducible refine cmo (qF t l S.q 20000 W J.tp.tape (by omega)) ?_);rintro e w2 ⟨rfl,ht,hb⟩;have hg:=qG l S.q (n:=20000) (by omega);generalize qN l S.q 20000=c at *;generalize qM l S.q=q at *;have J2:=J.c4 ht hb hg
  go_wp2_with fail
  refine hK.out _ _ trivial (fun _=>?_)
  clear hK K;simp only[mnA,mnB,mnC];exact aM J2 HQ
 ·go_simp
  have J2:=J.lit;refine hK.out _ _ trivial (fun _=>?_);clear hK K;simp only[mnA,mnB,mnC];exact mM J2 HQ
theorem gVA (J:LwJ w W t l g S 4 false false false)(HQ:jX Q w t l g) :
  wpAnyH Tryz.prog .any jQ Q (fun _=>True) 10 #[true,true,true,true,true,true,true,true,true,false,true,false,false,true,false,false,false,true,false,false,false,false] (jK t g undef S.a5 S.a7 S.a9 S.a11 undef undef undef undef undef undef undef undef) W:=by
 dsimp only[jK,LwD.a3,LwD.a5,LwD.a7,LwD.a9,LwD.a11,LwD.a13,LwD.a15,LwD.a16,LwD.a18,LwD.a19,LwD.a20,LwD.a22,LwD.a23]
 refine wpAnyH_ready (rs := [9,12,20]) (by kernel_rfl) (by simp) ?_
 refine AllReadyH.cons (o:=⟨some 13,_,_,_,_,_⟩) rfl (fun K hK=>?_) (AllReadyH.cons (o:=⟨some 16,_,_,_,_,_⟩) rfl (fun K hK=>?_) (AllReadyH.cons (o:=⟨some 3,_,_,_,_,_⟩) rfl (fun K hK=>?_) (AllReadyH.nil)))
 ·go_simp
  (with_reducible refine cmo (qF t l S.q 20000 W J.tp.tape (by omega)) ?_);rintro e w2 ⟨rfl,ht,hb⟩;have hg:=qG l S.q (n:=20000) (by omega);generalize qN l S.q 20000=c at *;generalize qM l S.q=q at *;have J2:=J.c4 ht hb hg
  go_wp2_with fail
  refine hK.out _ _ trivial (fun _=>?_)
  clear hK K;simp only[mnA,mnB,mnC];exact gKA J2 HQ
 ·go_simp
  have J2:=J.lit;refine hK.out _ _ trivial (fun _=>?_);clear hK K;simp only[mnA,mnB,mnC];exact aH J2 HQ
 ·go_simp
  have J2:=J.var;refine hK.out _ _ trivial (fun _=>?_);clear hK K;simp only[mnA,mnB,mnC];exact aF J2 HQ
theorem mN (J:LwJ w W t l g S 3 true true false)(HQ:jX Q w t l g) :
  wpAnyH Tryz.prog .any jQ Q (fun _=>True) 9 #[true,true,true,true,true,true,true,false,true,false,true,false,true,true,false,false,false,true,false,false,true,false] (jK t g S.a3 S.a5 S.a7 S.a9 undef undef undef S.a16 undef undef undef undef undef) W:=by
 dsimp only[jK,LwD.a3,LwD.a5,LwD.a7,LwD.a9,LwD.a11,LwD.a13,LwD.a15,LwD.a16,LwD.a18,LwD.a19,LwD.a20,LwD.a22,LwD.a23]
 refine rdA 7 11 (fun K hK=>?_)
 ·go_simp
  (with_reducible refine cmo (vU t l S.q W J.tp.tape) ?_);rintro e w2 ⟨p,cap,D,q,rfl,hO,hR, -,ht,hb⟩;have J2:=J.c3 ht hb hO hR
  go_wp2_with fail
  refine hK.out _ _ trivial (fun _=>?_)
  clear hK K;simp only[mnA,mnB,mnC];exact mM J2 HQ
theorem aG (J:LwJ w W t l g S 3 false true false)(HQ:jX Q w t l g) :
  wpAnyH Tryz.prog .any jQ Q (fun _=>True) 10 #[true,true,true,true,true,true,true,false,true,false,true,false,true,true,false,false,false,true,false,false,false,false] (jK t g undef S.a5 S.a7 S.a9 undef undef undef S.a16 undef undef undef undef undef) W:=by
 dsimp only[jK,LwD.a3,LwD.a5,LwD.a7,LwD.a9,LwD.a11,LwD.a13,LwD.a15,LwD.a16,LwD.a18,LwD.a19,LwD.a20,LwD.a22,LwD.a23]
 refine wpAnyH_ready (rs := [7,20]) (by kernel_rfl) (by simp) ?_
 refine AllReadyH.cons (o:=⟨some 11,_,_,_,_,_⟩) rfl (fun K hK=>?_) (AllReadyH.cons (o:=⟨some 3,_,_,_,_,_⟩) rfl (fun K hK=>?_) (AllReadyH.nil))
 ·go_simp
  (with_reducible refine cmo (vU t l S.q W J.tp.tape) ?_);rintro e w2 ⟨p,cap,D,q,rfl,hO,hR, -,ht,hb⟩;have J2:=J.c3 ht hb hO hR
  go_wp2_with fail
  refine hK.out _ _ trivial (fun _=>?_)
  clear hK K;simp only[mnA,mnB,mnC];exact aH J2 HQ
 ·go_simp
  have J2:=J.var;refine hK.out _ _ trivial (fun _=>?_);clear hK K;simp only[mnA,mnB,mnC];exact mN J2 HQ
theorem aU (J:LwJ w W t l g S 3 true false false)(HQ:jX Q w t l g) :
  wpAnyH Tryz.prog .any jQ Q (fun _=>True) 10 #[true,true,true,true,true,true,true,false,true,false,true,false,false,true,false,false,false,true,false,false,true,false] (jK t g S.a3 S.a5 S.a7 S.a9 undef undef undef undef undef undef undef undef undef) W:=by
 dsimp only[jK,LwD.a3,LwD.a5,LwD.a7,LwD.a9,LwD.a11,LwD.a13,LwD.a15,LwD.a16,LwD.a18,LwD.a19,LwD.a20,LwD.a22,LwD.a23]
 refine wpAnyH_ready (rs := [7,12]) (by kernel_rfl) (by simp) ?_
 refine AllReadyH.cons (o:=⟨some 11,_,_,_,_,_⟩) rfl (fun K hK=>?_) (AllReadyH.cons (o:=⟨some 16,_,_,_,_,_⟩) rfl (fun K hK=>?_) (AllReadyH.nil))
 ·go_simp
  (with_reducible refine cmo (vU t l S.q W J.tp.tape) ?_);rintro e w2 ⟨p,cap,D,q,rfl,hO,hR, -,ht,hb⟩;have J2:=J.c3 ht hb hO hR
  go_wp2_with fail
  refine hK.out _ _ trivial (fun _=>?_)
  clear hK K;simp only[mnA,mnB,mnC];exact aF J2 HQ
 ·go_simp
  have J2:=J.lit;refine hK.out _ _ trivial (fun _=>?_);clear hK K;simp only[mnA,mnB,mnC];exact mN J2 HQ
theorem gXA (J:LwJ w W t l g S 3 false false false)(HQ:jX Q w t l g) :
  wpAnyH Tryz.prog .any jQ Q (fun _=>True) 11 #[true,true,true,true,true,true,true,false,true,false,true,false,false,true,false,false,false,true,false,false,false,false] (jK t g undef S.a5 S.a7 S.a9 undef undef undef undef undef undef undef undef undef) W:=by
 dsimp only[jK,LwD.a3,LwD.a5,LwD.a7,LwD.a9,LwD.a11,LwD.a13,LwD.a15,LwD.a16,LwD.a18,LwD.a19,LwD.a20,LwD.a22,LwD.a23]
 refine wpAnyH_ready (rs := [7,12,20]) (by kernel_rfl) (by simp) ?_
 refine AllReadyH.cons (o:=⟨some 11,_,_,_,_,_⟩) rfl (fun K hK=>?_) (AllReadyH.cons (o:=⟨some 16,_,_,_,_,_⟩) rfl (fun K hK=>?_) (AllReadyH.cons (o:=⟨some 3,_,_,_,_,_⟩) rfl (fun K hK=>?_) (AllReadyH.nil)))
 ·go_simp
  (with_reducible refine cmo (vU t l S.q W J.tp.tape) ?_);rintro e w2 ⟨p,cap,D,q,rfl,hO,hR, -,ht,hb⟩;have J2:=J.c3 ht hb hO hR
  go_wp2_with fail
  refine hK.out _ _ trivial (fun _=>?_)
  clear hK K;simp only[mnA,mnB,mnC];exact gVA J2 HQ
 ·go_simp
  have J2:=J.lit;refine hK.out _ _ trivial (fun _=>?_);clear hK K;simp only[mnA,mnB,mnC];exact aG J2 HQ
 ·go_simp
  have J2:=J.var;refine hK.out _ _ trivial (fun _=>?_);clear hK K;simp only[mnA,mnB,mnC];exact aU J2 HQ
theorem mF (J:LwJ w W t l g S 2 true true false)(HQ:jX Q w t l g) :
  wpAnyH Tryz.prog .any jQ Q (fun _=>True) 10 #[true,true,true,true,true,false,true,false,true,false,true,false,true,true,false,false,false,true,false,false,true,false] (jK t g S.a3 S.a5 S.a7 undef undef undef undef S.a16 undef undef undef undef undef) W:=by
 dsimp only[jK,LwD.a3,LwD.a5,LwD.a7,LwD.a9,LwD.a11,LwD.a13,LwD.a15,LwD.a16,LwD.a18,LwD.a19,LwD.a20,LwD.a22,LwD.a23]
 refine rdA 5 9 (fun K hK=>?_)
 ·go_simp
  (with_reducible refine cmo (wY t l S.q W J.tp.tape) ?_);rintro e w2 ⟨x,y,z,q,rfl,hl,hx,hp⟩;have J2:=J.c2 hp ⟨hl,hx⟩
  go_wp2_with fail
  refine hK.out _ _ trivial (fun _=>?_)
  clear hK K;simp only[mnA,mnB,mnC];exact mN J2 HQ
theorem aY (J:LwJ w W t l g S 2 false true false)(HQ:jX Q w t l g) :
  wpAnyH Tryz.prog .any jQ Q (fun _=>True) 11 #[true,true,true,true,true,false,true,false,true,false,true,false,true,true,false,false,false,true,false,false,false,false] (jK t g undef S.a5 S.a7 undef undef undef undef S.a16 undef undef undef undef undef) W:=by
 dsimp only[jK,LwD.a3,LwD.a5,LwD.a7,LwD.a9,LwD.a11,LwD.a13,LwD.a15,LwD.a16,LwD.a18,LwD.a19,LwD.a20,LwD.a22,LwD.a23]
 refine wpAnyH_ready (rs := [5,20]) (by kernel_rfl) (by simp) ?_
 refine AllReadyH.cons (o:=⟨some 9,_,_,_,_,_⟩) rfl (fun K hK=>?_) (AllReadyH.cons (o:=⟨some 3,_,_,_,_,_⟩) rfl (fun K hK=>?_) (AllReadyH.nil))
 ·go_simp
  (with_reducible refine cmo (wY t l S.q W J.tp.tape) ?_);rintro e w2 ⟨x,y,z,q,rfl,hl,hx,hp⟩;have J2:=J.c2 hp ⟨hl,hx⟩
  go_wp2_with fail
  refine hK.out _ _ trivial (fun _=>?_)
  clear hK K;simp only[mnA,mnB,mnC];exact aG J2 HQ
 ·go_simp
  have J2:=J.var;refine hK.out _ _ trivial (fun _=>?_);clear hK K;simp only[mnA,mnB,mnC];exact mF J2 HQ
theorem aW (J:LwJ w W t l g S 2 true false false)(HQ:jX Q w t l g) :
  wpAnyH Tryz.prog .any jQ Q (fun _=>True) 11 #[true,true,true,true,true,false,true,false,true,false,true,false,false,true,false,false,false,true,false,false,true,false] (jK t g S.a3 S.a5 S.a7 undef undef undef undef undef undef undef undef undef undef) W:=by
 dsimp only[jK,LwD.a3,LwD.a5,LwD.a7,LwD.a9,LwD.a11,LwD.a13,LwD.a15,LwD.a16,LwD.a18,LwD.a19,LwD.a20,LwD.a22,LwD.a23]
 refine wpAnyH_ready (rs := [5,12]) (by kernel_rfl) (by simp) ?_
 refine AllReadyH.cons (o:=⟨some 9,_,_,_,_,_⟩) rfl (fun K hK=>?_) (AllReadyH.cons (o:=⟨some 16,_,_,_,_,_⟩) rfl (fun K hK=>?_) (AllReadyH.nil))
 ·go_simp
  (with_reducible refine cmo (wY t l S.q W J.tp.tape) ?_);rintro e w2 ⟨x,y,z,q,rfl,hl,hx,hp⟩;have J2:=J.c2 hp ⟨hl,hx⟩
  go_wp2_with fail
  refine hK.out _ _ trivial (fun _=>?_)
  clear hK K;simp only[mnA,mnB,mnC];exact aU J2 HQ
 ·go_simp
  have J2:=J.lit;refine hK.out _ _ trivial (fun _=>?_);clear hK K;simp only[mnA,mnB,mnC];exact mF J2 HQ
theorem gZA (J:LwJ w W t l g S 2 false false false)(HQ:jX Q w t l g) :
  wpAnyH Tryz.prog .any jQ Q (fun _=>True) 12 #[true,true,true,true,true,false,true,false,true,false,true,false,false,true,false,false,false,true,false,false,false,false] (jK t g undef S.a5 S.a7 undef undef undef undef undef undef undef undef undef undef) W:=by
 dsimp only[jK,LwD.a3,LwD.a5,LwD.a7,LwD.a9,LwD.a11,LwD.a13,LwD.a15,LwD.a16,LwD.a18,LwD.a19,LwD.a20,LwD.a22,LwD.a23]
 refine wpAnyH_ready (rs := [5,12,20]) (by kernel_rfl) (by simp) ?_
 refine AllReadyH.cons (o:=⟨some 9,_,_,_,_,_⟩) rfl (fun K hK=>?_) (AllReadyH.cons (o:=⟨some 16,_,_,_,_,_⟩) rfl (fun K hK=>?_) (AllReadyH.cons (o:=⟨some 3,_,_,_,_,_⟩) rfl (fun K hK=>?_) (AllReadyH.nil)))
 ·go_simp
  (with_reducible refine cmo (wY t l S.q W J.tp.tape) ?_);rintro e w2 ⟨x,y,z,q,rfl,hl,hx,hp⟩;have J2:=J.c2 hp ⟨hl,hx⟩
  go_wp2_with fail
  refine hK.out _ _ trivial (fun _=>?_)
  clear hK K;simp only[mnA,mnB,mnC];exact gXA J2 HQ
 ·go_simp
  have J2:=J.lit;refine hK.out _ _ trivial (fun _=>?_);clear hK K;simp only[mnA,mnB,mnC];exact aY J2 HQ
 ·go_simp
  have J2:=J.var;refine hK.out _ _ trivial (fun _=>?_);clear hK K;simp only[mnA,mnB,mnC];exact aW J2 HQ
theorem mH (J:LwJ w W t l g S 1 true true false)(HQ:jX Q w t l g) :
  wpAnyH Tryz.prog .any jQ Q (fun _=>True) 11 #[true,true,true,false,true,false,true,false,true,false,true,false,true,true,false,false,false,true,false,false,true,false] (jK t g S.a3 S.a5 undef undef undef undef undef S.a16 undef undef undef undef undef) W:=by
 dsimp only[jK,LwD.a3,LwD.a5,LwD.a7,LwD.a9,LwD.a11,LwD.a13,LwD.a15,LwD.a16,LwD.a18,LwD.a19,LwD.a20,LwD.a22,LwD.a23]
 refine rdA 3 7 (fun K hK=>?_)
 ·go_simp
  (with_reducible refine cmo (wU t l S.q W J.tp.tape) ?_);rintro e w2 ⟨p,cap,D,q,rfl,hO,hR,ht,hb⟩;have J2:=J.c1 ht hb hO hR
  go_wp2_with fail
  refine hK.out _ _ trivial (fun _=>?_)
  clear hK K;simp only[mnA,mnB,mnC];exact mF J2 HQ
theorem aV (J:LwJ w W t l g S 1 false true false)(HQ:jX Q w t l g) :
  wpAnyH Tryz.prog .any jQ Q (fun _=>True) 12 #[true,true,true,false,true,false,true,false,true,false,true,false,true,true,false,false,false,true,false,false,false,false] (jK t g undef S.a5 undef undef undef undef undef S.a16 undef undef undef undef undef) W:=by
 dsimp only[jK,LwD.a3,LwD.a5,LwD.a7,LwD.a9,LwD.a11,LwD.a13,LwD.a15,LwD.a16,LwD.a18,LwD.a19,LwD.a20,LwD.a22,LwD.a23]
 refine wpAnyH_ready (rs := [3,20]) (by kernel_rfl) (by simp) ?_
 refine AllReadyH.cons (o:=⟨some 7,_,_,_,_,_⟩) rfl (fun K hK=>?_) (AllReadyH.cons (o:=⟨some 3,_,_,_,_,_⟩) rfl (fun K hK=>?_) (AllReadyH.nil))
 ·go_simp
  (with_reducible refine cmo (wU t l S.q W J.tp.tape) ?_);rintro e w2 ⟨p,cap,D,q,rfl,hO,hR,ht,hb⟩;have J2:=J.c1 ht hb hO hR
  go_wp2_with fail
  refine hK.out _ _ trivial (fun _=>?_)
  clear hK K;simp only[mnA,mnB,mnC];exact aY J2 HQ
 ·go_simp
  have J2:=J.var;refine hK.out _ _ trivial (fun _=>?_);clear hK K;simp only[mnA,mnB,mnC];exact mH J2 HQ
theorem aK (J:LwJ w W t l g S 1 true false false)(HQ:jX Q w t l g) :
  wpAnyH Tryz.prog .any jQ Q (fun _=>True) 12 #[true,true,true,false,true,false,true,false,true,false,true,false,false,true,false,false,false,true,false,false,true,false] (jK t g S.a3 S.a5 undef undef undef undef undef undef undef undef undef undef undef) W:=by
 dsimp only[jK,LwD.a3,LwD.a5,LwD.a7,LwD.a9,LwD.a11,LwD.a13,LwD.a15,LwD.a16,LwD.a18,LwD.a19,LwD.a20,LwD.a22,LwD.a23]
 refine wpAnyH_ready (rs := [3,12]) (by kernel_rfl) (by simp) ?_
 refine AllReadyH.cons (o:=⟨some 7,_,_,_,_,_⟩) rfl (fun K hK=>?_) (AllReadyH.cons (o:=⟨some 16,_,_,_,_,_⟩) rfl (fun K hK=>?_) (AllReadyH.nil))
 ·go_simp
  (with_reducible refine cmo (wU t l S.q W J.tp.tape) ?_);rintro e w2 ⟨p,cap,D,q,rfl,hO,hR,ht,hb⟩;have J2:=J.c1 ht hb hO hR
  go_wp2_with fail
  refine hK.out _ _ trivial (fun _=>?_)
  clear hK K;simp only[mnA,mnB,mnC];exact aW J2 HQ
 ·go_simp
  have J2:=J.lit;refine hK.out _ _ trivial (fun _=>?_);clear hK K;simp only[mnA,mnB,mnC];exact mH J2 HQ
theorem gJA (J:LwJ w W t l g S 1 false false false)(HQ:jX Q w t l g) :
  wpAnyH Tryz.prog .any jQ Q (fun _=>True) 13 #[true,true,true,false,true,false,true,false,true,false,true,false,false,true,false,false,false,true,false,false,false,false] (jK t g undef S.a5 undef undef undef undef undef undef undef undef undef undef undef) W:=by
 dsimp only[jK,LwD.a3,LwD.a5,LwD.a7,LwD.a9,LwD.a11,LwD.a13,LwD.a15,LwD.a16,LwD.a18,LwD.a19,LwD.a20,LwD.a22,LwD.a23]
 refine wpAnyH_ready (rs := [3,12,20]) (by kernel_rfl) (by simp) ?_
 refine AllReadyH.cons (o:=⟨some 7,_,_,_,_,_⟩) rfl (fun K hK=>?_) (AllReadyH.cons (o:=⟨some 16,_,_,_,_,_⟩) rfl (fun K hK=>?_) (AllReadyH.cons (o:=⟨some 3,_,_,_,_,_⟩) rfl (fun K hK=>?_) (AllReadyH.nil)))
 ·go_simp
  (with_reducible refine cmo (wU t l S.q W J.tp.tape) ?_);rintro e w2 ⟨p,cap,D,q,rfl,hO,hR,ht,hb⟩;have J2:=J.c1 ht hb hO hR
  go_wp2_with fail
  refine hK.out _ _ trivial (fun _=>?_)
  clear hK K;simp only[mnA,mnB,mnC];exact gZA J2 HQ
 ·go_simp
  have J2:=J.lit;refine hK.out _ _ trivial (fun _=>?_);clear hK K;simp only[mnA,mnB,mnC];exact aV J2 HQ
 ·go_simp
  have J2:=J.var;refine hK.out _ _ trivial (fun _=>?_);clear hK K;simp only[mnA,mnB,mnC];exact aK J2 HQ
theorem aX (J:LwJ w W t l g S 0 true true false)(HQ:jX Q w t l g) :
  wpAnyH Tryz.prog .any jQ Q (fun _=>True) 12 #[true,false,true,false,true,false,true,false,true,false,true,false,true,true,false,false,false,true,false,false,true,false] (jK t g S.a3 undef undef undef undef undef undef S.a16 undef undef undef undef undef) W:=by
 dsimp only[jK,LwD.a3,LwD.a5,LwD.a7,LwD.a9,LwD.a11,LwD.a13,LwD.a15,LwD.a16,LwD.a18,LwD.a19,LwD.a20,LwD.a22,LwD.a23]
 refine rdA 1 5 (fun K hK=>?_)
 ·go_simp
  (with_reducible refine cmo (vN t l S.q W J.tp.tape) ?_);rintro e w2 ⟨v,L,q,rfl,hL,hc,h1,h3,hsm,hp⟩;obtain⟨sp,sc,d,rfl,hsc, -,hSS⟩:=hL.ss rfl;have J2:=J.c0 hp hSS hsc hc h1 h3 hsm
  go_wp2_with fail
  refine hK.out _ _ trivial (fun _=>?_)
  clear hK K;simp only[mnA,mnB,mnC];exact mH J2 HQ
theorem kEA (J:LwJ w W t l g S 0 false true false)(HQ:jX Q w t l g) :
  wpAnyH Tryz.prog .any jQ Q (fun _=>True) 13 #[true,false,true,false,true,false,true,false,true,false,true,false,true,true,false,false,false,true,false,false,false,false] (jK t g undef undef undef undef undef undef undef S.a16 undef undef undef undef undef) W:=by
 dsimp only[jK,LwD.a3,LwD.a5,LwD.a7,LwD.a9,LwD.a11,LwD.a13,LwD.a15,LwD.a16,LwD.a18,LwD.a19,LwD.a20,LwD.a22,LwD.a23]
 refine wpAnyH_ready (rs := [1,20]) (by kernel_rfl) (by simp) ?_
 refine AllReadyH.cons (o:=⟨some 5,_,_,_,_,_⟩) rfl (fun K hK=>?_) (AllReadyH.cons (o:=⟨some 3,_,_,_,_,_⟩) rfl (fun K hK=>?_) (AllReadyH.nil))
 ·go_simp
  (with_reducible refine cmo (vN t l S.q W J.tp.tape) ?_);rintro e w2 ⟨v,L,q,rfl,hL,hc,h1,h3,hsm,hp⟩;obtain⟨sp,sc,d,rfl,hsc, -,hSS⟩:=hL.ss rfl;have J2:=J.c0 hp hSS hsc hc h1 h3 hsm
  go_wp2_with fail
  refine hK.out _ _ trivial (fun _=>?_)
  clear hK K;simp only[mnA,mnB,mnC];exact aV J2 HQ
 ·go_simp
  have J2:=J.var;refine hK.out _ _ trivial (fun _=>?_);clear hK K;simp only[mnA,mnB,mnC];exact aX J2 HQ
theorem gQA (J:LwJ w W t l g S 0 true false false)(HQ:jX Q w t l g) :
  wpAnyH Tryz.prog .any jQ Q (fun _=>True) 13 #[true,false,true,false,true,false,true,false,true,false,true,false,false,true,false,false,false,true,false,false,true,false] (jK t g S.a3 undef undef undef undef undef undef undef undef undef undef undef undef) W:=by
 dsimp only[jK,LwD.a3,LwD.a5,LwD.a7,LwD.a9,LwD.a11,LwD.a13,LwD.a15,LwD.a16,LwD.a18,LwD.a19,LwD.a20,LwD.a22,LwD.a23]
 refine wpAnyH_ready (rs := [1,12]) (by kernel_rfl) (by simp) ?_
 refine AllReadyH.cons (o:=⟨some 5,_,_,_,_,_⟩) rfl (fun K hK=>?_) (AllReadyH.cons (o:=⟨some 16,_,_,_,_,_⟩) rfl (fun K hK=>?_) (AllReadyH.nil))
 ·go_simp
  (with_reducible refine cmo (vN t l S.q W J.tp.tape) ?_);rintro e w2 ⟨v,L,q,rfl,hL,hc,h1,h3,hsm,hp⟩;obtain⟨sp,sc,d,rfl,hsc, -,hSS⟩:=hL.ss rfl;have J2:=J.c0 hp hSS hsc hc h1 h3 hsm
  go_wp2_with fail
  refine hK.out _ _ trivial (fun _=>?_)
  clear hK K;simp only[mnA,mnB,mnC];exact aK J2 HQ
 ·go_simp
  have J2:=J.lit;refine hK.out _ _ trivial (fun _=>?_);clear hK K;simp only[mnA,mnB,mnC];exact aX J2 HQ
theorem kAA (J:LwJ w W t l g S 0 false false false)(HQ:jX Q w t l g) :
  wpAnyH Tryz.prog .any jQ Q (fun _=>True) 14 #[true,false,true,false,true,false,true,false,true,false,true,false,false,true,false,false,false,true,false,false,false,false] (jK t g undef undef undef undef undef undef undef undef undef undef undef undef undef) W:=by
 dsimp only[jK,LwD.a3,LwD.a5,LwD.a7,LwD.a9,LwD.a11,LwD.a13,LwD.a15,LwD.a16,LwD.a18,LwD.a19,LwD.a20,LwD.a22,LwD.a23]
 refine wpAnyH_ready (rs := [1,12,20]) (by kernel_rfl) (by simp) ?_
 refine AllReadyH.cons (o:=⟨some 5,_,_,_,_,_⟩) rfl (fun K hK=>?_) (AllReadyH.cons (o:=⟨some 16,_,_,_,_,_⟩) rfl (fun K hK=>?_) (AllReadyH.cons (o:=⟨some 3,_,_,_,_,_⟩) rfl (fun K hK=>?_) (AllReadyH.nil)))
 ·go_simp
  (with_reducible refine cmo (vN t l S.q W J.tp.tape) ?_);rintro e w2 ⟨v,L,q,rfl,hL,hc,h1,h3,hsm,hp⟩;obtain⟨sp,sc,d,rfl,hsc, -,hSS⟩:=hL.ss rfl;have J2:=J.c0 hp hSS hsc hc h1 h3 hsm
  go_wp2_with fail
  refine hK.out _ _ trivial (fun _=>?_)
  clear hK K;simp only[mnA,mnB,mnC];exact gJA J2 HQ
 ·go_simp
  have J2:=J.lit;refine hK.out _ _ trivial (fun _=>?_);clear hK K;simp only[mnA,mnB,mnC];exact kEA J2 HQ
 ·go_simp
  have J2:=J.var;refine hK.out _ _ trivial (fun _=>?_);clear hK K;simp only[mnA,mnB,mnC];exact gQA J2 HQ
end
theorem vM {w:World}{g:Nat}{z:Array Value}{T:TypeId}(h:Blk w g z T)(hz:∃z0 z1 z2 z3 z4 z5 z6 z7 z8 z9:Value,z=#[z0,z1,z2,z3,z4,z5,z6,z7,z8,z9])(u0 u1 u2 u3 u4 u5 u6 u7 u8 u9:Value):Blk (vW w g u0 u1 u2 u3 u4 u5 u6 u7 u8 u9) g #[u0,u1,u2,u3,u4,u5,u6,u7,u8,u9] T:=by
 obtain⟨z0,z1,z2,z3,z4,z5,z6,z7,z8,z9,rfl⟩:=hz;have a0:Blk _ g #[u0,z1,z2,z3,z4,z5,z6,z7,z8,z9] T:=h.set 0 u0;have a1:Blk _ g #[u0,u1,z2,z3,z4,z5,z6,z7,z8,z9] T:=a0.set 1 u1;have a2:Blk _ g #[u0,u1,u2,z3,z4,z5,z6,z7,z8,z9] T:=a1.set 2 u2;have a3:Blk _ g #[u0,u1,u2,u3,z4,z5,z6,z7,z8,z9] T:=a2.set 3 u3;have a4:Blk _ g #[u0,u1,u2,u3,u4,z5,z6,z7,z8,z9] T:=a3.set 4 u4;have a5:Blk _ g #[u0,u1,u2,u3,u4,u5,z6,z7,z8,z9] T:=a4.set 5 u5;have a6:Blk _ g #[u0,u1,u2,u3,u4,u5,u6,z7,z8,z9] T:=a5.set 6 u6;have a7:Blk _ g #[u0,u1,u2,u3,u4,u5,u6,u7,z8,z9] T:=a6.set 7 u7;have a8:Blk _ g #[u0,u1,u2,u3,u4,u5,u6,u7,u8,z9] T:=a7.set 8 u8;exact a8.set 9 u9
theorem tQ {w0 w:World}{B g:Nat}(h:Below B w0 w)(hg:B≤g)(u0 u1 u2 u3 u4 u5 u6 u7 u8 u9:Value):Below B w0 (vW w g u0 u1 u2 u3 u4 u5 u6 u7 u8 u9) :=
 (((((((((h.setCell hg u0).setCell hg u1).setCell hg u2).setCell hg u3).setCell hg u4).setCell hg u5).setCell hg u6).setCell hg u7).setCell hg u8).setCell hg u9
theorem bX (w:World){g b:Nat}(h:b≠g)(u0 u1 u2 u3 u4 u5 u6 u7 u8 u9:Value):(vW w g u0 u1 u2 u3 u4 u5 u6 u7 u8 u9).heap[b]?=w.heap[b]?:=by
 unfold vW;simp only[qB _ h]
theorem qKA (w:World)(g:Nat)(u0 u1 u2 u3 u4 u5 u6 u7 u8 u9:Value):(vW w g u0 u1 u2 u3 u4 u5 u6 u7 u8 u9).heap.size=w.heap.size:=by
 unfold vW;simp only[jG]
structure uV (w W:World) (t:Nat) (l:List Int) (q g g3 d:Nat) (r:RY) (Y:YLaw):Prop where
 tp:TpB w W t l q
 res:Blk W g #[.slice none 0 0,.slice none 0 0,I O 0,I O 0,I O 0,.slice none 0 0,I O 0,I O 0,I O 0,I O 0] 29
 vb:Blk W g3 (yCells r).toArray 29
 yv:YV (fun b=>w.heap.size≤b∧b≠g∧b≠g3) W d r Y
 ok:YOk Y
 len:Y.sch.length≤3
 due:Y.late.due<40
 sm:∀s∈Y.sch,yZ s
 ord:w.heap.size≤g∧g<g3
theorem LwJ.lawV {w W:World}{t g:Nat}{l:List Int}{S:LwD}(h:LwJ w W t l g S 8 true true true) :
  uV w (vW W S.gv (.slice S.sp S.L.length S.sc) (.slice S.tp S.D.length S.tc) (I O S.x) (I O S.y) (I O S.z) (.slice S.gp S.E.length S.gc) (I O S.c4) (I O S.c5) (I O S.u) (I O S.c7)) t l S.q g S.gv S.d
   ⟨S.sp,S.L.length,S.sc,S.tp,S.D.length,S.tc,S.x,S.y,S.z,S.gp,S.E.length,S.gc,S.c4,S.c5,S.u,S.c7⟩ ⟨S.L,S.D,⟨S.x,S.y,S.z⟩,S.E,S.c4,S.c5,S.u,S.c7⟩:=by
 obtain⟨s1,s2,s3,s4,s5,s6⟩:=h.hs (by omega);obtain⟨⟨t1,t2⟩,t3⟩:=h.ht (by omega);obtain⟨⟨d1,d2⟩,d3⟩:=h.hd (by omega);have hc4:=h.h5 (by omega);have hc5:=h.h6 (by omega);have hc7:=h.h8 (by omega);have hu:=h.hu rfl;obtain⟨v1,v2⟩:=h.hv rfl;have hg:=h.ord;have F:∀(W' : World),(∀b,b≠S.gv→W'.heap[b]?=W.heap[b]?)→W.heap.size≤W'.heap.size→YV (fun b=>w.heap.size≤b∧b≠g∧b≠S.gv) W' S.d ⟨S.sp,S.L.length,S.sc,S.tp,S.D.length,S.tc,S.x,S.y,S.z,S.gp,S.E.length,S.gc,S.c4,S.c5,S.u,S.c7⟩ ⟨S.L,S.D,⟨S.x,S.y,S.z⟩,S.E,S.c4,S.c5,S.u,S.c7⟩:=fun W' hW hz=>by
  have pk:∀(p:Option Addr) (K:List (Int × Int)),jF W p K→(∀a,p=some a→K = []∨(g<a.block∧(true=true→a.block≠S.gv)))→jF W' p K∧∀a,p=some a→K = []∨(w.heap.size≤a.block∧a.block≠g∧a.block≠S.gv):=fun p K h1 h2 =>
   ⟨h1.blocks hz fun a e=>(h2 a e).imp id fun h=>hW _ (h.2 rfl),fun a e=>(h2 a e).imp id fun h=>⟨by omega,by omega,h.2 rfl⟩⟩
  obtain⟨t4,t5⟩:=pk _ _ t1 t2;obtain⟨d4,d5⟩:=pk _ _ d1 d2
  exact⟨s1.change hz fun b q _=>⟨hW b (q.2 rfl),by have:=q.1;omega,by have:=q.1;omega,q.2 rfl⟩,rfl,s2,t4,rfl,t5,rfl,rfl,rfl,d4,rfl,d5,rfl,rfl,rfl,rfl,
   fun s hs=>by have:=(s6 s hs).nm;omega,fun s hs=>by have:=(s6 s hs).ct;omega⟩
 refine⟨?_,?_,vM v1 ⟨_,_,_,_,_,_,_,_,_,_,rfl⟩ _ _ _ _ _ _ _ _ _ _,F _ (fun b hb=>bX _ hb _ _ _ _ _ _ _ _ _ _) (by rw[qKA];exact Nat.le_refl _),?_,s5,(h.hl (by omega)).2,s6,hg,v2⟩
 ·exact h.tp.belowB (tQ (brf _ _) (by omega) _ _ _ _ _ _ _ _ _ _)
 ·exact(bX W (show g≠S.gv by omega) _ _ _ _ _ _ _ _ _ _).trans h.res
 ·exact⟨by show S.L.length≠0;omega,s3,t3,(h.hl (by omega)).1,d3,⟨hc4.1,by show S.c4≤_;omega⟩,⟨hc5.1,by show S.c5≤_;omega⟩,⟨hu.1,by show S.u≤_;omega⟩,⟨hc7.1,by show S.c7≤_;omega⟩⟩
end Go.Proofs.YtefcalgjnkigjaaGreat
