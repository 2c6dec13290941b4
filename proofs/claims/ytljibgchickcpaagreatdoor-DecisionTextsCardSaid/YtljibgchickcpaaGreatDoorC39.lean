/- Packed. -/
import Derived.Test.YtljibgchickcpaaGreatDoorC29
import Derived.Test.YtljibgchickcpaaGreatDoorC38
set_option maxRecDepth 100000
set_option maxHeartbeats 8000000
open Go.Value renaming int → I
open Go.IntKind renaming i64 → O
namespace Go.Proofs.YtljibgchickcpaaGreatDoor
open Go.RowKit Sc As Dn
def SpG (t:Nat) (l:List Int) (w:World) (e:Ending) (w' : World):Prop:=∃(r:RD) (D:Dec) (q:Nat),e = .returned (.agg (dCells r).toArray)∧DO w.heap.size w' r D∧TpB w w' t l q
structure SpS (w W:World) (t:Nat) (l:List Int) (q g:Nat) (r:RD) (D:Dec):Prop where
 tp:TpB w W t l q
 res:Blk W w.heap.size #[I O 0,I O 0,I O 0,.slice none 0 0,.slice none 0 0] 26
 bl:Blk W g (dCells r).toArray 26
 dO:DO (w.heap.size+1) W r D
 hg:w.heap.size<g
 gA:∀i,(Value.slice r.ap r.an r.ac).ownBlock=some i→i≠g
 gR:∀i,(Value.slice r.rp r.rn r.rc).ownBlock=some i→i≠g
theorem SpS.tg {w W:World}{t q g:Nat}{l:List Int}{r:RD}{D:Dec}(h:SpS w W t l q g r D):t<w.heap.size:=h.tp.lt
theorem SpS.next {w W W' : World}{t q q' g:Nat}{l:List Int}{r:RD}{D:Dec}(h:SpS w W t l q g r D)(ht:TapeAt W' t l q')(hb:But t W W'):SpS w W' t l q' g r D :=
 ⟨h.tp.next ht hb,h.res.but hb (Nat.ne_of_gt h.tg),h.bl.but hb (Nat.ne_of_gt (Nat.lt_trans h.tg h.hg)),h.dO.but hb (Nat.lt_succ_of_lt h.tg),h.hg,h.gA,h.gR⟩
theorem SpS.row {w W:World}{t q g:Nat}{l:List Int}{r r' : RD}{D D' : Dec}(h:SpS w W t l q g r D)(i:Nat)(u:Value)(hc:(dCells r').toArray=(dCells r).toArray.setIfInBounds i u)
  (h1:r'.year=D'.year) (h2:r'.farm=D'.farm) (h3:r'.ver=D'.ver) (ea:(r'.ap=r.ap∧r'.an=r.an∧r'.ac=r.ac∧D'.aw=D.aw)∨(r'.ap=none∧r'.an=0∧r'.ac=0∧D'.aw = [])) (er:r'.rp=r.rp∧r'.rn=r.rn∧r'.rc=r.rc∧D'.rs=D.rs) :
  SpS w (W.setCell ⟨g,i,none⟩ u) t l q g r' D' :=by
 obtain⟨y', f', v', ap', an', ac', rp', rn', rc'⟩:=r'; obtain⟨e1,e2,e3,e4⟩:=er;simp only at e1 e2 e3 ea h1 h2 h3;subst e1 e2 e3;have hR:OwnR SRn (W.setCell ⟨g,i,none⟩ u) 76 (w.heap.size+1) (.slice r.rp r.rn r.rc) D'.rs:=by rw[e4];exact h.dO.rs.blocks fun b hb _ _=>setCell_far _ (h.gR b hb) _ _
 refine⟨h.tp.set (Nat.le_of_lt h.hg) _,h.res.far (Nat.ne_of_lt h.hg) _,?_,?_,h.hg,?_,h.gR⟩
 ·have:=h.bl.set i u
  rw[← hc]at this;exact this
 ·rcases ea with⟨rfl,rfl,rfl,e⟩|⟨rfl,rfl,rfl,e⟩
  ·exact⟨h1,h2,h3,by rw[e];exact h.dO.aw.blocks fun b hb _ _=>setCell_far _ (h.gA b hb) _ _,hR,h.dO.ap⟩
  ·exact⟨h1,h2,h3,by rw[e];exact OwnR.nil _ _ _,hR,fun g hg=>by cases hg⟩
 ·rcases ea with⟨rfl,rfl,rfl,e⟩|⟨rfl,rfl,rfl,e⟩
  ·exact h.gA
  ·exact fun i hi=>by cases hi
theorem SpS.below {w W W' : World}{t q g:Nat}{l:List Int}{r:RD}{D:Dec}(h:SpS w W t l q g r D)(hb:Below W.heap.size W W'):SpS w W' t l q g r D :=
 ⟨h.tp.below hb,h.res.below hb,h.bl.below hb,h.dO.below hb,h.hg,h.gA,h.gR⟩
theorem SpS.putA {w W:World}{t q g:Nat}{l:List Int}{r:RD}{D:Dec}(h:SpS w W t l q g r D){k:Nat}(hk:k<D.aw.length)(i:Nat)(hi:i<9)(u:Value)(a' : Awd)(hc:SA.cells a' = (SA.cells D.aw[k]).set i u) :
  ∃gb,r.ap=some ⟨gb,0,none⟩∧gb≠g∧gb<W.heap.size∧(∃v0,W.cell? ⟨gb,k*9+i,none⟩=some v0)∧W.frozen? ⟨gb,k*9+i,none⟩=false∧SpS w (W.setCell ⟨gb,k*9+i,none⟩ u) t l q g r { D with aw:=D.aw.set k a' }:=by
 obtain⟨gb,hp,hn,hB,hl,hcell,hf,hset⟩:=h.dO.aw.at hk;have hne:gb≠g:=h.gA gb (by rw[hp];rfl);refine⟨gb,hp,hne,hl,⟨_,hcell i _ (List.getElem?_eq_getElem (by rw[SA.len];exact hi))⟩,hf _,⟨h.tp.set (Nat.le_of_lt hB) _,h.res.far (Nat.ne_of_lt hB) _,h.bl.far (Ne.symm hne) _,⟨h.dO.year,h.dO.farm,h.dO.ver,hset i u a' hi hc,h.dO.rs.blocks fun b hb _ _=>setCell_far _ (fun e=>h.dO.ap gb (by rw[hp];rfl) (by rw[← e];exact hb)) _ _,h.dO.ap⟩,h.hg,h.gA,h.gR⟩⟩
theorem SpS.putR {w W:World}{t q g:Nat}{l:List Int}{r:RD}{D:Dec}(h:SpS w W t l q g r D){k:Nat}(hk:k<D.rs.length)(i:Nat)(hi:i<3)(u:Value)(a' : Rsn)(hc:SRn.cells a' = (SRn.cells D.rs[k]).set i u) :
  ∃gb,r.rp=some ⟨gb,0,none⟩∧gb≠g∧gb<W.heap.size∧(∃v0,W.cell? ⟨gb,k*3+i,none⟩=some v0)∧W.frozen? ⟨gb,k*3+i,none⟩=false∧SpS w (W.setCell ⟨gb,k*3+i,none⟩ u) t l q g r { D with rs:=D.rs.set k a' }:=by
 obtain⟨gb,hp,hn,hB,hl,hcell,hf,hset⟩:=h.dO.rs.at hk;have hne:gb≠g:=h.gR gb (by rw[hp];rfl);refine⟨gb,hp,hne,hl,⟨_,hcell i _ (List.getElem?_eq_getElem (by rw[SRn.len];exact hi))⟩,hf _,⟨h.tp.set (Nat.le_of_lt hB) _,h.res.far (Nat.ne_of_lt hB) _,h.bl.far (Ne.symm hne) _,⟨h.dO.year,h.dO.farm,h.dO.ver,h.dO.aw.blocks fun b hb _ _=>setCell_far _ (fun e=>h.dO.ap b hb (by rw[hp,e];rfl)) _ _,hset i u a' hi hc,h.dO.ap⟩,h.hg,h.gA,h.gR⟩⟩
theorem OwnR.made00 {α:Type}{S:Shape α}(w:World)(T:TypeId):OwnR S (w.alloc (.cells #[] T)) T w.heap.size (.slice (some ⟨w.heap.size,0,none⟩) 0 0) [] :=
 World.ownsRow_made w #[] 0 mle (by unfold maxLen;omega) (by simp)
theorem SpS.newR {w W W' : World}{t q g:Nat}{l:List Int}{r:RD}{D:Dec}(h:SpS w W t l q g r D)(hb:Below W.heap.size W W'){p:Option Addr}{n c:Nat}{L:List Rsn}(hO:OwnR SRn W' 76 W.heap.size (.slice p n c) L) :
  SpS w (W'.setCell ⟨g,4,none⟩ (.slice p n c)) t l q g { r with rp:=p,rn:=n,rc:=c } { D with rs:=L }:=by
 have h2:=h.below hb;have hgl:=h.bl.lt;have hg:=h.hg;refine⟨h2.tp.set (Nat.le_of_lt h.hg) _,h2.res.far (Nat.ne_of_lt h.hg) _,h2.bl.set 4 _,⟨h.dO.year,h.dO.farm,h.dO.ver,h2.dO.aw.blocks fun b hb2 _ _=>setCell_far _ (h.gA b hb2) _ _,(hO.mono (by omega)).blocks fun b hb2 _ _=>setCell_far _ (by have:=(hO.lt hb2).1;omega) _ _,fun i hi e=>?_⟩,h.hg,h.gA,fun i hi=>by have:=(hO.lt hi).1;omega⟩;have h3:=own_lt h.dO.aw hi;have h4:=(hO.lt e).1;omega
theorem SpS.newA {w W W' : World}{t q g:Nat}{l:List Int}{r:RD}{D:Dec}(h:SpS w W t l q g r D)(hb:Below W.heap.size W W'){p:Option Addr}{n c:Nat}{L:List Awd}(hO:OwnR SA W' 78 W.heap.size (.slice p n c) L) :
  SpS w (W'.setCell ⟨g,3,none⟩ (.slice p n c)) t l q g { r with ap:=p,an:=n,ac:=c } { D with aw:=L }:=by
 have h2:=h.below hb;have hgl:=h.bl.lt;have hg:=h.hg;refine⟨h2.tp.set (Nat.le_of_lt h.hg) _,h2.res.far (Nat.ne_of_lt h.hg) _,h2.bl.set 3 _,⟨h.dO.year,h.dO.farm,h.dO.ver,(hO.mono (by omega)).blocks fun b hb2 _ _=>setCell_far _ (by have:=(hO.lt hb2).1;omega) _ _,h2.dO.rs.blocks fun b hb2 _ _=>setCell_far _ (h.gR b hb2) _ _,fun i hi e=>?_⟩,h.hg,fun i hi=>by have:=(hO.lt hi).1;omega,h.gR⟩;have h3:=own_lt h.dO.rs e;have h4:=(hO.lt hi).1;omega
theorem spoilt35_any (t:Nat)(l:List Int)(a:Nat)(x:Int)(w:World)(h:TapeAt w t l a):Calls Tryz.prog 9 #[.pointer (some ⟨t,0,none⟩),I O x] w (SpG t l w):=by
 have htl:=h.lt;have T1:=mh ((TpB.init h).alloc (.cells #[I O 0,I O 0,I O 0,.slice none 0 0,.slice none 0 0] 26));have R0:=mh (Blk.new w #[I O 0,I O 0,I O 0,.slice none 0 0,.slice none 0 0] 26);have SZ0:=mh (show(w.alloc (.cells #[I O 0,I O 0,I O 0,.slice none 0 0,.slice none 0 0] 26)).heap.size=w.heap.size+1 from by simp);have DC:=mh (decision2_any t l a (w.alloc (.cells #[I O 0,I O 0,I O 0,.slice none 0 0,.slice none 0 0] 26)) T1.out.tape);have TN:=mh (fun (W:World) (q:Nat) (n:Int) (h:TapeAt W t l q) (hn:n≤9223372036854775807)=>next_any t l q n W h hn);unfold DecG at DC;clear h
 go_enter Tryz.func9,Tryz.ntmps9
 go_upto_region 2 with (first|(go_at_call 8;(with_reducible refine cmo DC.out ?_);rintro e w1 ⟨r,D,q,rfl,hdo,hck,htp⟩;have HCK:=mh hck;clear hck;simp only[dCells];have S1:=mh (show SpS w (w1.alloc (.cells #[I O r.year,I O r.farm,I O r.ver,.slice r.ap r.an r.ac,.slice r.rp r.rn r.rc] 26)) t l q w1.heap.size r D from⟨(T1.out.trans htp).alloc _,((R0.out.but htp.but (Nat.ne_of_gt htl))).below ((brf _ _).alloc mle _),Blk.new w1 #[I O r.year,I O r.farm,I O r.ver,.slice r.ap r.an r.ac,.slice r.rp r.rn r.rc] 26,(SZ0.out▸hdo).below ((brf _ _).alloc mle _),(by have h1:=htp.but.size;have h2:=SZ0.out;omega),(fun i hi=>Nat.ne_of_lt (own_lt hdo.aw hi)),(fun i hi=>Nat.ne_of_lt (own_lt hdo.rs hi))⟩);clear hdo htp)|fail)
 generalize w1.alloc (.cells #[I O r.year,I O r.farm,I O r.ver,.slice r.ap r.an r.ac,.slice r.rp r.rn r.rc] 26)=w2 at *;obtain⟨g,eg⟩:∃g,w1.heap.size=g:=⟨_,rfl⟩;rw[eg]at S1 ⊢;clear eg;have NX:=mh (TN.out w2 q 12 S1.out.tp.tape (by omega));have GB:=gives_bd l q (n:=12) (by omega);obtain⟨n,en⟩:∃n,gives l q 12=n:=⟨_,rfl⟩;rw[en]at NX GB;obtain⟨n0,n1⟩:=GB;clear en
 by_cases h1:n=1
 ·subst h1
  go_upto_region 24 with (first|(go_at_call 28;(with_reducible refine cmo NX.out ?_);rintro e w3 ⟨rfl,ht3,hb3⟩;have S3:=mh (S1.out.next ht3 hb3);clear ht3 hb3;obtain⟨b0,bf0,b1,bf1,b2,bf2,b3,bf3,b4,bf4⟩:=Blk.f5 S3.out.bl;have bl0:=S3.out.bl.lt)|fail)
  have S4:=mh (show SpS w (w3.setCell ⟨g,0,none⟩ (I O x)) t l _ g { r with year:=x } { D with year:=x } from S3.out.row 0 (I O x) rfl rfl S3.out.dO.farm S3.out.dO.ver (.inl ⟨rfl,rfl,rfl,rfl⟩) ⟨rfl,rfl,rfl,rfl⟩);generalize w3.setCell ⟨g,0,none⟩ (I O x)=w4 at *;clear b0 b1 b2 b3 b4 bf0 bf1 bf2 bf3 bf4 bl0;obtain⟨t0,t0f,t1,t1f,t2,t2f,t3,t3f,t4,t4f⟩:=S4.out.res.f5;obtain⟨d0,d1,d2,d3,d4⟩:=Blk.c5 S4.out.bl;have dl:=S4.out.bl.lt
  go_wp2_with fail
  exact post5 S4.out.res rfl fun wf PB PK=>⟨by obtain⟨c0,c1,c2,c3,c4⟩:=PB.c5;simp[results,dCells,Tryz.results9,go_sem,c0,c1,c2,c3,c4],⟨{ r with year:=x },_,_,rfl,(S4.out.dO.but PK (Nat.lt_succ_self _)).mono (Nat.le_succ _),S4.out.tp.belowB (PK.below mle S4.out.tp.but.size)⟩⟩
 by_cases h2:n=2
 ·subst h2
  go_upto_region 24 with (first|(go_at_call 28;(with_reducible refine cmo NX.out ?_);rintro e w3 ⟨rfl,ht3,hb3⟩;have S3:=mh (S1.out.next ht3 hb3);clear ht3 hb3;obtain⟨b0,bf0,b1,bf1,b2,bf2,b3,bf3,b4,bf4⟩:=Blk.f5 S3.out.bl;have bl0:=S3.out.bl.lt)|fail)
  have S4:=mh (show SpS w (w3.setCell ⟨g,1,none⟩ (I O x)) t l _ g { r with farm:=x } { D with farm:=x } from S3.out.row 1 (I O x) rfl S3.out.dO.year rfl S3.out.dO.ver (.inl ⟨rfl,rfl,rfl,rfl⟩) ⟨rfl,rfl,rfl,rfl⟩);generalize w3.setCell ⟨g,1,none⟩ (I O x)=w4 at *;clear b0 b1 b2 b3 b4 bf0 bf1 bf2 bf3 bf4 bl0;obtain⟨t0,t0f,t1,t1f,t2,t2f,t3,t3f,t4,t4f⟩:=S4.out.res.f5;obtain⟨d0,d1,d2,d3,d4⟩:=Blk.c5 S4.out.bl;have dl:=S4.out.bl.lt
  go_wp2_with fail
  exact post5 S4.out.res rfl fun wf PB PK=>⟨by obtain⟨c0,c1,c2,c3,c4⟩:=PB.c5;simp[results,dCells,Tryz.results9,go_sem,c0,c1,c2,c3,c4],⟨{ r with farm:=x },_,_,rfl,(S4.out.dO.but PK (Nat.lt_succ_self _)).mono (Nat.le_succ _),S4.out.tp.belowB (PK.below mle S4.out.tp.but.size)⟩⟩
 by_cases h3:n=3
 ·subst h3
  go_upto_region 24 with (first|(go_at_call 28;(with_reducible refine cmo NX.out ?_);rintro e w3 ⟨rfl,ht3,hb3⟩;have S3:=mh (S1.out.next ht3 hb3);clear ht3 hb3;obtain⟨b0,bf0,b1,bf1,b2,bf2,b3,bf3,b4,bf4⟩:=Blk.f5 S3.out.bl;have bl0:=S3.out.bl.lt)|fail)
  have S4:=mh (show SpS w (w3.setCell ⟨g,2,none⟩ (I O x)) t l _ g { r with ver:=x } { D with ver:=x } from S3.out.row 2 (I O x) rfl S3.out.dO.year S3.out.dO.farm rfl (.inl ⟨rfl,rfl,rfl,rfl⟩) ⟨rfl,rfl,rfl,rfl⟩);generalize w3.setCell ⟨g,2,none⟩ (I O x)=w4 at *;clear b0 b1 b2 b3 b4 bf0 bf1 bf2 bf3 bf4 bl0;obtain⟨t0,t0f,t1,t1f,t2,t2f,t3,t3f,t4,t4f⟩:=S4.out.res.f5;obtain⟨d0,d1,d2,d3,d4⟩:=Blk.c5 S4.out.bl;have dl:=S4.out.bl.lt
  go_wp2_with fail
  exact post5 S4.out.res rfl fun wf PB PK=>⟨by obtain⟨c0,c1,c2,c3,c4⟩:=PB.c5;simp[results,dCells,Tryz.results9,go_sem,c0,c1,c2,c3,c4],⟨{ r with ver:=x },_,_,rfl,(S4.out.dO.but PK (Nat.lt_succ_self _)).mono (Nat.le_succ _),S4.out.tp.belowB (PK.below mle S4.out.tp.but.size)⟩⟩
 by_cases h9:n=9
 ·subst h9
  go_upto_region 24 with (first|(go_at_call 28;(with_reducible refine cmo NX.out ?_);rintro e w3 ⟨rfl,ht3,hb3⟩;have S3:=mh (S1.out.next ht3 hb3);clear ht3 hb3;obtain⟨b0,bf0,b1,bf1,b2,bf2,b3,bf3,b4,bf4⟩:=Blk.f5 S3.out.bl;have bl0:=S3.out.bl.lt)|fail)
  have S4:=mh (show SpS w (w3.setCell ⟨g,3,none⟩ (.slice none 0 0)) t l _ g { r with ap:=none,an:=0,ac:=0 } { D with aw := [] } from S3.out.row 3 (.slice none 0 0) rfl S3.out.dO.year S3.out.dO.farm S3.out.dO.ver (.inr ⟨rfl,rfl,rfl,rfl⟩) ⟨rfl,rfl,rfl,rfl⟩);generalize w3.setCell ⟨g,3,none⟩ (.slice none 0 0)=w4 at *;clear b0 b1 b2 b3 b4 bf0 bf1 bf2 bf3 bf4 bl0;obtain⟨t0,t0f,t1,t1f,t2,t2f,t3,t3f,t4,t4f⟩:=S4.out.res.f5;obtain⟨d0,d1,d2,d3,d4⟩:=Blk.c5 S4.out.bl;have dl:=S4.out.bl.lt
  go_wp2_with fail
  exact post5 S4.out.res rfl fun wf PB PK=>⟨by obtain⟨c0,c1,c2,c3,c4⟩:=PB.c5;simp[results,dCells,Tryz.results9,go_sem,c0,c1,c2,c3,c4],⟨{ r with ap:=none,an:=0,ac:=0 },_,_,rfl,(S4.out.dO.but PK (Nat.lt_succ_self _)).mono (Nat.le_succ _),S4.out.tp.belowB (PK.below mle S4.out.tp.but.size)⟩⟩
 by_cases h6:n=6
 ·subst h6
  have LEN:=mh S1.out.dO.aw.slc5.1;have hnn:0≤(r.an:Int):=inn _
  by_cases hz:r.an=0
  ·have hzc:¬(0:Int)<(r.an:Int):=by omega
   clear hz hnn
   go_upto_region 24 with (first|(go_at_call 28;(with_reducible refine cmo NX.out ?_);rintro e w3 ⟨rfl,ht3,hb3⟩;have S3:=mh (S1.out.next ht3 hb3);clear ht3 hb3;obtain⟨b0,bf0,b1,bf1,b2,bf2,b3,bf3,b4,bf4⟩:=Blk.f5 S3.out.bl;have bl0:=S3.out.bl.lt)|fail)
   clear hzc;clear b0 b1 b2 b3 b4 bf0 bf1 bf2 bf3 bf4 bl0;obtain⟨t0,t0f,t1,t1f,t2,t2f,t3,t3f,t4,t4f⟩:=S3.out.res.f5;obtain⟨d0,d1,d2,d3,d4⟩:=Blk.c5 S3.out.bl;have dl:=S3.out.bl.lt
   go_wp2_with fail
   exact post5 S3.out.res rfl fun wf PB PK=>⟨by obtain⟨c0,c1,c2,c3,c4⟩:=PB.c5;simp[results,dCells,Tryz.results9,go_sem,c0,c1,c2,c3,c4],⟨r,_,_,rfl,(S3.out.dO.but PK (Nat.lt_succ_self _)).mono (Nat.le_succ _),S3.out.tp.belowB (PK.below mle S3.out.tp.but.size)⟩⟩
  have hpos:(0:Int)<(r.an:Int):=by omega
  go_upto_region 15 with (first|(go_at_call 28;(with_reducible refine cmo NX.out ?_);rintro e w3 ⟨rfl,ht3,hb3⟩;have S3:=mh (S1.out.next ht3 hb3);clear ht3 hb3;obtain⟨b0,bf0,b1,bf1,b2,bf2,b3,bf3,b4,bf4⟩:=Blk.f5 S3.out.bl;have bl0:=S3.out.bl.lt)|fail)
  have HM:(r.an:Int)≤9223372036854775807:=by have h1:=S3.out.dO.aw.slc5.2.2.1.len;unfold maxLen at h1;have h2:=LEN.out;omega
  have NX2:=mh (TN.out w3.drew _ (r.an:Int) S3.out.tp.drew.tape HM);have GB2:=gives_bd l (taken l q) (n:=(r.an:Int)) (by omega);obtain⟨k2,ek2⟩:∃z,gives l (taken l q) (r.an:Int)=z:=⟨_,rfl⟩;rw[ek2]at NX2 GB2;obtain⟨k,rfl⟩:∃k:Nat,k2=(k:Int):=⟨k2.toNat,by omega⟩;have hk0:(0:Int)≤(k:Int):=inn _;have hk1:(k:Int)<(r.an:Int):=GB2.2;have hkl:k<D.aw.length:=by have:=LEN.out;omega
  clear ek2 GB2;refine wp_region_held_drew (S:=fun w' => w'.cell? ⟨g,3,none⟩=some (.slice r.ap r.an r.ac)) (by kernel_rfl) (show w3.drew.cell? ⟨g,3,none⟩=some (.slice r.ap r.an r.ac) from b3) (fun hHeld=>?_);refine tkH 0 49 hHeld ?_;refine tkH 1 50 hHeld ?_;refine tkH 2 51 hHeld ?_;refine tkH 3 52 hHeld ?_;refine tkH 4 53 hHeld ?_;refine tkH 5 54 hHeld ?_;refine tkH 7 56 hHeld ?_;refine rdA 6 55 (fun K hK=>?_);go_simp;(with_reducible refine cmo NX2.out ?_);rintro e w5 ⟨rfl,ht5,hb5⟩;have S5:=mh ((S3.out.below (brf _ _).drew).next ht5 hb5);clear ht5 hb5;have hHeld2:w5.cell? ⟨g,3,none⟩=some (.slice r.ap r.an r.ac):=S5.out.bl.cell 3;obtain⟨gb,hp,hgb,hgl,⟨v0,hv0⟩,hfz,hput⟩:=S5.out.putA hkl 4 (by omega) (I O x) ⟨D.aw[k].farm,D.aw[k].scheme,D.aw[k].decl,D.aw[k].det,x,D.aw[k].rated,D.aw[k].timely,D.aw[k].capped,D.aw[k].due⟩ rfl;have S6:=mh hput
  go_wp2_with fail
  refine hK.out _ _ hHeld2 (fun _=>?_)
  clear hK K hput
  (try dsimp only[Act.put])
  try simp only[mnA,mnB,mnC]
  refine tkH 8 57 hHeld2 ?_
  refine tkH 9 58 hHeld2 ?_
  clear hp;refine wpAnyH_ready (rs := [10]) (by kernel_rfl) (by simp) ?_;refine AllReadyH.cons (o:=⟨none,_,_,_,_,_⟩) rfl (fun K hK=>?_) AllReadyH.nil;go_simp;have hHeld6:(w5.setCell ⟨gb,k*9+4,none⟩ (I O x)).cell? ⟨g,3,none⟩=some (.slice r.ap r.an r.ac):=S6.out.bl.cell 3;refine hK.out _ _ hHeld6 (fun _=>?_);clear hK K hHeld hHeld2 hHeld6
  (try dsimp only[Act.put])
  try simp only[mnA,mnB,mnC]
  refine wpAnyH_done (by kernel_rfl) ?_ _
  generalize w5.setCell ⟨gb,k*9+4,none⟩ (I O x)=w6 at *;clear b0 b1 b2 b3 b4 bf0 bf1 bf2 bf3 bf4 bl0 hv0 hfz hgl
  go_upto_region 24 with fail
  obtain⟨t0,t0f,t1,t1f,t2,t2f,t3,t3f,t4,t4f⟩:=S6.out.res.f5;obtain⟨d0,d1,d2,d3,d4⟩:=Blk.c5 S6.out.bl;have dl:=S6.out.bl.lt
  go_wp2_with fail
  exact post5 S6.out.res rfl fun wf PB PK=>⟨by obtain⟨c0,c1,c2,c3,c4⟩:=PB.c5;simp[results,dCells,Tryz.results9,go_sem,c0,c1,c2,c3,c4],⟨r,_,_,rfl,(S6.out.dO.but PK (Nat.lt_succ_self _)).mono (Nat.le_succ _),S6.out.tp.belowB (PK.below mle S6.out.tp.but.size)⟩⟩
 by_cases h7:n=7
 ·subst h7
  have LEN:=mh S1.out.dO.aw.slc5.1;have hnn:0≤(r.an:Int):=inn _
  by_cases hz:r.an=0
  ·have hzc:¬(0:Int)<(r.an:Int):=by omega
   clear hz hnn
   go_upto_region 24 with (first|(go_at_call 28;(with_reducible refine cmo NX.out ?_);rintro e w3 ⟨rfl,ht3,hb3⟩;have S3:=mh (S1.out.next ht3 hb3);clear ht3 hb3;obtain⟨b0,bf0,b1,bf1,b2,bf2,b3,bf3,b4,bf4⟩:=Blk.f5 S3.out.bl;have bl0:=S3.out.bl.lt)|fail)
   clear hzc;clear b0 b1 b2 b3 b4 bf0 bf1 bf2 bf3 bf4 bl0;obtain⟨t0,t0f,t1,t1f,t2,t2f,t3,t3f,t4,t4f⟩:=S3.out.res.f5;obtain⟨d0,d1,d2,d3,d4⟩:=Blk.c5 S3.out.bl;have dl:=S3.out.bl.lt
   go_wp2_with fail
   exact post5 S3.out.res rfl fun wf PB PK=>⟨by obtain⟨c0,c1,c2,c3,c4⟩:=PB.c5;simp[results,dCells,Tryz.results9,go_sem,c0,c1,c2,c3,c4],⟨r,_,_,rfl,(S3.out.dO.but PK (Nat.lt_succ_self _)).mono (Nat.le_succ _),S3.out.tp.belowB (PK.below mle S3.out.tp.but.size)⟩⟩
  have hpos:(0:Int)<(r.an:Int):=by omega
  go_upto_region 18 with (first|(go_at_call 28;(with_reducible refine cmo NX.out ?_);rintro e w3 ⟨rfl,ht3,hb3⟩;have S3:=mh (S1.out.next ht3 hb3);clear ht3 hb3;obtain⟨b0,bf0,b1,bf1,b2,bf2,b3,bf3,b4,bf4⟩:=Blk.f5 S3.out.bl;have bl0:=S3.out.bl.lt)|fail)
  have HM:(r.an:Int)≤9223372036854775807:=by have h1:=S3.out.dO.aw.slc5.2.2.1.len;unfold maxLen at h1;have h2:=LEN.out;omega
  have NX2:=mh (TN.out w3.drew _ (r.an:Int) S3.out.tp.drew.tape HM);have GB2:=gives_bd l (taken l q) (n:=(r.an:Int)) (by omega);obtain⟨k2,ek2⟩:∃z,gives l (taken l q) (r.an:Int)=z:=⟨_,rfl⟩;rw[ek2]at NX2 GB2;obtain⟨k,rfl⟩:∃k:Nat,k2=(k:Int):=⟨k2.toNat,by omega⟩;have hk0:(0:Int)≤(k:Int):=inn _;have hk1:(k:Int)<(r.an:Int):=GB2.2;have hkl:k<D.aw.length:=by have:=LEN.out;omega
  clear ek2 GB2;refine wp_region_held_drew (S:=fun w' => w'.cell? ⟨g,3,none⟩=some (.slice r.ap r.an r.ac)) (by kernel_rfl) (show w3.drew.cell? ⟨g,3,none⟩=some (.slice r.ap r.an r.ac) from b3) (fun hHeld=>?_);refine tkH 0 65 hHeld ?_;refine tkH 1 66 hHeld ?_;refine tkH 2 67 hHeld ?_;refine tkH 3 68 hHeld ?_;refine tkH 4 69 hHeld ?_;refine tkH 5 70 hHeld ?_;refine tkH 7 72 hHeld ?_;refine rdA 6 71 (fun K hK=>?_);go_simp;(with_reducible refine cmo NX2.out ?_);rintro e w5 ⟨rfl,ht5,hb5⟩;have S5:=mh ((S3.out.below (brf _ _).drew).next ht5 hb5);clear ht5 hb5;have hHeld2:w5.cell? ⟨g,3,none⟩=some (.slice r.ap r.an r.ac):=S5.out.bl.cell 3;obtain⟨gb,hp,hgb,hgl,⟨v0,hv0⟩,hfz,hput⟩:=S5.out.putA hkl 8 (by omega) (I O x) ⟨D.aw[k].farm,D.aw[k].scheme,D.aw[k].decl,D.aw[k].det,D.aw[k].paid,D.aw[k].rated,D.aw[k].timely,D.aw[k].capped,x⟩ rfl;have S6:=mh hput
  go_wp2_with fail
  refine hK.out _ _ hHeld2 (fun _=>?_)
  clear hK K hput
  (try dsimp only[Act.put])
  try simp only[mnA,mnB,mnC]
  refine tkH 8 73 hHeld2 ?_
  refine tkH 9 74 hHeld2 ?_
  clear hp;refine wpAnyH_ready (rs := [10]) (by kernel_rfl) (by simp) ?_;refine AllReadyH.cons (o:=⟨none,_,_,_,_,_⟩) rfl (fun K hK=>?_) AllReadyH.nil;go_simp;have hHeld6:(w5.setCell ⟨gb,k*9+8,none⟩ (I O x)).cell? ⟨g,3,none⟩=some (.slice r.ap r.an r.ac):=S6.out.bl.cell 3;refine hK.out _ _ hHeld6 (fun _=>?_);clear hK K hHeld hHeld2 hHeld6
  (try dsimp only[Act.put])
  try simp only[mnA,mnB,mnC]
  refine wpAnyH_done (by kernel_rfl) ?_ _
  generalize w5.setCell ⟨gb,k*9+8,none⟩ (I O x)=w6 at *;clear b0 b1 b2 b3 b4 bf0 bf1 bf2 bf3 bf4 bl0 hv0 hfz hgl
  go_upto_region 24 with fail
  obtain⟨t0,t0f,t1,t1f,t2,t2f,t3,t3f,t4,t4f⟩:=S6.out.res.f5;obtain⟨d0,d1,d2,d3,d4⟩:=Blk.c5 S6.out.bl;have dl:=S6.out.bl.lt
  go_wp2_with fail
  exact post5 S6.out.res rfl fun wf PB PK=>⟨by obtain⟨c0,c1,c2,c3,c4⟩:=PB.c5;simp[results,dCells,Tryz.results9,go_sem,c0,c1,c2,c3,c4],⟨r,_,_,rfl,(S6.out.dO.but PK (Nat.lt_succ_self _)).mono (Nat.le_succ _),S6.out.tp.belowB (PK.below mle S6.out.tp.but.size)⟩⟩
 by_cases h8:n=8
 ·subst h8
  have LEN:=mh S1.out.dO.rs.slc5.1;have hnn:0≤(r.rn:Int):=inn _
  by_cases hz:r.rn=0
  ·have hzc:¬(0:Int)<(r.rn:Int):=by omega
   clear hz hnn
   go_upto_region 24 with (first|(go_at_call 28;(with_reducible refine cmo NX.out ?_);rintro e w3 ⟨rfl,ht3,hb3⟩;have S3:=mh (S1.out.next ht3 hb3);clear ht3 hb3;obtain⟨b0,bf0,b1,bf1,b2,bf2,b3,bf3,b4,bf4⟩:=Blk.f5 S3.out.bl;have bl0:=S3.out.bl.lt)|fail)
   clear hzc;clear b0 b1 b2 b3 b4 bf0 bf1 bf2 bf3 bf4 bl0;obtain⟨t0,t0f,t1,t1f,t2,t2f,t3,t3f,t4,t4f⟩:=S3.out.res.f5;obtain⟨d0,d1,d2,d3,d4⟩:=Blk.c5 S3.out.bl;have dl:=S3.out.bl.lt
   go_wp2_with fail
   exact post5 S3.out.res rfl fun wf PB PK=>⟨by obtain⟨c0,c1,c2,c3,c4⟩:=PB.c5;simp[results,dCells,Tryz.results9,go_sem,c0,c1,c2,c3,c4],⟨r,_,_,rfl,(S3.out.dO.but PK (Nat.lt_succ_self _)).mono (Nat.le_succ _),S3.out.tp.belowB (PK.below mle S3.out.tp.but.size)⟩⟩
  have hpos:(0:Int)<(r.rn:Int):=by omega
  go_upto_region 21 with (first|(go_at_call 28;(with_reducible refine cmo NX.out ?_);rintro e w3 ⟨rfl,ht3,hb3⟩;have S3:=mh (S1.out.next ht3 hb3);clear ht3 hb3;obtain⟨b0,bf0,b1,bf1,b2,bf2,b3,bf3,b4,bf4⟩:=Blk.f5 S3.out.bl;have bl0:=S3.out.bl.lt)|fail)
  have HM:(r.rn:Int)≤9223372036854775807:=by have h1:=S3.out.dO.rs.slc5.2.2.1.len;unfold maxLen at h1;have h2:=LEN.out;omega
  have NX2:=mh (TN.out w3.drew _ (r.rn:Int) S3.out.tp.drew.tape HM);have GB2:=gives_bd l (taken l q) (n:=(r.rn:Int)) (by omega);obtain⟨k2,ek2⟩:∃z,gives l (taken l q) (r.rn:Int)=z:=⟨_,rfl⟩;rw[ek2]at NX2 GB2;obtain⟨k,rfl⟩:∃k:Nat,k2=(k:Int):=⟨k2.toNat,by omega⟩;have hk0:(0:Int)≤(k:Int):=inn _;have hk1:(k:Int)<(r.rn:Int):=GB2.2;have hkl:k<D.rs.length:=by have:=LEN.out;omega
  clear ek2 GB2;refine wp_region_held_drew (S:=fun w' => w'.cell? ⟨g,4,none⟩=some (.slice r.rp r.rn r.rc)) (by kernel_rfl) (show w3.drew.cell? ⟨g,4,none⟩=some (.slice r.rp r.rn r.rc) from b4) (fun hHeld=>?_);refine tkH 0 81 hHeld ?_;refine tkH 1 82 hHeld ?_;refine tkH 2 83 hHeld ?_;refine tkH 3 84 hHeld ?_;refine tkH 4 85 hHeld ?_;refine tkH 5 86 hHeld ?_;refine tkH 7 88 hHeld ?_;refine rdA 6 87 (fun K hK=>?_);go_simp;(with_reducible refine cmo NX2.out ?_);rintro e w5 ⟨rfl,ht5,hb5⟩;have S5:=mh ((S3.out.below (brf _ _).drew).next ht5 hb5);clear ht5 hb5;have hHeld2:w5.cell? ⟨g,4,none⟩=some (.slice r.rp r.rn r.rc):=S5.out.bl.cell 4;obtain⟨gb,hp,hgb,hgl,⟨v0,hv0⟩,hfz,hput⟩:=S5.out.putR hkl 2 (by omega) (I O x) ⟨D.rs[k].line,D.rs[k].scheme,x⟩ rfl;have S6:=mh hput
  go_wp2_with fail
  refine hK.out _ _ hHeld2 (fun _=>?_)
  clear hK K hput
  (try dsimp only[Act.put])
  try simp only[mnA,mnB,mnC]
  refine tkH 8 89 hHeld2 ?_
  refine tkH 9 90 hHeld2 ?_
  clear hp;refine wpAnyH_ready (rs := [10]) (by kernel_rfl) (by simp) ?_;refine AllReadyH.cons (o:=⟨none,_,_,_,_,_⟩) rfl (fun K hK=>?_) AllReadyH.nil;go_simp;have hHeld6:(w5.setCell ⟨gb,k*3+2,none⟩ (I O x)).cell? ⟨g,4,none⟩=some (.slice r.rp r.rn r.rc):=S6.out.bl.cell 4;refine hK.out _ _ hHeld6 (fun _=>?_);clear hK K hHeld hHeld2 hHeld6
  (try dsimp only[Act.put])
  try simp only[mnA,mnB,mnC]
  refine wpAnyH_done (by kernel_rfl) ?_ _
  generalize w5.setCell ⟨gb,k*3+2,none⟩ (I O x)=w6 at *;clear b0 b1 b2 b3 b4 bf0 bf1 bf2 bf3 bf4 bl0 hv0 hfz hgl
  go_upto_region 24 with fail
  obtain⟨t0,t0f,t1,t1f,t2,t2f,t3,t3f,t4,t4f⟩:=S6.out.res.f5;obtain⟨d0,d1,d2,d3,d4⟩:=Blk.c5 S6.out.bl;have dl:=S6.out.bl.lt
  go_wp2_with fail
  exact post5 S6.out.res rfl fun wf PB PK=>⟨by obtain⟨c0,c1,c2,c3,c4⟩:=PB.c5;simp[results,dCells,Tryz.results9,go_sem,c0,c1,c2,c3,c4],⟨r,_,_,rfl,(S6.out.dO.but PK (Nat.lt_succ_self _)).mono (Nat.le_succ _),S6.out.tp.belowB (PK.below mle S6.out.tp.but.size)⟩⟩
 by_cases h5:n=5
 ·subst h5
  have LEN:=mh S1.out.dO.rs.slc5.1
  have LEN5:=mh (show D.rs.length≤100000 from by
   rcases Nat.lt_or_ge 200 D.rs.length with h|h
   ·have h1:=HCK.out;rw[chk_200 (by omega)]at h1;omega
   ·omega)
  go_upto_region 12 with (first|(go_at_call 28;(with_reducible refine cmo NX.out ?_);rintro e w3 ⟨rfl,ht3,hb3⟩;have S3:=mh (S1.out.next ht3 hb3);clear ht3 hb3;obtain⟨b0,bf0,b1,bf1,b2,bf2,b3,bf3,b4,bf4⟩:=Blk.f5 S3.out.bl;have bl0:=S3.out.bl.lt)|fail)
  have AZ:=mh (show Below w3.heap.size w3 (w3.alloc (.cells #[] 76)) from(brf _ _).alloc mle _)
  go_upto_region 24 with (first
   | (at_builtin;(refine OwnR.appendAll el_rsn rfl (.tmp 34) (.tmp 36) rfl w3.heap.size (.slice (some ⟨w3.heap.size,0,none⟩) 0 0) [] D.rs r.rp r.rc r.rn LEN.out.symm (OwnR.made00 w3 76) (S3.out.dO.rs.slc5.2.2.1.below AZ.out) S3.out.dO.rs.slc5.2.2.2 rfl rfl AZ.out.size (by have h1:=LEN.out;have h2:=LEN5.out;simp;omega) (by decide) ?_);intro v5 w5 hO5 hap5;rw[List.nil_append]at hO5;have HO5:=mh hO5;have HB5:=mh (AZ.out.trans hap5.below);clear hO5 hap5)
   | (at_builtin;(refine OwnR.append el_rsn rfl (.tmp 37) (.tmp 40) rfl w3.heap.size _ D.rs ⟨x,0,1⟩ #[I O x,I O 0,I O 1] rfl HO5.out rfl (by simp[Act.eval]) HB5.out.size (by have h2:=LEN5.out;omega) (by decide) ?_);intro v6 w6 hO6 hap6;have HB6:=mh (HB5.out.trans hap6.below);obtain⟨p6,c6,rfl, -⟩:=hO6.cut rfl;obtain⟨n6,en6⟩:∃n6,(D.rs ++ [(⟨x,0,1⟩:Rsn)]).length=n6:=⟨_,rfl⟩;rw[en6]at hO6;have S4:=mh (S3.out.newR HB6.out hO6);rw[en6];have k4:=(HB6.out.cell (p:=⟨g,4,none⟩) bl0).trans b4;have k4f:=(HB6.out.frozen (p:=⟨g,4,none⟩) bl0).trans bf4;have kl:=nll bl0 HB6.out.size;clear hO6 hap6)
   | fail)
  generalize w6.setCell ⟨g,4,none⟩ (.slice p6 n6 c6)=w7 at *;clear b0 b1 b2 b3 b4 bf0 bf1 bf2 bf3 bf4 bl0 k4 k4f kl;obtain⟨t0,t0f,t1,t1f,t2,t2f,t3,t3f,t4,t4f⟩:=S4.out.res.f5;obtain⟨d0,d1,d2,d3,d4⟩:=Blk.c5 S4.out.bl;have dl:=S4.out.bl.lt
  go_wp2_with fail
  exact post5 S4.out.res rfl fun wf PB PK=>⟨by obtain⟨c0,c1,c2,c3,c4⟩:=PB.c5;simp[results,dCells,Tryz.results9,go_sem,c0,c1,c2,c3,c4],⟨{ r with rp:=p6,rn:=n6,rc:=c6 },_,_,rfl,(S4.out.dO.but PK (Nat.lt_succ_self _)).mono (Nat.le_succ _),S4.out.tp.belowB (PK.below mle S4.out.tp.but.size)⟩⟩
 by_cases h4:n=4
 ·subst h4
  have LEN:=mh S1.out.dO.aw.slc5.1
  have LEN5:=mh (show D.aw.length≤1000 from by
   rcases Nat.lt_or_ge 16 D.aw.length with h|h
   ·have h1:=HCK.out;rw[chk_16 (by omega)]at h1;omega
   ·omega)
  go_upto_region 10 with (first|(go_at_call 28;(with_reducible refine cmo NX.out ?_);rintro e w3 ⟨rfl,ht3,hb3⟩;have S3:=mh (S1.out.next ht3 hb3);clear ht3 hb3;obtain⟨b0,bf0,b1,bf1,b2,bf2,b3,bf3,b4,bf4⟩:=Blk.f5 S3.out.bl;have bl0:=S3.out.bl.lt)|fail)
  have AZ:=mh (show Below w3.heap.size w3 (w3.drew.alloc (.cells #[] 78)) from(brf _ _).drew.alloc mle _);refine wp_region_K (fun w' => w'.cell? ⟨g,3,none⟩=some (.slice r.ap r.an r.ac)) 8 (by kernel_rfl) (show w3.drew.cell? ⟨g,3,none⟩=some (.slice r.ap r.an r.ac) from b3) (fun hHeld=>?_);refine tkK 1 25 hHeld ?_;refine tkK 2 26 hHeld ?_;refine tkK 4 28 hHeld ?_;refine tkK 5 29 hHeld ?_;refine wpAnyK_one (i:=0) (o:=⟨some 24,_,_,_,_,_⟩) (by kernel_rfl) (by kernel_rfl) rfl (fun K hK=>?_);go_simp;have hHeld2:=(AZ.out.cell (p:=⟨g,3,none⟩) bl0).trans b3;refine hK.out _ _ hHeld2 ?_;clear hK K
  (try dsimp only[Act.put])
  try simp only[mnA,mnB,mnC]
  refine wpAnyK_one (i:=3) (o:=⟨some 27,_,_,_,_,_⟩) (by kernel_rfl) (by kernel_rfl) rfl (fun K hK=>?_)
  refine OwnR.stepAp el_awd (by rfl) (.tmp 24) (.tmp 26) (by rfl) w3.heap.size (.slice (some ⟨w3.heap.size,0,none⟩) 0 0) [] D.aw r.ap r.ac r.an LEN.out.symm (OwnR.made00 w3.drew 78) (S3.out.dO.aw.slc5.2.2.1.below AZ.out) S3.out.dO.aw.slc5.2.2.2 (by rfl) (by rfl) AZ.out.size (by have h1:=LEN.out;have h2:=LEN5.out;simp;omega) (by decide) ?_
  intro v5 w5 hO5 hap5;rw[List.nil_append]at hO5;have HO5:=mh hO5;have HB5:=mh (AZ.out.trans hap5.below);have hHeld3:=(HB5.out.cell (p:=⟨g,3,none⟩) bl0).trans b3;clear hO5 hap5;refine hK.out _ _ hHeld3 ?_;clear hK K
  (try dsimp only[Act.put])
  try simp only[mnA,mnB,mnC]
  refine wpAnyK_one (i:=6) (o:=⟨some 30,_,_,_,_,_⟩) (by kernel_rfl) (by kernel_rfl) rfl (fun K hK=>?_)
  refine OwnR.stepAp el_awd (by rfl) (.tmp 27) (.tmp 29) (by rfl) w3.heap.size v5 D.aw D.aw r.ap r.ac r.an LEN.out.symm HO5.out (S3.out.dO.aw.slc5.2.2.1.below HB5.out) S3.out.dO.aw.slc5.2.2.2 (by rfl) (by rfl) HB5.out.size (by have h1:=LEN.out;have h2:=LEN5.out;omega) (by decide) ?_
  intro v6 w6 hO6 hap6;have HB6:=mh (HB5.out.trans hap6.below);have hHeld4:=(HB6.out.cell (p:=⟨g,3,none⟩) bl0).trans b3;have k3f:=(HB6.out.frozen (p:=⟨g,3,none⟩) bl0).trans bf3;have kl:=nll bl0 HB6.out.size;obtain⟨p6,c6,rfl, -⟩:=hO6.cut rfl;obtain⟨n6,en6⟩:∃n6,(D.aw++D.aw).length=n6:=⟨_,rfl⟩;rw[en6]at hO6;have S4:=mh (S3.out.newA HB6.out hO6);rw[en6];clear hO6 hap6 en6;refine hK.out _ _ hHeld4 ?_;clear hK K
  (try dsimp only[Act.put])
  try simp only[mnA,mnB,mnC]
  refine tkK 7 31 hHeld4 ?_
  refine wpAnyK_last (o:=⟨none,_,_,_,_,_⟩) (by kernel_rfl) rfl (fun K hK=>?_)
  go_simp
  refine hK.out _ _ ?_
  clear hK K
  (try dsimp only[Act.put])
  try simp only[mnA,mnB,mnC]
  refine wpAnyH_done (by kernel_rfl) ?_ _
  generalize w6.setCell ⟨g,3,none⟩ (.slice p6 n6 c6)=w7 at *;clear b0 b1 b2 b3 b4 bf0 bf1 bf2 bf3 bf4 bl0 k3f kl hHeld hHeld2 hHeld3 hHeld4
  go_upto_region 24 with fail
  obtain⟨t0,t0f,t1,t1f,t2,t2f,t3,t3f,t4,t4f⟩:=S4.out.res.f5;obtain⟨d0,d1,d2,d3,d4⟩:=Blk.c5 S4.out.bl;have dl:=S4.out.bl.lt
  go_wp2_with fail
  exact post5 S4.out.res rfl fun wf PB PK=>⟨by obtain⟨c0,c1,c2,c3,c4⟩:=PB.c5;simp[results,dCells,Tryz.results9,go_sem,c0,c1,c2,c3,c4],⟨{ r with ap:=p6,an:=n6,ac:=c6 },_,_,rfl,(S4.out.dO.but PK (Nat.lt_succ_self _)).mono (Nat.le_succ _),S4.out.tp.belowB (PK.below mle S4.out.tp.but.size)⟩⟩
 have hn:n=0∨n=10∨n=11:=by omega
 clear h1 h2 h3 h9 h6 h7 h8 h5 h4 n0 n1
 rcases hn with rfl|rfl|rfl
 all_goals
  go_upto_region 24 with (first|(go_at_call 28;(with_reducible refine cmo NX.out ?_);rintro e w3 ⟨rfl,ht3,hb3⟩;have S3:=mh (S1.out.next ht3 hb3);clear ht3 hb3;obtain⟨b0,bf0,b1,bf1,b2,bf2,b3,bf3,b4,bf4⟩:=Blk.f5 S3.out.bl;have bl0:=S3.out.bl.lt)|fail)
  clear b0 b1 b2 b3 b4 bf0 bf1 bf2 bf3 bf4 bl0;obtain⟨t0,t0f,t1,t1f,t2,t2f,t3,t3f,t4,t4f⟩:=S3.out.res.f5;obtain⟨d0,d1,d2,d3,d4⟩:=Blk.c5 S3.out.bl;have dl:=S3.out.bl.lt
  go_wp2_with fail
  exact post5 S3.out.res rfl fun wf PB PK=>⟨by obtain⟨c0,c1,c2,c3,c4⟩:=PB.c5;simp[results,dCells,Tryz.results9,go_sem,c0,c1,c2,c3,c4],⟨r,_,_,rfl,(S3.out.dO.but PK (Nat.lt_succ_self _)).mono (Nat.le_succ _),S3.out.tp.belowB (PK.below mle S3.out.tp.but.size)⟩⟩
theorem num_bd (y f v:Int) : -9223372036854775808≤Dn.num y f v∧Dn.num y f v≤9223372036854775807:=by
 unfold Dn.num
 split
 ·rename_i h
  unfold named at h;simp only[Bool.and_eq_true,inR_iff]at h;omega
 ·omega
theorem bd_u8 {n:Int}(h:(Lit.int .u8 n).wf=true):0≤n∧n≤255:=by simpa [Lit.wf,IntKind.min,IntKind.max,IntKind.signed,IntKind.bits] using h
theorem bd_i64 {n:Int}(h:(Lit.int .i64 n).wf=true) : -9223372036854775808≤n∧n≤9223372036854775807:=by simpa [Lit.wf,IntKind.min,IntKind.max,IntKind.signed,IntKind.bits] using h
structure BytesAt (w:World) (b:Nat) (xs:List UInt8):Prop where
 c:∀j (hj:j<xs.length),w.cell? ⟨b,j,none⟩=some (.int .u8 (xs[j].toNat:Int))
 f:∀j,j<xs.length→w.frozen? ⟨b,j,none⟩=false
 lt:b<w.heap.size
theorem BytesAt.block {w w' : World}{b:Nat}{xs:List UInt8}(h:BytesAt w b xs)(e:w'.heap[b]?=w.heap[b]?)(hs:w.heap.size≤w'.heap.size):BytesAt w' b xs :=
 ⟨fun j hj=>(World.cell?_of_block (a:=⟨b,j,none⟩) e).trans (h.c j hj),fun j hj=>(World.frozen?_of_block (a:=⟨b,j,none⟩) e).trans (h.f j hj),nll h.lt hs⟩
theorem BytesAt.below {w w' : World}{b:Nat}{xs:List UInt8}(h:BytesAt w b xs)(hb:Below w.heap.size w w'):BytesAt w' b xs:=h.block (hb.block b h.lt) hb.size
theorem BytesAt.set {w:World}{b i:Nat}{xs:List UInt8}(h:BytesAt w b xs)(hi:i<xs.length)(x:UInt8):BytesAt (w.setCell ⟨b,i,none⟩ (.int .u8 (x.toNat:Int))) b (xs.set i x):=by
 refine⟨fun j hj=>?_,fun j hj=>?_,by simpa [World.setCell] using h.lt⟩
 ·rw[List.length_set]at hj
  by_cases e:i=j
  ·subst e
   rw[World.cell?_setCell_same _ _ _ (h.c i hi),List.getElem_set_self]
  ·rw[World.cell?_setCell_other _ _ _ _ (fun k=>e (congrArg Addr.off k)),List.getElem_set_ne e]
   exact h.c j hj
 ·rw[World.frozen?_setCell];exact h.f j (by rw[List.length_set]at hj;exact hj)
theorem bytes_back (w:World)(b cap:Nat)(xs:List UInt8)(n:Nat)(hn:xs.length=n)(h:BytesAt w b xs):(convert 43 9 (.slice (some ⟨b,0,none⟩) n cap)).run Tryz.prog w = .ok (.string ⟨xs.toArray⟩) w:=by
 subst hn;exact run_convert_bytes_back w _ _ _ ⟨b,0,none⟩ cap xs Tryz.underlying43 Tryz.underlying5 Tryz.underlying9 fun j hj=>by
  rw[Go.WideShapes.add_plain,Nat.zero_add];exact h.c j hj
theorem bytes_of (w:World)(s:ByteArray):∃(cap:Nat) (w' : World),(convert 9 43 (.string s)).run Tryz.prog w = .ok (.slice (some ⟨w.heap.size,0,none⟩) s.size cap) w' ∧ BytesAt w' w.heap.size s.data.toList∧Below w.heap.size w w' :=by
 have hr:=run_bytes_of_string w _ _ _ s Tryz.underlying9 Tryz.underlying43 Tryz.underlying5;obtain⟨C,eC⟩:∃C,bytesRow s (grownCap w s.size 0 5)=C:=⟨_,rfl⟩;rw[eC]at hr;have hz:s.data.toList.length≤C.size:=by
  rw[← eC];simp[bytesRow]
 refine⟨_,_,hr,⟨fun j hj=>?_,fun j hj=>?_,?_⟩,⟨rfl,rfl,rfl,?_,fun k hk=>?_⟩⟩
 ·rw[show w.heap.size=w.drew.heap.size from rfl,World.cell?_alloc_mark,← eC]
  unfold bytesRow;have hj2:j<(s.data.map fun b=>Value.int .u8 b.toNat).size:=by simpa using hj
  rw[Array.getElem?_append_left hj2,Array.getElem?_map,Array.getElem?_eq_getElem (by simpa using hj)]
  rfl
 ·have e:(w.drew.alloc (.cells C 5 (C.size,C.size+1))).heap[w.heap.size]?=some (.cells C 5 (C.size,C.size+1)):=by
   show(w.heap.push _)[w.heap.size]?=_
   simp
  unfold World.frozen?;rw[e]
  simp
  omega
 ·show w.heap.size<(w.heap.push _).size
  simp
 ·show w.heap.size≤(w.heap.push _).size
  simp
 ·show(w.heap.push _)[k]?=_
  rw[Array.getElem?_push,if_neg (by omega)]
namespace Dn
theorem num_spl {y f v:Int}(h:named y f v=true):spl (num y f v)=#[I O y,I O f,I O v,.bool true]:=by
 have e:num y f v=(y*61+f)*100+v:=if_pos h;have h0:=h;unfold named at h;simp only[Bool.and_eq_true,inR_iff]at h;have h1:num y f v / 100 / 61=y:=by rw[e];omega
 have h2:num y f v / 100 % 61=f:=by rw[e];omega
 have h3:num y f v % 100=v:=by rw[e];omega
 have hb:splB (num y f v)=true:=by
  unfold splB;rw[h1,h2,h3,h0,dqt (by rw[e];omega)];rfl
 unfold spl;rw[if_pos hb,h1,h2,h3]
theorem ok_named {D:Dec}(h:chk D=0):named D.year D.farm D.ver=true:=by
 have:=(ok_of h).nm;unfold named;simp only[Bool.and_eq_true,inR_iff];omega
theorem text_pos (D:Dec):8≤(textL D).length:=by
 unfold textL linesL headL lineT cat;simp only[List.flatMap_cons,lap];have:wDecision.length=8:=rfl;omega
end Dn
theorem decisionBack_walk (p:Option Addr)(len cap:Nat)(z:List Int)(x u:Int)(w:World)(hp:IsRow .i64 w p len cap z)(wx:(Lit.int .i64 x).wf=true)(wu:(Lit.int .u8 u).wf=true)(hE:Env w) :
  Calls Tryz.prog 5 #[.slice p len cap,I O x,.int .u8 u] w (BoolG true w):=by
 obtain⟨x0,x1⟩:=bd_i64 wx;obtain⟨u0,u1⟩:=bd_u8 wu;have NW:=mh (new_any p len cap z w hp);have HE:=mh hE;have AW:=mh (fun (W:World) (hW:Below w.heap.size w W)=>awake35_any W (hE.below hW));unfold BoolG at AW;clear hE hp wx wu;obtain⟨l,el⟩:∃l,(z.take len).take 400=l:=⟨_,rfl⟩;rw[el]at NW;clear el
 go_enter Tryz.func5,Tryz.ntmps5
 go_upto_region 2 with (first|(go_at_call 7;(with_reducible refine cmo NW.out ?_);rintro e w1 ⟨rfl,ht1,hb1⟩;have T1:=mh ht1;have HB1:=mh hb1;clear ht1 hb1)|fail)
 have DC:=mh (decision2_any w.heap.size l 0 w1 T1.out);unfold DecG dCells at DC
 go_upto_region 3 with (first|(go_at_call 8;(with_reducible refine cmo DC.out ?_);rintro e w2 ⟨r,D,q,rfl,hO2,hck,hT2⟩;have HO2:=mh hO2;have HCK:=mh hck;have HB2:=mh (show Below w.heap.size w w2 from HB1.out.trans (hT2.but.below mle HB1.out.size));clear hO2 hck hT2)|fail)
 have RX:=mh (Blk.new w2 #[I O r.year,I O r.farm,I O r.ver,.slice r.ap r.an r.ac,.slice r.rp r.rn r.rc] 26);have Ag:=mh (show Below w2.heap.size w2 (w2.alloc (.cells #[I O r.year,I O r.farm,I O r.ver,.slice r.ap r.an r.ac,.slice r.rp r.rn r.rc] 26)) from(brf _ _).alloc mle _);have HB3:=mh (show Below w.heap.size w (w2.alloc (.cells #[I O r.year,I O r.farm,I O r.ver,.slice r.ap r.an r.ac,.slice r.rp r.rn r.rc] 26)) from HB2.out.trans (Ag.out.mono HB2.out.size));have HD3:=mh (HO2.out.dv.below Ag.out);generalize (w2.alloc (.cells #[I O r.year,I O r.farm,I O r.ver,.slice r.ap r.an r.ac,.slice r.rp r.rn r.rc] 26))=w3 at *;obtain⟨g,eg⟩:∃g,w2.heap.size=g:=⟨_,rfl⟩;rw[eg]at RX ⊢;clear eg Ag HO2 DC NW
 have KX:=mh (show ∀W:World,Below w3.heap.size w3 W→(W.cell? ⟨g,0,none⟩=some (I O r.year)∧W.cell? ⟨g,1,none⟩=some (I O r.farm)∧W.cell? ⟨g,2,none⟩=some (I O r.ver)∧W.cell? ⟨g,3,none⟩=some (.slice r.ap r.an r.ac)∧W.cell? ⟨g,4,none⟩=some (.slice r.rp r.rn r.rc)) from fun W h=>by
  have g0:Blk W g #[I O r.year,I O r.farm,I O r.ver,.slice r.ap r.an r.ac,.slice r.rp r.rn r.rc] 26:=RX.out.below h
  exact⟨g0.cell 0,g0.cell 1,g0.cell 2,g0.cell 3,g0.cell 4⟩)
 obtain⟨S,eS⟩:∃S,bs (prT D)=S:=⟨_,rfl⟩;have HS:S.data.toList=textL D:=by rw[← eS,bs_list];unfold prT;rw[if_pos HCK.out]
 have hSz:8≤S.size∧S.size≤14300:=by rw[← size_len,HS];exact⟨text_pos D,(ok_of HCK.out).text⟩
 have hSi:(8:Int)≤(S.size:Int)∧(S.size:Int)≤14300:=by omega
 have PR:=mh (show Calls Tryz.prog 19 #[.agg #[I O r.year,I O r.farm,I O r.ver,.slice r.ap r.an r.ac,.slice r.rp r.rn r.rc]] w3 (PrG D w3) from print35_any r D w3 HD3.out (HE.out.below HB3.out));unfold PrG at PR;rw[eS,HCK.out]at PR;have HSL:=mh HS;clear eS HS;obtain⟨d0,d1,d2,d3,d4⟩:=KX.out w3 (brf _ _)
 go_upto_region 4 with (first|(go_at_call 19;(with_reducible refine cmo PR.out ?_);rintro e w4 ⟨rfl,hb4⟩;have H34:=mh hb4;have HB4:=mh (HB3.out.trans (hb4.mono HB3.out.size));clear hb4)|fail)
 clear d0 d1 d2 d3 d4
 have PA:=mh (show Calls Tryz.prog 21 #[.string S] w4 (ParseG (D,0,0) w4) from by
  have:=parse35_any S w4 (HE.out.below HB4.out) (by omega);rw[HSL.out,parse_text HCK.out]at this
  exact this)
 unfold ParseG dCells at PA
 go_upto_region 5 with (first|(go_at_call 21;(with_reducible refine cmo PA.out ?_);rintro e w5 ⟨r2,rfl,hO5,hb5⟩;have HO5:=mh hO5;have HB5:=mh (HB4.out.trans (hb5.mono HB4.out.size));have H35:=mh (H34.out.trans (hb5.mono H34.out.size));clear hO5 hb5)|fail)
 have RY:=mh (Blk.new w5 #[I O r2.year,I O r2.farm,I O r2.ver,.slice r2.ap r2.an r2.ac,.slice r2.rp r2.rn r2.rc] 26);have Ag2:=mh (show Below w5.heap.size w5 (w5.alloc (.cells #[I O r2.year,I O r2.farm,I O r2.ver,.slice r2.ap r2.an r2.ac,.slice r2.rp r2.rn r2.rc] 26)) from(brf _ _).alloc mle _);have HB6:=mh (show Below w.heap.size w (w5.alloc (.cells #[I O r2.year,I O r2.farm,I O r2.ver,.slice r2.ap r2.an r2.ac,.slice r2.rp r2.rn r2.rc] 26)) from HB5.out.trans (Ag2.out.mono HB5.out.size));have HD6:=mh (HO5.out.dv.below Ag2.out);have H36:=mh (H35.out.trans (Ag2.out.mono H35.out.size));generalize (w5.alloc (.cells #[I O r2.year,I O r2.farm,I O r2.ver,.slice r2.ap r2.an r2.ac,.slice r2.rp r2.rn r2.rc] 26))=w6 at *;obtain⟨g2,eg2⟩:∃g,w5.heap.size=g:=⟨_,rfl⟩;rw[eg2]at RY ⊢;clear eg2 Ag2 HO5 PA PR;have SM:=mh (show Calls Tryz.prog 23 #[.agg #[I O r2.year,I O r2.farm,I O r2.ver,.slice r2.ap r2.an r2.ac,.slice r2.rp r2.rn r2.rc],.agg #[I O r.year,I O r.farm,I O r.ver,.slice r.ap r.an r.ac,.slice r.rp r.rn r.rc]] w6 (BoolG true w6) from same35_any r2 r D w6 HD6.out (HD3.out.below H36.out));unfold BoolG at SM;obtain⟨d0,d1,d2,d3,d4⟩:=KX.out w6 H36.out;have y0:=RY.out.cell 0;have y1:=RY.out.cell 1;have y2:=RY.out.cell 2;have y3:=RY.out.cell 3;have y4:=RY.out.cell 4;simp only[List.getElem?_toArray,List.getElem?_cons_zero,List.getElem?_cons_succ]at y0 y1 y2 y3 y4;have hs0:¬(S.size:Int)=0:=by omega
 have hs00:((S.size:Int)==0)=false:=by simpa using hs0
 go_upto_region 9 with (first|(go_at_call 23;(with_reducible refine cmo SM.out ?_);rintro e w7 ⟨rfl,hb7⟩;have H37:=mh (H36.out.trans (hb7.mono H36.out.size));have HB7:=mh (HB6.out.trans (hb7.mono HB6.out.size));clear hb7)|fail)
 clear d0 d1 d2 d3 d4 y0 y1 y2 y3 y4 SM hs0 hs00;obtain⟨ca,wb,hconv,hBA,hbb⟩:=bytes_of w7 S;have mb:=mod_bd x (n:=(S.size:Int)) (by omega);have MD:=mh (fun W:World=>mod_any x (S.size:Int) W x0 (by omega));obtain⟨ix,eix⟩:∃ix:Nat,mod x (S.size:Int)=(ix:Int):=Int.eq_ofNat_of_zero_le (by omega);rw[eix]at MD mb;have hixS:ix<S.size:=by omega
 have hixL:ix<S.data.toList.length:=by rw[size_len];exact hixS
 obtain⟨iy,eiy,hiy⟩:∃iy:Nat,(IntKind.i64.wrap u).tmod 19=(iy:Int)∧iy<19:=by
  rw[IntWalk.i64_in u ⟨by omega,by omega⟩,Int.tmod_eq_emod_of_nonneg u0];obtain⟨n,hn⟩:∃n:Nat,u % 19=(n:Int):=Int.eq_ofNat_of_zero_le (by omega);exact⟨n,hn,by omega⟩
 have hiy0:(0:Int)≤(iy:Int):=inn _;have hiy1:(iy:Int)<19:=by omega
 obtain⟨CH,eCH⟩:∃x:UInt8,(⟨#[32,10,48,49,50,51,53,55,57,97,100,101,105,110,111,114,115,116,119]⟩:ByteArray)[iy]'(by show iy<19;exact hiy)=x:=⟨_,rfl⟩;have hBc:=hBA.c ix hixL;have hBf:=hBA.f ix hixL;have HBA:=mh hBA;have hbl:=hBA.lt;have H3b:=mh (H37.out.trans (hbb.mono H37.out.size));have HBb:=mh (HB7.out.trans (hbb.mono HB7.out.size));have l37:=H37.out.size;have l7:=HB7.out.size;clear hBA hbb eix
 go_upto_region 10 with fail
 refine wp_region_held_drew (S:=fun _=>True) (by kernel_rfl) trivial (fun hHeld=>?_)
 refine tkH 0 60 trivial ?_
 refine tkH 1 61 trivial ?_
 refine tkH 2 62 trivial ?_
 refine tkH 3 63 trivial ?_
 refine tkH 5 65 trivial ?_
 refine tkH 6 66 trivial ?_
 refine tkH 7 67 trivial ?_
 refine tkH 8 68 trivial ?_
 refine rdA 4 64 (fun K hK=>?_)
 go_simp
 (with_reducible refine cmo (MD.out _) ?_);rintro e wm ⟨rfl,rfl⟩
 go_wp2_with fail
 refine hK.out _ _ trivial (fun _=>?_)
 clear hK K
 (try dsimp only[Act.put])
 try simp only[mnA,mnB,mnC]
 refine tkH 9 69 trivial ?_
 refine wpAnyH_ready (rs := [10]) (by kernel_rfl) (by simp) ?_
 refine AllReadyH.cons (o:=⟨none,_,_,_,_,_⟩) rfl (fun K hK=>?_) AllReadyH.nil
 go_simp
 refine hK.out _ _ trivial (fun _=>?_)
 clear hK K
 (try dsimp only[Act.put])
 try simp only[mnA,mnB,mnC]
 refine wpAnyH_done (by kernel_rfl) ?_ _
 have HBY:=mh (show BytesAt (wb.setCell ⟨w7.heap.size,ix,none⟩ (.int .u8 (CH.toNat:Int))).drew w7.heap.size (S.data.toList.set ix CH) from(HBA.out.set hixL CH).below (brf _ _).drew);have H3y:=mh (show Below w3.heap.size w3 (wb.setCell ⟨w7.heap.size,ix,none⟩ (.int .u8 (CH.toNat:Int))).drew from(H3b.out.setCell (p:=⟨w7.heap.size,ix,none⟩) l37 _).drew);have HBy:=mh (show Below w.heap.size w (wb.setCell ⟨w7.heap.size,ix,none⟩ (.int .u8 (CH.toNat:Int))).drew from(HBb.out.setCell (p:=⟨w7.heap.size,ix,none⟩) (Nat.le_trans HB3.out.size l37) _).drew);generalize (wb.setCell ⟨w7.heap.size,ix,none⟩ (.int .u8 (CH.toNat:Int))).drew=wy at *;obtain⟨gb,egb⟩:∃g,w7.heap.size=g:=⟨_,rfl⟩;rw[egb]at HBY ⊢;clear egb HBA hBc hBf hconv hbl H3b HBb l37 l7 MD mb eCH eiy hiy hiy0 hiy1;obtain⟨X,eX⟩:∃X,S.data.toList.set ix CH=X:=⟨_,rfl⟩;have hxl:X.length=S.size:=by rw[← eX,List.length_set,size_len]
 rw[eX]at HBY;clear eX hixS hixL;have hback:=bytes_back wy gb ca X S.size hxl HBY.out;have HXB:=mh (fun (W:World) (h:Below wy.heap.size wy W)=>bytes_back W gb ca X S.size hxl (HBY.out.below h));obtain⟨⟨D2,n2,e2⟩,eP⟩:∃P,parse X=P:=⟨_,rfl⟩
 have PA2:=mh (show Calls Tryz.prog 21 #[.string ⟨X.toArray⟩] wy (ParseG (D2,n2,e2) wy) from by
  have:=parse35_any ⟨X.toArray⟩ wy (HE.out.below HBy.out) (by show X.toArray.size≤_;rw[List.size_toArray];omega);rw[show(⟨X.toArray⟩:ByteArray).data.toList=X from rfl,eP]at this
  exact this)
 unfold ParseG dCells at PA2;have HEP:=mh eP;have NM:=mh (show named r.year r.farm r.ver=true from by rw[HD3.out.year,HD3.out.farm,HD3.out.ver];exact ok_named HCK.out);have NB:=mh (fun W:World=>num35_any r.year r.farm r.ver W)
 have SP:=mh (fun W:World=>show Calls Tryz.prog 16 #[I O (Dn.num r.year r.farm r.ver)] W (fun e w' => e = .returned (.tuple #[I O r.year,I O r.farm,I O r.ver,.bool true])∧W=w') from by
  have h:=num_bd r.year r.farm r.ver;have:=split35_any (Dn.num r.year r.farm r.ver) W h.2 h.1;unfold SplG at this;rw[num_spl NM.out]at this
  exact this)
 obtain⟨nn,enn⟩:∃n,Dn.num r.year r.farm r.ver=n:=⟨_,rfl⟩;rw[enn]at NB SP;clear eP enn NM
 go_upto_region 12 with (first|(go_at_call 21;(with_reducible refine cmo PA2.out ?_);rintro e w8 ⟨r3,rfl,hO8,hb8⟩;have HO8:=mh hO8;have HB8:=mh (HBy.out.trans (hb8.mono HBy.out.size));have HY8:=mh hb8;clear hO8 hb8)|fail)
 have RZ:=mh (Blk.new w8 #[I O r3.year,I O r3.farm,I O r3.ver,.slice r3.ap r3.an r3.ac,.slice r3.rp r3.rn r3.rc] 26);have Ag3:=mh (show Below w8.heap.size w8 (w8.alloc (.cells #[I O r3.year,I O r3.farm,I O r3.ver,.slice r3.ap r3.an r3.ac,.slice r3.rp r3.rn r3.rc] 26)) from(brf _ _).alloc mle _);have HB9:=mh (show Below w.heap.size w (w8.alloc (.cells #[I O r3.year,I O r3.farm,I O r3.ver,.slice r3.ap r3.an r3.ac,.slice r3.rp r3.rn r3.rc] 26)) from HB8.out.trans (Ag3.out.mono HB8.out.size));have HD9:=mh (HO8.out.dv.below Ag3.out);have HY9:=mh (HY8.out.trans (Ag3.out.mono HY8.out.size));generalize (w8.alloc (.cells #[I O r3.year,I O r3.farm,I O r3.ver,.slice r3.ap r3.an r3.ac,.slice r3.rp r3.rn r3.rc] 26))=w9 at *;obtain⟨g3,eg3⟩:∃g,w8.heap.size=g:=⟨_,rfl⟩;rw[eg3]at RZ ⊢;clear eg3 Ag3 HO8 PA2 hback
 by_cases he:e2=0
 rotate_left
 ·have heb:(e2==0)=false:=beq_eq_false_iff_ne.2 he
  clear he;have H3W:=mh (H3y.out.trans (HY9.out.mono H3y.out.size));obtain⟨d0,d1,d2, -, -⟩:=KX.out w9 H3W.out;have AE:=mh (AW.out w9 HB9.out)
  go_wp2_with (first|(go_at_call 18;(with_reducible refine cmo (NB.out _) ?_);rintro e wm ⟨rfl,rfl⟩)|(go_at_call 16;(with_reducible refine cmo (SP.out _) ?_);rintro e wm ⟨rfl,rfl⟩)|(go_at_call 6;(with_reducible refine cmo AE.out ?_);rintro e wz ⟨rfl,hbz⟩)|fail)
  go_ret
  exact⟨rfl,HB9.out.trans (hbz.mono HB9.out.size)⟩
 subst he;obtain⟨hc2,ht2⟩:=parse_back HEP.out
 have PR2:=mh (show Calls Tryz.prog 19 #[.agg #[I O r3.year,I O r3.farm,I O r3.ver,.slice r3.ap r3.an r3.ac,.slice r3.rp r3.rn r3.rc]] w9 (fun e w' => e = .returned (.tuple #[.string ⟨X.toArray⟩,I O 0])∧Below w9.heap.size w9 w') from by
  have:=print35_any r3 D2 w9 HD9.out (HE.out.below HB9.out);unfold PrG at this;rw[hc2,show bs (prT D2)=⟨X.toArray⟩ from by unfold prT;rw[if_pos hc2,ht2];rfl]at this
  exact this)
 obtain⟨y0,y1,y2,y3,y4⟩:=RZ.out.c5;clear hc2 ht2
 go_upto_region 14 with (first|(go_at_call 19;(with_reducible refine cmo PR2.out ?_);rintro e w10 ⟨rfl,hb10⟩;have HY10:=mh (HY9.out.trans (hb10.mono HY9.out.size));have HB10:=mh (HB9.out.trans (hb10.mono HB9.out.size));clear hb10)|fail)
 clear y0 y1 y2 y3 y4;have hback:=HXB.out w10 HY10.out;have hxx:((⟨X.toArray⟩:ByteArray).toList==(⟨X.toArray⟩:ByteArray).toList)=true:=by simp
 have H3W:=mh (H3y.out.trans (HY10.out.mono H3y.out.size));obtain⟨d0,d1,d2, -, -⟩:=KX.out w10 H3W.out;have AE:=mh (AW.out w10 HB10.out)
 go_wp2_with (first|(go_at_call 18;(with_reducible refine cmo (NB.out _) ?_);rintro e wm ⟨rfl,rfl⟩)|(go_at_call 16;(with_reducible refine cmo (SP.out _) ?_);rintro e wm ⟨rfl,rfl⟩)|(go_at_call 6;(with_reducible refine cmo AE.out ?_);rintro e wz ⟨rfl,hbz⟩)|fail)
 go_ret
 exact⟨rfl,HB10.out.trans (hbz.mono HB10.out.size)⟩
end Go.Proofs.YtljibgchickcpaaGreatDoor
