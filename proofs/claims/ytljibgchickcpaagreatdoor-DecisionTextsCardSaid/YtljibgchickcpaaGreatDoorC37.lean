/- Packed. -/
import Derived.Test.YtljibgchickcpaaGreatDoorC36
namespace Go.Proofs.YtljibgchickcpaaGreatDoor
open Go.RowKit Sc As Dn
theorem Sc.amt_sq {l:List Brk}{sq:Int}(h0:0≤sq):∀{k:Nat},k≤l.length→brAll l k=true→amt l sq k≤1048576*min sq (upB l k)
 | 0,_,_=>by
   have:upB l 0=0:=by unfold upB;simp
   rw[this]
   show(0:Int)≤_
   omega
 | k+1,hk,h=>by
   have hk' : k<l.length:=by omega
   have h1:=amt_sq h0 (k:=k) (by omega) (brAll_mono (Nat.le_succ k) h);obtain⟨b1,b2,b3,b4,b5⟩:=br_right hk' h;rw[amt_succ hk', upB_succ hk'];have h2:=part_le (a:=max 0 (min sq l[k].up - upB l k)) (b:=max 0 (min sq l[k].up - upB l k)) (by omega) (by omega) b3 b4;omega
theorem amtV_small {s:Sch}(h:one17 s=0){p:Int}(h0:0≤p)(h1:p≤360):amtV s p≤3774874:=by
 unfold amtV
 split
 ·omega
 ·have hb:=brB_all (one_parts h).2.2.2.2.2.1
  have:=amt_sq h0 mle hb;omega
theorem timely_small {l:YLaw}{f:FarmF}(hl:YOk l)(hf:FarmOk l f)(h3:f.lines.length≤3)(hd:∀x∈f.lines,x.decl<120){a:Awd}(ha:a∈awards0 l f):0≤a.timely∧a.timely≤3774874:=by
 obtain⟨hk, -⟩:=awards_ok hl hf ha;refine⟨hk.t0,?_⟩;obtain⟨k,s,_,hs,_,rfl⟩:=mem_awardsN.1 ha;have hsum:declSum f.lines≤360:=by
  have:=Sh.sum_le_len (l:=f.lines.map (·.decl)) (c:=120) fun x hx=>by
   obtain⟨y,hy,rfl⟩:=List.mem_map.1 hx;have:=hd y hy;omega
  rw[List.length_map]at this;unfold declSum;omega
 have bD:=sumD_bd (s:=s) (K:=f.lines) fun x hx=>(hf.line x hx).d0
 have bN:=sumN_bd hl hf.line hs;have bp:=paidOf_bd hl s bN.1 bN.2 (by omega);have hr:(award l f k s).rated=ratedOf s (paidOf l s (sumD s f.lines) (sumN l k s f.lines)):=rfl;have ht:=hk.tr;rw[hr]at ht;have:=amtV_small (hl.one hs) bp.1 (by omega);unfold ratedOf at ht;omega
theorem farmErr_small {l:YLaw}{f:FarmF}(hl:YOk l)(hf:FarmOk l f)(h3:f.lines.length≤3)(hd:∀x∈f.lines,x.decl<120):farmErr l f=0:=by
 have hF:FOk l [f]:=⟨hl,by simp,fun g hg=>by rw[List.mem_singleton.1 hg];exact hf,fun i h=>by simp at h⟩;unfold farmErr;rw[if_neg (by rw[hF.chk];decide)];unfold Ce.farmErr;have hn:=tim_len l f;have:=hl.len;rw[if_neg (by rw[Ce.chk_zero.2 hl.deg];decide),if_neg (by rw[En.money_iff.2 hl.cap];decide),if_neg (by omega)];unfold Ce.sumErr;have hm:∀x∈timelies (awards0 l f),0≤x∧x≤3774874:=fun x hx=>by
  obtain⟨a,ha,rfl⟩:=List.mem_map.1 hx;exact timely_small hl hf h3 hd ha
 have hs:=Sh.sum_le_len (l:=timelies (awards0 l f)) (c:=3774874) fun x hx=>(hm x hx).2
 have hs0:=Sh.sum_nonneg (l:=timelies (awards0 l f)) fun x hx=>(hm x hx).1
 have hs2:Sh.sum (timelies (awards0 l f))≤3774874*16:=by
  have:(timelies (awards0 l f)).length≤16:=by omega
  omega
 rw[if_neg];rintro (e|e)
 ·rw[List.any_eq_true]at e
  obtain⟨x,hx,e⟩:=e;have:=hm x hx;rw[En.money_iff.2 ⟨this.1,by omega⟩]at e
  cases e
 ·rw[En.money_iff.2 ⟨hs0,by omega⟩]at e
  cases e
structure Nice5 (Y:YLaw) (F:List FarmF):Prop where
 law:YOk Y
 fok:FOk Y F
 sch:Y.sch.length≤3
 len:F.length≤3
 fm:∀f∈F,FmOk Y f
theorem Nice5.err {Y:YLaw}{F:List FarmF}(h:Nice5 Y F):allErr Y F=0∧assErr Y F=0∧(allAw Y F).length≤9:=by
 have h1:∀G:List FarmF,(∀g∈G,g∈F)→allErr Y G=0:=by
  intro G
  induction G with
  | nil=>intro _;rfl
  | cons g G ih =>
    intro hG;unfold allErr;have hg:=hG g List.mem_cons_self;rw[if_neg (by rw[farmErr_small h.law (h.fok.farm g hg) (h.fm g hg).len (h.fm g hg).decl];decide)];exact ih fun x hx=>hG x (List.mem_cons_of_mem _ hx)
 have h2:=h1 F fun _ hg=>hg
 have h3:=allAw_le Y F;have h4:F.length*Y.sch.length≤3*3:=Nat.mul_le_mul h.len h.sch;refine⟨h2,?_,by omega⟩
 rcases assErr_cases h.fok with⟨_,e⟩|⟨_,e,_⟩|⟨_,_,e⟩
 ·omega
 ·omega
 ·exact e
/-! ### reasons in order -/
def As.rsLt (a b:Rsn):Prop:=a.line<b.line∨a.line=b.line∧a.scheme<b.scheme
theorem As.rsnAt_asc {l:YLaw}(hl:YOk l)(x:LineF)(i n:Nat):(rsnAt l x i n).Pairwise fun a b=>a.scheme<b.scheme:=by
 induction n with
 | zero=>simp[rsnAt]
 | succ n ih =>
   unfold rsnAt;rw[List.pairwise_append];unfold rsStep;refine⟨ih,?_,fun a ha b hb=>?_⟩
   ·split
    ·split<;>simp
    ·simp
   ·cases e:l.sch[n]? with
    | none=>rw[e]at hb;simp at hb
    | some s =>
      rw[e]at hb;simp only at hb
      split at hb
      ·obtain⟨k,s', h1,h2, -, -,rfl⟩:=mem_rsnAt.1 ha
       rw[List.mem_singleton.1 hb];obtain⟨hn,rfl⟩:=List.getElem?_eq_some_iff.1 e;obtain⟨hk,rfl⟩:=List.getElem?_eq_some_iff.1 h2;exact(lawOk hl.sch).asc k n hk hn h1
      ·simp at hb
theorem As.reasonsN_asc {l:YLaw}(hl:YOk l)(f:FarmF)(n:Nat):(reasonsN l f n).Pairwise rsLt:=by
 induction n with
 | zero=>simp[reasonsN]
 | succ n ih =>
   unfold reasonsN;rw[List.pairwise_append];refine⟨ih,?_,fun a ha b hb=>?_⟩
   ·unfold rsLine
    split
    ·refine List.Pairwise.imp_of_mem (fun {a b} ha hb h=>?_) (rsnAt_asc hl _ n l.sch.length)
     obtain⟨_,_,_,_,_,_,rfl⟩:=mem_rsnAt.1 ha;obtain⟨_,_,_,_,_,_,rfl⟩:=mem_rsnAt.1 hb;exact .inr ⟨rfl,h⟩
    ·simp
   ·obtain⟨i,x,hi,_,hr⟩:=mem_reasonsN.1 ha
    obtain⟨_,_,_,_,_,_,rfl⟩:=mem_rsnAt.1 hr;have:=rsLine_line hb
    left
    rw[this]
    show(i:Int)<n
    omega
theorem As.farmAw_mem {l:YLaw}{f:FarmF}{a:Awd}(ha:a∈farmAw l f):∃(k:Nat) (s:Sch),l.sch[k]?=some s∧a.scheme=s.num:=by
 by_cases he:farmErr l f=0
 ·obtain⟨i,hi,rfl⟩:=List.mem_iff_getElem.1 ha
  have hi' : i<(awards0 l f).length:=by rw[← farmAw_len he];exact hi
  rw[farmAw_at he i hi hi'];obtain⟨k,s,_,hs,_,e⟩:=mem_awardsN.1 (List.getElem_mem hi');refine⟨k,s,hs,?_⟩
  show(awards0 l f)[i].scheme=_
  have e2:(awards0 l f)[i]=award l f k s:=e;rw[e2];rfl
 ·have e:farmAw l f = []:=by unfold farmAw;rw[if_pos he]
  rw[e]at ha;cases ha
theorem As.has_award {l:YLaw}{f:FarmF}(he:farmErr l f=0){k:Nat}{s:Sch}(hs:l.sch[k]?=some s)(hn:someN s f.lines=true):∃a∈farmAw l f,a.scheme=s.num:=by
 obtain⟨hk, -⟩:=List.getElem?_eq_some_iff.1 hs;have hm:award l f k s∈awards0 l f:=mem_awardsN.2 ⟨k,s,hk,hs,hn,rfl⟩;obtain⟨i,hi', e⟩:=List.mem_iff_getElem.1 hm;have hi:i<(farmAw l f).length:=by rw[farmAw_len he];exact hi'
 refine⟨(farmAw l f)[i],List.getElem_mem hi,?_⟩
 rw[farmAw_at he i hi hi']
 show(awards0 l f)[i].scheme=_
 rw[e];rfl
theorem Nice5.awd {Y:YLaw}{F:List FarmF}(h:Nice5 Y F){a:Awd}(ha:a∈assess Y F):∃f∈F,awB a f.farm=true∧a.farm=f.farm:=by
 have h0:=h.err.2.1;obtain⟨h1, -,h2⟩:=assess_at h0;have hb:=(falls h.fok h0).each a ha;obtain⟨i,hi,rfl⟩:=List.mem_iff_getElem.1 ha;have hi' : i<(allAw Y F).length:=by rw[← h1];exact hi
 have e:=h2 i hi hi'; obtain⟨f,hf,hm⟩:=mem_allAw.1 (List.getElem_mem hi');have k:=farmAw_fine h.law (h.fok.farm f hf) hm;obtain⟨j,s,hs,hsn⟩:=farmAw_mem hm;have hnum:=YOk.num h.law s (List.mem_of_getElem? hs);refine⟨f,hf,?_,by rw[e];exact k.farm⟩;rw[awB_iff];rw[e]at hb ⊢;simp only at hb ⊢;have:=k.ok.n0;have:=k.ok.d1;have:=k.ok.r0;have:=k.ok.r1;have:=k.ok.t0;have:=k.ok.nd;refine⟨k.farm,by omega,by omega,by omega,by omega,by omega,by omega,by omega,by omega,by omega,by omega,by omega,by omega,by omega,by omega,by omega,by omega⟩
theorem Nice5.has {Y:YLaw}{F:List FarmF}(h:Nice5 Y F){f:FarmF}(hf:f∈F){b:Awd}(hb:b∈farmAw Y f):∃a∈ofFarm (assess Y F) f.farm,a.scheme=b.scheme:=by
 have h0:=h.err.2.1;obtain⟨h1, -,h2⟩:=assess_at h0;have hm:b∈allAw Y F:=mem_allAw.2 ⟨f,hf,hb⟩;obtain⟨i,hi', e⟩:=List.mem_iff_getElem.1 hm;have hi:i<(assess Y F).length:=by rw[h1];exact hi'
 have e2:=h2 i hi hi'; have hfarm:=(farmAw_fine h.law (h.fok.farm f hf) hb).farm;refine⟨(assess Y F)[i],?_,by rw[e2];show(allAw Y F)[i].scheme=_;rw[e]⟩;unfold ofFarm;rw[List.mem_filter];refine⟨List.getElem_mem hi,dqt ?_⟩;rw[e2]
 show(allAw Y F)[i].farm=_
 rw[e];exact hfarm
theorem Nice5.chk {Y:YLaw}{F:List FarmF}(h:Nice5 Y F){f:FarmF}(hf:f∈F){y v:Int}(hy:0≤y∧y≤100)(hv:1≤v∧v≤99):chk (mkD Y F y f.farm v f)=0:=by
 have h0:=h.err.2.1;have ho:=h.fok.farm f hf;have he:=farmErr_small h.law ho (h.fm f hf).len (h.fm f hf).decl;have hrs:farmRs Y f=reasons0 Y f:=by unfold farmRs;rw[if_neg (by rw[he];decide)]
 have hA:(mkD Y F y f.farm v f).aw=ofFarm (assess Y F) f.farm:=rfl;have hR:(mkD Y F y f.farm v f).rs=reasons0 Y f:=hrs;have hfl:=falls h.fok h0;have hasc:((mkD Y F y f.farm v f).aw).Pairwise fun a b=>a.scheme<b.scheme:=by
  rw[hA];refine List.Pairwise.imp_of_mem (fun {a b} ha hb hab=>?_) (List.Pairwise.filter _ hfl.asc);have e1:=of_decide_eq_true (List.mem_filter.1 ha).2;have e2:=of_decide_eq_true (List.mem_filter.1 hb).2
  rcases hab with hlt|⟨_,hlt⟩
  ·omega
  ·exact hlt
 have hrl:(reasons0 Y f).length≤9:=by
  have h1:=reasonsN_lenK Y f f.lines.length;have h2:f.lines.length*Y.sch.length≤3*3:=Nat.mul_le_mul (h.fm f hf).len h.sch
  show(reasonsN Y f f.lines.length).length≤9
  omega
 refine Dn.chk_ok ?_ ?_ ?_ ?_ ?_
 ·show Dn.named y f.farm v=true
  unfold Dn.named;rw[inR_iff.2 hy,inR_iff.2 ⟨ho.f0,ho.f1⟩,inR_iff.2 hv];rfl
 ·rw[hA]
  have:=List.length_filter_le (fun a=>decide (a.farm=f.farm)) (assess Y F);have:=(assess_at h0).1;have:=h.err.2.2;unfold ofFarm;omega
 ·rw[hR];omega
 ·unfold awsB
  rw[List.all_eq_true];intro k hk;have hk:=List.mem_range.1 hk;rw[awAt_some hk,Bool.and_eq_true]
  constructor
  ·have hm:(mkD Y F y f.farm v f).aw[k]∈ofFarm (assess Y F) f.farm:=List.getElem_mem hk
   obtain⟨hm1,hm2⟩:=List.mem_filter.1 hm;obtain⟨g,_,hg,e⟩:=h.awd hm1;have e2:=of_decide_eq_true hm2;have e3:g.farm=f.farm:=by rw[← e,e2]
   rw[e3]at hg;exact hg
  ·cases k with
   | zero=>rfl
   | succ j=>rw[prevA_succ (by omega)];exact dqt (List.pairwise_iff_getElem.1 hasc j (j+1) (by omega) hk (by omega))
 ·unfold rssB
  rw[List.all_eq_true];intro k hk;have hk:=List.mem_range.1 hk;have hpw:((mkD Y F y f.farm v f).rs).Pairwise rsLt:=by rw[hR];exact reasonsN_asc h.law f _
  have hm:(mkD Y F y f.farm v f).rs[k]∈reasons0 Y f:=by rw[← hR];exact List.getElem_mem hk
  rw[rsAt_some hk,Bool.and_eq_true,Bool.and_eq_true,Bool.and_eq_true];obtain⟨i,x,hi,hx,hr⟩:=mem_reasonsN.1 hm;obtain⟨j,s,hj,hs,hn,hd,e⟩:=mem_rsnAt.1 hr;have hl3:=(h.fm f hf).len;obtain⟨hi2,ex⟩:=List.getElem?_eq_some_iff.1 hx;have hxm:x∈f.lines:=by rw[← ex];exact List.getElem_mem hi2
  have hdet:=(chk28_zero ((ho.line x hxm).fact j s hs hn)).1.det h.law.width.1 h.law.width.2;refine⟨⟨⟨?_,?_⟩,?_⟩,?_⟩
  ·rw[e];exact inR_iff.2 ⟨by show(0:Int)≤(i:Int);omega,by show(i:Int)≤19;omega⟩
  ·rw[e];exact inR_iff.2 ⟨by show(1:Int)≤(det (factOf x j) Y.width).2;omega,by show(det (factOf x j) Y.width).2≤6;omega⟩
  ·cases k with
   | zero=>rfl
   | succ m =>
     rw[prevR_succ (by omega)];have:=List.pairwise_iff_getElem.1 hpw m (m+1) (by omega) hk (by omega);unfold behindB
     rcases this with q|⟨q1,q2⟩
     ·rw[dqt q];rfl
     ·rw[dqt q1.symm,dqt q2];simp
  ·rw[List.any_eq_true]
   have hsome:someN s f.lines=true:=List.any_eq_true.2 ⟨x,hxm,hn⟩;obtain⟨b,hb,eb⟩:=has_award he hs hsome;obtain⟨a,ha,ea⟩:=h.has hf hb;exact⟨a,ha,dqt (by rw[e,ea,eb])⟩
theorem Nice5.made {Y:YLaw}{F:List FarmF}(h:Nice5 Y F){f:FarmF}(hf:f∈F){y v:Int}(hy:0≤y∧y≤100)(hv:1≤v∧v≤99):∃D,Dn.mk Y F y f.farm v=(0,D)∧Dn.chk D=0:=by
 cases hx:F.find? fun g=>decide (g.farm=f.farm) with
 | none =>
   have:=List.find?_eq_none.1 hx f hf
   simp at this
 | some g =>
   have hg:=List.mem_of_find?_eq_some hx;have e:g.farm=f.farm:=by simpa using List.find?_some hx
   have hc:=h.chk hg hy hv;have he:=farmErr_small h.law (h.fok.farm g hg) (h.fm g hg).len (h.fm g hg).decl;rw[e]at hc;exact⟨_,mk_ok h.err.2.1 hx he hc,hc⟩
end Go.Proofs.YtljibgchickcpaaGreatDoor
