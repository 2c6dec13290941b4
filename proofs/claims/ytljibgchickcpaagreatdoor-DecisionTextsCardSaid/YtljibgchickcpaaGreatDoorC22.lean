/- Packed. -/
import Derived.Test.YtljibgchickcpaaGreatDoorC17
import Derived.Test.YtljibgchickcpaaGreatDoorC18
set_option maxRecDepth 100000
set_option maxHeartbeats 8000000
open Go.Value renaming int → I
open Go.IntKind renaming i64 → O
namespace Go.Proofs.YtljibgchickcpaaGreatDoor
open Go.RowKit
theorem tkA1 {α:Type _}{a:List α}{i:Nat}{b:α}:a.toArray.setIfInBounds i b=(a.set i b).toArray:=List.setIfInBounds_toArray ..
section
variable {P:Program} {md:Region.Mode} {ops:Array Oper} {Q:Exit→Act→World→Prop} {S:World→Prop} {k0 fuel:Nat} {listed:Array Bool} {a:Act} {w:World} {v:Value} {op:Op} {ty:TypeId} {ps:String} {af:Array Edge} {gd:Option (Nat × Bool)}
theorem tkH (i s:Nat){b:Act}{l:Array Bool}(hS:S w)(h:wpAnyH P md ops Q S fuel l b w)
  (hi:ops[i]?=some ⟨some s,op,ty,ps,af,gd⟩:=by rfl) (hs:Region.noSelect ops=true:=by kernel_rfl) (hf:Region.free md ops listed i=true:=by kernel_rfl) (hr:(Region.ready md ops listed).contains i=true:=by kernel_rfl)
  (hQ:∀c a w,Q (.panic c) (a.put (some s) v) w→Q (.panic c) a w:=by exact fun _ _ _ h=>h)
  (hw:Region.wanted ⟨some s,op,ty,ps,af,gd⟩ (yielded ops a.tmps)=true:=by kernel_rfl)
  (hy:∀w,S w→(execOp a.eval ⟨some s,op,ty,ps,af,gd⟩).run P w = .ok (.value v) w:=by intro W0 hSw;(try dsimp only at hSw);go_simp;try with_reducible rfl)
  (hb:a.put (some s) v=b:=by (try simp only[Act.put,tkA1,tkA2,tkA3]);try exact rfl)
  (hl:listed.setIfInBounds i true=l:=by (try simp only[tkA1,tkA2,tkA3]);try exact rfl):wpAnyH P md ops Q S (fuel+1) listed a w:=by
 subst hb;subst hl;exact wpAnyH_take hi hs hf hr hQ (Or.inl ⟨hw,hy⟩) hS h
theorem tkK (i s:Nat){b:Act}{l:Array Bool}(hS:S w)(h:wpAnyK P md ops Q S k0 fuel l b w)(m:Nat:=i)
  (hi:ops[i]?=some ⟨some s,op,ty,ps,af,gd⟩:=by rfl) (hs:Region.noSelect ops=true:=by kernel_rfl) (hf:Region.free md ops listed i=true:=by kernel_rfl) (hr:(Region.ready md ops listed).contains i=true:=by kernel_rfl)
  (hk:(i != k0&&waitsOn md ops k0 m&&(m==i||(!listed.getD m true&&waitsOn md ops m i)))=true:=by kernel_rfl)
  (hQ:∀c a w,Q (.panic c) (a.put (some s) v) w→Q (.panic c) a w:=by exact fun _ _ _ h=>h)
  (hw:Region.wanted ⟨some s,op,ty,ps,af,gd⟩ (yielded ops a.tmps)=true:=by kernel_rfl)
  (hy:∀w,S w→(execOp a.eval ⟨some s,op,ty,ps,af,gd⟩).run P w = .ok (.value v) w:=by intro W0 hSw;(try dsimp only at hSw);go_simp;try with_reducible rfl)
  (hb:a.put (some s) v=b:=by (try simp only[Act.put,tkA1,tkA2,tkA3]);try exact rfl)
  (hl:listed.setIfInBounds i true=l:=by (try simp only[tkA1,tkA2,tkA3]);try exact rfl):wpAnyK P md ops Q S k0 (fuel+1) listed a w:=by
 subst hb;subst hl;exact wpAnyK_take m hi hs hf hr hk hQ (Or.inl ⟨hw,hy⟩) hS h
end
section
variable {W:World} {g:Nat} {z0 z1 z2 z3 z4:Value} {T:TypeId}
theorem Blk.c5 (h:Blk W g #[z0,z1,z2,z3,z4] T):W.cell? ⟨g,0,none⟩=some z0∧W.cell? ⟨g,1,none⟩=some z1∧W.cell? ⟨g,2,none⟩=some z2∧W.cell? ⟨g,3,none⟩=some z3∧W.cell? ⟨g,4,none⟩=some z4 :=
 ⟨h.cell 0,h.cell 1,h.cell 2,h.cell 3,h.cell 4⟩
theorem Blk.f5 (h:Blk W g #[z0,z1,z2,z3,z4] T):W.cell? ⟨g,0,none⟩=some z0∧W.frozen? ⟨g,0,none⟩=false∧W.cell? ⟨g,1,none⟩=some z1∧W.frozen? ⟨g,1,none⟩=false∧W.cell? ⟨g,2,none⟩=some z2∧W.frozen? ⟨g,2,none⟩=false∧W.cell? ⟨g,3,none⟩=some z3∧W.frozen? ⟨g,3,none⟩=false∧W.cell? ⟨g,4,none⟩=some z4∧W.frozen? ⟨g,4,none⟩=false :=
 ⟨h.cell 0,h.fr 0,h.cell 1,h.fr 1,h.cell 2,h.fr 2,h.cell 3,h.fr 3,h.cell 4,h.fr 4⟩
theorem But.set1 (W:World)(i:Nat)(u:Value):But g W (W.setCell ⟨g,i,none⟩ u):=⟨rfl,rfl,rfl,by simp[World.setCell],fun b _ hb=>setCell_far _ hb _ _⟩
theorem But.set5 (u0 u1 u2 u3 u4:Value):But g W (((((W.setCell ⟨g,0,none⟩ u0).setCell ⟨g,1,none⟩ u1).setCell ⟨g,2,none⟩ u2).setCell ⟨g,3,none⟩ u3).setCell ⟨g,4,none⟩ u4) :=
 ((((But.set1 _ _ _).trans (But.set1 _ _ _)).trans (But.set1 _ _ _)).trans (But.set1 _ _ _)).trans (But.set1 _ _ _)
theorem post5 {P:Program}{fn:Func}{R:Ending→World→Prop}{a:Act}{u0 u1 u2 u3 u4 v:Value}(h:Blk W g #[z0,z1,z2,z3,z4] T)(hd:a.defers = [])
  (k:∀wf,Blk wf g #[u0,u1,u2,u3,u4] T→But g W wf→(results fn a.tmps).run P wf = .ok v wf∧R (.returned v) wf) :
  bodyPost P fn R .ret a (((((W.setCell ⟨g,0,none⟩ u0).setCell ⟨g,1,none⟩ u1).setCell ⟨g,2,none⟩ u2).setCell ⟨g,3,none⟩ u3).setCell ⟨g,4,none⟩ u4):=by
 obtain⟨h1,h2⟩:=k _ (((((h.set 0 u0).set 1 u1).set 2 u2).set 3 u3).set 4 u4) (But.set5 u0 u1 u2 u3 u4);exact bodyPost_ret h1 hd h2
theorem post5d {P:Program}{fn:Func}{R:Ending→World→Prop}{a:Act}{u0 u1 u2 u3 u4 v:Value}(h:Blk W g #[z0,z1,z2,z3,z4] T)(hd:a.defers = [])
  (k:∀wf,Blk wf g #[u0,u1,u2,u3,u4] T→But g W wf→(results fn a.tmps).run P wf = .ok v wf∧R (.returned v) wf) :
  bodyPost P fn R .ret a (((((W.setCell ⟨g,0,none⟩ u0).setCell ⟨g,1,none⟩ u1).setCell ⟨g,2,none⟩ u2).setCell ⟨g,3,none⟩ u3).setCell ⟨g,4,none⟩ u4).drew:=by
 obtain⟨h1,h2⟩:=k _ (Blk.below (((((h.set 0 u0).set 1 u1).set 2 u2).set 3 u3).set 4 u4) (brf _ _).drew) ((But.set5 u0 u1 u2 u3 u4).trans (But.of_below (brf _ _).drew));exact bodyPost_ret h1 hd h2
end
end Go.Proofs.YtljibgchickcpaaGreatDoor
namespace Go.Proofs.YtljibgchickcpaaGreatDoor
open Go.RowKit
def UGive (e u:Int) (l:List Int) (w:World) (en:Ending) (w' : World):Prop :=
 (En.Good e u l∧∃q c,en = .returned (.tuple #[.slice q l.length c,I O (En.usum u l),I O 0])∧Ints w' q (En.units u l)∧Below w.heap.size w w') ∨
 (¬En.Good e u l∧en = .returned (.tuple #[.slice none 0 0,I O 0,I O 67])∧Below w.heap.size w w')
theorem refunits_main (e u:Int)(p:Option Addr)(l:List Int)(cap:Nat)(w:World)(h:Ints w p l)(hg:En.Good e u [])(hl:l.length≤64) :
  Calls Tryz.prog 104 #[I O e,I O u,.slice p l.length cap] w (UGive e u l w):=by
 have H:=mh h;have G:=mh hg;have e0:=hg.e0;have e1:=hg.e1;have u0:=hg.u0;have u1:=hg.u1;have hu0:¬u=0:=by omega
 clear h hg
 go_enter Tryz.func104,Tryz.ntmps104
 go_wp2
 obtain⟨i0,hi,hz0,hz1,hz2⟩:=info_parts info_int;have HI:=mh (And.intro hi (And.intro hz0 (And.intro hz1 hz2)));clear hi hz0 hz1 hz2
 go_loopw [12,11,10,9] (fun i s t v wr=>∃k:Nat,k≤l.length∧i=I O k∧s=I O (Sh.sum (l.take k))∧t=I O (En.usum u (l.take k))∧En.Good e u (l.take k)∧Own wr 3 w.heap.size v (En.units u (l.take k))∧Below w.heap.size w wr) (fun i _ _ _ _=>l.length - (intOf i).toNat)
 case atStart=>exact⟨0,Nat.zero_le _,rfl,by simp[Sh.sum],rfl,G.out,Own.nil _ _ _,brf _ _⟩
 case round =>
  obtain⟨k,hk,rfl,rfl,rfl,hGk,hown,hbw⟩:=hrel;have GK:=mh hGk;have HO:=mh hown;have HB:=mh hbw;have hs0:=GK.out.sum k;have hus:=GK.out.usum k;rw[List.take_take,Nat.min_self]at hs0 hus;have hsz:=hbw.size
  by_cases hlt:k<l.length
  ·obtain⟨b,off,x,rfl,hbl,hcell0,hx⟩:=H.out.get hlt
   have hcell:wr.cell? ⟨b,off+k,none⟩=some (I O x):=(hbw.cell (p:=⟨b,off+k,none⟩) hbl).trans hcell0;have hst:=mh (En.take_snoc hlt);clear hGk hown hbw hcell0
   by_cases hxb:0≤x∧x≤68719476736
   case neg =>
    have hxb' : x<0∨68719476736<x:=by omega
    have hbad:¬En.Good e u l:=fun hG=>by
     have:=hG.all x (by rw[← hx.out,List.getD_eq_getElem?_getD,List.getElem?_eq_getElem hlt];exact List.getElem_mem hlt);omega
    have HBAD:=mh hbad;clear hxb hbad
    go_wp2
    all_goals
     go_ret3
     exact .inr ⟨HBAD.out,rfl,HB.out⟩
   have hG1:En.Good e u (l.take k ++ [x]):=GK.out.snoc hxb (by rw[List.length_take];omega);have hs1:=hG1.sum (k+1);have hus1:=hG1.usum (k+1);have hlk:(l.take k ++ [x]).length=k+1:=by simp;omega
   rw[List.take_of_length_le (by omega),Sh.sum_snoc]at hs1;rw[List.take_of_length_le (by omega),En.usum_snoc]at hus1;have HG1:=mh hG1;clear hG1 hlk;have x0:0≤x / u:=Int.ediv_nonneg hxb.1 (by omega);have x1:x / u≤68719476736:=by have:=Int.ediv_le_self u hxb.1;omega
   have hdq:IntKind.i64.wrap (x.tdiv u)=x / u:=by
    rw[Int.tdiv_eq_ediv_of_nonneg hxb.1];generalize x / u=y at x0 x1 ⊢;rw[IntKind.wrap_i64];omega
   go_wp2_with (first|(at_builtin;(refine Own.append HI.out.1 HI.out.2.1 HI.out.2.2.1 HI.out.2.2.2 Tryz.underlying22 rfl (.tmp 52) (.tmp 59) rfl w.heap.size _ _ _ HO.out rfl rfl (by omega) (by rw[En.units_len,List.length_take];omega) ?_);intro v1 w1 hown1 hb1;have hcell1:=(hb1.cell (p:=⟨b,off+k,none⟩) hbl).trans hcell))
   have HO1:=mh hown1;have HB1:=mh (HB.out.trans hb1);clear hown1 hb1
   go_roundw
   case rel=>exact⟨k+1,by omega,by go_num,by rw[hst.out,hx.out,Sh.sum_snoc],by rw[hst.out,hx.out,En.usum_snoc],by rw[hst.out,hx.out];exact HG1.out,by rw[hst.out,hx.out,En.units_snoc];exact HO1.out,HB1.out⟩
   case measure=>simp[intOf];omega
  ·obtain rfl:k=l.length:=by omega
   rw[List.take_length]at hs0 hus GK HO;obtain⟨p4,c4,rfl,hI4⟩:=HO.out.ints;have HI4:=mh hI4;clear hI4 hGk hown hbw hlt hk;rw[List.take_length]
   go_wp2
   go_ret3
   exact .inl ⟨GK.out,p4,c4,by rw[En.units_len];rfl,HI4.out,HB.out⟩
theorem refunits_good (e u:Int)(p:Option Addr)(l:List Int)(cap:Nat)(w:World)(h:Ints w p l)(hg:En.Good e u l) :
  Calls Tryz.prog 104 #[I O e,I O u,.slice p l.length cap] w fun en w' => ∃q c,en = .returned (.tuple #[.slice q l.length c,I O (En.usum u l),I O 0])∧Ints w' q (En.units u l)∧Below w.heap.size w w' :=by
 refine(refunits_main e u p l cap w h ⟨hg.e0,hg.e1,hg.u0,hg.u1,by simp,by simp⟩ hg.len).mono fun en w' hu=>?_
 rcases hu with⟨_,h2⟩|⟨h1,_⟩
 ·exact h2
 ·exact absurd hg h1
theorem refunits_bad (e u:Int)(p:Option Addr)(l:List Int)(cap:Nat)(w:World)(h:Ints w p l)(hg:En.err e u l≠0) :
  Calls Tryz.prog 104 #[I O e,I O u,.slice p l.length cap] w fun en w' => en = .returned (.tuple #[.slice none 0 0,I O 0,I O (En.err e u l)])∧Below w.heap.size w w' :=by
 by_cases h1:En.money e=false
 ·have h1' := En.money_not.1 h1
  have he:En.err e u l=67:=by unfold En.err;rw[if_pos h1]
  rw[he];clear hg
  go_enter Tryz.func104,Tryz.ntmps104
  go_wp2
  all_goals
   go_ret3
   exact⟨rfl,brf _ _⟩
 have m:=En.money_iff.1 (show En.money e=true by simpa using h1)
 by_cases h2:u<1∨100000<u
 ·have he:En.err e u l=2:=by unfold En.err;rw[if_neg h1,if_pos h2]
  rw[he];clear hg
  go_enter Tryz.func104,Tryz.ntmps104
  go_wp2
  all_goals
   go_ret3
   exact⟨rfl,brf _ _⟩
 by_cases h3:64<l.length
 ·have he:En.err e u l=1:=by unfold En.err;rw[if_neg h1,if_neg h2,if_pos h3]
  rw[he];have u0:1≤u:=by omega
  have u1:u≤100000:=by omega
  have hl:(64:Int)<(l.length:Int):=by omega
  clear hg h2
  go_enter Tryz.func104,Tryz.ntmps104
  go_wp2
  all_goals
   go_ret3
   exact⟨rfl,brf _ _⟩
 have hb:¬En.Good e u l:=fun hG=>hg (En.err_of hG)
 have he:En.err e u l=67:=by
  unfold En.err at hg ⊢;rw[if_neg h1,if_neg h2,if_neg h3]at hg ⊢
  split at hg
  ·rw[if_pos (by assumption)]
  ·exact absurd rfl hg
 rw[he];refine(refunits_main e u p l cap w h ⟨m.1,m.2,by omega,by omega,by simp,by simp⟩ (by omega)).mono fun en w' hu=>?_
 rcases hu with⟨h2,_⟩|⟨_,h2⟩
 ·exact absurd h2 hb
 ·exact h2
theorem refscale_bad (e u:Int)(p:Option Addr)(l:List Int)(cap:Nat)(w:World)(h:Ints w p l)(hg:En.err e u l≠0) :
  Calls Tryz.prog 80 #[I O e,I O u,.slice p l.length cap] w (GivesNew w (En.scale e u l) (En.err e u l)):=by
 have hs:En.scale e u l = []:=by unfold En.scale;rw[if_neg hg]
 rw[hs];have hc:=mh (refunits_bad e u p l cap w h hg);clear h hs
 go_enter Tryz.func80,Tryz.ntmps80
 go_wp2_with (first|(go_at_call 104;refine(hc.out).mono ?_;rintro en w1 ⟨rfl,hb1⟩))
 go_ret2
 exact⟨none,0,rfl,Ints.nil _ _,hb1,fun _ h=>by cases h⟩
theorem refshares_len (t:Int)(p:Option Addr)(zs:List Int)(n cap:Nat)(w:World)(h:Ints w p zs)(hn:zs.length=n)(he:shErr t zs=0) :
  Calls Tryz.prog 105 #[I O t,.slice p n cap] w (GivesInts w (shList t zs) 0):=by subst hn;rw[← he];exact refshares_any t p zs cap w h
theorem refscale_good (e u:Int)(p:Option Addr)(l:List Int)(cap:Nat)(w:World)(h:Ints w p l)(hg:En.err e u l=0) :
  Calls Tryz.prog 80 #[I O e,I O u,.slice p l.length cap] w (GivesNew w (En.scale e u l) 0):=by
 have hG:=mh (En.good_of hg);have hc:=mh (refunits_good e u p l cap w h hG.out);have HL:=mh (@En.units_len u l);have HE:=mh (units_ok hG.out);have hu0:¬u=0:=by have:=hG.out.u0;omega
 have hdq:IntKind.i64.wrap (e.tdiv u)=e / u:=by
  have q0:0≤e / u:=Int.ediv_nonneg hG.out.e0 (by have:=hG.out.u0;omega);have q1:e / u≤e:=Int.ediv_le_self u hG.out.e0;have:=hG.out.e1;rw[Int.tdiv_eq_ediv_of_nonneg hG.out.e0];generalize e / u=y at q0 q1 ⊢;rw[IntKind.wrap_i64];omega
 clear h
 by_cases hq:e / u<En.usum u l
 ·go_enter Tryz.func80,Tryz.ntmps80
  go_wp2_with (first|(go_at_call 104;refine(hc.out).mono ?_;rintro en w1 ⟨q,c,rfl,hI,hb1⟩)|(go_at_call 105;refine(refshares_len _ _ _ _ _ _ hI HL.out HE.out).mono ?_;rintro en w3 ⟨p3,c3,rfl,hI3,hb3⟩))
  have hsc:En.scale e u l=(shList (e / u) (En.units u l)).map fun x=>x*u:=by unfold En.scale En.paid;rw[if_pos hg,if_pos hq]
  have hzb:∀x∈shList (e / u) (En.units u l),0≤x∧x≤68719476736:=fun x hx=>by
   have h:=(shList_bd HE.out).1 x hx;have:=Int.ediv_le_self u hG.out.e0;have:=hG.out.e1;omega
  have hzn:(shList (e / u) (En.units u l)).length≤64:=by rw[(shList_bd HE.out).2,En.units_len];exact hG.out.len
  have hbel:Below w.heap.size w w3:=bnext hb1 hb1.size hb3;have hIz:=hI3;have hsc:=mh hsc;clear hI hI3 hb1 hb3 HL HE hc hq hg hdq;generalize shList (e / u) (En.units u l)=zs at *;obtain⟨wz,rfl⟩:∃wz:World,wz=w3:=⟨_,rfl⟩;obtain⟨i0,hi,hz0,hz1,hz2⟩:=info_parts info_int;have HI:=mh (And.intro hi (And.intro hz0 (And.intro hz1 hz2)));clear hi hz0 hz1 hz2;have u1:=hG.out.u1;have u0:=hG.out.u0;have BEL:=mh hbel;have HZ:=mh hIz;have ZB:=mh hzb;have hzl:=hIz.len;clear hbel hIz hzb
  go_loopw [12,11] (fun i v wr=>∃k:Nat,k≤zs.length∧i=I O k∧Own wr 3 wz.heap.size v ((zs.take k).map fun x=>x*u)∧Below wz.heap.size wz wr) (fun i _ _=>zs.length - (intOf i).toNat)
  case atStart=>exact⟨0,Nat.zero_le _,rfl,Own.nil _ _ _,brf _ _⟩
  case round =>
   obtain⟨k,hk,rfl,hown,hbw⟩:=hrel;have HO:=mh hown;have HB:=mh hbw;have hsz:=hbw.size
   by_cases hlt:k<zs.length
   ·obtain⟨b,off,x,rfl,hbl,hcell0,hx⟩:=HZ.out.get hlt
    have hcell:=(hbw.cell (p:=⟨b,off+k,none⟩) hbl).trans hcell0;have hst:=mh (En.take_snoc hlt);have hxb:0≤x∧x≤68719476736:=by
     rw[← hx.out,List.getD_eq_getElem?_getD,List.getElem?_eq_getElem hlt];exact ZB.out _ (List.getElem_mem hlt)
    have hm0:0≤x*u:=Int.mul_nonneg hxb.1 (by omega);have hm1:x*u≤68719476736*100000:=Int.mul_le_mul hxb.2 u1 (by omega) (by omega);have hmw:IntKind.i64.wrap (x*u)=x*u:=by
     generalize x*u=y at hm0 hm1 ⊢;rw[IntKind.wrap_i64];omega
    clear hown hbw hcell0
    go_wp2_with (first|(at_builtin;(refine Own.append HI.out.1 HI.out.2.1 HI.out.2.2.1 HI.out.2.2.2 Tryz.underlying22 rfl (.tmp 46) (.tmp 53) rfl wz.heap.size _ _ _ HO.out rfl rfl (by omega) (by rw[List.length_map,List.length_take];omega) ?_);intro v1 w5 hown1 hb5))
    have HO5:=mh hown1;have HB5:=mh (HB.out.trans hb5);clear hown1 hb5
    go_roundw
    case rel=>exact⟨k+1,by omega,by go_num,by rw[hst.out,hx.out];simpa using HO5.out,HB5.out⟩
    case measure=>simp[intOf];omega
   ·obtain rfl:k=zs.length:=by omega
    rw[List.take_length]at HO;obtain⟨p4,c4,rfl,hI4,hn4⟩:=HO.out.intsN;have HI4:=mh hI4;have HN4:=mh hn4;clear hI4 hn4 hown hbw hlt hk
    go_wp2
    go_ret2
    exact⟨p4,c4,by rw[hsc.out];simp,by rw[hsc.out];exact HI4.out,bnext BEL.out BEL.out.size HB.out,fun a h=>Nat.le_trans BEL.out.size (HN4.out a h)⟩
 ·go_enter Tryz.func80,Tryz.ntmps80
  go_wp2_with (first|(go_at_call 104;refine(hc.out).mono ?_;rintro en w1 ⟨q,c,rfl,hI,hb1⟩))
  rw[← HL.out];have hsc:=mh (show En.scale e u l=(En.units u l).map fun x=>x*u by unfold En.scale En.paid;rw[if_pos hg,if_neg (by omega)]);have hzb:∀x∈En.units u l,0≤x∧x≤68719476736:=hG.out.unit;have hzn:(En.units u l).length≤64:=by rw[En.units_len];exact hG.out.len
  have hbel:Below w.heap.size w w1:=hb1;have hIz:=hI;clear hI hb1 HL HE hc hq hg hdq;generalize En.units u l=zs at *;obtain⟨wz,rfl⟩:∃wz:World,wz=w1:=⟨_,rfl⟩;obtain⟨i0,hi,hz0,hz1,hz2⟩:=info_parts info_int;have HI:=mh (And.intro hi (And.intro hz0 (And.intro hz1 hz2)));clear hi hz0 hz1 hz2;have u1:=hG.out.u1;have u0:=hG.out.u0;have BEL:=mh hbel;have HZ:=mh hIz;have ZB:=mh hzb;have hzl:=hIz.len;clear hbel hIz hzb
  go_loopw [12,11] (fun i v wr=>∃k:Nat,k≤zs.length∧i=I O k∧Own wr 3 wz.heap.size v ((zs.take k).map fun x=>x*u)∧Below wz.heap.size wz wr) (fun i _ _=>zs.length - (intOf i).toNat)
  case atStart=>exact⟨0,Nat.zero_le _,rfl,Own.nil _ _ _,brf _ _⟩
  case round =>
   obtain⟨k,hk,rfl,hown,hbw⟩:=hrel;have HO:=mh hown;have HB:=mh hbw;have hsz:=hbw.size
   by_cases hlt:k<zs.length
   ·obtain⟨b,off,x,rfl,hbl,hcell0,hx⟩:=HZ.out.get hlt
    have hcell:=(hbw.cell (p:=⟨b,off+k,none⟩) hbl).trans hcell0;have hst:=mh (En.take_snoc hlt);have hxb:0≤x∧x≤68719476736:=by
     rw[← hx.out,List.getD_eq_getElem?_getD,List.getElem?_eq_getElem hlt];exact ZB.out _ (List.getElem_mem hlt)
    have hm0:0≤x*u:=Int.mul_nonneg hxb.1 (by omega);have hm1:x*u≤68719476736*100000:=Int.mul_le_mul hxb.2 u1 (by omega) (by omega);have hmw:IntKind.i64.wrap (x*u)=x*u:=by
     generalize x*u=y at hm0 hm1 ⊢;rw[IntKind.wrap_i64];omega
    clear hown hbw hcell0
    go_wp2_with (first|(at_builtin;(refine Own.append HI.out.1 HI.out.2.1 HI.out.2.2.1 HI.out.2.2.2 Tryz.underlying22 rfl (.tmp 46) (.tmp 53) rfl wz.heap.size _ _ _ HO.out rfl rfl (by omega) (by rw[List.length_map,List.length_take];omega) ?_);intro v1 w5 hown1 hb5))
    have HO5:=mh hown1;have HB5:=mh (HB.out.trans hb5);clear hown1 hb5
    go_roundw
    case rel=>exact⟨k+1,by omega,by go_num,by rw[hst.out,hx.out];simpa using HO5.out,HB5.out⟩
    case measure=>simp[intOf];omega
   ·obtain rfl:k=zs.length:=by omega
    rw[List.take_length]at HO;obtain⟨p4,c4,rfl,hI4,hn4⟩:=HO.out.intsN;have HI4:=mh hI4;have HN4:=mh hn4;clear hI4 hn4 hown hbw hlt hk
    go_wp2
    go_ret2
    exact⟨p4,c4,by rw[hsc.out];simp,by rw[hsc.out];exact HI4.out,bnext BEL.out BEL.out.size HB.out,fun a h=>Nat.le_trans BEL.out.size (HN4.out a h)⟩
theorem refscale_new (e u:Int)(p:Option Addr)(l:List Int)(cap:Nat)(w:World)(h:Ints w p l) :
  Calls Tryz.prog 80 #[I O e,I O u,.slice p l.length cap] w (GivesNew w (En.scale e u l) (En.err e u l)):=by
 by_cases hg:En.err e u l=0
 ·have:=refscale_good e u p l cap w h hg
  rw[hg];exact this
 ·exact refscale_bad e u p l cap w h hg
open Sc As
theorem refassess34_any {Q Q2:Nat→Prop}(d:Nat)(r:RY)(l:YLaw)(p:Option Addr)(F:List FarmF)(cap:Nat)(w:World)(h:YV Q w d r l)(hF:FsAt Q2 w p F)(hlo:∀f∈F,∀x∈f.lines, -9223372036854775808≤x.sch) :
  Calls Tryz.prog 53 #[.agg (yCells r).toArray,.slice p F.length cap] w (AsG l F w):=by
 have hlen:=hF.len;have HB:=mh (balloc mle (brf w.heap.size w) (.cells #[.slice r.sp r.sn r.sc,.slice r.tp r.tn r.tc,I O r.due,I O r.last,I O r.mille,.slice r.gp r.gn r.gc,I O r.cap,I O r.env,I O r.unit,I O r.width] 58));have FA:=mh (reffacts34_any d r l p F cap (w.alloc (.cells #[.slice r.sp r.sn r.sc,.slice r.tp r.tn r.tc,I O r.due,I O r.last,I O r.mille,.slice r.gp r.gn r.gc,I O r.cap,I O r.env,I O r.unit,I O r.width] 58)) (h.below HB.out) h.sc (hF.below HB.out) hlo);have FR:=mh (fun (W:World) (hb:Below w.heap.size w W) (y:RF) (f:FarmF) (W' : World) (hb' : Below W.heap.size W W') (hv:FV Q2 W y f) (hf:f∈F)=>reffarm34_any d r l y f W' ((h.below hb).below hb') (hv.below hb') (hlo f hf));have HF:=mh hF;have BY:=mh (Blk.new w #[.slice r.sp r.sn r.sc,.slice r.tp r.tn r.tc,I O r.due,I O r.last,I O r.mille,.slice r.gp r.gn r.gc,I O r.cap,I O r.env,I O r.unit,I O r.width] 58);have HRE:=mh (And.intro h.env h.unit);simp only[yCells]at FA FR ⊢;clear h hF hlo;obtain⟨c,ec⟩:∃c,chkF l F=c:=⟨_,rfl⟩;rw[ec]at FA;have EC:=mh ec;clear ec
 by_cases hc:c=0
 rotate_left
 ·have hne:(c != 0)=true:=by simpa using hc
  have ER:=mh (show assErr l F=c from by unfold assErr;rw[EC.out,if_pos hc]);have HNE:=mh hc;clear hc
  go_enter Tryz.func53,Tryz.ntmps53
  go_wp2_with (go_at_call 79;(with_reducible refine cmo FA.out ?_);rintro e w1 ⟨rfl,hb1⟩;have HB1:=mh (bstep mle HB.out hb1);clear hb1)
  go_ret2
  exact AsG.err ER.out HNE.out HB1.out
 subst hc;have FO:=mh (fOk EC.out);have hF10:=FO.out.len;have NE0:((0:Int) != 0)=false:=by decide
 go_enter Tryz.func53,Tryz.ntmps53
 go_wp2_with (go_at_call 79;(with_reducible refine cmo FA.out ?_);rintro e w1 ⟨rfl,hb1⟩;have HB1:=mh (bstep mle HB.out hb1);have BY1:=mh (BY.out.below hb1);clear hb1)
 go_loopw [7,8] (fun out i W=>∃k:Nat,k≤F.length∧i=I O k∧allErr l (F.take k)=0∧OwnR SA W 78 w1.heap.size out (allAw l (F.take k))∧Below w1.heap.size w1 W) (fun _ i _=>F.length - (intOf i).toNat)
 case atStart=>exact⟨0,Nat.zero_le _,rfl,rfl,OwnR.nil _ _ _,brf _ _⟩
 case round =>
  obtain⟨wo,rfl⟩:∃wo:World,wo=wr:=⟨_,rfl⟩;obtain⟨k,hk,rfl,her,hO,hb⟩:=hrel;have HO:=mh hO;have HER:=mh her;have HBO:=mh hb;have HWO:=mh (show Below w.heap.size w wo from HB1.out.trans (hb.mono HB1.out.size));have hk0:(0:Int)≤(k:Int):=inn _;clear hO her
  by_cases hlt:k<F.length
  ·have hk1:(k:Int)<(F.length:Int):=by omega
   have BYO:=mh (Blk.below BY1.out (hb.mono mle));obtain⟨b,off,⟨fa,da,lp,ln,lc⟩,rfl,hbl,hfc,hv⟩:=(HF.out.below HB1.out).at hlt;have HFC:=mh (fun (W:World) (hb:Below w1.heap.size w1 W)=>hfc.below hb hbl);have ST:=mh (tsg hlt)
   have HLE:=mh (show(allAw l (F.take k)).length≤160∧(farmAw l F[k]).length≤16 from by
    have h1:=allAw_le l (F.take k);have h2:=farmAw_le l F[k];have h3:=FO.out.law.len;have h4:(F.take k).length≤10:=by rw[List.length_take];omega
    have h5:(F.take k).length*l.sch.length≤10*16:=Nat.mul_le_mul h4 h3
    omega)
   have BAD:=mh (fun h=>allErr_bad (l:=l) hlt HER.out h);have FRw:=mh (FR.out wo HWO.out ⟨fa,da,lp,ln,lc⟩ F[k] wo.drew ((brf _ _).drew) (hv.below hb) (List.getElem_mem hlt));obtain⟨f,ef⟩:∃f,F[k]=f:=⟨_,rfl⟩;rw[ef]at hv ST HLE BAD FRw;have hba:=(brf wo.heap.size wo).drew;have FRc:=mh FRw.out;simp only[fCells]at FRc
   have KS:=mh (fun (W:World) (hb:Below w1.heap.size w1 W)=>show W.cell? ⟨w.heap.size,0,none⟩=some (.slice r.sp r.sn r.sc)∧W.cell? ⟨w.heap.size,1,none⟩=some (.slice r.tp r.tn r.tc)∧W.cell? ⟨w.heap.size,2,none⟩=some (I O r.due)∧W.cell? ⟨w.heap.size,3,none⟩=some (I O r.last)∧W.cell? ⟨w.heap.size,4,none⟩=some (I O r.mille)∧W.cell? ⟨w.heap.size,5,none⟩=some (.slice r.gp r.gn r.gc)∧W.cell? ⟨w.heap.size,6,none⟩=some (I O r.cap)∧W.cell? ⟨w.heap.size,7,none⟩=some (I O r.env)∧W.cell? ⟨w.heap.size,8,none⟩=some (I O r.unit)∧W.cell? ⟨w.heap.size,9,none⟩=some (I O r.width)∧W.cell? ⟨b,off+k*3,none⟩=some (I O fa)∧W.cell? ⟨b,off+k*3+1,none⟩=some (I O da)∧W.cell? ⟨b,off+k*3+2,none⟩=some (.slice lp ln lc) from by
    have B2:=BY1.out.below hb;have g:=HFC.out W hb
    exact⟨B2.cell 0,B2.cell 1,B2.cell 2,B2.cell 3,B2.cell 4,B2.cell 5,B2.cell 6,B2.cell 7,B2.cell 8,B2.cell 9,g.c0,g.c1,g.c2⟩)
   have HO2:=mh (HO.out.below hba);have HB2:=mh (hb.trans (hba.mono hb.size));have KD:=mh (KS.out _ HB2.out);unfold FrG at FRc;obtain⟨E,eE⟩:∃E,farmErr l f=E:=⟨_,rfl⟩;rw[eE]at FRc BAD;have EE:=mh eE;clear hv ef hba eE hbl hb hfc FRw BYO
   by_cases hE:E=0
   ·subst hE
    go_wp2_with fail
    refine wp_region_held_drew (S:=fun w' => w'.cell? ⟨w.heap.size,0,none⟩=some (.slice r.sp r.sn r.sc)∧w'.cell? ⟨w.heap.size,1,none⟩=some (.slice r.tp r.tn r.tc)∧w'.cell? ⟨w.heap.size,2,none⟩=some (I O r.due)∧w'.cell? ⟨w.heap.size,3,none⟩=some (I O r.last)∧w'.cell? ⟨w.heap.size,4,none⟩=some (I O r.mille)∧w'.cell? ⟨w.heap.size,5,none⟩=some (.slice r.gp r.gn r.gc)∧w'.cell? ⟨w.heap.size,6,none⟩=some (I O r.cap)∧w'.cell? ⟨w.heap.size,7,none⟩=some (I O r.env)∧w'.cell? ⟨w.heap.size,8,none⟩=some (I O r.unit)∧w'.cell? ⟨w.heap.size,9,none⟩=some (I O r.width)∧w'.cell? ⟨b,off+k*3,none⟩=some (I O fa)∧w'.cell? ⟨b,off+k*3+1,none⟩=some (I O da)∧w'.cell? ⟨b,off+k*3+2,none⟩=some (.slice lp ln lc)) (by kernel_rfl) KD.out (fun hHeld=>?_)
    refine tkA 0 28 ?_
    simp only[Act.put,mnA,mnB,mnC];refine tkD 1 29 ?_;refine tkD 2 30 ?_;refine tkD 3 31 ?_;refine tkD 4 32 ?_;refine rdA 5 33 (fun K hK=>?_);go_simp;(with_reducible refine cmo FRc.out ?_);rintro e w3 ⟨va,vr,rfl,hoa,hor,hb3⟩;obtain⟨pa,ca,rfl,hpn, -, -, -,hra⟩:=hoa.cut rfl;have HRA:=mh hra;have HPN:=mh (fun e=>(hpn e).1);have HO3:=mh (HO2.out.below hb3);have HB3:=mh (HB2.out.trans (hb3.mono HB2.out.size));have K3:=mh (KS.out _ HB3.out);clear hoa hor hb3 hpn hra
    go_wp2_with fail
    refine hK.out _ _ ?hSa0_5 (fun hHeld2=>?_)
    case hSa0_5=>exact K3.out
    clear hK K;refine tkD 6 27 ?_;refine tkD 7 34 ?_;refine tkD 8 35 ?_;refine tkD 9 36 ?_;refine tkD 10 9 ?_;refine tkD 11 10 ?_;refine tkA 12 11 ?_;refine wpAnyH_done (by kernel_rfl) ?_ _
    go_wp2_with (first|(at_builtin;(refine OwnR.appendAll el_awd rfl (.tmp 40) (.tmp 41) rfl w1.heap.size _ (allAw l (F.take k)) (farmAw l f) pa ca (farmAw l f).length rfl HO3.out HRA.out HPN.out rfl rfl HB3.out.size (by have:=HLE.out;omega) (by decide) ?_);intro v5 w5 hO5 hap5;have HO5:=mh hO5;have HB5:=mh (HB3.out.trans hap5.below);clear hO5 hap5)|fail)
    go_roundw
    case rel=>exact⟨k+1,by omega,by go_num,by rw[ST.out,allErr_snoc _ HER.out,EE.out],by rw[ST.out,allAw_snoc];exact HO5.out,HB5.out⟩
    case measure=>simp[intOf];omega
   ·have hne:(E != 0)=true:=by simpa using hE
    have HNE:=mh hE;clear hE;have ER:=mh (show assErr l F=E from by unfold assErr;rw[EC.out,if_neg (by simp),BAD.out HNE.out,if_pos HNE.out])
    go_wp2_with fail
    refine wp_region_held_drew (S:=fun w' => w'.cell? ⟨w.heap.size,0,none⟩=some (.slice r.sp r.sn r.sc)∧w'.cell? ⟨w.heap.size,1,none⟩=some (.slice r.tp r.tn r.tc)∧w'.cell? ⟨w.heap.size,2,none⟩=some (I O r.due)∧w'.cell? ⟨w.heap.size,3,none⟩=some (I O r.last)∧w'.cell? ⟨w.heap.size,4,none⟩=some (I O r.mille)∧w'.cell? ⟨w.heap.size,5,none⟩=some (.slice r.gp r.gn r.gc)∧w'.cell? ⟨w.heap.size,6,none⟩=some (I O r.cap)∧w'.cell? ⟨w.heap.size,7,none⟩=some (I O r.env)∧w'.cell? ⟨w.heap.size,8,none⟩=some (I O r.unit)∧w'.cell? ⟨w.heap.size,9,none⟩=some (I O r.width)∧w'.cell? ⟨b,off+k*3,none⟩=some (I O fa)∧w'.cell? ⟨b,off+k*3+1,none⟩=some (I O da)∧w'.cell? ⟨b,off+k*3+2,none⟩=some (.slice lp ln lc)) (by kernel_rfl) KD.out (fun hHeld=>?_)
    refine tkA 0 28 ?_
    simp only[Act.put,mnA,mnB,mnC];refine tkD 1 29 ?_;refine tkD 2 30 ?_;refine tkD 3 31 ?_;refine tkD 4 32 ?_;refine rdA 5 33 (fun K hK=>?_);go_simp;(with_reducible refine cmo FRc.out ?_);rintro e w3 ⟨va,vr,rfl,hoa,hor,hb3⟩;obtain⟨pa,ca,rfl,hpn, -, -, -,hra⟩:=hoa.cut rfl;have HRA:=mh hra;have HPN:=mh (fun e=>(hpn e).1);have HO3:=mh (HO2.out.below hb3);have HB3:=mh (HB2.out.trans (hb3.mono HB2.out.size));have K3:=mh (KS.out _ HB3.out);clear hoa hor hb3 hpn hra
    go_wp2_with fail
    refine hK.out _ _ ?hSb0_5 (fun hHeld2=>?_)
    case hSb0_5=>exact K3.out
    clear hK K;refine tkD 6 27 ?_;refine tkD 7 34 ?_;refine tkD 8 35 ?_;refine tkD 9 36 ?_;refine tkD 10 9 ?_;refine tkD 11 10 ?_;refine tkA 12 11 ?_;refine wpAnyH_done (by kernel_rfl) ?_ _
    go_wp2_with fail
    go_ret2
    exact AsG.err ER.out HNE.out (HB1.out.trans (HB3.out.mono HB1.out.size))
  ·obtain rfl:k=F.length:=by omega
   rw[List.take_length]at HER HO;obtain⟨po,co,rfl,hpo,hpb, -, -,hro⟩:=HO.out.cut rfl;have HRO:=mh hro
   have HLE:=mh (show(allAw l F).length≤160 from by
    have h1:=allAw_le l F;have h3:=FO.out.law.len;have h5:F.length*l.sch.length≤10*16:=Nat.mul_le_mul hF10 h3
    omega)
   have HPB:=mh (fun x e=>(hpb x e).2.2.2);clear hro hpo hpb hk hlt hk0
   by_cases h64:64<(allAw l F).length
   ·have ER:=mh (show assErr l F=1 from by unfold assErr;rw[EC.out,if_neg (by simp),HER.out,if_neg (by simp),if_pos h64])
    have h64i:(64:Int)<((allAw l F).length:Int):=by omega
    clear h64
    go_wp2
    go_ret2
    exact AsG.err ER.out (by decide) HWO.out
   ·have G:=all_good FO.out (show(allAw l F).length≤64 by omega)
    have GE:=En.err_of G;have GL:=G.keeps.len;have ER:=mh (show assErr l F=0 from by unfold assErr;rw[EC.out,if_neg (by simp),HER.out,if_neg (by simp),if_neg h64];exact GE);have EA:=mh (show assess l F=setDue (allAw l F) (En.scale l.env l.unit (cappeds (allAw l F))) from by unfold assess;rw[if_neg (by rw[ER.out];simp)]);have h64i:¬(64:Int)<((allAw l F).length:Int):=by omega
    obtain⟨A,eA⟩:∃A,allAw l F=A:=⟨_,rfl⟩;rw[eA]at HO HRO HLE h64i EA GE GL ⊢;have CL:(cappeds A).length=A.length:=by unfold cappeds;simp
    obtain⟨C,eC⟩:∃C,En.scale l.env l.unit (cappeds A)=C:=⟨_,rfl⟩;rw[eC]at EA GL;obtain⟨n,en⟩:∃n,A.length=n:=⟨_,rfl⟩;have HNA:=mh en;have HNC:=mh (show C.length=n from by rw[GL,CL,en]);have CLN:=mh (show(cappeds A).length=n from by rw[CL,en]);have hn64:n≤64:=by omega
    have SCL:=mh (fun (W:World) (q:Option Addr) (cq:Nat) (hq:Ints W q (cappeds A))=>show Calls Tryz.prog 80 #[I O r.env,I O r.unit,.slice q n cq] W (GivesNew W C 0) from by
     have:=refscale_new r.env r.unit q (cappeds A) cq W hq;rw[HRE.out.1,HRE.out.2,eC,GE,CL,en]at this;rw[HRE.out.1,HRE.out.2]
     exact this)
    have HOD:=mh (HO.out.drew);have HBD:=mh (show Below w1.heap.size w1 wo.drew from HBO.out.trans ((brf _ _).drew.mono mle))
    have CPC:=mh (show Calls Tryz.prog 81 #[.slice po n co] wo.drew (ListG (cappeds A) wo.drew) from by
     have:=refcappeds34_any po A co wo.drew (HRO.out.below (brf _ _).drew) (by omega);rw[en]at this
     exact this)
    unfold ListG at CPC
    have KS:=mh (fun (W:World) (hb:Below w1.heap.size w1 W)=>show W.cell? ⟨w.heap.size,7,none⟩=some (I O r.env)∧W.cell? ⟨w.heap.size,8,none⟩=some (I O r.unit) from by
     have B2:=BY1.out.below hb
     exact⟨B2.cell 7,B2.cell 8⟩)
    have KD:=mh (KS.out _ HBD.out);rw[en]at h64i HO HOD ⊢;clear h64 G GE GL eA eC CL en
    go_wp2_with fail
    refine wp_region_held_drew (S:=fun w' => w'.cell? ⟨w.heap.size,7,none⟩=some (I O r.env)∧w'.cell? ⟨w.heap.size,8,none⟩=some (I O r.unit)) (by kernel_rfl) KD.out (fun hHeld=>?_)
    refine tkA 0 47 ?_
    simp only[Act.put,mnA,mnB,mnC];refine tkD 1 48 ?_;refine tkD 2 49 ?_;refine tkD 3 50 ?_;refine tkD 4 51 ?_;refine rdA 5 52 (fun K hK=>?_);go_simp;(with_reducible refine cmo CPC.out ?_);rintro e w5 ⟨pc,cc,rfl,hrc,hb5⟩;have SC:=mh (SCL.out w5 pc cc hrc);have HO5:=mh (HOD.out.below hb5);have HB5:=mh (HBD.out.trans (hb5.mono HBD.out.size));have K5:=mh (KS.out _ HB5.out);clear hrc hb5
    go_wp2_with fail
    refine hK.out _ _ ?hSc0_5 (fun hHeld2=>?_)
    case hSc0_5=>exact K5.out
    clear hK K;refine rdA 6 53 (fun K hK=>?_);go_simp;rw[CLN.out];(with_reducible refine cmo SC.out ?_);rintro e w6 ⟨pF,cF,rfl,hI,hb6,hnw⟩;have CPS:=mh (show DuS w5.heap.size w1.heap.size w1 w6 (.slice po n co) A pF C 0 from⟨by rw[dueN_zero];exact HO5.out.below hb6,HB5.out.trans (hb6.mono HB5.out.size),hI,fun g hg=>(HO5.out.lt hg).2,hnw⟩);have K6:=mh (KS.out _ (HB5.out.trans (hb6.mono HB5.out.size)));clear hI hb6 hnw
    go_wp2_with fail
    refine hK.out _ _ ?hSc0_6 (fun hHeld2=>?_)
    case hSc0_6=>exact K6.out
    clear hK K;refine tkD 7 46 ?_;refine tkD 8 54 ?_;refine tkD 9 55 ?_;refine tkD 10 12 ?_;refine tkA 11 13 ?_;refine wpAnyH_done (by kernel_rfl) ?_ _
    go_wp2_with fail
    rw[HNC.out];clear K5 K6 KD KS SC
    go_loopw [14] (fun i W=>∃j:Nat,j≤n∧i=I O j∧DuS w5.heap.size w1.heap.size w1 W (.slice po n co) A pF C j) (fun i _=>n - (intOf i).toNat)
    case atStart=>exact⟨0,Nat.zero_le _,rfl,CPS.out⟩
    case round =>
     obtain⟨wq,rfl⟩:∃wq:World,wq=wr:=⟨_,rfl⟩;obtain⟨j,hj,rfl,hp⟩:=hrel;have HP:=mh hp;clear hp CPS;have hj0:(0:Int)≤(j:Int):=inn _
     by_cases hlt:j<n
     ·have hj1:(j:Int)<(n:Int):=by omega
      obtain⟨b,off,x,rfl,hb,hcx,hx⟩:=HP.out.ints.get (show j<C.length by rw[HNC.out];exact hlt);obtain⟨g,c,u,ev,h8,f8,hset⟩:=HP.out.set HNA.out hlt
      cases ev
      rw[hx.out]at hset;have HSET:=mh hset;clear hset hx hb
      go_wp2
      go_roundw
      case rel=>exact⟨j+1,by omega,by go_num,HSET.out⟩
      case measure=>simp[intOf];omega
     ·obtain rfl:j=n:=by omega
      clear hlt
      go_wp2
      go_ret2
      exact⟨_,by rw[ER.out];rfl,by rw[EA.out,← dueN_all,HNA.out];exact HP.out.oa.mono HB1.out.size,HB1.out.trans (HP.out.low.mono HB1.out.size)⟩
end Go.Proofs.YtljibgchickcpaaGreatDoor
