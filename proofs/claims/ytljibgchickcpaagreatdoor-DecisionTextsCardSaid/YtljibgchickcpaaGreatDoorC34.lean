/- Packed. -/
import Derived.Test.YtljibgchickcpaaGreatDoorC10
set_option maxRecDepth 100000
set_option maxHeartbeats 4000000
open Go.Value renaming int → I
open Go.IntKind renaming i64 → O
namespace Go.Proofs.YtljibgchickcpaaGreatDoor
open Go.RowKit
theorem OwnP.pairs_at {w:World}{T:TypeId}{B n c:Nat}{p:Option Addr}{D:List (Int × Int)}(h:OwnP w T B (.slice p n c) D):Pairs w p D:=by
 obtain⟨p', c', e,hP⟩:=h.pairs
 cases e
 exact hP
theorem getD_snoc (D:List (Int × Int))(d:Int × Int)(i:Nat)(hi:i<D.length):(D ++ [d]).getD i (0,0)=D.getD i (0,0):=by
 simp[List.getD_eq_getElem?_getD,List.getElem?_append_left hi]
theorem getD_last (D:List (Int × Int))(d:Int × Int):(D ++ [d]).getD D.length (0,0)=d:=by
 simp[List.getD_eq_getElem?_getD]
theorem Ce.Right.snoc {D:List (Int × Int)}{x y:Int}(h:Ce.Right D)(hl:D.length<6)(hx:0≤x∧x≤68719476736)(hy:0≤y∧y≤1000)(hp:D.length≠0→Ce.fr D (D.length - 1)<x∧Ce.mi D (D.length - 1)≤y):Ce.Right (D ++ [(x,y)]):=by
 refine⟨by rw[lap];simp;omega,fun i hi=>?_⟩
 rw[lap,List.length_singleton]at hi
 by_cases e:i=D.length
 ·subst e
  rw[Ce.okAt_iff];have e1:Ce.fr (D ++ [(x,y)]) D.length=x:=by unfold Ce.fr;rw[getD_last]
  have e2:Ce.mi (D ++ [(x,y)]) D.length=y:=by unfold Ce.mi;rw[getD_last]
  rw[e1,e2];refine⟨hx,hy.1,hy.2,?_⟩
  by_cases hz:D.length=0
  ·exact .inl hz
  ·have e3:Ce.fr (D ++ [(x,y)]) (D.length - 1)=Ce.fr D (D.length - 1):=by unfold Ce.fr;rw[getD_snoc _ _ _ (by omega)]
   have e4:Ce.mi (D ++ [(x,y)]) (D.length - 1)=Ce.mi D (D.length - 1):=by unfold Ce.mi;rw[getD_snoc _ _ _ (by omega)]
   rw[e3,e4];exact .inr (hp hz)
 ·have hi' : i<D.length:=by omega
  have hk:=h.ok i hi'; rw[Ce.okAt_iff]at hk ⊢;unfold Ce.fr Ce.mi at *;rw[getD_snoc _ _ _ hi', getD_snoc _ _ _ (show i - 1<D.length by omega)];exact hk
def DegGive2 (w:World) (t:Nat) (l:List Int) (e:Ending) (w' : World):Prop :=
 ∃p cap D q,e = .returned (.slice p D.length cap)∧OwnP w' 147 w.heap.size (.slice p D.length cap) D∧Ce.Right D∧D.length≤3∧TapeAt w' t l q∧But t w w'
theorem info_deg:(Tryz.prog.info? 147).map (fun i=>(i.zero,i.size,i.bytes))=some (some (.agg #[I O 0,I O 0]),2,16):=by kernel_rfl
structure DegAt (w wr:World) (t:Nat) (l:List Int) (N k:Nat) (v:Value) (D:List (Int × Int)) (x y:Int) (q:Nat):Prop where
 len:D.length=k
 right:Ce.Right D
 x0:0≤x∧x≤3000*((k:Int)+1)
 y0:0≤y∧y≤300+400*(k:Int)
 last:k≠0→Ce.fr D (k - 1)<x∧Ce.mi D (k - 1)≤min y 1000
 own:OwnP wr 147 w.heap.size v D
 tape:TapeAt wr t l q
 but:But t w wr
theorem Ce.Right.nil:Ce.Right []:=⟨by simp,fun i hi=>absurd hi (Nat.not_lt_zero i)⟩
theorem degrees2_any (t:Nat)(l:List Int)(a:Nat)(w:World)(h:TapeAt w t l a) :
  Calls Tryz.prog 50 #[.pointer (some ⟨t,0,none⟩)] w (DegGive2 w t l):=by
 obtain⟨gx,ex⟩:∃g,gives l a 3000=g:=⟨_,rfl⟩;obtain⟨gy,ey⟩:∃g,gives l (taken l a) 300=g:=⟨_,rfl⟩;obtain⟨gn,en⟩:∃g,gives l (taken l (taken l a)) 4=g:=⟨_,rfl⟩;obtain⟨x1,x2⟩:=gives_bd l a (n:=3000) (by omega);obtain⟨y1,y2⟩:=gives_bd l (taken l a) (n:=300) (by omega);obtain⟨n1,n2⟩:=gives_bd l (taken l (taken l a)) (n:=4) (by omega);rw[ex]at x1 x2;rw[ey]at y1 y2;rw[en]at n1 n2;obtain⟨N,rfl⟩:∃N:Nat,gn=(N:Int):=Int.eq_ofNat_of_zero_le n1;have T1:=mh (ex▸next_any t l a 3000 w h (by omega));have T2:=mh (fun (W:World) (h:TapeAt W t l (taken l a))=>ey▸next_any t l _ 300 W h (by omega));have T3:=mh (fun (W:World) (h:TapeAt W t l (taken l (taken l a)))=>en▸next_any t l _ 4 W h (by omega));have HN:=mh (fun (W:World) (q:Nat) (h:TapeAt W t l q)=>next_any t l q 400 W h (by omega));have HR:=mh (fun (W:World) (q:Nat) (h:TapeAt W t l q)=>range_any t l q 1 3000 W h (by omega) (by omega) (by omega));obtain⟨i0,hi,hz0,hz1,hz2⟩:=info_parts info_deg;have HI:=mh (And.intro hi (And.intro hz0 (And.intro hz1 hz2)));have hlt:=h.lt;clear h hi hz0 hz1 hz2 ex ey en n1
 go_enter Tryz.func50,Tryz.ntmps50
 go_wp2_with (first|(go_at_call 28;first|(with_reducible refine cmo T1.out ?_;rintro e w1 ⟨rfl,ht1,hb1⟩)|(with_reducible refine cmo (T2.out _ ht1) ?_;rintro e w2 ⟨rfl,ht2,hb2⟩)|(with_reducible refine cmo (T3.out _ ht2) ?_;rintro e w3 ⟨rfl,ht3,hb3⟩)))
 have hst:DegAt w w3 t l N 0 (.slice none 0 0) [] gx gy _:=⟨rfl,Ce.Right.nil,by omega,by omega,fun h=>absurd rfl h,OwnP.nil _ _ _,ht3,(hb1.trans hb2).trans hb3⟩;have HST:=mh hst;clear hst ht1 ht2 ht3 hb1 hb2 hb3 T1 T2 T3
 go_loopw [3,4,5,6] (fun v a m c wr=>∃(k:Nat) (D:List (Int × Int)) (x y:Int) (q:Nat),k≤N∧c=I O ((N:Int) - k)∧a=I O x∧m=I O y∧DegAt w wr t l N k v D x y q) (fun _ _ _ c _=>(intOf c).toNat)
 case atStart=>exact⟨0, [],gx,gy,_,Nat.zero_le _,by simp,rfl,rfl,HST.out⟩
 case round =>
  clear HST;obtain⟨k,D,x,y,q,hk,rfl,rfl,rfl,hD⟩:=hrel;have H:=mh hD;have x0:=hD.x0;have y0:=hD.y0;have hsz:=hD.but.size;have hDl:=hD.len;clear hD
  by_cases hkN:k<N
  ·obtain⟨g,eg⟩:∃g,gives l q (3000 - 1+1)=g:=⟨_,rfl⟩
   obtain⟨g', eg'⟩:∃g,gives l (taken l q) 400=g:=⟨_,rfl⟩;obtain⟨g1,g2⟩:=gives_bd l q (n:=3000 - 1+1) (by omega);obtain⟨g3,g4⟩:=gives_bd l (taken l q) (n:=400) (by omega);rw[eg]at g1 g2;rw[eg']at g3 g4;have HR1:=mh (fun (W:World) (h:TapeAt W t l q)=>eg▸HR.out W q h);have HN1:=mh (fun (W:World) (h:TapeAt W t l (taken l q))=>eg' ▸ HN.out W _ h);clear eg eg' HR HN
   go_wp2_with (first|(at_builtin;(refine OwnP.append HI.out.1 HI.out.2.1 HI.out.2.2.1 HI.out.2.2.2 Tryz.underlying56 rfl (.tmp 17) (.tmp 22) rfl w.heap.size _ _ x (min y 1000) H.out.own rfl rfl (by omega) (by omega) ?_);intro v1 w4 hown4 hb4)|(go_at_call 29;refine(HR1.out _ (H.out.tape.belowB hb4 (by omega))).mono ?_;rintro e w5 ⟨rfl,ht5,hb5⟩)|(go_at_call 28;refine(HN1.out _ ht5).mono ?_;rintro e w6 ⟨rfl,ht6,hb6⟩))
   have hl4:=hb4.size;have hD2:DegAt w w6 t l N (k+1) v1 (D ++ [(x,min y 1000)]) (x+(1+g)) (y+g') (taken l (taken l q)):=by
    refine⟨by rw[lap];simp;omega,H.out.right.snoc (by omega) (by omega) (by omega) (fun hz=>by rw[hDl]at hz ⊢;exact H.out.last hz),by omega,by omega,fun _=>?_,(hown4.butB hlt hb5).butB hlt hb6,ht6,?_⟩
    ·have e1:Ce.fr (D ++ [(x,min y 1000)]) (k+1 - 1)=x:=by unfold Ce.fr;rw[Nat.add_sub_cancel,← hDl,getD_last]
     have e2:Ce.mi (D ++ [(x,min y 1000)]) (k+1 - 1)=min y 1000:=by unfold Ce.mi;rw[Nat.add_sub_cancel,← hDl,getD_last]
     rw[e1,e2];omega
    ·exact(H.out.but.step hb4).trans (hb5.trans hb6)
   have HD2:=mh hD2;clear hD2 hown4 ht5 ht6 hb4 hb5 hb6
   go_roundw
   case rel=>exact⟨k+1,_,_,_,_,by omega,by congr 1;omega,rfl,rfl,HD2.out⟩
   case measure=>simp[intOf];omega
  ·obtain rfl:k=N:=by omega
   obtain⟨p,c,rfl,hP⟩:=H.out.own.pairs;clear hP hkN hk
   go_wp2
   go_ret
   exact⟨p,c,D,q,rfl,H.out.own,H.out.right,by omega,H.out.tape,H.out.but⟩
end Go.Proofs.YtljibgchickcpaaGreatDoor
