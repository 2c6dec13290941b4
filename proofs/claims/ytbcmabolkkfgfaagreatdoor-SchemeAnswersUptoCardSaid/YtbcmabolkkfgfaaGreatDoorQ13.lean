/- Packed. -/
import Derived.Test.YtbcmabolkkfgfaaGreatDoorQ4
set_option maxRecDepth 100000
set_option maxHeartbeats 3000000
open Go.Value renaming int → I
open Go.IntKind renaming i64 → O
namespace Go.Proofs.YtbcmabolkkfgfaaGreatDoor
open Go.RowKit Te Sc
theorem and_bit (v:Int):bits BinOp.and IntKind.i64 v 1=v % 2:=by
 have h1:bits BinOp.and IntKind.i64 v 1=IntKind.i64.wrap (((BitVec.ofInt 64 v &&& BitVec.ofInt 64 1:BitVec 64).toNat:Nat):Int):=rfl;rw[h1,BitVec.toNat_and,BitVec.toNat_ofInt,BitVec.toNat_ofInt,show((1:Int) % ((2 ^ 64:Nat):Int)).toNat=1 from by decide,Nat.and_one_is_mod,IntKind.wrap_i64,show(((2 ^ 64:Nat):Int))=18446744073709551616 from by decide];omega
theorem bit_one (x n:Int):(bits BinOp.and IntKind.i64 (x / 2 ^ n.toNat) 1==1)=bitB x n:=by
 rw[and_bit];unfold bitB;rw[Bool.eq_iff_iff,beq_iff_eq,decide_eq_true_eq]
theorem bit_zero (x n:Int):(bits BinOp.and IntKind.i64 (x / 2 ^ n.toNat) 1==0) = !bitB x n:=by
 rw[and_bit];unfold bitB;rw[Bool.eq_iff_iff,beq_iff_eq,Bool.not_eq_true', decide_eq_false_iff_not];omega
def oneV (num least ex:Int) (nb:Bool) (ck:Int) (bb bit:Bool):Int :=
 if num<0∨15<num∨least<0∨268435456<least then 2 else if nb=false then 5 else if ck≠0 then ck else if bb=false∨ex<0∨65536≤ex∨bit=true then 3 else 0
theorem one_cases {num least ex:Int}{nb:Bool}{ck:Int}{bb bit:Bool}{v:Int}(h:oneV num least ex nb ck bb bit=v) :
  (num<0∨15<num∨least<0∨268435456<least→v=2)∧(¬(num<0∨15<num∨least<0∨268435456<least)→nb=false→v=5) ∧
  (¬(num<0∨15<num∨least<0∨268435456<least)→nb=true→ck≠0→v=ck) ∧
  (¬(num<0∨15<num∨least<0∨268435456<least)→nb=true→ck=0→(bb=false∨ex<0∨65536≤ex∨bit=true)→v=3) ∧
  (¬(num<0∨15<num∨least<0∨268435456<least)→nb=true→ck=0→¬(bb=false∨ex<0∨65536≤ex∨bit=true)→v=0):=by
 subst h;unfold oneV;refine⟨fun h=>by rw[if_pos h],fun h h2=>by rw[if_neg h,if_pos h2],fun h h2 h3=>by rw[if_neg h,if_neg (by rw[h2];decide),if_pos h3],fun h h2 h3 h4=>?_,fun h h2 h3 h4=>?_⟩
 ·rw[if_neg h,if_neg (by rw[h2];decide),if_neg (by omega),if_pos h4]
 ·rw[if_neg h,if_neg (by rw[h2];decide),if_neg (by omega),if_neg h4]
theorem valid_any {Q:Nat→Prop}(d:Nat)(r:RSx)(s:Sch)(w:World)(h:SV Q w d r s)(hz:r.nm.size≤9223372036854775807) :
  Calls Tryz.prog 28 #[.agg #[I O r.num,.string r.nm,I O r.t.op,I O r.t.num,I O r.t.more,.slice r.t.p r.t.n r.t.c,.slice r.bp r.bn r.bc,I O r.least,I O r.ex,.bool r.needs]] w (IntG (one17 s) w):=by
 have hA:Below w.heap.size w (w.alloc (.cells #[I O r.num,.string r.nm,I O r.t.op,I O r.t.num,I O r.t.more,.slice r.t.p r.t.n r.t.c,.slice r.bp r.bn r.bc,I O r.least,I O r.ex,.bool r.needs] 31)):=(brf _ _).alloc mle _;have NM:=mh (show ∀W,Calls Tryz.prog 49 #[.string r.nm] W (fun e w' => e = .returned (.bool (Wo.nameB s.nm.data.toList))∧W=w') from fun W=>h.nm▸name_any r.nm W hz);have CK:=mh (check16_any d r.t s.cond _ (h.below hA).t);have BK:=mh (fun (W:World) (hW:Below w.heap.size w W)=>show Calls Tryz.prog 51 #[.slice r.bp r.bn r.bc] W (BoolG (brB s.br) W) from brackets_any r.bp s.br r.bn r.bc W h.bn (h.below hW).br);obtain⟨v,ev⟩:∃v,one17 s=v:=⟨_,rfl⟩;have OC:=one_cases (show oneV r.num r.least r.ex (Wo.nameB s.nm.data.toList) (chkT s.cond) (brB s.br) (bitB r.ex r.num)=v from by rw[← ev,h.num,h.least,h.ex];rfl);rw[ev];obtain⟨nb,enb⟩:∃x,Wo.nameB s.nm.data.toList=x:=⟨_,rfl⟩;obtain⟨ck,eck⟩:∃x,chkT s.cond=x:=⟨_,rfl⟩;obtain⟨bb,ebb⟩:∃x,brB s.br=x:=⟨_,rfl⟩;rw[enb]at NM OC;rw[eck]at CK OC;rw[ebb]at BK OC;clear enb eck ebb h ev hz;obtain⟨num,nm,⟨o,tn,tm,tp,tl,tc⟩,bp,bn,bc,least,ex,needs⟩:=r;have HA:=mh hA;clear hA;have HA0:=mh (show w.heap.size<(w.alloc (.cells #[I O num,.string nm,I O o,I O tn,I O tm,.slice tp tl tc,.slice bp bn bc,I O least,I O ex,.bool needs] 31)).heap.size by simp);obtain⟨bit,ebit⟩:∃x,bitB ex num=x:=⟨_,rfl⟩;have EB:(bits BinOp.and IntKind.i64 (ex / 2 ^ num.toNat) 1==1)=bit:=by rw[bit_one,ebit]
 simp only[ebit]at OC;clear ebit;obtain⟨O1,O2,O3,O4,O5⟩:=OC
 replace O1:=mh O1
 replace O2:=mh O2
 replace O3:=mh O3
 replace O4:=mh O4
 replace O5:=mh O5
 by_cases g:num<0∨15<num∨least<0∨268435456<least
 ·have HV:=mh (O1.out g)
  have G:=mh g;clear g
  by_cases g1:num<0
  ·go_enter Tryz.func28,Tryz.ntmps28
   go_wp2_with (fail)
   go_ret
   exact⟨ret_int HV.out.symm,HA.out⟩
  by_cases g2:15<num
  ·go_enter Tryz.func28,Tryz.ntmps28
   go_wp2_with (fail)
   go_ret
   exact⟨ret_int HV.out.symm,HA.out⟩
  by_cases g3:least<0
  ·go_enter Tryz.func28,Tryz.ntmps28
   go_wp2_with (fail)
   go_ret
   exact⟨ret_int HV.out.symm,HA.out⟩
  have g4:268435456<least:=by have:=G.out;omega
  ·go_enter Tryz.func28,Tryz.ntmps28
   go_wp2_with (fail)
   go_ret
   exact⟨ret_int HV.out.symm,HA.out⟩
 ·have hn0:0≤num:=by omega
  have hn1:num≤15:=by omega
  have hl0:0≤least:=by omega
  have hl1:least≤268435456:=by omega
  have G:=mh g;clear g
  cases nb
  ·have HV:=mh (O2.out G.out rfl)
   go_enter Tryz.func28,Tryz.ntmps28
   go_wp2_with (first|(go_at_call 49;(with_reducible refine cmo (NM.out _) ?_);rintro e w1 ⟨rfl,rfl⟩)|(go_at_call 50;(with_reducible refine cmo CK.out ?_);rintro e w2 ⟨rfl,hb2⟩;have HS2:=mh (show w.heap.size<w2.heap.size from nll HA0.out hb2.size);have BK1:=mh (BK.out _ (bstep mle HA.out hb2));have HB2:=mh (bstep mle HA.out hb2);have hk0:=mcell hb2 0;have hk1:=mcell hb2 1;have hk2:=mcell hb2 2;have hk3:=mcell hb2 3;have hk4:=mcell hb2 4;have hk5:=mcell hb2 5;have hk6:=mcell hb2 6;have hk7:=mcell hb2 7;have hk8:=mcell hb2 8;have hk9:=mcell hb2 9;clear hb2)|(go_at_call 51;(with_reducible refine cmo BK1.out ?_);rintro e w3 ⟨rfl,hb3⟩;have hj0:=(hb3.cell (p:=⟨w.heap.size,0,none⟩) (by have:=HS2.out;omega)).trans hk0;have hj8:=(hb3.cell (p:=⟨w.heap.size,8,none⟩) (by have:=HS2.out;omega)).trans hk8;have HB3:=mh (bstep mle HB2.out hb3);clear hb3))
   go_ret
   exact⟨ret_int HV.out.symm,HA.out⟩
  by_cases c0:ck=0
  ·have CZ:(ck==0)=true:=by rw[c0];rfl
   subst c0
   cases bb
   ·have HV:=mh (O4.out G.out rfl rfl (.inl rfl))
    go_enter Tryz.func28,Tryz.ntmps28
    go_wp2_with (first|(go_at_call 49;(with_reducible refine cmo (NM.out _) ?_);rintro e w1 ⟨rfl,rfl⟩)|(go_at_call 50;(with_reducible refine cmo CK.out ?_);rintro e w2 ⟨rfl,hb2⟩;have HS2:=mh (show w.heap.size<w2.heap.size from nll HA0.out hb2.size);have BK1:=mh (BK.out _ (bstep mle HA.out hb2));have HB2:=mh (bstep mle HA.out hb2);have hk0:=mcell hb2 0;have hk1:=mcell hb2 1;have hk2:=mcell hb2 2;have hk3:=mcell hb2 3;have hk4:=mcell hb2 4;have hk5:=mcell hb2 5;have hk6:=mcell hb2 6;have hk7:=mcell hb2 7;have hk8:=mcell hb2 8;have hk9:=mcell hb2 9;clear hb2)|(go_at_call 51;(with_reducible refine cmo BK1.out ?_);rintro e w3 ⟨rfl,hb3⟩;have hj0:=(hb3.cell (p:=⟨w.heap.size,0,none⟩) (by have:=HS2.out;omega)).trans hk0;have hj8:=(hb3.cell (p:=⟨w.heap.size,8,none⟩) (by have:=HS2.out;omega)).trans hk8;have HB3:=mh (bstep mle HB2.out hb3);clear hb3))
    go_ret
    exact⟨ret_int HV.out.symm,HB3.out⟩
   by_cases e1:ex<0
   ·have HV:=mh (O4.out G.out rfl rfl (.inr (.inl e1)))
    go_enter Tryz.func28,Tryz.ntmps28
    go_wp2_with (first|(go_at_call 49;(with_reducible refine cmo (NM.out _) ?_);rintro e w1 ⟨rfl,rfl⟩)|(go_at_call 50;(with_reducible refine cmo CK.out ?_);rintro e w2 ⟨rfl,hb2⟩;have HS2:=mh (show w.heap.size<w2.heap.size from nll HA0.out hb2.size);have BK1:=mh (BK.out _ (bstep mle HA.out hb2));have HB2:=mh (bstep mle HA.out hb2);have hk0:=mcell hb2 0;have hk1:=mcell hb2 1;have hk2:=mcell hb2 2;have hk3:=mcell hb2 3;have hk4:=mcell hb2 4;have hk5:=mcell hb2 5;have hk6:=mcell hb2 6;have hk7:=mcell hb2 7;have hk8:=mcell hb2 8;have hk9:=mcell hb2 9;clear hb2)|(go_at_call 51;(with_reducible refine cmo BK1.out ?_);rintro e w3 ⟨rfl,hb3⟩;have hj0:=(hb3.cell (p:=⟨w.heap.size,0,none⟩) (by have:=HS2.out;omega)).trans hk0;have hj8:=(hb3.cell (p:=⟨w.heap.size,8,none⟩) (by have:=HS2.out;omega)).trans hk8;have HB3:=mh (bstep mle HB2.out hb3);clear hb3))
    go_ret
    exact⟨ret_int HV.out.symm,HB3.out⟩
   by_cases e2:65536≤ex
   ·have HV:=mh (O4.out G.out rfl rfl (.inr (.inr (.inl e2))))
    go_enter Tryz.func28,Tryz.ntmps28
    go_wp2_with (first|(go_at_call 49;(with_reducible refine cmo (NM.out _) ?_);rintro e w1 ⟨rfl,rfl⟩)|(go_at_call 50;(with_reducible refine cmo CK.out ?_);rintro e w2 ⟨rfl,hb2⟩;have HS2:=mh (show w.heap.size<w2.heap.size from nll HA0.out hb2.size);have BK1:=mh (BK.out _ (bstep mle HA.out hb2));have HB2:=mh (bstep mle HA.out hb2);have hk0:=mcell hb2 0;have hk1:=mcell hb2 1;have hk2:=mcell hb2 2;have hk3:=mcell hb2 3;have hk4:=mcell hb2 4;have hk5:=mcell hb2 5;have hk6:=mcell hb2 6;have hk7:=mcell hb2 7;have hk8:=mcell hb2 8;have hk9:=mcell hb2 9;clear hb2)|(go_at_call 51;(with_reducible refine cmo BK1.out ?_);rintro e w3 ⟨rfl,hb3⟩;have hj0:=(hb3.cell (p:=⟨w.heap.size,0,none⟩) (by have:=HS2.out;omega)).trans hk0;have hj8:=(hb3.cell (p:=⟨w.heap.size,8,none⟩) (by have:=HS2.out;omega)).trans hk8;have HB3:=mh (bstep mle HB2.out hb3);clear hb3))
    go_ret
    exact⟨ret_int HV.out.symm,HB3.out⟩
   cases bit
   ·have HV:=mh (O5.out G.out rfl rfl (by simp;omega))
    go_enter Tryz.func28,Tryz.ntmps28
    go_wp2_with (first|(go_at_call 49;(with_reducible refine cmo (NM.out _) ?_);rintro e w1 ⟨rfl,rfl⟩)|(go_at_call 50;(with_reducible refine cmo CK.out ?_);rintro e w2 ⟨rfl,hb2⟩;have HS2:=mh (show w.heap.size<w2.heap.size from nll HA0.out hb2.size);have BK1:=mh (BK.out _ (bstep mle HA.out hb2));have HB2:=mh (bstep mle HA.out hb2);have hk0:=mcell hb2 0;have hk1:=mcell hb2 1;have hk2:=mcell hb2 2;have hk3:=mcell hb2 3;have hk4:=mcell hb2 4;have hk5:=mcell hb2 5;have hk6:=mcell hb2 6;have hk7:=mcell hb2 7;have hk8:=mcell hb2 8;have hk9:=mcell hb2 9;clear hb2)|(go_at_call 51;(with_reducible refine cmo BK1.out ?_);rintro e w3 ⟨rfl,hb3⟩;have hj0:=(hb3.cell (p:=⟨w.heap.size,0,none⟩) (by have:=HS2.out;omega)).trans hk0;have hj8:=(hb3.cell (p:=⟨w.heap.size,8,none⟩) (by have:=HS2.out;omega)).trans hk8;have HB3:=mh (bstep mle HB2.out hb3);clear hb3))
    go_ret
    exact⟨ret_int HV.out.symm,HB3.out⟩
   ·have HV:=mh (O4.out G.out rfl rfl (.inr (.inr (.inr rfl))))
    go_enter Tryz.func28,Tryz.ntmps28
    go_wp2_with (first|(go_at_call 49;(with_reducible refine cmo (NM.out _) ?_);rintro e w1 ⟨rfl,rfl⟩)|(go_at_call 50;(with_reducible refine cmo CK.out ?_);rintro e w2 ⟨rfl,hb2⟩;have HS2:=mh (show w.heap.size<w2.heap.size from nll HA0.out hb2.size);have BK1:=mh (BK.out _ (bstep mle HA.out hb2));have HB2:=mh (bstep mle HA.out hb2);have hk0:=mcell hb2 0;have hk1:=mcell hb2 1;have hk2:=mcell hb2 2;have hk3:=mcell hb2 3;have hk4:=mcell hb2 4;have hk5:=mcell hb2 5;have hk6:=mcell hb2 6;have hk7:=mcell hb2 7;have hk8:=mcell hb2 8;have hk9:=mcell hb2 9;clear hb2)|(go_at_call 51;(with_reducible refine cmo BK1.out ?_);rintro e w3 ⟨rfl,hb3⟩;have hj0:=(hb3.cell (p:=⟨w.heap.size,0,none⟩) (by have:=HS2.out;omega)).trans hk0;have hj8:=(hb3.cell (p:=⟨w.heap.size,8,none⟩) (by have:=HS2.out;omega)).trans hk8;have HB3:=mh (bstep mle HB2.out hb3);clear hb3))
    go_ret
    exact⟨ret_int HV.out.symm,HB3.out⟩
  ·have HV:=mh (O3.out G.out rfl c0)
   go_enter Tryz.func28,Tryz.ntmps28
   go_wp2_with (first|(go_at_call 49;(with_reducible refine cmo (NM.out _) ?_);rintro e w1 ⟨rfl,rfl⟩)|(go_at_call 50;(with_reducible refine cmo CK.out ?_);rintro e w2 ⟨rfl,hb2⟩;have HS2:=mh (show w.heap.size<w2.heap.size from nll HA0.out hb2.size);have BK1:=mh (BK.out _ (bstep mle HA.out hb2));have HB2:=mh (bstep mle HA.out hb2);have hk0:=mcell hb2 0;have hk1:=mcell hb2 1;have hk2:=mcell hb2 2;have hk3:=mcell hb2 3;have hk4:=mcell hb2 4;have hk5:=mcell hb2 5;have hk6:=mcell hb2 6;have hk7:=mcell hb2 7;have hk8:=mcell hb2 8;have hk9:=mcell hb2 9;clear hb2)|(go_at_call 51;(with_reducible refine cmo BK1.out ?_);rintro e w3 ⟨rfl,hb3⟩;have hj0:=(hb3.cell (p:=⟨w.heap.size,0,none⟩) (by have:=HS2.out;omega)).trans hk0;have hj8:=(hb3.cell (p:=⟨w.heap.size,8,none⟩) (by have:=HS2.out;omega)).trans hk8;have HB3:=mh (bstep mle HB2.out hb3);clear hb3))
   go_ret
   exact⟨ret_int HV.out.symm,HB2.out⟩
def idx (pr:Sch→Bool) (L:List Sch):Int:=match L.findIdx? pr with|some i=>(i:Int)|none => -1
def numIs (q:Int) (s:Sch):Bool:=s.num==q
def nmIs (q:ByteArray) (s:Sch):Bool:=s.nm.data.toList==q.data.toList
theorem find_idx (L:List Sch)(n:Int):find17 L n=idx (numIs n) L:=rfl
theorem idx_none {pr:Sch→Bool}{L:List Sch}(h:∀j (hj:j<L.length),pr L[j]=false):idx pr L = -1:=by
 unfold idx
 rw[show L.findIdx? pr=none from List.findIdx?_eq_none_iff.2 fun x hx=>by
  obtain⟨j,hj,rfl⟩:=List.mem_iff_getElem.1 hx
  exact h j hj]
theorem idx_at {pr:Sch→Bool}{L:List Sch}{k:Nat}(hk:k<L.length)(h:∀j (hj:j<L.length),j<k→pr L[j]=false)(h2:pr L[k]=true):idx pr L=(k:Int):=by
 unfold idx;rw[show L.findIdx? pr=some k from List.findIdx?_eq_some_iff_getElem.2 ⟨hk,h2,fun j hj=>by rw[h j (by omega) hj];decide⟩]
theorem idx_any (pr:Sch→Bool)(L:List Sch):decide (0≤idx pr L)=L.any pr:=by
 unfold idx
 cases h:L.findIdx? pr with
 | none =>
   have h1:=List.findIdx?_eq_none_iff.1 h;have h2:L.any pr=false:=by
    rw[Bool.eq_false_iff];intro h3;obtain⟨x,hx,hp⟩:=List.any_eq_true.1 h3;rw[h1 x hx]at hp
    cases hp
   rw[h2];rfl
 | some k =>
   obtain⟨hk,h1, -⟩:=List.findIdx?_eq_some_iff_getElem.1 h;rw[show L.any pr=true from List.any_eq_true.2 ⟨L[k],List.getElem_mem hk,h1⟩]
   simp
theorem idx_ge (pr:Sch→Bool)(L:List Sch) : -1≤idx pr L∧idx pr L<(L.length:Int):=by
 unfold idx
 cases h:L.findIdx? pr with
 | none=>simp;omega
 | some k =>
   obtain⟨hk, -, -⟩:=List.findIdx?_eq_some_iff_getElem.1 h;simp only;omega
theorem bytes_eq (a b:ByteArray):(a.toList==b.toList)=(a.data.toList==b.data.toList):=by
 rw[ByteArray.toList_eq,ByteArray.toList_eq]
theorem nump_any {Q:Nat→Prop}(d:Nat)(r:RSx)(s:Sch)(nb:Nat)(q:Int)(w:World)(h:SV Q w d r s)(hc:w.cell? ⟨nb,0,none⟩=some (I O q))(hl:nb<w.heap.size) :
  Calls Tryz.prog 37 #[.agg #[I O r.num,.string r.nm,I O r.t.op,I O r.t.num,I O r.t.more,.slice r.t.p r.t.n r.t.c,.slice r.bp r.bn r.bc,I O r.least,I O r.ex,.bool r.needs],.pointer (some ⟨nb,0,none⟩)] w (BoolG ((numIs q) s) w):=by
 have HP:=mh (show(r.num==q)=(numIs q) s from by rw[h.num];rfl);clear h;obtain⟨num,nm,⟨o,tn,tm,tp,tl,tc⟩,bp,bn,bc,least,ex,needs⟩:=r
 go_enter Tryz.func37,Tryz.ntmps37
 go_wp2
 go_ret
 exact⟨ret_bool HP.out,(brf _ _).alloc mle _⟩
theorem indexnum_any {Q:Nat→Prop}(d:Nat)(p:Option Addr)(L:List Sch)(cap nb:Nat)(q:Int)(w:World)(h:SsAt Q w d p L)(hc:w.cell? ⟨nb,0,none⟩=some (I O q))(hl:nb<w.heap.size) :
  Calls Tryz.prog 36 #[.slice p L.length cap,.func (.func 37) #[] #[.pointer (some ⟨nb,0,none⟩)]] w (IntG (idx (numIs q) L) w):=by
 have hn:=h.len;have H:=mh h;have HC:=mh hc;clear h hc
 go_enter Tryz.func36,Tryz.ntmps36
 go_wp2
 go_loopw [8] (fun i wr=>∃k:Nat,k≤L.length∧i=I O k∧(∀j (hj:j<L.length),j<k→(numIs q) L[j]=false)∧Below w.heap.size w wr) (fun i _=>L.length - (intOf i).toNat)
 case atStart=>exact⟨0,Nat.zero_le _,rfl,fun j hj hk=>absurd hk (Nat.not_lt_zero j),brf _ _⟩
 case round =>
  obtain⟨k,hk,rfl,hall,hb⟩:=hrel;have HA:=mh hall;have HB:=mh hb;have hsz:=hb.size;have hk0:(0:Int)≤(k:Int):=inn _
  by_cases hlt:k<L.length
  ·obtain⟨b,off,r,rfl,hbl,hC,hv⟩:=(H.out.below hb).at hlt
   have CE:=mh (nump_any d r L[k] nb q wr hv ((hb.cell (p:=⟨nb,0,none⟩) hl).trans HC.out) (by omega));have hk1:(k:Int)<(L.length:Int):=by omega
   obtain⟨z,ez⟩:∃z,(numIs q) L[k]=z:=⟨_,rfl⟩;have HZ:=mh ez;rw[ez]at CE;obtain⟨c0,c1,c2,c3,c4,c5,c6,c7,c8,c9⟩:=hC;obtain⟨num,nm,⟨o,tn,tm,tp,tl,tc⟩,bp,bn,bc,least,ex,needs⟩:=r;simp only at c0 c1 c2 c3 c4 c5 c6 c7 c8 c9 CE;clear hall hb hv ez
   cases z
   ·go_wp2_with (first|(go_at_call 37;(with_reducible refine cmo CE.out ?_);rintro e w1 ⟨rfl,hb1⟩))
    go_roundw
    case rel=>exact⟨k+1,by omega,by go_num,fun j hj hjk=>by
     by_cases e:j=k
     ·subst e;exact HZ.out
     ·exact HA.out j hj (by omega),bstep mle HB.out hb1⟩
    case measure=>simp[intOf];omega
   ·have HN:=mh (idx_at (pr:=numIs q) hlt HA.out HZ.out)
    go_wp2_with (first|(go_at_call 37;(with_reducible refine cmo CE.out ?_);rintro e w1 ⟨rfl,hb1⟩))
    go_ret
    exact⟨by rw[HN.out];rfl,bstep mle HB.out hb1⟩
  ·obtain rfl:k=L.length:=by omega
   have HN:=mh (idx_none (pr:=numIs q) (fun j hj=>HA.out j hj hj));clear hall hb
   go_wp2
   go_ret
   exact⟨by rw[HN.out];rfl,HB.out⟩
theorem find17_any {Q:Nat→Prop}(d:Nat)(p:Option Addr)(L:List Sch)(cap:Nat)(q:Int)(w:World)(h:SsAt Q w d p L):Calls Tryz.prog 13 #[.slice p L.length cap,I O q] w (IntG (find17 L q) w):=by
 have hb:Below w.heap.size w (w.alloc (.cells #[I O q] 3)):=(brf _ _).alloc mle _;have HX:=mh (indexnum_any d p L cap w.heap.size q (w.alloc (.cells #[I O q] 3)) (h.below hb) (cwn w #[I O q] 3 0) (by simp));have HB:=mh hb;rw[find_idx];clear hb h
 go_enter Tryz.func13,Tryz.ntmps13
 go_wp2_with (first|(go_at_call 36;(with_reducible refine cmo HX.out ?_);rintro e w1 ⟨rfl,hb1⟩))
 go_ret
 exact⟨rfl,HB.out.trans (hb1.mono HB.out.size)⟩
theorem namep_any {Q:Nat→Prop}(d:Nat)(r:RSx)(s:Sch)(nb:Nat)(q:ByteArray)(w:World)(h:SV Q w d r s)(hc:w.cell? ⟨nb,1,none⟩=some (.string q))(hl:nb<w.heap.size) :
  Calls Tryz.prog 30 #[.agg #[I O r.num,.string r.nm,I O r.t.op,I O r.t.num,I O r.t.more,.slice r.t.p r.t.n r.t.c,.slice r.bp r.bn r.bc,I O r.least,I O r.ex,.bool r.needs],.pointer (some ⟨nb,0,none⟩)] w (BoolG ((nmIs q) s) w):=by
 have HP:=mh (show(r.nm.toList==q.toList)=(nmIs q) s from by rw[h.nm,bytes_eq];rfl);clear h;obtain⟨num,nm,⟨o,tn,tm,tp,tl,tc⟩,bp,bn,bc,least,ex,needs⟩:=r
 go_enter Tryz.func30,Tryz.ntmps30
 go_wp2
 go_ret
 exact⟨ret_bool HP.out,(brf _ _).alloc mle _⟩
theorem indexname_any {Q:Nat→Prop}(d:Nat)(p:Option Addr)(L:List Sch)(cap nb:Nat)(q:ByteArray)(w:World)(h:SsAt Q w d p L)(hc:w.cell? ⟨nb,1,none⟩=some (.string q))(hl:nb<w.heap.size) :
  Calls Tryz.prog 36 #[.slice p L.length cap,.func (.func 30) #[] #[.pointer (some ⟨nb,0,none⟩)]] w (IntG (idx (nmIs q) L) w):=by
 have hn:=h.len;have H:=mh h;have HC:=mh hc;clear h hc
 go_enter Tryz.func36,Tryz.ntmps36
 go_wp2
 go_loopw [8] (fun i wr=>∃k:Nat,k≤L.length∧i=I O k∧(∀j (hj:j<L.length),j<k→(nmIs q) L[j]=false)∧Below w.heap.size w wr) (fun i _=>L.length - (intOf i).toNat)
 case atStart=>exact⟨0,Nat.zero_le _,rfl,fun j hj hk=>absurd hk (Nat.not_lt_zero j),brf _ _⟩
 case round =>
  obtain⟨k,hk,rfl,hall,hb⟩:=hrel;have HA:=mh hall;have HB:=mh hb;have hsz:=hb.size;have hk0:(0:Int)≤(k:Int):=inn _
  by_cases hlt:k<L.length
  ·obtain⟨b,off,r,rfl,hbl,hC,hv⟩:=(H.out.below hb).at hlt
   have CE:=mh (namep_any d r L[k] nb q wr hv ((hb.cell (p:=⟨nb,1,none⟩) hl).trans HC.out) (by omega));have hk1:(k:Int)<(L.length:Int):=by omega
   obtain⟨z,ez⟩:∃z,(nmIs q) L[k]=z:=⟨_,rfl⟩;have HZ:=mh ez;rw[ez]at CE;obtain⟨c0,c1,c2,c3,c4,c5,c6,c7,c8,c9⟩:=hC;obtain⟨num,nm,⟨o,tn,tm,tp,tl,tc⟩,bp,bn,bc,least,ex,needs⟩:=r;simp only at c0 c1 c2 c3 c4 c5 c6 c7 c8 c9 CE;clear hall hb hv ez
   cases z
   ·go_wp2_with (first|(go_at_call 30;(with_reducible refine cmo CE.out ?_);rintro e w1 ⟨rfl,hb1⟩))
    go_roundw
    case rel=>exact⟨k+1,by omega,by go_num,fun j hj hjk=>by
     by_cases e:j=k
     ·subst e;exact HZ.out
     ·exact HA.out j hj (by omega),bstep mle HB.out hb1⟩
    case measure=>simp[intOf];omega
   ·have HN:=mh (idx_at (pr:=nmIs q) hlt HA.out HZ.out)
    go_wp2_with (first|(go_at_call 30;(with_reducible refine cmo CE.out ?_);rintro e w1 ⟨rfl,hb1⟩))
    go_ret
    exact⟨by rw[HN.out];rfl,bstep mle HB.out hb1⟩
  ·obtain rfl:k=L.length:=by omega
   have HN:=mh (idx_none (pr:=nmIs q) (fun j hj=>HA.out j hj hj));clear hall hb
   go_wp2
   go_ret
   exact⟨by rw[HN.out];rfl,HB.out⟩
theorem containsname_any {Q:Nat→Prop}(d:Nat)(p:Option Addr)(L:List Sch)(cap nb:Nat)(q:ByteArray)(w:World)(h:SsAt Q w d p L)(hc:w.cell? ⟨nb,1,none⟩=some (.string q))(hl:nb<w.heap.size) :
  Calls Tryz.prog 29 #[.slice p L.length cap,.func (.func 30) #[] #[.pointer (some ⟨nb,0,none⟩)]] w (BoolG (L.any (nmIs q)) w):=by
 have CI:=mh (indexname_any d p L cap nb q w h hc hl);have HV:=mh (idx_any (nmIs q) L);obtain⟨i,ei⟩:∃i,idx (nmIs q) L=i:=⟨_,rfl⟩;rw[ei]at CI HV;clear ei h hc
 go_enter Tryz.func29,Tryz.ntmps29
 go_wp2_with (first|(go_at_call 36;(with_reducible refine cmo CI.out ?_);rintro e w1 ⟨rfl,hb⟩))
 go_ret
 exact⟨ret_bool HV.out,hb⟩
theorem reffind17_any {Q:Nat→Prop}(d:Nat)(p:Option Addr)(L:List Sch)(cap:Nat)(q:Int)(w:World)(h:SsAt Q w d p L):Calls Tryz.prog 15 #[.slice p L.length cap,I O q] w (IntG (find17 L q) w):=by
 have hn:=h.len;have H:=mh h;rw[find_idx];clear h
 go_enter Tryz.func15,Tryz.ntmps15
 go_wp2
 go_loopw [9] (fun i wr=>∃k:Nat,k≤L.length∧i=I O k∧(∀j (hj:j<L.length),j<k→numIs q L[j]=false)∧Below w.heap.size w wr) (fun i _=>L.length - (intOf i).toNat)
 case atStart=>exact⟨0,Nat.zero_le _,rfl,fun j hj hk=>absurd hk (Nat.not_lt_zero j),brf _ _⟩
 case round =>
  obtain⟨k,hk,rfl,hall,hb⟩:=hrel;have HA:=mh hall;have HB:=mh hb;have hk0:(0:Int)≤(k:Int):=inn _
  by_cases hlt:k<L.length
  ·obtain⟨b,off,r,rfl,hbl,hC,hv⟩:=(H.out.below hb).at hlt
   have hk1:(k:Int)<(L.length:Int):=by omega
   have HQ:=mh hv.num;obtain⟨c0,c1,c2,c3,c4,c5,c6,c7,c8,c9⟩:=hC;obtain⟨num,nm,⟨o,tn,tm,tp,tl,tc⟩,bp,bn,bc,least,ex,needs⟩:=r;simp only at c0 c1 c2 c3 c4 c5 c6 c7 c8 c9 HQ;clear hall hb hv;have HB1:=mh (balloc mle HB.out (.cells #[I O num,.string nm,I O o,I O tn,I O tm,.slice tp tl tc,.slice bp bn bc,I O least,I O ex,.bool needs] 31))
   by_cases e1:num=q
   ·have HN:=mh (idx_at (pr:=numIs q) hlt HA.out (by unfold numIs;rw[← HQ.out];exact beq_iff_eq.2 e1))
    subst e1
    go_wp2
    go_ret
    exact⟨by rw[HN.out];rfl,HB1.out⟩
   ·have HZ:=mh (show numIs q L[k]=false by unfold numIs;rw[← HQ.out];exact beq_false_of_ne e1)
    go_wp2
    go_roundw
    case rel=>exact⟨k+1,by omega,by go_num,fun j hj hjk=>by
     by_cases e:j=k
     ·subst e;exact HZ.out
     ·exact HA.out j hj (by omega),HB1.out⟩
    case measure=>simp[intOf];omega
  ·obtain rfl:k=L.length:=by omega
   have HN:=mh (idx_none (pr:=numIs q) (fun j hj=>HA.out j hj hj));clear hall hb
   go_wp2
   go_ret
   exact⟨by rw[HN.out];rfl,HB.out⟩
theorem find17_neg {L:List Sch}{n:Int}(h:find17 L n<0):(L.find? fun x=>x.num==n)=none:=by
 unfold find17 at h
 cases e:L.findIdx? fun s=>s.num==n with
 | none =>
   rw[List.find?_eq_none];intro x hx;rw[List.findIdx?_eq_none_iff.1 e x hx]
   decide
 | some k=>rw[e]at h;simp only at h;omega
theorem find17_pos {L:List Sch}{n:Int}{k:Nat}(h:find17 L n=(k:Int)):∃hk:k<L.length,(L.find? fun x=>x.num==n)=some L[k]:=by
 unfold find17 at h
 cases e:L.findIdx? fun s=>s.num==n with
 | none=>rw[e]at h;simp only at h;omega
 | some j =>
   rw[e]at h;simp only at h;obtain rfl:j=k:=by omega
   obtain⟨hk,h1,h2⟩:=List.findIdx?_eq_some_iff_getElem.1 e;refine⟨hk,List.find?_eq_some_iff_getElem.2 ⟨h1,j,hk,rfl,fun i hi=>?_⟩⟩;have:=h2 i hi
   simpa using this
theorem find17_ge (L:List Sch)(n:Int) : -1≤find17 L n∧find17 L n<(L.length:Int):=idx_ge _ L
theorem mut_bad {L:List Sch}{s:Sch}{k:Nat}(hk:k<16)(h:mutN L s k=false):mutual17 L s=false:=by
 unfold mutual17;rw[Bool.eq_false_iff];intro h2;rw[List.all_eq_true]at h2;rw[h2 k (List.mem_range.2 hk)]at h
 cases h
theorem mut_zero {L:List Sch}{s:Sch}{k:Nat}(h:bitB s.ex k=false):mutN L s k=true:=by unfold mutN;rw[if_pos h]
theorem mut_none {L:List Sch}{s:Sch}{k:Nat}(h:bitB s.ex k=true)(h2:find17 L k<0):mutN L s k=false:=by
 unfold mutN;rw[if_neg (by rw[h];decide),find17_neg h2]
theorem mut_some {L:List Sch}{s:Sch}{k j:Nat}(h:bitB s.ex k=true)(h2:find17 L k=(j:Int))(hj:j<L.length):mutN L s k=bitB L[j].ex s.num:=by
 obtain⟨_,e⟩:=find17_pos h2;unfold mutN;rw[if_neg (by rw[h];decide),e]
theorem all_range_succ (f:Nat→Bool)(k:Nat):(List.range (k+1)).all f=((List.range k).all f&&f k):=by
 rw[List.range_succ,List.all_append];simp
theorem mutual_any {Q:Nat→Prop}(d:Nat)(p:Option Addr)(L:List Sch)(cap:Nat)(r:RSx)(s:Sch)(w:World)(h:SsAt Q w d p L)(hn:r.num=s.num)(he:r.ex=s.ex)(h0:0≤r.num)(h15:r.num≤15) :
  Calls Tryz.prog 31 #[.slice p L.length cap,.agg #[I O r.num,.string r.nm,I O r.t.op,I O r.t.num,I O r.t.more,.slice r.t.p r.t.n r.t.c,.slice r.bp r.bn r.bc,I O r.least,I O r.ex,.bool r.needs]] w (BoolG (mutual17 L s) w):=by
 have hlen:=h.len;have H:=mh h;have HN:=mh hn;have HE:=mh he;clear h hn he;obtain⟨num,nm,⟨o,tn,tm,tp,tl,tc⟩,bp,bn,bc,least,ex,needs⟩:=r;simp only at h0 h15 HN HE;have HA:=mh (show Below w.heap.size w (w.alloc (.cells #[I O num,.string nm,I O o,I O tn,I O tm,.slice tp tl tc,.slice bp bn bc,I O least,I O ex,.bool needs] 31)) from(brf _ _).alloc mle _);have HAs:=mh (show(w.alloc (.cells #[I O num,.string nm,I O o,I O tn,I O tm,.slice tp tl tc,.slice bp bn bc,I O least,I O ex,.bool needs] 31)).heap.size=w.heap.size+1 by simp)
 go_enter Tryz.func31,Tryz.ntmps31
 go_wp2
 go_loopw [7] (fun i wr=>∃k:Nat,k≤16∧i=I O k∧(List.range k).all (mutN L s)=true∧Below (w.heap.size+1) (w.alloc (.cells #[I O num,.string nm,I O o,I O tn,I O tm,.slice tp tl tc,.slice bp bn bc,I O least,I O ex,.bool needs] 31)) wr) (fun i _=>16 - (intOf i).toNat)
 case atStart=>exact⟨0,Nat.zero_le _,rfl,rfl,brf _ _⟩
 case round =>
  obtain⟨wo,rfl⟩:∃wo:World,wo=wr:=⟨_,rfl⟩;obtain⟨k,hk,rfl,ha,hb⟩:=hrel;have HAL:=mh ha;have HB:=mh hb;have HBW:=mh (show Below w.heap.size w wo from HA.out.trans (hb.mono (by omega)));have hk0:=mcell hb 0;have hk8:=mcell hb 8;have HSZ:=mh (show w.heap.size+1≤wo.heap.size from HAs.out▸hb.size);obtain⟨i,ei⟩:∃i:Int,(k:Int)=i:=⟨_,rfl⟩;have EI:=mh ei;have hi0:(0:Int)≤i:=by omega
  rw[ei]
  by_cases hlt:k<16
  ·have hi1:i<16:=by omega
   cases eb:bitB ex i
   ·have EB:(bits BinOp.and IntKind.i64 (ex / 2 ^ i.toNat) 1==0)=true:=by rw[bit_zero,eb];rfl
    have HM:=mh (show(List.range (k+1)).all (mutN L s)=true by rw[all_range_succ,HAL.out,mut_zero (by rw[← HE.out,EI.out];exact eb)];rfl);clear ha hb eb ei
    go_wp2
    go_roundw
    case rel=>exact⟨k+1,by omega,by rw[← EI.out];go_num,HM.out,HB.out⟩
    case measure=>rw[← EI.out];simp[intOf];omega
   ·have EB:(bits BinOp.and IntKind.i64 (ex / 2 ^ i.toNat) 1==0)=false:=by rw[bit_zero,eb];rfl
    have EBH:=mh (show bitB s.ex k=true by rw[← HE.out,EI.out];exact eb);have CF:=mh (find17_any d p L cap i wo (H.out.below HBW.out));have FG:=mh (find17_ge L i);obtain⟨f,ef⟩:∃f,find17 L i=f:=⟨_,rfl⟩;rw[ef]at CF FG;have EF:=mh (show find17 L k=f by rw[EI.out];exact ef);clear ha hb eb ei ef
    rcases Int.lt_or_le f 0 with hf|hf
    ·have HV:=mh (mut_bad hlt (mut_none EBH.out (by rw[EF.out];exact hf)))
     have d1:decide (f<0)=true:=dqt hf;clear hf
     go_wp2_with (first|(go_at_call 13;(with_reducible refine cmo CF.out ?_);rintro e w1 ⟨rfl,hb1⟩;have HB1:=mh (bstep mle HBW.out hb1);clear hb1))
     go_quiet (fail)
     go_wp2
     go_ret
     exact⟨ret_bool HV.out.symm,HB1.out.trans ((drewN_below _ _).mono HB1.out.size)⟩
    ·have d1:decide (f<0)=false:=by rw[decide_eq_false_iff_not];omega
     obtain⟨j,rfl⟩:=Int.eq_ofNat_of_zero_le hf;have hj:j<L.length:=by have:=FG.out;omega
     have MS:=mh (mut_some EBH.out EF.out hj);obtain⟨b,off,x,rfl,hbl,hC,hv⟩:=(H.out.below HBW.out).at hj;have C8:=mh hC.c8;have hxe:=hv.ex;have hj0' : (0:Int)≤(j:Int):=inn _;have hj1' : (j:Int)<(L.length:Int):=by omega
     obtain⟨xe,exe⟩:∃xe,x.ex=xe:=⟨_,rfl⟩;rw[exe]at C8 hxe;have EN:=HN.out
     cases eb2:bitB xe num
     ·have EB2:(bits BinOp.and IntKind.i64 (xe / 2 ^ num.toNat) 1==0)=true:=by rw[bit_zero,eb2];rfl
      have HV:=mh (mut_bad hlt (by rw[MS.out,← hxe,← EN];exact eb2));clear hf hC hv eb2 hxe exe EN
      go_wp2_with (first|(go_at_call 13;(with_reducible refine cmo CF.out ?_);rintro e w1 ⟨rfl,hb1⟩;have HB1:=mh (bstep mle HBW.out hb1);have HB2:=mh (show Below (w.heap.size+1) (w.alloc (.cells #[I O num,.string nm,I O o,I O tn,I O tm,.slice tp tl tc,.slice bp bn bc,I O least,I O ex,.bool needs] 31)) w1 from HB.out.trans (hb1.mono HSZ.out));have hj0:=(hb1.cell (p:=⟨w.heap.size,0,none⟩) HSZ.out).trans hk0;have hx8:=(hb1.cell (p:=⟨b,off+j*10+8,none⟩) hbl).trans C8.out;clear hb1))
      go_quiet (fail)
      go_wp2
      go_ret
      exact⟨ret_bool HV.out.symm,HB1.out.trans ((drewN_below _ _).mono HB1.out.size)⟩
     ·have EB2:(bits BinOp.and IntKind.i64 (xe / 2 ^ num.toNat) 1==0)=false:=by rw[bit_zero,eb2];rfl
      have HM:=mh (show(List.range (k+1)).all (mutN L s)=true by rw[all_range_succ,HAL.out,MS.out,← hxe,← EN,eb2];rfl);clear hf hC hv eb2 hxe exe EN
      go_wp2_with (first|(go_at_call 13;(with_reducible refine cmo CF.out ?_);rintro e w1 ⟨rfl,hb1⟩;have HB1:=mh (bstep mle HBW.out hb1);have HB2:=mh (show Below (w.heap.size+1) (w.alloc (.cells #[I O num,.string nm,I O o,I O tn,I O tm,.slice tp tl tc,.slice bp bn bc,I O least,I O ex,.bool needs] 31)) w1 from HB.out.trans (hb1.mono HSZ.out));have hj0:=(hb1.cell (p:=⟨w.heap.size,0,none⟩) HSZ.out).trans hk0;have hx8:=(hb1.cell (p:=⟨b,off+j*10+8,none⟩) hbl).trans C8.out;clear hb1))
      go_quiet (fail)
      go_wp2
      go_roundw
      case rel=>exact⟨k+1,by omega,by rw[← EI.out];go_num,HM.out,HB2.out.trans ((drewN_below _ _).mono (by have:=HB2.out.size;have:=HAs.out;omega))⟩
      case measure=>rw[← EI.out];simp[intOf];omega
  ·obtain rfl:k=16:=by omega
   have HV:=mh (show mutual17 L s=true from ha);have hi1:i=16:=ei.symm;clear ha hb ei;subst hi1
   go_wp2
   go_ret
   exact⟨ret_bool HV.out.symm,HBW.out⟩
end Go.Proofs.YtbcmabolkkfgfaaGreatDoor
