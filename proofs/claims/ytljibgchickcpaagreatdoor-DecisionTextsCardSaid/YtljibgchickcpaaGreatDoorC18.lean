/- Packed. -/
import Derived.Test.YtljibgchickcpaaGreatDoorC10
import Derived.Test.YtljibgchickcpaaGreatDoorC12
set_option maxRecDepth 100000
set_option maxHeartbeats 8000000
open Go.Value renaming int → I
open Go.IntKind renaming i64 → O
namespace Go.Proofs.YtljibgchickcpaaGreatDoor
open Go.RowKit Sc As
namespace Dn
structure Dec where
 year:Int
 farm:Int
 ver:Int
 aw:List Awd
 rs:List Rsn
def Dec.none:Dec:=⟨0,0,0, [], []⟩
def inR (n a b:Int):Bool:=decide (a≤n)&&decide (n≤b)
def named (y f v:Int):Bool:=inR y 0 100&&inR f 1 60&&inR v 1 99
def num (y f v:Int):Int:=if named y f v=true then (y*61+f)*100+v else 0
def fallB:Int→List Int→Bool
 | _, []=>true
 | m,x::r=>inR x 0 m&&fallB x r
def awB (a:Awd) (farm:Int):Bool:=decide (a.farm=farm)&&inR a.scheme 0 15&&fallB 268435456 [a.decl,a.det,a.paid]&&fallB 68719476736 [a.rated,a.timely,a.capped,a.due]
def behindB (a b:Rsn):Bool:=decide (b.line<a.line)||(decide (a.line=b.line)&&decide (b.scheme<a.scheme))
def prevA (D:Dec) (a:Awd):Nat→Bool
 | 0=>true
 | j+1=>match D.aw[j]? with|some p=>decide (p.scheme<a.scheme)|none=>true
def prevR (D:Dec) (r:Rsn):Nat→Bool
 | 0=>true
 | j+1=>match D.rs[j]? with|some p=>behindB r p|none=>true
def awAt (D:Dec) (k:Nat):Bool:=match D.aw[k]? with
 | some a=>awB a D.farm&&prevA D a k
 | none=>true
def rsAt (D:Dec) (k:Nat):Bool:=match D.rs[k]? with
 | some r=>inR r.line 0 19&&inR r.kind 1 6&&prevR D r k&&D.aw.any fun a=>decide (a.scheme=r.scheme)
 | none=>true
theorem awAt_some {D:Dec}{k:Nat}(h:k<D.aw.length):awAt D k=(awB D.aw[k] D.farm&&prevA D D.aw[k] k):=by unfold awAt;rw[List.getElem?_eq_getElem h]
theorem rsAt_some {D:Dec}{k:Nat}(h:k<D.rs.length):rsAt D k=(inR D.rs[k].line 0 19&&inR D.rs[k].kind 1 6&&prevR D D.rs[k] k&&D.aw.any fun a=>decide (a.scheme=D.rs[k].scheme)):=by unfold rsAt;rw[List.getElem?_eq_getElem h]
theorem prevA_succ {D:Dec}{a:Awd}{j:Nat}(h:j<D.aw.length):prevA D a (j+1)=decide (D.aw[j].scheme<a.scheme):=by show(match D.aw[j]? with|some p=>decide (p.scheme<a.scheme)|none=>true)=_;rw[List.getElem?_eq_getElem h]
theorem prevR_succ {D:Dec}{r:Rsn}{j:Nat}(h:j<D.rs.length):prevR D r (j+1)=behindB r D.rs[j]:=by show(match D.rs[j]? with|some p=>behindB r p|none=>true)=_;rw[List.getElem?_eq_getElem h]
def awsB (D:Dec) (n:Nat):Bool:=(List.range n).all (awAt D)
def rssB (D:Dec) (n:Nat):Bool:=(List.range n).all (rsAt D)
def okB (D:Dec):Bool:=named D.year D.farm D.ver&&decide (D.aw.length≤16)&&decide (D.rs.length≤200)&&awsB D D.aw.length&&rssB D D.rs.length
def chk (D:Dec):Int:=if okB D=true then 0 else 76
theorem inR_iff {n a b:Int}:inR n a b=true↔a≤n∧n≤b:=by unfold inR;simp
theorem all_succ {f:Nat→Bool}{n:Nat}:(List.range (n+1)).all f=((List.range n).all f&&f n):=by rw[List.range_succ,List.all_append];simp
theorem awsB_succ (D:Dec)(n:Nat):awsB D (n+1)=(awsB D n&&awAt D n):=all_succ
theorem rssB_succ (D:Dec)(n:Nat):rssB D (n+1)=(rssB D n&&rsAt D n):=all_succ
theorem all_le {f:Nat→Bool}{n k:Nat}(hk:k<n)(h:f k=false):(List.range n).all f=false:=by
 rw[Bool.eq_false_iff];intro e;rw[List.all_eq_true]at e;have:=e k (List.mem_range.2 hk);rw[h]at this
 cases this
theorem chk_aw {D:Dec}{k:Nat}(hk:k<D.aw.length)(h:awAt D k=false):chk D=76:=by
 unfold chk okB awsB;rw[all_le hk h]
 simp
theorem chk_rs {D:Dec}{k:Nat}(hk:k<D.rs.length)(h:rsAt D k=false):chk D=76:=by
 unfold chk okB rssB;rw[all_le hk h]
 simp
theorem chk_named {D:Dec}(h:named D.year D.farm D.ver=false):chk D=76:=by unfold chk okB;rw[h];simp
theorem chk_16 {D:Dec}(h:¬D.aw.length≤16):chk D=76:=by unfold chk okB;simp[h]
theorem chk_200 {D:Dec}(h:¬D.rs.length≤200):chk D=76:=by unfold chk okB;simp[h]
theorem chk_ok {D:Dec}(h1:named D.year D.farm D.ver=true)(h2:D.aw.length≤16)(h3:D.rs.length≤200)(h4:awsB D D.aw.length=true)(h5:rssB D D.rs.length=true):chk D=0:=by
 unfold chk okB;rw[h1,h4,h5];simp[h2,h3]
def rsB (D:Dec):Bool:=rssB D D.rs.length&&decide (D.rs.length≤200)
theorem chk_rsB {D:Dec}(h:rsB D=false):chk D=76:=by
 unfold rsB at h;unfold chk okB
 rcases Bool.and_eq_false_iff.1 h with e|e<;>rw[e]<;>simp
end Dn
structure RD where
 year:Int
 farm:Int
 ver:Int
 ap:Option Addr
 an:Nat
 ac:Nat
 rp:Option Addr
 rn:Nat
 rc:Nat
def dCells (r:RD):List Value := [I O r.year,I O r.farm,I O r.ver,.slice r.ap r.an r.ac,.slice r.rp r.rn r.rc]
structure DV (w:World) (r:RD) (D:Dn.Dec):Prop where
 year:r.year=D.year
 farm:r.farm=D.farm
 ver:r.ver=D.ver
 aw:Recs SA w r.ap D.aw
 an:r.an=D.aw.length
 ac:r.an≤r.ac
 rs:Recs SRn w r.rp D.rs
 rn:r.rn=D.rs.length
 rc:r.rn≤r.rc
 az:r.ap=none→r.ac=0
 rz:r.rp=none→r.rc=0
theorem DV.below {w w' : World}{r:RD}{D:Dn.Dec}(h:DV w r D)(hb:Below w.heap.size w w'):DV w' r D :=
 ⟨h.year,h.farm,h.ver,h.aw.below hb,h.an,h.ac,h.rs.below hb,h.rn,h.rc,h.az,h.rz⟩
structure DO (B:Nat) (w:World) (r:RD) (D:Dn.Dec):Prop where
 year:r.year=D.year
 farm:r.farm=D.farm
 ver:r.ver=D.ver
 aw:OwnR SA w 78 B (.slice r.ap r.an r.ac) D.aw
 rs:OwnR SRn w 76 B (.slice r.rp r.rn r.rc) D.rs
 ap:Apart (.slice r.ap r.an r.ac) (.slice r.rp r.rn r.rc)
theorem OwnR.slc5 {α:Type}{S:Shape α}{w:World}{T:TypeId}{B n c:Nat}{p:Option Addr}{L:List α}(h:OwnR S w T B (.slice p n c) L):n=L.length∧n≤c∧Recs S w p L∧(p=none→c=0):=by
 obtain⟨q,k,e,hz, -,hc, -,hr⟩:=h.cut rfl;simp only[Value.slice.injEq]at e;obtain⟨rfl,rfl,rfl⟩:=e;exact⟨rfl,hc,hr,fun e=>(hz e).1⟩
theorem DO.dv {B:Nat}{w:World}{r:RD}{D:Dn.Dec}(h:DO B w r D):DV w r D:=by
 obtain⟨a1,a2,a3,a4⟩:=h.aw.slc5;obtain⟨b1,b2,b3,b4⟩:=h.rs.slc5;exact⟨h.year,h.farm,h.ver,a3,a1,a2,b3,b1,b2,a4,b4⟩
theorem DO.below {B:Nat}{w w' : World}{r:RD}{D:Dn.Dec}(h:DO B w r D)(hb:Below w.heap.size w w'):DO B w' r D:=⟨h.year,h.farm,h.ver,h.aw.below hb,h.rs.below hb,h.ap⟩
theorem DO.but {B t:Nat}{w w' : World}{r:RD}{D:Dn.Dec}(h:DO B w r D)(hb:But t w w')(ht:t<B):DO B w' r D:=⟨h.year,h.farm,h.ver,h.aw.but hb ht,h.rs.but hb ht,h.ap⟩
theorem DO.mono {B B' : Nat}{w:World}{r:RD}{D:Dn.Dec}(h:DO B w r D)(hB:B' ≤ B):DO B' w r D:=⟨h.year,h.farm,h.ver,h.aw.mono hB,h.rs.mono hB,h.ap⟩
theorem DO.nil (B:Nat)(w:World):DO B w ⟨0,0,0,none,0,0,none,0,0⟩ Dn.Dec.none:=⟨rfl,rfl,rfl,OwnR.nil _ _ _,OwnR.nil _ _ _,Apart.nil _⟩
namespace Wo
open Go.Lib
/-! ### lines and words, byte by byte -/
def pcs (s:UInt8):List UInt8→List UInt8→List (List UInt8)
 | cur, [] => [cur]
 | cur,c::r=>if c=s then cur::pcs s [] r else pcs s (cur ++ [c]) r
/-! ### by the first end of a line -/
theorem pcs_none (s:UInt8):∀(l cur:List UInt8),(∀c∈l,c≠s)→pcs s cur l = [cur++l]
 | [],cur,_=>by simp[pcs]
 | c::r,cur,h=>by
   have hc:c≠s:=h c List.mem_cons_self;rw[pcs,if_neg hc,pcs_none s r _ (fun x hx=>h x (List.mem_cons_of_mem _ hx))]
   simp
theorem pcs_hit (s:UInt8):∀(a r cur:List UInt8),(∀c∈a,c≠s)→pcs s cur (a++s::r)=(cur++a)::pcs s [] r
 | [],r,cur,_=>by simp[pcs]
 | c::a,r,cur,h=>by
   have hc:c≠s:=h c List.mem_cons_self;rw[List.cons_append,pcs,if_neg hc,pcs_hit s a r _ (fun x hx=>h x (List.mem_cons_of_mem _ hx))]
   simp
theorem cut_at {l:List UInt8}{c:UInt8}{o:Nat}(h1:l[o]?=some c)(h2:∀k,k<o→l[k]?≠some c):l=l.take o++c::l.drop (o+1)∧∀x∈l.take o,x≠c:=by
 obtain⟨ho,he⟩:=List.getElem?_eq_some_iff.1 h1;refine⟨?_,fun x hx e=>?_⟩
 ·conv=>lhs;rw[← List.take_append_drop o l]
  rw[List.drop_eq_getElem_cons ho,he]
 ·obtain⟨k,hk,hkx⟩:=List.mem_iff_getElem.1 hx
  rw[List.length_take]at hk;exact h2 k (by omega) (by rw[List.getElem?_eq_getElem (by omega)];rw[List.getElem_take]at hkx;rw[hkx,e])
theorem none_of {l:List UInt8}{c:UInt8}(h:∀k:Nat,l[k]?≠some c):∀x∈l,x≠c:=fun x hx e=>by
 obtain⟨k,hk,hkx⟩:=List.mem_iff_getElem.1 hx;exact h k (by rw[List.getElem?_eq_getElem hk,hkx,e])
theorem pcs_ix {l:List UInt8}{c:UInt8}{o:Nat}(h:indexByte l c=(o:Int)):pcs c [] l=l.take o::pcs c [] (l.drop (o+1)):=by
 obtain⟨h1,h2⟩:=indexByte_some h;obtain⟨e,hn⟩:=cut_at h1 h2
 conv=>lhs;rw[e]
 rw[pcs_hit c _ _ _ hn];rfl
theorem pcs_no {l:List UInt8}{c:UInt8}(h:indexByte l c = -1):pcs c [] l = [l]:=by
 rw[pcs_none c _ _ (none_of (indexByte_none h))];rfl
/-! ### the library's own words -/
theorem index_one (c:UInt8):∀l:List UInt8,index l [c]=indexByte l c
 | []=>by simp[index,indexByte]
 | a::l=>by
   have ih:=index_one c l;have e:([c].isPrefixOf (a::l))=(a==c):=by
    simp only[List.isPrefixOf,Bool.and_true];exact BEq.comm
   rw[index,indexByte,ih,e]
theorem splitK_pcs (c:UInt8):∀(n:Nat) (l:List UInt8),l.length<n→splitK [c] 0 (count l [c]) l=pcs c [] l
 | 0,_,h=>by omega
 | n+1,l,h=>by
   rcases Int.lt_or_le (index l [c]) 0 with hx|hx
   ·have hi:index l [c] = -1:=by have:=index_ge l [c];omega
    rw[count_miss hi,pcs_no (by rw[← index_one];exact hi)]
    rfl
   ·obtain⟨o,ho⟩:∃o:Nat,index l [c]=(o:Int):=⟨(index l [c]).toNat,by omega⟩
    have hb:indexByte l c=(o:Int):=by rw[← index_one];exact ho
    have hlt:o<l.length:=(List.getElem?_eq_some_iff.1 (indexByte_some hb).1).1;rw[count_hit (by simp) ho,Nat.add_comm,splitK,if_neg (by rw[ho,beq_iff_eq];omega),ho,pcs_ix hb]
    show l.take (o+0)::splitK [c] 0 _ (l.drop (o+1))=_
    rw[show o + [c].length=o+1 from rfl,splitK_pcs c n _ (by rw[List.length_drop];omega)]
    simp
theorem split_pcs (c:UInt8)(s:ByteArray):(splitB ⟨#[c]⟩ 0 (countB s ⟨#[c]⟩) s).map (·.data.toList)=pcs c [] s.data.toList:=by
 rw[splitB_data];exact splitK_pcs c _ _ (Nat.lt_succ_self _)
theorem pcs_len:∀(s:UInt8) (l cur:List UInt8),(pcs s cur l).length≤l.length+1
 | s, [],cur=>by simp[pcs]
 | s,c::r,cur=>by
   rw[pcs]
   split
   ·have:=pcs_len s r []
    simp only[List.length_cons];omega
   ·have:=pcs_len s r (cur ++ [c])
    simp only[List.length_cons];omega
/-! ### lines that are written -/
theorem join_two (x y:List UInt8)(r:List (List UInt8))(sep:List UInt8):join (x::y::r) sep=x++sep++join (y::r) sep:=by
 rw[join_cons,join_cons]
 simp[joinTail,List.append_assoc]
end Wo
open Dn
def SB:Shape ByteArray:=⟨1,fun s => [.string s],fun _=>rfl,by decide,fun a u hu=>by
 simp only[List.mem_singleton]at hu;subst hu
 rfl⟩
theorem el_str:Elem SB Tryz.prog 9 44 16:=by
 have h:(Tryz.prog.info? 9).map (fun i=>(i.zero,i.size,i.bytes))=some (some (.string ByteArray.empty),1,16):=by kernel_rfl
 obtain⟨i0,h1,h2,h3,h4⟩:=info_parts h;exact⟨⟨i0,_,h1,h2,h3,h4,rfl⟩,Tryz.underlying44⟩
def bs (l:List UInt8):ByteArray:=⟨l.toArray⟩
theorem bs_list (l:List UInt8):(bs l).data.toList=l:=by unfold bs;simp
theorem ba_ext {a b:ByteArray}(h:a.data.toList=b.data.toList):a=b:=by
 cases a with|mk a=>cases b with|mk b=>simp at h;rw[h]
theorem bs_back (s:ByteArray):bs s.data.toList=s:=ba_ext (bs_list _)
theorem size_len (s:ByteArray):s.data.toList.length=s.size:=by rw[Array.length_toList];rfl
theorem bs_size (l:List UInt8):(bs l).size=l.length:=by rw[← size_len,bs_list]
theorem flat_str (ws:List ByteArray):SB.flat ws=ws.map Value.string:=by
 unfold Shape.flat
 induction ws with
 | nil=>rfl
 | cons a l ih=>rw[List.flatMap_cons,ih];rfl
def StrG (l:List UInt8) (w:World) (e:Ending) (w' : World):Prop:=e = .returned (.string (bs l))∧Below w.heap.size w w'
/-! ### the library -/
def PcsGive (s:ByteArray) (w:World) (e:Ending) (w' : World):Prop :=
 ∃ws:List ByteArray,ws.map (·.data.toList)=Wo.pcs 32 [] s.data.toList∧ws.length≤s.size+1∧e = .returned (.slice (some ⟨w.heap.size,0,none⟩) ws.length ws.length)∧w' = w.alloc (.cells (SB.flat ws).toArray 9)
theorem split32_any (s:ByteArray)(w:World)(hE:Env w)(hs:s.size<4294967281):Calls Tryz.prog 69 #[.string s,.string ⟨#[32]⟩] w (PcsGive s w):=by
 obtain⟨m,hm⟩:=hE.ml;refine(Tryz.strings_Split s ⟨#[32]⟩ m w hs hm (by decide)).mono fun e w' ⟨he,hw⟩=>?_
 have hl:=Lib.splitB_all ⟨#[32]⟩ (by decide) 0 _ s rfl;have hp:=Wo.split_pcs 32 s;refine⟨_,hp,?_,by rw[hl];exact he,by rw[flat_str];exact hw⟩;have h1:=congrArg List.length hp;rw[List.length_map]at h1;have h2:=Wo.pcs_len 32 s.data.toList [];rw[size_len]at h2;omega
theorem joinsep_any (q:Option Addr)(ws:List ByteArray)(c:Nat)(sep:ByteArray)(w:World)(h:Recs SB w q ws)(hc:ws.length≤c)(hl:(Lib.join (ws.map (·.data.toList)) sep.data.toList).length≤140737488355328)(hn:ws.length≤140737488355328) :
  Calls Tryz.prog 38 #[.slice q ws.length c,.string sep] w (StrG (Lib.join (ws.map (·.data.toList)) sep.data.toList) w):=by
 rcases h.2 with e|⟨b,off,rfl,hb,hcell⟩
 ·subst e
  exact(Tryz.strings_Join_none q c sep w).mono fun e w' ⟨he,hw⟩=>⟨he,hw▸brf _ _⟩
 ·exact(Tryz.strings_Join b off c ws sep w (fun j x hx=>hcell j _ (by rw[flat_str,List.getElem?_map,hx];rfl)) hb hn hc hl).mono fun e w' ⟨he,hw⟩=>⟨he,hw⟩
/-! ### numbers behind a word -/
namespace Dn
def nums (L:List Int):List UInt8:=L.flatMap fun n=>32::Lib.itoa n
def lineT (first:List UInt8) (L:List Int):List UInt8:=first++nums L
def kindW:List (List UInt8) := [[], [100,117,101], [115,101,97,115,111,110], [114,101,102,117,115,101,100], [110,111,116,104,105,110,103], [99,114,111,112], [97,114,101,97]]
theorem nums_snoc {L:List Int}{k:Nat}(hk:k<L.length):nums (L.take (k+1))=nums (L.take k)++32::Lib.itoa L[k]:=by
 unfold nums;rw[tsg hk,List.flatMap_append]
 simp
def In64 (L:List Int):Prop:=∀n∈L, -9223372036854775808≤n∧n≤9223372036854775807
theorem nums_len {L:List Int}(h:In64 L):(nums L).length≤21*L.length:=by
 unfold nums
 induction L with
 | nil=>simp
 | cons n L ih =>
   have h1:=Wo.itoa_len20 n (h n List.mem_cons_self).1 (h n List.mem_cons_self).2;have h2:=ih fun x hx=>h x (List.mem_cons_of_mem _ hx)
   simp only[List.flatMap_cons,lap,List.length_cons];omega
theorem In64.take {L:List Int}(h:In64 L)(k:Nat):In64 (L.take k):=fun n hn=>h n (List.mem_of_mem_take hn)
theorem join_words:∀(L:List (List UInt8)) (x:List UInt8),Lib.join (x::L) [32]=x++L.flatMap fun y=>32::y
 | [],x=>by rw[Lib.join_one];simp
 | y::r,x=>by rw[Wo.join_two,join_words r y];simp
theorem join_line (first:List UInt8)(L:List Int):Lib.join (first::L.map Lib.itoa) [32]=lineT first L:=by
 rw[join_words,List.flatMap_map];rfl
end Dn
theorem one_lit (W:World)(x:ByteArray):Recs SB (W.alloc (.cells #[.string x] 9)) (some ⟨W.heap.size,0,none⟩) [x]:=Recs.lit (S:=SB) W 9 [x] (by show 1≤_;unfold maxLen;omega)
def lineB5 (first:ByteArray) (L:List Int) (k:Nat):List ByteArray:=first::(L.take k).map fun n=>bs (Lib.itoa n)
theorem line35_any (first:ByteArray)(p:Option Addr)(L:List Int)(c:Nat)(w:World)(h:Ints w p L)(hE:Env w)(hL:In64 L)(h8:L.length≤8)(hf:first.size≤100):Calls Tryz.prog 36 #[.string first,.slice p L.length c] w (StrG (lineT first.data.toList L) w):=by
 have hlen:=h.len;have H:=mh h;have HE:=mh hE;have HL:=mh hL;have hfl:=size_len first
 clear h hE hL;have O1:=mh (show OwnR SB (w.alloc (.cells #[.string first] 9)) 9 w.heap.size (.slice (some ⟨w.heap.size,0,none⟩) 1 1) (lineB5 first L 0) from OwnR.litB (S:=SB) w 9 [first] (by show 1≤_;unfold maxLen;omega));have B1:=mh (show Below w.heap.size w (w.alloc (.cells #[.string first] 9)) from(brf _ _).alloc mle _)
 have FIN:=mh (show((lineB5 first L L.length).map (·.data.toList))=first.data.toList::L.map Lib.itoa from by
  unfold lineB5;rw[List.take_length,List.map_cons,List.map_map]
  exact congrArg _ (List.map_congr_left fun n _=>bs_list _))
 go_enter Tryz.func36,Tryz.ntmps36
 go_upto_region 3 with fail
 generalize w.alloc (.cells #[.string first] 9)=w1 at *
 go_loopw [5,12] (fun v iv W=>∃k:Nat,k≤L.length∧iv=I O (k:Int)∧OwnR SB W 9 w.heap.size v (lineB5 first L k)∧Below w.heap.size w W) (fun _ iv _=>L.length - (intOf iv).toNat)
 case atStart=>exact⟨0,Nat.zero_le _,rfl,O1.out,B1.out⟩
 case round =>
  obtain⟨wo,rfl⟩:∃wo:World,wo=wr:=⟨_,rfl⟩;obtain⟨k,hk,rfl,hO,hb⟩:=hrel;have HO:=mh hO;have HB:=mh hb;have hk0:(0:Int)≤(k:Int):=inn _
  by_cases hlt:k<L.length
  ·have hk1:(k:Int)<(L.length:Int):=by omega
   have H2:Ints wo p L:=⟨H.out.1,H.out.2.imp id fun⟨b,off,e,hl,hc⟩=>⟨b,off,e,nll hl hb.size,fun j hj=>(hb.cell (p:=⟨b,off+j,none⟩) hl).trans (hc j hj)⟩⟩;obtain⟨b,off,x,rfl,hbl,hc,hx⟩:=H2.get hlt;have EX:L[k]=x:=by
    have:=hx.out;rw[List.getD_eq_getElem?_getD,List.getElem?_eq_getElem hlt]at this;exact this
   have X64:=HL.out L[k] (List.getElem_mem hlt);rw[EX]at X64;have DC:=mh (decimal_any x wo (HE.out.below hb) X64.1 X64.2);unfold DecGive at DC;have NX:=mh (show lineB5 first L (k+1)=lineB5 first L k ++ [bs (Lib.itoa x)] from by unfold lineB5;rw[tsg hlt,List.map_append,EX];simp);have LEN:=mh (show(lineB5 first L k).length≤9 from by unfold lineB5;simp;omega);obtain⟨S,eS⟩:∃S,(⟨(Lib.itoa x).toArray⟩:ByteArray)=S:=⟨_,rfl⟩;have ES:=mh eS;rw[eS]at DC;clear EX hx H2 hO hb hbl X64 eS
   go_wp2_with (first|(go_at_call 63;(with_reducible refine cmo DC.out ?_);rintro e w3 ⟨rfl,hb3⟩;have HO3:=mh (HO.out.below hb3);have HB3:=mh (HB.out.trans (hb3.mono HB.out.size));clear hb3)|(at_builtin;(refine OwnR.append el_str rfl (.tmp 16) (.tmp 19) rfl w.heap.size _ (lineB5 first L k) S #[.string S] rfl HO3.out rfl (by simp[Act.eval]) HB3.out.size (by have:=LEN.out;omega) (by decide) ?_);intro v5 w5 hO5 hap5;have HO5:=mh hO5;have HB5:=mh (HB3.out.trans hap5.below);clear hO5 hap5)|fail)
   go_roundw
   case rel=>exact⟨k+1,by omega,by go_num,by rw[NX.out,show bs (Lib.itoa x)=S from ES.out];exact HO5.out,HB5.out⟩
   case measure=>simp[intOf];omega
  ·obtain rfl:k=L.length:=by omega
   obtain⟨pr,cr,rfl, -, -,hcr, -,hr⟩:=HO.out.cut (show(lineB5 first L L.length).length=L.length+1 from by unfold lineB5;simp)
   have JN:=mh (show Calls Tryz.prog 38 #[.slice pr (L.length+1) cr,.string ⟨#[32]⟩] wo (StrG (lineT first.data.toList L) wo) from by
    have h1:=nums_len HL.out;have hll:(lineB5 first L L.length).length=L.length+1:=by unfold lineB5;simp
    have:=joinsep_any pr (lineB5 first L L.length) cr ⟨#[32]⟩ wo hr (by rw[hll];exact hcr) (by
     rw[FIN.out]
     show(Lib.join (first.data.toList::L.map Lib.itoa) [32]).length≤_
     rw[join_line];unfold lineT;rw[lap];omega) (by rw[hll];omega)
    rw[hll,FIN.out]at this;have e:Lib.join (first.data.toList::L.map Lib.itoa) (⟨#[32]⟩:ByteArray).data.toList=lineT first.data.toList L:=join_line _ _
    rw[e]at this
    exact this)
   unfold StrG at JN;clear hr hO hb hcr
   go_wp2_with (go_at_call 38;(with_reducible refine cmo JN.out ?_);rintro e w3 ⟨rfl,hb3⟩;have HB3:=mh (HB.out.trans (hb3.mono HB.out.size));clear hb3)
   go_ret
   exact⟨rfl,HB3.out⟩
theorem As.cappeds_take {A:List Awd}{k:Nat}(hk:k<A.length):cappeds (A.take (k+1))=cappeds (A.take k) ++ [A[k].capped]:=by
 unfold cappeds;rw[tsg hk,List.map_append,List.map_singleton]
theorem As.cappeds_len (A:List Awd):(cappeds A).length=A.length:=by unfold cappeds;simp
def ListG (L:List Int) (w:World) (e:Ending) (w' : World):Prop:=∃p c,e = .returned (.slice p L.length c)∧Ints w' p L∧Below w.heap.size w w'
theorem refcappeds34_any (p:Option Addr)(A:List Awd)(c:Nat)(w:World)(h:Recs SA w p A)(hl:A.length≤1000):Calls Tryz.prog 81 #[.slice p A.length c] w (ListG (cappeds A) w):=by
 have H:=mh h;have hlen:=h.len;clear h
 go_enter Tryz.func81,Tryz.ntmps81
 go_wp2
 go_loopw [3,4] (fun v i wr=>∃k:Nat,k≤A.length∧i=I O k∧OwnR SI wr 3 w.heap.size v (cappeds (A.take k))∧Below w.heap.size w wr) (fun _ i _=>A.length - (intOf i).toNat)
 case atStart=>exact⟨0,Nat.zero_le _,rfl,OwnR.nil _ _ _,brf _ _⟩
 case round =>
  obtain⟨wo,rfl⟩:∃wo:World,wo=wr:=⟨_,rfl⟩;obtain⟨k,hk,rfl,hown,hb⟩:=hrel;have HO:=mh hown;have HB:=mh hb;have hk0:(0:Int)≤(k:Int):=inn _
  by_cases hlt:k<A.length
  ·have hk1:(k:Int)<(A.length:Int):=by omega
   obtain⟨b,off,e,hbl,⟨c0,c1,c2,c3,c4,c5,c6,c7,c8⟩⟩:=SA_at (H.out.below hb) hlt
   cases e
   have ST:=mh (cappeds_take hlt);obtain⟨x,ex⟩:∃x,A[k].capped=x:=⟨_,rfl⟩;rw[ex]at c7 ST;have hcl:(cappeds (A.take k)).length<1073741824:=by rw[cappeds_len,List.length_take];omega
   have HSZ:=mh hb.size;clear ex c0 c1 c2 c3 c4 c5 c6 c8 hb hown
   go_wp2_with (first|(at_builtin;(refine OwnR.append el_int rfl (.tmp 11) (.tmp 17) rfl w.heap.size _ (cappeds (A.take k)) x #[I O x] rfl HO.out rfl rfl HSZ.out hcl (by decide) ?_);intro v5 w5 hO5 hap5;have HO5:=mh hO5;have HB5:=mh (HB.out.trans hap5.below);clear hO5 hap5)|fail)
   go_roundw
   case rel=>exact⟨k+1,by omega,by go_num,by rw[ST.out];exact HO5.out,HB5.out⟩
   case measure=>simp[intOf];omega
  ·obtain rfl:k=A.length:=by omega
   rw[List.take_length]at HO;obtain⟨p4,c4,rfl, -, -, -, -,hr⟩:=HO.out.cut (n:=A.length) (cappeds_len A);have HR:=mh hr;clear hb hown hr
   go_wp2
   go_ret
   exact⟨p4,c4,by rw[cappeds_len];rfl,HR.out.ints,HB.out⟩
def As.ofFarm (A:List Awd) (farm:Int):List Awd:=A.filter fun a=>decide (a.farm=farm)
theorem As.ofFarm_take {A:List Awd}{farm:Int}{k:Nat}(hk:k<A.length):ofFarm (A.take (k+1)) farm=ofFarm (A.take k) farm++if A[k].farm=farm then [A[k]] else []:=by
 unfold ofFarm;rw[tsg hk,List.filter_append]
 congr 1
 by_cases h:A[k].farm=farm
 ·rw[if_pos h];simp[h]
 ·rw[if_neg h];simp[h]
def RowO (A:List Awd) (w:World) (e:Ending) (w' : World):Prop:=∃va,e = .returned va∧OwnR SA w' 78 w.heap.size va A∧Below w.heap.size w w'
theorem refofo34_any (p:Option Addr)(A:List Awd)(c:Nat)(farm:Int)(w:World)(h:Recs SA w p A)(hl:A.length≤1000):Calls Tryz.prog 55 #[.slice p A.length c,I O farm] w (RowO (ofFarm A farm) w):=by
 have H:=mh h;have hlen:=h.len;clear h
 go_enter Tryz.func55,Tryz.ntmps55
 go_wp2
 go_loopw [5,6] (fun v i wr=>∃k:Nat,k≤A.length∧i=I O k∧OwnR SA wr 78 w.heap.size v (ofFarm (A.take k) farm)∧Below w.heap.size w wr) (fun _ i _=>A.length - (intOf i).toNat)
 case atStart=>exact⟨0,Nat.zero_le _,rfl,OwnR.nil _ _ _,brf _ _⟩
 case round =>
  obtain⟨wo,rfl⟩:∃wo:World,wo=wr:=⟨_,rfl⟩;obtain⟨k,hk,rfl,hown,hb⟩:=hrel;have HO:=mh hown;have HB:=mh hb;have hk0:(0:Int)≤(k:Int):=inn _
  by_cases hlt:k<A.length
  ·have hk1:(k:Int)<(A.length:Int):=by omega
   obtain⟨b,off,e,hbl,⟨c0,c1,c2,c3,c4,c5,c6,c7,c8⟩⟩:=SA_at (H.out.below hb) hlt
   cases e
   have ST:=ofFarm_take (farm:=farm) hlt;obtain⟨⟨a1,a2,a3,a4,a5,a6,a7,a8,a9⟩,ea⟩:∃a,A[k]=a:=⟨_,rfl⟩;rw[ea]at c0 c1 c2 c3 c4 c5 c6 c7 c8 ST;simp only at c0 c1 c2 c3 c4 c5 c6 c7 c8 ST;have hcl:(ofFarm (A.take k) farm).length<1073741824:=by
    have:(ofFarm (A.take k) farm).length≤(A.take k).length:=List.length_filter_le _ _;rw[List.length_take]at this;omega
   have HSZ:=mh hb.size
   by_cases hf:a1=farm
   ·have STH:=mh (show ofFarm (A.take (k+1)) farm=ofFarm (A.take k) farm ++ [⟨a1,a2,a3,a4,a5,a6,a7,a8,a9⟩] from by rw[ST,if_pos hf])
    have hfb:(a1==farm)=true:=by simpa using hf
    clear ST ea hb hown hf
    go_wp2_with (first|(at_builtin;(refine OwnR.append el_awd rfl (.tmp 20) (.tmp 25) rfl w.heap.size _ (ofFarm (A.take k) farm) ⟨a1,a2,a3,a4,a5,a6,a7,a8,a9⟩ #[I O a1,I O a2,I O a3,I O a4,I O a5,I O a6,I O a7,I O a8,I O a9] rfl HO.out rfl rfl HSZ.out hcl (by decide) ?_);intro v5 w5 hO5 hap5;have HO5:=mh hO5;have HB5:=mh (HB.out.trans hap5.below);clear hO5 hap5)|fail)
    go_roundw
    case rel=>exact⟨k+1,by omega,by go_num,by rw[STH.out];exact HO5.out,HB5.out⟩
    case measure=>simp[intOf];omega
   ·have STH:=mh (show ofFarm (A.take (k+1)) farm=ofFarm (A.take k) farm from by rw[ST,if_neg hf,List.append_nil])
    have hfb:(a1==farm)=false:=by simpa using hf
    clear ST ea hb hown hf
    go_wp2
    go_roundw
    case rel=>exact⟨k+1,by omega,by go_num,by rw[STH.out];exact HO.out,HB.out⟩
    case measure=>simp[intOf];omega
  ·obtain rfl:k=A.length:=by omega
   rw[List.take_length]at HO;obtain⟨p4,c4,rfl, -, -, -, -,hr⟩:=HO.out.cut rfl;clear hb hown hr
   go_wp2
   go_ret
   exact⟨_,rfl,HO.out,HB.out⟩
theorem refawards34_any (p q:Option Addr)(A:List Awd)(c d:Nat)(w:World)(h:Recs SA w p A)(k:Recs SA w q A):Calls Tryz.prog 45 #[.slice p A.length c,.slice q A.length d] w (BoolG true w):=by
 have H:=mh h;have K:=mh k;have hlen:=h.len;clear h k
 go_enter Tryz.func45,Tryz.ntmps45
 go_wp2
 go_loopw [5] (fun i wr=>∃k:Nat,k≤A.length∧i=I O k∧Below w.heap.size w wr) (fun i _=>A.length - (intOf i).toNat)
 case atStart=>exact⟨0,Nat.zero_le _,rfl,brf _ _⟩
 case round =>
  obtain⟨wo,rfl⟩:∃wo:World,wo=wr:=⟨_,rfl⟩;obtain⟨k,hk,rfl,hb⟩:=hrel;have HB:=mh hb;have hk0:(0:Int)≤(k:Int):=inn _
  by_cases hlt:k<A.length
  ·have hk1:(k:Int)<(A.length:Int):=by omega
   obtain⟨b,off,e,hbl,⟨c0,c1,c2,c3,c4,c5,c6,c7,c8⟩⟩:=SA_at (H.out.below hb) hlt
   cases e
   obtain⟨b', off', e,hbl', ⟨d0,d1,d2,d3,d4,d5,d6,d7,d8⟩⟩:=SA_at (K.out.below hb) hlt
   cases e
   obtain⟨⟨a1,a2,a3,a4,a5,a6,a7,a8,a9⟩,ea⟩:∃a,A[k]=a:=⟨_,rfl⟩;rw[ea]at c0 c1 c2 c3 c4 c5 c6 c7 c8 d0 d1 d2 d3 d4 d5 d6 d7 d8;simp only at c0 c1 c2 c3 c4 c5 c6 c7 c8 d0 d1 d2 d3 d4 d5 d6 d7 d8;clear ea hb
   go_wp2
   go_quiet (fail)
   go_wp2
   go_roundw
   case rel=>exact⟨k+1,by omega,by go_num,bnext HB.out HB.out.size (drewN_below _ _)⟩
   case measure=>simp[intOf];omega
  ·obtain rfl:k=A.length:=by omega
   clear hb
   go_wp2
   go_ret
   exact⟨rfl,HB.out⟩
theorem refreasons34_any (p q:Option Addr)(A:List Rsn)(c d:Nat)(w:World)(h:Recs SRn w p A)(k:Recs SRn w q A):Calls Tryz.prog 46 #[.slice p A.length c,.slice q A.length d] w (BoolG true w):=by
 have H:=mh h;have K:=mh k;have hlen:=h.len;clear h k
 go_enter Tryz.func46,Tryz.ntmps46
 go_wp2
 go_loopw [5] (fun i wr=>∃k:Nat,k≤A.length∧i=I O k∧Below w.heap.size w wr) (fun i _=>A.length - (intOf i).toNat)
 case atStart=>exact⟨0,Nat.zero_le _,rfl,brf _ _⟩
 case round =>
  obtain⟨wo,rfl⟩:∃wo:World,wo=wr:=⟨_,rfl⟩;obtain⟨k,hk,rfl,hb⟩:=hrel;have HB:=mh hb;have hk0:(0:Int)≤(k:Int):=inn _
  by_cases hlt:k<A.length
  ·have hk1:(k:Int)<(A.length:Int):=by omega
   obtain⟨b,off,e,hbl,c0,c1,c2⟩:=SRn_at (H.out.below hb) hlt
   cases e
   obtain⟨b', off', e,hbl', d0,d1,d2⟩:=SRn_at (K.out.below hb) hlt
   cases e
   obtain⟨⟨a1,a2,a3⟩,ea⟩:∃a,A[k]=a:=⟨_,rfl⟩;rw[ea]at c0 c1 c2 d0 d1 d2;simp only at c0 c1 c2 d0 d1 d2;clear ea hb
   go_wp2
   go_quiet (fail)
   go_wp2
   go_roundw
   case rel=>exact⟨k+1,by omega,by go_num,bnext HB.out HB.out.size (drewN_below _ _)⟩
   case measure=>simp[intOf];omega
  ·obtain rfl:k=A.length:=by omega
   clear hb
   go_wp2
   go_ret
   exact⟨rfl,HB.out⟩
theorem refnums35_any (p:Option Addr)(L:List Int)(c:Nat)(w:World)(h:Ints w p L)(hE:Env w)(hL:In64 L)(h8:L.length≤8):Calls Tryz.prog 39 #[.slice p L.length c] w (StrG (nums L) w):=by
 have hlen:=h.len;have H:=mh h;have HE:=mh hE;have HL:=mh hL;clear h hE hL
 go_enter Tryz.func39,Tryz.ntmps39
 go_wp2
 go_loopw [3,4] (fun v iv W=>∃(k:Nat) (T:ByteArray),k≤L.length∧iv=I O (k:Int)∧v = .string T∧T=bs (nums (L.take k))∧Below w.heap.size w W) (fun _ iv _=>L.length - (intOf iv).toNat)
 case atStart=>exact⟨0,_,Nat.zero_le _,rfl,rfl,rfl,brf _ _⟩
 case round =>
  obtain⟨wo,rfl⟩:∃wo:World,wo=wr:=⟨_,rfl⟩;obtain⟨k,T,hk,rfl,rfl,hT,hb⟩:=hrel;have HB:=mh hb;have HT:=mh hT;have hk0:(0:Int)≤(k:Int):=inn _;have hTs:T.size≤168:=by
   rw[hT,bs_size];have h1:=nums_len (HL.out.take k);rw[List.length_take]at h1;omega
  clear hT
  by_cases hlt:k<L.length
  ·have hk1:(k:Int)<(L.length:Int):=by omega
   have H2:Ints wo p L:=⟨H.out.1,H.out.2.imp id fun⟨b,off,e,hl,hc⟩=>⟨b,off,e,nll hl hb.size,fun j hj=>(hb.cell (p:=⟨b,off+j,none⟩) hl).trans (hc j hj)⟩⟩;obtain⟨b,off,x,rfl,hbl,hc,hx⟩:=H2.get hlt;have EX:L[k]=x:=by
    have:=hx.out;rw[List.getD_eq_getElem?_getD,List.getElem?_eq_getElem hlt]at this;exact this
   have X64:=HL.out L[k] (List.getElem_mem hlt);rw[EX]at X64;have DC:=mh (itoa_any x wo (HE.out.below hb) X64.1 X64.2);unfold DecGive at DC;have I20:=Wo.itoa_len20 x X64.1 X64.2;obtain⟨S,eS⟩:∃S,(⟨(Lib.itoa x).toArray⟩:ByteArray)=S:=⟨_,rfl⟩;have hSs:S.size≤20:=by rw[← eS,show(⟨(Lib.itoa x).toArray⟩:ByteArray).size=(Lib.itoa x).length from bs_size _];omega
   have NX:=mh (show T++((⟨#[32]⟩:ByteArray)++S)=bs (nums (L.take (k+1))) from by
    rw[nums_snoc hlt,HT.out,EX];refine ba_ext ?_;rw[← eS,bs_list,ByteArray.data_append,ByteArray.data_append,Array.toList_append,Array.toList_append,bs_list]
    rfl)
   rw[eS]at DC;have h1s:(⟨#[32]⟩:ByteArray).size=1:=rfl;have hcs:((⟨#[32]⟩:ByteArray)++S).size≤21:=by rw[ByteArray.size_append,h1s];omega
   clear EX hx H2 hb hbl X64 eS I20
   go_wp2_with (go_at_call 67;(with_reducible refine cmo DC.out ?_);rintro e w3 ⟨rfl,hb3⟩;have HB3:=mh (HB.out.trans (hb3.mono HB.out.size));clear hb3)
   go_roundw
   case rel=>exact⟨k+1,_,by omega,by go_num,rfl,NX.out,HB3.out⟩
   case measure=>simp[intOf];omega
  ·obtain rfl:k=L.length:=by omega
   rw[List.take_length]at HT;clear hb
   go_wp2
   go_ret
   exact⟨by rw[HT.out];rfl,HB.out⟩
theorem kinds35_any (w:World):Calls Tryz.prog 37 #[] w fun e w' => e = .returned (.agg #[.string ⟨#[]⟩,.string ⟨#[100,117,101]⟩,.string ⟨#[115,101,97,115,111,110]⟩,.string ⟨#[114,101,102,117,115,101,100]⟩,.string ⟨#[110,111,116,104,105,110,103]⟩,.string ⟨#[99,114,111,112]⟩,.string ⟨#[97,114,101,97]⟩])∧Below w.heap.size w w' :=by
 go_enter Tryz.func37,Tryz.ntmps37
 go_wp2
 exact bodyPost_ret (v := .agg #[.string ⟨#[]⟩,.string ⟨#[100,117,101]⟩,.string ⟨#[115,101,97,115,111,110]⟩,.string ⟨#[114,101,102,117,115,101,100]⟩,.string ⟨#[110,111,116,104,105,110,103]⟩,.string ⟨#[99,114,111,112]⟩,.string ⟨#[97,114,101,97]⟩]) (by simp[results,Tryz.results37,go_sem]) rfl ⟨rfl,(brf _ _).alloc mle _⟩
theorem refwords35_any (w:World):Calls Tryz.prog 40 #[] w fun e w' => e = .returned (.slice (some ⟨w.heap.size,0,none⟩) 7 7)∧w.alloc (.cells #[.string ⟨#[]⟩,.string ⟨#[100,117,101]⟩,.string ⟨#[115,101,97,115,111,110]⟩,.string ⟨#[114,101,102,117,115,101,100]⟩,.string ⟨#[110,111,116,104,105,110,103]⟩,.string ⟨#[99,114,111,112]⟩,.string ⟨#[97,114,101,97]⟩] 9)=w' :=by
 go_enter Tryz.func40,Tryz.ntmps40
 go_wp2
 go_ret
 exact⟨rfl,rfl⟩
theorem same35_any (r r2:RD)(D:Dec)(w:World)(h:DV w r D)(k:DV w r2 D):Calls Tryz.prog 23 #[.agg (dCells r).toArray,.agg (dCells r2).toArray] w (BoolG true w):=by
 have e1:=h.year;have e2:=h.farm;have e3:=h.ver;have e4:=h.an;have e5:=h.rn;have d1:=k.year;have d2:=k.farm;have d3:=k.ver;have d4:=k.an;have d5:=k.rn;have HA:=mh h.aw;have HR:=mh h.rs;have KA:=mh k.aw;have KR:=mh k.rs;clear h k;obtain⟨yy,ff,vv,ap,an,ac,rp,rn,rc⟩:=r;obtain⟨yy2,ff2,vv2,ap2,an2,ac2,rp2,rn2,rc2⟩:=r2;simp only at e1 e2 e3 e4 e5 d1 d2 d3 d4 d5;subst e1 e2 e3 e4 e5 d1 d2 d3 d4 d5;simp only[dCells];have HB:=mh (show Below w.heap.size w ((w.alloc (.cells #[I O D.year,I O D.farm,I O D.ver,.slice ap D.aw.length ac,.slice rp D.rs.length rc] 26)).alloc (.cells #[I O D.year,I O D.farm,I O D.ver,.slice ap2 D.aw.length ac2,.slice rp2 D.rs.length rc2] 26)) from balloc mle (balloc mle (brf _ _) _) _);have B0a:=mh (show Blk ((w.alloc (.cells #[I O D.year,I O D.farm,I O D.ver,.slice ap D.aw.length ac,.slice rp D.rs.length rc] 26)).alloc (.cells #[I O D.year,I O D.farm,I O D.ver,.slice ap2 D.aw.length ac2,.slice rp2 D.rs.length rc2] 26)) w.heap.size #[I O D.year,I O D.farm,I O D.ver,.slice ap D.aw.length ac,.slice rp D.rs.length rc] 26 from(Blk.new w _ _).below ((brf _ _).alloc mle _))
 have B0b:=mh (show Blk ((w.alloc (.cells #[I O D.year,I O D.farm,I O D.ver,.slice ap D.aw.length ac,.slice rp D.rs.length rc] 26)).alloc (.cells #[I O D.year,I O D.farm,I O D.ver,.slice ap2 D.aw.length ac2,.slice rp2 D.rs.length rc2] 26)) (w.heap.size+1) #[I O D.year,I O D.farm,I O D.ver,.slice ap2 D.aw.length ac2,.slice rp2 D.rs.length rc2] 26 from by
  have e:(w.alloc (.cells #[I O D.year,I O D.farm,I O D.ver,.slice ap D.aw.length ac,.slice rp D.rs.length rc] 26)).heap.size=w.heap.size+1:=by simp
  have:=Blk.new (w.alloc (.cells #[I O D.year,I O D.farm,I O D.ver,.slice ap D.aw.length ac,.slice rp D.rs.length rc] 26)) #[I O D.year,I O D.farm,I O D.ver,.slice ap2 D.aw.length ac2,.slice rp2 D.rs.length rc2] 26;rw[e]at this
  exact this)
 have AW:=mh (refawards34_any ap ap2 D.aw ac ac2 ((w.alloc (.cells #[I O D.year,I O D.farm,I O D.ver,.slice ap D.aw.length ac,.slice rp D.rs.length rc] 26)).alloc (.cells #[I O D.year,I O D.farm,I O D.ver,.slice ap2 D.aw.length ac2,.slice rp2 D.rs.length rc2] 26)) (HA.out.below HB.out) (KA.out.below HB.out));have RS:=mh (fun (W:World) (hb:Below ((w.alloc (.cells #[I O D.year,I O D.farm,I O D.ver,.slice ap D.aw.length ac,.slice rp D.rs.length rc] 26)).alloc (.cells #[I O D.year,I O D.farm,I O D.ver,.slice ap2 D.aw.length ac2,.slice rp2 D.rs.length rc2] 26)).heap.size ((w.alloc (.cells #[I O D.year,I O D.farm,I O D.ver,.slice ap D.aw.length ac,.slice rp D.rs.length rc] 26)).alloc (.cells #[I O D.year,I O D.farm,I O D.ver,.slice ap2 D.aw.length ac2,.slice rp2 D.rs.length rc2] 26)) W)=>refreasons34_any rp rp2 D.rs rc rc2 W ((HR.out.below HB.out).below hb) ((KR.out.below HB.out).below hb));unfold BoolG at AW RS
 go_enter Tryz.func23,Tryz.ntmps23
 go_wp2_with (first|(go_at_call 45;(with_reducible refine cmo AW.out ?_);rintro e w1 ⟨rfl,hb1⟩;have HB1:=mh hb1;have RS1:=mh (RS.out w1 hb1);have HB2:=mh (bstep mle HB.out hb1);have y4:=(B0a.out.below hb1).cell 4;have z4:=(B0b.out.below hb1).cell 4;clear hb1)|(go_at_call 46;(with_reducible refine cmo RS1.out ?_);rintro e w2 ⟨rfl,hb2⟩;have HB3:=mh (bstep mle HB2.out hb2);clear hb2)|fail)
 go_ret
 exact⟨rfl,HB3.out⟩
def Dn.totW (A:List Awd):Int:=A.foldl (fun n a=>wrap64 (n+a.due)) 0
theorem Dn.totW_take {A:List Awd}{k:Nat}(hk:k<A.length):totW (A.take (k+1))=wrap64 (totW (A.take k)+A[k].due):=by
 unfold totW;rw[tsg hk,List.foldl_append]
 rfl
theorem totalw34_any (p:Option Addr)(A:List Awd)(c:Nat)(w:World)(h:Recs SA w p A):Calls Tryz.prog 34 #[.slice p A.length c] w (IntG (totW A) w):=by
 have H:=mh h;have hlen:=h.len;clear h
 go_enter Tryz.func34,Tryz.ntmps34
 go_wp2
 go_loopw [3,8] (fun s i wr=>∃k:Nat,k≤A.length∧i=I O k∧s=I O (totW (A.take k))∧Below w.heap.size w wr) (fun _ i _=>A.length - (intOf i).toNat)
 case atStart=>exact⟨0,Nat.zero_le _,rfl,rfl,brf _ _⟩
 case round =>
  obtain⟨wo,rfl⟩:∃wo:World,wo=wr:=⟨_,rfl⟩;obtain⟨k,hk,rfl,rfl,hb⟩:=hrel;have hk0:(0:Int)≤(k:Int):=inn _
  by_cases hlt:k<A.length
  ·have hk1:(k:Int)<(A.length:Int):=by omega
   obtain⟨b,off,e,hbl,⟨c0,c1,c2,c3,c4,c5,c6,c7,c8⟩⟩:=SA_at (H.out.below hb) hlt
   cases e
   have ST:=totW_take hlt;obtain⟨⟨a1,a2,a3,a4,a5,a6,a7,a8,a9⟩,ea⟩:∃a,A[k]=a:=⟨_,rfl⟩;rw[ea]at c0 c1 c2 c3 c4 c5 c6 c7 c8 ST;simp only at c0 c1 c2 c3 c4 c5 c6 c7 c8 ST;obtain⟨T,eT⟩:∃T,totW (A.take k)=T:=⟨_,rfl⟩;rw[eT]at ST ⊢;have STH:=mh ST;have HB:=mh (balloc mle hb (.cells #[I O a1,I O a2,I O a3,I O a4,I O a5,I O a6,I O a7,I O a8,I O a9] 78));clear ST ea eT hb
   go_wp2
   go_roundw
   case rel=>exact⟨k+1,by omega,by go_num,by rw[STH.out],HB.out⟩
   case measure=>simp[intOf];omega
  ·obtain rfl:k=A.length:=by omega
   have HB:=mh hb;rw[List.take_length]at *;clear hb
   go_wp2
   go_ret
   exact⟨rfl,HB.out⟩
theorem reftotalw34_any (p:Option Addr)(A:List Awd)(c:Nat)(w:World)(h:Recs SA w p A):Calls Tryz.prog 35 #[.slice p A.length c] w (IntG (totW A) w):=by
 have H:=mh h;have hlen:=h.len;clear h
 go_enter Tryz.func35,Tryz.ntmps35
 go_wp2
 go_loopw [3,4] (fun s i wr=>∃k:Nat,k≤A.length∧i=I O k∧s=I O (totW (A.take k))∧Below w.heap.size w wr) (fun _ i _=>A.length - (intOf i).toNat)
 case atStart=>exact⟨0,Nat.zero_le _,rfl,rfl,brf _ _⟩
 case round =>
  obtain⟨wo,rfl⟩:∃wo:World,wo=wr:=⟨_,rfl⟩;obtain⟨k,hk,rfl,rfl,hb⟩:=hrel;have hk0:(0:Int)≤(k:Int):=inn _
  by_cases hlt:k<A.length
  ·have hk1:(k:Int)<(A.length:Int):=by omega
   obtain⟨b,off,e,hbl,⟨c0,c1,c2,c3,c4,c5,c6,c7,c8⟩⟩:=SA_at (H.out.below hb) hlt
   cases e
   have ST:=totW_take hlt;obtain⟨⟨a1,a2,a3,a4,a5,a6,a7,a8,a9⟩,ea⟩:∃a,A[k]=a:=⟨_,rfl⟩;rw[ea]at c0 c1 c2 c3 c4 c5 c6 c7 c8 ST;simp only at c0 c1 c2 c3 c4 c5 c6 c7 c8 ST;obtain⟨T,eT⟩:∃T,totW (A.take k)=T:=⟨_,rfl⟩;rw[eT]at ST ⊢;have STH:=mh ST;have HB:=mh (hb);clear ST ea eT hb
   go_wp2
   go_roundw
   case rel=>exact⟨k+1,by omega,by go_num,by rw[STH.out],HB.out⟩
   case measure=>simp[intOf];omega
  ·obtain rfl:k=A.length:=by omega
   have HB:=mh hb;rw[List.take_length]at *;clear hb
   go_wp2
   go_ret
   exact⟨rfl,HB.out⟩
theorem total35_any (r:RD)(D:Dec)(w:World)(h:DV w r D):Calls Tryz.prog 13 #[.agg (dCells r).toArray] w (IntG (totW D.aw) w):=by
 have e1:=h.year;have e2:=h.farm;have e3:=h.ver;have e4:=h.an;have e5:=h.rn;have HV:=mh h.aw;clear h;obtain⟨yy,ff,vv,ap,an,ac,rp,rn,rc⟩:=r;simp only at e1 e2 e3 e4 e5;subst e1 e2 e3 e4 e5;have HB0:=mh (show Below w.heap.size w (w.alloc (.cells #[I O D.year,I O D.farm,I O D.ver,.slice ap D.aw.length ac,.slice rp D.rs.length rc] 26)) from balloc mle (brf _ _) _);have TT:=mh (totalw34_any ap D.aw ac (w.alloc (.cells #[I O D.year,I O D.farm,I O D.ver,.slice ap D.aw.length ac,.slice rp D.rs.length rc] 26)) (HV.out.below HB0.out));simp only[dCells]
 go_enter Tryz.func13,Tryz.ntmps13
 go_wp2_with (go_at_call 34;(with_reducible refine cmo TT.out ?_);rintro e w1 ⟨rfl,hb1⟩)
 go_ret
 exact⟨rfl,bstep mle HB0.out hb1⟩
theorem reftotal35_any (r:RD)(D:Dec)(w:World)(h:DV w r D):Calls Tryz.prog 14 #[.agg (dCells r).toArray] w (IntG (totW D.aw) w):=by
 have e1:=h.year;have e2:=h.farm;have e3:=h.ver;have e4:=h.an;have e5:=h.rn;have HV:=mh h.aw;clear h;obtain⟨yy,ff,vv,ap,an,ac,rp,rn,rc⟩:=r;simp only at e1 e2 e3 e4 e5;subst e1 e2 e3 e4 e5;have HB0:=mh (show Below w.heap.size w (w.alloc (.cells #[I O D.year,I O D.farm,I O D.ver,.slice ap D.aw.length ac,.slice rp D.rs.length rc] 26)) from balloc mle (brf _ _) _);have TT:=mh (reftotalw34_any ap D.aw ac (w.alloc (.cells #[I O D.year,I O D.farm,I O D.ver,.slice ap D.aw.length ac,.slice rp D.rs.length rc] 26)) (HV.out.below HB0.out));simp only[dCells]
 go_enter Tryz.func14,Tryz.ntmps14
 go_wp2_with (go_at_call 35;(with_reducible refine cmo TT.out ?_);rintro e w1 ⟨rfl,hb1⟩)
 go_ret
 exact⟨rfl,bstep mle HB0.out hb1⟩
end Go.Proofs.YtljibgchickcpaaGreatDoor
