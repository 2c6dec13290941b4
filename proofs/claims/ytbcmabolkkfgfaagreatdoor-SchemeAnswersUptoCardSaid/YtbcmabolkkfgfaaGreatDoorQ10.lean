/- Packed. -/
import Derived.Test.YtbcmabolkkfgfaaGreatDoorQ8
set_option maxRecDepth 100000
set_option maxHeartbeats 16000000
open Go.Value renaming int → I
open Go.IntKind renaming i64 → O
namespace Go.Proofs.YtbcmabolkkfgfaaGreatDoor
open Go.RowKit Te
def listR (f:Nat) (ws:List (List UInt8)):Option (List Tm × List (List UInt8)):=match ws with | []=>none|y::r=>if y = [40] then readL f r else none
def TermAtR (f:Nat):Prop:=∀(rd:Nat) (ws:List ByteArray) (w:World),RdAt w rd ws false→(∀W,But rd w W→Env W)→2*ws.length≤f→Calls Tryz.prog 127 #[.pointer (some ⟨rd,0,none⟩)] w (TermG rd (readT f (ll ws)) w)
def ListAtR (f:Nat):Prop:=∀(rd:Nat) (ws:List ByteArray) (w:World),RdAt w rd ws false→(∀W,But rd w W→Env W)→2*ws.length+1≤f→Calls Tryz.prog 149 #[.pointer (some ⟨rd,0,none⟩)] w (ListG rd (listR f (ll ws)) w)
theorem readT_nil (f:Nat):readT f []=none:=by cases f with|zero=>rw[readT]|succ f=>rw[readT,Te.stepT.eq_def]
theorem readT_no {f:Nat}{x:ByteArray}{rs:List ByteArray}(h:opOf x.data.toList=0):readT (f+1) (ll (x::rs))=none:=by
 rw[readT,Te.stepT.eq_def];simp only[ll,List.map_cons];rw[if_pos h]
theorem readT_true {f:Nat}{x:ByteArray}{rs:List ByteArray}(h:opOf x.data.toList=1):readT (f+1) (ll (x::rs))=some (.mk 1 0 0 [],ll rs):=by
 rw[readT,Te.stepT.eq_def];simp only[ll,List.map_cons];rw[h];simp
theorem readT_num {f:Nat}{x:ByteArray}{rs:List ByteArray}(o:Int)(h:opOf x.data.toList=o)(ho:o=2∨o=3∨o=5∨o=6∨o=8):readT (f+1) (ll (x::rs))=match numM (hdW rs).data.toList with|some v=>some (.mk o v 0 [],ll rs.tail)|none=>none:=by
 rw[readT,Te.stepT.eq_def];simp only[ll,List.map_cons];rw[h,if_neg (by omega),if_neg (by omega),if_neg (by omega),if_neg (by omega),if_neg (by omega)]
 cases rs with
 | nil=>rw[show(hdW []).data.toList = [] from rfl,numM_nil];rfl
 | cons y r =>
   simp only[List.map_cons,hdW,List.tail_cons]
   cases numM y.data.toList with
   | none=>rfl
   | some v=>simp only;rw[if_neg (by omega)]
theorem readT_mark {f:Nat}{x:ByteArray}{rs:List ByteArray}(h:opOf x.data.toList=4):readT (f+1) (ll (x::rs))=match letter (hdW rs).data.toList with|some v=>some (.mk 4 v 0 [],ll rs.tail)|none=>none:=by
 rw[readT,Te.stepT.eq_def];simp only[ll,List.map_cons];rw[h,if_neg (by omega),if_neg (by omega),if_neg (by omega),if_neg (by omega),if_pos rfl]
 cases rs with
 | nil=>rw[show(hdW []).data.toList = [] from rfl,letter_nil];rfl
 | cons y r =>
   simp only[List.map_cons,hdW,List.tail_cons]
   rfl
theorem readT_before {f:Nat}{x:ByteArray}{rs:List ByteArray}(h:opOf x.data.toList=7):readT (f+1) (ll (x::rs))=match numM (hdW rs).data.toList with|some v=>(match letter (hdW rs.tail).data.toList with|some m=>some (.mk 7 v m [],ll rs.tail.tail)|none=>none)|none=>none:=by
 rw[readT,Te.stepT.eq_def];simp only[ll,List.map_cons];rw[h,if_neg (by omega),if_neg (by omega),if_neg (by omega),if_neg (by omega),if_neg (by omega)]
 cases rs with
 | nil=>rw[show(hdW []).data.toList = [] from rfl,numM_nil];rfl
 | cons y r =>
   simp only[List.map_cons,hdW,List.tail_cons]
   cases numM y.data.toList with
   | none=>rfl
   | some v =>
     simp only[if_true]
     cases r with
     | nil=>rfl
     | cons z r=>simp only[List.map_cons,List.tail_cons];rfl
theorem readT_list {f:Nat}{x:ByteArray}{rs:List ByteArray}(o:Int)(h:opOf x.data.toList=o)(ho:o=9∨o=10):readT (f+1) (ll (x::rs))=match listR f (ll rs) with|some (K,r)=>some (.mk o 0 0 K,r)|none=>none:=by
 rw[readT,Te.stepT.eq_def];simp only[ll,List.map_cons];rw[h,if_neg (by omega),if_neg (by omega),if_neg (by omega),if_pos ho]
 cases rs with
 | nil=>rfl
 | cons y r =>
   simp only[List.map_cons,listR]
   split
   ·rfl
   ·rfl
theorem readT_not {f:Nat}{x:ByteArray}{rs:List ByteArray}(h:opOf x.data.toList=11):readT (f+1) (ll (x::rs))=match readT f (ll rs) with|some (k,r)=>some (.mk 11 0 0 [k],r)|none=>none:=by
 rw[readT,Te.stepT.eq_def];simp only[ll,List.map_cons];rw[h,if_neg (by omega),if_neg (by omega),if_pos rfl];rfl
theorem ba_word {x:ByteArray}{l:List UInt8}(h:x.data.toList=l):x=⟨l.toArray⟩:=str_eq (by rw[h])
theorem opOf_word {x:List UInt8}{o:Int}(h:opOf x=o)(ho:o≠0):x=opW o:=by
 unfold opOf at h
 split at h
 ·subst h;assumption
 split at h
 ·subst h;assumption
 split at h
 ·subst h;assumption
 split at h
 ·subst h;assumption
 split at h
 ·subst h;assumption
 split at h
 ·subst h;assumption
 split at h
 ·subst h;assumption
 split at h
 ·subst h;assumption
 split at h
 ·subst h;assumption
 split at h
 ·subst h;assumption
 split at h
 ·subst h;assumption
 ·exact absurd h.symm ho
theorem opOf_none {x:List UInt8}(h:opOf x=0):∀o:Int,1≤o→o≤11→x≠opW o:=by
 intro o h1 h2 e;rw[e,opOf_opW o h1 h2]at h;omega
theorem term_some {rd:Nat}{w W:World}{t:Tm}{r:List (List UInt8)}{row:RT}{d:Nat}(hlt:rd<w.heap.size)(hb:But rd w W)(hr:RdAt W rd (r.map bs) false)(hv:TV (NewQ (w.heap.size+1)) W d row t) :
  TermG rd (some (t,r)) w (.returned (.agg #[I O row.op,I O row.num,I O row.more,.slice row.p row.n row.c])) (put4 W w.heap.size (I O row.op) (I O row.num) (I O row.more) (.slice row.p row.n row.c)):=by
 refine⟨row,rfl,put4_but hb _ _ _ _,hr.put4 hlt _ _ _ _,d,hv.change (by rw[(put4_block _ _ _ _ _ _).1];exact Nat.le_refl _) fun b hq _=>⟨(put4_block _ _ _ _ _ _).2 b (by unfold NewQ at hq;omega),by unfold NewQ at *;omega⟩⟩
theorem term_none {rd:Nat}{w W:World}{ws' : List ByteArray}(row:RT)(hlt:rd<w.heap.size)(hb:But rd w W)(hr:RdAt W rd ws' true) :
  TermG rd none w (.returned (.agg #[I O row.op,I O row.num,I O row.more,.slice row.p row.n row.c])) (put4 W w.heap.size (I O row.op) (I O row.num) (I O row.more) (.slice row.p row.n row.c)) :=
 ⟨row,rfl,put4_but hb _ _ _ _,ws', hr.put4 hlt _ _ _ _⟩
theorem put4_new {b:Nat}{W:World}(h:Res4 b W)(x0 x1 x2 x3:Value)(o:Obj):((put4 W b x0 x1 x2 x3).alloc o).cell? ⟨b,0,none⟩=some x0∧((put4 W b x0 x1 x2 x3).alloc o).cell? ⟨b,1,none⟩=some x1∧((put4 W b x0 x1 x2 x3).alloc o).cell? ⟨b,2,none⟩=some x2∧((put4 W b x0 x1 x2 x3).alloc o).cell? ⟨b,3,none⟩=some x3:=by
 obtain⟨q0,q1,q2,q3⟩:=put4_at h x0 x1 x2 x3;have hb:Below (put4 W b x0 x1 x2 x3).heap.size (put4 W b x0 x1 x2 x3) ((put4 W b x0 x1 x2 x3).alloc o):=(brf _ _).alloc mle _;have hl:b<(put4 W b x0 x1 x2 x3).heap.size:=by rw[(put4_block _ _ _ _ _ _).1];exact h.lt
 exact⟨(hb.cell (p:=⟨b,0,none⟩) hl).trans q0,(hb.cell (p:=⟨b,1,none⟩) hl).trans q1,(hb.cell (p:=⟨b,2,none⟩) hl).trans q2,(hb.cell (p:=⟨b,3,none⟩) hl).trans q3⟩
theorem term_new {rd:Nat}{w W:World}{o:Option (Tm × List (List UInt8))}{e:Ending}(h:TermG rd o w e W)(ob:Obj):TermG rd o w e (W.alloc ob):=by
 obtain⟨row,he,hb,hk⟩:=h;have hA:Below W.heap.size W (W.alloc ob):=(brf _ _).alloc mle _;refine⟨row,he,hb.nxt hA,?_⟩
 cases o with
 | none=>obtain⟨ws,h⟩:=hk;exact⟨ws,h.below hA⟩
 | some tr=>obtain⟨h1,d,h2⟩:=hk;exact⟨h1.below hA,d,h2.below hA⟩
theorem term_not {rd:Nat}{w W:World}{k:Tm}{r:List (List UInt8)}{row:RT}{d:Nat}(T:TypeId)(hlt:rd<w.heap.size)(hb:But rd w W)(hz:w.heap.size<W.heap.size)(hr:RdAt W rd (r.map bs) false)(hv:TV (NewQ (w.heap.size+1)) W d row k) :
  TermG rd (some (.mk 11 0 0 [k],r)) w (.returned (.agg #[I O 11,I O 0,I O 0,.slice (some ⟨W.heap.size,0,none⟩) 1 1])) ((put4 W w.heap.size (I O 11) (I O 0) (I O 0) (.slice (some ⟨W.heap.size,0,none⟩) 1 1)).alloc (.cells #[I O row.op,I O row.num,I O row.more,.slice row.p row.n row.c] T)):=by
 have hs:=(put4_block W w.heap.size (I O 11) (I O 0) (I O 0) (.slice (some ⟨W.heap.size,0,none⟩) 1 1));have hv1:TV (NewQ w.heap.size) (put4 W w.heap.size (I O 11) (I O 0) (I O 0) (.slice (some ⟨W.heap.size,0,none⟩) 1 1)) d row k:=hv.change (by rw[hs.1];exact Nat.le_refl _) fun b hq _=>⟨hs.2 b (by unfold NewQ at hq;omega),by unfold NewQ at *;omega⟩
 have hA:=(brf (put4 W w.heap.size (I O 11) (I O 0) (I O 0) (.slice (some ⟨W.heap.size,0,none⟩) 1 1)).heap.size (put4 W w.heap.size (I O 11) (I O 0) (I O 0) (.slice (some ⟨W.heap.size,0,none⟩) 1 1))).alloc mle (.cells #[I O row.op,I O row.num,I O row.more,.slice row.p row.n row.c] T);refine⟨⟨11,0,0,some ⟨W.heap.size,0,none⟩,1,1⟩,rfl,(put4_but hb _ _ _ _).nxt hA,(hr.put4 hlt _ _ _ _).below hA,d+1,⟨rfl,rfl,rfl,rfl,Nat.le_refl _,fun e=>by cases e⟩, [row],rfl,?_,fun a e => .inr (by cases e;show w.heap.size≤W.heap.size;omega),fun j hj hj' => ?_⟩
 ·have:=Recs.lit (S:=ST) (put4 W w.heap.size (I O 11) (I O 0) (I O 0) (.slice (some ⟨W.heap.size,0,none⟩) 1 1)) T [row] (by show 1≤_;unfold maxLen;omega)
  rw[hs.1]at this;exact this
 ·have:j=0:=by simp at hj;exact hj
  subst this;exact⟨hv1.is,hv1.at_.below hA⟩
theorem TV.leaf (Q:Nat→Prop)(W:World)(o n m:Int):TV Q W 0 ⟨o,n,m,none,0,0⟩ (.mk o n m []):=⟨⟨rfl,rfl,rfl,rfl,Nat.le_refl _,fun _=>rfl⟩,rfl⟩
theorem beq_no {x:ByteArray}{l:List UInt8}(h:x.data.toList≠l):(x.toList==l)=false:=by
 rw[ByteArray.toList_eq]
 simpa using h
theorem term_nil {f:Nat}(rd:Nat)(w:World)(h:RdAt w rd [] false)(hE:∀W,But rd w W→Env W):Calls Tryz.prog 127 #[.pointer (some ⟨rd,0,none⟩)] w (TermG rd (readT f (ll [])) w):=by
 have hlt:=h.lt;have hne:w.heap.size≠rd:=by omega
 have hA:Below w.heap.size w (w.alloc (.cells #[I O 0,I O 0,I O 0,.slice none 0 0] 28)):=(brf _ _).alloc mle _;have WD:=mh (rdword_any rd [] false _ (h.below hA));have HS:=mh (Res4.new w 28);have HB0:=mh (But.of_below (t:=rd) hA);have HE:=mh (fun (W W' : World) (hb:But rd w W) (hb2:But rd W W')=>hE W' (hb.trans hb2));unfold WordG at WD;have hlen:=h.len;have HRD:=mh (show readT f (ll [])=none from readT_nil _);rw[HRD.out];have WD:=mh (show Calls Tryz.prog 146 #[.pointer (some ⟨rd,0,none⟩)] ((w.alloc (.cells #[I O 0,I O 0,I O 0,.slice none 0 0] 28))) (fun e w' => e = .returned (.string ⟨#[]⟩)∧RdAt w' rd [] true∧But rd ((w.alloc (.cells #[I O 0,I O 0,I O 0,.slice none 0 0] 28))) w') from WD.out);clear h hE hA HE
 go_enter Tryz.func127,Tryz.ntmps127
 go_wp2_with (go_at_call 146;(with_reducible refine cmo WD.out ?_);rintro e w1 ⟨rfl,hr1,hb1⟩;have HR1:=mh hr1;have HS1:=mh (HS.out.but hb1 hne);have HB1:=mh (HB0.out.trans hb1);have hz1:=hb1.size;rw[World.size_alloc]at hz1;clear hr1 hb1;obtain⟨k0,k1,k2,k3,f0,f1,f2,f3,hl1⟩:=HS1.out;have j1:=HR1.out.fl;have j2:=HR1.out.f1;have j3:=HR1.out.lt)
 have HF:=mh HR1.out.fail;have HS2:=mh (HS1.out.but HF.out.2 hne);have QQ:=put4_at HS2.out (I O 0) (I O 0) (I O 0) (.slice none 0 0);have FIN:=mh (term_none ⟨0,0,0,none,0,0⟩ hlt (HB1.out.trans HF.out.2) HF.out.1);unfold put4 at QQ FIN;obtain⟨q0,q1,q2,q3⟩:=QQ;clear k0 k1 k2 k3;exact bodyPost_ret (v := .agg #[I O 0,I O 0,I O 0,.slice none 0 0]) (by simp[results,Tryz.results127,go_sem,q0,q1,q2,q3]) rfl FIN.out
theorem term_no {f:Nat}(rd:Nat)(x:ByteArray)(rs:List ByteArray)(w:World)(h:RdAt w rd (x::rs) false)(hE:∀W,But rd w W→Env W)(ho:opOf x.data.toList=0):Calls Tryz.prog 127 #[.pointer (some ⟨rd,0,none⟩)] w (TermG rd (readT (f+1) (ll (x::rs))) w):=by
 have hlt:=h.lt;have hne:w.heap.size≠rd:=by omega
 have hA:Below w.heap.size w (w.alloc (.cells #[I O 0,I O 0,I O 0,.slice none 0 0] 28)):=(brf _ _).alloc mle _;have WD:=mh (rdword_any rd (x::rs) false _ (h.below hA));have HS:=mh (Res4.new w 28);have HB0:=mh (But.of_below (t:=rd) hA);have HE:=mh (fun (W W' : World) (hb:But rd w W) (hb2:But rd W W')=>hE W' (hb.trans hb2));unfold WordG at WD;have hlen:=h.len;have HRD:=mh (readT_no (f:=f) (rs:=rs) ho);rw[HRD.out];have WD:=mh (show Calls Tryz.prog 146 #[.pointer (some ⟨rd,0,none⟩)] ((w.alloc (.cells #[I O 0,I O 0,I O 0,.slice none 0 0] 28))) (fun e w' => e = .returned (.string x)∧RdAt w' rd rs false∧But rd ((w.alloc (.cells #[I O 0,I O 0,I O 0,.slice none 0 0] 28))) w') from WD.out);have hno:=opOf_none ho;have n1:(x.toList == [116,114,117,101])=false:=beq_no (hno 1 (by decide) (by decide));have n2:(x.toList == [99,114,111,112])=false:=beq_no (hno 2 (by decide) (by decide));have n3:(x.toList == [102,97,109,105,108,121])=false:=beq_no (hno 3 (by decide) (by decide));have n4:(x.toList == [109,97,114,107])=false:=beq_no (hno 4 (by decide) (by decide));have n5:(x.toList == [122,111,110,101])=false:=beq_no (hno 5 (by decide) (by decide));have n6:(x.toList == [115,97,109,101])=false:=beq_no (hno 6 (by decide) (by decide));have n7:(x.toList == [98,101,102,111,114,101])=false:=beq_no (hno 7 (by decide) (by decide));have n8:(x.toList == [107,110,111,119,110])=false:=beq_no (hno 8 (by decide) (by decide));have n9:(x.toList == [97,110,100])=false:=beq_no (hno 9 (by decide) (by decide));have n10:(x.toList == [111,114])=false:=beq_no (hno 10 (by decide) (by decide));have n11:(x.toList == [110,111,116])=false:=beq_no (hno 11 (by decide) (by decide));clear h hE hA HE ho hno
 go_enter Tryz.func127,Tryz.ntmps127
 go_wp2_with (go_at_call 146;(with_reducible refine cmo WD.out ?_);rintro e w1 ⟨rfl,hr1,hb1⟩;have HR1:=mh hr1;have HS1:=mh (HS.out.but hb1 hne);have HB1:=mh (HB0.out.trans hb1);have hz1:=hb1.size;rw[World.size_alloc]at hz1;clear hr1 hb1;obtain⟨k0,k1,k2,k3,f0,f1,f2,f3,hl1⟩:=HS1.out;have j1:=HR1.out.fl;have j2:=HR1.out.f1;have j3:=HR1.out.lt)
 have HF:=mh HR1.out.fail;have HS2:=mh (HS1.out.but HF.out.2 hne);have QQ:=put4_at HS2.out (I O 0) (I O 0) (I O 0) (.slice none 0 0);have FIN:=mh (term_none ⟨0,0,0,none,0,0⟩ hlt (HB1.out.trans HF.out.2) HF.out.1);unfold put4 at QQ FIN;obtain⟨q0,q1,q2,q3⟩:=QQ;clear k0 k1 k2 k3;exact bodyPost_ret (v := .agg #[I O 0,I O 0,I O 0,.slice none 0 0]) (by simp[results,Tryz.results127,go_sem,q0,q1,q2,q3]) rfl FIN.out
theorem term_op1 {f:Nat}(rd:Nat)(x:ByteArray)(rs:List ByteArray)(w:World)(h:RdAt w rd (x::rs) false)(hE:∀W,But rd w W→Env W)(eo:opOf x.data.toList=1):Calls Tryz.prog 127 #[.pointer (some ⟨rd,0,none⟩)] w (TermG rd (readT (f+1) (ll (x::rs))) w):=by
 have hlt:=h.lt;have hne:w.heap.size≠rd:=by omega
 have hA:Below w.heap.size w (w.alloc (.cells #[I O 0,I O 0,I O 0,.slice none 0 0] 28)):=(brf _ _).alloc mle _;have WD:=mh (rdword_any rd (x::rs) false _ (h.below hA));have HS:=mh (Res4.new w 28);have HB0:=mh (But.of_below (t:=rd) hA);have HE:=mh (fun (W W' : World) (hb:But rd w W) (hb2:But rd W W')=>hE W' (hb.trans hb2));unfold WordG at WD;have hlen:=h.len;have hx:=ba_word (opOf_word eo (by decide));have WD:=mh (show Calls Tryz.prog 146 #[.pointer (some ⟨rd,0,none⟩)] ((w.alloc (.cells #[I O 0,I O 0,I O 0,.slice none 0 0] 28))) (fun e w' => e = .returned (.string ⟨#[116,114,117,101]⟩)∧RdAt w' rd rs false∧But rd ((w.alloc (.cells #[I O 0,I O 0,I O 0,.slice none 0 0] 28))) w') from hx▸WD.out);rw[readT_true (f:=f) (rs:=rs) eo];clear h hE hA HE eo hx
 go_enter Tryz.func127,Tryz.ntmps127
 go_wp2_with (go_at_call 146;(with_reducible refine cmo WD.out ?_);rintro e w1 ⟨rfl,hr1,hb1⟩;have HR1:=mh hr1;have HS1:=mh (HS.out.but hb1 hne);have HB1:=mh (HB0.out.trans hb1);have hz1:=hb1.size;rw[World.size_alloc]at hz1;clear hr1 hb1;obtain⟨k0,k1,k2,k3,f0,f1,f2,f3,hl1⟩:=HS1.out;have j1:=HR1.out.fl;have j2:=HR1.out.f1;have j3:=HR1.out.lt)
 have QQ:=put4_at HS1.out (I O 1) (I O 0) (I O 0) (.slice none 0 0);have FIN:=mh (term_some (t := .mk 1 0 0 []) (r:=ll rs) (row:=⟨1,0,0,none,0,0⟩) hlt HB1.out (by rw[bs_ll];exact HR1.out) (TV.leaf _ _ 1 0 0));unfold put4 at QQ FIN;obtain⟨q0,q1,q2,q3⟩:=QQ;clear k0 k1 k2 k3;exact bodyPost_ret (v := .agg #[I O 1,I O 0,I O 0,.slice none 0 0]) (by simp[results,Tryz.results127,go_sem,q0,q1,q2,q3]) rfl FIN.out
theorem term_op2 {f:Nat}(rd:Nat)(x:ByteArray)(rs:List ByteArray)(w:World)(h:RdAt w rd (x::rs) false)(hE:∀W,But rd w W→Env W)(eo:opOf x.data.toList=2):Calls Tryz.prog 127 #[.pointer (some ⟨rd,0,none⟩)] w (TermG rd (readT (f+1) (ll (x::rs))) w):=by
 have hlt:=h.lt;have hne:w.heap.size≠rd:=by omega
 have hA:Below w.heap.size w (w.alloc (.cells #[I O 0,I O 0,I O 0,.slice none 0 0] 28)):=(brf _ _).alloc mle _;have WD:=mh (rdword_any rd (x::rs) false _ (h.below hA));have HS:=mh (Res4.new w 28);have HB0:=mh (But.of_below (t:=rd) hA);have HE:=mh (fun (W W' : World) (hb:But rd w W) (hb2:But rd W W')=>hE W' (hb.trans hb2));unfold WordG at WD;have hlen:=h.len;have hx:=ba_word (opOf_word eo (by decide));have WD:=mh (show Calls Tryz.prog 146 #[.pointer (some ⟨rd,0,none⟩)] ((w.alloc (.cells #[I O 0,I O 0,I O 0,.slice none 0 0] 28))) (fun e w' => e = .returned (.string ⟨#[99,114,111,112]⟩)∧RdAt w' rd rs false∧But rd ((w.alloc (.cells #[I O 0,I O 0,I O 0,.slice none 0 0] 28))) w') from hx▸WD.out);rw[readT_num (f:=f) (rs:=rs) 2 eo (by decide)];have NM:=mh (fun (W:World) (hR:RdAt W rd rs false) (hb:But rd w W)=>rdnumber_any rd rs false W hR (fun W2 hb2=>HE.out W W2 hb hb2));unfold NumRG at NM;obtain⟨nv,env⟩:∃nv,numM (hdW rs).data.toList=nv:=⟨_,rfl⟩;rw[env]at NM ⊢;clear h hE hA eo hx env HE
 cases nv with
 | none =>
   have NM:=mh (fun (W:World) (hR:RdAt W rd rs false) (hb:But rd w W)=>show Calls Tryz.prog 147 #[.pointer (some ⟨rd,0,none⟩)] W (fun e w' => e = .returned (I O 0)∧RdAt w' rd rs.tail true∧But rd W w') from NM.out W hR hb)
   go_enter Tryz.func127,Tryz.ntmps127
   go_wp2_with (first|(go_at_call 146;(with_reducible refine cmo WD.out ?_);rintro e w1 ⟨rfl,hr1,hb1⟩;have HR1:=mh hr1;have HS1:=mh (HS.out.but hb1 hne);have HB1:=mh (HB0.out.trans hb1);have hz1:=hb1.size;rw[World.size_alloc]at hz1;clear hr1 hb1;obtain⟨k0,k1,k2,k3,f0,f1,f2,f3,hl1⟩:=HS1.out;have j1:=HR1.out.fl;have j2:=HR1.out.f1;have j3:=HR1.out.lt)|(go_at_call 147;(with_reducible refine cmo (NM.out _ HR1.out HB1.out) ?_);clear k0 k1 k2 k3 f0 f1 f2 f3;rintro e w2 ⟨rfl,hr2,hb2⟩;have HR2:=mh hr2;have HS2:=mh (HS1.out.but hb2 hne);have HB2:=mh (HB1.out.trans hb2);have hz2:=hb2.size;obtain⟨k0,k1,k2,k3,f0,f1,f2,f3,hl2⟩:=HS2.out;clear hr2 hb2)|fail)
   have QQ:=put4_at HS2.out (I O 2) (I O 0) (I O 0) (.slice none 0 0);have FIN:=mh (term_none ⟨2,0,0,none,0,0⟩ hlt HB2.out HR2.out);unfold put4 at QQ FIN;obtain⟨q0,q1,q2,q3⟩:=QQ;clear k0 k1 k2 k3;exact bodyPost_ret (v := .agg #[I O 2,I O 0,I O 0,.slice none 0 0]) (by simp[results,Tryz.results127,go_sem,q0,q1,q2,q3]) rfl FIN.out
 | some v =>
   have NM:=mh (fun (W:World) (hR:RdAt W rd rs false) (hb:But rd w W)=>show Calls Tryz.prog 147 #[.pointer (some ⟨rd,0,none⟩)] W (fun e w' => e = .returned (I O v)∧RdAt w' rd rs.tail false∧But rd W w') from NM.out W hR hb)
   go_enter Tryz.func127,Tryz.ntmps127
   go_wp2_with (first|(go_at_call 146;(with_reducible refine cmo WD.out ?_);rintro e w1 ⟨rfl,hr1,hb1⟩;have HR1:=mh hr1;have HS1:=mh (HS.out.but hb1 hne);have HB1:=mh (HB0.out.trans hb1);have hz1:=hb1.size;rw[World.size_alloc]at hz1;clear hr1 hb1;obtain⟨k0,k1,k2,k3,f0,f1,f2,f3,hl1⟩:=HS1.out;have j1:=HR1.out.fl;have j2:=HR1.out.f1;have j3:=HR1.out.lt)|(go_at_call 147;(with_reducible refine cmo (NM.out _ HR1.out HB1.out) ?_);clear k0 k1 k2 k3 f0 f1 f2 f3;rintro e w2 ⟨rfl,hr2,hb2⟩;have HR2:=mh hr2;have HS2:=mh (HS1.out.but hb2 hne);have HB2:=mh (HB1.out.trans hb2);have hz2:=hb2.size;obtain⟨k0,k1,k2,k3,f0,f1,f2,f3,hl2⟩:=HS2.out;clear hr2 hb2)|fail)
   have QQ:=put4_at HS2.out (I O 2) (I O v) (I O 0) (.slice none 0 0);have FIN:=mh (term_some (t := .mk 2 v 0 []) (r:=ll rs.tail) (row:=⟨2,v,0,none,0,0⟩) hlt HB2.out (by rw[bs_ll];exact HR2.out) (TV.leaf _ _ 2 v 0));unfold put4 at QQ FIN;obtain⟨q0,q1,q2,q3⟩:=QQ;clear k0 k1 k2 k3;exact bodyPost_ret (v := .agg #[I O 2,I O v,I O 0,.slice none 0 0]) (by simp[results,Tryz.results127,go_sem,q0,q1,q2,q3]) rfl FIN.out
theorem term_op3 {f:Nat}(rd:Nat)(x:ByteArray)(rs:List ByteArray)(w:World)(h:RdAt w rd (x::rs) false)(hE:∀W,But rd w W→Env W)(eo:opOf x.data.toList=3):Calls Tryz.prog 127 #[.pointer (some ⟨rd,0,none⟩)] w (TermG rd (readT (f+1) (ll (x::rs))) w):=by
 have hlt:=h.lt;have hne:w.heap.size≠rd:=by omega
 have hA:Below w.heap.size w (w.alloc (.cells #[I O 0,I O 0,I O 0,.slice none 0 0] 28)):=(brf _ _).alloc mle _;have WD:=mh (rdword_any rd (x::rs) false _ (h.below hA));have HS:=mh (Res4.new w 28);have HB0:=mh (But.of_below (t:=rd) hA);have HE:=mh (fun (W W' : World) (hb:But rd w W) (hb2:But rd W W')=>hE W' (hb.trans hb2));unfold WordG at WD;have hlen:=h.len;have hx:=ba_word (opOf_word eo (by decide));have WD:=mh (show Calls Tryz.prog 146 #[.pointer (some ⟨rd,0,none⟩)] ((w.alloc (.cells #[I O 0,I O 0,I O 0,.slice none 0 0] 28))) (fun e w' => e = .returned (.string ⟨#[102,97,109,105,108,121]⟩)∧RdAt w' rd rs false∧But rd ((w.alloc (.cells #[I O 0,I O 0,I O 0,.slice none 0 0] 28))) w') from hx▸WD.out);rw[readT_num (f:=f) (rs:=rs) 3 eo (by decide)];have NM:=mh (fun (W:World) (hR:RdAt W rd rs false) (hb:But rd w W)=>rdnumber_any rd rs false W hR (fun W2 hb2=>HE.out W W2 hb hb2));unfold NumRG at NM;obtain⟨nv,env⟩:∃nv,numM (hdW rs).data.toList=nv:=⟨_,rfl⟩;rw[env]at NM ⊢;clear h hE hA eo hx env HE
 cases nv with
 | none =>
   have NM:=mh (fun (W:World) (hR:RdAt W rd rs false) (hb:But rd w W)=>show Calls Tryz.prog 147 #[.pointer (some ⟨rd,0,none⟩)] W (fun e w' => e = .returned (I O 0)∧RdAt w' rd rs.tail true∧But rd W w') from NM.out W hR hb)
   go_enter Tryz.func127,Tryz.ntmps127
   go_wp2_with (first|(go_at_call 146;(with_reducible refine cmo WD.out ?_);rintro e w1 ⟨rfl,hr1,hb1⟩;have HR1:=mh hr1;have HS1:=mh (HS.out.but hb1 hne);have HB1:=mh (HB0.out.trans hb1);have hz1:=hb1.size;rw[World.size_alloc]at hz1;clear hr1 hb1;obtain⟨k0,k1,k2,k3,f0,f1,f2,f3,hl1⟩:=HS1.out;have j1:=HR1.out.fl;have j2:=HR1.out.f1;have j3:=HR1.out.lt)|(go_at_call 147;(with_reducible refine cmo (NM.out _ HR1.out HB1.out) ?_);clear k0 k1 k2 k3 f0 f1 f2 f3;rintro e w2 ⟨rfl,hr2,hb2⟩;have HR2:=mh hr2;have HS2:=mh (HS1.out.but hb2 hne);have HB2:=mh (HB1.out.trans hb2);have hz2:=hb2.size;obtain⟨k0,k1,k2,k3,f0,f1,f2,f3,hl2⟩:=HS2.out;clear hr2 hb2)|fail)
   have QQ:=put4_at HS2.out (I O 3) (I O 0) (I O 0) (.slice none 0 0);have FIN:=mh (term_none ⟨3,0,0,none,0,0⟩ hlt HB2.out HR2.out);unfold put4 at QQ FIN;obtain⟨q0,q1,q2,q3⟩:=QQ;clear k0 k1 k2 k3;exact bodyPost_ret (v := .agg #[I O 3,I O 0,I O 0,.slice none 0 0]) (by simp[results,Tryz.results127,go_sem,q0,q1,q2,q3]) rfl FIN.out
 | some v =>
   have NM:=mh (fun (W:World) (hR:RdAt W rd rs false) (hb:But rd w W)=>show Calls Tryz.prog 147 #[.pointer (some ⟨rd,0,none⟩)] W (fun e w' => e = .returned (I O v)∧RdAt w' rd rs.tail false∧But rd W w') from NM.out W hR hb)
   go_enter Tryz.func127,Tryz.ntmps127
   go_wp2_with (first|(go_at_call 146;(with_reducible refine cmo WD.out ?_);rintro e w1 ⟨rfl,hr1,hb1⟩;have HR1:=mh hr1;have HS1:=mh (HS.out.but hb1 hne);have HB1:=mh (HB0.out.trans hb1);have hz1:=hb1.size;rw[World.size_alloc]at hz1;clear hr1 hb1;obtain⟨k0,k1,k2,k3,f0,f1,f2,f3,hl1⟩:=HS1.out;have j1:=HR1.out.fl;have j2:=HR1.out.f1;have j3:=HR1.out.lt)|(go_at_call 147;(with_reducible refine cmo (NM.out _ HR1.out HB1.out) ?_);clear k0 k1 k2 k3 f0 f1 f2 f3;rintro e w2 ⟨rfl,hr2,hb2⟩;have HR2:=mh hr2;have HS2:=mh (HS1.out.but hb2 hne);have HB2:=mh (HB1.out.trans hb2);have hz2:=hb2.size;obtain⟨k0,k1,k2,k3,f0,f1,f2,f3,hl2⟩:=HS2.out;clear hr2 hb2)|fail)
   have QQ:=put4_at HS2.out (I O 3) (I O v) (I O 0) (.slice none 0 0);have FIN:=mh (term_some (t := .mk 3 v 0 []) (r:=ll rs.tail) (row:=⟨3,v,0,none,0,0⟩) hlt HB2.out (by rw[bs_ll];exact HR2.out) (TV.leaf _ _ 3 v 0));unfold put4 at QQ FIN;obtain⟨q0,q1,q2,q3⟩:=QQ;clear k0 k1 k2 k3;exact bodyPost_ret (v := .agg #[I O 3,I O v,I O 0,.slice none 0 0]) (by simp[results,Tryz.results127,go_sem,q0,q1,q2,q3]) rfl FIN.out
theorem term_op5 {f:Nat}(rd:Nat)(x:ByteArray)(rs:List ByteArray)(w:World)(h:RdAt w rd (x::rs) false)(hE:∀W,But rd w W→Env W)(eo:opOf x.data.toList=5):Calls Tryz.prog 127 #[.pointer (some ⟨rd,0,none⟩)] w (TermG rd (readT (f+1) (ll (x::rs))) w):=by
 have hlt:=h.lt;have hne:w.heap.size≠rd:=by omega
 have hA:Below w.heap.size w (w.alloc (.cells #[I O 0,I O 0,I O 0,.slice none 0 0] 28)):=(brf _ _).alloc mle _;have WD:=mh (rdword_any rd (x::rs) false _ (h.below hA));have HS:=mh (Res4.new w 28);have HB0:=mh (But.of_below (t:=rd) hA);have HE:=mh (fun (W W' : World) (hb:But rd w W) (hb2:But rd W W')=>hE W' (hb.trans hb2));unfold WordG at WD;have hlen:=h.len;have hx:=ba_word (opOf_word eo (by decide));have WD:=mh (show Calls Tryz.prog 146 #[.pointer (some ⟨rd,0,none⟩)] ((w.alloc (.cells #[I O 0,I O 0,I O 0,.slice none 0 0] 28))) (fun e w' => e = .returned (.string ⟨#[122,111,110,101]⟩)∧RdAt w' rd rs false∧But rd ((w.alloc (.cells #[I O 0,I O 0,I O 0,.slice none 0 0] 28))) w') from hx▸WD.out);rw[readT_num (f:=f) (rs:=rs) 5 eo (by decide)];have NM:=mh (fun (W:World) (hR:RdAt W rd rs false) (hb:But rd w W)=>rdnumber_any rd rs false W hR (fun W2 hb2=>HE.out W W2 hb hb2));unfold NumRG at NM;obtain⟨nv,env⟩:∃nv,numM (hdW rs).data.toList=nv:=⟨_,rfl⟩;rw[env]at NM ⊢;clear h hE hA eo hx env HE
 cases nv with
 | none =>
   have NM:=mh (fun (W:World) (hR:RdAt W rd rs false) (hb:But rd w W)=>show Calls Tryz.prog 147 #[.pointer (some ⟨rd,0,none⟩)] W (fun e w' => e = .returned (I O 0)∧RdAt w' rd rs.tail true∧But rd W w') from NM.out W hR hb)
   go_enter Tryz.func127,Tryz.ntmps127
   go_wp2_with (first|(go_at_call 146;(with_reducible refine cmo WD.out ?_);rintro e w1 ⟨rfl,hr1,hb1⟩;have HR1:=mh hr1;have HS1:=mh (HS.out.but hb1 hne);have HB1:=mh (HB0.out.trans hb1);have hz1:=hb1.size;rw[World.size_alloc]at hz1;clear hr1 hb1;obtain⟨k0,k1,k2,k3,f0,f1,f2,f3,hl1⟩:=HS1.out;have j1:=HR1.out.fl;have j2:=HR1.out.f1;have j3:=HR1.out.lt)|(go_at_call 147;(with_reducible refine cmo (NM.out _ HR1.out HB1.out) ?_);clear k0 k1 k2 k3 f0 f1 f2 f3;rintro e w2 ⟨rfl,hr2,hb2⟩;have HR2:=mh hr2;have HS2:=mh (HS1.out.but hb2 hne);have HB2:=mh (HB1.out.trans hb2);have hz2:=hb2.size;obtain⟨k0,k1,k2,k3,f0,f1,f2,f3,hl2⟩:=HS2.out;clear hr2 hb2)|fail)
   have QQ:=put4_at HS2.out (I O 5) (I O 0) (I O 0) (.slice none 0 0);have FIN:=mh (term_none ⟨5,0,0,none,0,0⟩ hlt HB2.out HR2.out);unfold put4 at QQ FIN;obtain⟨q0,q1,q2,q3⟩:=QQ;clear k0 k1 k2 k3;exact bodyPost_ret (v := .agg #[I O 5,I O 0,I O 0,.slice none 0 0]) (by simp[results,Tryz.results127,go_sem,q0,q1,q2,q3]) rfl FIN.out
 | some v =>
   have NM:=mh (fun (W:World) (hR:RdAt W rd rs false) (hb:But rd w W)=>show Calls Tryz.prog 147 #[.pointer (some ⟨rd,0,none⟩)] W (fun e w' => e = .returned (I O v)∧RdAt w' rd rs.tail false∧But rd W w') from NM.out W hR hb)
   go_enter Tryz.func127,Tryz.ntmps127
   go_wp2_with (first|(go_at_call 146;(with_reducible refine cmo WD.out ?_);rintro e w1 ⟨rfl,hr1,hb1⟩;have HR1:=mh hr1;have HS1:=mh (HS.out.but hb1 hne);have HB1:=mh (HB0.out.trans hb1);have hz1:=hb1.size;rw[World.size_alloc]at hz1;clear hr1 hb1;obtain⟨k0,k1,k2,k3,f0,f1,f2,f3,hl1⟩:=HS1.out;have j1:=HR1.out.fl;have j2:=HR1.out.f1;have j3:=HR1.out.lt)|(go_at_call 147;(with_reducible refine cmo (NM.out _ HR1.out HB1.out) ?_);clear k0 k1 k2 k3 f0 f1 f2 f3;rintro e w2 ⟨rfl,hr2,hb2⟩;have HR2:=mh hr2;have HS2:=mh (HS1.out.but hb2 hne);have HB2:=mh (HB1.out.trans hb2);have hz2:=hb2.size;obtain⟨k0,k1,k2,k3,f0,f1,f2,f3,hl2⟩:=HS2.out;clear hr2 hb2)|fail)
   have QQ:=put4_at HS2.out (I O 5) (I O v) (I O 0) (.slice none 0 0);have FIN:=mh (term_some (t := .mk 5 v 0 []) (r:=ll rs.tail) (row:=⟨5,v,0,none,0,0⟩) hlt HB2.out (by rw[bs_ll];exact HR2.out) (TV.leaf _ _ 5 v 0));unfold put4 at QQ FIN;obtain⟨q0,q1,q2,q3⟩:=QQ;clear k0 k1 k2 k3;exact bodyPost_ret (v := .agg #[I O 5,I O v,I O 0,.slice none 0 0]) (by simp[results,Tryz.results127,go_sem,q0,q1,q2,q3]) rfl FIN.out
theorem term_op6 {f:Nat}(rd:Nat)(x:ByteArray)(rs:List ByteArray)(w:World)(h:RdAt w rd (x::rs) false)(hE:∀W,But rd w W→Env W)(eo:opOf x.data.toList=6):Calls Tryz.prog 127 #[.pointer (some ⟨rd,0,none⟩)] w (TermG rd (readT (f+1) (ll (x::rs))) w):=by
 have hlt:=h.lt;have hne:w.heap.size≠rd:=by omega
 have hA:Below w.heap.size w (w.alloc (.cells #[I O 0,I O 0,I O 0,.slice none 0 0] 28)):=(brf _ _).alloc mle _;have WD:=mh (rdword_any rd (x::rs) false _ (h.below hA));have HS:=mh (Res4.new w 28);have HB0:=mh (But.of_below (t:=rd) hA);have HE:=mh (fun (W W' : World) (hb:But rd w W) (hb2:But rd W W')=>hE W' (hb.trans hb2));unfold WordG at WD;have hlen:=h.len;have hx:=ba_word (opOf_word eo (by decide));have WD:=mh (show Calls Tryz.prog 146 #[.pointer (some ⟨rd,0,none⟩)] ((w.alloc (.cells #[I O 0,I O 0,I O 0,.slice none 0 0] 28))) (fun e w' => e = .returned (.string ⟨#[115,97,109,101]⟩)∧RdAt w' rd rs false∧But rd ((w.alloc (.cells #[I O 0,I O 0,I O 0,.slice none 0 0] 28))) w') from hx▸WD.out);rw[readT_num (f:=f) (rs:=rs) 6 eo (by decide)];have NM:=mh (fun (W:World) (hR:RdAt W rd rs false) (hb:But rd w W)=>rdnumber_any rd rs false W hR (fun W2 hb2=>HE.out W W2 hb hb2));unfold NumRG at NM;obtain⟨nv,env⟩:∃nv,numM (hdW rs).data.toList=nv:=⟨_,rfl⟩;rw[env]at NM ⊢;clear h hE hA eo hx env HE
 cases nv with
 | none =>
   have NM:=mh (fun (W:World) (hR:RdAt W rd rs false) (hb:But rd w W)=>show Calls Tryz.prog 147 #[.pointer (some ⟨rd,0,none⟩)] W (fun e w' => e = .returned (I O 0)∧RdAt w' rd rs.tail true∧But rd W w') from NM.out W hR hb)
   go_enter Tryz.func127,Tryz.ntmps127
   go_wp2_with (first|(go_at_call 146;(with_reducible refine cmo WD.out ?_);rintro e w1 ⟨rfl,hr1,hb1⟩;have HR1:=mh hr1;have HS1:=mh (HS.out.but hb1 hne);have HB1:=mh (HB0.out.trans hb1);have hz1:=hb1.size;rw[World.size_alloc]at hz1;clear hr1 hb1;obtain⟨k0,k1,k2,k3,f0,f1,f2,f3,hl1⟩:=HS1.out;have j1:=HR1.out.fl;have j2:=HR1.out.f1;have j3:=HR1.out.lt)|(go_at_call 147;(with_reducible refine cmo (NM.out _ HR1.out HB1.out) ?_);clear k0 k1 k2 k3 f0 f1 f2 f3;rintro e w2 ⟨rfl,hr2,hb2⟩;have HR2:=mh hr2;have HS2:=mh (HS1.out.but hb2 hne);have HB2:=mh (HB1.out.trans hb2);have hz2:=hb2.size;obtain⟨k0,k1,k2,k3,f0,f1,f2,f3,hl2⟩:=HS2.out;clear hr2 hb2)|fail)
   have QQ:=put4_at HS2.out (I O 6) (I O 0) (I O 0) (.slice none 0 0);have FIN:=mh (term_none ⟨6,0,0,none,0,0⟩ hlt HB2.out HR2.out);unfold put4 at QQ FIN;obtain⟨q0,q1,q2,q3⟩:=QQ;clear k0 k1 k2 k3;exact bodyPost_ret (v := .agg #[I O 6,I O 0,I O 0,.slice none 0 0]) (by simp[results,Tryz.results127,go_sem,q0,q1,q2,q3]) rfl FIN.out
 | some v =>
   have NM:=mh (fun (W:World) (hR:RdAt W rd rs false) (hb:But rd w W)=>show Calls Tryz.prog 147 #[.pointer (some ⟨rd,0,none⟩)] W (fun e w' => e = .returned (I O v)∧RdAt w' rd rs.tail false∧But rd W w') from NM.out W hR hb)
   go_enter Tryz.func127,Tryz.ntmps127
   go_wp2_with (first|(go_at_call 146;(with_reducible refine cmo WD.out ?_);rintro e w1 ⟨rfl,hr1,hb1⟩;have HR1:=mh hr1;have HS1:=mh (HS.out.but hb1 hne);have HB1:=mh (HB0.out.trans hb1);have hz1:=hb1.size;rw[World.size_alloc]at hz1;clear hr1 hb1;obtain⟨k0,k1,k2,k3,f0,f1,f2,f3,hl1⟩:=HS1.out;have j1:=HR1.out.fl;have j2:=HR1.out.f1;have j3:=HR1.out.lt)|(go_at_call 147;(with_reducible refine cmo (NM.out _ HR1.out HB1.out) ?_);clear k0 k1 k2 k3 f0 f1 f2 f3;rintro e w2 ⟨rfl,hr2,hb2⟩;have HR2:=mh hr2;have HS2:=mh (HS1.out.but hb2 hne);have HB2:=mh (HB1.out.trans hb2);have hz2:=hb2.size;obtain⟨k0,k1,k2,k3,f0,f1,f2,f3,hl2⟩:=HS2.out;clear hr2 hb2)|fail)
   have QQ:=put4_at HS2.out (I O 6) (I O v) (I O 0) (.slice none 0 0);have FIN:=mh (term_some (t := .mk 6 v 0 []) (r:=ll rs.tail) (row:=⟨6,v,0,none,0,0⟩) hlt HB2.out (by rw[bs_ll];exact HR2.out) (TV.leaf _ _ 6 v 0));unfold put4 at QQ FIN;obtain⟨q0,q1,q2,q3⟩:=QQ;clear k0 k1 k2 k3;exact bodyPost_ret (v := .agg #[I O 6,I O v,I O 0,.slice none 0 0]) (by simp[results,Tryz.results127,go_sem,q0,q1,q2,q3]) rfl FIN.out
theorem term_op8 {f:Nat}(rd:Nat)(x:ByteArray)(rs:List ByteArray)(w:World)(h:RdAt w rd (x::rs) false)(hE:∀W,But rd w W→Env W)(eo:opOf x.data.toList=8):Calls Tryz.prog 127 #[.pointer (some ⟨rd,0,none⟩)] w (TermG rd (readT (f+1) (ll (x::rs))) w):=by
 have hlt:=h.lt;have hne:w.heap.size≠rd:=by omega
 have hA:Below w.heap.size w (w.alloc (.cells #[I O 0,I O 0,I O 0,.slice none 0 0] 28)):=(brf _ _).alloc mle _;have WD:=mh (rdword_any rd (x::rs) false _ (h.below hA));have HS:=mh (Res4.new w 28);have HB0:=mh (But.of_below (t:=rd) hA);have HE:=mh (fun (W W' : World) (hb:But rd w W) (hb2:But rd W W')=>hE W' (hb.trans hb2));unfold WordG at WD;have hlen:=h.len;have hx:=ba_word (opOf_word eo (by decide));have WD:=mh (show Calls Tryz.prog 146 #[.pointer (some ⟨rd,0,none⟩)] ((w.alloc (.cells #[I O 0,I O 0,I O 0,.slice none 0 0] 28))) (fun e w' => e = .returned (.string ⟨#[107,110,111,119,110]⟩)∧RdAt w' rd rs false∧But rd ((w.alloc (.cells #[I O 0,I O 0,I O 0,.slice none 0 0] 28))) w') from hx▸WD.out);rw[readT_num (f:=f) (rs:=rs) 8 eo (by decide)];have NM:=mh (fun (W:World) (hR:RdAt W rd rs false) (hb:But rd w W)=>rdnumber_any rd rs false W hR (fun W2 hb2=>HE.out W W2 hb hb2));unfold NumRG at NM;obtain⟨nv,env⟩:∃nv,numM (hdW rs).data.toList=nv:=⟨_,rfl⟩;rw[env]at NM ⊢;clear h hE hA eo hx env HE
 cases nv with
 | none =>
   have NM:=mh (fun (W:World) (hR:RdAt W rd rs false) (hb:But rd w W)=>show Calls Tryz.prog 147 #[.pointer (some ⟨rd,0,none⟩)] W (fun e w' => e = .returned (I O 0)∧RdAt w' rd rs.tail true∧But rd W w') from NM.out W hR hb)
   go_enter Tryz.func127,Tryz.ntmps127
   go_wp2_with (first|(go_at_call 146;(with_reducible refine cmo WD.out ?_);rintro e w1 ⟨rfl,hr1,hb1⟩;have HR1:=mh hr1;have HS1:=mh (HS.out.but hb1 hne);have HB1:=mh (HB0.out.trans hb1);have hz1:=hb1.size;rw[World.size_alloc]at hz1;clear hr1 hb1;obtain⟨k0,k1,k2,k3,f0,f1,f2,f3,hl1⟩:=HS1.out;have j1:=HR1.out.fl;have j2:=HR1.out.f1;have j3:=HR1.out.lt)|(go_at_call 147;(with_reducible refine cmo (NM.out _ HR1.out HB1.out) ?_);clear k0 k1 k2 k3 f0 f1 f2 f3;rintro e w2 ⟨rfl,hr2,hb2⟩;have HR2:=mh hr2;have HS2:=mh (HS1.out.but hb2 hne);have HB2:=mh (HB1.out.trans hb2);have hz2:=hb2.size;obtain⟨k0,k1,k2,k3,f0,f1,f2,f3,hl2⟩:=HS2.out;clear hr2 hb2)|fail)
   have QQ:=put4_at HS2.out (I O 8) (I O 0) (I O 0) (.slice none 0 0);have FIN:=mh (term_none ⟨8,0,0,none,0,0⟩ hlt HB2.out HR2.out);unfold put4 at QQ FIN;obtain⟨q0,q1,q2,q3⟩:=QQ;clear k0 k1 k2 k3;exact bodyPost_ret (v := .agg #[I O 8,I O 0,I O 0,.slice none 0 0]) (by simp[results,Tryz.results127,go_sem,q0,q1,q2,q3]) rfl FIN.out
 | some v =>
   have NM:=mh (fun (W:World) (hR:RdAt W rd rs false) (hb:But rd w W)=>show Calls Tryz.prog 147 #[.pointer (some ⟨rd,0,none⟩)] W (fun e w' => e = .returned (I O v)∧RdAt w' rd rs.tail false∧But rd W w') from NM.out W hR hb)
   go_enter Tryz.func127,Tryz.ntmps127
   go_wp2_with (first|(go_at_call 146;(with_reducible refine cmo WD.out ?_);rintro e w1 ⟨rfl,hr1,hb1⟩;have HR1:=mh hr1;have HS1:=mh (HS.out.but hb1 hne);have HB1:=mh (HB0.out.trans hb1);have hz1:=hb1.size;rw[World.size_alloc]at hz1;clear hr1 hb1;obtain⟨k0,k1,k2,k3,f0,f1,f2,f3,hl1⟩:=HS1.out;have j1:=HR1.out.fl;have j2:=HR1.out.f1;have j3:=HR1.out.lt)|(go_at_call 147;(with_reducible refine cmo (NM.out _ HR1.out HB1.out) ?_);clear k0 k1 k2 k3 f0 f1 f2 f3;rintro e w2 ⟨rfl,hr2,hb2⟩;have HR2:=mh hr2;have HS2:=mh (HS1.out.but hb2 hne);have HB2:=mh (HB1.out.trans hb2);have hz2:=hb2.size;obtain⟨k0,k1,k2,k3,f0,f1,f2,f3,hl2⟩:=HS2.out;clear hr2 hb2)|fail)
   have QQ:=put4_at HS2.out (I O 8) (I O v) (I O 0) (.slice none 0 0);have FIN:=mh (term_some (t := .mk 8 v 0 []) (r:=ll rs.tail) (row:=⟨8,v,0,none,0,0⟩) hlt HB2.out (by rw[bs_ll];exact HR2.out) (TV.leaf _ _ 8 v 0));unfold put4 at QQ FIN;obtain⟨q0,q1,q2,q3⟩:=QQ;clear k0 k1 k2 k3;exact bodyPost_ret (v := .agg #[I O 8,I O v,I O 0,.slice none 0 0]) (by simp[results,Tryz.results127,go_sem,q0,q1,q2,q3]) rfl FIN.out
theorem term_op4 {f:Nat}(rd:Nat)(x:ByteArray)(rs:List ByteArray)(w:World)(h:RdAt w rd (x::rs) false)(hE:∀W,But rd w W→Env W)(eo:opOf x.data.toList=4):Calls Tryz.prog 127 #[.pointer (some ⟨rd,0,none⟩)] w (TermG rd (readT (f+1) (ll (x::rs))) w):=by
 have hlt:=h.lt;have hne:w.heap.size≠rd:=by omega
 have hA:Below w.heap.size w (w.alloc (.cells #[I O 0,I O 0,I O 0,.slice none 0 0] 28)):=(brf _ _).alloc mle _;have WD:=mh (rdword_any rd (x::rs) false _ (h.below hA));have HS:=mh (Res4.new w 28);have HB0:=mh (But.of_below (t:=rd) hA);have HE:=mh (fun (W W' : World) (hb:But rd w W) (hb2:But rd W W')=>hE W' (hb.trans hb2));unfold WordG at WD;have hlen:=h.len;have hx:=ba_word (opOf_word eo (by decide));have WD:=mh (show Calls Tryz.prog 146 #[.pointer (some ⟨rd,0,none⟩)] ((w.alloc (.cells #[I O 0,I O 0,I O 0,.slice none 0 0] 28))) (fun e w' => e = .returned (.string ⟨#[109,97,114,107]⟩)∧RdAt w' rd rs false∧But rd ((w.alloc (.cells #[I O 0,I O 0,I O 0,.slice none 0 0] 28))) w') from hx▸WD.out);rw[readT_mark (f:=f) (rs:=rs) eo];have NM:=mh (fun (W:World) (hR:RdAt W rd rs false) (hb:But rd w W)=>rdmark_any rd rs false W hR);unfold NumRG at NM;obtain⟨nv,env⟩:∃nv,letter (hdW rs).data.toList=nv:=⟨_,rfl⟩;rw[env]at NM ⊢;clear h hE hA eo hx env HE
 cases nv with
 | none =>
   have NM:=mh (fun (W:World) (hR:RdAt W rd rs false) (hb:But rd w W)=>show Calls Tryz.prog 148 #[.pointer (some ⟨rd,0,none⟩)] W (fun e w' => e = .returned (I O 0)∧RdAt w' rd rs.tail true∧But rd W w') from NM.out W hR hb)
   go_enter Tryz.func127,Tryz.ntmps127
   go_wp2_with (first|(go_at_call 146;(with_reducible refine cmo WD.out ?_);rintro e w1 ⟨rfl,hr1,hb1⟩;have HR1:=mh hr1;have HS1:=mh (HS.out.but hb1 hne);have HB1:=mh (HB0.out.trans hb1);have hz1:=hb1.size;rw[World.size_alloc]at hz1;clear hr1 hb1;obtain⟨k0,k1,k2,k3,f0,f1,f2,f3,hl1⟩:=HS1.out;have j1:=HR1.out.fl;have j2:=HR1.out.f1;have j3:=HR1.out.lt)|(go_at_call 148;(with_reducible refine cmo (NM.out _ HR1.out HB1.out) ?_);clear k0 k1 k2 k3 f0 f1 f2 f3;rintro e w2 ⟨rfl,hr2,hb2⟩;have HR2:=mh hr2;have HS2:=mh (HS1.out.but hb2 hne);have HB2:=mh (HB1.out.trans hb2);have hz2:=hb2.size;obtain⟨k0,k1,k2,k3,f0,f1,f2,f3,hl2⟩:=HS2.out;clear hr2 hb2)|fail)
   have QQ:=put4_at HS2.out (I O 4) (I O 0) (I O 0) (.slice none 0 0);have FIN:=mh (term_none ⟨4,0,0,none,0,0⟩ hlt HB2.out HR2.out);unfold put4 at QQ FIN;obtain⟨q0,q1,q2,q3⟩:=QQ;clear k0 k1 k2 k3;exact bodyPost_ret (v := .agg #[I O 4,I O 0,I O 0,.slice none 0 0]) (by simp[results,Tryz.results127,go_sem,q0,q1,q2,q3]) rfl FIN.out
 | some v =>
   have NM:=mh (fun (W:World) (hR:RdAt W rd rs false) (hb:But rd w W)=>show Calls Tryz.prog 148 #[.pointer (some ⟨rd,0,none⟩)] W (fun e w' => e = .returned (I O v)∧RdAt w' rd rs.tail false∧But rd W w') from NM.out W hR hb)
   go_enter Tryz.func127,Tryz.ntmps127
   go_wp2_with (first|(go_at_call 146;(with_reducible refine cmo WD.out ?_);rintro e w1 ⟨rfl,hr1,hb1⟩;have HR1:=mh hr1;have HS1:=mh (HS.out.but hb1 hne);have HB1:=mh (HB0.out.trans hb1);have hz1:=hb1.size;rw[World.size_alloc]at hz1;clear hr1 hb1;obtain⟨k0,k1,k2,k3,f0,f1,f2,f3,hl1⟩:=HS1.out;have j1:=HR1.out.fl;have j2:=HR1.out.f1;have j3:=HR1.out.lt)|(go_at_call 148;(with_reducible refine cmo (NM.out _ HR1.out HB1.out) ?_);clear k0 k1 k2 k3 f0 f1 f2 f3;rintro e w2 ⟨rfl,hr2,hb2⟩;have HR2:=mh hr2;have HS2:=mh (HS1.out.but hb2 hne);have HB2:=mh (HB1.out.trans hb2);have hz2:=hb2.size;obtain⟨k0,k1,k2,k3,f0,f1,f2,f3,hl2⟩:=HS2.out;clear hr2 hb2)|fail)
   have QQ:=put4_at HS2.out (I O 4) (I O v) (I O 0) (.slice none 0 0);have FIN:=mh (term_some (t := .mk 4 v 0 []) (r:=ll rs.tail) (row:=⟨4,v,0,none,0,0⟩) hlt HB2.out (by rw[bs_ll];exact HR2.out) (TV.leaf _ _ 4 v 0));unfold put4 at QQ FIN;obtain⟨q0,q1,q2,q3⟩:=QQ;clear k0 k1 k2 k3;exact bodyPost_ret (v := .agg #[I O 4,I O v,I O 0,.slice none 0 0]) (by simp[results,Tryz.results127,go_sem,q0,q1,q2,q3]) rfl FIN.out
theorem term_op7 {f:Nat}(rd:Nat)(x:ByteArray)(rs:List ByteArray)(w:World)(h:RdAt w rd (x::rs) false)(hE:∀W,But rd w W→Env W)(eo:opOf x.data.toList=7):Calls Tryz.prog 127 #[.pointer (some ⟨rd,0,none⟩)] w (TermG rd (readT (f+1) (ll (x::rs))) w):=by
 have hlt:=h.lt;have hne:w.heap.size≠rd:=by omega
 have hA:Below w.heap.size w (w.alloc (.cells #[I O 0,I O 0,I O 0,.slice none 0 0] 28)):=(brf _ _).alloc mle _;have WD:=mh (rdword_any rd (x::rs) false _ (h.below hA));have HS:=mh (Res4.new w 28);have HB0:=mh (But.of_below (t:=rd) hA);have HE:=mh (fun (W W' : World) (hb:But rd w W) (hb2:But rd W W')=>hE W' (hb.trans hb2));unfold WordG at WD;have hlen:=h.len;have hx:=ba_word (opOf_word eo (by decide));have WD:=mh (show Calls Tryz.prog 146 #[.pointer (some ⟨rd,0,none⟩)] ((w.alloc (.cells #[I O 0,I O 0,I O 0,.slice none 0 0] 28))) (fun e w' => e = .returned (.string ⟨#[98,101,102,111,114,101]⟩)∧RdAt w' rd rs false∧But rd ((w.alloc (.cells #[I O 0,I O 0,I O 0,.slice none 0 0] 28))) w') from hx▸WD.out);rw[readT_before (f:=f) (rs:=rs) eo];have NM:=mh (fun (W:World) (hR:RdAt W rd rs false) (hb:But rd w W)=>rdnumber_any rd rs false W hR (fun W2 hb2=>HE.out W W2 hb hb2));have MM:=mh (fun (W:World) (fl:Bool) (hR:RdAt W rd rs.tail fl)=>rdmark_any rd rs.tail fl W hR);unfold NumRG at NM MM;obtain⟨nv,env⟩:∃nv,numM (hdW rs).data.toList=nv:=⟨_,rfl⟩;obtain⟨mv,emv⟩:∃mv,letter (hdW rs.tail).data.toList=mv:=⟨_,rfl⟩;rw[env]at NM ⊢;rw[emv]at MM ⊢;clear h hE hA eo hx env emv HE
 cases nv with
 | none =>
   cases mv with
   | none =>
     have NM:=mh (fun (W:World) (hR:RdAt W rd rs false) (hb:But rd w W)=>show Calls Tryz.prog 147 #[.pointer (some ⟨rd,0,none⟩)] W (fun e w' => e = .returned (I O 0)∧RdAt w' rd rs.tail true∧But rd W w') from NM.out W hR hb);have MM:=mh (fun (W:World) (hR:RdAt W rd rs.tail true)=>show Calls Tryz.prog 148 #[.pointer (some ⟨rd,0,none⟩)] W (fun e w' => e = .returned (I O 0)∧RdAt w' rd rs.tail.tail true∧But rd W w') from MM.out W true hR)
     go_enter Tryz.func127,Tryz.ntmps127
     go_wp2_with (first|(go_at_call 146;(with_reducible refine cmo WD.out ?_);rintro e w1 ⟨rfl,hr1,hb1⟩;have HR1:=mh hr1;have HS1:=mh (HS.out.but hb1 hne);have HB1:=mh (HB0.out.trans hb1);have hz1:=hb1.size;rw[World.size_alloc]at hz1;clear hr1 hb1;obtain⟨k0,k1,k2,k3,f0,f1,f2,f3,hl1⟩:=HS1.out;have j1:=HR1.out.fl;have j2:=HR1.out.f1;have j3:=HR1.out.lt)|(go_at_call 147;(with_reducible refine cmo (NM.out _ HR1.out HB1.out) ?_);clear k0 k1 k2 k3 f0 f1 f2 f3;rintro e w2 ⟨rfl,hr2,hb2⟩;have HR2:=mh hr2;have HS2:=mh (HS1.out.but hb2 hne);have HB2:=mh (HB1.out.trans hb2);have hz2:=hb2.size;obtain⟨k0,k1,k2,k3,f0,f1,f2,f3,hl2⟩:=HS2.out;clear hr2 hb2)|(go_at_call 148;(with_reducible refine cmo (MM.out _ HR2.out) ?_);clear k0 k1 k2 k3 f0 f1 f2 f3;rintro e w3 ⟨rfl,hr3,hb3⟩;have HR3:=mh hr3;have HS3:=mh (HS2.out.but hb3 hne);have HB3:=mh (HB2.out.trans hb3);have hz3:=hb3.size;obtain⟨k0,k1,k2,k3,f0,f1,f2,f3,hl3⟩:=HS3.out;clear hr3 hb3)|fail)
     have QQ:=put4_at HS3.out (I O 7) (I O 0) (I O 0) (.slice none 0 0);have FIN:=mh (term_none ⟨7,0,0,none,0,0⟩ hlt HB3.out HR3.out);unfold put4 at QQ FIN;obtain⟨q0,q1,q2,q3⟩:=QQ;clear k0 k1 k2 k3;exact bodyPost_ret (v := .agg #[I O 7,I O 0,I O 0,.slice none 0 0]) (by simp[results,Tryz.results127,go_sem,q0,q1,q2,q3]) rfl FIN.out
   | some m =>
     have NM:=mh (fun (W:World) (hR:RdAt W rd rs false) (hb:But rd w W)=>show Calls Tryz.prog 147 #[.pointer (some ⟨rd,0,none⟩)] W (fun e w' => e = .returned (I O 0)∧RdAt w' rd rs.tail true∧But rd W w') from NM.out W hR hb);have MM:=mh (fun (W:World) (hR:RdAt W rd rs.tail true)=>show Calls Tryz.prog 148 #[.pointer (some ⟨rd,0,none⟩)] W (fun e w' => e = .returned (I O m)∧RdAt w' rd rs.tail.tail true∧But rd W w') from MM.out W true hR)
     go_enter Tryz.func127,Tryz.ntmps127
     go_wp2_with (first|(go_at_call 146;(with_reducible refine cmo WD.out ?_);rintro e w1 ⟨rfl,hr1,hb1⟩;have HR1:=mh hr1;have HS1:=mh (HS.out.but hb1 hne);have HB1:=mh (HB0.out.trans hb1);have hz1:=hb1.size;rw[World.size_alloc]at hz1;clear hr1 hb1;obtain⟨k0,k1,k2,k3,f0,f1,f2,f3,hl1⟩:=HS1.out;have j1:=HR1.out.fl;have j2:=HR1.out.f1;have j3:=HR1.out.lt)|(go_at_call 147;(with_reducible refine cmo (NM.out _ HR1.out HB1.out) ?_);clear k0 k1 k2 k3 f0 f1 f2 f3;rintro e w2 ⟨rfl,hr2,hb2⟩;have HR2:=mh hr2;have HS2:=mh (HS1.out.but hb2 hne);have HB2:=mh (HB1.out.trans hb2);have hz2:=hb2.size;obtain⟨k0,k1,k2,k3,f0,f1,f2,f3,hl2⟩:=HS2.out;clear hr2 hb2)|(go_at_call 148;(with_reducible refine cmo (MM.out _ HR2.out) ?_);clear k0 k1 k2 k3 f0 f1 f2 f3;rintro e w3 ⟨rfl,hr3,hb3⟩;have HR3:=mh hr3;have HS3:=mh (HS2.out.but hb3 hne);have HB3:=mh (HB2.out.trans hb3);have hz3:=hb3.size;obtain⟨k0,k1,k2,k3,f0,f1,f2,f3,hl3⟩:=HS3.out;clear hr3 hb3)|fail)
     have QQ:=put4_at HS3.out (I O 7) (I O 0) (I O m) (.slice none 0 0);have FIN:=mh (term_none ⟨7,0,m,none,0,0⟩ hlt HB3.out HR3.out);unfold put4 at QQ FIN;obtain⟨q0,q1,q2,q3⟩:=QQ;clear k0 k1 k2 k3;exact bodyPost_ret (v := .agg #[I O 7,I O 0,I O m,.slice none 0 0]) (by simp[results,Tryz.results127,go_sem,q0,q1,q2,q3]) rfl FIN.out
 | some v =>
   cases mv with
   | none =>
     have NM:=mh (fun (W:World) (hR:RdAt W rd rs false) (hb:But rd w W)=>show Calls Tryz.prog 147 #[.pointer (some ⟨rd,0,none⟩)] W (fun e w' => e = .returned (I O v)∧RdAt w' rd rs.tail false∧But rd W w') from NM.out W hR hb);have MM:=mh (fun (W:World) (hR:RdAt W rd rs.tail false)=>show Calls Tryz.prog 148 #[.pointer (some ⟨rd,0,none⟩)] W (fun e w' => e = .returned (I O 0)∧RdAt w' rd rs.tail.tail true∧But rd W w') from MM.out W false hR)
     go_enter Tryz.func127,Tryz.ntmps127
     go_wp2_with (first|(go_at_call 146;(with_reducible refine cmo WD.out ?_);rintro e w1 ⟨rfl,hr1,hb1⟩;have HR1:=mh hr1;have HS1:=mh (HS.out.but hb1 hne);have HB1:=mh (HB0.out.trans hb1);have hz1:=hb1.size;rw[World.size_alloc]at hz1;clear hr1 hb1;obtain⟨k0,k1,k2,k3,f0,f1,f2,f3,hl1⟩:=HS1.out;have j1:=HR1.out.fl;have j2:=HR1.out.f1;have j3:=HR1.out.lt)|(go_at_call 147;(with_reducible refine cmo (NM.out _ HR1.out HB1.out) ?_);clear k0 k1 k2 k3 f0 f1 f2 f3;rintro e w2 ⟨rfl,hr2,hb2⟩;have HR2:=mh hr2;have HS2:=mh (HS1.out.but hb2 hne);have HB2:=mh (HB1.out.trans hb2);have hz2:=hb2.size;obtain⟨k0,k1,k2,k3,f0,f1,f2,f3,hl2⟩:=HS2.out;clear hr2 hb2)|(go_at_call 148;(with_reducible refine cmo (MM.out _ HR2.out) ?_);clear k0 k1 k2 k3 f0 f1 f2 f3;rintro e w3 ⟨rfl,hr3,hb3⟩;have HR3:=mh hr3;have HS3:=mh (HS2.out.but hb3 hne);have HB3:=mh (HB2.out.trans hb3);have hz3:=hb3.size;obtain⟨k0,k1,k2,k3,f0,f1,f2,f3,hl3⟩:=HS3.out;clear hr3 hb3)|fail)
     have QQ:=put4_at HS3.out (I O 7) (I O v) (I O 0) (.slice none 0 0);have FIN:=mh (term_none ⟨7,v,0,none,0,0⟩ hlt HB3.out HR3.out);unfold put4 at QQ FIN;obtain⟨q0,q1,q2,q3⟩:=QQ;clear k0 k1 k2 k3;exact bodyPost_ret (v := .agg #[I O 7,I O v,I O 0,.slice none 0 0]) (by simp[results,Tryz.results127,go_sem,q0,q1,q2,q3]) rfl FIN.out
   | some m =>
     have NM:=mh (fun (W:World) (hR:RdAt W rd rs false) (hb:But rd w W)=>show Calls Tryz.prog 147 #[.pointer (some ⟨rd,0,none⟩)] W (fun e w' => e = .returned (I O v)∧RdAt w' rd rs.tail false∧But rd W w') from NM.out W hR hb);have MM:=mh (fun (W:World) (hR:RdAt W rd rs.tail false)=>show Calls Tryz.prog 148 #[.pointer (some ⟨rd,0,none⟩)] W (fun e w' => e = .returned (I O m)∧RdAt w' rd rs.tail.tail false∧But rd W w') from MM.out W false hR)
     go_enter Tryz.func127,Tryz.ntmps127
     go_wp2_with (first|(go_at_call 146;(with_reducible refine cmo WD.out ?_);rintro e w1 ⟨rfl,hr1,hb1⟩;have HR1:=mh hr1;have HS1:=mh (HS.out.but hb1 hne);have HB1:=mh (HB0.out.trans hb1);have hz1:=hb1.size;rw[World.size_alloc]at hz1;clear hr1 hb1;obtain⟨k0,k1,k2,k3,f0,f1,f2,f3,hl1⟩:=HS1.out;have j1:=HR1.out.fl;have j2:=HR1.out.f1;have j3:=HR1.out.lt)|(go_at_call 147;(with_reducible refine cmo (NM.out _ HR1.out HB1.out) ?_);clear k0 k1 k2 k3 f0 f1 f2 f3;rintro e w2 ⟨rfl,hr2,hb2⟩;have HR2:=mh hr2;have HS2:=mh (HS1.out.but hb2 hne);have HB2:=mh (HB1.out.trans hb2);have hz2:=hb2.size;obtain⟨k0,k1,k2,k3,f0,f1,f2,f3,hl2⟩:=HS2.out;clear hr2 hb2)|(go_at_call 148;(with_reducible refine cmo (MM.out _ HR2.out) ?_);clear k0 k1 k2 k3 f0 f1 f2 f3;rintro e w3 ⟨rfl,hr3,hb3⟩;have HR3:=mh hr3;have HS3:=mh (HS2.out.but hb3 hne);have HB3:=mh (HB2.out.trans hb3);have hz3:=hb3.size;obtain⟨k0,k1,k2,k3,f0,f1,f2,f3,hl3⟩:=HS3.out;clear hr3 hb3)|fail)
     have QQ:=put4_at HS3.out (I O 7) (I O v) (I O m) (.slice none 0 0);have FIN:=mh (term_some (t := .mk 7 v m []) (r:=ll rs.tail.tail) (row:=⟨7,v,m,none,0,0⟩) hlt HB3.out (by rw[bs_ll];exact HR3.out) (TV.leaf _ _ 7 v m));unfold put4 at QQ FIN;obtain⟨q0,q1,q2,q3⟩:=QQ;clear k0 k1 k2 k3;exact bodyPost_ret (v := .agg #[I O 7,I O v,I O m,.slice none 0 0]) (by simp[results,Tryz.results127,go_sem,q0,q1,q2,q3]) rfl FIN.out
end Go.Proofs.YtbcmabolkkfgfaaGreatDoor
