/- Packed. -/
import Derived.Test.YtbcmabolkkfgfaaGreatDoorQ10
set_option maxRecDepth 100000
set_option maxHeartbeats 16000000
open Go.Value renaming int → I
open Go.IntKind renaming i64 → O
namespace Go.Proofs.YtbcmabolkkfgfaaGreatDoor
open Go.RowKit Te
theorem term_op9 {f:Nat}(HL:ListAtR f)(rd:Nat)(x:ByteArray)(rs:List ByteArray)(w:World)(h:RdAt w rd (x::rs) false)(hE:∀W,But rd w W→Env W)(hf2:2*rs.length+1≤f)(eo:opOf x.data.toList=9):Calls Tryz.prog 127 #[.pointer (some ⟨rd,0,none⟩)] w (TermG rd (readT (f+1) (ll (x::rs))) w):=by
 have hlt:=h.lt;have hne:w.heap.size≠rd:=by omega
 have hA:Below w.heap.size w (w.alloc (.cells #[I O 0,I O 0,I O 0,.slice none 0 0] 28)):=(brf _ _).alloc mle _;have WD:=mh (rdword_any rd (x::rs) false _ (h.below hA));have HS:=mh (Res4.new w 28);have HB0:=mh (But.of_below (t:=rd) hA);have HE:=mh (fun (W W' : World) (hb:But rd w W) (hb2:But rd W W')=>hE W' (hb.trans hb2));unfold WordG at WD;have hlen:=h.len;have hx:=ba_word (opOf_word eo (by decide));have WD:=mh (show Calls Tryz.prog 146 #[.pointer (some ⟨rd,0,none⟩)] ((w.alloc (.cells #[I O 0,I O 0,I O 0,.slice none 0 0] 28))) (fun e w' => e = .returned (.string ⟨#[97,110,100]⟩)∧RdAt w' rd rs false∧But rd ((w.alloc (.cells #[I O 0,I O 0,I O 0,.slice none 0 0] 28))) w') from hx▸WD.out);rw[readT_list (f:=f) (rs:=rs) 9 eo (by decide)];have LS:=mh (fun (W:World) (hR:RdAt W rd rs false) (hb:But rd w W)=>HL rd rs W hR (fun W2 hb2=>HE.out W W2 hb hb2) (by omega));unfold ListG at LS;obtain⟨lv,elv⟩:∃lv,listR f (ll rs)=lv:=⟨_,rfl⟩;rw[elv]at LS ⊢;clear h hE HL hA eo hx elv HE
 cases lv with
 | none =>
   go_enter Tryz.func127,Tryz.ntmps127
   go_wp2_with (first|(go_at_call 146;(with_reducible refine cmo WD.out ?_);rintro e w1 ⟨rfl,hr1,hb1⟩;have HR1:=mh hr1;have HS1:=mh (HS.out.but hb1 hne);have HB1:=mh (HB0.out.trans hb1);have hz1:=hb1.size;rw[World.size_alloc]at hz1;clear hr1 hb1;obtain⟨k0,k1,k2,k3,f0,f1,f2,f3,hl1⟩:=HS1.out;have j1:=HR1.out.fl;have j2:=HR1.out.f1;have j3:=HR1.out.lt)|(go_at_call 149;(with_reducible refine cmo (LS.out _ HR1.out HB1.out) ?_);clear k0 k1 k2 k3 f0 f1 f2 f3;rintro e w2 ⟨pp,pn,pc,rfl,hb2,hk2⟩;have HK2:=mh hk2;have HS2:=mh (HS1.out.but hb2 hne);have HB2:=mh (HB1.out.trans hb2);have hz2:=hb2.size;obtain⟨k0,k1,k2,k3,f0,f1,f2,f3,hl2⟩:=HS2.out;clear hk2 hb2)|fail)
   obtain⟨ws2,hr2⟩:=(show ∃ws', RdAt w2 rd ws' true from HK2.out);have QQ:=put4_at HS2.out (I O 9) (I O 0) (I O 0) (.slice pp pn pc);have FIN:=mh (term_none ⟨9,0,0,pp,pn,pc⟩ hlt HB2.out hr2);unfold put4 at QQ FIN;obtain⟨q0,q1,q2,q3⟩:=QQ;clear k0 k1 k2 k3;exact bodyPost_ret (v := .agg #[I O 9,I O 0,I O 0,.slice pp pn pc]) (by simp[results,Tryz.results127,go_sem,q0,q1,q2,q3]) rfl FIN.out
 | some kr =>
   obtain⟨K,r2⟩:=kr
   go_enter Tryz.func127,Tryz.ntmps127
   go_wp2_with (first|(go_at_call 146;(with_reducible refine cmo WD.out ?_);rintro e w1 ⟨rfl,hr1,hb1⟩;have HR1:=mh hr1;have HS1:=mh (HS.out.but hb1 hne);have HB1:=mh (HB0.out.trans hb1);have hz1:=hb1.size;rw[World.size_alloc]at hz1;clear hr1 hb1;obtain⟨k0,k1,k2,k3,f0,f1,f2,f3,hl1⟩:=HS1.out;have j1:=HR1.out.fl;have j2:=HR1.out.f1;have j3:=HR1.out.lt)|(go_at_call 149;(with_reducible refine cmo (LS.out _ HR1.out HB1.out) ?_);clear k0 k1 k2 k3 f0 f1 f2 f3;rintro e w2 ⟨pp,pn,pc,rfl,hb2,hk2⟩;have HK2:=mh hk2;have HS2:=mh (HS1.out.but hb2 hne);have HB2:=mh (HB1.out.trans hb2);have hz2:=hb2.size;obtain⟨k0,k1,k2,k3,f0,f1,f2,f3,hl2⟩:=HS2.out;clear hk2 hb2)|fail)
   obtain⟨hr2,e1,e2,e3,d,e4⟩:=(show RdAt w2 rd (r2.map bs) false∧pn=K.length∧pn≤pc∧(pp=none→pc=0)∧∃d,TmsAt (NewQ w1.heap.size) w2 d pp K from HK2.out);have hv:TV (NewQ (w.heap.size+1)) w2 d ⟨9,0,0,pp,pn,pc⟩ (.mk 9 0 0 K):=⟨⟨rfl,rfl,rfl,e1,e2,e3⟩,e4.change mle fun b hq _=>⟨rfl,by unfold NewQ at *;omega⟩⟩;have QQ:=put4_at HS2.out (I O 9) (I O 0) (I O 0) (.slice pp pn pc);have FIN:=mh (term_some (row:=⟨9,0,0,pp,pn,pc⟩) hlt HB2.out hr2 hv);unfold put4 at QQ FIN;obtain⟨q0,q1,q2,q3⟩:=QQ;clear k0 k1 k2 k3;exact bodyPost_ret (v := .agg #[I O 9,I O 0,I O 0,.slice pp pn pc]) (by simp[results,Tryz.results127,go_sem,q0,q1,q2,q3]) rfl FIN.out
theorem term_op10 {f:Nat}(HL:ListAtR f)(rd:Nat)(x:ByteArray)(rs:List ByteArray)(w:World)(h:RdAt w rd (x::rs) false)(hE:∀W,But rd w W→Env W)(hf2:2*rs.length+1≤f)(eo:opOf x.data.toList=10):Calls Tryz.prog 127 #[.pointer (some ⟨rd,0,none⟩)] w (TermG rd (readT (f+1) (ll (x::rs))) w):=by
 have hlt:=h.lt;have hne:w.heap.size≠rd:=by omega
 have hA:Below w.heap.size w (w.alloc (.cells #[I O 0,I O 0,I O 0,.slice none 0 0] 28)):=(brf _ _).alloc mle _;have WD:=mh (rdword_any rd (x::rs) false _ (h.below hA));have HS:=mh (Res4.new w 28);have HB0:=mh (But.of_below (t:=rd) hA);have HE:=mh (fun (W W' : World) (hb:But rd w W) (hb2:But rd W W')=>hE W' (hb.trans hb2));unfold WordG at WD;have hlen:=h.len;have hx:=ba_word (opOf_word eo (by decide));have WD:=mh (show Calls Tryz.prog 146 #[.pointer (some ⟨rd,0,none⟩)] ((w.alloc (.cells #[I O 0,I O 0,I O 0,.slice none 0 0] 28))) (fun e w' => e = .returned (.string ⟨#[111,114]⟩)∧RdAt w' rd rs false∧But rd ((w.alloc (.cells #[I O 0,I O 0,I O 0,.slice none 0 0] 28))) w') from hx▸WD.out);rw[readT_list (f:=f) (rs:=rs) 10 eo (by decide)];have LS:=mh (fun (W:World) (hR:RdAt W rd rs false) (hb:But rd w W)=>HL rd rs W hR (fun W2 hb2=>HE.out W W2 hb hb2) (by omega));unfold ListG at LS;obtain⟨lv,elv⟩:∃lv,listR f (ll rs)=lv:=⟨_,rfl⟩;rw[elv]at LS ⊢;clear h hE HL hA eo hx elv HE
 cases lv with
 | none =>
   go_enter Tryz.func127,Tryz.ntmps127
   go_wp2_with (first|(go_at_call 146;(with_reducible refine cmo WD.out ?_);rintro e w1 ⟨rfl,hr1,hb1⟩;have HR1:=mh hr1;have HS1:=mh (HS.out.but hb1 hne);have HB1:=mh (HB0.out.trans hb1);have hz1:=hb1.size;rw[World.size_alloc]at hz1;clear hr1 hb1;obtain⟨k0,k1,k2,k3,f0,f1,f2,f3,hl1⟩:=HS1.out;have j1:=HR1.out.fl;have j2:=HR1.out.f1;have j3:=HR1.out.lt)|(go_at_call 149;(with_reducible refine cmo (LS.out _ HR1.out HB1.out) ?_);clear k0 k1 k2 k3 f0 f1 f2 f3;rintro e w2 ⟨pp,pn,pc,rfl,hb2,hk2⟩;have HK2:=mh hk2;have HS2:=mh (HS1.out.but hb2 hne);have HB2:=mh (HB1.out.trans hb2);have hz2:=hb2.size;obtain⟨k0,k1,k2,k3,f0,f1,f2,f3,hl2⟩:=HS2.out;clear hk2 hb2)|fail)
   obtain⟨ws2,hr2⟩:=(show ∃ws', RdAt w2 rd ws' true from HK2.out);have QQ:=put4_at HS2.out (I O 10) (I O 0) (I O 0) (.slice pp pn pc);have FIN:=mh (term_none ⟨10,0,0,pp,pn,pc⟩ hlt HB2.out hr2);unfold put4 at QQ FIN;obtain⟨q0,q1,q2,q3⟩:=QQ;clear k0 k1 k2 k3;exact bodyPost_ret (v := .agg #[I O 10,I O 0,I O 0,.slice pp pn pc]) (by simp[results,Tryz.results127,go_sem,q0,q1,q2,q3]) rfl FIN.out
 | some kr =>
   obtain⟨K,r2⟩:=kr
   go_enter Tryz.func127,Tryz.ntmps127
   go_wp2_with (first|(go_at_call 146;(with_reducible refine cmo WD.out ?_);rintro e w1 ⟨rfl,hr1,hb1⟩;have HR1:=mh hr1;have HS1:=mh (HS.out.but hb1 hne);have HB1:=mh (HB0.out.trans hb1);have hz1:=hb1.size;rw[World.size_alloc]at hz1;clear hr1 hb1;obtain⟨k0,k1,k2,k3,f0,f1,f2,f3,hl1⟩:=HS1.out;have j1:=HR1.out.fl;have j2:=HR1.out.f1;have j3:=HR1.out.lt)|(go_at_call 149;(with_reducible refine cmo (LS.out _ HR1.out HB1.out) ?_);clear k0 k1 k2 k3 f0 f1 f2 f3;rintro e w2 ⟨pp,pn,pc,rfl,hb2,hk2⟩;have HK2:=mh hk2;have HS2:=mh (HS1.out.but hb2 hne);have HB2:=mh (HB1.out.trans hb2);have hz2:=hb2.size;obtain⟨k0,k1,k2,k3,f0,f1,f2,f3,hl2⟩:=HS2.out;clear hk2 hb2)|fail)
   obtain⟨hr2,e1,e2,e3,d,e4⟩:=(show RdAt w2 rd (r2.map bs) false∧pn=K.length∧pn≤pc∧(pp=none→pc=0)∧∃d,TmsAt (NewQ w1.heap.size) w2 d pp K from HK2.out);have hv:TV (NewQ (w.heap.size+1)) w2 d ⟨10,0,0,pp,pn,pc⟩ (.mk 10 0 0 K):=⟨⟨rfl,rfl,rfl,e1,e2,e3⟩,e4.change mle fun b hq _=>⟨rfl,by unfold NewQ at *;omega⟩⟩;have QQ:=put4_at HS2.out (I O 10) (I O 0) (I O 0) (.slice pp pn pc);have FIN:=mh (term_some (row:=⟨10,0,0,pp,pn,pc⟩) hlt HB2.out hr2 hv);unfold put4 at QQ FIN;obtain⟨q0,q1,q2,q3⟩:=QQ;clear k0 k1 k2 k3;exact bodyPost_ret (v := .agg #[I O 10,I O 0,I O 0,.slice pp pn pc]) (by simp[results,Tryz.results127,go_sem,q0,q1,q2,q3]) rfl FIN.out
theorem term_op11 {f:Nat}(HT:TermAtR f)(rd:Nat)(x:ByteArray)(rs:List ByteArray)(w:World)(h:RdAt w rd (x::rs) false)(hE:∀W,But rd w W→Env W)(hf2:2*rs.length+1≤f)(eo:opOf x.data.toList=11):Calls Tryz.prog 127 #[.pointer (some ⟨rd,0,none⟩)] w (TermG rd (readT (f+1) (ll (x::rs))) w):=by
 have hlt:=h.lt;have hne:w.heap.size≠rd:=by omega
 have hA:Below w.heap.size w (w.alloc (.cells #[I O 0,I O 0,I O 0,.slice none 0 0] 28)):=(brf _ _).alloc mle _;have WD:=mh (rdword_any rd (x::rs) false _ (h.below hA));have HS:=mh (Res4.new w 28);have HB0:=mh (But.of_below (t:=rd) hA);have HE:=mh (fun (W W' : World) (hb:But rd w W) (hb2:But rd W W')=>hE W' (hb.trans hb2));unfold WordG at WD;have hlen:=h.len;have hx:=ba_word (opOf_word eo (by decide));have WD:=mh (show Calls Tryz.prog 146 #[.pointer (some ⟨rd,0,none⟩)] ((w.alloc (.cells #[I O 0,I O 0,I O 0,.slice none 0 0] 28))) (fun e w' => e = .returned (.string ⟨#[110,111,116]⟩)∧RdAt w' rd rs false∧But rd ((w.alloc (.cells #[I O 0,I O 0,I O 0,.slice none 0 0] 28))) w') from hx▸WD.out);rw[readT_not (f:=f) (rs:=rs) eo];have TS:=mh (fun (W:World) (hR:RdAt W rd rs false) (hb:But rd w W)=>HT rd rs W hR (fun W2 hb2=>HE.out W W2 hb hb2) (by omega));unfold TermG at TS;obtain⟨tv,etv⟩:∃tv,readT f (ll rs)=tv:=⟨_,rfl⟩;rw[etv]at TS ⊢;clear h hE HT hA eo hx etv HE
 cases tv with
 | none =>
   go_enter Tryz.func127,Tryz.ntmps127
   go_wp2_with (first|(go_at_call 146;(with_reducible refine cmo WD.out ?_);rintro e w1 ⟨rfl,hr1,hb1⟩;have HR1:=mh hr1;have HS1:=mh (HS.out.but hb1 hne);have HB1:=mh (HB0.out.trans hb1);have hz1:=hb1.size;rw[World.size_alloc]at hz1;clear hr1 hb1;obtain⟨k0,k1,k2,k3,f0,f1,f2,f3,hl1⟩:=HS1.out;have j1:=HR1.out.fl;have j2:=HR1.out.f1;have j3:=HR1.out.lt)|(go_at_call 127;(with_reducible refine cmo (TS.out _ HR1.out HB1.out) ?_);clear k0 k1 k2 k3 f0 f1 f2 f3;rintro e w2 ⟨row,rfl,hb2,hk2⟩;have HK2:=mh hk2;have HS2:=mh (HS1.out.but hb2 hne);have HB2:=mh (HB1.out.trans hb2);have hz2:=hb2.size;obtain⟨k0,k1,k2,k3,f0,f1,f2,f3,hl2⟩:=HS2.out;clear hk2 hb2)|fail)
   obtain⟨ws2,hr2⟩:=(show ∃ws', RdAt w2 rd ws' true from HK2.out);have QQ:=put4_new HS2.out (I O 11) (I O 0) (I O 0) (.slice (some ⟨w2.heap.size,0,none⟩) 1 1) (.cells #[I O row.op,I O row.num,I O row.more,.slice row.p row.n row.c] 28);have FIN:=mh (term_new (term_none ⟨11,0,0,some ⟨w2.heap.size,0,none⟩,1,1⟩ hlt HB2.out hr2) (.cells #[I O row.op,I O row.num,I O row.more,.slice row.p row.n row.c] 28));unfold put4 at QQ FIN;obtain⟨q0,q1,q2,q3⟩:=QQ;clear k0 k1 k2 k3;exact bodyPost_ret (v := .agg #[I O 11,I O 0,I O 0,.slice (some ⟨w2.heap.size,0,none⟩) 1 1]) (by simp[results,Tryz.results127,go_sem,q0,q1,q2,q3]) rfl FIN.out
 | some kr =>
   obtain⟨k,r2⟩:=kr
   go_enter Tryz.func127,Tryz.ntmps127
   go_wp2_with (first|(go_at_call 146;(with_reducible refine cmo WD.out ?_);rintro e w1 ⟨rfl,hr1,hb1⟩;have HR1:=mh hr1;have HS1:=mh (HS.out.but hb1 hne);have HB1:=mh (HB0.out.trans hb1);have hz1:=hb1.size;rw[World.size_alloc]at hz1;clear hr1 hb1;obtain⟨k0,k1,k2,k3,f0,f1,f2,f3,hl1⟩:=HS1.out;have j1:=HR1.out.fl;have j2:=HR1.out.f1;have j3:=HR1.out.lt)|(go_at_call 127;(with_reducible refine cmo (TS.out _ HR1.out HB1.out) ?_);clear k0 k1 k2 k3 f0 f1 f2 f3;rintro e w2 ⟨row,rfl,hb2,hk2⟩;have HK2:=mh hk2;have HS2:=mh (HS1.out.but hb2 hne);have HB2:=mh (HB1.out.trans hb2);have hz2:=hb2.size;obtain⟨k0,k1,k2,k3,f0,f1,f2,f3,hl2⟩:=HS2.out;clear hk2 hb2)|fail)
   obtain⟨hr2,d,hv⟩:=(show RdAt w2 rd (r2.map bs) false∧∃d,TV (NewQ w1.heap.size) w2 d row k from HK2.out);have hv3:TV (NewQ (w.heap.size+1)) w2 d row k:=hv.change mle fun b hq _=>⟨rfl,by unfold NewQ at *;omega⟩
   have QQ:=put4_new HS2.out (I O 11) (I O 0) (I O 0) (.slice (some ⟨w2.heap.size,0,none⟩) 1 1) (.cells #[I O row.op,I O row.num,I O row.more,.slice row.p row.n row.c] 28);have FIN:=mh (term_not 28 hlt HB2.out hl2 hr2 hv3);unfold put4 at QQ FIN;obtain⟨q0,q1,q2,q3⟩:=QQ;clear k0 k1 k2 k3;exact bodyPost_ret (v := .agg #[I O 11,I O 0,I O 0,.slice (some ⟨w2.heap.size,0,none⟩) 1 1]) (by simp[results,Tryz.results127,go_sem,q0,q1,q2,q3]) rfl FIN.out
theorem info_term:(Tryz.prog.info? 28).map (fun i=>(i.zero,i.size,i.bytes))=some (some (.agg #[I O 0,I O 0,I O 0,.slice none 0 0]),4,48):=by kernel_rfl
theorem el_term:Elem ST Tryz.prog 28 26 48:=by
 obtain⟨i0,h1,h2,h3,h4⟩:=info_parts info_term;exact⟨⟨i0,_,h1,h2,h3,h4,rfl⟩,Tryz.underlying26⟩
def KQ (B:Nat) (v:Value):Nat→Prop:=fun b=>B≤b∧v.ownBlock≠some b
structure KB (B:Nat) (wr:World) (v:Value) (R:List RT) (K:List Tm) (d:Nat):Prop where
 hl:R.length=K.length
 rows:∀j (h:j<R.length) (h' : j<K.length),RT.Is R[j] K[j]∧TmsAt (KQ B v) wr d R[j].p K[j].kids
theorem KB.nil (B:Nat)(wr:World)(v:Value):KB B wr v [] [] 0:=⟨rfl,fun j h=>by simp at h⟩
theorem KB.change {B:Nat}{wr w' : World}{v:Value}{R:List RT}{K:List Tm}{d:Nat}(h:KB B wr v R K d)(hs:wr.heap.size≤w'.heap.size)(hb:∀b,B≤b→b<wr.heap.size→w'.heap[b]?=wr.heap[b]?):KB B w' v R K d :=
 ⟨h.hl,fun j h1 h2=>⟨(h.rows j h1 h2).1,(h.rows j h1 h2).2.change hs fun b hq hl=>⟨hb b hq.1 hl,hq⟩⟩⟩
theorem KB.but {B rd:Nat}{wr w' : World}{v:Value}{R:List RT}{K:List Tm}{d:Nat}(h:KB B wr v R K d)(hb:But rd wr w')(hlt:rd<B):KB B w' v R K d:=h.change hb.size fun b hB hl=>hb.block b hl (by omega)
theorem KB.add {B:Nat}{w5 w6:World}{v v6:Value}{R:List RT}{K:List Tm}{d e:Nat}(h:KB B w5 v R K d){y:RT}{t:Tm}(hy:TV (KQ B v) w5 e y t){G:Nat}(hG:w5.heap.size≤G)(hap:Appends w5 w6 B G v v6):KB B w6 v6 (R ++ [y]) (K ++ [t]) (max d e):=by
 have key:∀b,KQ B v b→b<w5.heap.size→w6.heap[b]?=w5.heap[b]?∧KQ B v6 b:=fun b hq hl=>by
  refine⟨hap.far b hl hq.2,hq.1,fun e=>?_⟩
  rcases hap.block with e3|e3
  ·rw[e3]at e;exact hq.2 e
  ·rw[e3]at e;injection e with e;omega
 refine⟨by rw[lap,lap,h.hl];rfl,fun j h1 h2=>?_⟩
 by_cases hlt:j<R.length
 ·rw[List.getElem_append_left hlt,List.getElem_append_left (by rw[← h.hl];exact hlt)]
  have:=h.rows j hlt (by rw[← h.hl];exact hlt);exact⟨this.1,(this.2.change hap.size key).deep (Nat.le_max_left _ _)⟩
 ·have e:j=R.length:=by rw[lap]at h1;simp at h1;omega
  subst e;rw[List.getElem_append_right mle,List.getElem_append_right (by rw[h.hl];exact Nat.le_refl _)];simp only[Nat.sub_self,h.hl,List.getElem_cons_zero];exact⟨hy.is,(hy.at_.change hap.size key).deep (Nat.le_max_right _ _)⟩
theorem KB.at {B:Nat}{wr:World}{v:Value}{R:List RT}{K:List Tm}{d:Nat}(h:KB B wr v R K d)(hO:OwnR ST wr 28 B v R){Q:Nat→Prop}(hQ:∀b,B≤b→Q b) :
  ∃p c,v = .slice p K.length c∧K.length≤c∧(p=none→c=0)∧TmsAt Q wr (d+1) p K:=by
 obtain⟨p,c,e,h1,h2,h3, -,h4⟩:=hO.cut h.hl;refine⟨p,c,e,h3,fun e=>(h1 e).1,R,h.hl,h4,fun a ea => .inr (hQ _ (h2 a ea).2.2.1),fun j hj hj' => ⟨(h.rows j hj hj').1,(h.rows j hj hj').2.change mle fun b hq _=>⟨rfl,hQ b hq.1⟩⟩⟩
def ListSt (rd f:Nat) (w:World) (r0:List (List UInt8)) (gk:Nat) (v:Value) (wr:World):Prop :=
 ∃R:List RT,OwnR ST wr 28 w.heap.size v R∧But rd w wr∧R.length≤1000001 ∧
   ((∃(K:List Tm) (r:List (List UInt8)) (d:Nat),RdAt wr rd (r.map bs) false∧KB w.heap.size wr v R K d∧K.length+r.length≤1000000∧2*r.length+1≤gk∧gk≤f∧readL f r0=(readL gk r).map fun x=>(K++x.1,x.2)) ∨
    (readL f r0=none∧∃ws', RdAt wr rd ws' true))
theorem list_none {rd:Nat}{w wr:World}{v:Value}{R:List RT}{ws' : List ByteArray}(hO:OwnR ST wr 28 w.heap.size v R)(hb:But rd w wr)(hr:RdAt wr rd ws' true):ListG rd none w (.returned v) wr:=by
 obtain⟨p,c,rfl, -⟩:=hO.cut rfl;exact⟨p,_,c,rfl,hb,ws', hr⟩
theorem map_snoc {K:List Tm}{t:Tm}{o:Option (List Tm × List (List UInt8))}:(o.map fun x=>(t::x.1,x.2)).map (fun x=>(K++x.1,x.2))=o.map fun x=>(K ++ [t]++x.1,x.2):=by
 cases o with
 | none=>rfl
 | some x=>simp
theorem readL_term {g:Nat}{y:List UInt8}{r:List (List UInt8)}(hy:y ≠ [41]):readL (g+1) (y::r)=match readT g (y::r) with|some (t,r1)=>(readL g r1).map fun x=>(t::x.1,x.2)|none=>none:=by
 rw[readL,Te.stepL.eq_def];simp only;rw[if_neg hy]
 cases readT g (y::r) with
 | none=>rfl
 | some x =>
   obtain⟨t,r1⟩:=x;simp only
   cases readL g r1<;>rfl
theorem readL_close {g:Nat}{r:List (List UInt8)}:readL (g+1) ([41]::r)=some ([],r):=by rw[readL,Te.stepL.eq_def];simp
theorem readL_nil {g:Nat}:readL g []=none:=by cases g with|zero=>rw[readL]|succ g=>rw[readL,Te.stepL.eq_def]
theorem RdAt.below_B {B:Nat}{w w' : World}{rd:Nat}{ws:List ByteArray}{fl:Bool}(h:RdAt w rd ws fl)(hb:Below B w w')(hB:rd<B):RdAt w' rd ws fl:=by
 obtain⟨p,c,h1,h2,h3,h4,h5⟩:=h.row;refine⟨⟨p,c,(hb.cell (p:=⟨rd,0,none⟩) hB).trans h1,h2.blocks hb.size fun a e=>?_,h3,h4,h5⟩,(hb.cell (p:=⟨rd,1,none⟩) hB).trans h.fl,(hb.frozen (p:=⟨rd,0,none⟩) hB).trans h.f0,(hb.frozen (p:=⟨rd,1,none⟩) hB).trans h.f1,nll h.lt hb.size,h.wd,h.len⟩
 rcases h5 a e with h|h
 ·exact .inl h
 ·exact .inr (hb.block _ (by omega))
theorem list_step {f:Nat}(IH:∀g,g<f→TermAtR g):ListAtR f:=by
 intro rd ws w h hE hf;have hlt:=h.lt;have hlen:=h.len;have WD:=mh (rdword_any rd ws false _ h);unfold WordG at WD
 by_cases hp:hdW ws=⟨#[40]⟩
 rotate_left
 ·have hG:listR f (ll ws)=none:=by
   cases ws with
   | nil=>rfl
   | cons y r =>
     show(if y.data.toList = [40] then readL f (ll r) else none)=none
     exact if_neg (fun e=>hp (ba_word e))
  rw[hG];obtain⟨s,es⟩:∃s,hdW ws=s:=⟨_,rfl⟩;rw[es]at WD hp;have hs:(s.toList == [40])=false:=beq_no (fun e=>hp (ba_word e));have hs2:(s.toList != [40])=true:=by rw[bne,hs];rfl
  clear h hE IH hG es hp
  go_enter Tryz.func149,Tryz.ntmps149
  go_wp2_with (go_at_call 146;(with_reducible refine cmo WD.out ?_);rintro e w1 ⟨rfl,hr1,hb1⟩;have HF:=mh hr1.fail;have HB:=mh (hb1.trans hr1.fail.2);have j1:=hr1.fl;have j2:=hr1.f1;have j3:=hr1.lt;clear hr1 hb1)
  have q1:=HF.out.1.fl;refine wp_loop_rounds 1 ?_;rw[rounds_succ]
  go_wp2
  go_ret
  exact⟨none,0,0,rfl,HB.out,_,HF.out.1⟩
 obtain⟨r,rfl⟩:∃r,ws=⟨#[40]⟩::r:=by
  cases ws with
  | nil=>exact absurd (congrArg ByteArray.size hp) (by decide)
  | cons y r=>exact⟨r,by rw[show y=⟨#[40]⟩ from hp]⟩
 have hG:listR f (ll (⟨#[40]⟩::r))=readL f (ll r):=by
  show(if (⟨#[40]⟩:ByteArray).data.toList = [40] then readL f (ll r) else none)=readL f (ll r)
  rw[if_pos rfl]
 rw[hG];have WD:=mh (show Calls Tryz.prog 146 #[.pointer (some ⟨rd,0,none⟩)] w (fun e w' => e = .returned (.string ⟨#[40]⟩)∧RdAt w' rd r false∧But rd w w') from WD.out);rw[List.length_cons]at hf hlen;have IHH:=mh IH;have HE:=mh hE;obtain⟨r0,er0⟩:∃r0,ll r=r0:=⟨_,rfl⟩;have hrb:r=r0.map bs:=by rw[← er0,bs_ll]
 have hrl:r0.length=r.length:=by rw[← er0,ll_len]
 rw[hrb]at WD;rw[er0];have hfl:2*r0.length+1≤f:=by omega
 have hll:r0.length≤1000000:=by omega
 clear h hE IH hG er0 hrb hrl hf hlen hp
 go_enter Tryz.func149,Tryz.ntmps149
 go_wp2_with (go_at_call 146;(with_reducible refine cmo WD.out ?_);rintro e w1 ⟨rfl,hr1,hb1⟩;have HR1:=mh hr1;have HB1:=mh hb1;clear hr1 hb1)
 go_loopg [3] f (fun gk v wr=>∃vv:Value,vv=v∧ListSt rd f w r0 gk vv wr)
 case atStart=>exact⟨_,rfl, [],OwnR.nil _ _ _,HB1.out,by simp,.inl ⟨[],r0,0,HR1.out,KB.nil _ _ _,by simp;omega,hfl,Nat.le_refl _,by cases readL f r0<;>rfl⟩⟩
 case round =>
  clear HR1 HB1 WD;obtain⟨wo,rfl⟩:∃wo:World,wo=wr:=⟨_,rfl⟩;obtain⟨vv,hvv,R,hO,hb,hRl,hst⟩:=hrel;subst hvv;have HO:=mh hO;have HB:=mh hb;have hsz:=hb.size
  rcases hst with⟨K,rr,d,hr,hk,hkl,hg,hgf,heq⟩|⟨heq,ws', hr⟩
  ·have HR:=mh hr
   have HK:=mh hk;have HQ:=mh heq;have q1:=hr.fl;obtain⟨g,rfl⟩:∃g,gk=g+1:=⟨gk - 1,by omega⟩
   cases rr with
   | nil =>
     have hRK:=hk.hl;have HN:=mh (show readL f r0=none by rw[HQ.out,readL_nil];rfl);have TM:=mh (show Calls Tryz.prog 127 #[.pointer (some ⟨rd,0,none⟩)] wo (TermG rd none wo) from readT_nil g▸IHH.out g (by omega) rd [] wo hr (fun W hW=>HE.out W (HB.out.trans hW)) (by simp));obtain⟨p,c,e1, -⟩:=hr.row;simp only[List.map_nil,List.length_nil]at e1;clear hr hk heq hO hb
     go_wp2_with (first
      | (go_at_call 127;(with_reducible refine cmo TM.out ?_);rintro e w2 ⟨row,rfl,hb2,hk2⟩;have HK2:=mh hk2;have HB2:=mh hb2;have HO2:=mh (HO.out.but hb2 hlt);have hs2:=hb2.size;clear hk2 hb2)
      | (at_builtin;(refine OwnR.append el_term rfl (.tmp 33) (.tmp 36) rfl w.heap.size vv R row #[I O row.op,I O row.num,I O row.more,.slice row.p row.n row.c] rfl HO2.out rfl (by simp[Act.eval]) (by omega) (by omega) (by decide) ?_);intro v3 w3 hO3 hap3;have HO3:=mh hO3;have HAP:=mh hap3;clear hO3 hap3)
      | fail)
     have HF:=mh (show ListSt rd f w r0 g v3 w3 from by
      obtain⟨ws2,hr2⟩:=(show ∃ws', RdAt w2 rd ws' true from HK2.out)
      exact⟨R ++ [row],HO3.out,(HB.out.trans HB2.out).stpB HAP.out.below mle,by rw[lap];simp;omega,.inr ⟨HN.out,ws2,hr2.below_B HAP.out.below hlt⟩⟩)
     go_roundg g
     case measure=>omega
     case rel=>exact⟨_,rfl,HF.out⟩
   | cons y rr =>
     have hlr:rr.length+1+K.length≤1000000:=by rw[List.length_cons]at hkl;omega
     have hgr:2*rr.length+2≤g:=by rw[List.length_cons]at hg;omega
     obtain⟨b,off,c,e1,e2,e3,e4,e5,e6⟩:=hr.head;rw[List.length_map]at e1 e2;have hRK:=hk.hl;have e7:(0:Int)<((rr.length+1:Nat):Int):=by omega
     by_cases hy:y = [41]
     ·subst hy
      have WD:=mh (show Calls Tryz.prog 146 #[.pointer (some ⟨rd,0,none⟩)] wo (fun e w' => e = .returned (.string ⟨#[41]⟩)∧RdAt w' rd (rr.map bs) false∧But rd wo w') from rdword_any rd _ false wo hr);have HN:=mh (show readL f r0=some (K,rr) by rw[HQ.out,readL_close];simp);rw[HN.out]
      replace e4:wo.cell? ⟨b,off,none⟩=some (.string ⟨#[41]⟩):=e4
      clear hr hk heq hO hb e6
      go_wp2_with (go_at_call 146;(with_reducible refine cmo WD.out ?_);rintro e w1 ⟨rfl,hr1,hb1⟩;have HR1:=mh hr1;have HB1:=mh hb1;clear hr1 hb1)
      go_ret
      obtain⟨p,c,rfl,h1,h2,h3⟩:=(HK.out.but HB1.out hlt).at (HO.out.but HB1.out hlt) (Q:=NewQ w.heap.size) (fun b hb=>hb);exact⟨p,K.length,c,rfl,HB.out.trans HB1.out,HR1.out,rfl,h1,h2,_,h3⟩
     ·have hyb:((bs y).toList == [41])=false:=beq_no hy
      have TM:=mh (show Calls Tryz.prog 127 #[.pointer (some ⟨rd,0,none⟩)] wo (TermG rd (readT g (y::rr)) wo) from by
       have:=IHH.out g (by omega) rd ((y::rr).map bs) wo hr (fun W hW=>HE.out W (HB.out.trans hW)) (by rw[List.length_map,List.length_cons];omega);rw[ll_bs]at this
       exact this)
      have HQ2:=mh (HQ.out.trans (by rw[readL_term hy]));have HLN:=mh (fun t r1 (e:readT g (y::rr)=some (t,r1))=>(read_len g).1 _ _ _ e);obtain⟨s,es⟩:∃s,bs y=s:=⟨_,rfl⟩;rw[es]at hyb e4;obtain⟨tv,etv⟩:∃tv,readT g (y::rr)=tv:=⟨_,rfl⟩;rw[etv]at TM HQ2 HLN;clear hr hk heq hO hb e6 es etv
      cases tv with
      | none =>
        have HN:=mh (show readL f r0=none by rw[HQ2.out];rfl)
        go_wp2_with (first
      | (go_at_call 127;(with_reducible refine cmo TM.out ?_);rintro e w2 ⟨row,rfl,hb2,hk2⟩;have HK2:=mh hk2;have HB2:=mh hb2;have HO2:=mh (HO.out.but hb2 hlt);have hs2:=hb2.size;clear hk2 hb2)
      | (at_builtin;(refine OwnR.append el_term rfl (.tmp 33) (.tmp 36) rfl w.heap.size vv R row #[I O row.op,I O row.num,I O row.more,.slice row.p row.n row.c] rfl HO2.out rfl (by simp[Act.eval]) (by omega) (by omega) (by decide) ?_);intro v3 w3 hO3 hap3;have HO3:=mh hO3;have HAP:=mh hap3;clear hO3 hap3)
      | fail)
        have HF:=mh (show ListSt rd f w r0 g v3 w3 from by
         obtain⟨ws2,hr2⟩:=(show ∃ws', RdAt w2 rd ws' true from HK2.out)
         exact⟨R ++ [row],HO3.out,(HB.out.trans HB2.out).stpB HAP.out.below mle,by rw[lap];simp;omega,.inr ⟨HN.out,ws2,hr2.below_B HAP.out.below hlt⟩⟩)
        go_roundg g
        case measure=>omega
        case rel=>exact⟨_,rfl,HF.out⟩
      | some tr =>
        obtain⟨t,r1⟩:=tr;have hl1:=HLN.out t r1 rfl;rw[List.length_cons]at hl1
        go_wp2_with (first
      | (go_at_call 127;(with_reducible refine cmo TM.out ?_);rintro e w2 ⟨row,rfl,hb2,hk2⟩;have HK2:=mh hk2;have HB2:=mh hb2;have HO2:=mh (HO.out.but hb2 hlt);have hs2:=hb2.size;clear hk2 hb2)
      | (at_builtin;(refine OwnR.append el_term rfl (.tmp 33) (.tmp 36) rfl w.heap.size vv R row #[I O row.op,I O row.num,I O row.more,.slice row.p row.n row.c] rfl HO2.out rfl (by simp[Act.eval]) (by omega) (by omega) (by decide) ?_);intro v3 w3 hO3 hap3;have HO3:=mh hO3;have HAP:=mh hap3;clear hO3 hap3)
      | fail)
        have HF:=mh (show ListSt rd f w r0 g v3 w3 from by
         obtain⟨hr2,d2,hv2⟩:=(show RdAt w2 rd (r1.map bs) false∧∃d,TV (NewQ wo.heap.size) w2 d row t from HK2.out)
         have hk2:=(HK.out.but HB2.out hlt).add (G:=w2.heap.size+1) (hv2.change (Q' := KQ w.heap.size vv) mle fun b hq _=>⟨rfl,by
          refine⟨by unfold NewQ at hq;omega,fun e=>?_⟩
          have:=(HO.out.lt e).2;unfold NewQ at hq
          omega⟩) (Nat.le_succ _) HAP.out
         refine⟨R ++ [row],HO3.out,(HB.out.trans HB2.out).stpB HAP.out.below mle,by rw[lap];simp;omega,.inl ⟨K ++ [t],r1,_,hr2.below_B HAP.out.below hlt,hk2,by rw[lap];simp;omega,by omega,by omega,?_⟩⟩
         rw[HQ2.out]
         exact map_snoc)
        go_roundg g
        case measure=>omega
        case rel=>exact⟨_,rfl,HF.out⟩
  ·have HN:=mh (show ListG rd (readL f r0) w (.returned vv) wo from heq▸list_none HO.out HB.out hr)
   have q1:=hr.fl;clear hr heq hO hb
   go_wp2
   go_ret
   exact HN.out
theorem term_all:∀f:Nat,TermAtR f:=by
 intro f
 induction f using Nat.strongRecOn with
 | _ f ih =>
 intro rd ws w h hE hf
 cases ws with
 | nil=>exact term_nil rd w h hE
 | cons x rs =>
   rw[List.length_cons]at hf;obtain⟨f,rfl⟩:∃g,f=g+1:=⟨f - 1,by omega⟩;have HL:ListAtR f:=list_step fun g hg=>ih g (by omega)
   have HT:TermAtR f:=ih f (by omega);have hf2:2*rs.length+1≤f:=by omega
   by_cases ho:opOf x.data.toList=0
   ·exact term_no rd x rs w h hE ho
   obtain⟨o,eo⟩:∃o,opOf x.data.toList=o:=⟨_,rfl⟩;obtain⟨o1,o2⟩:=opOf_bd x.data.toList;rw[eo]at ho o1 o2;have:o=1∨o=2∨o=3∨o=4∨o=5∨o=6∨o=7∨o=8∨o=9∨o=10∨o=11:=by omega
   rcases this with rfl|rfl|rfl|rfl|rfl|rfl|rfl|rfl|rfl|rfl|rfl
   ·exact term_op1 rd x rs w h hE eo
   ·exact term_op2 rd x rs w h hE eo
   ·exact term_op3 rd x rs w h hE eo
   ·exact term_op4 rd x rs w h hE eo
   ·exact term_op5 rd x rs w h hE eo
   ·exact term_op6 rd x rs w h hE eo
   ·exact term_op7 rd x rs w h hE eo
   ·exact term_op8 rd x rs w h hE eo
   ·exact term_op9 HL rd x rs w h hE hf2 eo
   ·exact term_op10 HL rd x rs w h hE hf2 eo
   ·exact term_op11 HT rd x rs w h hE hf2 eo
def CloneG (n:Nat) (w:World) (e:Ending) (w' : World):Prop:=∃p c,e = .returned (.slice p n c)∧Below w.heap.size w w'
theorem OwnR.made0 {α:Type}{S:Shape α}(w:World)(T:TypeId):OwnR S (w.alloc (.cells #[] T)) T w.heap.size (.slice (some ⟨w.heap.size,0,none⟩) 0 0) [] :=
 World.ownsRow_made w #[] 0 mle (by unfold maxLen;omega) (by simp)
theorem clonestr_any (p:Option Addr)(L:List ByteArray)(n cap:Nat)(w:World)(hL:L.length=n)(h:Recs SB w p L)(hc:p=none→cap=0)(hl:n≤1000000) :
  Calls Tryz.prog 128 #[.slice p n cap] w (CloneG n w):=by
 subst hL;have hn:=h.len;have q:=fun (w:World) (a:Option Addr) (n c n' c' : Nat)=>Lib.run_eql_slice_nil (P:=Tryz.prog) w _ _ a n c n' c' Tryz.underlying48
 cases p with
 | none =>
   have hL:L = []:=by
    rcases h.2 with h|⟨b,off,h,_⟩
    ·exact h
    ·cases h
   subst hL;clear h hc
   go_enter Tryz.func128,Tryz.ntmps128
   go_wp2
   go_ret
   exact⟨none,0,rfl,brf _ _⟩
 | some ad =>
   have H:=mh h;clear h hc
   go_enter Tryz.func128,Tryz.ntmps128
   go_wp2_with (first|(at_builtin;(refine OwnR.appendAll el_str rfl (.tmp 5) (.tmp 6) rfl w.heap.size (.slice (some ⟨w.heap.size,0,none⟩) 0 0) [] L (some ad) cap L.length rfl (OwnR.made0 w 9) (H.out.below ((brf _ _).alloc mle _)) (fun h=>by cases h) rfl rfl (by simp) (by simp;omega) (by decide) ?_);intro v2 w2 hO2 hap2;rw[List.nil_append]at hO2;obtain⟨p1,c1,rfl, -⟩:=hO2.cut rfl))
   go_ret
   exact⟨p1,c1,rfl,((brf w.heap.size w).alloc mle _).trans hap2.below⟩
def ParseBad (er:Int) (w:World) (e:Ending) (w' : World):Prop:=e = .returned (.tuple #[.agg #[I O 0,I O 0,I O 0,.slice none 0 0],.slice none 0 0,I O er])∧Below w.heap.size w w'
def ParseGood (t:Tm) (n:Nat) (w:World) (e:Ending) (w' : World):Prop:=∃(row:RT) (p:Option Addr) (c d:Nat),e = .returned (.tuple #[.agg #[I O row.op,I O row.num,I O row.more,.slice row.p row.n row.c],.slice p n c,I O 0])∧TV (NewQ w.heap.size) w' d row t∧Below w.heap.size w w'
def ParseTG (o:Option (Tm × List (List UInt8))) (w:World):Ending→World→Prop :=
 match o with
 | none=>ParseBad 4 w
 | some (t,r)=>if chkT t=0 then ParseGood t r.length w else ParseBad (chkT t) w
theorem put4_far (W:World){b k:Nat}(h:k≠b)(x0 x1 x2 x3:Value)(i:Nat):(put4 W b x0 x1 x2 x3).cell? ⟨k,i,none⟩=W.cell? ⟨k,i,none⟩ :=
 World.cell?_of_block (w:=W) (a:=⟨k,i,none⟩) ((put4_block W b x0 x1 x2 x3).2 k h)
theorem parse16_any (p:Option Addr)(ws:List ByteArray)(c:Nat)(w:World)(h:Recs SB w p ws)(hc:ws.length≤c)(hp:p=none→c=0)(hw:∀x∈ws,x.size≤16384)(hl:ws.length≤1000000)(hE:Env w)(hg:gtop<w.heap.size) :
  Calls Tryz.prog 108 #[.slice p ws.length c] w (ParseTG (readT (2*ws.length) (ll ws)) w):=by
 have hA1:Below w.heap.size w (w.alloc (.cells #[I O 0,I O 0,I O 0,.slice none 0 0] 28)):=(brf _ _).alloc mle _;have hA:Below w.heap.size w ((w.alloc (.cells #[I O 0,I O 0,I O 0,.slice none 0 0] 28)).alloc (.cells #[.slice p ws.length c,.bool false] 144)):=hA1.alloc (by simp) _;have hz0:(((w.alloc (.cells #[I O 0,I O 0,I O 0,.slice none 0 0] 28)).alloc (.cells #[.slice p ws.length c,.bool false] 144))).heap.size=w.heap.size+2:=by simp
 have hfz:∀i,(((w.alloc (.cells #[I O 0,I O 0,I O 0,.slice none 0 0] 28)).alloc (.cells #[.slice p ws.length c,.bool false] 144))).frozen? ⟨w.heap.size+1,i,none⟩=false:=fun i=>by
  have e:(((w.alloc (.cells #[I O 0,I O 0,I O 0,.slice none 0 0] 28)).alloc (.cells #[.slice p ws.length c,.bool false] 144))).heap[w.heap.size+1]?=some (.cells #[.slice p ws.length c,.bool false] 144):=by
   have:=World.alloc_heap_new (w.alloc (.cells #[I O 0,I O 0,I O 0,.slice none 0 0] 28)) (.cells #[.slice p ws.length c,.bool false] 144);rw[World.size_alloc]at this;exact this
  simp only[World.frozen?,e];simp
 have hcl:∀i,(((w.alloc (.cells #[I O 0,I O 0,I O 0,.slice none 0 0] 28)).alloc (.cells #[.slice p ws.length c,.bool false] 144))).cell? ⟨w.heap.size+1,i,none⟩=#[.slice p ws.length c,.bool false][i]?:=fun i=>by
  have:=cwn (w.alloc (.cells #[I O 0,I O 0,I O 0,.slice none 0 0] 28)) #[.slice p ws.length c,.bool false] 144 i;rw[World.size_alloc]at this;exact this
 have hR0:RdAt ((w.alloc (.cells #[I O 0,I O 0,I O 0,.slice none 0 0] 28)).alloc (.cells #[.slice p ws.length c,.bool false] 144)) (w.heap.size+1) ws false:=⟨⟨p,c,hcl 0,h.below hA,hc,hp,fun a e=>by
   by_cases h0:ws = []
   ·exact .inl h0
   ·exact .inr (Nat.lt_succ_of_lt (h.lt h0 e))⟩,hcl 1,hfz 0,hfz 1,by rw[hz0];omega,hw,hl⟩
 have HS0:=mh ((Res4.new w 28).blk (W' := ((w.alloc (.cells #[I O 0,I O 0,I O 0,.slice none 0 0] 28)).alloc (.cells #[.slice p ws.length c,.bool false] 144))) (by simp) (by
  have:Below (w.alloc (.cells #[I O 0,I O 0,I O 0,.slice none 0 0] 28)).heap.size (w.alloc (.cells #[I O 0,I O 0,I O 0,.slice none 0 0] 28)) ((w.alloc (.cells #[I O 0,I O 0,I O 0,.slice none 0 0] 28)).alloc (.cells #[.slice p ws.length c,.bool false] 144)):=(brf _ _).alloc mle _
  exact this.block _ (by simp)))
 have HTM:=mh (term_all (2*ws.length) (w.heap.size+1) ws ((w.alloc (.cells #[I O 0,I O 0,I O 0,.slice none 0 0] 28)).alloc (.cells #[.slice p ws.length c,.bool false] 144)) hR0 (fun W hW=>(hE.below hA).but hW (by omega)) mle);have HA:=mh hA;have hne:w.heap.size≠w.heap.size+1:=by omega
 unfold TermG at HTM;obtain⟨tv,etv⟩:∃tv,readT (2*ws.length) (ll ws)=tv:=⟨_,rfl⟩;rw[etv]at HTM ⊢;clear h hp hw hE hA1 hA hfz hcl hR0 etv
 cases tv with
 | none =>
   show Calls _ _ _ _ (ParseBad 4 w)
   go_enter Tryz.func108,Tryz.ntmps108
   go_wp2_with (first
    | (go_at_call 127;(with_reducible refine cmo HTM.out ?_);rintro e w2 ⟨row,rfl,hb2,hk2⟩;obtain⟨ws2,hr2⟩:=(show ∃ws', RdAt w2 (w.heap.size+1) ws' true from hk2);have HS2:=mh (HS0.out.but hb2 hne);have HB2:=mh (HA.out.trans (hb2.below (Nat.le_succ _) (by rw[hz0];omega)));have hz2:=hb2.size;rw[hz0]at hz2;have hl3:w.heap.size+1<w2.heap.size:=(by omega);have j1:=hr2.fl;obtain⟨k0,k1,k2,k3,f0,f1,f2,f3,hl2⟩:=HS2.out;clear hb2 hk2 hr2)
    | fail)
   have QQ:=put4_new HS2.out (I O 0) (I O 0) (I O 0) (.slice none 0 0) (.cells #[I O row.op,I O row.num,I O row.more,.slice row.p row.n row.c] 28);have FIN:=mh (HB2.out.trans (((put4_below mle (I O 0) (I O 0) (I O 0) (.slice none 0 0))).alloc (by rw[(put4_block _ _ _ _ _ _).1];omega) (.cells #[I O row.op,I O row.num,I O row.more,.slice row.p row.n row.c] 28)));unfold put4 at QQ FIN;obtain⟨q0,q1,q2,q3⟩:=QQ;clear k0 k1 k2 k3;exact bodyPost_ret (v := .tuple #[.agg #[I O 0,I O 0,I O 0,.slice none 0 0],.slice none 0 0,I O 4]) (by simp[results,Tryz.results108,go_sem,q0,q1,q2,q3]) rfl ⟨rfl,FIN.out⟩
 | some tr =>
   obtain⟨t,r⟩:=tr;have hr2:∀w2 row,TermOk (w.heap.size+1) (((w.alloc (.cells #[I O 0,I O 0,I O 0,.slice none 0 0] 28)).alloc (.cells #[.slice p ws.length c,.bool false] 144))).heap.size (some (t,r)) row w2→RdAt w2 (w.heap.size+1) (r.map bs) false∧∃d,TV (NewQ (w.heap.size+2)) w2 d row t:=fun w2 row h=>by
    have:RdAt w2 (w.heap.size+1) (r.map bs) false∧∃d,TV (NewQ (((w.alloc (.cells #[I O 0,I O 0,I O 0,.slice none 0 0] 28)).alloc (.cells #[.slice p ws.length c,.bool false] 144))).heap.size) w2 d row t:=h;rw[hz0]at this;exact this
   have HR2:=mh hr2;clear hr2
   show Calls _ _ _ _ (if chkT t=0 then ParseGood t r.length w else ParseBad (chkT t) w)
   obtain⟨ct,ect⟩:∃ct,chkT t=ct:=⟨_,rfl⟩;have CK:=mh (fun (d:Nat) (row:RT) (W:World) (h:TV (NewQ (w.heap.size+2)) W d row t)=>ect▸check16_any d row t W h);rw[ect];unfold IntG at CK
   by_cases h0:ct=0
   rotate_left
   ·have hct:(ct != 0)=true:=bne_iff_ne.2 h0
    rw[if_neg h0];clear ect h0
    go_enter Tryz.func108,Tryz.ntmps108
    go_wp2_with (first|(go_at_call 127;(with_reducible refine cmo HTM.out ?_);rintro e w2 ⟨row,rfl,hb2,hk2⟩;obtain⟨hr2,d,hv2⟩:=HR2.out w2 row hk2;have HS2:=mh (HS0.out.but hb2 hne);have HB2:=mh (HA.out.trans (hb2.below (Nat.le_succ _) (by rw[hz0];omega)));have hz2:=hb2.size;rw[hz0]at hz2;have hl3:w.heap.size+1<w2.heap.size:=(by omega);have j1:=hr2.fl;have HRR:=mh hr2;have HV:=mh hv2;have HA2:=mh ((brf w2.heap.size w2).alloc mle (.cells #[I O row.op,I O row.num,I O row.more,.slice row.p row.n row.c] 28));have CK2:=mh (CK.out d row _ (hv2.below HA2.out));have hl2:=HS2.out.lt;clear hb2 hk2 hr2 hv2)|(go_at_call 50;(with_reducible refine cmo CK2.out ?_);rintro e w4 ⟨rfl,hb4⟩;have HB24:=mh (bstep mle HA2.out hb4);have HB4:=mh (bstep mle HB2.out HB24.out);have HS4:=mh (HS2.out.blk HB24.out.size (HB24.out.block _ hl2));have HR4:=mh (HRR.out.below HB24.out);have HV4:=mh (HV.out.below HB24.out);have hz4:=HB24.out.size;obtain⟨k0,k1,k2,k3,f0,f1,f2,f3,hl4⟩:=HS4.out;have t0:=mcell hb4 0;have t1:=mcell hb4 1;have t2:=mcell hb4 2;have t3:=mcell hb4 3;have hz5:w2.heap.size<w4.heap.size:=(by have:=hb4.size;rw[World.size_alloc]at this;omega);clear hb4)|fail)
    have QQ:=put4_at HS4.out (I O 0) (I O 0) (I O 0) (.slice none 0 0);have FIN:=mh (HB4.out.trans (put4_below (W:=w4) (Nat.le_refl w.heap.size) (I O 0) (I O 0) (I O 0) (.slice none 0 0)));unfold put4 at QQ FIN;obtain⟨q0,q1,q2,q3⟩:=QQ;clear k0 k1 k2 k3;exact bodyPost_ret (v := .tuple #[.agg #[I O 0,I O 0,I O 0,.slice none 0 0],.slice none 0 0,I O ct]) (by simp[results,Tryz.results108,go_sem,q0,q1,q2,q3]) rfl ⟨rfl,FIN.out⟩
   ·subst h0
    rw[if_pos rfl];clear ect
    go_enter Tryz.func108,Tryz.ntmps108
    go_wp2_with (first|(go_at_call 127;(with_reducible refine cmo HTM.out ?_);rintro e w2 ⟨row,rfl,hb2,hk2⟩;obtain⟨hr2,d,hv2⟩:=HR2.out w2 row hk2;have HS2:=mh (HS0.out.but hb2 hne);have HB2:=mh (HA.out.trans (hb2.below (Nat.le_succ _) (by rw[hz0];omega)));have hz2:=hb2.size;rw[hz0]at hz2;have hl3:w.heap.size+1<w2.heap.size:=(by omega);have j1:=hr2.fl;have HRR:=mh hr2;have HV:=mh hv2;have HA2:=mh ((brf w2.heap.size w2).alloc mle (.cells #[I O row.op,I O row.num,I O row.more,.slice row.p row.n row.c] 28));have CK2:=mh (CK.out d row _ (hv2.below HA2.out));have hl2:=HS2.out.lt;clear hb2 hk2 hr2 hv2)|(go_at_call 50;(with_reducible refine cmo CK2.out ?_);rintro e w4 ⟨rfl,hb4⟩;have HB24:=mh (bstep mle HA2.out hb4);have HB4:=mh (bstep mle HB2.out HB24.out);have HS4:=mh (HS2.out.blk HB24.out.size (HB24.out.block _ hl2));have HR4:=mh (HRR.out.below HB24.out);have HV4:=mh (HV.out.below HB24.out);have hz4:=HB24.out.size;obtain⟨k0,k1,k2,k3,f0,f1,f2,f3,hl4⟩:=HS4.out;have t0:=mcell hb4 0;have t1:=mcell hb4 1;have t2:=mcell hb4 2;have t3:=mcell hb4 3;have hz5:w2.heap.size<w4.heap.size:=(by have:=hb4.size;rw[World.size_alloc]at this;omega);clear hb4)|fail)
    obtain⟨pp,cc,e1,e2,e3,e4,e5⟩:=HR4.out.row;rw[List.length_map]at e1 e3;have hrl:r.length≤1000000:=by have:=HR4.out.len;rw[List.length_map]at this;exact this
    have CL:=mh (clonestr_any pp (r.map bs) r.length cc w4.drew (List.length_map _) e2.drew e4 hrl);clear k0 k1 k2 k3 f0 f1 f2 f3 e2 e4 e5
    go_region_held3 (fun W=>W.cell? ⟨w2.heap.size,0,none⟩=some (I O row.op)∧W.cell? ⟨w2.heap.size,1,none⟩=some (I O row.num)∧W.cell? ⟨w2.heap.size,2,none⟩=some (I O row.more)∧W.cell? ⟨w2.heap.size,3,none⟩=some (.slice row.p row.n row.c)∧W.cell? ⟨w.heap.size+1,0,none⟩=some (.slice pp r.length cc))
     (first|exact⟨t0,t1,t2,t3,e1⟩|exact⟨u0,u1,u2,u3,u4⟩|exact⟨v0,v1,v2,v3,v4⟩|go_keep)
     (first
      | (go_at_call 128;(with_reducible refine cmo CL.out ?_);rintro e w5 ⟨p5,c5,rfl,hb5'⟩;have hb5:=bdrew' hb5'; have u0:=(hb5.cell (p:=⟨w2.heap.size,0,none⟩) hz5).trans t0;have u1:=(hb5.cell (p:=⟨w2.heap.size,1,none⟩) hz5).trans t1;have u2:=(hb5.cell (p:=⟨w2.heap.size,2,none⟩) hz5).trans t2;have u3:=(hb5.cell (p:=⟨w2.heap.size,3,none⟩) hz5).trans t3;have u4:=(hb5.cell (p:=⟨w.heap.size+1,0,none⟩) HR4.out.lt).trans e1;have HS5:=mh (HS4.out.blk hb5.size (hb5.block _ hl4));obtain⟨k0,k1,k2,k3,f0,f1,f2,f3,hl5⟩:=HS5.out;have HB5:=mh (bstep mle HB4.out hb5);have HV5:=mh (HV4.out.below hb5);have vv:=put4_far w5 (b:=w.heap.size) (k:=w2.heap.size) (by omega) (I O row.op) (I O row.num) (I O row.more) (.slice row.p row.n row.c);have vr:=put4_far w5 (b:=w.heap.size) (k:=w.heap.size+1) (by omega) (I O row.op) (I O row.num) (I O row.more) (.slice row.p row.n row.c);have v0:=(vv 0).trans u0;have v1:=(vv 1).trans u1;have v2:=(vv 2).trans u2;have v3:=(vv 3).trans u3;have v4:=(vr 0).trans u4;clear vv vr;unfold put4 at v0 v1 v2 v3 v4)
      | fail)
    go_wp2
    have QQ:=put4_at HS5.out (I O row.op) (I O row.num) (I O row.more) (.slice row.p row.n row.c);have hbl:=put4_block w5 w.heap.size (I O row.op) (I O row.num) (I O row.more) (.slice row.p row.n row.c);have FIN:=mh (HB5.out.trans (put4_below (W:=w5) (Nat.le_refl w.heap.size) (I O row.op) (I O row.num) (I O row.more) (.slice row.p row.n row.c)));have FV:=mh (HV5.out.change (Q' := NewQ w.heap.size) (w' := put4 w5 w.heap.size (I O row.op) (I O row.num) (I O row.more) (.slice row.p row.n row.c)) (by rw[hbl.1];exact Nat.le_refl _) fun b hq _=>⟨hbl.2 b (by unfold NewQ at hq;omega),by unfold NewQ at *;omega⟩);unfold put4 at QQ FIN FV;obtain⟨q0,q1,q2,q3⟩:=QQ;clear k0 k1 k2 k3 hbl;exact bodyPost_ret (v := .tuple #[.agg #[I O row.op,I O row.num,I O row.more,.slice row.p row.n row.c],.slice p5 r.length c5,I O 0]) (by simp[results,Tryz.results108,go_sem,q0,q1,q2,q3]) rfl ⟨row,p5,c5,d,rfl,FV.out,FIN.out⟩
structure WSl (w:World) (p:Option Addr) (c:Nat) (ws:List ByteArray):Prop where
 recs:Recs SB w p ws
 le:ws.length≤c
 nn:p=none→c=0
theorem WSl.below {w w' : World}{p:Option Addr}{c:Nat}{ws:List ByteArray}(h:WSl w p c ws)(hb:Below w.heap.size w w'):WSl w' p c ws:=⟨h.recs.below hb,h.le,h.nn⟩
theorem under_strs:Tryz.prog.underlying 48=some (.slice (Tryz.prog.elem 48)):=by kernel_rfl
theorem cells_str:Tryz.prog.cellsOf 9=1:=by kernel_rfl
theorem size_str:Tryz.prog.elem 48=9:=by kernel_rfl
theorem WSl.cons {w:World}{p:Option Addr}{c:Nat}{x:ByteArray}{r:List ByteArray}(h:WSl w p c (x::r)) :
  ∃b off q c1,p=some ⟨b,off,none⟩∧b<w.heap.size∧w.cell? ⟨b,off,none⟩=some (.string x)∧r.length+1≤c∧WSl w q c1 r∧(∀a,q=some a→a.block=b) ∧
    ∀W,(Instr.slice 48 (.slice (some ⟨b,off,none⟩) (r.length+1) c) (some (I O 1)) none none).run Tryz.prog W = .ok (.slice q r.length c1) W:=by
 obtain⟨b,off,rfl,hb,hc⟩:=h.recs.at (k:=0) (by simp);have hd:=h.recs.drop 1;have hle:=h.le;rw[List.length_cons]at hle;have hcell:w.cell? ⟨b,off,none⟩=some (.string x):=by
  have:=hc 0 (.string x) rfl;rw[Nat.zero_mul,Nat.add_zero]at this;exact this
 have hrun:∀W,(Instr.slice 48 (.slice (some ⟨b,off,none⟩) (r.length+1) c) (some (I O 1)) none none).run Tryz.prog W = .ok (sliced (some ⟨b,off,none⟩) 1 (r.length+1) c 1) W:=fun W=>by
  have hs:(sizeOf (Tryz.prog.elem 48)).run Tryz.prog W = .ok 1 W:=by
   obtain⟨i0,_,h1,_⟩:=el_str.ex;rw[size_str,run_sizeOf W h1,cells_str]
  rw[run_slice_l (P:=Tryz.prog) W 48 (some ⟨b,off,none⟩) (r.length+1) c under_strs .i64 1 (by omega) (by omega),hs]
  rfl
 by_cases hc1:c=1
 ·subst hc1
  have hr:r = []:=List.length_eq_zero_iff.1 (by omega);subst hr;exact⟨b,off,some ⟨b,off,none⟩,0,rfl,hb,hcell,hle,⟨Recs.nil _ _,by simp,(fun e=>by cases e)⟩,(fun a e=>by cases e;rfl),fun W=>by rw[hrun W];rfl⟩
 ·refine⟨b,off,some ⟨b,off+1,none⟩,c - 1,rfl,hb,hcell,hle,⟨hd,by omega,(fun e=>by cases e)⟩,(fun a e=>by cases e;rfl),fun W=>?_⟩
  rw[hrun W];unfold sliced;rw[if_neg hc1]
  rfl
theorem WSl.chg {B:Nat}{w w' : World}{p:Option Addr}{c:Nat}{ws:List ByteArray}(h:WSl w p c ws)(hp:∀a,p=some a→ws = []∨a.block<B)(hb:Below B w w'):WSl w' p c ws:=by
 refine⟨h.recs.blocks hb.size fun a e=>?_,h.le,h.nn⟩
 rcases hp a e with h|h
 ·exact .inl h
 ·exact .inr (hb.block _ h)
theorem WSl.some {w:World}{p:Option Addr}{c:Nat}{ws:List ByteArray}(h:WSl w p c ws)(h0:ws ≠ []) :
  ∃b off q c1,p=some ⟨b,off,none⟩∧b<w.heap.size∧w.cell? ⟨b,off,none⟩=some (.string (hdW ws))∧ws.length≤c∧WSl w q c1 ws.tail∧(∀a,q=some a→a.block=b) ∧
    ∀W,(Instr.slice 48 (.slice (some ⟨b,off,none⟩) ws.length c) (some (I O 1)) none none).run Tryz.prog W = .ok (.slice q ws.tail.length c1) W:=by
 cases ws with
 | nil=>exact absurd rfl h0
 | cons x r =>
   obtain⟨b,off,q,c1,h1,h2,h3,h4,h5,h6,h7⟩:=h.cons;exact⟨b,off,q,c1,h1,h2,h3,h4,h5,h6,h7⟩
end Go.Proofs.YtbcmabolkkfgfaaGreatDoor
