/-
  PACKED (pack8.py): the library modules.
-/
import Derived.Test.YtbcmabolkkfgfaaGreatDoorProg
import Derived.Test.YtbcmabolkkfgfaaGreatDoorRows
import Derived.Below
import Derived.BigFrame
import Derived.BigQuiet
import Derived.BigRegion
import Derived.ChangeKeysEq
import Derived.Deep.CutBlock
import Derived.Deep.DeepCutAuto
import Derived.Deep.LoopGhost
import Derived.Deep.QuietTactic
import Derived.Deep.RegionHeld3
import Derived.Deep.Slices
import Derived.Deep.Strs
import Derived.Ground.GgwProg
import Derived.Ground.Names2Prog
import Derived.Ground.SlgfProg
import Derived.Ground.SlgnProg
import Derived.Handy
import Derived.Laws.AppendOwnNone
import Derived.Laws.IdiomStrings
import Derived.Laws.OwnMore
import Derived.Laws.RangeAny
import Derived.Laws.RangeString
import Derived.Lib.AtoiAllCases
import Derived.Lib.Hide
import Derived.Lib.ItoaLen
import Derived.Lib.ItoaMem
import Derived.Lib.Join
import Derived.Lib.SliceRun
import Derived.Lib.Split
import Derived.LoopIn
import Derived.LoopNIn
import Derived.Maps.AppendAt
import Derived.Maps.OwnIn
import Derived.OwnWalkIn
import Derived.ProofKit
import Derived.RangeFuncBound
import Derived.RangeFuncCalls
import Derived.RangeFuncLeaves
import Derived.RangeFuncNested
import Derived.RangeFuncRecord
import Derived.Shelf.Abstract
import Derived.Shelf.GgClosure.StringsIndexFunc
import Derived.Shelf.GgClosure.StringsIndexFuncTop
import Derived.Shelf.GgClosure.StringsRunes
import Derived.Shelf.LaysC
import Derived.Shelf.LaysM
import Derived.Shelf.RegionOpen
import Derived.Shelf.SlSortCmp.NoneTotal
import Derived.Shelf.Slices.Clone
import Derived.Shelf.SlicesE.Clone
import Derived.Shelf.SlicesE.DeleteFunc
import Derived.Shelf.SlicesE.IndexFunc
import Derived.Shelf.Small.Strs
import Derived.Shelf.Strconv.Atoi
import Derived.Shelf.Strconv.AtoiAll
import Derived.Shelf.Strconv.AtoiErrFast
import Derived.Shelf.Strconv.AtoiFail
import Derived.Shelf.Strconv.AtoiInnerAll
import Derived.Shelf.Strconv.AtoiLong
import Derived.Shelf.Strconv.Clone
import Derived.Shelf.Strconv.ErrVarAll
import Derived.Shelf.Strconv.Itoa0
import Derived.Shelf.Strconv.Itoa1
import Derived.Shelf.Strconv.Itoa2
import Derived.Shelf.Strconv.Itoa3
import Derived.Shelf.Strconv.Lower
import Derived.Shelf.Strconv.ParseInt10
import Derived.Shelf.Strconv.ParseIntEmpty
import Derived.Shelf.Strconv.ParseUint10
import Derived.Shelf.Strconv.ParseUint10Any
import Derived.Shelf.Strconv.ParseUint10Empty
import Derived.Shelf.Strconv.RangeError
import Derived.Shelf.Strconv.SyntaxError
import Derived.Shelf.Strconv.ToError
import Derived.Shelf.Strconv.ToErrorRange
import Derived.Shelf.Strings.Builder1
import Derived.Shelf.Strings.Builder2
import Derived.Shelf.Strings.BuilderF
import Derived.Shelf.Strings.BuilderK
import Derived.Shelf.Strings.Count
import Derived.Shelf.Strings.Cut
import Derived.Shelf.Strings.Explode
import Derived.Shelf.Strings.OnBuilder
import Derived.Shelf.Strings.Prefix
import Derived.Shelf.Strings.RuneCount
import Derived.Shelf.Strings.Search1
import Derived.Shelf.Strings.Search2
import Derived.Shelf.Strings.Search3
import Derived.Shelf.Strings.Shaped
import Derived.Shelf.Strings.Split
import Derived.Shelf.Strings.SplitShaped
import Derived.Shelf.Unicode.Decode
import Derived.Shelf.Unicode.DecodeAny
import Derived.Shelf.Unicode.DecodeSlow
import Derived.Shelf.Utf8.RuneCount
import Derived.Sort.Walk0
import Derived.StillTailTactics
import Derived.TacticsInMore
import Derived.WalkKit
import Derived.WalkLawsBesides
import Derived.WalkSpells
namespace Go.Proofs.YtbcmabolkkfgfaaGreatDoor.Te
end Go.Proofs.YtbcmabolkkfgfaaGreatDoor.Te
namespace Go.Proofs.YtbcmabolkkfgfaaGreatDoor.Sc
end Go.Proofs.YtbcmabolkkfgfaaGreatDoor.Sc
namespace Go.Proofs.YtbcmabolkkfgfaaGreatDoor.Cr
end Go.Proofs.YtbcmabolkkfgfaaGreatDoor.Cr
namespace Go.Proofs.YtbcmabolkkfgfaaGreatDoor
open Go Go.RowKit
theorem mh {p:Prop}(h:p):RowKit.Hid p:=Lib.hid h
theorem tkA {P:Program}{md:Region.Mode}{ops:Array Oper}{Q:Exit→Act→World→Prop}{S:World→Prop}{fuel:Nat}{listed:Array Bool}{a:Act}{w:World}{v:Value}{op:Op}{ty:TypeId}{ps:String}{af:Array Edge}{gd:Option (Nat × Bool)}(i s:Nat)
  (h:wpAnyH P md ops Q S fuel (listed.setIfInBounds i true) (a.put (some s) v) w)
  (hi:ops[i]?=some ⟨some s,op,ty,ps,af,gd⟩:=by rfl) (hs:Region.noSelect ops=true:=by kernel_rfl) (hf:Region.free md ops listed i=true:=by kernel_rfl) (hr:(Region.ready md ops listed).contains i=true:=by kernel_rfl)
  (hQ:∀c a w,Q (.panic c) (a.put (some s) v) w→Q (.panic c) a w:=by exact fun _ _ _ h=>h)
  (hw:Region.wanted ⟨some s,op,ty,ps,af,gd⟩ (yielded ops a.tmps)=true:=by kernel_rfl)
  (hy:∀w,S w→(execOp a.eval ⟨some s,op,ty,ps,af,gd⟩).run P w = .ok (.value v) w:=by intro W0 hSw;(try dsimp only at hSw);go_simp;try with_reducible rfl)
  (hS:S w:=by assumption):wpAnyH P md ops Q S (fuel+1) listed a w:=wpAnyH_take hi hs hf hr hQ (Or.inl ⟨hw,hy⟩) hS h
theorem tkB {P:Program}{md:Region.Mode}{ops:Array Oper}{Q:Exit→Act→World→Prop}{S:World→Prop}{fuel:Nat}{listed:Array Bool}{a:Act}{w:World}{op:Op}{ty:TypeId}{ps:String}{af:Array Edge}{gd:Option (Nat × Bool)}(i s:Nat)
  (h:wpAnyH P md ops Q S fuel (listed.setIfInBounds i true) (a.put (some s) undef) w)
  (hi:ops[i]?=some ⟨some s,op,ty,ps,af,gd⟩:=by rfl) (hs:Region.noSelect ops=true:=by kernel_rfl) (hf:Region.free md ops listed i=true:=by kernel_rfl) (hr:(Region.ready md ops listed).contains i=true:=by kernel_rfl)
  (hQ:∀c a w,Q (.panic c) (a.put (some s) undef) w→Q (.panic c) a w:=by exact fun _ _ _ h=>h)
  (hw:Region.wanted ⟨some s,op,ty,ps,af,gd⟩ (yielded ops a.tmps)=false:=by kernel_rfl)
  (hS:S w:=by assumption):wpAnyH P md ops Q S (fuel+1) listed a w:=wpAnyH_take hi hs hf hr hQ (Or.inr ⟨hw,rfl⟩) hS h
theorem mnA {α:Type _}{a:List α}{i:Nat}{b:α}:a.toArray.setIfInBounds i b=(a.set i b).toArray:=List.setIfInBounds_toArray ..
theorem mnB {α:Type _}{a b:α}{l:List α}:(a::l).set 0 b=b::l:=rfl
theorem mnC {α:Type _}{a b:α}{l:List α}{n:Nat}:(a::l).set (n+1) b=a::l.set n b:=rfl
theorem mcell {w w1:World}{cs:Array Value}{T:TypeId}{B:Nat}(hb:Below B (w.alloc (.cells cs T)) w1)(i:Nat)(hB:w.heap.size<B:=by simp):w1.cell? ⟨w.heap.size,i,none⟩=cs[i]?:=(hb.cell (p:=⟨w.heap.size,i,none⟩) hB).trans (World.cell?_alloc_new _ _ _ _)
theorem k1 {w w' : World}{a:Addr}{v:Value}(hb:Below w.heap.size w w')(h:w.cell? a=some v):w'.cell? a=some v:=(hb.cell (p:=a) (World.block_lt_of_cell? w a h)).trans h
theorem kc {w w' : World}{a:Addr}{v:Value}{R R' : Prop}(hb:Below w.heap.size w w')(f:R→R')(h:w.cell? a=some v∧R):w'.cell? a=some v∧R' := ⟨k1 hb h.1,f h.2⟩
theorem tkC {P:Program}{md:Region.Mode}{ops:Array Oper}{Q:Exit→Act→World→Prop}{fuel:Nat}{listed:Array Bool}{a:Act}{w:World}{v:Value}{op:Op}{ty:TypeId}{ps:String}{af:Array Edge}{gd:Option (Nat × Bool)}(i s:Nat)
  (hQ:∀c a w,Q (.panic c) (a.put (some s) v) w→Q (.panic c) a w)
  (h:wpAnyH P md ops Q (fun _=>True) fuel (listed.setIfInBounds i true) (a.put (some s) v) w)
  (hi:ops[i]?=some ⟨some s,op,ty,ps,af,gd⟩:=by rfl) (hs:Region.noSelect ops=true:=by kernel_rfl) (hf:Region.free md ops listed i=true:=by kernel_rfl) (hr:(Region.ready md ops listed).contains i=true:=by kernel_rfl)
  (hw:Region.wanted ⟨some s,op,ty,ps,af,gd⟩ (yielded ops a.tmps)=true:=by kernel_rfl)
  (hy:∀w,True→(execOp a.eval ⟨some s,op,ty,ps,af,gd⟩).run P w = .ok (.value v) w:=by intro W0 hSw;go_simp;try with_reducible rfl):wpAnyH P md ops Q (fun _=>True) (fuel+1) listed a w:=wpAnyH_take hi hs hf hr hQ (Or.inl ⟨hw,hy⟩) trivial h
theorem rdA {P:Program}{md:Region.Mode}{ops:Array Oper}{Q:Exit→Act→World→Prop}{S:World→Prop}{fuel:Nat}{listed:Array Bool}{a:Act}{w:World}{op:Op}{ty:TypeId}{ps:String}{af:Array Edge}{gd:Option (Nat × Bool)}(i s:Nat)
  (h:∀K' : Act→World→Prop,Shut (∀a w,S w→(S w→wpAnyH P md ops Q S fuel (listed.setIfInBounds i true) a w)→K' a w)→if Region.wanted ⟨some s,op,ty,ps,af,gd⟩ (yielded ops a.tmps)=true then Oper.wp P ⟨some s,op,ty,ps,af,gd⟩ a w K' Q else K' (a.put (some s) undef) w)
  (hi:ops[i]?=some ⟨some s,op,ty,ps,af,gd⟩:=by rfl) (hr:Region.ready md ops listed = [i]:=by kernel_rfl):wpAnyH P md ops Q S (fuel+1) listed a w:=wpAnyH_ready hr (by simp) (AllReadyH.cons hi h AllReadyH.nil)
theorem cmo {P:Program}{f:FuncId}{args:Array Value}{w:World}{R R' : Ending→World→Prop}(h:Calls P f args w R)(k:∀e w', R e w' → R' e w'):Calls P f args w R' := Calls.mono h k
theorem nll {n m k:Nat}(h:n<m)(g:m≤k):n<k:=Nat.lt_of_lt_of_le h g
theorem inn (n:Nat):(0:Int)≤(n:Int):=Int.natCast_nonneg n
theorem lap {α:Type _}{a b:List α}:(a++b).length=a.length+b.length:=List.length_append
theorem dqt {p:Prop} [Decidable p] (h:p):decide p=true:=decide_eq_true h
theorem dqf {p:Prop} [Decidable p] (h:¬p):decide p=false:=decide_eq_false h
theorem brf (B:Nat)(w:World):Below B w w:=Below.refl B w
theorem tsg {α:Type _}{i:Nat}{l:List α}(h:i<l.length):l.take (i+1)=l.take i ++ [l[i]]:=List.take_succ_eq_append_getElem h
theorem cwn (w:World)(c:Array Value)(t:TypeId)(i:Nat):(w.alloc (.cells c t)).cell? ⟨w.heap.size,i,none⟩=c[i]?:=World.cell?_alloc_new w c t i
theorem mle {n:Nat}:n≤n:=Nat.le_refl n
theorem kd {w w' : World}{a b c d:Addr}{u v x y:Value}{R R' : Prop}(hb:Below w.heap.size w w')(f:R→R')(h:w.cell? a=some u∧w.cell? b=some v∧w.cell? c=some x∧w.cell? d=some y∧R):w'.cell? a=some u∧w'.cell? b=some v∧w'.cell? c=some x∧w'.cell? d=some y∧R' := ⟨k1 hb h.1,k1 hb h.2.1,k1 hb h.2.2.1,k1 hb h.2.2.2.1,f h.2.2.2.2⟩
theorem tkD {P:Program}{md:Region.Mode}{ops:Array Oper}{Q:Exit→Act→World→Prop}{S:World→Prop}{fuel:Nat}{listed:Array Bool}{a:Act}{w:World}{v:Value}{op:Op}{ty:TypeId}{ps:String}{af:Array Edge}{gd:Option (Nat × Bool)}(i s:Nat){b:Act}{l:Array Bool}
  (h:wpAnyH P md ops Q S fuel l b w)
  (hi:ops[i]?=some ⟨some s,op,ty,ps,af,gd⟩:=by rfl) (hs:Region.noSelect ops=true:=by kernel_rfl) (hf:Region.free md ops listed i=true:=by kernel_rfl) (hr:(Region.ready md ops listed).contains i=true:=by kernel_rfl)
  (hQ:∀c a w,Q (.panic c) (a.put (some s) v) w→Q (.panic c) a w:=by exact fun _ _ _ h=>h)
  (hw:Region.wanted ⟨some s,op,ty,ps,af,gd⟩ (yielded ops a.tmps)=true:=by kernel_rfl)
  (hy:∀w,S w→(execOp a.eval ⟨some s,op,ty,ps,af,gd⟩).run P w = .ok (.value v) w:=by intro W0 hSw;(try dsimp only at hSw);go_simp;try with_reducible rfl)
  (hS:S w:=by assumption)
  (hb:a.put (some s) v=b:=by (try simp only[Act.put,mnA,mnB,mnC]);try exact rfl)
  (hl:listed.setIfInBounds i true=l:=by (try simp only[mnA,mnB,mnC]);try exact rfl):wpAnyH P md ops Q S (fuel+1) listed a w:=by
  subst hb;subst hl;exact wpAnyH_take hi hs hf hr hQ (Or.inl ⟨hw,hy⟩) hS h
theorem tkE {P:Program}{md:Region.Mode}{ops:Array Oper}{Q:Exit→Act→World→Prop}{S:World→Prop}{fuel:Nat}{listed:Array Bool}{a:Act}{w:World}{op:Op}{ty:TypeId}{ps:String}{af:Array Edge}{gd:Option (Nat × Bool)}(i s:Nat){b:Act}{l:Array Bool}
  (h:wpAnyH P md ops Q S fuel l b w)
  (hi:ops[i]?=some ⟨some s,op,ty,ps,af,gd⟩:=by rfl) (hs:Region.noSelect ops=true:=by kernel_rfl) (hf:Region.free md ops listed i=true:=by kernel_rfl) (hr:(Region.ready md ops listed).contains i=true:=by kernel_rfl)
  (hQ:∀c a w,Q (.panic c) (a.put (some s) undef) w→Q (.panic c) a w:=by exact fun _ _ _ h=>h)
  (hw:Region.wanted ⟨some s,op,ty,ps,af,gd⟩ (yielded ops a.tmps)=false:=by kernel_rfl)
  (hS:S w:=by assumption)
  (hb:a.put (some s) undef=b:=by (try simp only[Act.put,mnA,mnB,mnC]);try exact rfl)
  (hl:listed.setIfInBounds i true=l:=by (try simp only[mnA,mnB,mnC]);try exact rfl):wpAnyH P md ops Q S (fuel+1) listed a w:=by
  subst hb;subst hl;exact wpAnyH_take hi hs hf hr hQ (Or.inr ⟨hw,rfl⟩) hS h
end Go.Proofs.YtbcmabolkkfgfaaGreatDoor
