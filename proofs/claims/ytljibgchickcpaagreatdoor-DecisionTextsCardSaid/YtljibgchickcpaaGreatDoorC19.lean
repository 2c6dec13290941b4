/- Packed. -/
import Derived.Test.YtljibgchickcpaaGreatDoorC18
set_option maxRecDepth 100000
set_option maxHeartbeats 8000000
open Go.Value renaming int → I
open Go.IntKind renaming i64 → O
namespace Go.Proofs.YtljibgchickcpaaGreatDoor
open Go.RowKit Sc As Dn
theorem Dn.awB_iff {a:Awd}{farm:Int}:awB a farm=true↔a.farm=farm∧0≤a.scheme∧a.scheme≤15∧0≤a.decl∧a.decl≤268435456∧0≤a.det∧a.det≤a.decl∧0≤a.paid∧a.paid≤a.det∧0≤a.rated∧a.rated≤68719476736∧0≤a.timely∧a.timely≤a.rated∧0≤a.capped∧a.capped≤a.timely∧0≤a.due∧a.due≤a.capped:=by
 unfold awB fallB fallB fallB fallB fallB inR;simp only[Bool.and_eq_true,decide_eq_true_eq,and_true];omega
theorem money_iff {n:Int}:En.money n=true↔0≤n∧n≤68719476736:=by unfold En.money;simp
theorem refarea35_any (n:Int)(w:World):Calls Tryz.prog 61 #[I O n] w fun e w' => e = .returned (.bool (inR n 0 268435456))∧w=w' :=by
 unfold inR
 by_cases h1:0≤n
 ·rw[dqt h1]
  by_cases h2:n≤268435456
  ·rw[dqt h2]
   go_enter Tryz.func61,Tryz.ntmps61
   go_wp2
   go_ret
   exact⟨rfl,rfl⟩
  ·rw[dqf h2]
   go_enter Tryz.func61,Tryz.ntmps61
   go_wp2
   go_ret
   exact⟨rfl,rfl⟩
 ·rw[dqf h1]
  go_enter Tryz.func61,Tryz.ntmps61
  go_wp2
  go_ret
  exact⟨rfl,rfl⟩
theorem refright35_any (a:Awd)(farm:Int)(w:World):Calls Tryz.prog 33 #[.agg #[I O a.farm,I O a.scheme,I O a.decl,I O a.det,I O a.paid,I O a.rated,I O a.timely,I O a.capped,I O a.due],I O farm] w (BoolG (awB a farm) w):=by
 obtain⟨a1,a2,a3,a4,a5,a6,a7,a8,a9⟩:=a;simp only;have HB:=mh (balloc mle (brf w.heap.size w) (.cells #[I O a1,I O a2,I O a3,I O a4,I O a5,I O a6,I O a7,I O a8,I O a9] 78));have Ma3:=mh (fun (b:Bool) (e:inR a3 0 268435456=b)=>(show Calls Tryz.prog 61 #[I O a3] (w.alloc (.cells #[I O a1,I O a2,I O a3,I O a4,I O a5,I O a6,I O a7,I O a8,I O a9] 78)) fun e w' => e = .returned (.bool b)∧(w.alloc (.cells #[I O a1,I O a2,I O a3,I O a4,I O a5,I O a6,I O a7,I O a8,I O a9] 78))=w' from e▸refarea35_any a3 _));have Ma4:=mh (fun (b:Bool) (e:inR a4 0 268435456=b)=>(show Calls Tryz.prog 61 #[I O a4] (w.alloc (.cells #[I O a1,I O a2,I O a3,I O a4,I O a5,I O a6,I O a7,I O a8,I O a9] 78)) fun e w' => e = .returned (.bool b)∧(w.alloc (.cells #[I O a1,I O a2,I O a3,I O a4,I O a5,I O a6,I O a7,I O a8,I O a9] 78))=w' from e▸refarea35_any a4 _));have Ma5:=mh (fun (b:Bool) (e:inR a5 0 268435456=b)=>(show Calls Tryz.prog 61 #[I O a5] (w.alloc (.cells #[I O a1,I O a2,I O a3,I O a4,I O a5,I O a6,I O a7,I O a8,I O a9] 78)) fun e w' => e = .returned (.bool b)∧(w.alloc (.cells #[I O a1,I O a2,I O a3,I O a4,I O a5,I O a6,I O a7,I O a8,I O a9] 78))=w' from e▸refarea35_any a5 _));have Ma6:=mh (fun (b:Bool) (e:En.money a6=b)=>(show Calls Tryz.prog 62 #[I O a6] (w.alloc (.cells #[I O a1,I O a2,I O a3,I O a4,I O a5,I O a6,I O a7,I O a8,I O a9] 78)) fun e w' => e = .returned (.bool b)∧(w.alloc (.cells #[I O a1,I O a2,I O a3,I O a4,I O a5,I O a6,I O a7,I O a8,I O a9] 78))=w' from e▸refmoney_any a6 _));have Ma7:=mh (fun (b:Bool) (e:En.money a7=b)=>(show Calls Tryz.prog 62 #[I O a7] (w.alloc (.cells #[I O a1,I O a2,I O a3,I O a4,I O a5,I O a6,I O a7,I O a8,I O a9] 78)) fun e w' => e = .returned (.bool b)∧(w.alloc (.cells #[I O a1,I O a2,I O a3,I O a4,I O a5,I O a6,I O a7,I O a8,I O a9] 78))=w' from e▸refmoney_any a7 _));have Ma8:=mh (fun (b:Bool) (e:En.money a8=b)=>(show Calls Tryz.prog 62 #[I O a8] (w.alloc (.cells #[I O a1,I O a2,I O a3,I O a4,I O a5,I O a6,I O a7,I O a8,I O a9] 78)) fun e w' => e = .returned (.bool b)∧(w.alloc (.cells #[I O a1,I O a2,I O a3,I O a4,I O a5,I O a6,I O a7,I O a8,I O a9] 78))=w' from e▸refmoney_any a8 _))
 have Ma9:=mh (fun (b:Bool) (e:En.money a9=b)=>(show Calls Tryz.prog 62 #[I O a9] (w.alloc (.cells #[I O a1,I O a2,I O a3,I O a4,I O a5,I O a6,I O a7,I O a8,I O a9] 78)) fun e w' => e = .returned (.bool b)∧(w.alloc (.cells #[I O a1,I O a2,I O a3,I O a4,I O a5,I O a6,I O a7,I O a8,I O a9] 78))=w' from e▸refmoney_any a9 _))
 by_cases h0:a1=farm
 ·subst h0
  have h0:a1=a1:=rfl
  by_cases h1:0≤a2
  ·skip
   by_cases h2:a2≤15
   ·skip
    by_cases h3:0≤a3∧a3≤268435456
    ·have Ma3:=mh (Ma3.out true (inR_iff.2 h3))
     by_cases h4:0≤a4∧a4≤268435456
     ·have Ma4:=mh (Ma4.out true (inR_iff.2 h4))
      by_cases h5:0≤a5∧a5≤268435456
      ·have Ma5:=mh (Ma5.out true (inR_iff.2 h5))
       by_cases h6:a5≤a4
       ·skip
        by_cases h7:a4≤a3
        ·skip
         by_cases h8:0≤a6∧a6≤68719476736
         ·have Ma6:=mh (Ma6.out true (money_iff.2 h8))
          by_cases h9:0≤a7∧a7≤68719476736
          ·have Ma7:=mh (Ma7.out true (money_iff.2 h9))
           by_cases h10:0≤a8∧a8≤68719476736
           ·have Ma8:=mh (Ma8.out true (money_iff.2 h10))
            by_cases h11:0≤a9∧a9≤68719476736
            ·have Ma9:=mh (Ma9.out true (money_iff.2 h11))
             by_cases h12:a9≤a8
             ·skip
              by_cases h13:a8≤a7
              ·skip
               by_cases h14:a7≤a6
               ·skip
                have HA:awB ⟨a1,a2,a3,a4,a5,a6,a7,a8,a9⟩ a1=true:=awB_iff.2 ⟨rfl,h1,h2,h3.1,h3.2,h4.1,h7,h5.1,h6,h8.1,h8.2,h9.1,h14,h10.1,h13,h11.1,h12⟩;rw[HA];clear HA
                go_enter Tryz.func33,Tryz.ntmps33
                go_wp2_with (first|(go_at_call 61;(first|(with_reducible refine cmo Ma3.out ?_)|(with_reducible refine cmo Ma4.out ?_)|(with_reducible refine cmo Ma5.out ?_));rintro e w1 ⟨rfl,rfl⟩)|(go_at_call 62;(first|(with_reducible refine cmo Ma6.out ?_)|(with_reducible refine cmo Ma7.out ?_)|(with_reducible refine cmo Ma8.out ?_)|(with_reducible refine cmo Ma9.out ?_));rintro e w1 ⟨rfl,rfl⟩)|fail)
                go_ret
                exact⟨rfl,HB.out⟩
               ·have HA:awB ⟨a1,a2,a3,a4,a5,a6,a7,a8,a9⟩ a1=false:=Bool.eq_false_iff.2 fun e=>(by have:=awB_iff.1 e;simp only at this;omega)
                rw[HA];clear HA
                go_enter Tryz.func33,Tryz.ntmps33
                go_wp2_with (first|(go_at_call 61;(first|(with_reducible refine cmo Ma3.out ?_)|(with_reducible refine cmo Ma4.out ?_)|(with_reducible refine cmo Ma5.out ?_));rintro e w1 ⟨rfl,rfl⟩)|(go_at_call 62;(first|(with_reducible refine cmo Ma6.out ?_)|(with_reducible refine cmo Ma7.out ?_)|(with_reducible refine cmo Ma8.out ?_)|(with_reducible refine cmo Ma9.out ?_));rintro e w1 ⟨rfl,rfl⟩)|fail)
                go_ret
                refine⟨?_,HB.out⟩
                show Ending.returned (.bool (decide (a7≤a6)))=_
                rw[dqf (by omega)]
              ·have HA:awB ⟨a1,a2,a3,a4,a5,a6,a7,a8,a9⟩ a1=false:=Bool.eq_false_iff.2 fun e=>(by have:=awB_iff.1 e;simp only at this;omega)
               rw[HA];clear HA
               go_enter Tryz.func33,Tryz.ntmps33
               go_wp2_with (first|(go_at_call 61;(first|(with_reducible refine cmo Ma3.out ?_)|(with_reducible refine cmo Ma4.out ?_)|(with_reducible refine cmo Ma5.out ?_));rintro e w1 ⟨rfl,rfl⟩)|(go_at_call 62;(first|(with_reducible refine cmo Ma6.out ?_)|(with_reducible refine cmo Ma7.out ?_)|(with_reducible refine cmo Ma8.out ?_)|(with_reducible refine cmo Ma9.out ?_));rintro e w1 ⟨rfl,rfl⟩)|fail)
               go_ret
               exact⟨rfl,HB.out⟩
             ·have HA:awB ⟨a1,a2,a3,a4,a5,a6,a7,a8,a9⟩ a1=false:=Bool.eq_false_iff.2 fun e=>(by have:=awB_iff.1 e;simp only at this;omega)
              rw[HA];clear HA
              go_enter Tryz.func33,Tryz.ntmps33
              go_wp2_with (first|(go_at_call 61;(first|(with_reducible refine cmo Ma3.out ?_)|(with_reducible refine cmo Ma4.out ?_)|(with_reducible refine cmo Ma5.out ?_));rintro e w1 ⟨rfl,rfl⟩)|(go_at_call 62;(first|(with_reducible refine cmo Ma6.out ?_)|(with_reducible refine cmo Ma7.out ?_)|(with_reducible refine cmo Ma8.out ?_)|(with_reducible refine cmo Ma9.out ?_));rintro e w1 ⟨rfl,rfl⟩)|fail)
              go_ret
              exact⟨rfl,HB.out⟩
            ·have Ma9:=mh (Ma9.out false (Bool.eq_false_iff.2 fun e=>h11 (money_iff.1 e)))
             have HA:awB ⟨a1,a2,a3,a4,a5,a6,a7,a8,a9⟩ a1=false:=Bool.eq_false_iff.2 fun e=>(by have:=awB_iff.1 e;simp only at this;omega)
             rw[HA];clear HA
             go_enter Tryz.func33,Tryz.ntmps33
             go_wp2_with (first|(go_at_call 61;(first|(with_reducible refine cmo Ma3.out ?_)|(with_reducible refine cmo Ma4.out ?_)|(with_reducible refine cmo Ma5.out ?_));rintro e w1 ⟨rfl,rfl⟩)|(go_at_call 62;(first|(with_reducible refine cmo Ma6.out ?_)|(with_reducible refine cmo Ma7.out ?_)|(with_reducible refine cmo Ma8.out ?_)|(with_reducible refine cmo Ma9.out ?_));rintro e w1 ⟨rfl,rfl⟩)|fail)
             go_ret
             exact⟨rfl,HB.out⟩
           ·have Ma8:=mh (Ma8.out false (Bool.eq_false_iff.2 fun e=>h10 (money_iff.1 e)))
            have HA:awB ⟨a1,a2,a3,a4,a5,a6,a7,a8,a9⟩ a1=false:=Bool.eq_false_iff.2 fun e=>(by have:=awB_iff.1 e;simp only at this;omega)
            rw[HA];clear HA
            go_enter Tryz.func33,Tryz.ntmps33
            go_wp2_with (first|(go_at_call 61;(first|(with_reducible refine cmo Ma3.out ?_)|(with_reducible refine cmo Ma4.out ?_)|(with_reducible refine cmo Ma5.out ?_));rintro e w1 ⟨rfl,rfl⟩)|(go_at_call 62;(first|(with_reducible refine cmo Ma6.out ?_)|(with_reducible refine cmo Ma7.out ?_)|(with_reducible refine cmo Ma8.out ?_)|(with_reducible refine cmo Ma9.out ?_));rintro e w1 ⟨rfl,rfl⟩)|fail)
            go_ret
            exact⟨rfl,HB.out⟩
          ·have Ma7:=mh (Ma7.out false (Bool.eq_false_iff.2 fun e=>h9 (money_iff.1 e)))
           have HA:awB ⟨a1,a2,a3,a4,a5,a6,a7,a8,a9⟩ a1=false:=Bool.eq_false_iff.2 fun e=>(by have:=awB_iff.1 e;simp only at this;omega)
           rw[HA];clear HA
           go_enter Tryz.func33,Tryz.ntmps33
           go_wp2_with (first|(go_at_call 61;(first|(with_reducible refine cmo Ma3.out ?_)|(with_reducible refine cmo Ma4.out ?_)|(with_reducible refine cmo Ma5.out ?_));rintro e w1 ⟨rfl,rfl⟩)|(go_at_call 62;(first|(with_reducible refine cmo Ma6.out ?_)|(with_reducible refine cmo Ma7.out ?_)|(with_reducible refine cmo Ma8.out ?_)|(with_reducible refine cmo Ma9.out ?_));rintro e w1 ⟨rfl,rfl⟩)|fail)
           go_ret
           exact⟨rfl,HB.out⟩
         ·have Ma6:=mh (Ma6.out false (Bool.eq_false_iff.2 fun e=>h8 (money_iff.1 e)))
          have HA:awB ⟨a1,a2,a3,a4,a5,a6,a7,a8,a9⟩ a1=false:=Bool.eq_false_iff.2 fun e=>(by have:=awB_iff.1 e;simp only at this;omega)
          rw[HA];clear HA
          go_enter Tryz.func33,Tryz.ntmps33
          go_wp2_with (first|(go_at_call 61;(first|(with_reducible refine cmo Ma3.out ?_)|(with_reducible refine cmo Ma4.out ?_)|(with_reducible refine cmo Ma5.out ?_));rintro e w1 ⟨rfl,rfl⟩)|(go_at_call 62;(first|(with_reducible refine cmo Ma6.out ?_)|(with_reducible refine cmo Ma7.out ?_)|(with_reducible refine cmo Ma8.out ?_)|(with_reducible refine cmo Ma9.out ?_));rintro e w1 ⟨rfl,rfl⟩)|fail)
          go_ret
          exact⟨rfl,HB.out⟩
        ·have HA:awB ⟨a1,a2,a3,a4,a5,a6,a7,a8,a9⟩ a1=false:=Bool.eq_false_iff.2 fun e=>(by have:=awB_iff.1 e;simp only at this;omega)
         rw[HA];clear HA
         go_enter Tryz.func33,Tryz.ntmps33
         go_wp2_with (first|(go_at_call 61;(first|(with_reducible refine cmo Ma3.out ?_)|(with_reducible refine cmo Ma4.out ?_)|(with_reducible refine cmo Ma5.out ?_));rintro e w1 ⟨rfl,rfl⟩)|(go_at_call 62;(first|(with_reducible refine cmo Ma6.out ?_)|(with_reducible refine cmo Ma7.out ?_)|(with_reducible refine cmo Ma8.out ?_)|(with_reducible refine cmo Ma9.out ?_));rintro e w1 ⟨rfl,rfl⟩)|fail)
         go_ret
         exact⟨rfl,HB.out⟩
       ·have HA:awB ⟨a1,a2,a3,a4,a5,a6,a7,a8,a9⟩ a1=false:=Bool.eq_false_iff.2 fun e=>(by have:=awB_iff.1 e;simp only at this;omega)
        rw[HA];clear HA
        go_enter Tryz.func33,Tryz.ntmps33
        go_wp2_with (first|(go_at_call 61;(first|(with_reducible refine cmo Ma3.out ?_)|(with_reducible refine cmo Ma4.out ?_)|(with_reducible refine cmo Ma5.out ?_));rintro e w1 ⟨rfl,rfl⟩)|(go_at_call 62;(first|(with_reducible refine cmo Ma6.out ?_)|(with_reducible refine cmo Ma7.out ?_)|(with_reducible refine cmo Ma8.out ?_)|(with_reducible refine cmo Ma9.out ?_));rintro e w1 ⟨rfl,rfl⟩)|fail)
        go_ret
        exact⟨rfl,HB.out⟩
      ·have Ma5:=mh (Ma5.out false (Bool.eq_false_iff.2 fun e=>h5 (inR_iff.1 e)))
       have HA:awB ⟨a1,a2,a3,a4,a5,a6,a7,a8,a9⟩ a1=false:=Bool.eq_false_iff.2 fun e=>(by have:=awB_iff.1 e;simp only at this;omega)
       rw[HA];clear HA
       go_enter Tryz.func33,Tryz.ntmps33
       go_wp2_with (first|(go_at_call 61;(first|(with_reducible refine cmo Ma3.out ?_)|(with_reducible refine cmo Ma4.out ?_)|(with_reducible refine cmo Ma5.out ?_));rintro e w1 ⟨rfl,rfl⟩)|(go_at_call 62;(first|(with_reducible refine cmo Ma6.out ?_)|(with_reducible refine cmo Ma7.out ?_)|(with_reducible refine cmo Ma8.out ?_)|(with_reducible refine cmo Ma9.out ?_));rintro e w1 ⟨rfl,rfl⟩)|fail)
       go_ret
       exact⟨rfl,HB.out⟩
     ·have Ma4:=mh (Ma4.out false (Bool.eq_false_iff.2 fun e=>h4 (inR_iff.1 e)))
      have HA:awB ⟨a1,a2,a3,a4,a5,a6,a7,a8,a9⟩ a1=false:=Bool.eq_false_iff.2 fun e=>(by have:=awB_iff.1 e;simp only at this;omega)
      rw[HA];clear HA
      go_enter Tryz.func33,Tryz.ntmps33
      go_wp2_with (first|(go_at_call 61;(first|(with_reducible refine cmo Ma3.out ?_)|(with_reducible refine cmo Ma4.out ?_)|(with_reducible refine cmo Ma5.out ?_));rintro e w1 ⟨rfl,rfl⟩)|(go_at_call 62;(first|(with_reducible refine cmo Ma6.out ?_)|(with_reducible refine cmo Ma7.out ?_)|(with_reducible refine cmo Ma8.out ?_)|(with_reducible refine cmo Ma9.out ?_));rintro e w1 ⟨rfl,rfl⟩)|fail)
      go_ret
      exact⟨rfl,HB.out⟩
    ·have Ma3:=mh (Ma3.out false (Bool.eq_false_iff.2 fun e=>h3 (inR_iff.1 e)))
     have HA:awB ⟨a1,a2,a3,a4,a5,a6,a7,a8,a9⟩ a1=false:=Bool.eq_false_iff.2 fun e=>(by have:=awB_iff.1 e;simp only at this;omega)
     rw[HA];clear HA
     go_enter Tryz.func33,Tryz.ntmps33
     go_wp2_with (first|(go_at_call 61;(first|(with_reducible refine cmo Ma3.out ?_)|(with_reducible refine cmo Ma4.out ?_)|(with_reducible refine cmo Ma5.out ?_));rintro e w1 ⟨rfl,rfl⟩)|(go_at_call 62;(first|(with_reducible refine cmo Ma6.out ?_)|(with_reducible refine cmo Ma7.out ?_)|(with_reducible refine cmo Ma8.out ?_)|(with_reducible refine cmo Ma9.out ?_));rintro e w1 ⟨rfl,rfl⟩)|fail)
     go_ret
     exact⟨rfl,HB.out⟩
   ·have HA:awB ⟨a1,a2,a3,a4,a5,a6,a7,a8,a9⟩ a1=false:=Bool.eq_false_iff.2 fun e=>(by have:=awB_iff.1 e;simp only at this;omega)
    rw[HA];clear HA
    go_enter Tryz.func33,Tryz.ntmps33
    go_wp2_with (first|(go_at_call 61;(first|(with_reducible refine cmo Ma3.out ?_)|(with_reducible refine cmo Ma4.out ?_)|(with_reducible refine cmo Ma5.out ?_));rintro e w1 ⟨rfl,rfl⟩)|(go_at_call 62;(first|(with_reducible refine cmo Ma6.out ?_)|(with_reducible refine cmo Ma7.out ?_)|(with_reducible refine cmo Ma8.out ?_)|(with_reducible refine cmo Ma9.out ?_));rintro e w1 ⟨rfl,rfl⟩)|fail)
    go_ret
    exact⟨rfl,HB.out⟩
  ·have HA:awB ⟨a1,a2,a3,a4,a5,a6,a7,a8,a9⟩ a1=false:=Bool.eq_false_iff.2 fun e=>(by have:=awB_iff.1 e;simp only at this;omega)
   rw[HA];clear HA
   go_enter Tryz.func33,Tryz.ntmps33
   go_wp2_with (first|(go_at_call 61;(first|(with_reducible refine cmo Ma3.out ?_)|(with_reducible refine cmo Ma4.out ?_)|(with_reducible refine cmo Ma5.out ?_));rintro e w1 ⟨rfl,rfl⟩)|(go_at_call 62;(first|(with_reducible refine cmo Ma6.out ?_)|(with_reducible refine cmo Ma7.out ?_)|(with_reducible refine cmo Ma8.out ?_)|(with_reducible refine cmo Ma9.out ?_));rintro e w1 ⟨rfl,rfl⟩)|fail)
   go_ret
   exact⟨rfl,HB.out⟩
 ·have HA:awB ⟨a1,a2,a3,a4,a5,a6,a7,a8,a9⟩ farm=false:=Bool.eq_false_iff.2 fun e=>(by have:=awB_iff.1 e;simp only at this;omega)
  have h0b:(a1==farm)=false:=by simpa using h0
  rw[HA];clear HA
  go_enter Tryz.func33,Tryz.ntmps33
  go_wp2_with (first|(go_at_call 61;(first|(with_reducible refine cmo Ma3.out ?_)|(with_reducible refine cmo Ma4.out ?_)|(with_reducible refine cmo Ma5.out ?_));rintro e w1 ⟨rfl,rfl⟩)|(go_at_call 62;(first|(with_reducible refine cmo Ma6.out ?_)|(with_reducible refine cmo Ma7.out ?_)|(with_reducible refine cmo Ma8.out ?_)|(with_reducible refine cmo Ma9.out ?_));rintro e w1 ⟨rfl,rfl⟩)|fail)
  go_ret
  exact⟨rfl,HB.out⟩
end Go.Proofs.YtljibgchickcpaaGreatDoor
