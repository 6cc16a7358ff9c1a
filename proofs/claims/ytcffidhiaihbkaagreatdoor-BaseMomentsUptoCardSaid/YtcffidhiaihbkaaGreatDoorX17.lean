/-
  Lattices: the order.
-/
import Derived.Test.YtcffidhiaihbkaaGreatDoorX16
set_option linter.unusedSimpArgs false
set_option linter.unusedVariables false
set_option maxRecDepth 100000
set_option maxHeartbeats 4000000
namespace Go.AL
open Go.Proofs Go.Proofs.Tryz
theorem zgX (x:BA) (C:Prop) (g:FuncId) (cap:List PV) (t:TypeId) (J:Heap) (hF:EB g ((yQ x)::cap) fun b=>b=true→C) (ht: ∀ p∈(yQ x)::cap,Tree p):
  ECall prog G0 194 [yQ x,.ptr 0 0] ([.var t [.fn (.func g) [] cap]]++J) fun p h'=> ∃ (b:Bool) (J':Heap),p=bo b∧(b=false→C)∧h'=[.var t [.fn (.func g) [] cap]]++J':=by
 refine pv func194 8 false (by kernel_rfl) rfl rfl ?_
 refine g2 ?_
 refine gf @zA ?_
 (refine g1f @zA ?_;refine zC (hF.call zK ht _) ?_;intro p2 h2 hr2;refine g2 ?_)
 obtain ⟨⟨b,rfl,hC⟩,rfl⟩:=hr2
 refine ge ?_
 exact ⟨_,_,rfl,fun h=>hC (by simpa using h),rfl⟩
theorem zcD (l:List BA) (C:BA→Prop) (most:Int) (g:FuncId) (cap:List PV) (hl:l.length≤140737488355328) (hF: ∀ x∈l,EB g ((yQ x)::cap) fun b=>b=true→C x) (ht: ∀ x∈l, ∀ p∈(yQ x)::cap,Tree p):
  EB 146 [rR l,i64 most,.fn (.func g) [] cap] fun b=>b=true→(l.length:Int)≤most∧ ∀ x∈l,C x:=by
 refine ECall.cut (R:=fun p _=> ∃ b:Bool,p=bo b∧(b=true→(l.length:Int)≤most∧ ∀ x∈l,C x)) (pv func146 17 false (by kernel_rfl) rfl rfl ?_) (by rintro p h ⟨b,rfl,hb⟩;exact ⟨b,rfl,hb⟩)
 refine g2 ?_
 by_cases hm:(l.length:Int)≤most
 ·have hb:=decide_eq_true hm
  refine gf @hb ?_
  (refine g1f @hb ?_;refine zC (zmL l C 194 [.ptr 0 0] [.var _ [.fn (.func g) [] cap]] hl (fun x hx J=>zgX x (C x) g cap _ J (hF x hx) (ht x hx)) []) ?_;intro p2 h2 hr2;refine g2 ?_)
  obtain ⟨b,J',rfl,hC,rfl⟩:=hr2
  refine gf @hb ?_
  exact ⟨_,rfl,fun h=>⟨hm,hC (by simpa using h)⟩⟩
 ·have hb:=decide_eq_false hm
  refine gf @hb ?_
  exact ⟨_,rfl,by simp⟩
theorem zgY (x:Int) (C:Prop) (g:FuncId) (cap:List PV) (t:TypeId) (J:Heap) (hF:EB g ((i64 x)::cap) fun b=>b=true→C) (ht: ∀ p∈(i64 x)::cap,Tree p):
  ECall prog G0 197 [i64 x,.ptr 0 0] ([.var t [.fn (.func g) [] cap]]++J) fun p h'=> ∃ (b:Bool) (J':Heap),p=bo b∧(b=false→C)∧h'=[.var t [.fn (.func g) [] cap]]++J':=by
 refine pv func197 8 false (by kernel_rfl) rfl rfl ?_
 refine g2 ?_
 refine gf @zA ?_
 (refine g1f @zA ?_;refine zC (hF.call zK ht _) ?_;intro p2 h2 hr2;refine g2 ?_)
 obtain ⟨⟨b,rfl,hC⟩,rfl⟩:=hr2
 refine ge ?_
 exact ⟨_,_,rfl,fun h=>hC (by simpa using h),rfl⟩
theorem zkK (l:List Int) (C:Int→Prop) (most:Int) (g:FuncId) (cap:List PV) (hl:l.length≤140737488355328) (hF: ∀ x∈l,EB g ((i64 x)::cap) fun b=>b=true→C x) (ht: ∀ x∈l, ∀ p∈(i64 x)::cap,Tree p):
  EB 150 [vF l,i64 most,.fn (.func g) [] cap] fun b=>b=true→(l.length:Int)≤most∧ ∀ x∈l,C x:=by
 refine ECall.cut (R:=fun p _=> ∃ b:Bool,p=bo b∧(b=true→(l.length:Int)≤most∧ ∀ x∈l,C x)) (pv func150 17 false (by kernel_rfl) rfl rfl ?_) (by rintro p h ⟨b,rfl,hb⟩;exact ⟨b,rfl,hb⟩)
 refine g2 ?_
 by_cases hm:(l.length:Int)≤most
 ·have hb:=decide_eq_true hm
  refine gf @hb ?_
  (refine g1f @hb ?_;refine zC (zmM l C 197 [.ptr 0 0] [.var _ [.fn (.func g) [] cap]] hl (fun x hx J=>zgY x (C x) g cap _ J (hF x hx) (ht x hx)) []) ?_;intro p2 h2 hr2;refine g2 ?_)
  obtain ⟨b,J',rfl,hC,rfl⟩:=hr2
  refine gf @hb ?_
  exact ⟨_,rfl,fun h=>⟨hm,hC (by simpa using h)⟩⟩
 ·have hb:=decide_eq_false hm
  refine gf @hb ?_
  exact ⟨_,rfl,by simp⟩
theorem zkP (x:La) (C:Prop) (g:FuncId) (cap:List PV) (t:TypeId) (J:Heap) (hF:EB g ((.agg x.c)::cap) fun b=>b=true→C) (ht: ∀ p∈(.agg x.c)::cap,Tree p):
  ECall prog G0 142 [.agg x.c,.ptr 0 0] ([.var t [.fn (.func g) [] cap]]++J) fun p h'=> ∃ (b:Bool) (J':Heap),p=bo b∧(b=false→C)∧h'=[.var t [.fn (.func g) [] cap]]++J':=by
 refine pv func142 8 false (by kernel_rfl) rfl rfl ?_
 refine g2 ?_
 refine gf @zA ?_
 (refine g1f @zA ?_;refine zC (hF.call zK ht _) ?_;intro p2 h2 hr2;refine g2 ?_)
 obtain ⟨⟨b,rfl,hC⟩,rfl⟩:=hr2
 refine ge ?_
 exact ⟨_,_,rfl,fun h=>hC (by simpa using h),rfl⟩
theorem zmX (l:List La) (C:La→Prop) (most:Int) (g:FuncId) (cap:List PV) (hl:l.length≤140737488355328) (hF: ∀ x∈l,EB g ((.agg x.c)::cap) fun b=>b=true→C x) (ht: ∀ x∈l, ∀ p∈(.agg x.c)::cap,Tree p):
  EB 105 [.ts 4 (l.map La.c),i64 most,.fn (.func g) [] cap] fun b=>b=true→(l.length:Int)≤most∧ ∀ x∈l,C x:=by
 refine ECall.cut (R:=fun p _=> ∃ b:Bool,p=bo b∧(b=true→(l.length:Int)≤most∧ ∀ x∈l,C x)) (pv func105 17 false (by kernel_rfl) rfl rfl ?_) (by rintro p h ⟨b,rfl,hb⟩;exact ⟨b,rfl,hb⟩)
 refine g2 ?_
 by_cases hm:(l.length:Int)≤most
 ·have hb:=decide_eq_true hm
  refine gf @hb ?_
  (refine g1f @hb ?_;refine zC (cf_la l C 142 [.ptr 0 0] [.var _ [.fn (.func g) [] cap]] hl (fun x hx J=>zkP x (C x) g cap _ J (hF x hx) (ht x hx)) []) ?_;intro p2 h2 hr2;refine g2 ?_)
  obtain ⟨b,J',rfl,hC,rfl⟩:=hr2
  refine gf @hb ?_
  exact ⟨_,rfl,fun h=>⟨hm,hC (by simpa using h)⟩⟩
 ·have hb:=decide_eq_false hm
  refine gf @hb ?_
  exact ⟨_,rfl,by simp⟩
theorem zkQ (x:Fu) (C:Prop) (g:FuncId) (cap:List PV) (t:TypeId) (J:Heap) (hF:EB g ((.agg x.c)::cap) fun b=>b=true→C) (ht: ∀ p∈(.agg x.c)::cap,Tree p):
  ECall prog G0 144 [.agg x.c,.ptr 0 0] ([.var t [.fn (.func g) [] cap]]++J) fun p h'=> ∃ (b:Bool) (J':Heap),p=bo b∧(b=false→C)∧h'=[.var t [.fn (.func g) [] cap]]++J':=by
 refine pv func144 8 false (by kernel_rfl) rfl rfl ?_
 refine g2 ?_
 refine gf @zA ?_
 (refine g1f @zA ?_;refine zC (hF.call zK ht _) ?_;intro p2 h2 hr2;refine g2 ?_)
 obtain ⟨⟨b,rfl,hC⟩,rfl⟩:=hr2
 refine ge ?_
 exact ⟨_,_,rfl,fun h=>hC (by simpa using h),rfl⟩
theorem zmY (l:List Fu) (C:Fu→Prop) (most:Int) (g:FuncId) (cap:List PV) (hl:l.length≤140737488355328) (hF: ∀ x∈l,EB g ((.agg x.c)::cap) fun b=>b=true→C x) (ht: ∀ x∈l, ∀ p∈(.agg x.c)::cap,Tree p):
  EB 106 [.ts 7 (l.map Fu.c),i64 most,.fn (.func g) [] cap] fun b=>b=true→(l.length:Int)≤most∧ ∀ x∈l,C x:=by
 refine ECall.cut (R:=fun p _=> ∃ b:Bool,p=bo b∧(b=true→(l.length:Int)≤most∧ ∀ x∈l,C x)) (pv func106 17 false (by kernel_rfl) rfl rfl ?_) (by rintro p h ⟨b,rfl,hb⟩;exact ⟨b,rfl,hb⟩)
 refine g2 ?_
 by_cases hm:(l.length:Int)≤most
 ·have hb:=decide_eq_true hm
  refine gf @hb ?_
  (refine g1f @hb ?_;refine zC (cf_fu l C 144 [.ptr 0 0] [.var _ [.fn (.func g) [] cap]] hl (fun x hx J=>zkQ x (C x) g cap _ J (hF x hx) (ht x hx)) []) ?_;intro p2 h2 hr2;refine g2 ?_)
  obtain ⟨b,J',rfl,hC,rfl⟩:=hr2
  refine gf @hb ?_
  exact ⟨_,rfl,fun h=>⟨hm,hC (by simpa using h)⟩⟩
 ·have hb:=decide_eq_false hm
  refine gf @hb ?_
  exact ⟨_,rfl,by simp⟩
theorem zkN (x:Pd) (C:Prop) (g:FuncId) (cap:List PV) (t:TypeId) (J:Heap) (hF:EB g ((.agg x.c)::cap) fun b=>b=true→C) (ht: ∀ p∈(.agg x.c)::cap,Tree p):
  ECall prog G0 148 [.agg x.c,.ptr 0 0] ([.var t [.fn (.func g) [] cap]]++J) fun p h'=> ∃ (b:Bool) (J':Heap),p=bo b∧(b=false→C)∧h'=[.var t [.fn (.func g) [] cap]]++J':=by
 refine pv func148 8 false (by kernel_rfl) rfl rfl ?_
 refine g2 ?_
 refine gf @zA ?_
 (refine g1f @zA ?_;refine zC (hF.call zK ht _) ?_;intro p2 h2 hr2;refine g2 ?_)
 obtain ⟨⟨b,rfl,hC⟩,rfl⟩:=hr2
 refine ge ?_
 exact ⟨_,_,rfl,fun h=>hC (by simpa using h),rfl⟩
theorem zmV (l:List Pd) (C:Pd→Prop) (most:Int) (g:FuncId) (cap:List PV) (hl:l.length≤140737488355328) (hF: ∀ x∈l,EB g ((.agg x.c)::cap) fun b=>b=true→C x) (ht: ∀ x∈l, ∀ p∈(.agg x.c)::cap,Tree p):
  EB 108 [.ts 7 (l.map Pd.c),i64 most,.fn (.func g) [] cap] fun b=>b=true→(l.length:Int)≤most∧ ∀ x∈l,C x:=by
 refine ECall.cut (R:=fun p _=> ∃ b:Bool,p=bo b∧(b=true→(l.length:Int)≤most∧ ∀ x∈l,C x)) (pv func108 17 false (by kernel_rfl) rfl rfl ?_) (by rintro p h ⟨b,rfl,hb⟩;exact ⟨b,rfl,hb⟩)
 refine g2 ?_
 by_cases hm:(l.length:Int)≤most
 ·have hb:=decide_eq_true hm
  refine gf @hb ?_
  (refine g1f @hb ?_;refine zC (cf_pd l C 148 [.ptr 0 0] [.var _ [.fn (.func g) [] cap]] hl (fun x hx J=>zkN x (C x) g cap _ J (hF x hx) (ht x hx)) []) ?_;intro p2 h2 hr2;refine g2 ?_)
  obtain ⟨b,J',rfl,hC,rfl⟩:=hr2
  refine gf @hb ?_
  exact ⟨_,rfl,fun h=>⟨hm,hC (by simpa using h)⟩⟩
 ·have hb:=decide_eq_false hm
  refine gf @hb ?_
  exact ⟨_,rfl,by simp⟩
theorem zkM (x:Ru) (C:Prop) (g:FuncId) (cap:List PV) (t:TypeId) (J:Heap) (hF:EB g ((.agg x.c)::cap) fun b=>b=true→C) (ht: ∀ p∈(.agg x.c)::cap,Tree p):
  ECall prog G0 152 [.agg x.c,.ptr 0 0] ([.var t [.fn (.func g) [] cap]]++J) fun p h'=> ∃ (b:Bool) (J':Heap),p=bo b∧(b=false→C)∧h'=[.var t [.fn (.func g) [] cap]]++J':=by
 refine pv func152 8 false (by kernel_rfl) rfl rfl ?_
 refine g2 ?_
 refine gf @zA ?_
 (refine g1f @zA ?_;refine zC (hF.call zK ht _) ?_;intro p2 h2 hr2;refine g2 ?_)
 obtain ⟨⟨b,rfl,hC⟩,rfl⟩:=hr2
 refine ge ?_
 exact ⟨_,_,rfl,fun h=>hC (by simpa using h),rfl⟩
theorem zmU (l:List Ru) (C:Ru→Prop) (most:Int) (g:FuncId) (cap:List PV) (hl:l.length≤140737488355328) (hF: ∀ x∈l,EB g ((.agg x.c)::cap) fun b=>b=true→C x) (ht: ∀ x∈l, ∀ p∈(.agg x.c)::cap,Tree p):
  EB 110 [.ts 9 (l.map Ru.c),i64 most,.fn (.func g) [] cap] fun b=>b=true→(l.length:Int)≤most∧ ∀ x∈l,C x:=by
 refine ECall.cut (R:=fun p _=> ∃ b:Bool,p=bo b∧(b=true→(l.length:Int)≤most∧ ∀ x∈l,C x)) (pv func110 17 false (by kernel_rfl) rfl rfl ?_) (by rintro p h ⟨b,rfl,hb⟩;exact ⟨b,rfl,hb⟩)
 refine g2 ?_
 by_cases hm:(l.length:Int)≤most
 ·have hb:=decide_eq_true hm
  refine gf @hb ?_
  (refine g1f @hb ?_;refine zC (cf_ru l C 152 [.ptr 0 0] [.var _ [.fn (.func g) [] cap]] hl (fun x hx J=>zkM x (C x) g cap _ J (hF x hx) (ht x hx)) []) ?_;intro p2 h2 hr2;refine g2 ?_)
  obtain ⟨b,J',rfl,hC,rfl⟩:=hr2
  refine gf @hb ?_
  exact ⟨_,rfl,fun h=>⟨hm,hC (by simpa using h)⟩⟩
 ·have hb:=decide_eq_false hm
  refine gf @hb ?_
  exact ⟨_,rfl,by simp⟩
theorem zkL (x:Tm) (C:Prop) (g:FuncId) (cap:List PV) (t:TypeId) (J:Heap) (hF:EB g ((.agg x.c)::cap) fun b=>b=true→C) (ht: ∀ p∈(.agg x.c)::cap,Tree p):
  ECall prog G0 200 [.agg x.c,.ptr 0 0] ([.var t [.fn (.func g) [] cap]]++J) fun p h'=> ∃ (b:Bool) (J':Heap),p=bo b∧(b=false→C)∧h'=[.var t [.fn (.func g) [] cap]]++J':=by
 refine pv func200 8 false (by kernel_rfl) rfl rfl ?_
 refine g2 ?_
 refine gf @zA ?_
 (refine g1f @zA ?_;refine zC (hF.call zK ht _) ?_;intro p2 h2 hr2;refine g2 ?_)
 obtain ⟨⟨b,rfl,hC⟩,rfl⟩:=hr2
 refine ge ?_
 exact ⟨_,_,rfl,fun h=>hC (by simpa using h),rfl⟩
theorem zhX (l:List Tm) (C:Tm→Prop) (most:Int) (g:FuncId) (cap:List PV) (hl:l.length≤140737488355328) (hF: ∀ x∈l,EB g ((.agg x.c)::cap) fun b=>b=true→C x) (ht: ∀ x∈l, ∀ p∈(.agg x.c)::cap,Tree p):
  EB 155 [mI l,i64 most,.fn (.func g) [] cap] fun b=>b=true→(l.length:Int)≤most∧ ∀ x∈l,C x:=by
 refine ECall.cut (R:=fun p _=> ∃ b:Bool,p=bo b∧(b=true→(l.length:Int)≤most∧ ∀ x∈l,C x)) (pv func155 17 false (by kernel_rfl) rfl rfl ?_) (by rintro p h ⟨b,rfl,hb⟩;exact ⟨b,rfl,hb⟩)
 refine g2 ?_
 by_cases hm:(l.length:Int)≤most
 ·have hb:=decide_eq_true hm
  refine gf @hb ?_
  (refine g1f @hb ?_;refine zC (cf_tm l C 200 [.ptr 0 0] [.var _ [.fn (.func g) [] cap]] hl (fun x hx J=>zkL x (C x) g cap _ J (hF x hx) (ht x hx)) []) ?_;intro p2 h2 hr2;refine g2 ?_)
  obtain ⟨b,J',rfl,hC,rfl⟩:=hr2
  refine gf @hb ?_
  exact ⟨_,rfl,fun h=>⟨hm,hC (by simpa using h)⟩⟩
 ·have hb:=decide_eq_false hm
  refine gf @hb ?_
  exact ⟨_,rfl,by simp⟩
theorem zkO (x:Li) (C:Prop) (g:FuncId) (cap:List PV) (t:TypeId) (J:Heap) (hF:EB g ((.agg x.c)::cap) fun b=>b=true→C) (ht: ∀ p∈(.agg x.c)::cap,Tree p):
  ECall prog G0 202 [.agg x.c,.ptr 0 0] ([.var t [.fn (.func g) [] cap]]++J) fun p h'=> ∃ (b:Bool) (J':Heap),p=bo b∧(b=false→C)∧h'=[.var t [.fn (.func g) [] cap]]++J':=by
 refine pv func202 8 false (by kernel_rfl) rfl rfl ?_
 refine g2 ?_
 refine gf @zA ?_
 (refine g1f @zA ?_;refine zC (hF.call zK ht _) ?_;intro p2 h2 hr2;refine g2 ?_)
 obtain ⟨⟨b,rfl,hC⟩,rfl⟩:=hr2
 refine ge ?_
 exact ⟨_,_,rfl,fun h=>hC (by simpa using h),rfl⟩
theorem zmW (l:List Li) (C:Li→Prop) (most:Int) (g:FuncId) (cap:List PV) (hl:l.length≤140737488355328) (hF: ∀ x∈l,EB g ((.agg x.c)::cap) fun b=>b=true→C x) (ht: ∀ x∈l, ∀ p∈(.agg x.c)::cap,Tree p):
  EB 157 [.ts 9 (l.map Li.c),i64 most,.fn (.func g) [] cap] fun b=>b=true→(l.length:Int)≤most∧ ∀ x∈l,C x:=by
 refine ECall.cut (R:=fun p _=> ∃ b:Bool,p=bo b∧(b=true→(l.length:Int)≤most∧ ∀ x∈l,C x)) (pv func157 17 false (by kernel_rfl) rfl rfl ?_) (by rintro p h ⟨b,rfl,hb⟩;exact ⟨b,rfl,hb⟩)
 refine g2 ?_
 by_cases hm:(l.length:Int)≤most
 ·have hb:=decide_eq_true hm
  refine gf @hb ?_
  (refine g1f @hb ?_;refine zC (cf_li l C 202 [.ptr 0 0] [.var _ [.fn (.func g) [] cap]] hl (fun x hx J=>zkO x (C x) g cap _ J (hF x hx) (ht x hx)) []) ?_;intro p2 h2 hr2;refine g2 ?_)
  obtain ⟨b,J',rfl,hC,rfl⟩:=hr2
  refine gf @hb ?_
  exact ⟨_,rfl,fun h=>⟨hm,hC (by simpa using h)⟩⟩
 ·have hb:=decide_eq_false hm
  refine gf @hb ?_
  exact ⟨_,rfl,by simp⟩
end Go.AL
namespace Go.AL
open Go.Proofs Go.Proofs.Tryz
theorem qH (l:List BA) (s:BA) (hl:l.length≤140737488355328):EI 159 [rR l,yQ s] fun n=> -1≤n∧n<l.length:=by
 refine ECall.pure (sA (own:=false) func159 rfl (by kernel_rfl) (show _=[rR l,yQ s,.ud,.ud,.ud,.ud,.ud,.ud,.ud,.ud,.ud,.ud,.ud,.ud,.ud,.ud,.ud,.ud,.ud] from rfl) ?_)
 refine ge ?_
 refine zO l.length (K4 (.d:: .d:: .k:: .k:: .v::D9 (.d::[]))) (own:=false) (fun i (_:Unit)=>[i64 i]) (fun _=>[]) (fun _ _=>True) () rfl rfl trivial hl ?_ ?_
 ·rintro s hI
  refine gm ?_
  refine gf @zM ?_
  exact ⟨⟨⟨_,rfl,by omega,by omega⟩,.sc⟩,rfl⟩
 ·rintro i _ hi hw _
  refine gm ?_
  have hx:=zG (f:=fun s:BA=>[yQ s]) [] hi
  (have F:=(a4 @hi @hx @zB @hw);(repeat' (first|refine dR F ?_|refine dQ F (fun he=> ?_) (fun he=> ?_)|fail));all_goals clear F)
  ·exact ⟨⟨⟨_,rfl,by omega,by omega⟩,.sc⟩,rfl⟩
  ·exact ⟨(),trivial,rfl,rfl,rfl⟩
theorem wC (l:List BA) (s:BA) (hl:l.length≤140737488355328):EB 130 [rR l,yQ s]:=by
 refine ECall.pure (sA (own:=false) func130 rfl (by kernel_rfl) (show _=[rR l,yQ s,.ud,.ud,.ud,.ud,.ud,.ud,.ud] from rfl) ?_)
 (repeat' (first|refine gz ?_|(refine gn ?_;intro zs zh;(try simp only [go_sem] at zh);subst zh;(first|refine gv ?_|(refine zC ((qH _ _ hl).call zK (by simp) _) ?_;intro p2 h2 hr2;obtain ⟨hr2,rfl⟩:=hr2;first|obtain ⟨_,rfl,hr2⟩:=hr2|obtain ⟨_,rfl⟩:=hr2|subst hr2|skip)|(refine yS (fun he=> ?_) (fun he=> ?_)<;>(try simp only [mM] at he))))|((with_reducible refine tO rfl ?_);intro sr hsr;simp only [sK,wP] at hsr;subst hsr;(fail_if_success (with_reducible (first|refine tL ?_|refine tN ?_)));refine tK (fun he=> ?_) (fun he=> ?_)<;>(intro ts2 hts;simp only [wP] at hts;subst hts;(try simp only [mM] at he)))|fail))
 exact ⟨⟨⟨_,rfl,trivial⟩,.sc⟩,rfl⟩
theorem qV (s:BA) (hs:s.size≤140737488355328):EB 168 [yQ s]:=by
 refine ECall.pure (sA (own:=false) func168 rfl (by kernel_rfl) (show _=(yQ s:: .ud:: .ud:: .ud:: .ud:: .ud:: .ud:: .ud:: .ud:: .ud:: .ud:: .ud:: .ud:: .ud:: .ud:: .ud:: .ud:: .ud:: .ud:: .ud:: .ud:: .ud:: .ud:: .ud:: .ud:: .ud:: .ud:: .ud:: .ud:: .ud:: .ud:: .ud:: .ud:: .ud:: .ud:: .ud:: .ud:: .ud:: .ud:: .ud:: .ud:: .ud:: .ud:: .ud:: .ud:: .ud:: .ud:: .ud:: .ud:: .ud:: .ud:: .ud:: .ud:: .ud:: .ud:: .ud::[]) from rfl) ?_)
 by_cases h0:s=⟨#[]⟩
 ·subst h0
  (repeat' (first|refine gp ?_|refine gs (fun he=> ?_) (fun he=> ?_)|fail))
  exact ⟨⟨⟨_,rfl,trivial⟩,.sc⟩,rfl⟩
 have hp:=mN h0
 (repeat' (first|refine gz ?_|(refine gn ?_;intro zs zh;(try simp only [go_sem,h0,g0_1,mT] at zh);subst zh;(first|refine gv ?_|(refine zC ((wC zm0 _ eI).call zK (by simp) _) ?_;intro p2 h2 hr2;obtain ⟨hr2,rfl⟩:=hr2;first|obtain ⟨_,rfl,hr2⟩:=hr2|obtain ⟨_,rfl⟩:=hr2|subst hr2|skip)|(refine yS (fun he=> ?_) (fun he=> ?_)<;>(try simp only [mM] at he))))|((with_reducible refine tO rfl ?_);intro sr hsr;simp only [sK,wP] at hsr;subst hsr;(fail_if_success (with_reducible (first|refine tL ?_|refine tN ?_)));refine tK (fun he=> ?_) (fun he=> ?_)<;>(intro ts2 hts;simp only [wP] at hts;subst hts;(try simp only [mM] at he)))|fail))
 all_goals first|(exact ⟨⟨⟨_,rfl,trivial⟩,.sc⟩,rfl⟩)|skip
 refine zO s.data.toList.length (.k:: .k:: .d:: .k:: .d::K9 (K9 (K4 (.k:: .k:: .k:: .v::D9 (D9 (D4 (.d:: .d:: .d::[]))))))) (own:=false) (fun i (_:Unit)=>[i64 i]) (fun _=>_) (fun _ _=>True) () rfl rfl trivial hs ?_ ?_
 ·rintro s hI
  refine gm ?_
  refine gf @zM ?_
  (exact ⟨⟨⟨_,rfl,trivial⟩,.sc⟩,rfl⟩)
 ·rintro i _ hi hw _
  refine gm ?_
  have hx:=zG (f:=ziC) [] hi
  (repeat' (first|refine gz ?_|(refine gn ?_;intro zs zh;(try simp only [go_sem,hi,hx,ziC,zB,hw] at zh);subst zh;(first|refine gv ?_|(refine yS (fun he=> ?_) (fun he=> ?_)<;>(try simp only [mM] at he))))|((with_reducible refine tO rfl ?_);intro sr hsr;simp only [sK,wP] at hsr;subst hsr;(fail_if_success (with_reducible (first|refine tL ?_|refine tN ?_)));refine tK (fun he=> ?_) (fun he=> ?_)<;>(intro ts2 hts;simp only [wP] at hts;subst hts;(try simp only [mM] at he)))|fail))
  all_goals first|(exact ⟨⟨⟨_,rfl,trivial⟩,.sc⟩,rfl⟩)|(refine ⟨(),trivial,?_,?_,rfl⟩<;>simp only [zY,xJ,List.tail_cons])
end Go.AL
namespace Go.AL
open Go.Proofs Go.Proofs.Tryz
@[go_sem] def ULat2f169.pl:Nat→DPlan
 |8=>⟨[yA,yA,yB,yA,yA,yB,yA,yA,yC],uW,0⟩
 |_=>⟨[],[],0⟩
def Low (n:Nat) (os:List Int):Prop:= ∀ x∈os,0≤x∧x<2 ^ n
theorem zhH {n:Nat} (hn:n≤8) {a b:Int} (ha:0≤a∧a<2 ^ n) (hb:0≤b∧b<2 ^ n):0≤bits BinOp.or IntKind.u8 a b∧bits BinOp.or IntKind.u8 a b<2 ^ n:=by
 obtain ⟨a',rfl⟩:=Int.eq_ofNat_of_zero_le ha.1
 obtain ⟨b',rfl⟩:=Int.eq_ofNat_of_zero_le hb.1
 have h8:2 ^ n≤2 ^ 8:=Nat.pow_le_pow_right (by decide) hn
 have ha':a'<2 ^ n:=by exact_mod_cast ha.2
 have hb':b'<2 ^ n:=by exact_mod_cast hb.2
 rw [(bits_nat .u8 8 (by decide) wraps_u8 a' b' (by omega) (by omega)).2]
 refine ⟨by omega,?_⟩
 exact_mod_cast Nat.or_lt_two_pow ha' hb'
theorem zbP {n b:Nat} (hn:n≤8) (hb:b<n):0≤IntKind.u8.wrap (1*2 ^ min b 8)∧IntKind.u8.wrap (1*2 ^ min b 8)<2 ^ n:=by
 have e:min b 8=b:=by omega
 have hlt:2 ^ b<2 ^ n:=Nat.pow_lt_pow_right (by decide) hb
 have h8:2 ^ n≤2 ^ 8:=Nat.pow_le_pow_right (by decide) hn
 have hp:0<2 ^ b:=Nat.two_pow_pos b
 rw [e,show (1:Int)*2 ^ b=((2 ^ b:Nat):Int) by simp,show (2:Int) ^ n=((2 ^ n:Nat):Int) by simp]
 generalize 2 ^ b=x at*
 generalize 2 ^ n=y at*
 rw [IntKind.wrap_u8]
 omega
theorem Low.set {n:Nat} {os:List Int} (h:Low n os) (j:Nat) {v:Int} (hv:0≤v∧v<2 ^ n):Low n (os.set j v):=fun x hx=>by
 rcases List.mem_or_eq_of_mem_set hx with hx|rfl
 ·exact h x hx
 ·exact hv
theorem Low.get {n:Nat} {os:List Int} (h:Low n os) (j:Nat) (hj:j<os.length):0≤os[j]∧os[j]<2 ^ n:=h _ (List.getElem_mem hj)
theorem zfQ (n:Nat):Low n [0,0,0,0,0,0,0,0]:=fun x hx=>by
 have:x=0:=by simpa using hx
 subst this
 exact ⟨by omega,by exact_mod_cast Nat.two_pow_pos n⟩
theorem oC (os:List Int) (hos:os.length=8) (set:Int) (n:Nat) (hn:n≤8):EI 83 [.agg (os.map u8),u8 set,i64 n] fun r=> -1≤r∧r<n:=by
 refine ECall.cut (R:=fun p _=> ∃ r:Int,p=i64 r∧ -1≤r∧r<n) (pv func83 27 false (by kernel_rfl) rfl rfl ?_) ?_
 refine g2 ?_
 ·refine ge ?_
  refine zO n (K4 (.k:: .k:: .d:: .d:: .k:: .v::D9 (D4 (D4 ([]))))) (own:=false) (fun i (_:Unit)=>[i64 i]) (fun _=>_) (fun _ _=>True) () rfl rfl trivial (by omega) ?_ ?_
  ·rintro s hI
   refine gm ?_
   refine gf @zM ?_
   exact ⟨_,rfl,by omega,by omega⟩
  ·rintro i _ hi hw _
   refine gm ?_
   have h8:i<os.length:=by omega
   have hd:=yU u8 os i .un h8
   (have F:=(a5 @hi @hd @h8 @zB @hw);(repeat' (first|refine dR F ?_|refine dQ F (fun he=> ?_) (fun he=> ?_)|fail));all_goals clear F)
   all_goals first|exact ⟨_,rfl,by omega,by omega⟩|(refine ⟨(),trivial,?_,?_,rfl⟩<;>simp only [zY,xJ,List.tail_cons])
 ·rintro p h ⟨r,rfl,h1,h2⟩;exact ⟨r,rfl,h1,h2⟩
open ULat2f169 in
theorem zd6 (os:List Int) (hos:os.length=8) (n:Nat) (hn:n≤8):EPure prog G0 169 [.agg (os.map u8),i64 n] fun p=> ∃ os':List Int,p= .agg (os'.map u8)∧os'.length=8∧(Low n os→Low n os'):=by
 refine ECall.cut (R:=fun p _=> ∃ os':List Int,p= .agg (os'.map u8)∧os'.length=8∧(Low n os→Low n os')) (pv func169 33 false (by kernel_rfl) rfl rfl ?_) ?_
 refine g2 ?_
 ·refine ge ?_
  refine zO n (K4 (.k:: .d:: .d:: .k:: .v::D9 (D9 (D4 (.d:: .k::[]))))) (own:=false) (fun i (_:List Int)=>[i64 i]) (fun s=>[.var 163 (s.map u8),_]) (fun _ s=>s.length=8∧(Low n os→Low n s)) os rfl rfl ⟨hos,id⟩ (by omega) ?_ ?_
  ·rintro s hI
   refine gm ?_
   have ht8:(s.map u8).take 8=s.map u8:=List.take_of_length_le (by simp [hI.1])
   (repeat (first|refine gz ?_|(refine gn ?_;intro zs zh;(try simp only [go_sem,zM,List.length_map,hI.1,ht8] at zh);subst zh;refine gv ?_)|refine yD ULat2f169.pl ?_))
   exact ⟨_,rfl,hI⟩
  ·rintro i s hi hw hI
   refine gm ?_
   refine gf (a3 @hi @zB @hw) ?_
   refine zO n (K4 (.k:: .k:: .d::K4 (.k:: .v::D9 (D9 (.k:: .k::[]))))) (own:=false) (fun i (_:List Int)=>[i64 i]) (fun s=>[.var 163 (s.map u8),_]) (fun _ s=>s.length=8∧(Low n os→Low n s)) s rfl rfl hI (by omega) ?_ ?_
   ·rintro s hI
    refine gm ?_
    refine gf (a2 @zM @hw) ?_
    exact ⟨s,hI,rfl,rfl,rfl⟩
   ·rintro j s hj hw2 hI
    refine gm ?_
    obtain ⟨hI1,hI2⟩:=hI
    have h8:i<s.length:=by omega
    have hj8:j<s.length:=by omega
    have hd:=yU u8 s i .un h8
    have hd2:=yU u8 s j .un hj8
    have hs: ∀ v,(s.map u8).take j++u8 v::(s.map u8).drop (j+1)=(s.set j v).map u8:=fun v=>wY u8 s j v hj8
    (repeat' (first|refine gz ?_|(refine gn ?_;intro zs zh;(try simp only [go_sem,hj,zB,hw2,hd,hd2,hs,h8,hj8,Nat.succ_le_of_lt] at zh);subst zh;(first|refine gv ?_|(refine yS (fun he=> ?_) (fun he=> ?_)<;>(try simp only [mM] at he))))|refine yD ULat2f169.pl ?_|((with_reducible refine vY ?_);refine zN rfl rfl rfl ?_;intro sr hsr;simp only [sK,wP] at hsr;subst hsr;(fail_if_success (refine nx ?_));(refine iT (fun he=> ?_) (fun he=> ?_)<;>(intro ts2 hts;simp only [wP] at hts;subst hts;(try simp only [mM] at he))))|((with_reducible refine tO rfl ?_);intro sr hsr;simp only [sK,wP] at hsr;subst hsr;(fail_if_success (with_reducible (first|refine tL ?_|refine tN ?_)));refine tK (fun he=> ?_) (fun he=> ?_)<;>(intro ts2 hts;simp only [wP] at hts;subst hts;(try simp only [mM] at he)))|fail))
    ·exact ⟨_,⟨by simpa using hI1,fun hL=>(hI2 hL).set _ (zhH hn ((hI2 hL).get j hj8) ((hI2 hL).get i h8))⟩,rfl,rfl,rfl⟩
    ·exact ⟨s,⟨hI1,hI2⟩,rfl,rfl,rfl⟩
 ·rintro p h ⟨r,rfl,h1⟩
  exact ⟨r,vE _ _ _ _ (all_map fun _=>rfl),h1⟩
end Go.AL
