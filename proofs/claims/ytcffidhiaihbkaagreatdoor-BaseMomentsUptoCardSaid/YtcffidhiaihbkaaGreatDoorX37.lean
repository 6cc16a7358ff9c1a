/-
  Relations: validity, to the letter.
-/
import Derived.Test.YtcffidhiaihbkaaGreatDoorX36
set_option linter.unusedSimpArgs false
set_option linter.unusedVariables false
set_option maxRecDepth 100000
set_option maxHeartbeats 4000000
namespace Go.AL
open Go.Proofs Go.Proofs.Tryz
@[go_sem] def URsx3f219.pl:Nat→DPlan
 |3=>⟨[yB,yA,yB,yB,yA,yB,yC,yA],zqS,0⟩
 |9=>⟨[⟨1,0,[1004]⟩,yA,⟨1,0,[1004]⟩,⟨1,0,[1004]⟩,yA,⟨5,1004,[]⟩,yC],tV,0⟩
 |11=>⟨[⟨1,0,[1005]⟩,yA,⟨1,0,[1005]⟩,⟨1,0,[1005]⟩,yA,⟨5,1005,[]⟩,yC],tV,0⟩
 |_=>⟨[],[],0⟩
def yT:Nat→List Rw→List Rw→List (Rw×Rw)
 |0,_,_=>[]
 |_+1,[],[]=>[]
 |n+1,[],y::b=>(⟨y.args,[]⟩,y)::yT n [] b
 |n+1,x::a,[]=>(x,⟨[],[]⟩)::yT n a []
 |n+1,x::a,y::b=>if sD x.args y.args<0 then (x,⟨[],[]⟩)::yT n a (y::b) else if sD x.args y.args=0 then (x,y)::yT n a b else (⟨y.args,[]⟩,y)::yT n (x::a) b
theorem zoE {ι:Type} {I:ι→PV→Heap→Prop} (hA: ∀ m V J b,I m V J→I m V (J++[b])) {m:ι} {V:PV} {J:Heap} (h:I m V J) (b c:Blk):I m V (J++[b,c]):=by
 have:=hA m V _ c (hA m V J b h)
 rwa [List.append_assoc] at this
theorem vK: ∀ (n:Nat) (a b:List Rw),(yT n a b).length≤n
 |0,_,_=>Nat.le_refl _
 |n+1,[],[]=>Nat.zero_le _
 |n+1,[],y::b=>by simp only [yT,List.length_cons];have:=vK n [] b;omega
 |n+1,x::a,[]=>by simp only [yT,List.length_cons];have:=vK n a [];omega
 |n+1,x::a,y::b=>by
  have h1:=vK n a (y::b)
  have h2:=vK n a b
  have h3:=vK n (x::a) b
  simp only [yT]
  split
  ·simp only [List.length_cons];omega
  ·split<;>simp only [List.length_cons]<;>omega
theorem zpG (n:Nat):yT n [] []=[]:=by cases n<;>rfl
open URsx3f219 in
theorem zpX (P:List (Rw×Rw)) (B0 L:Blk) (I:List (Rw×Rw)→PV→Heap→Prop) (hA: ∀ m V J b,I m V J→I m V (J++[b]))
  (hy: ∀ a b pre post V J (x y:Rw),I pre V J→pre++(x,y)::post=P→x.w.length≤64→y.w.length≤64→EYl prog G0 4 [.agg x.c,.agg y.c] (B0:: .var 63 [V]:: .var 63 [uN a]:: .var 63 [uN b]::L::J) fun p h'=>p=bo true∧ ∃ V' J',h'=(B0:: .var 63 [V']:: .var 63 [uN a]:: .var 63 [uN b]::L::J')∧I (pre++[(x,y)]) V' J')
  (a b:List Rw) (ha: ∀ x∈a,x.w.length≤64) (hb: ∀ x∈b,x.w.length≤64) (hoa: ∀ x∈a,x.ok) (hob: ∀ x∈b,x.ok) (hP:yT (a.length+b.length) a b=P) (hl:a.length+b.length≤140737488355328) (V:PV) (J:Heap) (hI:I [] V J):
  ECall prog G0 219 [.yl 4,.ptr 2 0,.ptr 3 0] (B0:: .var 63 [V]:: .var 63 [uN a]:: .var 63 [uN b]::L::J) fun _ h'=> ∃ a' b' V' J',h'=(B0:: .var 63 [V']:: .var 63 [uN a']:: .var 63 [uN b']::L::J')∧I P V' J':=by
 refine pv func219 52 false (by kernel_rfl) rfl rfl ?_
 refine g2 ?_
 refine ge ?_
 refine zW (K4 (D9 (D9 (D9 (D9 (D9 (.d:: .d:: .d::[]))))))) (fun (s:List Rw×List Rw×List (Rw×Rw)×PV×Heap)=>[]) (fun s=>(B0:: .var 63 [s.2.2.2.1]:: .var 63 [uN s.1]:: .var 63 [uN s.2.1]::L::s.2.2.2.2)) (fun s=>(∃ n,s.1.length+s.2.1.length≤n∧n≤a.length+b.length∧s.2.2.1++yT n s.1 s.2.1=P)∧(∀ x∈s.1,x.w.length≤64)∧(∀ x∈s.2.1,x.w.length≤64)∧(∀ x∈s.1,x.ok)∧(∀ x∈s.2.1,x.ok)∧I s.2.2.1 s.2.2.2.1 s.2.2.2.2) (fun s=>s.1.length+s.2.1.length) (own:=false) (a,b,[],V,J) rfl rfl ⟨⟨_,Nat.le_refl _,Nat.le_refl _,hP⟩,ha,hb,hoa,hob,hI⟩ ?_
 rintro ⟨a1,b1,m,V1,J1⟩ ⟨⟨n,hm,hnN,hmP⟩,ha1,hb1,hoa1,hob1,hI1⟩ t ht
 dsimp only at hm hmP ha1 hb1 hoa1 hob1 hI1
 simp only [zY] at ht;subst ht
 have hw:IntKind.i64.wrap ((a1.length:Int)+b1.length)=((a1.length+b1.length:Nat):Int):=by rw [xM (by omega) (by omega)];omega
 cases a1 with
 | nil=>
  cases b1 with
  |nil=>
   have hw0:IntKind.i64.wrap (((0:Nat):Int)+((0:Nat):Int))=((0:Nat):Int):=by rw [xM (by omega) (by omega)];omega
   have hc: ¬((0:Int)<((0:Nat):Int)):=by omega
   refine gf (a2 @hw0 @hc) ?_
   rw [zpG,List.append_nil] at hmP
   exact ⟨[],[],V1,J1,rfl,hmP▸hI1⟩
  |cons y b2=>
   simp only [List.length_cons,List.length_nil] at hm
   obtain ⟨n,rfl⟩: ∃ k,n=k+1:=⟨n-1,by omega⟩
   simp only [yT] at hmP
   have hw0:IntKind.i64.wrap (((0:Nat):Int)+((b2.length+1:Nat):Int))=((b2.length+1:Nat):Int):=by rw [xM (by omega) (by omega)];omega
   have hc:(0:Int)<((b2.length+1:Nat):Int):=by omega
   have he:(((0:Nat):Int)==0)=true:=rfl
   have hkb:=(hb1 y (List.mem_cons_self ..))
   have htb1:=fun x hx=>hb1 x (List.mem_cons_of_mem y hx)
   have htb2:=fun x hx=>hob1 x (List.mem_cons_of_mem y hx)
   (repeat (first|refine gz ?_|(refine gn ?_;intro zs zh;(try simp only [go_sem,hw0,hc,he,wH,zA,zD,tG,wG,set2,wF,List.map_cons,List.length_cons] at zh);subst zh;refine gv ?_)|refine yD URsx3f219.pl ?_))
   (refine wU ?_;intro sr hsr;simp only [go_sem,wH,zA,zD,tG,wG,set2,wF,List.map_cons,List.length_cons] at hsr;subst hsr;refine rC rfl (by simp only [dC,go_sem,wH,zA,zD,tG,wG,set2,wF,List.map_cons,List.length_cons]<;>rfl) (EYl.args (hy [] b2 m _ V1 _ ⟨y.args,[]⟩ y (zoE hA hI1 _ _) hmP (by simp) hkb) (.cons (PLes.agg (.cons (PLe.refl _) (.cons (PLe.nil_ts 2) .nil))) (.cons (PLe.refl _) .nil))) ?_;intro p2 h2 hr2 ts2 hts;simp only [go_sem] at hts;subst hts)
   obtain ⟨rfl,V2,J2,rfl,hI2⟩:=hr2
   refine ge ?_
   exact ⟨([],b2,m++[(⟨y.args,[]⟩,y)],V2,J2),⟨⟨n,by dsimp only;(try simp only [List.length_nil,List.length_cons] at hm ⊢);omega,by omega,by rw [List.append_assoc];exact hmP⟩,(by simp),htb1,(by simp),htb2,hI2⟩,by dsimp only;simp only [List.length_nil,List.length_cons]<;>omega,rfl,rfl,rfl⟩
 | cons x a2=>
  cases b1 with
  |nil=>
   simp only [List.length_cons,List.length_nil] at hm
   obtain ⟨n,rfl⟩: ∃ k,n=k+1:=⟨n-1,by omega⟩
   simp only [yT] at hmP
   have hw0:IntKind.i64.wrap (((a2.length+1:Nat):Int)+((0:Nat):Int))=((a2.length+1:Nat):Int):=by rw [xM (by omega) (by omega)];omega
   have hc:(0:Int)<((a2.length+1:Nat):Int):=by omega
   have he:(((0:Nat):Int)==0)=true:=rfl
   have he2:(((a2.length+1:Nat):Int)==0)=false:=by simp;omega
   have hka:=(ha1 x (List.mem_cons_self ..))
   have hta1:=fun z hz=>ha1 z (List.mem_cons_of_mem x hz)
   have hta2:=fun z hz=>hoa1 z (List.mem_cons_of_mem x hz)
   (repeat (first|refine gz ?_|(refine gn ?_;intro zs zh;(try simp only [go_sem,hw0,hc,he,he2,wH,zA,zD,tG,wG,set2,wF,List.map_cons,List.length_cons] at zh);subst zh;refine gv ?_)|refine yD URsx3f219.pl ?_))
   (refine wU ?_;intro sr hsr;simp only [go_sem,wH,zA,zD,tG,wG,set2,wF,List.map_cons,List.length_cons] at hsr;subst hsr;refine rC rfl (by simp only [dC,go_sem,wH,zA,zD,tG,wG,set2,wF,List.map_cons,List.length_cons]<;>rfl) (EYl.args (hy a2 [] m _ V1 _ x ⟨[],[]⟩ (zoE hA hI1 _ _) hmP hka (by simp)) (.cons (PLe.refl _) (.cons (PLes.agg (.cons (PLe.nil_ts 3) (.cons (PLe.nil_ts 2) .nil))) .nil))) ?_;intro p2 h2 hr2 ts2 hts;simp only [go_sem] at hts;subst hts)
   obtain ⟨rfl,V2,J2,rfl,hI2⟩:=hr2
   refine ge ?_
   exact ⟨(a2,[],m++[(x,⟨[],[]⟩)],V2,J2),⟨⟨n,by dsimp only;(try simp only [List.length_nil,List.length_cons] at hm ⊢);omega,by omega,by rw [List.append_assoc];exact hmP⟩,hta1,(by simp),hta2,(by simp),hI2⟩,by dsimp only;simp only [List.length_nil,List.length_cons]<;>omega,rfl,rfl,rfl⟩
  | cons y b2=>
   simp only [List.length_cons,List.length_nil] at hm
   obtain ⟨n,rfl⟩: ∃ k,n=k+1:=⟨n-1,by omega⟩
   simp only [yT] at hmP
   have hw0:IntKind.i64.wrap (((a2.length+1:Nat):Int)+((b2.length+1:Nat):Int))=((a2.length+1+(b2.length+1):Nat):Int):=by rw [xM (by omega) (by omega)];omega
   have hc:(0:Int)<((a2.length+1+(b2.length+1):Nat):Int):=by omega
   have he:(((b2.length+1:Nat):Int)==0)=false:=by simp;omega
   have he2:(((a2.length+1:Nat):Int)==0)=false:=by simp;omega
   have hka:=(ha1 x (List.mem_cons_self ..))
   have hta1:=fun z hz=>ha1 z (List.mem_cons_of_mem x hz)
   have hta2:=fun z hz=>hoa1 z (List.mem_cons_of_mem x hz)
   have hkb:=(hb1 y (List.mem_cons_self ..))
   have htb1:=fun x hx=>hb1 x (List.mem_cons_of_mem y hx)
   have htb2:=fun x hx=>hob1 x (List.mem_cons_of_mem y hx)
   have hby:=uS x y (hoa1 x (List.mem_cons_self ..)) (hob1 y (List.mem_cons_self ..))
   generalize hcc:sD x.args y.args=c at*
   rcases Int.lt_trichotomy c 0 with h0|h0|h0
   ·rw [if_pos h0] at hmP
    have n1:c≤0:=by omega
    have n2: ¬(0≤c):=by omega
    have n3: ¬(0<c):=by omega
    (repeat (first|refine gz ?_|(refine gn ?_;intro zs zh;(try simp only [go_sem,hw0,hc,he,he2,n1,n2,n3,wH,zA,zD,tG,wG,set2,wF,List.map_cons,List.length_cons] at zh);subst zh;(first|refine gv ?_|((first|refine zC (hby.call zK (by simp [zJ]) _) ?_|refine zP (by decide) (by decide) (hby.call zK (by simp [zJ]) _) ?_);intro p2 h2 hr2;obtain ⟨hr2,rfl⟩:=hr2;first|obtain ⟨_,rfl,hr2⟩:=hr2|obtain ⟨_,rfl⟩:=hr2|subst hr2|skip)))|refine yD URsx3f219.pl ?_))
    (refine wU ?_;intro sr hsr;simp only [go_sem,wH,zA,zD,tG,wG,set2,wF,List.map_cons,List.length_cons] at hsr;subst hsr;refine rC rfl (by simp only [dC,go_sem,wH,zA,zD,tG,wG,set2,wF,List.map_cons,List.length_cons]<;>rfl) (EYl.args (hy a2 (y::b2) m _ V1 _ x ⟨[],[]⟩ (zoE hA hI1 _ _) hmP hka (by simp)) (.cons (PLe.refl _) (.cons (PLes.agg (.cons (PLe.nil_ts 3) (.cons (PLe.nil_ts 2) .nil))) .nil))) ?_;intro p2 h2 hr2 ts2 hts;simp only [go_sem] at hts;subst hts)
    obtain ⟨rfl,V2,J2,rfl,hI2⟩:=hr2
    refine ge ?_
    exact ⟨(a2,(y::b2),m++[(x,⟨[],[]⟩)],V2,J2),⟨⟨n,by dsimp only;(try simp only [List.length_nil,List.length_cons] at hm ⊢);omega,by omega,by rw [List.append_assoc];exact hmP⟩,hta1,hb1,hta2,hob1,hI2⟩,by dsimp only;simp only [List.length_nil,List.length_cons]<;>omega,rfl,rfl,rfl⟩
   ·subst h0
    rw [if_neg (by omega),if_pos rfl] at hmP
    have n1:(0:Int)≤0:=by omega
    have n3: ¬((0:Int)<0):=by omega
    (repeat (first|refine gz ?_|(refine gn ?_;intro zs zh;(try simp only [go_sem,hw0,hc,he,he2,n1,n3,wH,zA,zD,tG,wG,set2,wF,List.map_cons,List.length_cons] at zh);subst zh;(first|refine gv ?_|((first|refine zC (hby.call zK (by simp [zJ]) _) ?_|refine zP (by decide) (by decide) (hby.call zK (by simp [zJ]) _) ?_);intro p2 h2 hr2;obtain ⟨hr2,rfl⟩:=hr2;first|obtain ⟨_,rfl,hr2⟩:=hr2|obtain ⟨_,rfl⟩:=hr2|subst hr2|skip)))|refine yD URsx3f219.pl ?_))
    (refine wU ?_;intro sr hsr;simp only [go_sem,wH,zA,zD,tG,wG,set2,wF,List.map_cons,List.length_cons] at hsr;subst hsr;refine rC rfl (by simp only [dC,go_sem,wH,zA,zD,tG,wG,set2,wF,List.map_cons,List.length_cons]<;>rfl) (EYl.args (hy a2 b2 m _ V1 _ x y (zoE hA hI1 _ _) hmP hka hkb) (.cons (PLe.refl _) (.cons (PLe.refl _) .nil))) ?_;intro p2 h2 hr2 ts2 hts;simp only [go_sem] at hts;subst hts)
    obtain ⟨rfl,V2,J2,rfl,hI2⟩:=hr2
    refine ge ?_
    exact ⟨(a2,b2,m++[(x,y)],V2,J2),⟨⟨n,by dsimp only;(try simp only [List.length_nil,List.length_cons] at hm ⊢);omega,by omega,by rw [List.append_assoc];exact hmP⟩,hta1,htb1,hta2,htb2,hI2⟩,by dsimp only;simp only [List.length_nil,List.length_cons]<;>omega,rfl,rfl,rfl⟩
   ·rw [if_neg (by omega),if_neg (by omega)] at hmP
    have n1: ¬(c≤0):=by omega
    have n2:0≤c:=by omega
    (repeat (first|refine gz ?_|(refine gn ?_;intro zs zh;(try simp only [go_sem,hw0,hc,he,he2,n1,n2,h0,wH,zA,zD,tG,wG,set2,wF,List.map_cons,List.length_cons] at zh);subst zh;(first|refine gv ?_|((first|refine zC (hby.call zK (by simp [zJ]) _) ?_|refine zP (by decide) (by decide) (hby.call zK (by simp [zJ]) _) ?_);intro p2 h2 hr2;obtain ⟨hr2,rfl⟩:=hr2;first|obtain ⟨_,rfl,hr2⟩:=hr2|obtain ⟨_,rfl⟩:=hr2|subst hr2|skip)))|refine yD URsx3f219.pl ?_))
    (refine wU ?_;intro sr hsr;simp only [go_sem,wH,zA,zD,tG,wG,set2,wF,List.map_cons,List.length_cons] at hsr;subst hsr;refine rC rfl (by simp only [dC,go_sem,wH,zA,zD,tG,wG,set2,wF,List.map_cons,List.length_cons]<;>rfl) (EYl.args (hy (x::a2) b2 m _ V1 _ ⟨y.args,[]⟩ y (zoE hA hI1 _ _) hmP (by simp) hkb) (.cons (PLes.agg (.cons (PLe.refl _) (.cons (PLe.nil_ts 2) .nil))) (.cons (PLe.refl _) .nil))) ?_;intro p2 h2 hr2 ts2 hts;simp only [go_sem] at hts;subst hts)
    obtain ⟨rfl,V2,J2,rfl,hI2⟩:=hr2
    refine ge ?_
    exact ⟨((x::a2),b2,m++[(⟨y.args,[]⟩,y)],V2,J2),⟨⟨n,by dsimp only;(try simp only [List.length_nil,List.length_cons] at hm ⊢);omega,by omega,by rw [List.append_assoc];exact hmP⟩,ha1,htb1,hoa1,htb2,hI2⟩,by dsimp only;simp only [List.length_nil,List.length_cons]<;>omega,rfl,rfl,rfl⟩
def yX (op:Nat→Nat→Nat) (P:List (Rw×Rw)):List Rw:=P.filterMap fun q=>if yW (op (uQ q.1.w) (uQ q.2.w))=[] then none else some ⟨q.1.args,yW (op (uQ q.1.w) (uQ q.2.w))⟩
theorem zoZ (l:List Rw) (hl:l.length≤68719476736) (hok: ∀ x∈l,x.ls) (hcan:CanL l):EPure prog G0 206 [uN l] fun p=>p=uN l:=by
 cases l with
 |nil=>exact gH
 |cons x l=>exact zmS _ hl hok hcan (by simp)
theorem zhC (op:Nat→Nat→Nat) (g:FuncId) (hg:MomX g op) (a b:List Rw) (hal:a.length≤68719476736) (hbl:b.length≤68719476736) (ha: ∀ x∈a,x.ls) (hb: ∀ x∈b,x.ls) (hca:CanL a) (hcb:CanL b):
  EPure prog G0 170 [uN a,uN b,.fn (.func g) [] []] fun p=>p=uN (yX op (yT (a.length+b.length) a b)):=by
 obtain ⟨P,hP⟩: ∃ P,yT (a.length+b.length) a b=P:=⟨_,rfl⟩
 rw [hP]
 refine ECall.cutW (R:=fun p h=> ∃ (q:Nat),(p= .nil∧yX op P=[]∨p= .vec q 2 ((yX op P).map Rw.c))) (pv func170 35 false (by kernel_rfl) rfl rfl ?_) ?_
 refine g2 ?_
 ·refine ge ?_
  (refine g1 ?_;refine zC ((zoZ a hal ha hca).call zK (by simp) _) ?_;intro p2 h2 hr2;refine g2 ?_)
  obtain ⟨rfl,rfl⟩:=hr2
  refine ge ?_
  (refine g1 ?_;refine zC ((zoZ b hbl hb hcb).call zK (by simp) _) ?_;intro p2 h2 hr2;refine g2 ?_)
  obtain ⟨rfl,rfl⟩:=hr2
  refine ge ?_
  (refine g1 ?_;refine zC (zfL a b _) ?_;intro p2 h2 hr2;refine g2 ?_)
  obtain ⟨rfl,rfl⟩:=hr2
  refine ge ?_
  refine tT (f:=219) (fst:=[]) (cap:=[.ptr 2 0,.ptr 3 0]) (fun _ h=>h) rfl ?_
  simp only [List.toList_toArray,List.cons_append,List.nil_append,List.append_nil,List.length_cons,List.length_nil,Nat.zero_add,Nat.reduceAdd,List.singleton_append]
  generalize hL:Blk.loop _ _ _ _ _ _=L
  refine (zpX P _ L (fun m V J=>GrowN 5 84 ((yX op m).map Rw.c) 2 J V) ?_ ?_ a b (fun x hx=>(ha x hx).w) (fun x hx=>(hb x hx).w) (fun x hx=>(ha x hx).ok) (fun x hx=>(hb x hx).ok) hP (by omega) .nil [] (.inl ⟨rfl,rfl⟩)).mono ?_
  ·rintro m V J b0 (h|⟨q,h1,hq⟩)
   ·exact .inl h
   ·exact .inr ⟨q,h1,by rw [List.getElem?_append_left (gsi hq).1];exact hq⟩
  ·rintro a2 b2 m post V J x y hG hpre hxw hyw
   subst hL
   have hst:yX op (m++[(x,y)])=yX op m++if yW (op (uQ x.w) (uQ y.w))=[] then [] else [⟨x.args,yW (op (uQ x.w) (uQ y.w))⟩]:=by
    unfold yX
    rw [List.filterMap_append]
    congr 1
    simp only [List.filterMap_cons,List.filterMap_nil]
    split<;>rename_i h<;>split at h<;>simp_all
   have hol:(yX op m).length≤137438953472:=by
    have h1:(yX op m).length≤m.length:=List.length_filterMap_le ..
    have h2:=vK (a.length+b.length) a b
    rw [hP, ←hpre,List.length_append] at h2
    omega
   generalize yX op (m++[(x,y)])=o2 at*
   generalize yX op m=o at*
   refine ⟨_,_,_,_,_,_,rfl,rfl,?_⟩
   refine uV (own:=false) _ _ _ _ ?_
   simp only [rput,List.set_cons_zero,List.set_cons_succ]
   refine gf (a6 @zA @zD @tG @wG @set2 @wF) ?_
   refine ⟨rfl,_,_,_,_,_,rfl,?_⟩
   refine uV (own:=false) _ _ _ _ ?_
   simp only [List.set_cons_zero,List.set_cons_succ]
   refine gf (a6 @zA @zD @tG @wG @set2 @wF) ?_
   (refine g1f (a6 @zA @zD @tG @wG @set2 @wF) ?_;refine zC ((hg x.w y.w (by omega) (by omega)).call zK (by simp) _) ?_;intro p2 h2 hr2;refine g2 ?_)
   obtain ⟨rfl,rfl⟩:=hr2
   generalize yW (op (uQ x.w) (uQ y.w))=w2 at*
   by_cases hz:0<w2.length
   ·have hz1:(0:Int)<(w2.length:Int):=by omega
    rw [if_neg (List.length_pos_iff.1 hz)] at hst
    subst hst
    rcases hG with ⟨he,rfl⟩|⟨q,rfl,hq⟩
    ·have hon:o=[]:=by simpa using he
     subst hon
     refine gf (a8 @hz @hz1 @zA @zD @tG @wG @set2 @wF) ?_
     refine ⟨_,_,_,_,_,_,rfl,rfl,_,_,rfl,.inr ⟨_,rfl,?_⟩⟩
     simp
    ·simp only [List.length_map] at hq
     have hqR:q<J.length:=(gsi hq).1
     have hq2: ∀ z z',(J++[z,z'])[q]? =some (.vec 84 2 o.length):=fun z z'=>by rw [List.getElem?_append_left hqR];exact hq
     refine gf (a9 @hz @hz1 @zA @zD @tG @wG @set2 @wF @hq2) ?_
     refine ⟨_,_,_,_,_,_,rfl,rfl,_,_,rfl,.inr ⟨q,by rw [List.map_append];rfl,?_⟩⟩
     rw [List.getElem?_set_self (by simp;omega)];simp
   ·have hz1: ¬((0:Int)<(w2.length:Int)):=by omega
    rw [if_pos (List.eq_nil_of_length_eq_zero (by omega)),List.append_nil] at hst
    subst hst
    refine gf (a8 @hz @hz1 @zA @zD @tG @wG @set2 @wF) ?_
    refine ⟨_,_,_,_,_,_,rfl,rfl,_,_,rfl,?_⟩
    rcases hG with h|⟨q,h1,hq⟩
    ·exact .inl h
    ·exact .inr ⟨q,h1,by rw [List.getElem?_append_left (gsi hq).1];exact hq⟩
  ·rintro p h ⟨a2,b2,V,J,rfl,hG⟩
   subst hL
   refine ⟨_,_,_,_,_,_,rfl,by simp,?_⟩
   simp only [List.set_cons_zero,List.set_cons_succ]
   refine ge ?_
   rcases hG with ⟨he,rfl⟩|⟨q,rfl,hq⟩
   ·exact ⟨0,.inl ⟨rfl,by simpa using he⟩⟩
   ·exact ⟨q+5,.inr rfl⟩
 ·rintro p h ⟨q,⟨rfl,he⟩|rfl⟩
  ·exact ⟨uN [],by rw [iQ];exact PLe.nil_ts 2,by rw [he],by simp [xX]⟩
  ·exact ⟨uN (yX op P),by rw [rF (rE 36 _)];exact PLe.refl _,rfl,yP 40 _ (rE 36 _)⟩
end Go.AL
namespace Go.AL
instance:DecidableEq Vl:=fun x y=>decidable_of_iff (x.t=y.t∧x.n=y.n∧x.s=y.s) (by cases x;cases y;simp)
abbrev zaF (a b:List Vl):Prop:=sD a b<0
theorem zaF.tr {a b c:List Vl} (h:zaF a b) (k:zaF b c):zaF a c:=by
 have h1:=zqQ.r a b
 have h2:=zqQ.r b c
 have:=zqQ.t a b c (by unfold zaF at h;omega) (by unfold zaF at k;omega)
 unfold zaF;omega
theorem zaF.ne {a b:List Vl} (h:zaF a b):a≠b:=by
 rintro rfl
 unfold zaF at h
 rw [zd5] at h;omega
theorem zaF.tri (a b:List Vl):zaF a b∨a=b∨zaF b a:=by
 have h1:=zqQ.r a b
 have h2:=(zqQ.e a b).1
 have h3:=zqQ.s a b
 unfold zaF
 rcases h1 with h|h|h
 ·left;omega
 ·right;left;exact h2 h
 ·right;right;omega
theorem zaF.asym {a b:List Vl} (h:zaF a b): ¬zaF b a:=eO h
abbrev PwR (l:List Rw):Prop:=l.Pairwise fun x y=>zaF x.args y.args
theorem iW (l:List Rw):SoR l↔PwR l:=by
 unfold SoR PwR zaF
 rw [List.pairwise_iff_getElem]
 exact ⟨fun h i j hi hj hij=>h i j hij hj,fun h i j hij hj=>h i j (Nat.lt_trans hij hj) hj hij⟩
def yH:List Rw→List Vl→Nat
 | [],_=>0
 |x::l,t=>if x.args=t then uQ x.w else yH l t
theorem bL {t:List Vl}: ∀ {l:List Rw},(∀ x∈l,x.args≠t)→yH l t=0
 | [],_=>rfl
 |x::l,h=>by
  unfold yH
  rw [if_neg (h x (List.mem_cons_self ..)),bL fun y hy=>h y (List.mem_cons_of_mem x hy)]
theorem uC {t:List Vl} {l:List Rw} (h: ∀ x∈l,zaF t x.args):yH l t=0:=bL fun x hx e=>(h x hx).ne e.symm
theorem zoW: ∀ (l:List Rw) (t:List Vl),yH l t<2 ^ 64
 | [],_=>Nat.two_pow_pos 64
 |x::l,t=>by
  unfold yH
  split
  ·exact wB _
  ·exact zoW l t
theorem zdB {x:Rw} (h:x.can):uQ x.w≠0:=fun e=>by
 apply h.2
 rw [←sT h.1,e];rfl
theorem zn6 {l:List Rw} {t:List Vl} (h:yH l t≠0): ∃ x∈l,x.args=t∧uQ x.w=yH l t:=by
 induction l with
 |nil=>exact absurd rfl h
 | cons x l ih=>
  unfold yH at h ⊢
  split at h
  ·rename_i e;exact ⟨x,List.mem_cons_self ..,e,by rw [if_pos e]⟩
  ·rename_i e
   obtain ⟨y,hy,h1,h2⟩:=ih h
   exact ⟨y,List.mem_cons_of_mem x hy,h1,by rw [if_neg e];exact h2⟩
theorem zoV {l:List Rw} (hs:PwR l) {x:Rw} (hx:x∈l):yH l x.args=uQ x.w:=by
 induction l with
 |nil=>cases hx
 |cons y l ih=>
  rw [PwR,List.pairwise_cons] at hs
  unfold yH
  rcases List.mem_cons.1 hx with rfl|hx
  ·rw [if_pos rfl]
  ·rw [if_neg (hs.1 x hx).ne];exact ih hs.2 hx
def zbN:List (Rw×Rw)→List Vl→Nat×Nat
 | [],_=>(0,0)
 |q::P,t=>if q.1.args=t then (uQ q.1.w,uQ q.2.w) else zbN P t
abbrev PwP (P:List (Rw×Rw)):Prop:=P.Pairwise fun x y=>zaF x.1.args y.1.args
theorem zb8:uQ []=0:=rfl
theorem uB: ∀ (n:Nat) (a b:List Rw),a.length+b.length≤n→PwR a→PwR b→
  PwP (yT n a b)∧(∀ q∈yT n a b,(∃ x∈a,x.args=q.1.args)∨ ∃ y∈b,y.args=q.1.args)∧ ∀ t,zbN (yT n a b) t=(yH a t,yH b t)
 |0,a,b,h,_,_=>by
  have ha:a=[]:=List.eq_nil_of_length_eq_zero (by omega)
  have hb:b=[]:=List.eq_nil_of_length_eq_zero (by omega)
  subst ha;subst hb
  refine ⟨List.Pairwise.nil,?_,fun t=>rfl⟩
  intro q hq
  simp [yT] at hq
 |n+1,[],[],h,_,_=>by
  refine ⟨List.Pairwise.nil,?_,fun t=>rfl⟩
  intro q hq
  simp [yT] at hq
 | n+1,[],y::b,h,ha,hb=>by
  rw [PwR,List.pairwise_cons] at hb
  simp only [List.length_cons,List.length_nil] at h
  obtain ⟨h1,h2,h3⟩:=uB n [] b (by simp;omega) ha hb.2
  simp only [yT]
  refine ⟨List.pairwise_cons.2 ⟨fun q hq=> ?_,h1⟩,fun q hq=> ?_,fun t=> ?_⟩
  ·rcases h2 q hq with ⟨x,hx,_⟩|⟨z,hz,e⟩
   ·cases hx
   ·rw [←e];exact hb.1 z hz
  ·rcases List.mem_cons.1 hq with rfl|hq
   ·exact .inr ⟨y,List.mem_cons_self ..,rfl⟩
   ·rcases h2 q hq with ⟨x,hx,_⟩|⟨z,hz,e⟩
    ·cases hx
    ·exact .inr ⟨z,List.mem_cons_of_mem y hz,e⟩
  ·simp only [zbN,yH]
   by_cases e:y.args=t
   ·rw [if_pos e,if_pos e,zb8]
   ·rw [if_neg e,if_neg e,h3 t];rfl
 | n+1,x::a,[],h,ha,hb=>by
  rw [PwR,List.pairwise_cons] at ha
  simp only [List.length_cons,List.length_nil] at h
  obtain ⟨h1,h2,h3⟩:=uB n a [] (by simp;omega) ha.2 hb
  simp only [yT]
  refine ⟨List.pairwise_cons.2 ⟨fun q hq=> ?_,h1⟩,fun q hq=> ?_,fun t=> ?_⟩
  ·rcases h2 q hq with ⟨z,hz,e⟩|⟨x,hx,_⟩
   ·rw [←e];exact ha.1 z hz
   ·cases hx
  ·rcases List.mem_cons.1 hq with rfl|hq
   ·exact .inl ⟨x,List.mem_cons_self ..,rfl⟩
   ·rcases h2 q hq with ⟨z,hz,e⟩|⟨x,hx,_⟩
    ·exact .inl ⟨z,List.mem_cons_of_mem x hz,e⟩
    ·cases hx
  ·simp only [zbN,yH]
   by_cases e:x.args=t
   ·rw [if_pos e,if_pos e,zb8]
   ·rw [if_neg e,if_neg e,h3 t];rfl
 | n +1,x::a,y::b,h,ha,hb=>by
  have ha0:=ha
  have hb0:=hb
  rw [PwR,List.pairwise_cons] at ha hb
  simp only [List.length_cons] at h
  simp only [yT]
  rcases zaF.tri x.args y.args with q|q|q
  ·rw [if_pos q]
   obtain ⟨h1,h2,h3⟩:=uB n a (y::b) (by simp;omega) ha.2 hb0
   have hab: ∀ z∈y::b,zaF x.args z.args:=fun z hz=>by
    rcases List.mem_cons.1 hz with rfl|hz
    ·exact q
    ·exact q.tr (hb.1 z hz)
   refine ⟨List.pairwise_cons.2 ⟨fun w hw=> ?_,h1⟩,fun w hw=> ?_,fun t=> ?_⟩
   ·rcases h2 w hw with ⟨z,hz,e⟩|⟨z,hz,e⟩
    ·rw [←e];exact ha.1 z hz
    ·rw [←e];exact hab z hz
   ·rcases List.mem_cons.1 hw with rfl|hw
    ·exact .inl ⟨x,List.mem_cons_self ..,rfl⟩
    ·rcases h2 w hw with ⟨z,hz,e⟩|h
     ·exact .inl ⟨z,List.mem_cons_of_mem x hz,e⟩
     ·exact .inr h
   ·simp only [zbN]
    by_cases e:x.args=t
    ·subst e
     rw [if_pos rfl,uC hab,yH,if_pos rfl,zb8]
    ·rw [if_neg e,h3 t]
     conv=>rhs;rw [yH,if_neg e]
  ·rw [if_neg (by rw [(zqQ.e _ _).2 q];omega),if_pos ((zqQ.e _ _).2 q)]
   obtain ⟨h1,h2,h3⟩:=uB n a b (by omega) ha.2 hb.2
   refine ⟨List.pairwise_cons.2 ⟨fun w hw=> ?_,h1⟩,fun w hw=> ?_,fun t=> ?_⟩
   ·rcases h2 w hw with ⟨z,hz,e⟩|⟨z,hz,e⟩
    ·rw [←e];exact ha.1 z hz
    ·rw [←e];dsimp only;rw [q];exact hb.1 z hz
   ·rcases List.mem_cons.1 hw with rfl|hw
    ·exact .inl ⟨x,List.mem_cons_self ..,rfl⟩
    ·rcases h2 w hw with ⟨z,hz,e⟩|⟨z,hz,e⟩
     ·exact .inl ⟨z,List.mem_cons_of_mem x hz,e⟩
     ·exact .inr ⟨z,List.mem_cons_of_mem y hz,e⟩
   ·simp only [zbN,yH]
    by_cases e:x.args=t
    ·rw [if_pos e,if_pos e,if_pos (q▸e)]
    ·rw [if_neg e,if_neg e,if_neg (q▸e),h3 t]
  ·rw [if_neg q.asym,if_neg (fun e=>q.ne ((zqQ.e _ _).1 e).symm)]
   obtain ⟨h1,h2,h3⟩:=uB n (x::a) b (by simp;omega) ha0 hb.2
   have hab: ∀ z∈x::a,zaF y.args z.args:=fun z hz=>by
    rcases List.mem_cons.1 hz with rfl|hz
    ·exact q
    ·exact q.tr (ha.1 z hz)
   refine ⟨List.pairwise_cons.2 ⟨fun w hw=> ?_,h1⟩,fun w hw=> ?_,fun t=> ?_⟩
   ·rcases h2 w hw with ⟨z,hz,e⟩|⟨z,hz,e⟩
    ·rw [←e];exact hab z hz
    ·rw [←e];exact hb.1 z hz
   ·rcases List.mem_cons.1 hw with rfl|hw
    ·exact .inr ⟨y,List.mem_cons_self ..,rfl⟩
    ·rcases h2 w hw with h|⟨z,hz,e⟩
     ·exact .inl h
     ·exact .inr ⟨z,List.mem_cons_of_mem y hz,e⟩
   ·simp only [zbN]
    by_cases e:y.args=t
    ·subst e
     rw [if_pos rfl,uC hab,zb8]
     conv=>rhs;rw [yH,if_pos rfl]
    ·rw [if_neg e,h3 t]
     conv=>rhs;rw [yH.eq_def (y::b)];dsimp only;rw [if_neg e]
theorem zfW {t:List Vl}: ∀ {P:List (Rw×Rw)},(∀ q∈P,zaF t q.1.args)→zbN P t=(0,0)
 | [],_=>rfl
 |q::P,h=>by
  unfold zbN
  rw [if_neg (fun e=>(h q (List.mem_cons_self ..)).ne e.symm),zfW fun y hy=>h y (List.mem_cons_of_mem q hy)]
theorem zd0 (op:Nat→Nat→Nat) (h0:op 0 0=0) (hop: ∀ a b,a<2 ^ 64→b<2 ^ 64→op a b<2 ^ 64): ∀ {P:List (Rw×Rw)},PwP P→
  PwR (yX op P)∧(∀ x∈yX op P,x.can∧ ∃ q∈P,x.args=q.1.args)∧ ∀ t,yH (yX op P) t=op (zbN P t).1 (zbN P t).2
 | [],_=>by
  refine ⟨List.Pairwise.nil,?_,fun t=>h0.symm⟩
  intro x hx
  simp [yX] at hx
 | q ::P,hp=>by
  rw [PwP,List.pairwise_cons] at hp
  obtain ⟨h1,h2,h3⟩:=zd0 op h0 hop hp.2
  have hlt:=hop _ _ (wB q.1.w) (wB q.2.w)
  by_cases hn:yW (op (uQ q.1.w) (uQ q.2.w))=[]
  ·have e:yX op (q::P)=yX op P:=by unfold yX;rw [List.filterMap_cons,if_pos hn]
   rw [e]
   refine ⟨h1,fun x hx=> ?_,fun t=> ?_⟩
   ·obtain ⟨a,z,hz,b⟩:=h2 x hx
    exact ⟨a,z,List.mem_cons_of_mem q hz,b⟩
   ·rw [h3 t]
    conv=>rhs;rw [zbN]
    by_cases et:q.1.args=t
    ·subst et
     rw [if_pos rfl,zfW hp.1,h0]
     exact ((zfN hlt).1 hn).symm
    ·rw [if_neg et]
  ·have e:yX op (q::P)=⟨q.1.args,yW (op (uQ q.1.w) (uQ q.2.w))⟩::yX op P:=by unfold yX;rw [List.filterMap_cons,if_neg hn]
   rw [e]
   refine ⟨List.pairwise_cons.2 ⟨fun x hx=> ?_,h1⟩,fun x hx=> ?_,fun t=> ?_⟩
   ·obtain ⟨_,z,hz,b⟩:=h2 x hx
    rw [b];exact hp.1 z hz
   ·rcases List.mem_cons.1 hx with rfl|hx
    ·exact ⟨⟨(qS hlt).1,hn⟩,q,List.mem_cons_self ..,rfl⟩
    ·obtain ⟨a,z,hz,b⟩:=h2 x hx
     exact ⟨a,z,List.mem_cons_of_mem q hz,b⟩
   ·simp only [yH,zbN]
    by_cases et:q.1.args=t
    ·rw [if_pos et,if_pos et,zfI hlt]
    ·rw [if_neg et,if_neg et,h3 t]
theorem zhW {op:Nat→Nat→Nat} (h0:op 0 0=0) (hop: ∀ a b,a<2 ^ 64→b<2 ^ 64→op a b<2 ^ 64) {a b:List Rw} (ha:CanL a) (hb:CanL b):
  CanL (yX op (yT (a.length+b.length) a b))∧(∀ t,yH (yX op (yT (a.length+b.length) a b)) t=op (yH a t) (yH b t))∧ ∀ x∈yX op (yT (a.length+b.length) a b), ∃ y∈a++b,x.args=y.args:=by
 obtain ⟨h1,h2,h3⟩:=uB _ a b (Nat.le_refl _) ((iW a).1 ha.1) ((iW b).1 hb.1)
 obtain ⟨k1,k2,k3⟩:=zd0 op h0 hop h1
 refine ⟨⟨(iW _).2 k1,fun x hx=>(k2 x hx).1⟩,fun t=>by rw [k3 t,h3 t],fun x hx=> ?_⟩
 obtain ⟨_,q,hq,e⟩:=k2 x hx
 rcases h2 q hq with ⟨y,hy,e2⟩|⟨y,hy,e2⟩
 ·exact ⟨y,List.mem_append_left _ hy,by rw [e,e2]⟩
 ·exact ⟨y,List.mem_append_right _ hy,by rw [e,e2]⟩
end Go.AL
namespace Go.AL
open Go.Proofs Go.Proofs.Tryz
noncomputable def ze8 (P:Prop):Bool:= @decide P (Classical.propDecidable P)
theorem pO {P:Prop} (h:P):ze8 P=true:= @decide_eq_true P (Classical.propDecidable P) h
theorem uA {P:Prop} (h: ¬P):ze8 P=false:= @decide_eq_false P (Classical.propDecidable P) h
theorem zoX {P:Prop}:ze8 P=true↔P:= @decide_eq_true_iff P (Classical.propDecidable P)
def zoB (a:List Rw) (args:List Vl) (s:Sp):List Rw:=yX (· ||| ·) (yT (a.length+1) a [⟨args,[s]⟩])
def dP (a:List Rw) (args:List Vl) (s:Sp):List Rw:=yX mY (yT (a.length+1) a [⟨args,[s]⟩])
abbrev Sp.good (s:Sp):Prop:=0≤s.a∧s.a<s.b∧s.b≤64
theorem fF (args:List Vl) {s:Sp} (h:s.good):CanL [⟨args,[s]⟩]:=by
 refine ⟨(iW _).2 (List.pairwise_cons.2 ⟨by simp,List.Pairwise.nil⟩),fun x hx=> ?_⟩
 rw [List.mem_singleton] at hx;subst hx
 exact ⟨zqZ h,by simp⟩
theorem zp2 (a:List Rw) (args:List Vl) (s:Sp) (hal:a.length≤68719476736) (ha: ∀ x∈a,x.ls) (hc:CanL a) (hx:(Rw.mk args [s]).ls) (hs:s.good):EPure prog G0 88 [uN a,pH args,kJ [s]] fun p=>p=uN (zoB a args s):=by
 have hu:EPure prog G0 129 [uN a,uN [⟨args,[s]⟩]] fun p=>p=uN (zoB a args s):=by
  refine ECall.cut (R:=fun p _=>p=uN (zoB a args s)) (pv func129 8 false (by kernel_rfl) rfl rfl ?_) (by rintro p h rfl;exact vE _ _ _ _ (rE 36 _))
  refine g2 ?_
  refine ge ?_
  (refine g1 ?_;refine zC ((zhC (· ||| ·) 172 zqW a [⟨args,[s]⟩] hal (by simp) ha (by simpa using hx) hc (fF args hs)).call zK (by simp [yO]) _) ?_;intro p2 h2 hr2;refine g2 ?_)
  obtain ⟨rfl,rfl⟩:=hr2
  refine ge ?_
  rfl
 refine ECall.cut (R:=fun p _=>p=uN (zoB a args s)) (pv func88 13 false (by kernel_rfl) rfl rfl ?_) (by rintro p h rfl;exact vE _ _ _ _ (rE 36 _))
 refine g2 ?_
 refine ge ?_
 (refine g1 ?_;refine zC ((hu.call zK (by simp) _).args (.cons (PLe.refl _) (.cons (PLe.tc_ts 2 _) .nil))) ?_;intro p2 h2 hr2;refine g2 ?_)
 obtain ⟨rfl,rfl⟩:=hr2
 refine ge ?_
 rfl
theorem znZ (a:List Rw) (args:List Vl) (s:Sp) (hal:a.length≤68719476736) (ha: ∀ x∈a,x.ls) (hc:CanL a) (hx:(Rw.mk args [s]).ls) (hs:s.good):EPure prog G0 87 [uN a,pH args,kJ [s]] fun p=>p=uN (dP a args s):=by
 have hu:EPure prog G0 128 [uN a,uN [⟨args,[s]⟩]] fun p=>p=uN (dP a args s):=by
  refine ECall.cut (R:=fun p _=>p=uN (dP a args s)) (pv func128 8 false (by kernel_rfl) rfl rfl ?_) (by rintro p h rfl;exact vE _ _ _ _ (rE 36 _))
  refine g2 ?_
  refine ge ?_
  (refine g1 ?_;refine zC ((zhC mY 171 zq5 a [⟨args,[s]⟩] hal (by simp) ha (by simpa using hx) hc (fF args hs)).call zK (by simp [yO]) _) ?_;intro p2 h2 hr2;refine g2 ?_)
  obtain ⟨rfl,rfl⟩:=hr2
  refine ge ?_
  rfl
 refine ECall.cut (R:=fun p _=>p=uN (dP a args s)) (pv func87 13 false (by kernel_rfl) rfl rfl ?_) (by rintro p h rfl;exact vE _ _ _ _ (rE 36 _))
 refine g2 ?_
 refine ge ?_
 (refine g1 ?_;refine zC ((hu.call zK (by simp) _).args (.cons (PLe.refl _) (.cons (PLe.tc_ts 2 _) .nil))) ?_;intro p2 h2 hr2;refine g2 ?_)
 obtain ⟨rfl,rfl⟩:=hr2
 refine ge ?_
 rfl
theorem zn5 (args:List Vl) (s:Sp) (t:List Vl):yH [⟨args,[s]⟩] t=if args=t then zo2 s else 0:=by
 simp only [yH]
 split
 ·unfold uQ;simp
 ·rfl
theorem zpH (a:Nat) (h:a<2 ^ 64):mY a 0=a:=by
 unfold mY
 rw [Nat.sub_zero];exact Nat.and_two_pow_sub_one_of_lt_two_pow h
theorem zpL {a:List Rw} {args:List Vl} {s:Sp} (hc:CanL a) (hs:s.good):CanL (zoB a args s)∧(∀ t,yH (zoB a args s) t=yH a t ||| if args=t then zo2 s else 0)∧ ∀ x∈zoB a args s,x.args=args∨ ∃ y∈a,x.args=y.args:=by
 obtain ⟨h1,h2,h3⟩:=zhW (op:=(· ||| ·)) rfl (fun a b ha hb=>Nat.or_lt_two_pow ha hb) hc (fF args hs)
 refine ⟨h1,fun t=>by rw [←zn5];exact h2 t,fun x hx=> ?_⟩
 obtain ⟨y,hy,e⟩:=h3 x hx
 rcases List.mem_append.1 hy with hy|hy
 ·exact .inr ⟨y,hy,e⟩
 ·rw [List.mem_singleton] at hy;subst hy;exact .inl e
theorem bK {a:List Rw} {args:List Vl} {s:Sp} (hc:CanL a) (hs:s.good):CanL (dP a args s)∧(∀ t,yH (dP a args s) t=mY (yH a t) (if args=t then zo2 s else 0))∧ ∀ x∈dP a args s,x.args=args∨ ∃ y∈a,x.args=y.args:=by
 obtain ⟨h1,h2,h3⟩:=zhW (op:=mY) (by decide) (fun a b _ _=>zoR a b) hc (fF args hs)
 refine ⟨h1,fun t=>by rw [←zn5];exact h2 t,fun x hx=> ?_⟩
 obtain ⟨y,hy,e⟩:=h3 x hx
 rcases List.mem_append.1 hy with hy|hy
 ·exact .inr ⟨y,hy,e⟩
 ·rw [List.mem_singleton] at hy;subst hy;exact .inl e
end Go.AL
namespace Go.AL
open Go.Proofs Go.Proofs.Tryz
@[go_sem] def URsx6f41.pl:Nat→DPlan
 |4=>⟨[yA,yB,yA,yA,yA,yA,yA,yA,yB,yA,yA,yA,yA,yA,yB,yC,yA,yA,yA,yA,yA,yA,yA,yA,yA,yA,yB,yB,yC,yA,yA,yA],zrL,0⟩
 |9=>⟨[yA,yB,yA,yA,yA,yB,yA,yA,yB,yC,yA,yA],xF,0⟩
 |_=>⟨[],[],0⟩
def RelX (types:List Int) (l:List Rw):Prop:=CanL l∧ ∀ x∈l,ArgX types x.args
abbrev zrY:Rw:=⟨[],[]⟩
def StepX (types:List Int) (x y:Rw) (i:Nat):Prop:=(ArgX types x.args∧x.can)∧(0<i→zaF y.args x.args)
theorem zpF {l:List Rw} (h: ∀ (i:Nat) (hi:i+1<l.length),zaF (l[i]'(by omega)).args l[i+1].args):SoR l:=by
 have key: ∀ (d i:Nat) (hj:i+d+1<l.length),zaF (l[i]'(by omega)).args l[i+d+1].args:=fun d=>by
  induction d with
  |zero=>exact fun i hj=>h i hj
  |succ d ih=>exact fun i hj=>(ih i (by omega)).tr (h (i+d+1) hj)
 intro i j hij hj
 have:=key (j-i-1) i (by omega)
 have e:i+(j-i-1)+1=j:=by omega
 simpa only [e] using this
theorem zcX {l:List Rw} {i:Nat} (h:i<l.length):l.getD i zrY=l[i]:=by
 rw [List.getD_eq_getElem?_getD,List.getElem?_eq_getElem h];rfl
theorem zn1 (types:List Int) (l:List Rw):RelX types l↔ ∀ (j:Nat) (h:j<l.length),StepX types l[j] (l.getD (j-1) zrY) j:=by
 constructor
 ·intro h j hj
  refine ⟨⟨h.2 _ (List.getElem_mem hj),h.1.2 _ (List.getElem_mem hj)⟩,fun h0=> ?_⟩
  rw [zcX (by omega)]
  exact h.1.1 (j-1) j (by omega) hj
 ·intro h
  refine ⟨⟨zpF fun i hi=> ?_,fun x hx=> ?_⟩,fun x hx=> ?_⟩
  ·have:=(h (i+1) hi).2 (by omega)
   rw [show i+1-1=i from rfl,zcX (by omega)] at this
   exact this
  ·obtain ⟨j,hj,rfl⟩:=List.getElem_of_mem hx;exact (h j hj).1.2
  ·obtain ⟨j,hj,rfl⟩:=List.getElem_of_mem hx;exact (h j hj).1.1
open URsx6f41 in
theorem zoF (types:List Int) (l:List Rw) (ht:types.length≤140737488355328) (hl:l.length≤140737488355328) (hok: ∀ x∈l,x.lt):EPure prog G0 41 [vF types,uN l] fun p=>p=bo (ze8 (RelX types l)):=by
 refine ECall.cut (R:=fun p _=>p=bo (ze8 (RelX types l))) (pv func41 70 false (by kernel_rfl) rfl rfl ?_) (by rintro p h rfl;rfl)
 refine g2 ?_
 refine ge ?_
 refine zO l.length (K4 (D4 (.d:: .k:: .k:: .v::D9 (D9 (D9 (D9 (D9 (D9 (D4 ([])))))))))) (own:=false) (fun i (_:Heap)=>[i64 i]) (fun J=>J) (fun i _=> ∀ (j:Nat) (h:j<l.length),j<i→StepX types l[j] (l.getD (j-1) zrY) j) [] rfl rfl (fun j _ hj=>absurd hj (Nat.not_lt_zero _)) hl ?_ ?_
 ·rintro J hI
  refine gm ?_
  rw [pO ((zn1 types l).2 fun j hj=>hI j hj hj)]
  refine gf @zM ?_
  rfl
 ·rintro i J hi hw hI
  refine gm ?_
  have hx:=zG (f:=Rw.c) [] hi
  have hxl:=hok _ (List.getElem_mem hi)
  have no: ¬StepX types l[i] (l.getD (i-1) zrY) i→ze8 (RelX types l)=false:=fun h=>uA fun k=>h ((zn1 types l).1 k i hi)
  have next:StepX types l[i] (l.getD (i-1) zrY) i→ ∀ (j:Nat) (h:j<l.length),j<i+1→StepX types l[j] (l.getD (j-1) zrY) j:=fun h j hj hji=>by
   rcases Nat.lt_or_ge j i with q|q
   ·exact hI j hj q
   ·have:j=i:=by omega
    subst this;exact h
  have hp1:(l.map Rw.c).getD (i-1) []=Rw.c (l.getD (i-1) zrY):=by
   rw [zG (f:=Rw.c) [] (show i-1<l.length by omega),zcX (by omega)]
  have hpo:(l.getD (i-1) zrY).ok:=by
   rw [zcX (by omega)];exact (hok _ (List.getElem_mem (by omega))).ok
  clear hI
  generalize l[i]=x at*
  generalize l.getD (i-1) zrY=y at*
  by_cases h1:x.args.length=types.length
  case neg=>
   have e1:((x.args.length:Int)!=(types.length:Int))=true:=by simp;omega
   rw [no fun k=>h1 k.1.1.1]
   refine gf (a6 @hi @hx @zB @zA @zD @e1) ?_
   rfl
  have e1:((x.args.length:Int)!=(types.length:Int))=false:=by simp [h1]
  by_cases h2:x.w.length=0
  ·have e2:((x.w.length:Int)==0)=true:=by simp [h2]
   rw [no fun k=>k.1.2.2 (List.eq_nil_of_length_eq_zero h2)]
   clear hw next
   refine gf (a7 @hi @hx @zB @zA @zD @e1 @e2) ?_
   rfl
  have e2:((x.w.length:Int)==0)=false:=by rw [beq_eq_false_iff_ne];omega
  by_cases hsp:x.w=yW (uQ x.w)
  case neg=>
   have hiv:=zn4 x.w (by have:=hxl.w;omega)
   rw [decide_eq_false hsp] at hiv
   rw [no fun k=>hsp (zoO.1 k.1.2.1)]
   (repeat (first|refine gz ?_|(refine gn ?_;intro zs zh;(try simp only [go_sem,hi,hx,zB,hw,zA,zD,e1,e2] at zh);subst zh;(first|refine gv ?_|((first|refine zC (hiv.call zK (by simp) _) ?_|refine zP (by decide) (by decide) (hiv.call zK (by simp) _) ?_);intro p2 h2 hr2;obtain ⟨hr2,rfl⟩:=hr2;first|obtain ⟨_,rfl,hr2⟩:=hr2|obtain ⟨_,rfl⟩:=hr2|subst hr2|skip)))|refine yD URsx6f41.pl ?_))
   rfl
  have hiv:=zn4 x.w (by have:=hxl.w;omega)
  rw [decide_eq_true hsp] at hiv
  have hcan:x.can:=⟨zoO.2 hsp,fun e=>h2 (by rw [e];rfl)⟩
  by_cases h0:0<i
  ·have h01:(0:Int)<(i:Int):=by omega
   have wi:IntKind.i64.wrap ((i:Int)-1)=((i-1:Nat):Int):=by rw [xM (by omega) (by omega)];omega
   have hi1:i-1<l.length:=by omega
   have hby:=uS y x hpo hxl.ok
   by_cases hc0:0≤sD y.args x.args
   ·rw [no fun k=>by have:=k.2 h0;unfold zaF at this;omega]
    generalize hcc:sD y.args x.args=c at*
    (repeat (first|refine gz ?_|(refine gn ?_;intro zs zh;(try simp only [go_sem,hi,hx,zB,hw,zA,zD,e1,e2,h0,h01,wi,hi1,hp1,hc0] at zh);subst zh;(first|refine gv ?_|((first|refine zC (hiv.call zK (by simp) _) ?_|refine zP (by decide) (by decide) (hiv.call zK (by simp) _) ?_|refine zC (hby.call zK (by simp [zJ]) _) ?_|refine zP (by decide) (by decide) (hby.call zK (by simp [zJ]) _) ?_);intro p2 h2 hr2;obtain ⟨hr2,rfl⟩:=hr2;first|obtain ⟨_,rfl,hr2⟩:=hr2|obtain ⟨_,rfl⟩:=hr2|subst hr2|skip)))|refine yD URsx6f41.pl ?_))
    rfl
   ·have hlt:zaF y.args x.args:=by unfold zaF;omega
    generalize hcc:sD y.args x.args=c at*
    (repeat (first|refine gz ?_|(refine gn ?_;intro zs zh;(try simp only [go_sem,hi,hx,zB,hw,zA,zD,e1,e2,h0,h01,wi,hi1,hp1,hc0] at zh);subst zh;(first|refine gv ?_|((first|refine zC (hiv.call zK (by simp) _) ?_|refine zP (by decide) (by decide) (hiv.call zK (by simp) _) ?_|refine zC (hby.call zK (by simp [zJ]) _) ?_|refine zP (by decide) (by decide) (hby.call zK (by simp [zJ]) _) ?_);intro p2 h2 hr2;obtain ⟨hr2,rfl⟩:=hr2;first|obtain ⟨_,rfl,hr2⟩:=hr2|obtain ⟨_,rfl⟩:=hr2|subst hr2|skip)))|refine yD URsx6f41.pl ?_))
    refine zO x.args.length (K4 (.d:: .k:: .k:: .d:: .d::K9 (K9 (K9 (K9 (K4 (.k:: .k:: .v::D9 (D4 (D4 (.k::[])))))))))) (own:=false) (fun j (_:Heap)=>[i64 j]) (fun J=>J) (fun i _=> ∀ (j:Nat) (h:j<x.args.length) (h':j<types.length),j<i→x.args[j].t=types[j]∧zoC x.args[j]=true) _ rfl rfl (fun _ _ _ h=>absurd h (Nat.not_lt_zero _)) (by have:=hxl.al;omega) ?_ ?_
    ·rintro J2 hA
     refine gm ?_
     refine gf (a2 @zM @hw) ?_
     exact ⟨J2,next ⟨⟨jR h1 hA,hcan⟩,fun _=>hlt⟩,rfl,rfl,rfl⟩
    ·rintro j J2 hj hwj hA
     refine gm ?_
     have hv:=zG (f:=Vl.c) [] hj
     have hjt:j<types.length:=by omega
     have htj:=zG (f:=fun n:Int=>[i64 n]) [] hjt
     have no2: ¬(x.args[j].t=types[j]∧zoC x.args[j]=true)→ze8 (RelX types l)=false:=fun h=>no fun k=>h (k.1.1.2 j hj hjt)
     have next2:(x.args[j].t=types[j]∧zoC x.args[j]=true)→ ∀ (k:Nat) (h:k<x.args.length) (h':k<types.length),k<j+1→x.args[k].t=types[k]∧zoC x.args[k]=true:=fun h k hk hk' hkj=>by
      rcases Nat.lt_or_ge k j with q|q
      ·exact hA k hk hk' q
      ·have:k=j:=by omega
       subst this;exact h
     clear hA next
     generalize x.args[j]=v at*
     generalize types[j]=ty at*
     have hvv:=gT v
     by_cases hty:v.t=ty
     ·have e3:(v.t !=ty)=false:=by simp [hty]
      cases hb:zoC v with
      |false=>
       rw [no2 fun k=>by rw [hb] at k;exact Bool.noConfusion k.2]
       rw [hb] at hvv
       (repeat (first|refine gz ?_|(refine gn ?_;intro zs zh;(try simp only [go_sem,hj,hv,htj,hjt,zB,hwj,zA,zD,e3] at zh);subst zh;(first|refine gv ?_|((first|refine zC (hvv.call zK (by simp [zJ]) _) ?_|refine zP (by decide) (by decide) (hvv.call zK (by simp [zJ]) _) ?_);intro p2 h2 hr2;obtain ⟨hr2,rfl⟩:=hr2;first|obtain ⟨_,rfl,hr2⟩:=hr2|obtain ⟨_,rfl⟩:=hr2|subst hr2|skip)))|refine yD URsx6f41.pl ?_))
       rfl
      |true=>
       rw [hb] at hvv
       (repeat (first|refine gz ?_|(refine gn ?_;intro zs zh;(try simp only [go_sem,hj,hv,htj,hjt,zB,hwj,zA,zD,e3] at zh);subst zh;(first|refine gv ?_|((first|refine zC (hvv.call zK (by simp [zJ]) _) ?_|refine zP (by decide) (by decide) (hvv.call zK (by simp [zJ]) _) ?_);intro p2 h2 hr2;obtain ⟨hr2,rfl⟩:=hr2;first|obtain ⟨_,rfl,hr2⟩:=hr2|obtain ⟨_,rfl⟩:=hr2|subst hr2|skip)))|refine yD URsx6f41.pl ?_))
       exact ⟨_,next2 ⟨hty,hb⟩,rfl,rfl,rfl⟩
     ·have e3:(v.t !=ty)=true:=by simp [hty]
      rw [no2 fun k=>hty k.1]
      refine gf (a9 @hj @hv @htj @hjt @zB @hwj @zA @zD @e3) ?_
      rfl
  ·have h01: ¬((0:Int)<(i:Int)):=by omega
   have hlt:0<i→zaF y.args x.args:=fun h=>absurd h h0
   (repeat (first|refine gz ?_|(refine gn ?_;intro zs zh;(try simp only [go_sem,hi,hx,zB,hw,zA,zD,e1,e2,h0,h01] at zh);subst zh;(first|refine gv ?_|((first|refine zC (hiv.call zK (by simp) _) ?_|refine zP (by decide) (by decide) (hiv.call zK (by simp) _) ?_);intro p2 h2 hr2;obtain ⟨hr2,rfl⟩:=hr2;first|obtain ⟨_,rfl,hr2⟩:=hr2|obtain ⟨_,rfl⟩:=hr2|subst hr2|skip)))|refine yD URsx6f41.pl ?_))
   refine zO x.args.length (K4 (.d:: .k:: .k:: .d:: .d::K9 (K9 (K9 (K9 (K4 (.k:: .k:: .v::D9 (D4 (D4 (.k::[])))))))))) (own:=false) (fun j (_:Heap)=>[i64 j]) (fun J=>J) (fun i _=> ∀ (j:Nat) (h:j<x.args.length) (h':j<types.length),j<i→x.args[j].t=types[j]∧zoC x.args[j]=true) _ rfl rfl (fun _ _ _ h=>absurd h (Nat.not_lt_zero _)) (by have:=hxl.al;omega) ?_ ?_
   ·rintro J2 hA
    refine gm ?_
    refine gf (a2 @zM @hw) ?_
    exact ⟨J2,next ⟨⟨jR h1 hA,hcan⟩,hlt⟩,rfl,rfl,rfl⟩
   ·rintro j J2 hj hwj hA
    refine gm ?_
    have hv:=zG (f:=Vl.c) [] hj
    have hjt:j<types.length:=by omega
    have htj:=zG (f:=fun n:Int=>[i64 n]) [] hjt
    have no2: ¬(x.args[j].t=types[j]∧zoC x.args[j]=true)→ze8 (RelX types l)=false:=fun h=>no fun k=>h (k.1.1.2 j hj hjt)
    have next2:(x.args[j].t=types[j]∧zoC x.args[j]=true)→ ∀ (k:Nat) (h:k<x.args.length) (h':k<types.length),k<j+1→x.args[k].t=types[k]∧zoC x.args[k]=true:=fun h k hk hk' hkj=>by
     rcases Nat.lt_or_ge k j with q|q
     ·exact hA k hk hk' q
     ·have:k=j:=by omega
      subst this;exact h
    clear hA next
    generalize x.args[j]=v at*
    generalize types[j]=ty at*
    have hvv:=gT v
    by_cases hty:v.t=ty
    ·have e3:(v.t !=ty)=false:=by simp [hty]
     cases hb:zoC v with
     |false=>
      rw [no2 fun k=>by rw [hb] at k;exact Bool.noConfusion k.2]
      rw [hb] at hvv
      (repeat (first|refine gz ?_|(refine gn ?_;intro zs zh;(try simp only [go_sem,hj,hv,htj,hjt,zB,hwj,zA,zD,e3] at zh);subst zh;(first|refine gv ?_|((first|refine zC (hvv.call zK (by simp [zJ]) _) ?_|refine zP (by decide) (by decide) (hvv.call zK (by simp [zJ]) _) ?_);intro p2 h2 hr2;obtain ⟨hr2,rfl⟩:=hr2;first|obtain ⟨_,rfl,hr2⟩:=hr2|obtain ⟨_,rfl⟩:=hr2|subst hr2|skip)))|refine yD URsx6f41.pl ?_))
      rfl
     |true=>
      rw [hb] at hvv
      (repeat (first|refine gz ?_|(refine gn ?_;intro zs zh;(try simp only [go_sem,hj,hv,htj,hjt,zB,hwj,zA,zD,e3] at zh);subst zh;(first|refine gv ?_|((first|refine zC (hvv.call zK (by simp [zJ]) _) ?_|refine zP (by decide) (by decide) (hvv.call zK (by simp [zJ]) _) ?_);intro p2 h2 hr2;obtain ⟨hr2,rfl⟩:=hr2;first|obtain ⟨_,rfl,hr2⟩:=hr2|obtain ⟨_,rfl⟩:=hr2|subst hr2|skip)))|refine yD URsx6f41.pl ?_))
      exact ⟨_,next2 ⟨hty,hb⟩,rfl,rfl,rfl⟩
    ·have e3:(v.t !=ty)=true:=by simp [hty]
     rw [no2 fun k=>hty k.1]
     refine gf (a9 @hj @hv @htj @hjt @zB @hwj @zA @zD @e3) ?_
     rfl
end Go.AL
