/- Merged texts: Lay1 Lay2 Lay4 Lay3 Lay5 Lay9 Num1 Num2. -/
import Derived.Test.YthhbglkokpablaaGreatVF
/- Comps laid open: what the document says, and that it comes to an end. -/
namespace Go.Proofs.YthhbglkokpablaaGreat
open Go Go.RowKit E
set_option linter.unusedSimpArgs false
set_option linter.unusedVariables false
abbrev wr6 (n:Int):Int:=IntKind.i64.wrap n
def cutL (x l:Ly):Ly:={ x with in_:=mxI (wr6 (x.in_+l.start)) l.in_,out:=mnI (wr6 (x.out+l.start)) l.out,start:=wr6 (x.start+l.start) }
def shortB (x:Ly):Bool:=decide (x.out≤x.in_)||!tickB x.in_||!tickB x.out||!tickB x.start
def keysN (l:Ly):Nat:=l.x.length+l.y.length+l.ax.length+l.ay.length+l.sx.length+l.sy.length+l.turn.length+l.opac.length+l.remap.length
def matteAt (ls:List Ly) (k:Nat):Int:=(ls[k]?).elim 0 (·.matte)
/-- A layer that is nothing but its comp. -/
def bareLB (ls:List Ly) (k:Nat) (l:Ly):Bool:=
 (l.parent==-1)&&decide (keysN l=0)&&decide (l.mask.2.length=0)&&(l.matte==0)&&!(ls.any fun x=>x.parent==(k:Int))&&(matteAt ls (k+1)==0)
/-- What a layer's comp has. -/
def inner (cs:List (List Ly)) (l:Ly):List Ly:=(cs[l.comp.toNat]?).getD []
def mayL (cs:List (List Ly)) (ls:List Ly) (k:Nat) (l:Ly):Int:=
 if ¬ l.kind=1 then 22 else if bareLB ls k l=false then 15 else if 16<(ls.length:Int) - 1+((inner cs l).length:Int) then 24
 else if ((inner cs l).any fun x=>shortB (cutL x l))=true then 1 else 0
def atC (cs:List (List Ly)) (c:Int):Option (List Ly):=if 0≤c then cs[c.toNat]? else none
def atL (ls:List Ly) (k:Int):Option Ly:=if 0≤k then ls[k.toNat]? else none
def mayE (d:Dc) (c k:Int):Int:=
 if ¬ rightE d=0 then rightE d else
 match atC d.comps c with
 | none=>22
 | some ls=>match atL ls k with
  | none=>22
  | some l=>mayL d.comps ls k.toNat l
def upL (n:Int) (x:Ly):Ly:={ x with parent:=n }
/-- A layer of the nested comp. -/
def inL (l:Ly) (k:Int) (x:Ly):Ly:=upL (if 0≤x.parent then wr6 (x.parent+k) else x.parent) (cutL x l)
/-- One of the others. -/
def outL (k n:Int) (x:Ly):Ly:=upL (if k<x.parent then wr6 (wr6 (x.parent+n) - 1) else x.parent) x
def openL (cs:List (List Ly)) (ls:List Ly) (k:Nat) (l:Ly):List Ly:=
 (ls.take k).map (outL k (inner cs l).length)++(inner cs l).map (inL l k)++(ls.drop (k+1)).map (outL k (inner cs l).length)
def openD (d:Dc) (c k:Nat) (ls:List Ly) (l:Ly):Dc:={ d with comps:=d.comps.set c (openL d.comps ls k l) }
/-- A right document's layers. -/
theorem lysE_at {cs:List (List Ly)} {n:Nat} {c:List Ly}:∀ {t:List Ly} {k:Nat},lysE cs n c k t=0→∀ (i:Nat) l,t[i]?=some l→layerB l=true∧treeB cs n (k+i) c l=true
 | [],k,_,i,l,hi=>by simp at hi
 | x::t,k,h,i,l,hi=>by
  rw[lysE] at h
  by_cases h1:layerB x=false
  ·rw[if_pos h1] at h;exact absurd h (by decide)
  rw[if_neg h1] at h
  by_cases h2:treeB cs n k c x=false
  ·rw[if_pos h2] at h;exact absurd h (by decide)
  rw[if_neg h2] at h
  cases i with
  | zero=>simp at hi;subst hi;exact⟨by simpa using h1,by simpa using h2⟩
  | succ i=>
   have:=lysE_at h i l (by simpa using hi)
   rwa [show k+1+i=k+(i+1) by omega] at this
theorem cosE_at {cs:List (List Ly)}:∀ {t:List (List Ly)} {n:Nat},cosE cs n t=0→∀ (i:Nat) c,t[i]?=some c→lysE cs (n+i) c 0 c=0
 | [],n,_,i,c,hi=>by simp at hi
 | x::t,n,h,i,c,hi=>by
  rw[cosE] at h
  by_cases h1:lysE cs n x 0 x=0
  ·rw[if_neg (by simpa using h1)] at h
   cases i with
   | zero=>simp at hi;subst hi;exact h1
   | succ i=>
    have:=cosE_at h i c (by simpa using hi)
    rwa [show n+1+i=n+(i+1) by omega] at this
  ·rw[if_pos h1] at h;exact absurd h h1
structure RightD (d:Dc):Prop where
 n:1≤d.comps.length∧d.comps.length≤8
 ls:∀ c∈d.comps,c.length≤16
 t:tickB d.in_=true∧tickB d.out=true∧d.in_<d.out
 l:∀ (i:Nat) c,d.comps[i]?=some c→∀ (k:Nat) l,c[k]?=some l→layerB l=true∧treeB d.comps i k c l=true
 o:deepE d.comps 0≤4∧nodesE d.comps 0≤256
theorem right_iff {d:Dc} (h:rightE d=0):RightD d:=by
 unfold rightE at h
 by_cases h1:sizeB d.comps=true
 ·rw[if_pos h1] at h;exact absurd h (by decide)
 rw[if_neg h1] at h
 by_cases h2:(!tickB d.in_||!tickB d.out||decide (d.out≤d.in_))=true
 ·rw[if_pos h2] at h;exact absurd h (by decide)
 rw[if_neg h2] at h
 by_cases h3:cosE d.comps 0 d.comps=0
 ·rw[if_neg (by simpa using h3)] at h
  by_cases h4:4<deepE d.comps 0∨256<nodesE d.comps 0
  ·rw[if_pos h4] at h;exact absurd h (by decide)
  ·unfold sizeB at h1
   simp only[Bool.or_eq_true,decide_eq_true_eq,List.any_eq_true,not_or,not_exists,not_and] at h1
   simp only[Bool.or_eq_true,Bool.not_eq_true',decide_eq_true_eq,not_or,Bool.not_eq_false] at h2
   refine⟨by omega,fun c hc=>by have:=h1.2 c hc;omega,⟨h2.1.1,h2.1.2,by omega⟩,fun i c hi k l hk=>?_,by omega⟩
   have:=lysE_at (cosE_at h3 i c hi) k l hk
   rwa [Nat.zero_add,Nat.zero_add] at this
 ·rw[if_pos h3] at h;exact absurd h h3
/-- What a nested layer of a right document names. -/
theorem RightD.nest {d:Dc} (h:RightD d) {i k:Nat} {c:List Ly} {l:Ly} (hi:d.comps[i]?=some c) (hk:c[k]?=some l) (hl:l.kind=1):(i:Int)<l.comp∧l.comp<(d.comps.length:Int):=by
 have:=(h.l i c hi k l hk).2
 unfold treeB at this
 simp only[Bool.and_eq_true,Bool.or_eq_true,Bool.not_eq_true',decide_eq_true_eq,hl,beq_self_eq_true] at this
 have:=this.2
 simp at this
 omega
/-! What is laid open grows less: each comp's nested ones, with all in them. -/
def wtF (n:Int) (l:Ly) (inner:Int):Int:=if l.kind=1 then n+1+inner else n
def wts (c:Nat) (cs:List (List Ly)):List Int:=cntGo wtF 0 c cs
def isum (l:List Int):Int:=l.foldr (·+ ·) 0
/-- A layer's share. -/
def wtL (r:List Int) (c n:Nat) (l:Ly):Int:=if l.kind=1 then 1+innF r c n l else 0
theorem wt_fold (r:List Int) (c n:Nat):∀ (ls:List Ly) (z:Int),ls.foldl (fun n' l=>wtF n' l (innF r c n l)) z=z+isum (ls.map (wtL r c n))
 | [],z=>by simp[isum]
 | l::ls,z=>by
  rw[List.foldl_cons,wt_fold r c n ls,List.map_cons]
  show _=z+(wtL r c n l+isum _)
  unfold wtF wtL
  by_cases h:l.kind=1
  ·rw[if_pos h,if_pos h];omega
  ·rw[if_neg h,if_neg h];omega
theorem wts_cons (c:Nat) (ls:List Ly) (rest:List (List Ly)):wts c (ls::rest)=isum (ls.map (wtL (wts (c+1) rest) c rest.length))::wts (c+1) rest:=by
 show cntGo wtF 0 c (ls::rest)=_
 rw[cntGo_cons,wt_fold,Int.zero_add];rfl
theorem isum_app (a b:List Int):isum (a++b)=isum a+isum b:=by
 induction a with
 | nil=>simp[isum]
 | cons x l ih=>show x+isum (l++b)=x+isum l+isum b;rw[ih];omega
theorem isum_nn {l:List Int} (h:∀ x∈l,0≤x):0≤isum l:=by
 induction l with
 | nil=>simp[isum]
 | cons x l ih=>
  have:=h x (List.mem_cons_self ..)
  have:=ih (fun y hy=>h y (List.mem_cons_of_mem _ hy))
  show 0≤x+isum l;omega
/-- Each not greater: nor their sum. -/
theorem isum_le {α:Type} {f g:α→Int}:∀ {l:List α},(∀ x∈l,f x≤g x)→isum (l.map f)≤isum (l.map g)
 | [],_=>by simp[isum]
 | x::l,h=>by
  have h1:=h x (List.mem_cons_self ..)
  have h2:=isum_le (l:=l) (fun y hy=>h y (List.mem_cons_of_mem _ hy))
  show f x+isum _≤g x+isum _;omega
theorem wts_nn:∀ (cs:List (List Ly)) (c:Nat),∀ v∈wts c cs,0≤v
 | [],c,v,hv=>by cases hv
 | ls::rest,c,v,hv=>by
  rw[wts_cons] at hv
  rcases List.mem_cons.1 hv with rfl|hv
  ·refine isum_nn fun x hx=>?_
   obtain⟨l,_,rfl⟩:=List.mem_map.1 hx
   unfold wtL innF
   split
   ·split
    ·cases hg:(wts (c+1) rest)[(l.comp - (c+1)).toNat]? with
     | none=>simp
     | some v=>have:=wts_nn rest (c+1) v (List.mem_of_getElem? hg);simp;omega
    ·simp
   ·simp
  ·exact wts_nn rest (c+1) v hv
/-- One after the other not greater. -/
def LeL (a b:List Int):Prop:=a.length=b.length∧∀ (i:Nat) x y,a[i]?=some x→b[i]?=some y→x≤y
theorem LeL.refl (a:List Int):LeL a a:=⟨rfl,fun i x y h1 h2=>by rw[h1] at h2;cases h2;exact Int.le_refl _⟩
theorem innF_le {a b:List Int} (h:LeL a b) (c n:Nat) (l:Ly):innF a c n l≤innF b c n l:=by
 unfold innF
 split
 ·cases e:a[(l.comp - (c+1)).toNat]? with
  | none=>
   have:b[(l.comp - (c+1)).toNat]?=none:=by
    rw[List.getElem?_eq_none_iff] at e ⊢;rw[← h.1];exact e
   rw[this];exact Int.le_refl _
  | some x=>
   have hl:=(List.getElem?_eq_some_iff.1 e).1
   obtain⟨y,hy⟩:∃ y,b[(l.comp - (c+1)).toNat]?=some y:=⟨_,List.getElem?_eq_getElem (by rw[← h.1];exact hl)⟩
   rw[hy]
   exact h.2 _ x y e hy
 ·exact Int.le_refl _
theorem LeL.cons {a b:List Int} {x y:Int} (h:LeL a b) (hx:x≤y):LeL (x::a) (y::b):=⟨by simp[h.1],fun i u v h1 h2=>by
 cases i with
 | zero=>simp at h1 h2;subst h1 h2;exact hx
 | succ i=>exact h.2 i u v (by simpa using h1) (by simpa using h2)⟩
theorem LeL.sum:∀ {a b:List Int},LeL a b→isum a≤isum b
 | [],[],_=>Int.le_refl _
 | [],y::b,h=>by have:=h.1;simp at this
 | x::a,[],h=>by have:=h.1;simp at this
 | x::a,y::b,h=>by
  have h1:=h.2 0 x y rfl rfl
  have h2:=LeL.sum (a:=a) (b:=b) ⟨by have:=h.1;simpa using this,fun i u v e1 e2=>h.2 (i+1) u v (by simpa using e1) (by simpa using e2)⟩
  show x+isum a≤y+isum b;omega
/-- One comp's share less by one: all less by one at least. -/
theorem wts_set:∀ (cs:List (List Ly)) (c i:Nat) (ls ls':List Ly),cs[i]?=some ls →
  isum (ls'.map (wtL (wts (c+i+1) (cs.drop (i+1))) (c+i) (cs.drop (i+1)).length))+1≤isum (ls.map (wtL (wts (c+i+1) (cs.drop (i+1))) (c+i) (cs.drop (i+1)).length)) →
  LeL (wts c (cs.set i ls')) (wts c cs)∧isum (wts c (cs.set i ls'))+1≤isum (wts c cs)
 | [],c,i,ls,ls',h,_=>by simp at h
 | x::cs,c,0,ls,ls',h,h2=>by
  simp at h;subst h
  simp only[Nat.add_zero,List.drop_succ_cons,List.drop_zero,Nat.zero_add] at h2
  rw[List.set_cons_zero,wts_cons,wts_cons]
  refine⟨(LeL.refl _).cons (by omega),?_⟩
  show _+isum _+1≤_+isum _;omega
 | x::cs,c,i+1,ls,ls',h,h2=>by
  rw[List.drop_succ_cons,show c+(i+1)+1=(c+1)+i+1 by omega,show c+(i+1)=(c+1)+i by omega] at h2
  obtain⟨h3,h4⟩:=wts_set cs (c+1) i ls ls' (by simpa using h) h2
  rw[List.set_cons_succ,wts_cons,wts_cons,List.length_set]
  have h5:isum (x.map (wtL (wts (c+1) (cs.set i ls')) c cs.length))≤isum (x.map (wtL (wts (c+1) cs) c cs.length)):=isum_le fun l _=>by
   unfold wtL
   have:=innF_le h3 c cs.length l
   split <;> omega
  refine⟨h3.cons h5,?_⟩
  show _+isum _+1≤_+isum _;omega
/-- The share of the j-th comp. -/
theorem wts_at:∀ (cs:List (List Ly)) (c j:Nat) (ls:List Ly),cs[j]?=some ls→(wts c cs)[j]?=some (isum (ls.map (wtL (wts (c+j+1) (cs.drop (j+1))) (c+j) (cs.drop (j+1)).length)))
 | [],c,j,ls,h=>by simp at h
 | x::cs,c,0,ls,h=>by simp at h;subst h;rw[wts_cons];rfl
 | x::cs,c,j+1,ls,h=>by
  rw[wts_cons,List.getElem?_cons_succ,wts_at cs (c+1) j ls (by simpa using h),List.drop_succ_cons,show c+(j+1)+1=(c+1)+j+1 by omega,show c+(j+1)=(c+1)+j by omega]
theorem wts_drop:∀ (cs:List (List Ly)) (c j:Nat),wts (c+j) (cs.drop j)=(wts c cs).drop j
 | [],c,j=>by simp[wts,cntGo]
 | x::cs,c,0=>rfl
 | x::cs,c,j+1=>by
  rw[wts_cons,List.drop_succ_cons,List.drop_succ_cons,show c+(j+1)=(c+1)+j by omega]
  exact wts_drop cs (c+1) j
/-- A nested layer's share, by the whole row. -/
theorem wtL_at {cs:List (List Ly)} {i:Nat} {l:Ly} (h:l.kind=1) (h1:(i:Int)<l.comp) (h2:l.comp<(cs.length:Int)):wtL (wts (0+i+1) (cs.drop (i+1))) (0+i) (cs.drop (i+1)).length l=1+(((wts 0 cs)[l.comp.toNat]?).getD 0):=by
 unfold wtL innF
 rw[if_pos h,if_pos ⟨h,by omega,by rw[List.length_drop];omega⟩,show 0+i+1=0+(i+1) by omega,wts_drop,List.getElem?_drop,show i+1+(l.comp - (((0+i:Nat):Int)+1)).toNat=l.comp.toNat by omega]
/-- Laid open: one less. -/
theorem open_less {d:Dc} (h:RightD d) {c k:Nat} {ls:List Ly} {l:Ly} (hc:d.comps[c]?=some ls) (hk:ls[k]?=some l) (hl:l.kind=1):isum (wts 0 (openD d c k ls l).comps)+1≤isum (wts 0 d.comps):=by
 obtain⟨n1,n2⟩:=h.nest hc hk hl
 obtain⟨li,hli⟩:∃ li,d.comps[l.comp.toNat]?=some li:=⟨_,List.getElem?_eq_getElem (by omega)⟩
 have hin:inner d.comps l=li:=by unfold inner;rw[hli];rfl
 refine(wts_set d.comps 0 c ls _ hc ?_).2
 have eL:=wtL_at (cs:=d.comps) hl n1 n2
 rw[wts_at _ _ _ _ hli] at eL
 have e1:∀ (n m:Int) (r:List Int) (c n':Nat) (x:Ly),wtL r c n' (outL n m x)=wtL r c n' x:=fun n m r c n' x=>rfl
 have e2:∀ (y:Ly) (m:Int) (r:List Int) (c n':Nat) (x:Ly),wtL r c n' (inL y m x)=wtL r c n' x:=fun y m r c n' x=>rfl
 have hls:ls=ls.take k++[l]++ls.drop (k+1):=by
  rw[← take_snoc hk,List.take_append_drop]
 have hR:isum (ls.map (wtL (wts (0+c+1) (d.comps.drop (c+1))) (0+c) (d.comps.drop (c+1)).length))=isum ((ls.take k).map (wtL (wts (0+c+1) (d.comps.drop (c+1))) (0+c) (d.comps.drop (c+1)).length))+wtL (wts (0+c+1) (d.comps.drop (c+1))) (0+c) (d.comps.drop (c+1)).length l+isum ((ls.drop (k+1)).map (wtL (wts (0+c+1) (d.comps.drop (c+1))) (0+c) (d.comps.drop (c+1)).length)):=by
  conv=>lhs;rw[hls]
  rw[List.map_append,List.map_append,isum_app,isum_app]
  simp[isum]
 rw[hR,eL,Option.getD_some]
 unfold openL
 rw[List.map_append,List.map_append,isum_app,isum_app,hin,List.map_map,List.map_map,List.map_map]
 have g1:(wtL (wts (0+c+1) (d.comps.drop (c+1))) (0+c) (d.comps.drop (c+1)).length ∘ outL (k:Int) (li.length:Int))=wtL (wts (0+c+1) (d.comps.drop (c+1))) (0+c) (d.comps.drop (c+1)).length:=funext fun x=>e1 _ _ _ _ _ x
 have g2:li.map (wtL (wts (0+c+1) (d.comps.drop (c+1))) (0+c) (d.comps.drop (c+1)).length ∘ inL l (k:Int))=li.map (wtL (wts (0+l.comp.toNat+1) (d.comps.drop (l.comp.toNat+1))) (0+l.comp.toNat) (d.comps.drop (l.comp.toNat+1)).length):=by
  refine List.map_congr_left fun x hx=>?_
  show wtL _ _ _ (inL l k x)=_
  rw[e2]
  by_cases hxk:x.kind=1
  ·obtain⟨m,hm⟩:=List.getElem?_of_mem hx
   obtain⟨p1,p2⟩:=h.nest hli hm hxk
   rw[wtL_at hxk (by omega) p2,wtL_at hxk p1 p2]
  ·unfold wtL;rw[if_neg hxk,if_neg hxk]
 rw[g1,g2]
 omega
end Go.Proofs.YthhbglkokpablaaGreat
/- Comps laid open: one after the other, till none may be. -/
namespace Go.Proofs.YthhbglkokpablaaGreat
open Go Go.RowKit E
set_option linter.unusedSimpArgs false
set_option linter.unusedVariables false
/-- Why a layer may be laid open. -/
structure MayO (d:Dc) (c k:Nat) (ls:List Ly) (l:Ly) (li:List Ly):Prop where
 r:RightD d
 ec:d.comps[c]?=some ls
 ek:ls[k]?=some l
 kind:l.kind=1
 cm:(c:Int)<l.comp∧l.comp<(d.comps.length:Int)
 eli:d.comps[l.comp.toNat]?=some li
 n:ls.length+li.length≤17
theorem may_open {d:Dc} {c k:Int} (h:mayE d c k=0):∃ (c' k':Nat) (ls:List Ly) (l:Ly) (li:List Ly),c=c'∧k=k'∧MayO d c' k' ls l li:=by
 unfold mayE at h
 by_cases h0:rightE d=0
 ·rw[if_neg (by simpa using h0)] at h
  have hr:=right_iff h0
  cases hc:atC d.comps c with
  | none=>simp only[hc] at h;exact absurd h (by decide)
  | some ls=>
   simp only[hc] at h
   cases hk:atL ls k with
   | none=>simp only[hk] at h;exact absurd h (by decide)
   | some l=>
    simp only[hk] at h
    unfold atC at hc
    unfold atL at hk
    have hc0:0≤c:=by
     by_cases e:0≤c
     ·exact e
     ·rw[if_neg e] at hc;cases hc
    have hk0:0≤k:=by
     by_cases e:0≤k
     ·exact e
     ·rw[if_neg e] at hk;cases hk
    rw[if_pos hc0] at hc
    rw[if_pos hk0] at hk
    unfold mayL at h
    by_cases h1:l.kind=1
    ·rw[if_neg (by simpa using h1)] at h
     by_cases h2:bareLB ls k.toNat l=false
     ·rw[if_pos h2] at h;exact absurd h (by decide)
     rw[if_neg h2] at h
     by_cases h3:16<(ls.length:Int) - 1+((inner d.comps l).length:Int)
     ·rw[if_pos h3] at h;exact absurd h (by decide)
     obtain⟨n1,n2⟩:=hr.nest hc hk h1
     obtain⟨li,hli⟩:∃ li,d.comps[l.comp.toNat]?=some li:=⟨_,List.getElem?_eq_getElem (by omega)⟩
     have hin:inner d.comps l=li:=by unfold inner;rw[hli];rfl
     rw[hin] at h3
     exact⟨c.toNat,k.toNat,ls,l,li,by omega,by omega,hr,hc,hk,h1,⟨n1,n2⟩,hli,by omega⟩
    ·rw[if_pos h1] at h;exact absurd h (by decide)
 ·rw[if_pos h0] at h;exact absurd h h0
theorem mayE_r {d:Dc} {c k:Int} (h:¬ rightE d=0):mayE d c k=rightE d:=by unfold mayE;rw[if_pos h]
theorem mayE_c {d:Dc} {c k:Int} (h:rightE d=0) (e:atC d.comps c=none):mayE d c k=22:=by unfold mayE;rw[if_neg (by simpa using h),e]
theorem mayE_k {d:Dc} {c k:Int} {ls:List Ly} (h:rightE d=0) (e:atC d.comps c=some ls) (e2:atL ls k=none):mayE d c k=22:=by
 unfold mayE;rw[if_neg (by simpa using h),e];simp only[e2]
theorem mayE_l {d:Dc} {c k:Int} {ls:List Ly} {l:Ly} (h:rightE d=0) (e:atC d.comps c=some ls) (e2:atL ls k=some l):mayE d c k=mayL d.comps ls k.toNat l:=by
 unfold mayE;rw[if_neg (by simpa using h),e];simp only[e2]
def openE (d:Dc) (c k:Nat):Dc:=match d.comps[c]? with
 | none=>d
 | some ls=>match ls[k]? with
  | none=>d
  | some l=>openD d c k ls l
theorem MayO.e {d:Dc} {c k:Nat} {ls:List Ly} {l:Ly} {li:List Ly} (h:MayO d c k ls l li):openE d c k=openD d c k ls l:=by
 unfold openE;rw[h.ec];simp only[h.ek]
theorem MayO.openL {d:Dc} {c k:Nat} {ls:List Ly} {l:Ly} {li:List Ly} (h:MayO d c k ls l li):openL d.comps ls k l=(ls.take k).map (outL k li.length)++li.map (inL l k)++(ls.drop (k+1)).map (outL k li.length):=by
 have hin:inner d.comps l=li:=by unfold inner;rw[h.eli];rfl
 unfold Go.Proofs.YthhbglkokpablaaGreat.openL;rw[hin]
/-- The first that there is. -/
def firstL {β:Type} (f:Nat→Option β) (i:Nat):Nat→Option β
 | 0=>none
 | n+1=>match f i with
  | some b=>some b
  | none=>firstL f (i+1) n
def oneL (d:Dc) (c k:Nat):Option Dc:=if mayE d c k=0 then some (openE d c k) else none
def layN (d:Dc) (c:Nat):Nat:=((d.comps[c]?).getD []).length
def oneC (d:Dc) (c:Nat):Option Dc:=firstL (oneL d c) 0 (layN d c)
def oneE (d:Dc):Option Dc:=firstL (oneC d) 0 d.comps.length
def allF:Nat→Dc→Dc
 | 0,d=>d
 | n+1,d=>match oneE d with
  | none=>d
  | some e=>allF n e
def meas (d:Dc):Nat:=(isum (wts 0 d.comps)).toNat
def allE (d:Dc):Dc:=allF (meas d+1) d
theorem firstL_some {β:Type} {f:Nat→Option β} {b:β}:∀ {n i:Nat},firstL f i n=some b→∃ j,i≤j∧j<i+n∧f j=some b
 | 0,i,h=>by cases h
 | n+1,i,h=>by
  rw[firstL] at h
  cases hf:f i with
  | some x=>rw[hf] at h;cases h;exact⟨i,by omega,by omega,hf⟩
  | none=>
   rw[hf] at h
   obtain⟨j,h1,h2,h3⟩:=firstL_some h
   exact⟨j,by omega,by omega,h3⟩
theorem oneE_some {d e:Dc} (h:oneE d=some e):∃ c k ls l li,MayO d c k ls l li∧e=openD d c k ls l∧mayE d c k=0:=by
 obtain⟨c,_,_,h1⟩:=firstL_some h
 obtain⟨k,_,_,h2⟩:=firstL_some h1
 unfold oneL at h2
 by_cases hm:mayE d c k=0
 ·rw[if_pos hm] at h2
  obtain⟨c',k',ls,l,li,e1,e2,ho⟩:=may_open hm
  obtain rfl:c=c':=by omega
  obtain rfl:k=k':=by omega
  exact⟨c,k,ls,l,li,ho,by cases h2;exact ho.e,hm⟩
 ·rw[if_neg hm] at h2;cases h2
theorem open_meas {d:Dc} {c k:Nat} {ls:List Ly} {l:Ly} {li:List Ly} (h:MayO d c k ls l li):meas (openD d c k ls l)<meas d:=by
 have h1:=open_less h.r h.ec h.ek h.kind
 have h2:=isum_nn (wts_nn (openD d c k ls l).comps 0)
 unfold meas;omega
theorem LyS.cut {x:Ly} (h:LyS x) (l:Ly):LyS (cutL x l):=⟨h.x,h.y,h.ax,h.ay,h.sx,h.sy,h.turn,h.opac,h.remap,h.mask,h.w,h.h,h.paths,h.pts,h.colors,h.width,h.dash,h.frm,h.to⟩
theorem LyS.up {x:Ly} (h:LyS x) (n:Int):LyS (upL n x):=⟨h.x,h.y,h.ax,h.ay,h.sx,h.sy,h.turn,h.opac,h.remap,h.mask,h.w,h.h,h.paths,h.pts,h.colors,h.width,h.dash,h.frm,h.to⟩
theorem open_len {d:Dc} {c k:Nat} {ls:List Ly} {l:Ly} {li:List Ly} (h:MayO d c k ls l li):(openL d.comps ls k l).length=ls.length - 1+li.length:=by
 have hk:=(List.getElem?_eq_some_iff.1 h.ek).1
 rw[h.openL];simp;omega
theorem DcS.open {d:Dc} (hd:DcS d) {c k:Nat} {ls:List Ly} {l:Ly} {li:List Ly} (h:MayO d c k ls l li):DcS (openD d c k ls l):=by
 have h1:=hd.c ls (List.mem_of_getElem? h.ec)
 have h2:=hd.c li (List.mem_of_getElem? h.eli)
 refine⟨by show (d.comps.set c _).length≤_;rw[List.length_set];exact hd.n,fun x hx=>?_⟩
 rcases List.mem_or_eq_of_mem_set hx with hx|rfl
 ·exact hd.c x hx
 ·have hn:=h.n
  refine⟨by rw[open_len h];omega,fun y hy=>?_⟩
  rw[h.openL] at hy
  rcases List.mem_append.1 hy with hy|hy
  ·rcases List.mem_append.1 hy with hy|hy
   ·obtain⟨z,hz,rfl⟩:=List.mem_map.1 hy
    exact(h1.2 z (List.mem_of_mem_take hz)).up _
   ·obtain⟨z,hz,rfl⟩:=List.mem_map.1 hy
    exact((h2.2 z hz).cut l).up _
  ·obtain⟨z,hz,rfl⟩:=List.mem_map.1 hy
   exact(h1.2 z (List.mem_of_mem_drop hz)).up _
theorem oneE_S {d e:Dc} (hd:DcS d) (h:oneE d=some e):DcS e∧meas e<meas d:=by
 obtain⟨c,k,ls,l,li,ho,rfl,_⟩:=oneE_some h
 exact⟨hd.open ho,open_meas ho⟩
end Go.Proofs.YthhbglkokpablaaGreat
/- Comps laid open: the walks of cut, short, what is contained. -/
namespace Go.Proofs.YthhbglkokpablaaGreat
open Go Go.RowKit E
attribute [local irreducible] XRun XOps XCode XCal XLoop XQ SemCall
set_option linter.unusedSimpArgs false
set_option linter.unusedVariables false
set_option maxHeartbeats 4000000 in
theorem icut_ (x l:Ly) (v0 v1 v2 v3 v4 v5 v6 v7 v8 v9 v10 v11 v12 v13 v14 v15 v16 v17 u0 u1 u2 u3 u4 u5 u6 u7 u8 u9 u10 u11 u12 u13 u14 u15 u16 u17:Value) (H:AH) :
  Cal Tryz.prog 24 [.agg (lyVs x v0 v1 v2 v3 v4 v5 v6 v7 v8 v9 v10 v11 v12 v13 v14 v15 v16 v17).toArray,.agg (lyVs l u0 u1 u2 u3 u4 u5 u6 u7 u8 u9 u10 u11 u12 u13 u14 u15 u16 u17).toArray] H fun v H' W=>W=[]∧(∃ L,H'=H++L)∧v=.agg (lyVs (cutL x l) v0 v1 v2 v3 v4 v5 v6 v7 v8 v9 v10 v11 v12 v13 v14 v15 v16 v17).toArray:=by
 refine adds_of ?_
 have kd:∀ n,decide (H.length+n<H.length)=false:=fun n=>df (by omega)
 have kd0:decide (H.length<H.length)=false:=df (by omega)
 refine XCal.of hm Tryz.func24 rfl (fun xs w=>Tryz.call24 xs w) Tryz.ntmps24 Tryz.results24 rfl ?_
 (refine sg (et kd kd0) ?_;try exact⟨⟩)
 first|refine drawnF ?_ (by decide +kernel)|refine drawnU [(10,17),(11,17),(12,17),(13,17),(14,17),(15,17)] (by decide +kernel) ?_
 (refine sg (et kd kd0) ?_;try exact⟨⟩)
 rfl
theorem beyond_ (a:Int) (H:AH):SemCall Tryz.prog 59 [.int .i64 a] H (.bool (!tickB a)) H []:=by
 refine pure_of ?_ rfl
 have e:(!tickB a)=(decide (a < -1073741824)||decide (1073741824<a)):=by
  unfold tickB
  by_cases h1:a < -1073741824
  ·rw[dt h1,df (show ¬ -1073741824≤a by omega)];rfl
  ·rw[df h1,dt (show -1073741824≤a by omega)]
   by_cases h2:1073741824<a
   ·rw[dt h2,df (show ¬ a≤1073741824 by omega)];rfl
   ·rw[df h2,dt (show a≤1073741824 by omega)];rfl
 rw[e]
 cases h1:decide (a < -1073741824) with
 | false=>
  refine XCal.of hm Tryz.func59 rfl (fun xs w=>Tryz.call59 xs w) Tryz.ntmps59 Tryz.results59 rfl ?_
  (refine sg h1 ?_;try exact⟨⟩)
 | true=>
  refine XCal.of hm Tryz.func59 rfl (fun xs w=>Tryz.call59 xs w) Tryz.ntmps59 Tryz.results59 rfl ?_
  (refine sg h1 ?_;try exact⟨⟩)
set_option maxHeartbeats 4000000 in
theorem ishort_ (x:Ly) (v0 v1 v2 v3 v4 v5 v6 v7 v8 v9 v10 v11 v12 v13 v14 v15 v16 v17:Value) (H:AH):SemCall Tryz.prog 30 [.agg (lyVs x v0 v1 v2 v3 v4 v5 v6 v7 v8 v9 v10 v11 v12 v13 v14 v15 v16 v17).toArray] H (.bool (shortB x)) H []:=by
 refine pure_of ?_ rfl
 have kd:∀ n,decide (H.length+n<H.length)=false:=fun n=>df (by omega)
 have kd0:decide (H.length<H.length)=false:=df (by omega)
 have k1:=fun H=>beyond_ x.in_ H
 have k2:=fun H=>beyond_ x.out H
 have k3:=fun H=>beyond_ x.start H
 unfold shortB
 refine XCal.of hm Tryz.func30 rfl (fun xs w=>Tryz.call30 xs w) Tryz.ntmps30 Tryz.results30 rfl ?_
 by_cases h1:x.out≤x.in_
 ·(refine sg (et kd (et kd0 (et (dt h1) Bool.true_or))) ?_;try exact⟨⟩)
 ·(refine sg (et kd (et kd0 (et (df h1) Bool.false_or))) ?_;try exact⟨⟩)
  refine(k1 _).x ?_
  cases h2:tickB x.in_
  ·(refine sg (et kd (et kd0 h2)) ?_;try exact⟨⟩)
  ·(refine sg (et kd (et kd0 h2)) ?_;try exact⟨⟩)
   refine(k2 _).x ?_
   cases h3:tickB x.out
   ·(refine sg (et kd (et kd0 h3)) ?_;try exact⟨⟩)
   ·(refine sg (et kd (et kd0 h3)) ?_;try exact⟨⟩)
    refine(k3 _).x ?_
    cases h4:tickB x.start
    ·(refine sg (et kd (et kd0 h4)) ?_;try exact⟨⟩)
    ·(refine sg (et kd (et kd0 h4)) ?_;try exact⟨⟩)
     rw[df h1]
end Go.Proofs.YthhbglkokpablaaGreat
/- Comps laid open: the walk of the document's answer's May (printed by genLay.py). -/
namespace Go.Proofs.YthhbglkokpablaaGreat
open Go Go.RowKit E
attribute [local irreducible] XRun XOps XCode XCal XLoop XQ SemCall
set_option linter.unusedSimpArgs false
set_option linter.unusedVariables false
theorem rtick27_ (a:Int) (H:AH):SemCall Tryz.prog 65 [.int .i64 a] H (.bool (tickB a)) H []:=by
 refine pure_of ?_ rfl
 unfold tickB
 cases h1:decide (-1073741824≤a) with
 | false=>
  refine XCal.of hm Tryz.func65 rfl (fun xs w=>Tryz.call65 xs w) Tryz.ntmps65 Tryz.results65 rfl ?_
  (refine sg h1 ?_;try exact⟨⟩)
 | true=>
  refine XCal.of hm Tryz.func65 rfl (fun xs w=>Tryz.call65 xs w) Tryz.ntmps65 Tryz.results65 rfl ?_
  (refine sg h1 ?_;try exact⟨⟩)
set_option maxHeartbeats 4000000 in
theorem rinside_ (x l:Ly) (v0 v1 v2 v3 v4 v5 v6 v7 v8 v9 v10 v11 v12 v13 v14 v15 v16 v17 u0 u1 u2 u3 u4 u5 u6 u7 u8 u9 u10 u11 u12 u13 u14 u15 u16 u17:Value) (H:AH) :
  Cal Tryz.prog 37 [.agg (lyVs x v0 v1 v2 v3 v4 v5 v6 v7 v8 v9 v10 v11 v12 v13 v14 v15 v16 v17).toArray,.agg (lyVs l u0 u1 u2 u3 u4 u5 u6 u7 u8 u9 u10 u11 u12 u13 u14 u15 u16 u17).toArray] H fun v H' W=>W=[]∧(∃ L,H'=H++L)∧v=.agg (lyVs (cutL x l) v0 v1 v2 v3 v4 v5 v6 v7 v8 v9 v10 v11 v12 v13 v14 v15 v16 v17).toArray:=by
 refine adds_of ?_
 have kd:∀ n,decide (H.length+n<H.length)=false:=fun n=>df (by omega)
 have kd0:decide (H.length<H.length)=false:=df (by omega)
 refine XCal.of hm Tryz.func37 rfl (fun xs w=>Tryz.call37 xs w) Tryz.ntmps37 Tryz.results37 rfl ?_
 (refine sg (et kd kd0) ?_;try exact⟨⟩)
 rfl
/-- A layer's rows of keys, counted. -/
theorem keysN_le {l:Ly} (h:LyS l):keysN l≤9000:=by
 have a0:=h.x
 have a1:=h.y
 have a2:=h.ax
 have a3:=h.ay
 have a4:=h.sx
 have a5:=h.sy
 have a6:=h.turn
 have a7:=h.opac
 have a8:=h.remap
 unfold keysN;omega
set_option maxRecDepth 100000 in
set_option maxHeartbeats 8000000 in
theorem rmay_ (d:Dc) (cv:Value) (c k:Int) (H:AH) (h:Cos H cv d.comps) (hz:DcS d):SemCall Tryz.prog 36 [dcV d cv,.int .i64 c,.int .i64 k] H (.int .i64 (mayE d c k)) H []:=by
 refine pure_of ?_ rfl
 have kd:∀ n,decide (H.length+n<H.length)=false:=fun n=>df (by omega)
 have kd0:decide (H.length<H.length)=false:=df (by omega)
 have hln:=h.len
 have hn0:=hz.n
 obtain⟨ca,ce,hcf⟩:=h.form
 subst hcf
 have g0:∀ L,(H++(⟨[.int .i64 d.in_,.int .i64 d.out,.slice ca d.comps.length ce],0,true⟩:Blk)::L)[H.length]?=some ⟨[.int .i64 d.in_,.int .i64 d.out,.slice ca d.comps.length ce],0,true⟩:=fun L=>by rw[hget_app0];rfl
 refine XCal.of hm Tryz.func36 rfl (fun xs w=>Tryz.call36 xs w) Tryz.ntmps36 Tryz.results36 rfl ?_
 (refine sg (et kd kd0) ?_;try exact⟨⟩)
 have c1:=fun L=>rright18_ d _ (H++L) (h.old CoE.m (Old.app' _ L)) hz.m
 refine(c1 _).x ?_
 by_cases h0:rightE d=0
 case neg=>
  rw[mayE_r h0]
  (refine sg (et kd (et kd0 (nf h0))) ?_;try exact⟨⟩)
 have hr:=right_iff h0
 (refine sg (et kd (et kd0 (et (nt h0) g0))) ?_;try exact⟨⟩)
 by_cases hc:0≤c∧c<(d.comps.length:Int)
 case neg=>
  have e:atC d.comps c=none:=by
   unfold atC
   by_cases e:0≤c
   ·rw[if_pos e];exact List.getElem?_eq_none (by omega)
   ·rw[if_neg e]
  rw[mayE_c h0 e]
  by_cases e2:c<0
  ·(refine sg (et kd (et kd0 (et (dt e2) g0))) ?_;try exact⟨⟩)
  ·(refine sg (et kd (et kd0 (et (df e2) (et g0 (dt (show (d.comps.length:Int)≤c by omega)))))) ?_;try exact⟨⟩)
 obtain⟨i,rfl⟩:∃ i:Nat,c=(i:Int):=⟨c.toNat,by omega⟩
 obtain⟨ls,hi⟩:∃ ls,d.comps[i]?=some ls:=⟨_,List.getElem?_eq_getElem (by omega)⟩
 obtain⟨b1,g1,cells1,rw1,cc,hve1,hb1,⟨lv,rfl,hL⟩,hcl1,hle1,hld1,hgt1⟩:=h.at hi
 have hc0:cells1[i*1]?=some lv:=hgt1 0 (by omega)
 have gb1:∀ L,(H++L)[b1]?=some ⟨cells1,g1,rw1⟩:=fun L=>old_get hb1 L
 have hLl:=hL.len
 obtain⟨hs1,hs2⟩:=hz.c ls (List.mem_of_getElem? hi)
 obtain⟨la,le,rfl⟩:=hL.form
 have eC:atC d.comps (i:Int)=some ls:=by unfold atC;rw[if_pos (by omega),Int.toNat_natCast];exact hi
 rw[hve1] at g0 ⊢
 have q0:(0:Int)≤(i:Int):=by omega
 have q1:(i:Int)<(d.comps.length:Int):=hc.2
 have f1:¬ (i:Int)<0:=by omega
 have f2:¬ (d.comps.length:Int)≤(i:Int):=by omega
 by_cases hk:0≤k∧k<(ls.length:Int)
 case neg=>
  have e:atL ls k=none:=by
   unfold atL
   by_cases e:0≤k
   ·rw[if_pos e];exact List.getElem?_eq_none (by omega)
   ·rw[if_neg e]
  rw[mayE_k h0 eC e]
  by_cases e2:k<0
  ·(refine sg (et kd (et kd0 (et (df f1) (et (df f2) (et (dt e2) g0))))) ?_;try exact⟨⟩)
  ·(refine sg (et kd (et kd0 (et (df f1) (et (df f2) (et (df e2) (et g0 (et q0 (et q1 (et Int.toNat_natCast (et Nat.zero_add (et Nat.add_zero (et gb1 (et hc0 (dt (show (ls.length:Int)≤k by omega))))))))))))))) ?_;try exact⟨⟩)
 obtain⟨j,rfl⟩:∃ j:Nat,k=(j:Int):=⟨k.toNat,by omega⟩
 obtain⟨l,hj⟩:∃ l,ls[j]?=some l:=⟨_,List.getElem?_eq_getElem (by omega)⟩
 obtain⟨b2,g2,cells2,rw2,c2,hve2,hb2,⟨v0,v1,v2,v3,v4,v5,v6,v7,v8,v9,v10,v11,v12,v13,v14,v15,v16,v17,rfl,hLV,hSV⟩,hcl2,hle2,hld2,hgt2⟩:=hL.at hj
 have gb2:∀ L,(H++L)[b2]?=some ⟨cells2,g2,rw2⟩:=fun L=>old_get hb2 L
 have hzl:=hs2 l (List.mem_of_getElem? hj)
 have eL:atL ls (j:Int)=some l:=by unfold atL;rw[if_pos (by omega),Int.toNat_natCast];exact hj
 rw[mayE_l h0 eC eL,Int.toNat_natCast]
 have p0:(0:Int)≤(j:Int):=by omega
 have p1:(j:Int)<(ls.length:Int):=hk.2
 have f3:¬ (j:Int)<0:=by omega
 have f4:¬ (ls.length:Int)≤(j:Int):=by omega
 have hkind:cells2[j*50]?=some (.int .i64 l.kind):=hgt2 0 (by omega)
 rw[hve2] at hc0
 unfold mayL
 by_cases hkd:l.kind=1
 case neg=>
  rw[if_pos hkd]
  (refine sg (et kd (et kd0 (et (df f1) (et (df f2) (et (df f3) (et (df f4) (et g0 (et q0 (et q1 (et p0 (et p1 (et Int.toNat_natCast (et Nat.zero_add (et Nat.add_zero (et gb1 (et hc0 (et gb2 (et hkind (nf hkd))))))))))))))))))) ?_;try exact⟨⟩)
  trace_state
 rw[if_neg (by simpa using hkd)]
 obtain⟨a0,e0,rfl⟩:=hLV.x.form
 obtain⟨a1,e1,rfl⟩:=hLV.y.form
 obtain⟨a2,e2,rfl⟩:=hLV.ax.form
 obtain⟨a3,e3,rfl⟩:=hLV.ay.form
 obtain⟨a4,e4,rfl⟩:=hLV.sx.form
 obtain⟨a5,e5,rfl⟩:=hLV.sy.form
 obtain⟨a6,e6,rfl⟩:=hLV.turn.form
 obtain⟨a7,e7,rfl⟩:=hLV.opac.form
 obtain⟨a8,e8,rfl⟩:=hLV.remap.form
 obtain⟨a9,e9,rfl⟩:=hLV.mask.form
 have hkN:=keysN_le hzl
 have s0:IntKind.i64.wrap (((l.x.length:Nat):Int)+(l.y.length:Int))=((l.x.length+l.y.length:Nat):Int):=by rw[wi (by omega) (by unfold keysN at hkN;omega)];rfl
 have s1:IntKind.i64.wrap (((l.x.length+l.y.length:Nat):Int)+(l.ax.length:Int))=((l.x.length+l.y.length+l.ax.length:Nat):Int):=by rw[wi (by omega) (by unfold keysN at hkN;omega)];rfl
 have s2:IntKind.i64.wrap (((l.x.length+l.y.length+l.ax.length:Nat):Int)+(l.ay.length:Int))=((l.x.length+l.y.length+l.ax.length+l.ay.length:Nat):Int):=by rw[wi (by omega) (by unfold keysN at hkN;omega)];rfl
 have s3:IntKind.i64.wrap (((l.x.length+l.y.length+l.ax.length+l.ay.length:Nat):Int)+(l.sx.length:Int))=((l.x.length+l.y.length+l.ax.length+l.ay.length+l.sx.length:Nat):Int):=by rw[wi (by omega) (by unfold keysN at hkN;omega)];rfl
 have s4:IntKind.i64.wrap (((l.x.length+l.y.length+l.ax.length+l.ay.length+l.sx.length:Nat):Int)+(l.sy.length:Int))=((l.x.length+l.y.length+l.ax.length+l.ay.length+l.sx.length+l.sy.length:Nat):Int):=by rw[wi (by omega) (by unfold keysN at hkN;omega)];rfl
 have s5:IntKind.i64.wrap (((l.x.length+l.y.length+l.ax.length+l.ay.length+l.sx.length+l.sy.length:Nat):Int)+(l.turn.length:Int))=((l.x.length+l.y.length+l.ax.length+l.ay.length+l.sx.length+l.sy.length+l.turn.length:Nat):Int):=by rw[wi (by omega) (by unfold keysN at hkN;omega)];rfl
 have s6:IntKind.i64.wrap (((l.x.length+l.y.length+l.ax.length+l.ay.length+l.sx.length+l.sy.length+l.turn.length:Nat):Int)+(l.opac.length:Int))=((l.x.length+l.y.length+l.ax.length+l.ay.length+l.sx.length+l.sy.length+l.turn.length+l.opac.length:Nat):Int):=by rw[wi (by omega) (by unfold keysN at hkN;omega)];rfl
 have s7:IntKind.i64.wrap (((l.x.length+l.y.length+l.ax.length+l.ay.length+l.sx.length+l.sy.length+l.turn.length+l.opac.length:Nat):Int)+(l.remap.length:Int))=((l.x.length+l.y.length+l.ax.length+l.ay.length+l.sx.length+l.sy.length+l.turn.length+l.opac.length+l.remap.length:Nat):Int):=by rw[wi (by omega) (by unfold keysN at hkN;omega)];rfl
 have hin:∀ L,(H++L)[b2]?=some ⟨cells2,g2,rw2⟩:=gb2
 simp only[go_sem,Nat.reduceEqDiff,Nat.reduceAdd,Nat.reduceSub,Nat.reduceMul,Nat.reduceLT,Nat.reduceLeDiff,Int.reducePow,Int.reduceBEq,Int.reduceBNe,Int.reduceDiv,Int.reduceMod,Int.reduceEq,Int.reduceLT,Int.reduceLE,Int.reduceAdd,Int.reduceSub,Int.reduceMul,Int.reduceNeg,Int.reduceToNat,Int.reduceTDiv,Int.reduceTMod,↓reduceIte,kd,kd0,df f1,df f2,df f3,df f4,g0,q0,q1,p0,p1,Int.toNat_natCast,Nat.zero_add,Nat.add_zero,gb1,hc0,gb2,hkind,hkd,bne_self_eq_false,hld2]
 by_cases x1:l.parent=-1
 case neg=>
  rw[if_pos (show bareLB ls j l=false by unfold bareLB;rw[bf x1];rfl)]
  simp (maxSteps:=1000000) only [go_sem,Nat.reduceEqDiff,Nat.reduceAdd,Nat.reduceSub,Nat.reduceMul,Nat.reduceLT,Nat.reduceLeDiff,Int.reducePow,Int.reduceBEq,Int.reduceBNe,Int.reduceDiv,Int.reduceMod,Int.reduceEq,Int.reduceLT,Int.reduceLE,Int.reduceAdd,Int.reduceSub,Int.reduceMul,Int.reduceNeg,Int.reduceToNat,Int.reduceTDiv,Int.reduceTMod,↓reduceIte,kd,kd0,nf x1]
 by_cases x2:l.matte=0
 case neg=>
  rw[if_pos (show bareLB ls j l=false by unfold bareLB;rw[bf x2];simp)]
  simp (maxSteps:=1000000) only [go_sem,Nat.reduceEqDiff,Nat.reduceAdd,Nat.reduceSub,Nat.reduceMul,Nat.reduceLT,Nat.reduceLeDiff,Int.reducePow,Int.reduceBEq,Int.reduceBNe,Int.reduceDiv,Int.reduceMod,Int.reduceEq,Int.reduceLT,Int.reduceLE,Int.reduceAdd,Int.reduceSub,Int.reduceMul,Int.reduceNeg,Int.reduceToNat,Int.reduceTDiv,Int.reduceTMod,↓reduceIte,kd,kd0,nt x1,nf x2]
 by_cases x3:l.mask.2.length=0
 case neg=>
  rw[if_pos (show bareLB ls j l=false by unfold bareLB;rw[df x3];simp)]
  simp (maxSteps:=1000000) only [go_sem,Nat.reduceEqDiff,Nat.reduceAdd,Nat.reduceSub,Nat.reduceMul,Nat.reduceLT,Nat.reduceLeDiff,Int.reducePow,Int.reduceBEq,Int.reduceBNe,Int.reduceDiv,Int.reduceMod,Int.reduceEq,Int.reduceLT,Int.reduceLE,Int.reduceAdd,Int.reduceSub,Int.reduceMul,Int.reduceNeg,Int.reduceToNat,Int.reduceTDiv,Int.reduceTMod,↓reduceIte,kd,kd0,nt x1,nt x2,dt (show (0:Int)<(l.mask.2.length:Int) by omega)]
 have x3':=df (show ¬ (0:Int)<(l.mask.2.length:Int) by omega)
 by_cases x4:keysN l=0
 case neg=>
  rw[if_pos (show bareLB ls j l=false by unfold bareLB;rw[df x4];simp)]
  simp (maxSteps:=1000000) only [go_sem,Nat.reduceEqDiff,Nat.reduceAdd,Nat.reduceSub,Nat.reduceMul,Nat.reduceLT,Nat.reduceLeDiff,Int.reducePow,Int.reduceBEq,Int.reduceBNe,Int.reduceDiv,Int.reduceMod,Int.reduceEq,Int.reduceLT,Int.reduceLE,Int.reduceAdd,Int.reduceSub,Int.reduceMul,Int.reduceNeg,Int.reduceToNat,Int.reduceTDiv,Int.reduceTMod,↓reduceIte,kd,kd0,nt x1,nt x2,x3',s0,s1,s2,s3,s4,s5,s6,s7,dt (show (0:Int)<((l.x.length+l.y.length+l.ax.length+l.ay.length+l.sx.length+l.sy.length+l.turn.length+l.opac.length+l.remap.length:Nat):Int) by unfold keysN at x4;omega)]
 have x4':=df (show ¬ (0:Int)<((l.x.length+l.y.length+l.ax.length+l.ay.length+l.sx.length+l.sy.length+l.turn.length+l.opac.length+l.remap.length:Nat):Int) by unfold keysN at x4;omega)
 have wj:IntKind.i64.wrap ((j:Int)+1)=((j+1:Nat):Int):=by rw[wi (by omega) (by omega)];rfl
 have cov:bareLB ls j l=(!(ls.any fun x=>x.parent==(j:Int))&&(matteAt ls (j+1)==0)):=by
  unfold bareLB;rw[bt x1,bt x2,dt x3,dt x4];simp
 by_cases hj1:j+1<ls.length
 rotate_left
 case' neg=>
  have eM:matteAt ls (j+1)=0:=by unfold matteAt;rw[List.getElem?_eq_none (by omega)];rfl
  rw[eM] at cov
  simp (maxSteps:=1000000) only [go_sem,Nat.reduceEqDiff,Nat.reduceAdd,Nat.reduceSub,Nat.reduceMul,Nat.reduceLT,Nat.reduceLeDiff,Int.reducePow,Int.reduceBEq,Int.reduceBNe,Int.reduceDiv,Int.reduceMod,Int.reduceEq,Int.reduceLT,Int.reduceLE,Int.reduceAdd,Int.reduceSub,Int.reduceMul,Int.reduceNeg,Int.reduceToNat,Int.reduceTDiv,Int.reduceTMod,↓reduceIte,kd,kd0,nt x1,nt x2,x3',s0,s1,s2,s3,s4,s5,s6,s7,x4',wj,df (show ¬ ((j+1:Nat):Int)<(ls.length:Int) by omega)]
  have cov:bareLB ls j l = !(ls.any fun x=>x.parent==(j:Int)):=by rw[cov];simp
 rotate_left
 obtain⟨l',hl'⟩:∃ l',ls[j+1]?=some l':=⟨_,List.getElem?_eq_getElem hj1⟩
 obtain⟨b5,g5,cells5,rw5,c5,hve5,hb5,⟨_,_,_,_,_,_,_,_,_,_,_,_,_,_,_,_,_,_,rfl,_⟩,hcl5,hle5,hld5,hgt5⟩:=hL.at hl'
 rw[hve2] at hve5
 obtain⟨rfl,rfl⟩:=sl_inj hve5
 rw[hb2] at hb5
 cases hb5
 have hm5:cells2[(j+1)*50+3]?=some (.int .i64 l'.matte):=hgt5 3 (by omega)
 have eM:matteAt ls (j+1)=l'.matte:=by unfold matteAt;rw[hl'];rfl
 rw[eM] at cov
 have r0:(0:Int)≤((j+1:Nat):Int):=by omega
 have r1:((j+1:Nat):Int)<(ls.length:Int):=by omega
 by_cases x5:l'.matte=0
 rotate_left
 ·rw[if_pos (show bareLB ls j l=false by rw[cov,bf x5];simp)]
  simp (maxSteps:=1000000) only [go_sem,Nat.reduceEqDiff,Nat.reduceAdd,Nat.reduceSub,Nat.reduceMul,Nat.reduceLT,Nat.reduceLeDiff,Int.reducePow,Int.reduceBEq,Int.reduceBNe,Int.reduceDiv,Int.reduceMod,Int.reduceEq,Int.reduceLT,Int.reduceLE,Int.reduceAdd,Int.reduceSub,Int.reduceMul,Int.reduceNeg,Int.reduceToNat,Int.reduceTDiv,Int.reduceTMod,↓reduceIte,kd,kd0,nt x1,nt x2,x3',s0,s1,s2,s3,s4,s5,s6,s7,x4',wj,dt r1,r0,r1,Int.toNat_natCast,Nat.zero_add,Nat.add_zero,gb2,hm5,nf x5]
 rotate_left
 simp (maxSteps:=1000000) only [go_sem,Nat.reduceEqDiff,Nat.reduceAdd,Nat.reduceSub,Nat.reduceMul,Nat.reduceLT,Nat.reduceLeDiff,Int.reducePow,Int.reduceBEq,Int.reduceBNe,Int.reduceDiv,Int.reduceMod,Int.reduceEq,Int.reduceLT,Int.reduceLE,Int.reduceAdd,Int.reduceSub,Int.reduceMul,Int.reduceNeg,Int.reduceToNat,Int.reduceTDiv,Int.reduceTMod,↓reduceIte,kd,kd0,nt x1,nt x2,x3',s0,s1,s2,s3,s4,s5,s6,s7,x4',wj,dt r1,r0,r1,Int.toNat_natCast,Nat.zero_add,Nat.add_zero,gb2,hm5,nt x5]
 have cov:bareLB ls j l = !(ls.any fun x=>x.parent==(j:Int)):=by rw[cov,bt x5,Bool.and_true]
 all_goals
  have oB:Old H (H++[(⟨[.int .i64 d.in_,.int .i64 d.out,sl b1 0 g1 d.comps.length 1],0,true⟩:Blk),⟨lyVs l (.slice a0 l.x.length e0) (.slice a1 l.y.length e1) (.slice a2 l.ax.length e2) (.slice a3 l.ay.length e3) (.slice a4 l.sx.length e4) (.slice a5 l.sy.length e5) (.slice a6 l.turn.length e6) (.slice a7 l.opac.length e7) (.slice a8 l.remap.length e8) (.slice a9 l.mask.2.length e9) v10 v11 v12 v13 v14 v15 v16 v17,0,true⟩]):=Old.app' _ _
  have gB0:(H++[(⟨[.int .i64 d.in_,.int .i64 d.out,sl b1 0 g1 d.comps.length 1],0,true⟩:Blk),⟨lyVs l (.slice a0 l.x.length e0) (.slice a1 l.y.length e1) (.slice a2 l.ax.length e2) (.slice a3 l.ay.length e3) (.slice a4 l.sx.length e4) (.slice a5 l.sy.length e5) (.slice a6 l.turn.length e6) (.slice a7 l.opac.length e7) (.slice a8 l.remap.length e8) (.slice a9 l.mask.2.length e9) v10 v11 v12 v13 v14 v15 v16 v17,0,true⟩])[H.length]?=some ⟨[.int .i64 d.in_,.int .i64 d.out,sl b1 0 g1 d.comps.length 1],0,true⟩:=by rw[hget_app0];rfl
  have gB1:(H++[(⟨[.int .i64 d.in_,.int .i64 d.out,sl b1 0 g1 d.comps.length 1],0,true⟩:Blk),⟨lyVs l (.slice a0 l.x.length e0) (.slice a1 l.y.length e1) (.slice a2 l.ax.length e2) (.slice a3 l.ay.length e3) (.slice a4 l.sx.length e4) (.slice a5 l.sy.length e5) (.slice a6 l.turn.length e6) (.slice a7 l.opac.length e7) (.slice a8 l.remap.length e8) (.slice a9 l.mask.2.length e9) v10 v11 v12 v13 v14 v15 v16 v17,0,true⟩])[H.length+1]?=some ⟨lyVs l (.slice a0 l.x.length e0) (.slice a1 l.y.length e1) (.slice a2 l.ax.length e2) (.slice a3 l.ay.length e3) (.slice a4 l.sx.length e4) (.slice a5 l.sy.length e5) (.slice a6 l.turn.length e6) (.slice a7 l.opac.length e7) (.slice a8 l.remap.length e8) (.slice a9 l.mask.2.length e9) v10 v11 v12 v13 v14 v15 v16 v17,0,true⟩:=by rw[hget_app];rfl
  have lB:(H++[(⟨[.int .i64 d.in_,.int .i64 d.out,sl b1 0 g1 d.comps.length 1],0,true⟩:Blk),⟨lyVs l (.slice a0 l.x.length e0) (.slice a1 l.y.length e1) (.slice a2 l.ax.length e2) (.slice a3 l.ay.length e3) (.slice a4 l.sx.length e4) (.slice a5 l.sy.length e5) (.slice a6 l.turn.length e6) (.slice a7 l.opac.length e7) (.slice a8 l.remap.length e8) (.slice a9 l.mask.2.length e9) v10 v11 v12 v13 v14 v15 v16 v17,0,true⟩]).length=H.length+2:=by simp
  generalize (H++[(⟨[.int .i64 d.in_,.int .i64 d.out,sl b1 0 g1 d.comps.length 1],0,true⟩:Blk),⟨lyVs l (.slice a0 l.x.length e0) (.slice a1 l.y.length e1) (.slice a2 l.ax.length e2) (.slice a3 l.ay.length e3) (.slice a4 l.sx.length e4) (.slice a5 l.sy.length e5) (.slice a6 l.turn.length e6) (.slice a7 l.opac.length e7) (.slice a8 l.remap.length e8) (.slice a9 l.mask.2.length e9) v10 v11 v12 v13 v14 v15 v16 v17,0,true⟩])=B at *
  refine keep (fun r T K D=>D=[]∧Old B K∧B.length≤K.length∧∃ (m:Nat),m+r=ls.length∧(ls.take m).any (fun x=>x.parent==(j:Int))=false∧T 2=.int .i64 (j:Int)∧T 3=ap H.length 0 0∧T 8=sl b2 0 g2 ls.length 50∧T 9=ap (H.length+1) 0 0∧T 137=sl b2 0 g2 ls.length 50∧T 138=.int .i64 (ls.length:Int)∧T 139=.int .i64 (m:Int)) ls.length
   ⟨rfl,Old.refl _,Nat.le_refl _,0,by omega,rfl,by(refine sg trivial ?_;try exact⟨⟩),by(refine sg trivial ?_;try exact⟨⟩),by(refine sg trivial ?_;try exact⟨⟩),by(refine sg trivial ?_;try exact⟨⟩),by(refine sg trivial ?_;try exact⟨⟩),by(refine sg trivial ?_;try exact⟨⟩),by(refine sg trivial ?_;try exact⟨⟩) <;> rfl⟩ ?_
  rintro r T K D ⟨rfl,oK,lK,m,hmr,hany,t2,t3,t8,t9,t137,t138,t139⟩
  have kdK:∀ n,decide (K.length+n<H.length)=false:=fun n=>df (by omega)
  have kdK0:decide (K.length<H.length)=false:=df (by omega)
  by_cases hm0:m<ls.length
  ·obtain⟨x,hx⟩:∃ x,ls[m]?=some x:=⟨_,List.getElem?_eq_getElem hm0⟩
   obtain⟨b6,g6,cells6,rw6,c6,hve6,hb6,⟨_,_,_,_,_,_,_,_,_,_,_,_,_,_,_,_,_,_,rfl,_⟩,hcl6,hle6,hld6,hgt6⟩:=hL.at hx
   rw[hve2] at hve6
   obtain⟨rfl,rfl⟩:=sl_inj hve6
   rw[hb2] at hb6
   cases hb6
   have gk:=oK _ _ (oB _ _ hb2)
   have n0:(0:Int)≤(m:Int):=by omega
   have n1:(m:Int)<(ls.length:Int):=by omega
   have wm:IntKind.i64.wrap ((m:Int)+1)=((m+1:Nat):Int):=by rw[wi (by omega) (by omega)];rfl
   by_cases hp:x.parent=(j:Int)
   ·rw[if_pos (show bareLB ls j l=false by rw[cov,List.any_eq_true.2 ⟨x,List.mem_of_getElem? hx,bt hp⟩];rfl)]
    (refine sg (et t2 (et t3 (et t8 (et t9 (et t137 (et t138 (et t139 (et (dt n1) (et n0 (et n1 (et Int.toNat_natCast (et Nat.zero_add (et gk (et hld6 (et kdK (et kdK0 (bt hp))))))))))))))))) ?_;try exact⟨⟩)
   ·(refine sg (et t2 (et t3 (et t8 (et t9 (et t137 (et t138 (et t139 (et (dt n1) (et n0 (et n1 (et Int.toNat_natCast (et Nat.zero_add (et gk (et hld6 (et kdK (et kdK0 (et (bf hp) wm))))))))))))))))) ?_;try exact⟨⟩)
    exact⟨r - 1,by omega,oK.app _,by omega,m+1,by omega,by rw[take_snoc hx,List.any_append,hany];simp[hp],rfl⟩
  have hml:m=ls.length:=by omega
  rw[show ls.take m=ls by rw[hml,List.take_length]] at hany
  rw[if_neg (show ¬ bareLB ls j l=false by rw[cov,hany];simp)]
  obtain⟨n1,n2⟩:=hr.nest hi hj hkd
  obtain⟨li,hli⟩:∃ li,d.comps[l.comp.toNat]?=some li:=⟨_,List.getElem?_eq_getElem (by omega)⟩
  have hin':inner d.comps l=li:=by unfold inner;rw[hli];rfl
  rw[hin']
  obtain⟨b7,g7,cells7,rw7,cc7,hve7,hb7,⟨lv7,rfl,hL7⟩,hcl7,hle7,hld7,hgt7⟩:=h.at hli
  rw[hve1] at hve7
  obtain⟨rfl,rfl⟩:=sl_inj hve7
  rw[hb1] at hb7
  cases hb7
  have hc7:cells1[l.comp.toNat*1]?=some lv7:=hgt7 0 (by omega)
  obtain⟨hi1,hi2⟩:=hz.c li (List.mem_of_getElem? hli)
  obtain⟨ia,ie,rfl⟩:=hL7.form
  have gk0:=oK _ _ gB0
  have gk1:=oK _ _ gB1
  have gkb:=oK _ _ (oB _ _ hb1)
  have m0:(0:Int)≤l.comp:=by omega
  have y1:IntKind.i64.wrap ((ls.length:Int) - 1)=(ls.length:Int) - 1:=by rw[wi (by omega) (by omega)]
  have y2:IntKind.i64.wrap ((ls.length:Int) - 1+(li.length:Int))=(ls.length:Int) - 1+(li.length:Int):=by rw[wi (by omega) (by omega)]
  by_cases hbig:16<(ls.length:Int) - 1+(li.length:Int)
  ·rw[if_pos hbig]
   (refine sg (et t2 (et t3 (et t8 (et t9 (et t137 (et t138 (et t139 (et (df (show ¬ (m:Int)<(ls.length:Int) by omega)) (et gk0 (et gk1 (et gkb (et m0 (et n2 (et Int.toNat_natCast (et Nat.zero_add (et Nat.add_zero (et hc7 (et y1 (et y2 (dt hbig)))))))))))))))))))) ?_;try exact⟨⟩)
  rw[if_neg hbig]
  (refine sg (et t2 (et t3 (et t8 (et t9 (et t137 (et t138 (et t139 (et (df (show ¬ (m:Int)<(ls.length:Int) by omega)) (et gk0 (et gk1 (et gkb (et m0 (et n2 (et Int.toNat_natCast (et Nat.zero_add (et Nat.add_zero (et hc7 (et y1 (et y2 (df hbig)))))))))))))))))))) ?_;try exact⟨⟩)
  clear t2 t3 t8 t137 t138 t139
  refine keep (fun r T J D=>D=[]∧Old K J∧K.length≤J.length∧∃ (m:Nat),m+r=li.length∧(li.take m).any (fun x=>shortB (cutL x l))=false∧T 9=ap (H.length+1) 0 0∧T 162=.slice ia li.length ie∧T 163=.int .i64 (li.length:Int)∧T 164=.int .i64 (m:Int)) li.length
   ⟨rfl,Old.refl _,Nat.le_refl _,0,by omega,rfl,by(refine sg t9 ?_;try exact⟨⟩),by(refine sg trivial ?_;try exact⟨⟩),by(refine sg trivial ?_;try exact⟨⟩),by(refine sg trivial ?_;try exact⟨⟩) <;> rfl⟩ ?_
  clear t9
  rintro r T J D ⟨rfl,oJ,lJ,q,hqr,hany2,t9,t162,t163,t164⟩
  have kdJ:∀ n,decide (J.length+n<H.length)=false:=fun n=>df (by omega)
  have kdJ0:decide (J.length<H.length)=false:=df (by omega)
  by_cases hq:q<li.length
  ·obtain⟨x,hx⟩:∃ x,li[q]?=some x:=⟨_,List.getElem?_eq_getElem hq⟩
   obtain⟨b6,g6,cells6,rw6,c6,hve6,hb6,⟨w0,w1,w2,w3,w4,w5,w6,w7,w8,w9,w10,w11,w12,w13,w14,w15,w16,w17,rfl,_,_⟩,hcl6,hle6,hld6,hgt6⟩:=hL7.at hx
   rw[hve6] at t162
   have gk:=oJ _ _ (oK _ _ (oB _ _ hb6))
   have gl:=oJ _ _ gk1
   have u0:(0:Int)≤(q:Int):=by omega
   have u1:(q:Int)<(li.length:Int):=by omega
   have wq:IntKind.i64.wrap ((q:Int)+1)=((q+1:Nat):Int):=by rw[wi (by omega) (by omega)];rfl
   (refine sg (et t9 (et t162 (et t163 (et t164 (et (dt u1) (et u0 (et u1 (et Int.toNat_natCast (et Nat.zero_add (et gk (et hld6 (et kdJ (et kdJ0 (old_get gl)))))))))))))) ?_;try exact⟨⟩)
   refine(rinside_ x l w0 w1 w2 w3 w4 w5 w6 w7 w8 w9 w10 w11 w12 w13 w14 w15 w16 w17 _ _ _ _ _ _ _ _ _ _ _ _ _ _ _ _ _ _ _).x ?_
   rintro v H1 W1 ⟨rfl,⟨L,rfl⟩,rfl⟩
   have oV:Old J (J++[(⟨lyVs x w0 w1 w2 w3 w4 w5 w6 w7 w8 w9 w10 w11 w12 w13 w14 w15 w16 w17,0,true⟩:Blk)]++L):=(Old.app' _ _).app _
   have lV:J.length≤(J++[(⟨lyVs x w0 w1 w2 w3 w4 w5 w6 w7 w8 w9 w10 w11 w12 w13 w14 w15 w16 w17,0,true⟩:Blk)]++L).length:=by rw[List.length_append,List.length_append];omega
   generalize J++[(⟨lyVs x w0 w1 w2 w3 w4 w5 w6 w7 w8 w9 w10 w11 w12 w13 w14 w15 w16 w17,0,true⟩:Blk)]++L=V at *
   have kdV:∀ n,decide (V.length+n<H.length)=false:=fun n=>df (by omega)
   have kdV0:decide (V.length<H.length)=false:=df (by omega)
   obtain⟨y,hy⟩:∃ y,cutL x l=y:=⟨_,rfl⟩
   have hsh:(shortB (cutL x l))=(decide (y.out≤y.in_)||!tickB y.in_||!tickB y.out||!tickB y.start):=by rw[hy];rfl
   have fin:shortB (cutL x l)=true→(if (li.any fun x=>shortB (cutL x l))=true then (1:Int) else 0)=1:=fun e=>if_pos (List.any_eq_true.2 ⟨x,List.mem_of_getElem? hx,e⟩)
   have nxt:shortB (cutL x l)=false→(li.take (q+1)).any (fun x=>shortB (cutL x l))=false:=fun e=>by rw[take_snoc hx,List.any_append,hany2];simp[e]
   rw[hy]
   (refine sg (et kdV kdV0) ?_;try exact⟨⟩)
   by_cases h1:y.out≤y.in_
   ·rw[fin (by rw[hsh,dt h1];rfl)]
    (refine sg (et kdV (et kdV0 (et kdJ (et kdJ0 (et Bool.not_true (et Bool.not_false (et t9 (et t162 (et t163 (et t164 (dt h1))))))))))) ?_;try exact⟨⟩)
   (refine sg (et kdV (et kdV0 (df h1))) ?_;try exact⟨⟩)
   refine(rtick27_ y.in_ _).x ?_
   cases h2:tickB y.in_
   ·rw[fin (by rw[hsh,df h1,h2];rfl)]
    (refine sg (et kdV (et kdV0 (et kdJ (et kdJ0 (et Bool.not_true (et Bool.not_false (et (df h1) h2))))))) ?_;try exact⟨⟩)
   (refine sg (et kdV (et kdV0 (et kdJ (et kdJ0 (et Bool.not_true (et Bool.not_false (et (df h1) h2))))))) ?_;try exact⟨⟩)
   refine(rtick27_ y.out _).x ?_
   cases h3:tickB y.out
   ·rw[fin (by rw[hsh,df h1,h2,h3];rfl)]
    (refine sg (et kdV (et kdV0 (et kdJ (et kdJ0 (et Bool.not_true (et Bool.not_false (et (df h1) h3))))))) ?_;try exact⟨⟩)
   (refine sg (et kdV (et kdV0 (et kdJ (et kdJ0 (et Bool.not_true (et Bool.not_false (et (df h1) h3))))))) ?_;try exact⟨⟩)
   refine(rtick27_ y.start _).x ?_
   cases h4:tickB y.start
   ·rw[fin (by rw[hsh,df h1,h2,h3,h4];rfl)]
    (refine sg (et kdV (et kdV0 (et kdJ (et kdJ0 (et Bool.not_true (et Bool.not_false (et (df h1) h4))))))) ?_;try exact⟨⟩)
   (refine sg (et kdV (et kdV0 (et kdJ (et kdJ0 (et Bool.not_true (et Bool.not_false (et (df h1) (et h4 (et t9 (et t162 (et t163 (et t164 wq)))))))))))) ?_;try exact⟨⟩)
   exact⟨r - 1,by omega,(oJ.trans oV).app _,by omega,q+1,by omega,nxt (by rw[hsh,df h1,h2,h3,h4];rfl),hve6.symm,rfl⟩
  have hq:q=li.length:=by omega
  rw[show li.take q=li by rw[hq,List.take_length]] at hany2
  rw[if_neg (by rw[hany2];simp)]
  (refine sg (et t9 (et t162 (et t163 (et t164 (df (show ¬ (q:Int)<(li.length:Int) by omega)))))) ?_;try exact⟨⟩)
end Go.Proofs.YthhbglkokpablaaGreat
/- Comps laid open: what is contained, the walks of bare, May. -/
namespace Go.Proofs.YthhbglkokpablaaGreat
open Go Go.RowKit E
attribute [local irreducible] XRun XOps XCode XCal XLoop XQ SemCall
set_option linter.unusedSimpArgs false
set_option linter.unusedVariables false
theorem any_take {p:Ly→Bool} {ls:List Ly} {i:Nat} {x:Ly} (hx:ls[i]?=some x) (h:(ls.take i).any p=false) (hp:p x=false):(ls.take (i+1)).any p=false:=by
 rw[take_snoc hx,List.any_append,h];simp[hp]
theorem any_at {p:Ly→Bool} {ls:List Ly} {i:Nat} {x:Ly} (hx:ls[i]?=some x) (hp:p x=true):ls.any p=true:=List.any_eq_true.2 ⟨x,List.mem_of_getElem? hx,hp⟩
set_option maxHeartbeats 4000000 in
theorem lIndex_ {n:Nat} {cs:List Value} (p:Ly→Bool) (ls:List Ly) (v:Value) (H:AH) (h:RowOf 50 LyE H v ls) (hf:∀ (x:Ly) (cl:List Value) K,Old H K→LyE K cl x→SemCall Tryz.prog n (.agg cl.toArray::cs) K (.bool (p x)) K []) :
  Cal Tryz.prog 58 [v,.func (.func n) [].toArray cs.toArray] H fun v' H' W=>W=[]∧(∃ L,H'=H++L)∧∃ r,v'=.int .i64 r∧decide (0≤r)=ls.any p:=by
 refine adds_of ?_
 have hln:=h.len
 obtain⟨la,le,hlf⟩:=h.form
 subst hlf
 have kd:∀ n,decide (H.length+n<H.length)=false:=fun n=>df (by omega)
 have kd0:decide (H.length<H.length)=false:=df (by omega)
 refine XCal.of hm Tryz.func58 rfl (fun xs w=>Tryz.call58 xs w) Tryz.ntmps58 Tryz.results58 rfl ?_
 (refine sg (et kd kd0) ?_;try exact⟨⟩)
 refine keep (fun r T K D=>D=[]∧K=H∧∃ (i:Nat),i+r=ls.length∧(ls.take i).any p=false∧T 0=.slice la ls.length le∧T 1=.func (.func n) [].toArray cs.toArray∧T 7=.int .i64 (ls.length:Int)∧T 8=.int .i64 (i:Int)) ls.length
  ⟨rfl,rfl,0,by omega,rfl,by(refine sg trivial ?_;try exact⟨⟩),by(refine sg trivial ?_;try exact⟨⟩),by(refine sg trivial ?_;try exact⟨⟩),by(refine sg trivial ?_;try exact⟨⟩) <;> rfl⟩ ?_
 rintro r T K D ⟨rfl,hK,i,hir,ha,t0,t1,t7,t8⟩
 subst hK
 by_cases hi:i<ls.length
 ·obtain⟨x,hx⟩:∃ x,ls[i]?=some x:=⟨_,List.getElem?_eq_getElem hi⟩
  obtain⟨b,g,cells,rw_,c,hve,hb,hc,hcl,hle,hld,hgt⟩:=h.at hx
  rw[hve] at t0
  have q0:(0:Int)≤(i:Int):=by omega
  have q1:(i:Int)<(ls.length:Int):=by omega
  have w1:IntKind.i64.wrap ((i:Int)+1)=((i+1:Nat):Int):=by rw[wi (by omega) (by omega)];rfl
  have c1:=hf x c K (Old.refl _) hc
  (refine sg (et t0 (et t1 (et t7 (et t8 (et (dt q1) (et q0 (et q1 (et Int.toNat_natCast (et Nat.zero_add (et hb hld)))))))))) ?_;try exact⟨⟩)
  refine c1.x ?_
  cases hp:p x
  ·(refine sg (et t0 (et t1 (et t7 (et t8 (et hp w1))))) ?_;try exact⟨⟩)
   exact⟨r - 1,by omega,i+1,by omega,any_take hx ha hp,hve.symm,rfl⟩
  ·(refine sg (et t0 (et t1 (et t7 (et t8 hp)))) ?_;try exact⟨⟩)
   exact⟨_,rfl,by rw[any_at hx hp];simp⟩
 ·have hi:i=ls.length:=by omega
  rw[show ls.take i=ls by rw[hi,List.take_length]] at ha
  (refine sg (et t0 (et t1 (et t7 (et t8 (df (show ¬ (i:Int)<(ls.length:Int) by omega)))))) ?_;try exact⟨⟩)
  exact⟨_,rfl,by rw[ha];rfl⟩
theorem lContains_ {n:Nat} {cs:List Value} (p:Ly→Bool) (ls:List Ly) (v:Value) (H:AH) (h:RowOf 50 LyE H v ls) (hf:∀ (x:Ly) (cl:List Value) K,Old H K→LyE K cl x→SemCall Tryz.prog n (.agg cl.toArray::cs) K (.bool (p x)) K []) :
  SemCall Tryz.prog 28 [v,.func (.func n) [].toArray cs.toArray] H (.bool (ls.any p)) H []:=by
 refine pure_of ?_ rfl
 obtain⟨la,le,hlf⟩:=h.form
 subst hlf
 refine XCal.of hm Tryz.func28 rfl (fun xs w=>Tryz.call28 xs w) Tryz.ntmps28 Tryz.results28 rfl ?_
 (refine sg trivial ?_;try exact⟨⟩)
 refine(lIndex_ p ls _ H h hf).x ?_
 rintro v' H' W ⟨rfl,⟨L,rfl⟩,r,rfl,hr⟩
 rw[← hr]
 (refine sg trivial ?_;try exact⟨⟩)
 trace_state
theorem bareF_ (k:Int) (c:Nat) (x:Ly) (cl:List Value) (K:AH) (hx:LyE K cl x) (hk:K[c]?=some ⟨[.int .i64 k],0,true⟩):SemCall Tryz.prog 56 [.agg cl.toArray,ap c 0 0] K (.bool (x.parent==k)) K []:=by
 refine pure_of ?_ rfl
 obtain⟨v0,v1,v2,v3,v4,v5,v6,v7,v8,v9,v10,v11,v12,v13,v14,v15,v16,v17,rfl,_⟩:=hx
 have kd0:decide (K.length<K.length)=false:=df (by omega)
 refine XCal.of hm Tryz.func56 rfl (fun xs w=>Tryz.call56 xs w) Tryz.ntmps56 Tryz.results56 rfl ?_
 (refine sg (et kd0 (old_get hk)) ?_;try exact⟨⟩)
set_option maxRecDepth 100000 in
set_option maxHeartbeats 8000000 in
theorem bare_ (ls:List Ly) (k:Nat) (l:Ly) (la:Option Addr) (le:Nat) (H:AH) (hL:Lys H (.slice la ls.length le) ls) (hj:ls[k]?=some l) (hzl:LyS l) (hs1:ls.length≤1000):SemCall Tryz.prog 27 [.agg [.slice la ls.length le].toArray,.int .i64 (k:Int)] H (.bool (bareLB ls k l)) H []:=by
 refine pure_of ?_ rfl
 have kd:∀ n,decide (H.length+n<H.length)=false:=fun n=>df (by omega)
 have kd0:decide (H.length<H.length)=false:=df (by omega)
 have hjl:=(List.getElem?_eq_some_iff.1 hj).1
 obtain⟨b2,g2,cells2,rw2,c2,hve2,hb2,⟨v0,v1,v2,v3,v4,v5,v6,v7,v8,v9,v10,v11,v12,v13,v14,v15,v16,v17,rfl,hLV,hSV⟩,hcl2,hle2,hld2,hgt2⟩:=hL.at hj
 have gb2:∀ L,(H++L)[b2]?=some ⟨cells2,g2,rw2⟩:=fun L=>old_get hb2 L
 have p0:(0:Int)≤(k:Int):=by omega
 have p1:(k:Int)<(ls.length:Int):=by omega
 obtain⟨a0,e0,rfl⟩:=hLV.x.form
 obtain⟨a1,e1,rfl⟩:=hLV.y.form
 obtain⟨a2,e2,rfl⟩:=hLV.ax.form
 obtain⟨a3,e3,rfl⟩:=hLV.ay.form
 obtain⟨a4,e4,rfl⟩:=hLV.sx.form
 obtain⟨a5,e5,rfl⟩:=hLV.sy.form
 obtain⟨a6,e6,rfl⟩:=hLV.turn.form
 obtain⟨a7,e7,rfl⟩:=hLV.opac.form
 obtain⟨a8,e8,rfl⟩:=hLV.remap.form
 obtain⟨a9,e9,rfl⟩:=hLV.mask.form
 have hkN:=keysN_le hzl
 have s0:IntKind.i64.wrap (((l.x.length:Nat):Int)+(l.y.length:Int))=((l.x.length+l.y.length:Nat):Int):=by rw[wi (by omega) (by unfold keysN at hkN;omega)];rfl
 have s1:IntKind.i64.wrap (((l.x.length+l.y.length:Nat):Int)+(l.ax.length:Int))=((l.x.length+l.y.length+l.ax.length:Nat):Int):=by rw[wi (by omega) (by unfold keysN at hkN;omega)];rfl
 have s2:IntKind.i64.wrap (((l.x.length+l.y.length+l.ax.length:Nat):Int)+(l.ay.length:Int))=((l.x.length+l.y.length+l.ax.length+l.ay.length:Nat):Int):=by rw[wi (by omega) (by unfold keysN at hkN;omega)];rfl
 have s3:IntKind.i64.wrap (((l.x.length+l.y.length+l.ax.length+l.ay.length:Nat):Int)+(l.sx.length:Int))=((l.x.length+l.y.length+l.ax.length+l.ay.length+l.sx.length:Nat):Int):=by rw[wi (by omega) (by unfold keysN at hkN;omega)];rfl
 have s4:IntKind.i64.wrap (((l.x.length+l.y.length+l.ax.length+l.ay.length+l.sx.length:Nat):Int)+(l.sy.length:Int))=((l.x.length+l.y.length+l.ax.length+l.ay.length+l.sx.length+l.sy.length:Nat):Int):=by rw[wi (by omega) (by unfold keysN at hkN;omega)];rfl
 have s5:IntKind.i64.wrap (((l.x.length+l.y.length+l.ax.length+l.ay.length+l.sx.length+l.sy.length:Nat):Int)+(l.turn.length:Int))=((l.x.length+l.y.length+l.ax.length+l.ay.length+l.sx.length+l.sy.length+l.turn.length:Nat):Int):=by rw[wi (by omega) (by unfold keysN at hkN;omega)];rfl
 have s6:IntKind.i64.wrap (((l.x.length+l.y.length+l.ax.length+l.ay.length+l.sx.length+l.sy.length+l.turn.length:Nat):Int)+(l.opac.length:Int))=((l.x.length+l.y.length+l.ax.length+l.ay.length+l.sx.length+l.sy.length+l.turn.length+l.opac.length:Nat):Int):=by rw[wi (by omega) (by unfold keysN at hkN;omega)];rfl
 have s7:IntKind.i64.wrap (((l.x.length+l.y.length+l.ax.length+l.ay.length+l.sx.length+l.sy.length+l.turn.length+l.opac.length:Nat):Int)+(l.remap.length:Int))=((l.x.length+l.y.length+l.ax.length+l.ay.length+l.sx.length+l.sy.length+l.turn.length+l.opac.length+l.remap.length:Nat):Int):=by rw[wi (by omega) (by unfold keysN at hkN;omega)];rfl
 have wj:IntKind.i64.wrap ((k:Int)+1)=((k+1:Nat):Int):=by rw[wi (by omega) (by omega)];rfl
 rw[hve2] at hL ⊢
 refine XCal.of hm Tryz.func27 rfl (fun xs w=>Tryz.call27 xs w) Tryz.ntmps27 Tryz.results27 rfl ?_
 simp (maxSteps:=1000000) only [go_sem,Nat.reduceEqDiff,Nat.reduceAdd,Nat.reduceSub,Nat.reduceMul,Nat.reduceLT,Nat.reduceLeDiff,Int.reducePow,Int.reduceBEq,Int.reduceBNe,Int.reduceDiv,Int.reduceMod,Int.reduceEq,Int.reduceLT,Int.reduceLE,Int.reduceAdd,Int.reduceSub,Int.reduceMul,Int.reduceNeg,Int.reduceToNat,Int.reduceTDiv,Int.reduceTMod,↓reduceIte,kd,kd0,p0,p1,Int.toNat_natCast,Nat.zero_add,Nat.add_zero,gb2,hld2,s0,s1,s2,s3,s4,s5,s6,s7]
 refine(lContains_ (n:=56) (cs:=[ap (H.length+1) 0 0]) (fun x=>x.parent==(k:Int)) ls _ _ (hL.old LyE.m (Old.app' _ _)) (fun x cl K o hx=>bareF_ (k:Int) (H.length+1) x cl K hx (o _ _ (by rw[hget_app];rfl)))).x ?_
 obtain⟨anyP,hanyP⟩:∃ q,q=ls.any (fun x=>x.parent==(k:Int)):=⟨_,rfl⟩
 rw[← hanyP]
 have hx1:(matteAt ls (k+1)==0) = !(matteAt ls (k+1) != 0):=by simp[bne]
 have eB:bareLB ls k l=((((((l.parent==-1)&&decide (keysN l=0))&&decide (l.mask.2.length=0))&&(l.matte==0))&&!anyP)&&!(matteAt ls (k+1) != 0)):=by unfold bareLB;rw[← hanyP,hx1]
 have hkz:decide (keysN l=0)=(((l.x.length+l.y.length+l.ax.length+l.ay.length+l.sx.length+l.sy.length+l.turn.length+l.opac.length+l.remap.length:Nat):Int)==0):=by
  unfold keysN
  by_cases e:l.x.length+l.y.length+l.ax.length+l.ay.length+l.sx.length+l.sy.length+l.turn.length+l.opac.length+l.remap.length=0
  ·rw[dt e,e];rfl
  ·rw[df e,bf (by omega)]
 have hmz:decide (l.mask.2.length=0)=((l.mask.2.length:Int)==0):=by
  by_cases e:l.mask.2.length=0
  ·rw[dt e,e];rfl
  ·rw[df e,bf (by omega)]
 by_cases hj1:k+1<ls.length
 ·obtain⟨l',hl'⟩:∃ l',ls[k+1]?=some l':=⟨_,List.getElem?_eq_getElem hj1⟩
  obtain⟨b5,g5,cells5,rw5,c5,hve5,hb5,⟨_,_,_,_,_,_,_,_,_,_,_,_,_,_,_,_,_,_,rfl,_⟩,hcl5,hle5,hld5,hgt5⟩:=hL.at hl'
  obtain⟨rfl,rfl⟩:=sl_inj hve5
  rw[hb2] at hb5
  cases hb5
  have hm5:cells2[(k+1)*50+3]?=some (.int .i64 l'.matte):=hgt5 3 (by omega)
  have eM:matteAt ls (k+1)=l'.matte:=by unfold matteAt;rw[hl'];rfl
  have r0:(0:Int)≤((k+1:Nat):Int):=by omega
  have r1:((k+1:Nat):Int)<(ls.length:Int):=by omega
  rw[eB,eM,hkz,hmz]
  simp (maxSteps:=1000000) only [go_sem,Nat.reduceEqDiff,Nat.reduceAdd,Nat.reduceSub,Nat.reduceMul,Nat.reduceLT,Nat.reduceLeDiff,Int.reducePow,Int.reduceBEq,Int.reduceBNe,Int.reduceDiv,Int.reduceMod,Int.reduceEq,Int.reduceLT,Int.reduceLE,Int.reduceAdd,Int.reduceSub,Int.reduceMul,Int.reduceNeg,Int.reduceToNat,Int.reduceTDiv,Int.reduceTMod,↓reduceIte,kd,kd0,wj,dt r1,r0,r1,Int.toNat_natCast,Nat.zero_add,Nat.add_zero,gb2,hm5]
  cases h1:(l.parent==-1)
  ·simp (maxSteps:=1000000) only [go_sem,Nat.reduceEqDiff,Nat.reduceAdd,Nat.reduceSub,Nat.reduceMul,Nat.reduceLT,Nat.reduceLeDiff,Int.reducePow,Int.reduceBEq,Int.reduceBNe,Int.reduceDiv,Int.reduceMod,Int.reduceEq,Int.reduceLT,Int.reduceLE,Int.reduceAdd,Int.reduceSub,Int.reduceMul,Int.reduceNeg,Int.reduceToNat,Int.reduceTDiv,Int.reduceTMod,↓reduceIte,h1,kd,kd0,bne_self_eq_false]
  simp (maxSteps:=1000000) only [go_sem,Nat.reduceEqDiff,Nat.reduceAdd,Nat.reduceSub,Nat.reduceMul,Nat.reduceLT,Nat.reduceLeDiff,Int.reducePow,Int.reduceBEq,Int.reduceBNe,Int.reduceDiv,Int.reduceMod,Int.reduceEq,Int.reduceLT,Int.reduceLE,Int.reduceAdd,Int.reduceSub,Int.reduceMul,Int.reduceNeg,Int.reduceToNat,Int.reduceTDiv,Int.reduceTMod,↓reduceIte,h1,kd,kd0,bne_self_eq_false]
  cases h2:(((l.x.length+l.y.length+l.ax.length+l.ay.length+l.sx.length+l.sy.length+l.turn.length+l.opac.length+l.remap.length:Nat):Int)==0)
  ·simp (maxSteps:=1000000) only [go_sem,Nat.reduceEqDiff,Nat.reduceAdd,Nat.reduceSub,Nat.reduceMul,Nat.reduceLT,Nat.reduceLeDiff,Int.reducePow,Int.reduceBEq,Int.reduceBNe,Int.reduceDiv,Int.reduceMod,Int.reduceEq,Int.reduceLT,Int.reduceLE,Int.reduceAdd,Int.reduceSub,Int.reduceMul,Int.reduceNeg,Int.reduceToNat,Int.reduceTDiv,Int.reduceTMod,↓reduceIte,h1,h2,kd,kd0,bne_self_eq_false]
  simp (maxSteps:=1000000) only [go_sem,Nat.reduceEqDiff,Nat.reduceAdd,Nat.reduceSub,Nat.reduceMul,Nat.reduceLT,Nat.reduceLeDiff,Int.reducePow,Int.reduceBEq,Int.reduceBNe,Int.reduceDiv,Int.reduceMod,Int.reduceEq,Int.reduceLT,Int.reduceLE,Int.reduceAdd,Int.reduceSub,Int.reduceMul,Int.reduceNeg,Int.reduceToNat,Int.reduceTDiv,Int.reduceTMod,↓reduceIte,h1,h2,kd,kd0,bne_self_eq_false]
  refine(empty_ l.mask.1 l.mask.2 _ _ (hLV.mask.app _)).x ?_
  cases h3:((l.mask.2.length:Int)==0)
  ·simp (maxSteps:=1000000) only [go_sem,Nat.reduceEqDiff,Nat.reduceAdd,Nat.reduceSub,Nat.reduceMul,Nat.reduceLT,Nat.reduceLeDiff,Int.reducePow,Int.reduceBEq,Int.reduceBNe,Int.reduceDiv,Int.reduceMod,Int.reduceEq,Int.reduceLT,Int.reduceLE,Int.reduceAdd,Int.reduceSub,Int.reduceMul,Int.reduceNeg,Int.reduceToNat,Int.reduceTDiv,Int.reduceTMod,↓reduceIte,h1,h2,h3,kd,kd0,bne_self_eq_false]
  simp (maxSteps:=1000000) only [go_sem,Nat.reduceEqDiff,Nat.reduceAdd,Nat.reduceSub,Nat.reduceMul,Nat.reduceLT,Nat.reduceLeDiff,Int.reducePow,Int.reduceBEq,Int.reduceBNe,Int.reduceDiv,Int.reduceMod,Int.reduceEq,Int.reduceLT,Int.reduceLE,Int.reduceAdd,Int.reduceSub,Int.reduceMul,Int.reduceNeg,Int.reduceToNat,Int.reduceTDiv,Int.reduceTMod,↓reduceIte,h1,h2,h3,kd,kd0,bne_self_eq_false]
  cases h4:(l.matte==0)
  ·simp (maxSteps:=1000000) only [go_sem,Nat.reduceEqDiff,Nat.reduceAdd,Nat.reduceSub,Nat.reduceMul,Nat.reduceLT,Nat.reduceLeDiff,Int.reducePow,Int.reduceBEq,Int.reduceBNe,Int.reduceDiv,Int.reduceMod,Int.reduceEq,Int.reduceLT,Int.reduceLE,Int.reduceAdd,Int.reduceSub,Int.reduceMul,Int.reduceNeg,Int.reduceToNat,Int.reduceTDiv,Int.reduceTMod,↓reduceIte,h1,h2,h3,h4,kd,kd0,bne_self_eq_false]
  simp (maxSteps:=1000000) only [go_sem,Nat.reduceEqDiff,Nat.reduceAdd,Nat.reduceSub,Nat.reduceMul,Nat.reduceLT,Nat.reduceLeDiff,Int.reducePow,Int.reduceBEq,Int.reduceBNe,Int.reduceDiv,Int.reduceMod,Int.reduceEq,Int.reduceLT,Int.reduceLE,Int.reduceAdd,Int.reduceSub,Int.reduceMul,Int.reduceNeg,Int.reduceToNat,Int.reduceTDiv,Int.reduceTMod,↓reduceIte,h1,h2,h3,h4,kd,kd0,bne_self_eq_false]
  cases h5:anyP
  rotate_left
  ·simp (maxSteps:=1000000) only [go_sem,Nat.reduceEqDiff,Nat.reduceAdd,Nat.reduceSub,Nat.reduceMul,Nat.reduceLT,Nat.reduceLeDiff,Int.reducePow,Int.reduceBEq,Int.reduceBNe,Int.reduceDiv,Int.reduceMod,Int.reduceEq,Int.reduceLT,Int.reduceLE,Int.reduceAdd,Int.reduceSub,Int.reduceMul,Int.reduceNeg,Int.reduceToNat,Int.reduceTDiv,Int.reduceTMod,↓reduceIte,h1,h2,h3,h4,h5,kd,kd0,bne_self_eq_false]
  simp (maxSteps:=1000000) only [go_sem,Nat.reduceEqDiff,Nat.reduceAdd,Nat.reduceSub,Nat.reduceMul,Nat.reduceLT,Nat.reduceLeDiff,Int.reducePow,Int.reduceBEq,Int.reduceBNe,Int.reduceDiv,Int.reduceMod,Int.reduceEq,Int.reduceLT,Int.reduceLE,Int.reduceAdd,Int.reduceSub,Int.reduceMul,Int.reduceNeg,Int.reduceToNat,Int.reduceTDiv,Int.reduceTMod,↓reduceIte,h1,h2,h3,h4,h5,kd,kd0,bne_self_eq_false]
 ·have eM:matteAt ls (k+1)=0:=by unfold matteAt;rw[List.getElem?_eq_none (by omega)];rfl
  rw[eB,eM,hkz,hmz]
  simp (maxSteps:=1000000) only [go_sem,Nat.reduceEqDiff,Nat.reduceAdd,Nat.reduceSub,Nat.reduceMul,Nat.reduceLT,Nat.reduceLeDiff,Int.reducePow,Int.reduceBEq,Int.reduceBNe,Int.reduceDiv,Int.reduceMod,Int.reduceEq,Int.reduceLT,Int.reduceLE,Int.reduceAdd,Int.reduceSub,Int.reduceMul,Int.reduceNeg,Int.reduceToNat,Int.reduceTDiv,Int.reduceTMod,↓reduceIte,kd,kd0,wj,df (show ¬ ((k+1:Nat):Int)<(ls.length:Int) by omega)]
  cases h1:(l.parent==-1)
  ·simp (maxSteps:=1000000) only [go_sem,Nat.reduceEqDiff,Nat.reduceAdd,Nat.reduceSub,Nat.reduceMul,Nat.reduceLT,Nat.reduceLeDiff,Int.reducePow,Int.reduceBEq,Int.reduceBNe,Int.reduceDiv,Int.reduceMod,Int.reduceEq,Int.reduceLT,Int.reduceLE,Int.reduceAdd,Int.reduceSub,Int.reduceMul,Int.reduceNeg,Int.reduceToNat,Int.reduceTDiv,Int.reduceTMod,↓reduceIte,h1,kd,kd0,bne_self_eq_false]
  simp (maxSteps:=1000000) only [go_sem,Nat.reduceEqDiff,Nat.reduceAdd,Nat.reduceSub,Nat.reduceMul,Nat.reduceLT,Nat.reduceLeDiff,Int.reducePow,Int.reduceBEq,Int.reduceBNe,Int.reduceDiv,Int.reduceMod,Int.reduceEq,Int.reduceLT,Int.reduceLE,Int.reduceAdd,Int.reduceSub,Int.reduceMul,Int.reduceNeg,Int.reduceToNat,Int.reduceTDiv,Int.reduceTMod,↓reduceIte,h1,kd,kd0,bne_self_eq_false]
  cases h2:(((l.x.length+l.y.length+l.ax.length+l.ay.length+l.sx.length+l.sy.length+l.turn.length+l.opac.length+l.remap.length:Nat):Int)==0)
  ·simp (maxSteps:=1000000) only [go_sem,Nat.reduceEqDiff,Nat.reduceAdd,Nat.reduceSub,Nat.reduceMul,Nat.reduceLT,Nat.reduceLeDiff,Int.reducePow,Int.reduceBEq,Int.reduceBNe,Int.reduceDiv,Int.reduceMod,Int.reduceEq,Int.reduceLT,Int.reduceLE,Int.reduceAdd,Int.reduceSub,Int.reduceMul,Int.reduceNeg,Int.reduceToNat,Int.reduceTDiv,Int.reduceTMod,↓reduceIte,h1,h2,kd,kd0,bne_self_eq_false]
  simp (maxSteps:=1000000) only [go_sem,Nat.reduceEqDiff,Nat.reduceAdd,Nat.reduceSub,Nat.reduceMul,Nat.reduceLT,Nat.reduceLeDiff,Int.reducePow,Int.reduceBEq,Int.reduceBNe,Int.reduceDiv,Int.reduceMod,Int.reduceEq,Int.reduceLT,Int.reduceLE,Int.reduceAdd,Int.reduceSub,Int.reduceMul,Int.reduceNeg,Int.reduceToNat,Int.reduceTDiv,Int.reduceTMod,↓reduceIte,h1,h2,kd,kd0,bne_self_eq_false]
  refine(empty_ l.mask.1 l.mask.2 _ _ (hLV.mask.app _)).x ?_
  cases h3:((l.mask.2.length:Int)==0)
  ·simp (maxSteps:=1000000) only [go_sem,Nat.reduceEqDiff,Nat.reduceAdd,Nat.reduceSub,Nat.reduceMul,Nat.reduceLT,Nat.reduceLeDiff,Int.reducePow,Int.reduceBEq,Int.reduceBNe,Int.reduceDiv,Int.reduceMod,Int.reduceEq,Int.reduceLT,Int.reduceLE,Int.reduceAdd,Int.reduceSub,Int.reduceMul,Int.reduceNeg,Int.reduceToNat,Int.reduceTDiv,Int.reduceTMod,↓reduceIte,h1,h2,h3,kd,kd0,bne_self_eq_false]
  simp (maxSteps:=1000000) only [go_sem,Nat.reduceEqDiff,Nat.reduceAdd,Nat.reduceSub,Nat.reduceMul,Nat.reduceLT,Nat.reduceLeDiff,Int.reducePow,Int.reduceBEq,Int.reduceBNe,Int.reduceDiv,Int.reduceMod,Int.reduceEq,Int.reduceLT,Int.reduceLE,Int.reduceAdd,Int.reduceSub,Int.reduceMul,Int.reduceNeg,Int.reduceToNat,Int.reduceTDiv,Int.reduceTMod,↓reduceIte,h1,h2,h3,kd,kd0,bne_self_eq_false]
  cases h4:(l.matte==0)
  ·simp (maxSteps:=1000000) only [go_sem,Nat.reduceEqDiff,Nat.reduceAdd,Nat.reduceSub,Nat.reduceMul,Nat.reduceLT,Nat.reduceLeDiff,Int.reducePow,Int.reduceBEq,Int.reduceBNe,Int.reduceDiv,Int.reduceMod,Int.reduceEq,Int.reduceLT,Int.reduceLE,Int.reduceAdd,Int.reduceSub,Int.reduceMul,Int.reduceNeg,Int.reduceToNat,Int.reduceTDiv,Int.reduceTMod,↓reduceIte,h1,h2,h3,h4,kd,kd0,bne_self_eq_false]
  simp (maxSteps:=1000000) only [go_sem,Nat.reduceEqDiff,Nat.reduceAdd,Nat.reduceSub,Nat.reduceMul,Nat.reduceLT,Nat.reduceLeDiff,Int.reducePow,Int.reduceBEq,Int.reduceBNe,Int.reduceDiv,Int.reduceMod,Int.reduceEq,Int.reduceLT,Int.reduceLE,Int.reduceAdd,Int.reduceSub,Int.reduceMul,Int.reduceNeg,Int.reduceToNat,Int.reduceTDiv,Int.reduceTMod,↓reduceIte,h1,h2,h3,h4,kd,kd0,bne_self_eq_false]
  cases h5:anyP
  all_goals
   simp (maxSteps:=1000000) only [go_sem,Nat.reduceEqDiff,Nat.reduceAdd,Nat.reduceSub,Nat.reduceMul,Nat.reduceLT,Nat.reduceLeDiff,Int.reducePow,Int.reduceBEq,Int.reduceBNe,Int.reduceDiv,Int.reduceMod,Int.reduceEq,Int.reduceLT,Int.reduceLE,Int.reduceAdd,Int.reduceSub,Int.reduceMul,Int.reduceNeg,Int.reduceToNat,Int.reduceTDiv,Int.reduceTMod,↓reduceIte,h1,h2,h3,h4,h5,kd,kd0,bne_self_eq_false]
end Go.Proofs.YthhbglkokpablaaGreat
/- Comps laid open: the walk of May (printed by genLay9.py). -/
namespace Go.Proofs.YthhbglkokpablaaGreat
open Go Go.RowKit E
attribute [local irreducible] XRun XOps XCode XCal XLoop XQ SemCall
set_option linter.unusedSimpArgs false
set_option linter.unusedVariables false
set_option maxHeartbeats 4000000 in
theorem mayF_ (l:Ly) (u0 u1 u2 u3 u4 u5 u6 u7 u8 u9 u10 u11 u12 u13 u14 u15 u16 u17:Value) (c:Nat) (x:Ly) (cl:List Value) (K:AH) (hx:LyE K cl x) (hk:K[c]?=some ⟨lyVs l u0 u1 u2 u3 u4 u5 u6 u7 u8 u9 u10 u11 u12 u13 u14 u15 u16 u17,0,true⟩):SemCall Tryz.prog 29 [.agg cl.toArray,ap c 0 0] K (.bool (shortB (cutL x l))) K []:=by
 refine pure_of ?_ rfl
 obtain⟨v0,v1,v2,v3,v4,v5,v6,v7,v8,v9,v10,v11,v12,v13,v14,v15,v16,v17,rfl,_⟩:=hx
 have kd:∀ n,decide (K.length+n<K.length)=false:=fun n=>df (by omega)
 have kd0:decide (K.length<K.length)=false:=df (by omega)
 refine XCal.of hm Tryz.func29 rfl (fun xs w=>Tryz.call29 xs w) Tryz.ntmps29 Tryz.results29 rfl ?_
 (refine sg (et kd (et kd0 (old_get hk))) ?_;try exact⟨⟩)
 refine(icut_ x l v0 v1 v2 v3 v4 v5 v6 v7 v8 v9 v10 v11 v12 v13 v14 v15 v16 v17 u0 u1 u2 u3 u4 u5 u6 u7 u8 u9 u10 u11 u12 u13 u14 u15 u16 u17 _).x ?_
 rintro v H1 W1 ⟨rfl,⟨L,rfl⟩,rfl⟩
 (refine sg (et kd kd0) ?_;try exact⟨⟩)
 refine(ishort_ (cutL x l) v0 v1 v2 v3 v4 v5 v6 v7 v8 v9 v10 v11 v12 v13 v14 v15 v16 v17 _).x ?_
 (refine sg (et kd kd0) ?_;try exact⟨⟩)
set_option maxRecDepth 100000 in
set_option maxHeartbeats 8000000 in
theorem may_ (d:Dc) (cv:Value) (c k:Int) (H:AH) (h:Cos H cv d.comps) (hz:DcS d):SemCall Tryz.prog 14 [dcV d cv,.int .i64 c,.int .i64 k] H (.int .i64 (mayE d c k)) H []:=by
 refine pure_of ?_ rfl
 have kd:∀ n,decide (H.length+n<H.length)=false:=fun n=>df (by omega)
 have kd0:decide (H.length<H.length)=false:=df (by omega)
 have hln:=h.len
 have hn0:=hz.n
 obtain⟨ca,ce,hcf⟩:=h.form
 subst hcf
 have g0:∀ L,(H++(⟨[.int .i64 d.in_,.int .i64 d.out,.slice ca d.comps.length ce],0,true⟩:Blk)::L)[H.length]?=some ⟨[.int .i64 d.in_,.int .i64 d.out,.slice ca d.comps.length ce],0,true⟩:=fun L=>by rw[hget_app0];rfl
 refine XCal.of hm Tryz.func14 rfl (fun xs w=>Tryz.call14 xs w) Tryz.ntmps14 Tryz.results14 rfl ?_
 (refine sg (et kd kd0) ?_;try exact⟨⟩)
 have c1:=fun L=>dright_ d _ (H++L) (h.old CoE.m (Old.app' _ L))
 refine(c1 _).x ?_
 by_cases h0:rightE d=0
 case neg=>
  rw[mayE_r h0]
  (refine sg (et kd (et kd0 (nf h0))) ?_;try exact⟨⟩)
 have hr:=right_iff h0
 (refine sg (et kd (et kd0 (et (nt h0) g0))) ?_;try exact⟨⟩)
 by_cases hc:0≤c∧c<(d.comps.length:Int)
 case neg=>
  have e:atC d.comps c=none:=by
   unfold atC
   by_cases e:0≤c
   ·rw[if_pos e];exact List.getElem?_eq_none (by omega)
   ·rw[if_neg e]
  rw[mayE_c h0 e]
  by_cases e2:c<0
  ·(refine sg (et kd (et kd0 (et (dt e2) g0))) ?_;try exact⟨⟩)
  ·(refine sg (et kd (et kd0 (et (df e2) (et g0 (dt (show (d.comps.length:Int)≤c by omega)))))) ?_;try exact⟨⟩)
 obtain⟨i,rfl⟩:∃ i:Nat,c=(i:Int):=⟨c.toNat,by omega⟩
 obtain⟨ls,hi⟩:∃ ls,d.comps[i]?=some ls:=⟨_,List.getElem?_eq_getElem (by omega)⟩
 obtain⟨b1,g1,cells1,rw1,cc,hve1,hb1,⟨lv,rfl,hL⟩,hcl1,hle1,hld1,hgt1⟩:=h.at hi
 have hc0:cells1[i*1]?=some lv:=hgt1 0 (by omega)
 have gb1:∀ L,(H++L)[b1]?=some ⟨cells1,g1,rw1⟩:=fun L=>old_get hb1 L
 have hLl:=hL.len
 obtain⟨hs1,hs2⟩:=hz.c ls (List.mem_of_getElem? hi)
 obtain⟨la,le,rfl⟩:=hL.form
 have eC:atC d.comps (i:Int)=some ls:=by unfold atC;rw[if_pos (by omega),Int.toNat_natCast];exact hi
 rw[hve1] at g0 ⊢
 have q0:(0:Int)≤(i:Int):=by omega
 have q1:(i:Int)<(d.comps.length:Int):=hc.2
 have f1:¬ (i:Int)<0:=by omega
 have f2:¬ (d.comps.length:Int)≤(i:Int):=by omega
 by_cases hk:0≤k∧k<(ls.length:Int)
 case neg=>
  have e:atL ls k=none:=by
   unfold atL
   by_cases e:0≤k
   ·rw[if_pos e];exact List.getElem?_eq_none (by omega)
   ·rw[if_neg e]
  rw[mayE_k h0 eC e]
  by_cases e2:k<0
  ·(refine sg (et kd (et kd0 (et (df f1) (et (df f2) (et (dt e2) g0))))) ?_;try exact⟨⟩)
  ·(refine sg (et kd (et kd0 (et (df f1) (et (df f2) (et (df e2) (et g0 (et q0 (et q1 (et Int.toNat_natCast (et Nat.zero_add (et Nat.add_zero (et gb1 (et hc0 (dt (show (ls.length:Int)≤k by omega))))))))))))))) ?_;try exact⟨⟩)
 obtain⟨j,rfl⟩:∃ j:Nat,k=(j:Int):=⟨k.toNat,by omega⟩
 obtain⟨l,hj⟩:∃ l,ls[j]?=some l:=⟨_,List.getElem?_eq_getElem (by omega)⟩
 obtain⟨b2,g2,cells2,rw2,c2,hve2,hb2,⟨v0,v1,v2,v3,v4,v5,v6,v7,v8,v9,v10,v11,v12,v13,v14,v15,v16,v17,rfl,hLV,hSV⟩,hcl2,hle2,hld2,hgt2⟩:=hL.at hj
 have gb2:∀ L,(H++L)[b2]?=some ⟨cells2,g2,rw2⟩:=fun L=>old_get hb2 L
 have hzl:=hs2 l (List.mem_of_getElem? hj)
 have eL:atL ls (j:Int)=some l:=by unfold atL;rw[if_pos (by omega),Int.toNat_natCast];exact hj
 rw[mayE_l h0 eC eL,Int.toNat_natCast]
 have p0:(0:Int)≤(j:Int):=by omega
 have p1:(j:Int)<(ls.length:Int):=hk.2
 have f3:¬ (j:Int)<0:=by omega
 have f4:¬ (ls.length:Int)≤(j:Int):=by omega
 have hld1':=hld1
 rw[hve2] at hc0 hL hld1'
 unfold mayL
 by_cases hkd:l.kind=1
 case neg=>
  rw[if_pos hkd]
  (refine sg (et kd (et kd0 (et (df f1) (et (df f2) (et (df f3) (et (df f4) (et g0 (et q0 (et q1 (et p0 (et p1 (et Int.toNat_natCast (et Nat.zero_add (et Nat.add_zero (et gb1 (et hc0 (et gb2 (et hld1' (et hld2 (nf hkd)))))))))))))))))))) ?_;try exact⟨⟩)
 rw[if_neg (by simpa using hkd)]
 obtain⟨n1,n2⟩:=hr.nest hi hj hkd
 obtain⟨li,hli⟩:∃ li,d.comps[l.comp.toNat]?=some li:=⟨_,List.getElem?_eq_getElem (by omega)⟩
 have hin':inner d.comps l=li:=by unfold inner;rw[hli];rfl
 rw[hin']
 obtain⟨b7,g7,cells7,rw7,cc7,hve7,hb7,⟨lv7,rfl,hL7⟩,hcl7,hle7,hld7,hgt7⟩:=h.at hli
 rw[hve1] at hve7
 obtain⟨rfl,rfl⟩:=sl_inj hve7
 rw[hb1] at hb7
 cases hb7
 have hc7:cells1[l.comp.toNat*1]?=some lv7:=hgt7 0 (by omega)
 obtain⟨hi1,hi2⟩:=hz.c li (List.mem_of_getElem? hli)
 obtain⟨ia,ie,rfl⟩:=hL7.form
 have m0:(0:Int)≤l.comp:=by omega
 (refine sg (et kd (et kd0 (et (df f1) (et (df f2) (et (df f3) (et (df f4) (et g0 (et q0 (et q1 (et p0 (et p1 (et m0 (et n2 (et Int.toNat_natCast (et Nat.zero_add (et Nat.add_zero (et gb1 (et hc0 (et hc7 (et gb2 (et hld1' (et hld2 (nt hkd))))))))))))))))))))))) ?_;try exact⟨⟩)
 refine(bare_ ls j l _ _ _ (hL.old LyE.m (Old.app' _ _)) hj hzl hs1).x ?_
 cases hbr:bareLB ls j l
 ·rw[if_pos rfl]
  (refine sg (et kd (et kd0 Bool.not_false)) ?_;try exact⟨⟩)
 rw[if_neg (by simp)]
 have y1:IntKind.i64.wrap ((ls.length:Int) - 1)=(ls.length:Int) - 1:=by rw[wi (by omega) (by omega)]
 have y2:IntKind.i64.wrap ((ls.length:Int) - 1+(li.length:Int))=(ls.length:Int) - 1+(li.length:Int):=by rw[wi (by omega) (by omega)]
 by_cases hbig:16<(ls.length:Int) - 1+(li.length:Int)
 ·rw[if_pos hbig]
  (refine sg (et kd (et kd0 (et Bool.not_true (et y1 (et y2 (dt hbig)))))) ?_;try exact⟨⟩)
 rw[if_neg hbig]
 (refine sg (et kd (et kd0 (et Bool.not_true (et y1 (et y2 (df hbig)))))) ?_;try exact⟨⟩)
 refine(lContains_ (n:=29) (cs:=[ap (H.length+2) 0 0]) (fun x=>shortB (cutL x l)) li _ _ (hL7.old LyE.m (Old.app' _ _)) (fun x cl K o hx=>mayF_ l v0 v1 v2 v3 v4 v5 v6 v7 v8 v9 v10 v11 v12 v13 v14 v15 v16 v17 (H.length+2) x cl K hx (o _ _ (by rw[hget_app];rfl)))).x ?_
 cases hs:li.any (fun x=>shortB (cutL x l))
 ·(refine sg (et kd kd0) ?_;try exact⟨⟩)
 ·(refine sg (et kd kd0) ?_;try exact⟨⟩)
end Go.Proofs.YthhbglkokpablaaGreat
/- Documents: the walk of the tapes of DocNumbers. -/
namespace Go.Proofs.YthhbglkokpablaaGreat
open Go Go.RowKit E
attribute [local irreducible] XRun XOps XCode XCal XLoop XQ SemCall
set_option linter.unusedSimpArgs false
set_option linter.unusedVariables false
/-- A row of numbers that is being made. -/
def MkInts (n0:Nat) (K:AH) (v:Value) (ls:List Int):Prop:=
 (ls=[]∧v=.slice none 0 0)∨∃ b g,n0≤b∧v=sl b 0 g ls.length 1∧K[b]?=some ⟨intC ls,g,true⟩
theorem intC_len (l:List Int):(intC l).length=l.length:=List.length_map ..
theorem intC_snoc (l:List Int) (x:Int):intC l++[.int .i64 x]=intC (l++[x]):=by simp[intC]
def tapx (k i:Int):Int:=(IntKind.i64.wrap (IntKind.i64.wrap (IntKind.i64.wrap (IntKind.i64.wrap (i*i)*7)+IntKind.i64.wrap (k*23))+IntKind.i64.wrap (i*k))).tmod 211
end Go.Proofs.YthhbglkokpablaaGreat
/- Documents: the walk of DocNumbers. -/
namespace Go.Proofs.YthhbglkokpablaaGreat
open Go Go.RowKit E
attribute [local irreducible] XRun XOps XCode XCal XLoop XQ SemCall
set_option linter.unusedSimpArgs false
set_option linter.unusedVariables false
/-- A layer without rows. -/
def lyG (k p c o:Int):Ly:=⟨k,p,c,0,0,o,0,[],[],[],[],[],[],[],[],[],(false,[]),sh00⟩
def lyGV (k p c o:Int):List Value:=lyVs (lyG k p c o) nl nl nl nl nl nl nl nl nl nl nl nl nl nl nl nl nl nl
/-- Comps of such layers. -/
structure CsG (cs:List (List Ly)):Prop where
 c:∀ c∈cs,c.length≤1000∧∀ l∈c,LyS l
theorem CsG.nil:CsG []:=⟨fun c h=>by cases h⟩
theorem CsG.snoc {cs:List (List Ly)} {l:List Ly} (h:CsG cs) (h1:l.length≤1000) (h2:∀ x∈l,LyS x):CsG (cs++[l]):=⟨fun c hc=>by
 rcases List.mem_append.1 hc with hc|hc
 ·exact h.c c hc
 ·cases List.mem_singleton.1 hc;exact⟨h1,h2⟩⟩
theorem CsG.set {cs:List (List Ly)} {l:List Ly} (h:CsG cs) (h1:l.length≤1000) (h2:∀ x∈l,LyS x) (i:Nat):CsG (cs.set i l):=⟨fun c hc=>by
 rcases List.mem_or_eq_of_mem_set hc with hc|rfl
 ·exact h.c c hc
 ·exact⟨h1,h2⟩⟩
/-- The parts of a row that is being made. -/
def El {α:Type} (s:Nat) (E:AH→List Value→α→Prop) (n0 b:Nat) (K:AH) (cs:List (List Value)) (l:List α):Prop:=
 cs.length=l.length∧∀ (i:Nat) x,l[i]?=some x→∃ c,cs[i]?=some c∧c.length=s∧Dex n0 b K (fun J=>E J c x)
theorem El.olx {α:Type} {s:Nat} {E:AH→List Value→α→Prop} {n0 b:Nat} {K J:AH} {cs:List (List Value)} {l:List α} (h:El s E n0 b K cs l) (o:Olx b K J):El s E n0 b J cs l:=
 ⟨h.1,fun i x hx=>by obtain⟨c,e1,e2,e3⟩:=h.2 i x hx;exact⟨c,e1,e2,e3.olx o⟩⟩
theorem El.put {α:Type} {s:Nat} {E:AH→List Value→α→Prop} {n0 b:Nat} {J:AH} {cs:List (List Value)} {l:List α} (h:El s E n0 b J cs l) {c:List Value} {x:α} (i:Nat) (hc:c.length=s) (hx:Dex n0 b J (fun J=>E J c x)):El s E n0 b J (cs.set i c) (l.set i x):=
 ⟨by rw[List.length_set,List.length_set,h.1],fun j y hy=>by
  by_cases hj:i=j
  ·subst hj
   have hl:=(List.getElem?_eq_some_iff.1 hy).1
   rw[List.length_set] at hl
   rw[List.getElem?_set_self hl] at hy
   cases hy
   exact⟨c,List.getElem?_set_self (by rw[h.1];exact hl),hc,hx⟩
  ·rw[List.getElem?_set_ne hj] at hy ⊢
   exact h.2 j y hy⟩
theorem El.row {α:Type} {s:Nat} {E:AH→List Value→α→Prop} {n0 b g:Nat} {J:AH} {cs:List (List Value)} {l:List α} (h:El s E n0 b J cs l) (hb:n0≤b) (hg:J[b]?=some ⟨cs.flatten,g,true⟩):MkRow s E n0 J (sl b 0 g l.length s) l:=
 .inr ⟨b,g,cs,hb,rfl,hg,h.1,h.2⟩
theorem El.all {α:Type} {s:Nat} {E:AH→List Value→α→Prop} {n0 b:Nat} {K:AH} {cs:List (List Value)} {l:List α} (h:El s E n0 b K cs l):∀ c∈cs,c.length=s:=RowOf.all h.1 h.2
end Go.Proofs.YthhbglkokpablaaGreat
