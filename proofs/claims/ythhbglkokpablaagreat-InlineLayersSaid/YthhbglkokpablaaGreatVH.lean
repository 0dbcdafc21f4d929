/- Merged texts: LayP Lay6 Copy2 LayA LayB. -/
import Derived.Test.YthhbglkokpablaaGreatVG
/- Comps laid open: plain lemmas on lists and blocks. -/
namespace Go.Proofs.YthhbglkokpablaaGreat
open Go Go.RowKit E
attribute [local irreducible] XRun XOps XCode XCal XLoop XQ SemCall
set_option linter.unusedSimpArgs false
set_option linter.unusedVariables false
/-- One of them replaced by others. -/
def opF (k:Nat) (A:List Ly) (f:Ly→Ly):Nat→List Ly→List Ly
 | _,[]=>[]
 | i,x::t=>(if i=k then A else [f x])++opF k A f (i+1) t
theorem opF_app (k:Nat) (A:List Ly) (f:Ly→Ly):∀ (a b:List Ly) (i:Nat),opF k A f i (a++b)=opF k A f i a++opF k A f (i+a.length) b
 | [],b,i=>by simp[opF]
 | x::a,b,i=>by
  rw[List.cons_append,opF,opF,opF_app k A f a b (i+1),List.append_assoc,List.length_cons,show i+1+a.length=i+(a.length+1) by omega]
theorem opF_snoc {k:Nat} {A:List Ly} {f:Ly→Ly} {l:List Ly} {i:Nat} {x:Ly} (hx:l[i]?=some x):opF k A f 0 (l.take (i+1))=opF k A f 0 (l.take i)++(if i=k then A else [f x]):=by
 have hi:=(List.getElem?_eq_some_iff.1 hx).1
 rw[take_snoc hx,opF_app,List.length_take,Nat.min_eq_left (by omega),Nat.zero_add]
 simp[opF]
theorem opF_map {k:Nat} {A:List Ly} {f:Ly→Ly}:∀ {l:List Ly} {i:Nat},(∀ j,j<l.length→¬ i+j=k)→opF k A f i l=l.map f
 | [],i,_=>rfl
 | x::t,i,h=>by
  rw[opF,if_neg (show ¬ i=k from h 0 (by simp)),opF_map (fun j hj=>by have:=h (j+1) (by simpa using hj);omega)];rfl
theorem opF_all {k:Nat} {A:List Ly} {f:Ly→Ly} {l:List Ly} {x:Ly} (hx:l[k]?=some x):opF k A f 0 l=(l.take k).map f++A++(l.drop (k+1)).map f:=by
 have hk:=(List.getElem?_eq_some_iff.1 hx).1
 have e:l=l.take k++[x]++l.drop (k+1):=by rw[← take_snoc hx,List.take_append_drop]
 conv=>lhs;rw[e]
 rw[opF_app,opF_app,List.length_append,List.length_take,Nat.min_eq_left (by omega),Nat.zero_add,List.length_singleton]
 rw[opF_map (fun j hj=>by rw[List.length_take] at hj;omega),opF_map (l:=l.drop (k+1)) (fun j _=>by omega)]
 simp[opF]
theorem El.snoc {α:Type} {s:Nat} {E:AH→List Value→α→Prop} {n0 b:Nat} {K J:AH} {cs:List (List Value)} {l:List α} (h:El s E n0 b K cs l) (o:Olx b K J) {c:List Value} {x:α} (hc:c.length=s) (hx:Dex n0 b J (fun J=>E J c x)):El s E n0 b J (cs++[c]) (l++[x]):=
 ⟨by rw[List.length_append,List.length_append,h.1];rfl,fun i y hy=>by
  by_cases hi:i<l.length
  ·rw[List.getElem?_append_left hi] at hy
   rw[List.getElem?_append_left (by rw[h.1];exact hi)]
   obtain⟨d,e1,e2,e3⟩:=h.2 i y hy
   exact⟨d,e1,e2,e3.olx o⟩
  ·rw[List.getElem?_append_right (by omega)] at hy
   rw[List.getElem?_append_right (by rw[h.1];omega),h.1]
   have:i - l.length=0:=by have:=(List.getElem?_eq_some_iff.1 hy).1;simp at this;omega
   rw[this] at hy ⊢
   simp at hy;subst hy
   exact⟨c,rfl,hc,hx⟩⟩
/-- The cells of layers that hang on what H has. -/
def ElH (Q:AH→Prop) (cs:List (List Value)) (l:List Ly):Prop:=cs.length=l.length∧∀ (i:Nat) x,l[i]?=some x→∃ c,cs[i]?=some c∧c.length=50∧∀ J,Q J→LyE J c x
theorem ElH.all {Q:AH→Prop} {cs:List (List Value)} {l:List Ly} (h:ElH Q cs l):∀ c∈cs,c.length=50:=RowOf.all (P:=fun c x=>∀ J,Q J→LyE J c x) h.1 h.2
theorem ElH.snoc {Q:AH→Prop} {cs:List (List Value)} {l:List Ly} (h:ElH Q cs l) {c:List Value} {x:Ly} (hc:c.length=50) (hx:∀ J,Q J→LyE J c x):ElH Q (cs++[c]) (l++[x]):=
 ⟨by rw[List.length_append,List.length_append,h.1];rfl,fun i y hy=>by
  by_cases hi:i<l.length
  ·rw[List.getElem?_append_left hi] at hy
   rw[List.getElem?_append_left (by rw[h.1];exact hi)]
   exact h.2 i y hy
  ·rw[List.getElem?_append_right (by omega)] at hy
   rw[List.getElem?_append_right (by rw[h.1];omega),h.1]
   have:i - l.length=0:=by have:=(List.getElem?_eq_some_iff.1 hy).1;simp at this;omega
   rw[this] at hy ⊢
   simp at hy;subst hy
   exact⟨c,rfl,hc,hx⟩⟩
/-- A row of layers that is being made in a block from n1 on, of layers that hang on what H has. -/
def MkL (Q:AH→Prop) (n1:Nat) (K:AH) (v:Value) (l:List Ly):Prop:=
 (l=[]∧v=.slice none 0 0)∨∃ b g cs,n1≤b∧v=sl b 0 g l.length 50∧K[b]?=some ⟨cs.flatten,g,true⟩∧ElH Q cs l
theorem MkL.row {Q:AH→Prop} {n1:Nat} {K:AH} {v:Value} {l:List Ly} (h:MkL Q n1 K v l) (o:Q K) (hl:l.length≤1000):RowOf 50 LyE K v l:=by
 rcases h with ⟨rfl,rfl⟩|⟨b,g,cs,h0,rfl,hk,hE⟩
 ·exact RowOf.none
 ·exact .inr ⟨b,g,[],true,cs,rfl,by rw[List.append_nil];exact hk,hE.1,by omega,fun i x hx=>by obtain⟨c,e1,e2,e3⟩:=hE.2 i x hx;exact⟨c,e1,e2,e3 K o⟩⟩
theorem MkL.form {Q:AH→Prop} {n1:Nat} {K:AH} {v:Value} {l:List Ly} (h:MkL Q n1 K v l):∃ a e,v=.slice a l.length e:=by
 rcases h with ⟨rfl,rfl⟩|⟨b,g,cs,_,rfl,_⟩
 ·exact⟨_,_,rfl⟩
 ·exact⟨_,_,rfl⟩
theorem MkL.olt {Q:AH→Prop} {n1 t:Nat} {K J:AH} {v:Value} {l:List Ly} (h:MkL Q n1 K v l) (o:Olx t K J) (ht:t<n1):MkL Q n1 J v l:=by
 rcases h with h|⟨b,g,cs,h0,h1,hk,hE⟩
 ·exact .inl h
 ·exact .inr ⟨b,g,cs,h0,h1,o _ _ (by omega) hk,hE⟩
theorem MkL.old {Q:AH→Prop} {n1:Nat} {K J:AH} {v:Value} {l:List Ly} (h:MkL Q n1 K v l) (o:Old K J):MkL Q n1 J v l:=by
 rcases h with h|⟨b,g,cs,h0,h1,hk,hE⟩
 ·exact .inl h
 ·exact .inr ⟨b,g,cs,h0,h1,o _ _ hk,hE⟩
theorem opF_len {k:Nat} {A:List Ly} {f:Ly→Ly}:∀ {l:List Ly} (i:Nat),(opF k A f i l).length≤l.length+A.length
 | [],i=>by simp[opF]
 | x::t,i=>by
  rw[opF,List.length_append,List.length_cons]
  by_cases h:i=k
  ·subst h
   rw[if_pos rfl,opF_map (fun j _=>by omega),List.length_map];omega
  ·rw[if_neg h]
   have:=opF_len (k:=k) (A:=A) (f:=f) (l:=t) (i+1)
   rw[List.length_singleton];omega
theorem MkL.first {n1:Nat} {Q:AH→Prop} {J:AH} {c:List Value} {x:Ly} {b g:Nat} (hb:n1≤b) (hk:J[b]?=some ⟨c,g,true⟩) (hc:c.length=50) (hx:∀ J',Q J'→LyE J' c x):MkL Q n1 J (sl b 0 g 1 50) [x]:=
 .inr ⟨b,g,[c],hb,rfl,by simpa using hk,rfl,fun i y hy=>by
  cases i with
  | zero=>simp at hy;subst hy;exact⟨c,rfl,hc,hx⟩
  | succ i=>simp at hy⟩
theorem MkL.next {n1:Nat} {Q:AH→Prop} {J:AH} {c:List Value} {cs:List (List Value)} {x:Ly} {l:List Ly} {b g':Nat} (hb:n1≤b) (hE:ElH Q cs l) (hc:c.length=50) (hx:∀ J',Q J'→LyE J' c x) (hk:J[b]?=some ⟨cs.flatten++c,g',true⟩):MkL Q n1 J (sl b 0 g' (l.length+1) 50) (l++[x]):=
 .inr ⟨b,g',cs++[c],hb,by rw[List.length_append];rfl,by rw[List.flatten_append,List.flatten_singleton];exact hk,hE.snoc hc hx⟩
/-- One of a row another one. -/
theorem ast_el {s:Nat} {V:AH} {ces:List (List Value)} {g b i:Nat} {cs:List Value} (h:∀ c∈ces,c.length=s) (hi:i<ces.length) (hc:cs.length=s):ast V (some ⟨ces.flatten,g,true⟩) (some cs) (some s) b (i*s) g=some (V.set b ⟨(ces.set i cs).flatten,g,true⟩,b):=by
 obtain⟨c,hx⟩:∃ c,ces[i]?=some c:=⟨_,List.getElem?_eq_getElem hi⟩
 have hcl:=h c (List.mem_of_getElem? hx)
 have h1:=flatten_splice (s:=s) 0 cs h hx (by omega)
 have h2:=Nat.mul_le_mul_right s hi
 rw[Nat.add_zero] at h1
 rw[ast_some (s:=s) hc (by rw[flatten_len h];rw[Nat.succ_mul] at h2;omega),h1]
 have e:splice c 0 cs=cs:=by rw[splice_def,List.take_zero,List.nil_append,Nat.zero_add,List.drop_of_length_le (by omega),List.append_nil]
 rw[e]
/-- One cell of one of a row another one. -/
theorem ast_at {s:Nat} {V:AH} {ces:List (List Value)} {g b i j:Nat} {c:List Value} (v:Value) (h:∀ c∈ces,c.length=s) (hx:ces[i]?=some c) (hj:j<s):ast V (some ⟨ces.flatten,g,true⟩) (some [v]) (some 1) b (i*s+j) g=some (V.set b ⟨(ces.set i (splice c j [v])).flatten,g,true⟩,b):=by
 have hi:=(List.getElem?_eq_some_iff.1 hx).1
 have h1:=flatten_splice (s:=s) j [v] h hx (by rw[List.length_singleton];exact hj)
 have h2:=Nat.mul_le_mul_right s hi
 rw[ast_some (s:=1) rfl (by rw[flatten_len h];rw[Nat.succ_mul] at h2;omega),h1]
/-- Layers alike but for their numbers. -/
theorem LyV.like {K:AH} {x y:Ly} {v0 v1 v2 v3 v4 v5 v6 v7 v8 v9:Value} (h:LyV K x v0 v1 v2 v3 v4 v5 v6 v7 v8 v9) (e:y.x=x.x∧y.y=x.y∧y.ax=x.ax∧y.ay=x.ay∧y.sx=x.sx∧y.sy=x.sy∧y.turn=x.turn∧y.opac=x.opac∧y.remap=x.remap∧y.mask=x.mask):LyV K y v0 v1 v2 v3 v4 v5 v6 v7 v8 v9:=by
 obtain⟨e0,e1,e2,e3,e4,e5,e6,e7,e8,e9⟩:=e
 exact⟨by rw[e0];exact h.x,by rw[e1];exact h.y,by rw[e2];exact h.ax,by rw[e3];exact h.ay,by rw[e4];exact h.sx,by rw[e5];exact h.sy,by rw[e6];exact h.turn,by rw[e7];exact h.opac,by rw[e8];exact h.remap,by rw[e9];exact h.mask⟩
theorem LyV.cut {K:AH} {x:Ly} {v0 v1 v2 v3 v4 v5 v6 v7 v8 v9:Value} (h:LyV K x v0 v1 v2 v3 v4 v5 v6 v7 v8 v9) (l:Ly):LyV K (cutL x l) v0 v1 v2 v3 v4 v5 v6 v7 v8 v9:=h.like ⟨rfl,rfl,rfl,rfl,rfl,rfl,rfl,rfl,rfl,rfl⟩
theorem LyV.up {K:AH} {x:Ly} {v0 v1 v2 v3 v4 v5 v6 v7 v8 v9:Value} (h:LyV K x v0 v1 v2 v3 v4 v5 v6 v7 v8 v9) (n:Int):LyV K (upL n x) v0 v1 v2 v3 v4 v5 v6 v7 v8 v9:=h.like ⟨rfl,rfl,rfl,rfl,rfl,rfl,rfl,rfl,rfl,rfl⟩
/-- A part of a row, in all heaps in which all but p stands. -/
theorem row_at {α:Type} {s:Nat} {E:AH→List Value→α→Prop} {p:Nat→Prop} {K:AH} {v:Value} {l:List α} (h:∀ J,OlP p K J→RowOf s E J v l) {i:Nat} {x:α} (hx:l[i]?=some x) :
  ∃ b g cells rw_ c,v=sl b 0 g l.length s∧K[b]?=some ⟨cells,g,rw_⟩∧c.length=s∧(∀ b',ald (some true) (some s) (some ⟨cells,g,rw_⟩) b' (i*s) g=some (.agg c.toArray,b'))∧(∀ j,j<s→cells[i*s+j]?=c[j]?)∧∀ J,OlP p K J→E J c x:=by
 obtain⟨b,g,cells,rw_,c,hve,hb,hc,hcl,hle,hld,hgt⟩:=(h K (OlP.refl _ _)).at hx
 rcases row_apart h with ⟨e,_⟩|⟨b',g',rest,rw',cs,hp,hv,hb',hl,hle',hel⟩
 ·rw[e] at hx;simp at hx
 ·rw[hve] at hv
  obtain⟨rfl,rfl⟩:=sl_inj hv
  rw[hb] at hb'
  cases hb'
  obtain⟨c',hc',hcl',hE⟩:=hel i x hx
  have hall:∀ c∈cs,c.length=s:=fun c hc=>by
   obtain⟨k,hk⟩:=List.getElem?_of_mem hc
   have hkl:=(List.getElem?_eq_some_iff.1 hk).1
   obtain⟨c',e1,e2,_⟩:=hel k _ (List.getElem?_eq_getElem (by omega))
   rw[hk] at e1;cases e1;exact e2
  have e:c=c':=by
   refine List.ext_getElem? fun j=>?_
   by_cases hj:j<s
   ·have h1:=hgt j hj
    have h2:=flatten_get hall hc' (j:=j) hj
    have h3:cs.flatten[i*s+j]?=some c'[j]:=by rw[h2];exact List.getElem?_eq_getElem (by omega)
    rw[List.getElem?_append_left (List.getElem?_eq_some_iff.1 h3).1] at h1
    rw[← h1,h2]
   ·rw[List.getElem?_eq_none (by omega),List.getElem?_eq_none (by omega)]
  subst e
  exact⟨b,g,_,rw_,c,hve,hb,hcl,hld,hgt,hE⟩
end Go.Proofs.YthhbglkokpablaaGreat
/- Comps laid open: the walks of Grow, Concat. -/
namespace Go.Proofs.YthhbglkokpablaaGreat
open Go Go.RowKit E
attribute [local irreducible] XRun XOps XCode XCal XLoop XQ SemCall
set_option linter.unusedSimpArgs false
set_option linter.unusedVariables false
theorem lGrow_ (n:Nat) (H:AH) (h1:n≤1000) :
  Cal Tryz.prog 49 [.slice none 0 0,.int .i64 (n:Int)] H fun v H' W=>W=[]∧(∃ L,H'=H++L)∧((n=0∧v=.slice none 0 0∧H'=H)∨(0<n∧∃ cells,v=sl H.length 0 0 0 50∧H'=H++[⟨cells,0,true⟩])):=by
 refine adds_of ?_
 have kd:∀ n,decide (H.length+n<H.length)=false:=fun n=>df (by omega)
 have kd0:decide (H.length<H.length)=false:=df (by omega)
 have hcap:acap Tryz.prog 48 (.slice none 0 0)=some (.int .i64 0):=acap_nil (e:=47) (by kernel_rfl)
 have w0:IntKind.i64.wrap ((n:Int) - 0)=(n:Int):=by rw[wi (by omega) (by omega)];omega
 have w1:IntKind.i64.wrap (n:Int)=(n:Int):=by rw[wi (by omega) (by omega)]
 refine XCal.of hm Tryz.func49 rfl (fun xs w=>Tryz.call49 xs w) Tryz.ntmps49 Tryz.results49 rfl ?_
 by_cases h0:0<n
 ·obtain⟨z,hz,hzl⟩:∃ z,tzero Tryz.prog 47=some z∧z.length=50:=by
   have h:(tzero Tryz.prog 47).map List.length=some 50:=by kernel_rfl
   cases e:tzero Tryz.prog 47 with
   | none=>rw[e] at h;cases h
   | some z=>rw[e] at h;exact⟨z,rfl,by simpa using h⟩
  have hm':=fun {H}=>aapp2_make (P:=Tryz.prog) (H:=H) (t:=48) (t':=3) (e:=47) (s:=50) (by_:=608) (z:=z) (by kernel_rfl) (by kernel_rfl) (by kernel_rfl) (by kernel_rfl) hz (n:=n) (by omega) hzl h0 (by omega) (by omega)
  have hsl0:aslice Tryz.prog 48 (.slice none 0 0) none (some (.int .i64 0)) none=some (.slice none 0 0):=by
   simp only[go_sem,Nat.reduceEqDiff,Nat.reduceAdd,Nat.reduceSub,Nat.reduceMul,Nat.reduceLT,Nat.reduceLeDiff,Int.reducePow,Int.reduceBEq,Int.reduceBNe,Int.reduceDiv,Int.reduceMod,Int.reduceEq,Int.reduceLT,Int.reduceLE,Int.reduceAdd,Int.reduceSub,Int.reduceMul,Int.reduceNeg,Int.reduceToNat,Int.reduceTDiv,Int.reduceTMod,↓reduceIte,aslice,abound,show (0:Int)≤0 by omega,true_and,and_self,and_true,Nat.zero_le,Nat.zero_mul,Nat.sub_zero,Nat.add_zero]
  have hsl1:∀ b,aslice Tryz.prog 48 (sl b 0 0 n 50) none (some (.int .i64 0)) none=some (sl b 0 0 0 50):=fun b=>by
   simp only[go_sem,Nat.reduceEqDiff,Nat.reduceAdd,Nat.reduceSub,Nat.reduceMul,Nat.reduceLT,Nat.reduceLeDiff,Int.reducePow,Int.reduceBEq,Int.reduceBNe,Int.reduceDiv,Int.reduceMod,Int.reduceEq,Int.reduceLT,Int.reduceLE,Int.reduceAdd,Int.reduceSub,Int.reduceMul,Int.reduceNeg,Int.reduceToNat,Int.reduceTDiv,Int.reduceTMod,↓reduceIte,aslice,abound,show (0:Int)≤0 by omega,show (0:Int)≤(n:Int) by omega,true_and,and_self,and_true,Nat.zero_le,Nat.zero_mul,Nat.sub_zero,Nat.add_zero]
  simp only[go_sem,Nat.reduceEqDiff,Nat.reduceAdd,Nat.reduceSub,Nat.reduceMul,Nat.reduceLT,Nat.reduceLeDiff,Int.reducePow,Int.reduceBEq,Int.reduceBNe,Int.reduceDiv,Int.reduceMod,Int.reduceEq,Int.reduceLT,Int.reduceLE,Int.reduceAdd,Int.reduceSub,Int.reduceMul,Int.reduceNeg,Int.reduceToNat,Int.reduceTDiv,Int.reduceTMod,↓reduceIte,kd,kd0,df (show ¬ (n:Int)<0 by omega),hcap,w0,w1,dt (show (0:Int)<(n:Int) by omega),Option.map,hsl0,hm',hsl1]
  exact .inr ⟨h0,_,rfl⟩
 ·have e:n=0:=by omega
  subst e
  (refine sg (et kd (et kd0 hcap)) ?_;try exact⟨⟩)
  exact .inl trivial
theorem apz_cut0 {H:AH} {s by_ b g:Nat} {cs cells:List Value} {bs:List Nat} (hb:b∉bs):apz H s by_ 0 b g 0 cs bs (some ⟨cells,g,true⟩)=some (sl b 0 g 0 s,H,[],b::bs):=by
 by_cases hc:0*s=cells.length
 ·exact apz_zero hc
 ·simp only[apz,true_and,if_neg hc,hb,not_false_eq_true,if_true]
/-- A row that is put behind another: its value, its cells, how many. -/
structure Pc where
 v:Value
 cs:List Value
 n:Nat
def PcOk (H:AH) (p:Pc):Prop:=(∃ a e,p.v=.slice a p.n e)∧p.cs.length=p.n*50∧∀ J,Old H J→∃ bs,asrc J 50 p.v=some (p.cs,p.n,bs)∧∀ x∈bs,x<H.length
def pcN (l:List Pc):Nat:=(l.map (·.n)).sum
def pcC (l:List Pc):List Value:=l.flatMap (·.cs)
/-- What is put together so far, in block b. -/
def PcSt2 (b:Nat) (K:AH) (v:Value) (l:List Pc):Prop:=
 (pcN l=0∧∃ g cells,v=sl b 0 g 0 50∧K[b]?=some ⟨cells,g,true⟩)∨(∃ g,v=sl b 0 g (pcN l) 50∧K[b]?=some ⟨pcC l,g,true⟩)
theorem pcN_snoc (l:List Pc) (p:Pc):pcN (l++[p])=pcN l+p.n:=by simp[pcN]
theorem pcC_snoc (l:List Pc) (p:Pc):pcC (l++[p])=pcC l++p.cs:=by simp[pcC]
theorem pcC_len {H:AH} {l:List Pc} (h:∀ p∈l,PcOk H p):(pcC l).length=pcN l*50:=by
 induction l with
 | nil=>rfl
 | cons p l ih=>
  have h1:=(h p (List.mem_cons_self ..)).2.1
  have h2:=ih fun q hq=>h q (List.mem_cons_of_mem _ hq)
  show (p.cs++pcC l).length=(p.n+pcN l)*50
  rw[List.length_append,h1,h2,Nat.add_mul]
theorem pcN_app (a b:List Pc):pcN (a++b)=pcN a+pcN b:=by simp[pcN]
theorem pcN_le {l:List Pc}:∀ i,pcN (l.take i)≤pcN l:=fun i=>by
 have:=pcN_app (l.take i) (l.drop i)
 rw[List.take_append_drop] at this
 omega
set_option maxHeartbeats 4000000 in
theorem lConcat_ (rows:List Pc) (ab g0:Nat) (rw_:Bool) (H:AH) (hk:H[ab]?=some ⟨rows.map (·.v),g0,rw_⟩) (hp:∀ p∈rows,PcOk H p) (hr:rows.length≤1000) (hn:pcN rows≤1000) (h0:0<pcN rows) :
  Cal Tryz.prog 25 [sl ab 0 g0 rows.length 1] H fun v H' W=>W=[]∧(∃ L,H'=H++L)∧∃ g,v=sl H.length 0 g (pcN rows) 50∧H'[H.length]?=some ⟨pcC rows,g,true⟩:=by
 have kd:∀ n,decide (H.length+n<H.length)=false:=fun n=>df (by omega)
 have kd0:decide (H.length<H.length)=false:=df (by omega)
 refine adds_of ?_
 refine XCal.of hm Tryz.func25 rfl (fun xs w=>Tryz.call25 xs w) Tryz.ntmps25 Tryz.results25 rfl ?_
 (refine sg (et kd kd0) ?_;try exact⟨⟩)
 refine keep (fun r T K D=>D=[]∧K=H∧∃ (i:Nat),i+r=rows.length∧T 0=sl ab 0 g0 rows.length 1∧T 3=.int .i64 ((pcN (rows.take i):Nat):Int)∧T 9=sl ab 0 g0 rows.length 1∧T 10=.int .i64 (rows.length:Int)∧T 11=.int .i64 (i:Int)) rows.length
  ⟨rfl,rfl,0,by omega,by(refine sg trivial ?_;try exact⟨⟩),by(refine sg trivial ?_;try exact⟨⟩) <;> rfl,by(refine sg trivial ?_;try exact⟨⟩),by(refine sg trivial ?_;try exact⟨⟩),by(refine sg trivial ?_;try exact⟨⟩) <;> rfl⟩ ?_
 rintro r T K D ⟨rfl,hK,i,hir,t0,t3,t9,t10,t11⟩
 subst hK
 by_cases hi:i<rows.length
 ·obtain⟨p,hx⟩:∃ p,rows[i]?=some p:=⟨_,List.getElem?_eq_getElem hi⟩
  obtain⟨⟨a,e,hv⟩,hcl,hs⟩:=hp p (List.mem_of_getElem? hx)
  have hc0:(rows.map (·.v))[i*1]?=some (.slice a p.n e):=by rw[Nat.mul_one,List.getElem?_map,hx,← hv];rfl
  have q0:(0:Int)≤(i:Int):=by omega
  have q1:(i:Int)<(rows.length:Int):=by omega
  have w1:IntKind.i64.wrap ((i:Int)+1)=((i+1:Nat):Int):=by rw[wi (by omega) (by omega)];rfl
  have hle:=pcN_le (l:=rows) (i+1)
  rw[take_snoc hx,pcN_snoc] at hle
  have w2:IntKind.i64.wrap (((pcN (rows.take i):Nat):Int)+(p.n:Int))=((pcN (rows.take i)+p.n:Nat):Int):=by rw[wi (by omega) (by omega)];rfl
  (refine sg (et t0 (et t3 (et t9 (et t10 (et t11 (et (dt q1) (et q0 (et q1 (et Int.toNat_natCast (et Nat.zero_add (et hk (et hc0 (et w1 (et w2 (df (show ¬ ((pcN (rows.take i)+p.n:Nat):Int)<0 by omega)))))))))))))))) ?_;try exact⟨⟩)
  exact⟨r - 1,by omega,i+1,by omega,by rw[take_snoc hx,pcN_snoc],rfl⟩
 ·have hi:i=rows.length:=by omega
  rw[show rows.take i=rows by rw[hi,List.take_length]] at t3
  (refine sg (et t0 (et t3 (et t9 (et t10 (et t11 (df (show ¬ (i:Int)<(rows.length:Int) by omega))))))) ?_;try exact⟨⟩)
  refine(lGrow_ (pcN rows) K hn).x ?_
  rintro v H1 W1 ⟨rfl,_,⟨e,_⟩|⟨_,cells,rfl,rfl⟩⟩
  ·omega
  (refine sg (et t0 (et kd kd0)) ?_;try exact⟨⟩)
  refine keep (fun r T J D=>D=[]∧Old K J∧K.length+1≤J.length∧∃ (i:Nat) (v:Value),i+r=rows.length∧PcSt2 K.length J v (rows.take i)∧T 6=v∧T 25=sl ab 0 g0 rows.length 1∧T 26=.int .i64 (rows.length:Int)∧T 27=.int .i64 (i:Int)) rows.length
   ⟨rfl,Old.app' _ _,by simp,0,_,by omega,.inl ⟨rfl,0,cells,rfl,by rw[hget_app0];rfl⟩,by(refine sg trivial ?_;try exact⟨⟩) <;> rfl,by(refine sg t0 ?_;try exact⟨⟩),by(refine sg trivial ?_;try exact⟨⟩),by(refine sg trivial ?_;try exact⟨⟩) <;> rfl⟩ ?_
  rintro r2 T2 J D ⟨rfl,oJ,lJ,j,v,hjr,hst,s6,s25,s26,s27⟩
  have kdJ:∀ n,decide (J.length+n<K.length)=false:=fun n=>df (by omega)
  have kdJ0:decide (J.length<K.length)=false:=df (by omega)
  by_cases hj:j<rows.length
  ·obtain⟨p,hx⟩:∃ p,rows[j]?=some p:=⟨_,List.getElem?_eq_getElem hj⟩
   obtain⟨⟨a,e,hv⟩,hcl,hs⟩:=hp p (List.mem_of_getElem? hx)
   obtain⟨bs,hsrc,hbs⟩:=hs J oJ
   rw[hv] at hsrc
   have hnb:K.length∉bs:=fun h=>Nat.lt_irrefl _ (hbs _ h)
   have gk:=oJ _ _ hk
   have hc0:(rows.map (·.v))[j*1]?=some (.slice a p.n e):=by rw[Nat.mul_one,List.getElem?_map,hx,← hv];rfl
   have q0:(0:Int)≤(j:Int):=by omega
   have q1:(j:Int)<(rows.length:Int):=by omega
   have w1:IntKind.i64.wrap ((j:Int)+1)=((j+1:Nat):Int):=by rw[wi (by omega) (by omega)];rfl
   have hle:=pcN_le (l:=rows) (j+1)
   rw[take_snoc hx,pcN_snoc] at hle
   have hT:=take_snoc hx
   by_cases hp0:p.n=0
   ·have hcs:p.cs=[]:=List.eq_nil_of_length_eq_zero (by omega)
    rw[hp0,hcs] at hsrc
    rw[hp0] at hc0
    rcases hst with ⟨h0',g,cells',rfl,hkb⟩|⟨g,rfl,hkb⟩
    ·simp only[go_sem,Nat.reduceEqDiff,Nat.reduceAdd,Nat.reduceSub,Nat.reduceMul,Nat.reduceLT,Nat.reduceLeDiff,Int.reducePow,Int.reduceBEq,Int.reduceBNe,Int.reduceDiv,Int.reduceMod,Int.reduceEq,Int.reduceLT,Int.reduceLE,Int.reduceAdd,Int.reduceSub,Int.reduceMul,Int.reduceNeg,Int.reduceToNat,Int.reduceTDiv,Int.reduceTMod,↓reduceIte,s6,s25,s26,s27,dt q1,q0,q1,Int.toNat_natCast,Nat.zero_add,gk,hc0,hsrc,hkb,apz_cut0 hnb,kd0,w1]
     exact⟨r2 - 1,by omega,oJ,lJ,j+1,_,by omega,.inl ⟨by rw[hT,pcN_snoc];omega,g,cells',rfl,hkb⟩,rfl,rfl⟩
    ·have hm:=pcC_len (l:=rows.take j) (fun p hp'=>hp p (List.mem_of_mem_take hp'))
     (refine sg (et s6 (et s25 (et s26 (et s27 (et (dt q1) (et q0 (et q1 (et Int.toNat_natCast (et Nat.zero_add (et gk (et hc0 (et hsrc (et hkb (et hm (et kd0 w1))))))))))))))) ?_;try exact⟨⟩)
     exact⟨r2 - 1,by omega,oJ,lJ,j+1,_,by omega,.inr ⟨g,by rw[hT,pcN_snoc,hp0,Nat.add_zero],by rw[hT,pcC_snoc,hcs,List.append_nil];exact hkb⟩,rfl,rfl⟩
   ·have oS:∀ X,Old K (J.set K.length X):=fun X c k e=>Olx.set0 _ _ _ c k (by have:=(List.getElem?_eq_some_iff.1 e).1;omega) (oJ c k e)
    have gS:∀ X,(J.set K.length X)[K.length]?=some X:=fun X=>List.getElem?_set_self (by omega)
    rcases hst with ⟨h0',g,cells',rfl,hkb⟩|⟨g,rfl,hkb⟩
    ·have hC0:pcC (rows.take j)=[]:=List.eq_nil_of_length_eq_zero (by rw[pcC_len (l:=rows.take j) (fun p hp'=>hp p (List.mem_of_mem_take hp')),h0'])
     simp only[go_sem,Nat.reduceEqDiff,Nat.reduceAdd,Nat.reduceSub,Nat.reduceMul,Nat.reduceLT,Nat.reduceLeDiff,Int.reducePow,Int.reduceBEq,Int.reduceBNe,Int.reduceDiv,Int.reduceMod,Int.reduceEq,Int.reduceLT,Int.reduceLE,Int.reduceAdd,Int.reduceSub,Int.reduceMul,Int.reduceNeg,Int.reduceToNat,Int.reduceTDiv,Int.reduceTMod,↓reduceIte,s6,s25,s26,s27,dt q1,q0,q1,Int.toNat_natCast,Nat.zero_add,gk,hc0,hsrc,hkb,apz_cut (eq_false hp0) (Nat.sub_eq_zero_of_le (Nat.le_trans (Nat.mul_le_mul_right 608 (show p.n≤1000 by omega)) (by omega))) (Nat.sub_eq_zero_of_le (Nat.le_trans (show p.n≤1000 by omega) (by omega))) hnb,kd0,w1]
     exact⟨r2 - 1,by omega,oS _,lJ,j+1,_,by omega,.inr ⟨g+1,by rw[hT,pcN_snoc,h0',Nat.zero_add],by rw[hT,pcC_snoc,hC0,List.nil_append];exact gS _⟩,rfl,rfl⟩
    ·have hm:=pcC_len (l:=rows.take j) (fun p hp'=>hp p (List.mem_of_mem_take hp'))
     have e1:(pcN (rows.take j)+p.n)*608 - 140737488355328=0:=Nat.sub_eq_zero_of_le (Nat.le_trans (Nat.mul_le_mul_right 608 (show pcN (rows.take j)+p.n≤1000 by omega)) (by omega))
     have e2:pcN (rows.take j)+p.n - 140737488355328=0:=Nat.sub_eq_zero_of_le (Nat.le_trans (show pcN (rows.take j)+p.n≤1000 by omega) (by omega))
     (refine sg (et s6 (et s25 (et s26 (et s27 (et (dt q1) (et q0 (et q1 (et Int.toNat_natCast (et Nat.zero_add (et gk (et hc0 (et hsrc (et hkb (et hm (et (eq_false hp0) (et e1 (et e2 (et kd0 w1)))))))))))))))))) ?_;try exact⟨⟩)
     exact⟨r2 - 1,by omega,oS _,lJ,j+1,_,by omega,.inr ⟨g+1,by rw[hT,pcN_snoc],by rw[hT,pcC_snoc];exact gS _⟩,rfl,rfl⟩
  ·have hj:j=rows.length:=by omega
   rw[show rows.take j=rows by rw[hj,List.take_length]] at hst
   rcases hst with ⟨h0',_⟩|⟨g,rfl,hkb⟩
   ·omega
   (refine sg (et s6 (et s25 (et s26 (et s27 (df (show ¬ (j:Int)<(rows.length:Int) by omega)))))) ?_;try exact⟨⟩)
   exact⟨g,rfl,hkb⟩
end Go.Proofs.YthhbglkokpablaaGreat
/- Comps laid open: a document's copy (printed by genCopy2.py). -/
namespace Go.Proofs.YthhbglkokpablaaGreat
open Go Go.RowKit E
attribute [local irreducible] XRun XOps XCode XCal XLoop XQ SemCall
set_option linter.unusedSimpArgs false
set_option linter.unusedVariables false
/-- What stands of K from lo on, below hi, stands in J. -/
def Btw (lo hi:Nat) (K J:AH):Prop:=∀ (b:Nat) (k:Blk),lo≤b→b<hi→K[b]?=some k→J[b]?=some k
/-- A comp with all that it hangs on in blocks from lo on, below hi. -/
def CoI (lo hi:Nat) (K:AH) (c:List Value) (l:List Ly):Prop:=∃ v,c=[v]∧∀ J,Btw lo hi K J→MkRow 50 LyT lo J v l
theorem CoI.mono {lo hi:Nat} {K J:AH} {c:List Value} {l:List Ly} (h:CoI lo hi K c l) (o:Btw lo hi K J):CoI lo hi J c l:=by
 obtain⟨v,h1,h2⟩:=h
 exact⟨v,h1,fun J' h'=>h2 J' fun b k a1 a2 e=>h' b k a1 a2 (o b k a1 a2 e)⟩
theorem MkRow.whole {α:Type} {s:Nat} {E:AH→List Value→α→Prop} {n0:Nat} {K:AH} {v:Value} {l:List α} (h:MkRow s E n0 K v l):∀ J,Btw n0 K.length K J→MkRow s E n0 J v l:=fun J hJ=>by
 have hJ:∀ (c:Nat) (k:Blk),n0≤c→K[c]?=some k→J[c]?=some k:=fun c k hc e=>hJ c k hc (List.getElem?_eq_some_iff.1 e).1 e
 rcases h with h|⟨b,g,cs,h0,h1,h2,h3,h4⟩
 ·exact .inl h
 ·exact .inr ⟨b,g,cs,h0,h1,hJ _ _ h0 h2,h3,fun i x hx=>by
   obtain⟨c,e1,e2,e3⟩:=h4 i x hx
   exact⟨c,e1,e2,fun J' h'=>e3 J' fun c k hc hb e=>h' c k hc hb (hJ c k hc e)⟩⟩
/-- The parts of a row of comps, each with blocks of its own. -/
def PtI (n0 b:Nat) (K:AH) (cs:List (List Value)) (l:List (List Ly)):Prop:=
 ∃ lo hi:Nat→Nat,∀ (i:Nat) x,l[i]?=some x→(∃ c,cs[i]?=some c∧CoI (lo i) (hi i) K c x)∧n0≤lo i∧hi i≤K.length∧(b<lo i∨hi i≤b)∧∀ j,j<i→hi j≤lo i
def MkI (n0:Nat) (K:AH) (v:Value) (l:List (List Ly)):Prop:=
 (l=[]∧v=.slice none 0 0)∨∃ b g,∃ cs:List (List Value),n0≤b∧v=sl b 0 g l.length 1∧K[b]?=some ⟨cs.flatten,g,true⟩∧cs.length=l.length∧PtI n0 b K cs l
theorem MkI.all {n0 b:Nat} {K:AH} {cs:List (List Value)} {l:List (List Ly)} (h:cs.length=l.length) (hp:PtI n0 b K cs l):∀ c∈cs,c.length=1:=fun c hc=>by
 obtain⟨lo,hi,hp⟩:=hp
 obtain⟨i,hi⟩:=List.getElem?_of_mem hc
 have hl:=(List.getElem?_eq_some_iff.1 hi).1
 obtain⟨⟨c',e1,v,e2,_⟩,_⟩:=hp i _ (List.getElem?_eq_getElem (by omega))
 rw[hi] at e1;cases e1;rw[e2];rfl
theorem PtI.olx {n0 b t:Nat} {K J:AH} {cs:List (List Value)} {l:List (List Ly)} (h:PtI n0 b K cs l) (o:Olx t K J) (ht:t=b∨t<n0) (hl:K.length≤J.length):PtI n0 b J cs l:=by
 obtain⟨lo,hi,h⟩:=h
 refine⟨lo,hi,fun i x hx=>?_⟩
 obtain⟨⟨c,e1,e2⟩,h1,h2,h3,h4⟩:=h i x hx
 exact⟨⟨c,e1,e2.mono fun b' k a1 a2 e=>o b' k (by omega) e⟩,h1,by omega,h3,h4⟩
theorem MkI.olt {n0 t:Nat} {K J:AH} {v:Value} {l:List (List Ly)} (h:MkI n0 K v l) (o:Olx t K J) (ht:t<n0) (hl:K.length≤J.length:=by simp):MkI n0 J v l:=by
 rcases h with h|⟨b,g,cs,h0,h1,h2,h3,h4⟩
 ·exact .inl h
 ·exact .inr ⟨b,g,cs,h0,h1,o _ _ (by omega) h2,h3,h4.olx o (.inr ht) hl⟩
theorem MkI.low {n0 n1:Nat} {K:AH} {v:Value} {l:List (List Ly)} (h:MkI n0 K v l) (hn:n1≤n0):MkI n1 K v l:=by
 rcases h with h|⟨b,g,cs,h0,h1,h2,h3,lo,hi,h4⟩
 ·exact .inl h
 ·exact .inr ⟨b,g,cs,by omega,h1,h2,h3,lo,hi,fun i x hx=>by obtain⟨a1,a2,a3,a4,a5⟩:=h4 i x hx;exact⟨a1,by omega,a3,a4,a5⟩⟩
theorem MkI.first {n0 lo hi:Nat} {J:AH} {c:List Ly} {cs:List Value} {b g:Nat} (h:CoI lo hi J cs c) (hb:J[b]?=some ⟨cs,g,true⟩) (hn:n0≤b) (hl:n0≤lo) (hh:hi≤J.length) (ha:b<lo∨hi≤b):MkI n0 J (sl b 0 g 1 1) [c]:=
 .inr ⟨b,g,[cs],hn,rfl,by simpa using hb,rfl,fun _=>lo,fun _=>hi,fun i x hx=>by
  cases i with
  | zero=>simp at hx;subst hx;exact⟨⟨cs,rfl,h⟩,hl,hh,ha,fun j hj=>by omega⟩
  | succ i=>simp at hx⟩
theorem MkI.next {n0 lo hi:Nat} {K J:AH} {l:List (List Ly)} {x:List Ly} {c:List Value} {b g':Nat} {cs:List (List Value)} (h0:n0≤b) (h3:cs.length=l.length) (h4:PtI n0 b K cs l) (o:Olx b K J) (hc:CoI lo hi J c x) (hb:J[b]?=some ⟨cs.flatten++c,g',true⟩)
  (hl:n0≤lo) (hk:K.length≤lo) (hj:K.length≤J.length) (hh:hi≤J.length) (ha:b<lo∨hi≤b):MkI n0 J (sl b 0 g' (l.length+1) 1) (l++[x]):=by
 obtain⟨lo',hi',h4⟩:=h4
 refine .inr ⟨b,g',cs++[c],h0,by rw[List.length_append];rfl,by rw[List.flatten_append,List.flatten_singleton];exact hb,by rw[List.length_append,List.length_append,h3];rfl,fun i=>if i<l.length then lo' i else lo,fun i=>if i<l.length then hi' i else hi,fun i y hy=>?_⟩
 by_cases hi0:i<l.length
 ·rw[List.getElem?_append_left hi0] at hy
  obtain⟨⟨c',e1,e2⟩,a1,a2,a3,a4⟩:=h4 i y hy
  simp only[if_pos hi0]
  exact⟨⟨c',by rw[List.getElem?_append_left (by omega)];exact e1,e2.mono fun b' k b1 b2 e=>o b' k (by omega) e⟩,a1,by omega,a3,fun j hj=>by rw[if_pos (by omega)];exact a4 j hj⟩
 ·have hi1:i=l.length:=by have:=(List.getElem?_eq_some_iff.1 hy).1;simp at this;omega
  subst hi1
  rw[List.getElem?_append_right (Nat.le_refl _),Nat.sub_self] at hy
  simp at hy;subst hy
  simp only[if_neg hi0]
  refine⟨⟨c,by rw[List.getElem?_append_right (by omega),h3,Nat.sub_self];rfl,hc⟩,hl,hh,ha,fun j hj'=>?_⟩
  rw[if_pos hj']
  have:=(h4 j _ (List.getElem?_eq_getElem hj')).2.2.1
  omega
set_option maxHeartbeats 8000000 in
theorem copy2_ (d:Dc) (cv:Value) (H:AH) (h:Cos H cv d.comps) (hz:DcS d) :
  Cal Tryz.prog 23 [dcV d cv] H fun v H' W=>W=[]∧(∃ L,H'=H++L)∧∃ cw,v=dcV d cw∧MkI H.length H' cw d.comps:=by
 refine adds_of ?_
 obtain⟨ca,ce,hcv⟩:=h.form
 subst hcv
 have kd:∀ n,decide (H.length+n<H.length)=false:=fun n=>df (by omega)
 have kd0:decide (H.length<H.length)=false:=df (by omega)
 have n0:=hz.n
 refine XCal.of hm Tryz.func23 rfl (fun xs w=>Tryz.call23 xs w) Tryz.ntmps23 Tryz.results23 rfl ?_
 (refine sg (et kd kd0) ?_;try exact⟨⟩)
 refine keep (fun r T K D=>D=[]∧∃ (i:Nat) (ov:Value),i+r=d.comps.length∧Old H K∧H.length+3≤K.length∧K[H.length+1]?=some ⟨[.int .i64 0,.int .i64 0,.slice none 0 0],0,true⟩∧K[H.length+2]?=some ⟨[.int .i64 d.in_,.int .i64 d.out,ov],0,true⟩∧MkI (H.length+3) K ov (d.comps.take i)∧T 2=ap (H.length+1) 0 0∧T 3=ap (H.length+2) 0 0∧T 15=.slice ca d.comps.length ce∧T 16=.int .i64 (d.comps.length:Int)∧T 17=.int .i64 (i:Int)) d.comps.length
  ⟨rfl,0,.slice none 0 0,by omega,Old.app' _ _,by simp,by rw[hget_app];rfl,by rw[hget_app];rfl,.inl ⟨rfl,rfl⟩,by(refine sg trivial ?_;try exact⟨⟩),by(refine sg trivial ?_;try exact⟨⟩),by(refine sg trivial ?_;try exact⟨⟩),by(refine sg trivial ?_;try exact⟨⟩),by(refine sg trivial ?_;try exact⟨⟩) <;> rfl⟩ ?_
 rintro r T K D ⟨rfl,i,ov,hir,hO,hl,hk1,hk2,hM,t2,t3,t15,t16,t17⟩
 have kdK:∀ n,decide (K.length+n<H.length)=false:=fun n=>df (by omega)
 have kdK0:decide (K.length<H.length)=false:=df (by omega)
 have kdd:decide (H.length+2<H.length)=false:=df (by omega)
 by_cases hi:i<d.comps.length
 ·obtain⟨c,hx⟩:∃ c,d.comps[i]?=some c:=⟨_,List.getElem?_eq_getElem hi⟩
  obtain⟨b,g,cells,rw_,c',hve,hb,⟨lv,hc',hlv⟩,hcl,hle,hld,hgt⟩:=h.at hx
  subst hc'
  have kb:=hO _ _ hb
  obtain⟨m0,mz⟩:=hz.c c (List.mem_of_getElem? hx)
  rw[hve] at t15
  obtain⟨la,le,hlf⟩:=hlv.form
  subst hlf
  have q0:(0:Int)≤(i:Int):=by omega
  have q1:(i:Int)<(d.comps.length:Int):=by omega
  have wi1:IntKind.i64.wrap ((i:Int)+1)=((i+1:Nat):Int):=by rw[wi (by omega) (by omega)];rfl
  (refine sg (et t2 (et t3 (et t15 (et t16 (et t17 (et (dt q1) (et q0 (et q1 (et Int.toNat_natCast (et Nat.zero_add (et kb (et hld (et kdK kdK0))))))))))))) ?_;try exact⟨⟩)
  refine keep (fun r2 T' K' D=>D=[]∧∃ (j:Nat) (vl:Value),j+r2=c.length∧Old K K'∧K.length+2≤K'.length∧K'[K.length+1]?=some ⟨[vl],0,true⟩∧MkRow 50 LyT (K.length+2) K' vl (c.take j)∧T' 2=ap (H.length+1) 0 0∧T' 3=ap (H.length+2) 0 0∧T' 15=sl b 0 g d.comps.length 1∧T' 16=.int .i64 (d.comps.length:Int)∧T' 17=.int .i64 (i:Int)∧T' 6=ap (K.length+1) 0 0∧T' 22=.slice la c.length le∧T' 23=.int .i64 (c.length:Int)∧T' 24=.int .i64 (j:Int)) c.length
   ⟨rfl,0,.slice none 0 0,by omega,Old.app' _ _,by simp,by rw[hget_app];rfl,.inl ⟨rfl,rfl⟩,by(refine sg t2 ?_;try exact⟨⟩),by(refine sg t3 ?_;try exact⟨⟩),by(refine sg t15 ?_;try exact⟨⟩),by(refine sg t16 ?_;try exact⟨⟩),by(refine sg t17 ?_;try exact⟨⟩),by(refine sg trivial ?_;try exact⟨⟩),by(refine sg trivial ?_;try exact⟨⟩),by(refine sg trivial ?_;try exact⟨⟩),by(refine sg trivial ?_;try exact⟨⟩) <;> rfl⟩ ?_
  rintro r2 T' K' D ⟨rfl,j,vl,hjr,hO2,hl2,hs,hMl,s2,s3,s15,s16,s17,s6,s22,s23,s24⟩
  have kdV:∀ n,decide (K'.length+n<H.length)=false:=fun n=>df (by omega)
  have kdV0:decide (K'.length<H.length)=false:=df (by omega)
  by_cases hj:j<c.length
  ·obtain⟨x,hxj⟩:∃ x,c[j]?=some x:=⟨_,List.getElem?_eq_getElem hj⟩
   have hzl:=mz x (List.mem_of_getElem? hxj)
   obtain⟨b2,g2,cells2,rw2,c2,hve2,hb2,⟨v0,v1,v2,v3,v4,v5,v6,v7,v8,pm,vw,vh,vp,vc,vd,vda,vf,vt,hc2,hLV,hSV⟩,hcl2,hle2,hld2,hgt2⟩:=hlv.at hxj
   subst hc2
   have kb2:=hO2 _ _ (hO _ _ hb2)
   rw[hve2] at s22
   have p0:(0:Int)≤(j:Int):=by omega
   have p1:(j:Int)<(c.length:Int):=by omega
   have wj1:IntKind.i64.wrap ((j:Int)+1)=((j+1:Nat):Int):=by rw[wi (by omega) (by omega)];rfl
   have hT:=take_snoc hxj
   have hTl:=take_len (l:=c) (i:=j) (by omega)
   (refine sg (et s2 (et s3 (et s15 (et s16 (et s17 (et s6 (et s22 (et s23 (et s24 (et (dt p1) (et p0 (et p1 (et Int.toNat_natCast (et Nat.zero_add (et kb2 (et hld2 (et kdV kdV0))))))))))))))))) ?_;try exact⟨⟩)
   refine drawnU [(0,3),(1,3)] (by decide +kernel) ?_
   (refine sg (et s6 (old_get hs)) ?_;try exact⟨⟩)
   refine(own_ x v0 v1 v2 v3 v4 v5 v6 v7 v8 pm vw vh vp vc vd vda vf vt _ ((hLV.old hO).old (hO2.app _)) ((hSV.old hO).old (hO2.app _)) hzl).x ?_
   rintro v H1 W1 ⟨rfl,⟨L,rfl⟩,w0,w1,w2,w3,w4,w5,w6,w7,w8,wm,ww,wh,wp,wc,wd,wda,wf,wt,rfl,hr⟩
   have hKV:K'.length+1=(K'++[(⟨lyVs x v0 v1 v2 v3 v4 v5 v6 v7 v8 pm vw vh vp vc vd vda vf vt,0,true⟩:Blk)]).length:=by simp
   have hr':Dep (K'.length+1) (K'++[(⟨lyVs x v0 v1 v2 v3 v4 v5 v6 v7 v8 pm vw vh vp vc vd vda vf vt,0,true⟩:Blk)]++L) (fun J=>LyT J (lyVs x w0 w1 w2 w3 w4 w5 w6 w7 w8 wm ww wh wp wc wd wda wf wt) x):=by
    rw[hKV];exact hr.map fun _ r=>⟨_,_,_,_,_,_,_,_,_,_,_,_,_,_,_,_,_,_,rfl,r⟩
   have hoV:Old K' (K'++[(⟨lyVs x v0 v1 v2 v3 v4 v5 v6 v7 v8 pm vw vh vp vc vd vda vf vt,0,true⟩:Blk)]++L):=(Old.app' _ _).app _
   have hVl:K'.length+1≤(K'++[(⟨lyVs x v0 v1 v2 v3 v4 v5 v6 v7 v8 pm vw vh vp vc vd vda vf vt,0,true⟩:Blk)]++L).length:=by rw[List.length_append,← hKV];omega
   clear hr hKV
   generalize K'++[(⟨lyVs x v0 v1 v2 v3 v4 v5 v6 v7 v8 pm vw vh vp vc vd vda vf vt,0,true⟩:Blk)]++L=V at *
   have g7:=hoV _ _ hs
   have kdv:∀ n,decide (V.length+n<H.length)=false:=fun n=>df (by omega)
   have kdv0:decide (V.length<H.length)=false:=df (by omega)
   have kds:decide (K.length+1<H.length)=false:=df (by omega)
   have hO3:Old K V:=hO2.trans hoV
   rcases hMl with ⟨htn,rfl⟩|⟨bo,go,ces,hbo,rfl,hkb,hces,hel⟩
   ·have hM3:MkRow 50 LyT (K.length+2) (V++[⟨lyVs x w0 w1 w2 w3 w4 w5 w6 w7 w8 wm ww wh wp wc wd wda wf wt,0,true⟩,⟨lyVs x w0 w1 w2 w3 w4 w5 w6 w7 w8 wm ww wh wp wc wd wda wf wt,0,true⟩]) (sl (V.length+1) 0 0 1 50) [x]:=
     MkRow.first (c:=lyVs x w0 w1 w2 w3 w4 w5 w6 w7 w8 wm ww wh wp wc wd wda wf wt) ((hr'.dex (b:=V.length+1) (n0:=K.length+2) (by omega) (.inr (by omega))).olx (Olx.old (Old.app' V _))) rfl (by rw[hget_app];rfl) (by omega)
    have hM4:=hM3.olt (Olx.set0 (K.length+1) _ ⟨[sl (V.length+1) 0 0 1 50],0,true⟩) (by omega)
    have hs3:∀ L X,((V++L).set (K.length+1) X)[K.length+1]?=some X:=fun L X=>List.getElem?_set_self (by rw[List.length_append];omega)
    (refine sg (et s6 (et g7 (et (old_get g7) (et kdv (et kdv0 (et kds (et wj1 (et s2 (et s3 (et s15 (et s16 (et s17 (et s22 (et s23 s24)))))))))))))) ?_;try exact⟨⟩)
    exact⟨r2 - 1,by omega,j+1,_,by omega,(hO3.app _).olx (Olx.set0 _ _ _) (by omega),by omega,hs3 _ _,by rw[hT,htn];exact hM4,hve2.symm,rfl⟩
   ·have hkv:=hoV _ _ hkb
    have hkl:=(List.getElem?_eq_some_iff.1 hkb).1
    have hel':∀ (i:Nat) (x:Ly),(c.take j)[i]?=some x→∃ c,ces[i]?=some c∧c.length=50∧Dex (K.length+2) bo V (fun J=>LyT J c x):=fun i x hx=>by obtain⟨c,e1,e2,e3⟩:=hel i x hx;exact⟨c,e1,e2,e3.olx (Olx.old hoV)⟩
    have hfl:=flatten_len (RowOf.all hces hel)
    rw[hces,hTl] at hfl
    have db0:decide (bo<H.length)=false:=df (by omega)
    have hsm:(j+1)*608 - 140737488355328=0:=Nat.sub_eq_zero_of_le (Nat.le_trans (Nat.mul_le_mul_right 608 (show j+1≤1001 by omega)) (by decide))
    have hsm2:j+1 - 140737488355328=0:=Nat.sub_eq_zero_of_le (Nat.le_trans (show j+1≤1001 by omega) (by decide))
    have f1:∀ P L,(V.set bo P++L)[K.length+1]?=V[K.length+1]?:=fun P L=>by rw[old_get (by rw[List.getElem?_set_ne (by omega)];exact g7) L,g7]
    have hM3:=MkRow.next (E:=LyT) (n0:=K.length+2) (K:=V) (J:=V.set bo ⟨ces.flatten++lyVs x w0 w1 w2 w3 w4 w5 w6 w7 w8 wm ww wh wp wc wd wda wf wt,go+1,true⟩++[⟨lyVs x w0 w1 w2 w3 w4 w5 w6 w7 w8 wm ww wh wp wc wd wda wf wt,0,true⟩]) (g':=go+1) hbo hces hel' (Olx.set1 _ _ _ _) ((hr'.dex (b:=bo) (n0:=K.length+2) (by omega) (.inl (by omega))).olx (Olx.set1 _ _ _ _)) rfl (old_sget hkv _ _)
    have hM4:=hM3.olt (Olx.set0 (K.length+1) _ ⟨[sl bo 0 (go+1) (j+1) 50],0,true⟩) (by omega)
    rw[hTl] at hM4
    have hs3:∀ P L X,((V.set bo P++L).set (K.length+1) X)[K.length+1]?=some X:=fun P L X=>List.getElem?_set_self (by rw[List.length_append,List.length_set];omega)
    (refine sg (et s6 (et hTl (et g7 (et (old_get g7) (et (old_get hkv) (et (old_set hkv) (et f1 (et hfl (et hsm (et hsm2 (et db0 (et kdv (et kdv0 (et kds (et wj1 (et s2 (et s3 (et s15 (et s16 (et s17 (et s22 (et s23 s24)))))))))))))))))))))) ?_;try exact⟨⟩)
    exact⟨r2 - 1,by omega,j+1,_,by omega,((hO3.olx (Olx.set1 _ _ _ _) (by omega)).olx (Olx.set0 _ _ _) (by omega)),by omega,hs3 _ _ _,by rw[hT];exact hM4,hve2.symm,rfl⟩
  ·have hjc:j=c.length:=by omega
   have gz:=hO2 _ _ hk1
   have gd:=hO2 _ _ hk2
   have hMl':MkRow 50 LyT (K.length+2) K' vl c:=by rwa [List.take_of_length_le (by omega)] at hMl
   have hTx:=take_snoc hx
   have hTl:=take_len (l:=d.comps) (i:=i) (by omega)
   obtain⟨va,ve,hvl⟩:=hMl'.form
   subst hvl
   have hr':CoI (K.length+2) K'.length K' [.slice va c.length ve] c:=⟨_,rfl,hMl'.whole⟩
   have hOK:Old H K':=hO.trans hO2
   rcases hM with ⟨htn,rfl⟩|⟨bo,go,ces,hbo,rfl,hkb,hces,hel⟩
   ·have hM3:MkI (H.length+3) (K'++[⟨[.slice va c.length ve],0,true⟩,⟨[.slice va c.length ve],0,true⟩]) (sl (K'.length+1) 0 0 1 1) [c]:=
     MkI.first (lo:=K.length+2) (hi:=K'.length) (hr'.mono (fun b k _ _ e=>old_get e _)) (by rw[hget_app];rfl) (by omega) (by omega) (by rw[List.length_append];omega) (.inr (by omega))
    have hM4:=hM3.olt (Olx.set0 (H.length+2) _ ⟨[.int .i64 d.in_,.int .i64 d.out,sl (K'.length+1) 0 0 1 1],0,true⟩) (by omega)
    have hd3:∀ L X,((K'++L).set (H.length+2) X)[H.length+2]?=some X:=fun L X=>List.getElem?_set_self (by rw[List.length_append];omega)
    have hz3:∀ L X,((K'++L).set (H.length+2) X)[H.length+1]?=some ⟨[.int .i64 0,.int .i64 0,.slice none 0 0],0,true⟩:=fun L X=>by rw[List.getElem?_set_ne (by omega)];exact old_get gz _
    (refine sg (et s2 (et s3 (et s15 (et s16 (et s17 (et s6 (et s22 (et s23 (et s24 (et (df (show ¬ (j:Int)<((c.length:Nat):Int) by omega)) (et hs (et (old_get hs) (et gd (et (old_get gd) (et kdV (et kdV0 (et kdd wi1))))))))))))))))) ?_;try exact⟨⟩)
    exact⟨r - 1,by omega,i+1,_,by omega,(hOK.app _).olx (Olx.set0 _ _ _) (by omega),by omega,hz3 _ _,hd3 _ _,by rw[hTx,htn];exact hM4,hve.symm,rfl⟩
   ·have hkv:=hO2 _ _ hkb
    have hkl:=(List.getElem?_eq_some_iff.1 hkb).1
    have hfl:=flatten_len (MkI.all hces hel)
    rw[hces,hTl] at hfl
    have db0:decide (bo<H.length)=false:=df (by omega)
    have hsm:(i+1)*24 - 140737488355328=0:=Nat.sub_eq_zero_of_le (Nat.le_trans (Nat.mul_le_mul_right 24 (show i+1≤1001 by omega)) (by decide))
    have hsm2:i+1 - 140737488355328=0:=Nat.sub_eq_zero_of_le (Nat.le_trans (show i+1≤1001 by omega) (by decide))
    have f1:∀ P L,(K'.set bo P++L)[H.length+2]?=K'[H.length+2]?:=fun P L=>by rw[old_get (by rw[List.getElem?_set_ne (by omega)];exact gd) L,gd]
    have hM3:=MkI.next (n0:=H.length+3) (K:=K) (J:=K'.set bo ⟨ces.flatten++[.slice va c.length ve],go+1,true⟩++[⟨[.slice va c.length ve],0,true⟩]) (g':=go+1) (lo:=K.length+2) (hi:=K'.length) hbo hces hel (fun c k hc e=>Olx.set1 _ _ _ _ c k hc (hO2 _ _ e)) (hr'.mono (fun b k h1 _ e=>Olx.set1 _ _ _ _ b k (by omega) e)) (old_sget hkv _ _) (by omega) (by omega) (by rw[List.length_append,List.length_set];omega) (by rw[List.length_append,List.length_set];omega) (.inl (by omega))
    have hM4:=hM3.olt (Olx.set0 (H.length+2) _ ⟨[.int .i64 d.in_,.int .i64 d.out,sl bo 0 (go+1) (i+1) 1],0,true⟩) (by omega)
    rw[hTl] at hM4
    have hd3:∀ P L X,((K'.set bo P++L).set (H.length+2) X)[H.length+2]?=some X:=fun P L X=>List.getElem?_set_self (by rw[List.length_append,List.length_set];omega)
    have hz3:∀ P L X,((K'.set bo P++L).set (H.length+2) X)[H.length+1]?=some ⟨[.int .i64 0,.int .i64 0,.slice none 0 0],0,true⟩:=fun P L X=>by rw[List.getElem?_set_ne (by omega)];exact old_get (by rw[List.getElem?_set_ne (by omega)];exact gz) _
    (refine sg (et s2 (et s3 (et s15 (et s16 (et s17 (et s6 (et s22 (et s23 (et s24 (et hTl (et (df (show ¬ (j:Int)<((c.length:Nat):Int) by omega)) (et hs (et (old_get hs) (et gd (et (old_get gd) (et f1 (et (old_get hkv) (et (old_set hkv) (et hfl (et hsm (et hsm2 (et db0 (et kdV (et kdV0 (et kdd wi1))))))))))))))))))))))))) ?_;try exact⟨⟩)
    exact⟨r - 1,by omega,i+1,_,by omega,((hOK.olx (Olx.set1 _ _ _ _) (by omega)).olx (Olx.set0 _ _ _) (by omega)),by omega,hz3 _ _ _,hd3 _ _ _,by rw[hTx];exact hM4,hve.symm,rfl⟩
 ·have hil:i=d.comps.length:=by omega
  rw[List.take_of_length_le (by omega)] at hM
  have g9:∀ X,(K.set (H.length+1) X)[H.length+1]?=some X:=fun X=>List.getElem?_set_self (by omega)
  have kd1:decide (H.length+1<H.length)=false:=df (by omega)
  (refine sg (et t2 (et t3 (et t15 (et t16 (et t17 (et (df (show ¬ (i:Int)<((d.comps.length:Nat):Int) by omega)) (et hk1 (et hk2 (et g9 kd1))))))))) ?_;try exact⟨⟩)
  exact⟨_,rfl,(hM.olt (Olx.set0 _ _ _) (by omega)).low (by omega)⟩
end Go.Proofs.YthhbglkokpablaaGreat
/- Comps laid open: what the walk of Open needs. -/
namespace Go.Proofs.YthhbglkokpablaaGreat
open Go Go.RowKit E
theorem semcal {P:Program} {f:FuncId} {args:List Value} {H:AH} {v:Value} {H':AH} {W:List Nat} (h:SemCall P f args H v H' W):Cal P f args H fun v' H'' W'=>v'=v∧H''=H'∧W'=W:=SemCall.x (Q:=⟨fun v' H'' W'=>v'=v∧H''=H'∧W'=W⟩) h ⟨rfl,rfl,rfl⟩
attribute [local irreducible] XRun XOps XCode XCal XLoop XQ SemCall
set_option linter.unusedSimpArgs false
set_option linter.unusedVariables false
/-- The cells of layers, in all blocks of which Q is true. -/
def ElQ (Q:AH→Prop) (cs:List (List Value)) (l:List Ly):Prop:=cs.length=l.length∧∀ (i:Nat) x,l[i]?=some x→∃ v0 v1 v2 v3 v4 v5 v6 v7 v8 v9 v10 v11 v12 v13 v14 v15 v16 v17,cs[i]?=some (lyVs x v0 v1 v2 v3 v4 v5 v6 v7 v8 v9 v10 v11 v12 v13 v14 v15 v16 v17)∧∀ J,Q J→LyV J x v0 v1 v2 v3 v4 v5 v6 v7 v8 v9∧ShV J x.shape v10 v11 v12 v13 v14 v15 v16 v17
theorem ElQ.all {Q:AH→Prop} {cs:List (List Value)} {l:List Ly} (h:ElQ Q cs l):∀ c∈cs,c.length=50:=fun c hc=>by
 obtain⟨i,hi⟩:=List.getElem?_of_mem hc
 have hl:=(List.getElem?_eq_some_iff.1 hi).1
 obtain⟨_,_,_,_,_,_,_,_,_,_,_,_,_,_,_,_,_,_,e,_⟩:=h.2 i _ (List.getElem?_eq_getElem (by rw[← h.1];exact hl))
 rw[hi] at e;cases e;rfl
theorem ElQ.imp {Q R:AH→Prop} {cs:List (List Value)} {l:List Ly} (h:ElQ Q cs l) (hq:∀ J,R J→Q J):ElQ R cs l:=
 ⟨h.1,fun i x hx=>by
  obtain⟨v0,v1,v2,v3,v4,v5,v6,v7,v8,v9,v10,v11,v12,v13,v14,v15,v16,v17,e1,e2⟩:=h.2 i x hx
  exact⟨v0,v1,v2,v3,v4,v5,v6,v7,v8,v9,v10,v11,v12,v13,v14,v15,v16,v17,e1,fun J hJ=>e2 J (hq J hJ)⟩⟩
theorem ElQ.set {Q:AH→Prop} {cs:List (List Value)} {l:List Ly} (h:ElQ Q cs l) (i:Nat) {y:Ly} {v0 v1 v2 v3 v4 v5 v6 v7 v8 v9 v10 v11 v12 v13 v14 v15 v16 v17:Value} (hy:∀ J,Q J→LyV J y v0 v1 v2 v3 v4 v5 v6 v7 v8 v9∧ShV J y.shape v10 v11 v12 v13 v14 v15 v16 v17):ElQ Q (cs.set i (lyVs y v0 v1 v2 v3 v4 v5 v6 v7 v8 v9 v10 v11 v12 v13 v14 v15 v16 v17)) (l.set i y):=
 ⟨by rw[List.length_set,List.length_set,h.1],fun n x hx=>by
  by_cases hn:i=n
  ·subst hn
   have hl:=(List.getElem?_eq_some_iff.1 hx).1
   rw[List.length_set] at hl
   rw[List.getElem?_set_self hl] at hx
   cases hx
   exact⟨v0,v1,v2,v3,v4,v5,v6,v7,v8,v9,v10,v11,v12,v13,v14,v15,v16,v17,List.getElem?_set_self (by rw[h.1];exact hl),hy⟩
  ·rw[List.getElem?_set_ne hn] at hx ⊢
   exact h.2 n x hx⟩
theorem ElQ.app {Q:AH→Prop} {cs ds:List (List Value)} {l m:List Ly} (h:ElQ Q cs l) (h':ElQ Q ds m):ElQ Q (cs++ds) (l++m):=
 ⟨by rw[List.length_append,List.length_append,h.1,h'.1],fun n x hx=>by
  by_cases hn:n<l.length
  ·rw[List.getElem?_append_left hn] at hx
   rw[List.getElem?_append_left (by rw[h.1];exact hn)]
   exact h.2 n x hx
  ·rw[List.getElem?_append_right (by omega)] at hx
   rw[List.getElem?_append_right (by rw[h.1];omega),h.1]
   exact h'.2 _ x hx⟩
theorem ElQ.take {Q:AH→Prop} {cs:List (List Value)} {l:List Ly} (h:ElQ Q cs l) (n:Nat):ElQ Q (cs.take n) (l.take n):=
 ⟨by rw[List.length_take,List.length_take,h.1],fun i x hx=>by
  have hi:=(List.getElem?_eq_some_iff.1 hx).1
  rw[List.length_take] at hi
  rw[List.getElem?_take_of_lt (by omega)] at hx ⊢
  exact h.2 i x hx⟩
theorem ElQ.drop {Q:AH→Prop} {cs:List (List Value)} {l:List Ly} (h:ElQ Q cs l) (n:Nat):ElQ Q (cs.drop n) (l.drop n):=
 ⟨by rw[List.length_drop,List.length_drop,h.1],fun i x hx=>by
  rw[List.getElem?_drop] at hx ⊢
  exact h.2 _ x hx⟩
theorem ElQ.row {Q:AH→Prop} {cs:List (List Value)} {l:List Ly} (h:ElQ Q cs l) {J:AH} (hJ:Q J) {b g:Nat} (hk:J[b]?=some ⟨cs.flatten,g,true⟩) (hl:l.length≤1000):RowOf 50 LyE J (sl b 0 g l.length 50) l:=
 .inr ⟨b,g,[],true,cs,rfl,by rw[List.append_nil];exact hk,h.1,by omega,fun i x hx=>by
  obtain⟨v0,v1,v2,v3,v4,v5,v6,v7,v8,v9,v10,v11,v12,v13,v14,v15,v16,v17,e1,e2⟩:=h.2 i x hx
  exact⟨_,e1,rfl,_,_,_,_,_,_,_,_,_,_,_,_,_,_,_,_,_,_,rfl,e2 J hJ⟩⟩
theorem set_same {α:Type} {l:List α} {n:Nat} {x:α} (h:l[n]?=some x):l.set n x=l:=by
 refine List.ext_getElem? fun m=>?_
 by_cases hm:n=m
 ·subst hm
  rw[List.getElem?_set_self (List.getElem?_eq_some_iff.1 h).1,h]
 ·rw[List.getElem?_set_ne hm]
theorem wsub6 (a s:Int):wr6 (wr6 a - s)=wr6 (a - s):=by
 simp[IntKind.wrap,IntKind.bits,IntKind.signed];omega
theorem flat_take {s:Nat}:∀ {cs:List (List Value)} (n:Nat),(∀ c∈cs,c.length=s)→cs.flatten.take (n*s)=(cs.take n).flatten
 | [],n,_=>by simp
 | c::cs,0,_=>by simp
 | c::cs,n+1,h=>by
  have hc:=h c (List.mem_cons_self ..)
  have:=flat_take (s:=s) (cs:=cs) n fun d hd=>h d (List.mem_cons_of_mem _ hd)
  rw[List.flatten_cons,List.take_succ_cons,List.flatten_cons,show (n+1)*s=c.length+n*s by rw[Nat.add_mul,hc];omega,List.take_length_add_append,this]
theorem flat_drop {s:Nat}:∀ {cs:List (List Value)} (n:Nat),(∀ c∈cs,c.length=s)→cs.flatten.drop (n*s)=(cs.drop n).flatten
 | [],n,_=>by simp
 | c::cs,0,_=>by simp
 | c::cs,n+1,h=>by
  have hc:=h c (List.mem_cons_self ..)
  have:=flat_drop (s:=s) (cs:=cs) n fun d hd=>h d (List.mem_cons_of_mem _ hd)
  rw[List.flatten_cons,List.drop_succ_cons,show (n+1)*s=c.length+n*s by rw[Nat.add_mul,hc];omega,List.drop_length_add_append,this]
/-- A comp of a copy: its row of layers, where it lies. -/
theorem CoI.split {lo hi:Nat} {K:AH} {c:List Value} {ls:List Ly} (h:CoI lo hi K c ls) (hh:hi≤K.length):∃ w,c=[w]∧((ls=[]∧w=.slice none 0 0)∨∃ lb g cs,lo≤lb∧lb<hi∧w=sl lb 0 g ls.length 50∧K[lb]?=some ⟨cs.flatten,g,true⟩∧ElQ (fun J=>∀ (b:Nat) (k:Blk),lo≤b→b<hi→b≠lb→K[b]?=some k→J[b]?=some k) cs ls):=by
 obtain⟨w,h1,h2⟩:=h
 refine⟨w,h1,?_⟩
 have ht:∀ b,b<hi→(K.take hi)[b]?=K[b]?:=fun b hb=>List.getElem?_take_of_lt hb
 rcases h2 (K.take hi) (fun b k _ hb e=>by rw[ht b hb];exact e) with h3|⟨lb,g,cs,h3,h4,h5,h6,h7⟩
 ·exact .inl h3
 ·have hlb:lb<hi:=by
   have:=(List.getElem?_eq_some_iff.1 h5).1
   rw[List.length_take] at this;omega
  refine .inr ⟨lb,g,cs,h3,hlb,h4,by rw[← ht lb hlb];exact h5,h6,fun i x hx=>?_⟩
  obtain⟨c,e1,e2,e3⟩:=h7 i x hx
  have hI:∀ J,(∀ (b:Nat) (k:Blk),lo≤b→b<hi→b≠lb→K[b]?=some k→J[b]?=some k)→LyT J c x:=fun J hJ=>e3 J fun b k a1 a2 e=>by
   have hb:b<hi:=by
    have:=(List.getElem?_eq_some_iff.1 e).1
    rw[List.length_take] at this;omega
   exact hJ b k a1 hb a2 (by rw[← ht b hb];exact e)
  obtain⟨v0,v1,v2,v3,v4,v5,v6,v7,v8,v9,v10,v11,v12,v13,v14,v15,v16,v17,rfl,_⟩:=hI K (fun _ _ _ _ _ e=>e)
  refine⟨v0,v1,v2,v3,v4,v5,v6,v7,v8,v9,v10,v11,v12,v13,v14,v15,v16,v17,e1,fun J hJ=>?_⟩
  obtain⟨w0,w1,w2,w3,w4,w5,w6,w7,w8,w9,w10,w11,w12,w13,w14,w15,w16,w17,e,⟨h8,h9⟩,_⟩:=hI J hJ
  cases e
  exact⟨h8,h9⟩
theorem CoI.row {lo hi:Nat} {K:AH} {c:List Value} {ls:List Ly} (h:CoI lo hi K c ls) (hl:ls.length≤1000):CoE K c ls:=by
 obtain⟨w,h1,h2⟩:=h
 exact⟨w,h1,((h2 K fun _ _ _ _ e=>e).dep (by omega)).here.sub fun _ _=>LyT.e⟩
set_option maxHeartbeats 4000000 in
theorem lConcat0_ (rows:List Pc) (ab g0:Nat) (rw_:Bool) (H:AH) (hk:H[ab]?=some ⟨rows.map (·.v),g0,rw_⟩) (hp:∀ p∈rows,PcOk H p) (hr:rows.length≤1000) (h0:pcN rows=0) :
  SemCall Tryz.prog 25 [sl ab 0 g0 rows.length 1] H (.slice none 0 0) H []:=by
 have hz:∀ p∈rows,p.n=0:=by
  clear hk hp hr
  induction rows with
  | nil=>intro p hp;cases hp
  | cons q l ih=>
   have e:pcN (q::l)=q.n+pcN l:=rfl
   rw[e] at h0
   intro p hp
   rcases List.mem_cons.1 hp with rfl|hp
   ·omega
   ·exact ih (by omega) p hp
 have hz2:∀ i,pcN (rows.take i)=0:=fun i=>by have:=pcN_le (l:=rows) i;omega
 refine pure_of ?_ rfl
 refine XCal.of hm Tryz.func25 rfl (fun xs w=>Tryz.call25 xs w) Tryz.ntmps25 Tryz.results25 rfl ?_
 (refine sg trivial ?_;try exact⟨⟩)
 refine keep (fun r T K D=>D=[]∧K=H∧∃ (i:Nat),i+r=rows.length∧T 0=sl ab 0 g0 rows.length 1∧T 3=.int .i64 0∧T 9=sl ab 0 g0 rows.length 1∧T 10=.int .i64 (rows.length:Int)∧T 11=.int .i64 (i:Int)) rows.length
  ⟨rfl,rfl,0,by omega,by(refine sg trivial ?_;try exact⟨⟩),by(refine sg trivial ?_;try exact⟨⟩),by(refine sg trivial ?_;try exact⟨⟩),by(refine sg trivial ?_;try exact⟨⟩),by(refine sg trivial ?_;try exact⟨⟩) <;> rfl⟩ ?_
 rintro r T K D ⟨rfl,hK,i,hir,t0,t3,t9,t10,t11⟩
 subst hK
 by_cases hi:i<rows.length
 ·obtain⟨p,hx⟩:∃ p,rows[i]?=some p:=⟨_,List.getElem?_eq_getElem hi⟩
  obtain⟨⟨a,e,hv⟩,hcl,hs⟩:=hp p (List.mem_of_getElem? hx)
  have hpn:=hz p (List.mem_of_getElem? hx)
  rw[hpn] at hv
  have hc0:(rows.map (·.v))[i*1]?=some (.slice a 0 e):=by rw[Nat.mul_one,List.getElem?_map,hx,← hv];rfl
  have q0:(0:Int)≤(i:Int):=by omega
  have q1:(i:Int)<(rows.length:Int):=by omega
  have w1:IntKind.i64.wrap ((i:Int)+1)=((i+1:Nat):Int):=by rw[wi (by omega) (by omega)];rfl
  have w2:IntKind.i64.wrap ((0:Int)+((0:Nat):Int))=0:=by decide
  have w3:IntKind.i64.wrap 0=0:=by decide
  (refine sg (et t0 (et t3 (et t9 (et t10 (et t11 (et (dt q1) (et q0 (et q1 (et Int.toNat_natCast (et Nat.zero_add (et hk (et hc0 (et w1 (et w2 (et w3 (et Int.ofNat_zero Int.add_zero)))))))))))))))) ?_;try exact⟨⟩)
  exact⟨r - 1,by omega,i+1,by omega,rfl⟩
 ·(refine sg (et t0 (et t3 (et t9 (et t10 (et t11 (df (show ¬ (i:Int)<(rows.length:Int) by omega))))))) ?_;try exact⟨⟩)
  refine(lGrow_ 0 K (by omega)).x ?_
  rintro v H1 W1 ⟨rfl,_,⟨_,rfl,rfl⟩|⟨hpos,_⟩⟩
  case inr=>omega
  (refine sg t0 ?_;try exact⟨⟩)
  refine keep (fun r T J D=>D=[]∧J=H1∧∃ (i:Nat),i+r=rows.length∧T 6=.slice none 0 0∧T 25=sl ab 0 g0 rows.length 1∧T 26=.int .i64 (rows.length:Int)∧T 27=.int .i64 (i:Int)) rows.length
   ⟨rfl,rfl,0,by omega,by(refine sg trivial ?_;try exact⟨⟩),by(refine sg t0 ?_;try exact⟨⟩),by(refine sg trivial ?_;try exact⟨⟩),by(refine sg trivial ?_;try exact⟨⟩) <;> rfl⟩ ?_
  rintro r2 T2 J D ⟨rfl,rfl,j,hjr,s6,s25,s26,s27⟩
  by_cases hj:j<rows.length
  ·obtain⟨p,hx⟩:∃ p,rows[j]?=some p:=⟨_,List.getElem?_eq_getElem hj⟩
   obtain⟨⟨a,e,hv⟩,hcl,hs⟩:=hp p (List.mem_of_getElem? hx)
   obtain⟨bs,hsrc,hbs⟩:=hs J (Old.refl _)
   have hpn:=hz p (List.mem_of_getElem? hx)
   have hcs:p.cs=[]:=List.eq_nil_of_length_eq_zero (by omega)
   rw[hv,hcs] at hsrc
   rw[hpn] at hv hsrc
   have hc0:(rows.map (·.v))[j*1]?=some (.slice a 0 e):=by rw[Nat.mul_one,List.getElem?_map,hx,← hv];rfl
   have q0:(0:Int)≤(j:Int):=by omega
   have q1:(j:Int)<(rows.length:Int):=by omega
   have w1:IntKind.i64.wrap ((j:Int)+1)=((j+1:Nat):Int):=by rw[wi (by omega) (by omega)];rfl
   (refine sg (et s6 (et s25 (et s26 (et s27 (et (dt q1) (et q0 (et q1 (et Int.toNat_natCast (et Nat.zero_add (et hk (et hc0 (et hsrc w1)))))))))))) ?_;try exact⟨⟩)
   exact⟨r2 - 1,by omega,j+1,by omega,rfl⟩
  ·(refine sg (et s6 (et s25 (et s26 (et s27 (df (show ¬ (j:Int)<(rows.length:Int) by omega)))))) ?_;try exact⟨⟩)
/-- A part of a row of layers, to be put behind others. -/
theorem pcok_sl {P:AH} {lb g m n:Nat} {rw_:Bool} {ks:List (List Value)} (hk:P[lb]?=some ⟨ks.flatten,g,rw_⟩) (hall:∀ c∈ks,c.length=50) (hm:m+n≤ks.length):PcOk P ⟨sl lb (m*50) g n 50,((ks.drop m).take n).flatten,n⟩:=by
 have hfk:=flatten_len hall
 have hd:∀ c∈ks.drop m,c.length=50:=fun c hc=>hall c (List.mem_of_mem_drop hc)
 have hl:((ks.drop m).take n).flatten.length=n*50:=by
  rw[flatten_len fun c hc=>hd c (List.mem_of_mem_take hc),List.length_take,List.length_drop,Nat.min_eq_left (by omega)]
 refine⟨⟨_,_,rfl⟩,hl,fun J o=>?_⟩
 have hlt:=(List.getElem?_eq_some_iff.1 hk).1
 show ∃ bs,asrc J 50 (.slice (some ⟨lb,m*50,some g⟩) n 50)=some (((ks.drop m).take n).flatten,n,bs)∧_
 rw[asrc_sl,o _ _ hk]
 by_cases hn:n=0
 ·subst hn
  exact⟨[],by rw[asy_zero];simp,fun x hx=>by cases hx⟩
 ·refine⟨[lb],?_,fun x hx=>by rw[List.mem_singleton.1 hx];exact hlt⟩
  rw[asy_some (eq_false hn) (by rw[hfk];omega),flat_drop m hall,flat_take n hd]
theorem pcok_nil {P:AH}:PcOk P ⟨.slice none 0 0,[],0⟩:=⟨⟨_,_,rfl⟩,rfl,fun J _=>⟨[],asrc_nil,fun x hx=>by cases hx⟩⟩
end Go.Proofs.YthhbglkokpablaaGreat
/- Comps laid open: the walk of Open (printed by genLayB.py). -/
namespace Go.Proofs.YthhbglkokpablaaGreat
open Go Go.RowKit E
attribute [local irreducible] XRun XOps XCode XCal XLoop XQ SemCall
set_option linter.unusedSimpArgs false
set_option linter.unusedVariables false
set_option maxRecDepth 100000 in
set_option maxHeartbeats 16000000 in
theorem open_ (d:Dc) (cv:Value) (c k:Int) (H:AH) (h:Cos H cv d.comps) (hz:DcS d) :
  Cal Tryz.prog 13 [dcV d cv,.int .i64 c,.int .i64 k] H fun v H' W=>W=[]∧(∃ L,H'=H++L)∧((¬ mayE d c k=0∧v=.tuple #[dcV ⟨0,0,[]⟩ (.slice none 0 0),.int .i64 (mayE d c k)])∨(mayE d c k=0∧∃ cw,v=.tuple #[dcV (openE d c.toNat k.toNat) cw,.int .i64 0]∧Dep H.length H' (fun J=>Cos J cw (openE d c.toNat k.toNat).comps))):=by
 refine adds_of ?_
 have kd:∀ n,decide (H.length+n<H.length)=false:=fun n=>df (by omega)
 have kd0:decide (H.length<H.length)=false:=df (by omega)
 have hln:=h.len
 have hn0:=hz.n
 obtain⟨ca,ce,hcf⟩:=h.form
 subst hcf
 refine XCal.of hm Tryz.func13 rfl (fun xs w=>Tryz.call13 xs w) Tryz.ntmps13 Tryz.results13 rfl ?_
 (refine sg (et kd kd0) ?_;try exact⟨⟩)
 have c1:=fun L=>may_ d _ c k (H++L) (h.old CoE.m (Old.app' _ L)) hz
 refine(c1 _).x ?_
 by_cases h0:mayE d c k=0
 case neg=>
  (refine sg (et kd (et kd0 (nf h0))) ?_;try exact⟨⟩)
  exact .inl h0
 obtain⟨i,j,ls,l,li,rfl,rfl,ho⟩:=may_open h0
 have hil:=(List.getElem?_eq_some_iff.1 ho.ec).1
 have hjl:=(List.getElem?_eq_some_iff.1 ho.ek).1
 have hml:=(List.getElem?_eq_some_iff.1 ho.eli).1
 obtain⟨hs1,hs2⟩:=hz.c ls (List.mem_of_getElem? ho.ec)
 obtain⟨hi1,hi2⟩:=hz.c li (List.mem_of_getElem? ho.eli)
 have q0:(0:Int)≤(i:Int):=by omega
 have q1:(i:Int)<(d.comps.length:Int):=by omega
 have p0:(0:Int)≤(j:Int):=by omega
 have p1:(j:Int)<(ls.length:Int):=by omega
 have m0:(0:Int)≤l.comp:=by have:=ho.cm;omega
 have m1:l.comp<(d.comps.length:Int):=ho.cm.2
 (refine sg (et kd (et kd0 (nt h0))) ?_;try exact⟨⟩)
 have oG:Old H (H++[(⟨[.int .i64 d.in_,.int .i64 d.out,.slice ca d.comps.length ce],0,true⟩:Blk),⟨[.int .i64 0,.int .i64 0,.slice none 0 0],0,true⟩]):=Old.app' _ _
 have gG0:(H++[(⟨[.int .i64 d.in_,.int .i64 d.out,.slice ca d.comps.length ce],0,true⟩:Blk),⟨[.int .i64 0,.int .i64 0,.slice none 0 0],0,true⟩])[H.length]?=some ⟨[.int .i64 d.in_,.int .i64 d.out,.slice ca d.comps.length ce],0,true⟩:=by rw[hget_app0];rfl
 have gG1:(H++[(⟨[.int .i64 d.in_,.int .i64 d.out,.slice ca d.comps.length ce],0,true⟩:Blk),⟨[.int .i64 0,.int .i64 0,.slice none 0 0],0,true⟩])[H.length+1]?=some ⟨[.int .i64 0,.int .i64 0,.slice none 0 0],0,true⟩:=by rw[hget_app];rfl
 have lG:(H++[(⟨[.int .i64 d.in_,.int .i64 d.out,.slice ca d.comps.length ce],0,true⟩:Blk),⟨[.int .i64 0,.int .i64 0,.slice none 0 0],0,true⟩]).length=H.length+2:=by simp
 generalize (H++[(⟨[.int .i64 d.in_,.int .i64 d.out,.slice ca d.comps.length ce],0,true⟩:Blk),⟨[.int .i64 0,.int .i64 0,.slice none 0 0],0,true⟩])=G at *
 refine(copy2_ d _ G (h.old CoE.m oG) hz).x ?_
 rintro v V1 W1 ⟨rfl,⟨L1,rfl⟩,cw1,rfl,hM1⟩
 have oV1:Old G (G++L1):=Old.app' _ _
 have lV1:G.length≤(G++L1).length:=by rw[List.length_append];omega
 generalize G++L1=V1 at *
 have kdV:∀ n,decide (V1.length+n<H.length)=false:=fun n=>df (by omega)
 have kdV0:decide (V1.length<H.length)=false:=df (by omega)
 rcases hM1 with ⟨hnil,_⟩|⟨cb,gc,ces,hcb,rfl,hkc,hcl,lo,hi,hP⟩
 ·rw[hnil] at hil;simp at hil
 obtain⟨⟨ci,eci,hci⟩,a1,a2,a3,a4⟩:=hP i ls ho.ec
 obtain⟨w,rfl,⟨hls,_⟩|⟨lb,gl,lcs,hlb1,hlb2,rfl,hkl,hE1⟩⟩:=hci.split a2
 ·rw[hls] at hjl;simp at hjl
 obtain⟨QI,hQIe⟩:∃ Q:AH→Prop,Q=(fun J=>∀ (b:Nat) (k:Blk),lo i≤b→b<hi i→b≠lb→V1[b]?=some k→J[b]?=some k):=⟨_,rfl⟩
 rw[← hQIe] at hE1
 obtain⟨v0,v1,v2,v3,v4,v5,v6,v7,v8,v9,v10,v11,v12,v13,v14,v15,v16,v17,elc,hlV⟩:=hE1.2 j l ho.ek
 have hall1:=MkI.all hcl ⟨lo,hi,hP⟩
 have hcc:ces.flatten[i*1]?=some (sl lb 0 gl ls.length 50):=flatten_get hall1 eci (j:=0) (by omega)
 have hald:=fun g rw_ b=>ald_el hE1.all elc g rw_ b
 have hald1:=fun g rw_ b=>ald_el hall1 eci g rw_ b
 (refine sg (et kdV (et kdV0 (et gG0 (et (oV1 _ _ gG0) (et q0 (et q1 (et p0 (et p1 (et Int.toNat_natCast (et Nat.zero_add (et Nat.add_zero (et (old_get hkc) (et hcc (et hald1 (et (old_get hkl) hald))))))))))))))) ?_;try exact⟨⟩)
 first|refine drawnF ?_ (by decide +kernel)|refine drawnU [(1,3),(1,4)] (by decide +kernel) ?_
 have oU:Old V1 (V1++[(⟨[.int .i64 d.in_,.int .i64 d.out,sl cb 0 gc d.comps.length 1],0,true⟩:Blk),⟨[sl lb 0 gl ls.length 50],0,true⟩,⟨lyVs l v0 v1 v2 v3 v4 v5 v6 v7 v8 v9 v10 v11 v12 v13 v14 v15 v16 v17,0,true⟩]):=Old.app' _ _
 have gU0:(V1++[(⟨[.int .i64 d.in_,.int .i64 d.out,sl cb 0 gc d.comps.length 1],0,true⟩:Blk),⟨[sl lb 0 gl ls.length 50],0,true⟩,⟨lyVs l v0 v1 v2 v3 v4 v5 v6 v7 v8 v9 v10 v11 v12 v13 v14 v15 v16 v17,0,true⟩])[V1.length]?=some ⟨[.int .i64 d.in_,.int .i64 d.out,sl cb 0 gc d.comps.length 1],0,true⟩:=by rw[hget_app0];rfl
 have gU1:(V1++[(⟨[.int .i64 d.in_,.int .i64 d.out,sl cb 0 gc d.comps.length 1],0,true⟩:Blk),⟨[sl lb 0 gl ls.length 50],0,true⟩,⟨lyVs l v0 v1 v2 v3 v4 v5 v6 v7 v8 v9 v10 v11 v12 v13 v14 v15 v16 v17,0,true⟩])[V1.length+1]?=some ⟨[sl lb 0 gl ls.length 50],0,true⟩:=by rw[hget_app];rfl
 have gU2:(V1++[(⟨[.int .i64 d.in_,.int .i64 d.out,sl cb 0 gc d.comps.length 1],0,true⟩:Blk),⟨[sl lb 0 gl ls.length 50],0,true⟩,⟨lyVs l v0 v1 v2 v3 v4 v5 v6 v7 v8 v9 v10 v11 v12 v13 v14 v15 v16 v17,0,true⟩])[V1.length+2]?=some ⟨lyVs l v0 v1 v2 v3 v4 v5 v6 v7 v8 v9 v10 v11 v12 v13 v14 v15 v16 v17,0,true⟩:=by rw[hget_app];rfl
 have lU:(V1++[(⟨[.int .i64 d.in_,.int .i64 d.out,sl cb 0 gc d.comps.length 1],0,true⟩:Blk),⟨[sl lb 0 gl ls.length 50],0,true⟩,⟨lyVs l v0 v1 v2 v3 v4 v5 v6 v7 v8 v9 v10 v11 v12 v13 v14 v15 v16 v17,0,true⟩]).length=V1.length+3:=by simp
 generalize (V1++[(⟨[.int .i64 d.in_,.int .i64 d.out,sl cb 0 gc d.comps.length 1],0,true⟩:Blk),⟨[sl lb 0 gl ls.length 50],0,true⟩,⟨lyVs l v0 v1 v2 v3 v4 v5 v6 v7 v8 v9 v10 v11 v12 v13 v14 v15 v16 v17,0,true⟩])=U at *
 have oHU:Old H U:=(oG.trans oV1).trans oU
 have gG0U:=oU _ _ (oV1 _ _ gG0)
 (refine sg gG0U ?_;try exact⟨⟩)
 refine(copy2_ d _ U (h.old CoE.m oHU) hz).x ?_
 rintro v V2 W1 ⟨rfl,⟨L2,rfl⟩,cw2,rfl,hM2⟩
 have oV2:Old U (U++L2):=Old.app' _ _
 have lV2:U.length≤(U++L2).length:=by rw[List.length_append];omega
 generalize U++L2=V2 at *
 have kdW:∀ n,decide (V2.length+n<H.length)=false:=fun n=>df (by omega)
 have kdW0:decide (V2.length<H.length)=false:=df (by omega)
 rcases hM2 with ⟨hnil,_⟩|⟨cb2,gc2,ces2,hcb2,rfl,hkc2,hcl2,lo2,hi2,hP2⟩
 ·rw[hnil] at hil;simp at hil
 obtain⟨⟨ci2,eci2,hci2⟩,d1,d2,d3,d4⟩:=hP2 _ li ho.eli
 obtain⟨w2,rfl,hw2⟩:=hci2.split d2
 have hall2:=MkI.all hcl2 ⟨lo2,hi2,hP2⟩
 have hcc2:ces2.flatten[l.comp.toNat*1]?=some w2:=flatten_get hall2 eci2 (j:=0) (by omega)
 obtain⟨ib,gi,QM,hib,hQM,hRI⟩:∃ (ib gi:Nat) (QM:AH→Prop),U.length≤ib∧(∀ J,(∀ (b:Nat) (k:Blk),U.length≤b→b≠ib→V2[b]?=some k→J[b]?=some k)→QM J)∧((li=[]∧w2=.slice none 0 0)∨∃ ics,w2=sl ib 0 gi li.length 50∧V2[ib]?=some ⟨ics.flatten,gi,true⟩∧ElQ QM ics li):=by
  rcases hw2 with ⟨h1,h2⟩|⟨ib,gi,ics,h1,h2,h3,h4,h5⟩
  ·exact⟨V2.length,0,fun _=>True,lV2,fun _ _=>trivial,.inl ⟨h1,h2⟩⟩
  ·exact⟨ib,gi,_,by omega,fun J hJ b k b1 b2 b3 e=>hJ b k (by omega) b3 e,.inr ⟨ics,h3,h4,h5⟩⟩
 obtain⟨wa,we,hwf⟩:∃ a e,w2=.slice a li.length e:=by
  rcases hRI with ⟨h1,h2⟩|⟨ics,h1,_⟩
  ·exact⟨none,0,by rw[h2,h1];rfl⟩
  ·exact⟨_,_,h1⟩
 subst hwf
 have kW2:=oV2 _ _ gU2
 have hfv:∀ a n e,afieldv Tryz.prog 25 2 (dcV d (.slice a n e))=some (.slice a n e):=fun a n e=>by
  have h1:tfld Tryz.prog 25 2=some (2,23):=by kernel_rfl
  have h2:tagg Tryz.prog 23=some false:=by kernel_rfl
  have h3:tsz Tryz.prog 23=some 1:=by kernel_rfl
  simp only[afieldv,h1,apart,h2,h3]
  rfl
 (refine sg (et kdW (et kdW0 (et kdV (et kdV0 (et kW2 (et hfv (et m0 (et m1 (et Int.toNat_natCast (et Nat.zero_add (et Nat.add_zero (et hkc2 hcc2)))))))))))) ?_;try exact⟨⟩)
 have kW0:=oV2 _ _ gU0
 have kW1:=oV2 _ _ gU1
 have kl2:=oV2 _ _ (oU _ _ hkl)
 refine keep (fun r T K D=>D=[]∧(∀ (b:Nat) (k:Blk),b≠ib→b≠lb→V2[b]?=some k→K[b]?=some k)∧V2.length≤K.length∧K[lb]?=some ⟨lcs.flatten,gl,true⟩∧∃ (q:Nat),q+r=li.length∧((li=[]∧Value.slice wa li.length we=.slice none 0 0)∨∃ ics,Value.slice wa li.length we=sl ib 0 gi li.length 50∧K[ib]?=some ⟨ics.flatten,gi,true⟩∧ElQ QM ics ((li.take q).map (inL l (j:Int))++li.drop q))∧T 1=.int .i64 (i:Int)∧T 2=.int .i64 (j:Int)∧T 6=ap (H.length+1) 0 0∧T 9=ap V1.length 0 0∧T 10=ap (V1.length+1) 0 0∧T 11=ap (V1.length+2) 0 0∧T 12=.slice wa li.length we∧T 45=.int .i64 (li.length:Int)∧T 46=.int .i64 (q:Int)) li.length
  ⟨rfl,fun b k _ _ e=>e,Nat.le_refl _,kl2,0,by omega,by simpa using hRI,by(refine sg trivial ?_;try exact⟨⟩),by(refine sg trivial ?_;try exact⟨⟩),by(refine sg trivial ?_;try exact⟨⟩),by(refine sg trivial ?_;try exact⟨⟩),by(refine sg trivial ?_;try exact⟨⟩),by(refine sg trivial ?_;try exact⟨⟩),by(refine sg trivial ?_;try exact⟨⟩),by(refine sg trivial ?_;try exact⟨⟩),by(refine sg trivial ?_;try exact⟨⟩) <;> rfl⟩ ?_
 rintro r T K D ⟨rfl,hSt,lK,glb,q,hqr,hR,t1,t2,t6,t9,t10,t11,t12,t45,t46⟩
 have kdK:∀ n,decide (K.length+n<H.length)=false:=fun n=>df (by omega)
 have kdK0:decide (K.length<H.length)=false:=df (by omega)
 have kL:=hSt _ _ (by omega) (by omega) kW2
 by_cases hq:q<li.length
 ·obtain⟨x,hx⟩:∃ x,li[q]?=some x:=⟨_,List.getElem?_eq_getElem hq⟩
  rcases hR with ⟨e,_⟩|⟨ics,hwe,hkb,hE⟩
  ·rw[e] at hq;simp at hq
  rw[hwe] at t12
  have hxl:((li.take q).map (inL l (j:Int))++li.drop q)[q]?=some x:=by
   rw[List.getElem?_append_right (by rw[List.length_map,List.length_take];omega),List.length_map,List.length_take,Nat.min_eq_left (by omega),Nat.sub_self,List.getElem?_drop,Nat.add_zero];exact hx
  obtain⟨u0,u1,u2,u3,u4,u5,u6,u7,u8,u9,u10,u11,u12,u13,u14,u15,u16,u17,eic,hxV⟩:=hE.2 q x hxl
  have hset:((li.take q).map (inL l (j:Int))++li.drop q).set q (inL l (j:Int) x)=(li.take (q+1)).map (inL l (j:Int))++li.drop (q+1):=by
   rw[List.set_append_right _ _ (by rw[List.length_map,List.length_take];omega),List.length_map,List.length_take,Nat.min_eq_left (by omega),Nat.sub_self,List.drop_eq_getElem_cons hq,List.set_cons_zero,take_snoc hx,List.map_append,List.append_assoc];rfl
  have hall:=hE.all
  have hql:q<ics.length:=by rw[hE.1,List.length_append,List.length_map,List.length_take,List.length_drop];omega
  have hald:=fun g rw_ b=>ald_el hall eic g rw_ b
  have r0:(0:Int)≤(q:Int):=by omega
  have r1:(q:Int)<(li.length:Int):=by omega
  have wq:IntKind.i64.wrap ((q:Int)+1)=((q+1:Nat):Int):=by rw[wi (by omega) (by omega)];rfl
  have dib:decide (ib<H.length)=false:=df (by omega)
  (refine sg (et t1 (et t2 (et t6 (et t9 (et t10 (et t11 (et t12 (et t45 (et t46 (dt r1)))))))))) ?_;try exact⟨⟩)
  first|refine drawnF ?_ (by decide +kernel)|refine drawnU [(0,7),(1,7)] (by decide +kernel) ?_
  (refine sg (et t1 (et t2 (et t6 (et t9 (et t10 (et t11 (et t12 (et t45 (et t46 (et r0 (et r1 (et Int.toNat_natCast (et Nat.zero_add (et hkb (et hald kL))))))))))))))) ?_;try exact⟨⟩)
  refine(icut_ x l u0 u1 u2 u3 u4 u5 u6 u7 u8 u9 u10 u11 u12 u13 u14 u15 u16 u17 v0 v1 v2 v3 v4 v5 v6 v7 v8 v9 v10 v11 v12 v13 v14 v15 v16 v17 _).x ?_
  rintro v H1 W1 ⟨rfl,⟨L,rfl⟩,hv⟩
  obtain⟨cs,hcs⟩:∃ cs,cs=lyVs (cutL x l) u0 u1 u2 u3 u4 u5 u6 u7 u8 u9 u10 u11 u12 u13 u14 u15 u16 u17:=⟨_,rfl⟩
  have hcl':cs.length=50:=by rw[hcs];rfl
  rw[← hcs] at hv
  subst hv
  have hst1:=fun V=>ast_el (s:=50) (V:=V) (g:=gi) (b:=ib) hall hql hcl'
  have hs2':(ics.set q cs)[q]?=some cs:=List.getElem?_set_self hql
  have hall2:∀ c∈ics.set q cs,c.length=50:=fun c hc=>by
   rcases List.mem_or_eq_of_mem_set hc with hc|rfl
   ·exact hall c hc
   ·exact hcl'
  have hpg:(ics.set q cs).flatten[q*50+1]?=some (.int .i64 (cutL x l).parent):=by
   rw[flatten_get hall2 hs2' (j:=1) (by omega),hcs];rfl
  have gs1:∀ X,((K++L).set ib X)[ib]?=some X:=fun X=>List.getElem?_set_self (by have:=(List.getElem?_eq_some_iff.1 hkb).1;rw[List.length_append];omega)
  have kdL:∀ n,decide ((K++L).length+n<H.length)=false:=fun n=>df (by rw[List.length_append];omega)
  by_cases hpar:0≤(cutL x l).parent
  ·have hst2:=fun V v=>ast_at (s:=50) (V:=V) (g:=gi) (b:=ib) (j:=1) v hall2 hs2' (by omega)
   have gs2:∀ X Y,(((K++L).set ib X).set ib Y)[ib]?=some Y:=fun X Y=>List.getElem?_set_self (by have:=(List.getElem?_eq_some_iff.1 hkb).1;rw[List.length_set,List.length_append];omega)
   simp only[go_sem,Nat.reduceEqDiff,Nat.reduceAdd,Nat.reduceSub,Nat.reduceMul,Nat.reduceLT,Nat.reduceLeDiff,Int.reducePow,Int.reduceBEq,Int.reduceBNe,Int.reduceDiv,Int.reduceMod,Int.reduceEq,Int.reduceLT,Int.reduceLE,Int.reduceAdd,Int.reduceSub,Int.reduceMul,Int.reduceNeg,Int.reduceToNat,Int.reduceTDiv,Int.reduceTMod,↓reduceIte,t1,t2,t6,t9,t10,t11,t12,t45,t46,r0,r1,Int.toNat_natCast,Nat.zero_add,old_get hkb,hst1,gs1,hpg,dt hpar,hst2,dib,wq,List.set_set]
   have e:inL l (j:Int) x=upL (wr6 (x.parent+(j:Int))) (cutL x l):=by unfold inL;rw[if_pos (show 0≤x.parent from hpar)];try rfl
   have hE':=hE.set q (y:=inL l (j:Int) x) (fun J hJ=>by rw[e];exact⟨((hxV J hJ).1.cut l).up _,(hxV J hJ).2⟩)
   rw[hset] at hE'
   refine⟨r - 1,by omega,fun b k b1 b2 e=>by rw[List.getElem?_set_ne (fun h=>b1 h.symm)];exact old_get (hSt b k b1 b2 e) L,by omega,by rw[List.getElem?_set_ne (show ¬ ib=lb by omega)];exact old_get glb L,q+1,by omega,.inr ⟨ics.set q (lyVs (inL l (j:Int) x) u0 u1 u2 u3 u4 u5 u6 u7 u8 u9 u10 u11 u12 u13 u14 u15 u16 u17),hwe,?_,hE'⟩,hwe.symm,rfl⟩
   rw[e,hcs];try rfl
  ·(refine sg (et t1 (et t2 (et t6 (et t9 (et t10 (et t11 (et t12 (et t45 (et t46 (et r0 (et r1 (et Int.toNat_natCast (et Nat.zero_add (et (old_get hkb) (et hst1 (et gs1 (et hpg (et (df hpar) (et dib wq))))))))))))))))))) ?_;try exact⟨⟩)
   have e:inL l (j:Int) x=cutL x l:=by unfold inL;rw[if_neg (show ¬ 0≤x.parent from hpar)];try rfl
   have hE':=hE.set q (y:=inL l (j:Int) x) (fun J hJ=>by rw[e];exact⟨(hxV J hJ).1.cut l,(hxV J hJ).2⟩)
   rw[hset] at hE'
   refine⟨r - 1,by omega,fun b k b1 b2 e=>by rw[List.getElem?_set_ne (fun h=>b1 h.symm)];exact old_get (hSt b k b1 b2 e) L,by omega,by rw[List.getElem?_set_ne (show ¬ ib=lb by omega)];exact old_get glb L,q+1,by omega,.inr ⟨ics.set q (lyVs (inL l (j:Int) x) u0 u1 u2 u3 u4 u5 u6 u7 u8 u9 u10 u11 u12 u13 u14 u15 u16 u17),hwe,?_,hE'⟩,hwe.symm,rfl⟩
   rw[e,hcs];try rfl
 have hq':q=li.length:=by omega
 have hR1:(li=[]∧Value.slice wa li.length we=.slice none 0 0)∨∃ ics,Value.slice wa li.length we=sl ib 0 gi li.length 50∧K[ib]?=some ⟨ics.flatten,gi,true⟩∧ElQ QM ics (li.map (inL l (j:Int))):=by
  rw[hq',List.take_length,List.drop_length,List.append_nil] at hR;exact hR
 have kC:=hSt _ _ (by omega) (by omega) kW1
 (refine sg (et t1 (et t2 (et t6 (et t9 (et t10 (et t11 (et t12 (et t45 (et t46 (et (df (show ¬ (q:Int)<(li.length:Int) by omega)) kC)))))))))) ?_;try exact⟨⟩)
 have hF:∀ x:Ly,wr6 (x.parent+wr6 ((li.length:Int) - 1))=wr6 (wr6 (x.parent+(li.length:Int)) - 1):=fun x=>by
  rw[show wr6 ((li.length:Int) - 1)=(li.length:Int) - 1 from wi (by omega) (by omega)]
  rw[show wr6 (wr6 (x.parent+(li.length:Int)) - 1)=wr6 (x.parent+(li.length:Int) - 1) from wsub6 _ _]
  congr 1;omega
 refine keep (fun r T J D=>D=[]∧(∀ (b:Nat) (k:Blk),b≠ib→b≠lb→V2[b]?=some k→J[b]?=some k)∧V2.length≤J.length∧((li=[]∧Value.slice wa li.length we=.slice none 0 0)∨∃ ics,Value.slice wa li.length we=sl ib 0 gi li.length 50∧J[ib]?=some ⟨ics.flatten,gi,true⟩∧ElQ QM ics (li.map (inL l (j:Int))))∧∃ (n:Nat) (ks:List (List Value)),n+r=ls.length∧J[lb]?=some ⟨ks.flatten,gl,true⟩∧ElQ QI ks ((ls.take n).map (outL (j:Int) li.length)++ls.drop n)∧T 1=.int .i64 (i:Int)∧T 2=.int .i64 (j:Int)∧T 6=ap (H.length+1) 0 0∧T 9=ap V1.length 0 0∧T 10=ap (V1.length+1) 0 0∧T 12=.slice wa li.length we∧T 75=sl lb 0 gl ls.length 50∧T 76=.int .i64 (ls.length:Int)∧T 77=.int .i64 (n:Int)) ls.length
  ⟨rfl,hSt,lK,hR1,0,lcs,by omega,glb,by simpa using hE1,by(refine sg t1 ?_;try exact⟨⟩),by(refine sg t2 ?_;try exact⟨⟩),by(refine sg t6 ?_;try exact⟨⟩),by(refine sg t9 ?_;try exact⟨⟩),by(refine sg t10 ?_;try exact⟨⟩),by(refine sg t12 ?_;try exact⟨⟩),by(refine sg trivial ?_;try exact⟨⟩),by(refine sg trivial ?_;try exact⟨⟩),by(refine sg trivial ?_;try exact⟨⟩) <;> rfl⟩ ?_
 clear t1 t2 t6 t9 t10 t11 t12 t45 t46
 rintro r J0 J D ⟨rfl,hSj,lJ,hRj,n,ks,hnr,gks,hEk,t1,t2,t6,t9,t10,t12,t75,t76,t77⟩
 have kdJ:∀ n,decide (J.length+n<H.length)=false:=fun n=>df (by omega)
 have kdJ0:decide (J.length<H.length)=false:=df (by omega)
 have kCj:=hSj _ _ (by omega) (by omega) kW1
 by_cases hn:n<ls.length
 ·obtain⟨x,hx⟩:∃ x,ls[n]?=some x:=⟨_,List.getElem?_eq_getElem hn⟩
  have hxl:((ls.take n).map (outL (j:Int) li.length)++ls.drop n)[n]?=some x:=by
   rw[List.getElem?_append_right (by rw[List.length_map,List.length_take];omega),List.length_map,List.length_take,Nat.min_eq_left (by omega),Nat.sub_self,List.getElem?_drop,Nat.add_zero];exact hx
  obtain⟨u0,u1,u2,u3,u4,u5,u6,u7,u8,u9,u10,u11,u12,u13,u14,u15,u16,u17,eic,hxV⟩:=hEk.2 n x hxl
  have hset:((ls.take n).map (outL (j:Int) li.length)++ls.drop n).set n (outL (j:Int) li.length x)=(ls.take (n+1)).map (outL (j:Int) li.length)++ls.drop (n+1):=by
   rw[List.set_append_right _ _ (by rw[List.length_map,List.length_take];omega),List.length_map,List.length_take,Nat.min_eq_left (by omega),Nat.sub_self,List.drop_eq_getElem_cons hn,List.set_cons_zero,take_snoc hx,List.map_append,List.append_assoc];rfl
  have hall:=hEk.all
  have hnl:n<ks.length:=by rw[hEk.1,List.length_append,List.length_map,List.length_take,List.length_drop];omega
  have hald:=fun g rw_ b=>ald_el hall eic g rw_ b
  have r0:(0:Int)≤(n:Int):=by omega
  have r1:(n:Int)<(ls.length:Int):=by omega
  have wn:IntKind.i64.wrap ((n:Int)+1)=((n+1:Nat):Int):=by rw[wi (by omega) (by omega)];rfl
  have dlb:decide (lb<H.length)=false:=df (by omega)
  have hpg:ks.flatten[n*50+1]?=some (.int .i64 x.parent):=by rw[flatten_get hall eic (j:=1) (by omega)];rfl
  have hst2:=fun V v=>ast_at (s:=50) (V:=V) (g:=gl) (b:=lb) (j:=1) v hall eic (by omega)
  by_cases hpar:(j:Int)<x.parent
  ·(refine sg (et t1 (et t2 (et t6 (et t9 (et t10 (et t12 (et t75 (et t76 (et t77 (et (dt r1) (et r0 (et r1 (et Int.toNat_natCast (et Nat.zero_add (et gks (et (old_get gks) (et hald (et kdJ (et kdJ0 (et (dt hpar) (et (old_get kCj) (et hpg (et hst2 (et dlb wn)))))))))))))))))))))))) ?_;try exact⟨⟩)
   have e:outL (j:Int) li.length x=upL (wr6 (x.parent+wr6 ((li.length:Int) - 1))) x:=by unfold outL;rw[if_pos hpar,hF]
   have hE':=hEk.set n (y:=outL (j:Int) li.length x) (fun J hJ=>by rw[e];exact⟨(hxV J hJ).1.up _,(hxV J hJ).2⟩)
   rw[hset] at hE'
   refine⟨r - 1,by omega,fun b k b1 b2 e'=>by rw[List.getElem?_set_ne (fun h=>b2 h.symm)];exact old_get (hSj b k b1 b2 e') _,by omega,?_,n+1,_,by omega,?_,hE',rfl⟩
   ·rcases hRj with h|⟨ics,a,b,c⟩
    ·exact .inl h
    ·exact .inr ⟨ics,a,by rw[List.getElem?_set_ne (show ¬ lb=ib by omega)];exact old_get b _,c⟩
   ·rw[List.getElem?_set_self (by have:=(List.getElem?_eq_some_iff.1 gks).1;rw[List.length_append];omega),e];try rfl
  ·(refine sg (et t1 (et t2 (et t6 (et t9 (et t10 (et t12 (et t75 (et t76 (et t77 (et (dt r1) (et r0 (et r1 (et Int.toNat_natCast (et Nat.zero_add (et gks (et hald (et kdJ (et kdJ0 (et (df hpar) wn))))))))))))))))))) ?_;try exact⟨⟩)
   have e:outL (j:Int) li.length x=x:=by unfold outL;rw[if_neg hpar];rfl
   have hEn:ElQ QI ks ((ls.take (n+1)).map (outL (j:Int) li.length)++ls.drop (n+1)):=by
    rw[← hset,e,set_same hxl];exact hEk
   refine⟨r - 1,by omega,fun b k b1 b2 e'=>old_get (hSj b k b1 b2 e') _,by omega,?_,n+1,ks,by omega,old_get gks _,hEn,rfl⟩
   rcases hRj with h|⟨ics,a,b,c⟩
   ·exact .inl h
   ·exact .inr ⟨ics,a,old_get b _,c⟩
 have hn':n=ls.length:=by omega
 rw[hn',List.take_length,List.drop_length,List.append_nil] at hEk
 have hallk:=hEk.all
 have hkl':ks.length=ls.length:=by rw[hEk.1,List.length_map]
 have hfk:=flatten_len hallk
 have wj:IntKind.i64.wrap ((j:Int)+1)=((j+1:Nat):Int):=by rw[wi (by omega) (by omega)];rfl
 have hsl1:aslice Tryz.prog 48 (sl lb 0 gl ls.length 50) none (some (.int .i64 (j:Int))) none=some (sl lb 0 gl j 50):=by
  have h6:((j:Int)≤(ls.length:Int))=True:=eq_true (by omega)
  simp only[go_sem,Nat.reduceEqDiff,Nat.reduceAdd,Nat.reduceSub,Nat.reduceMul,Nat.reduceLT,Nat.reduceLeDiff,Int.reducePow,Int.reduceBEq,Int.reduceBNe,Int.reduceDiv,Int.reduceMod,Int.reduceEq,Int.reduceLT,Int.reduceLE,Int.reduceAdd,Int.reduceSub,Int.reduceMul,Int.reduceNeg,Int.reduceToNat,Int.reduceTDiv,Int.reduceTMod,↓reduceIte,aslice,abound,h6,p0,show j≤ls.length by omega,Int.toNat_natCast,true_and,and_self,and_true,Nat.zero_le,Nat.zero_mul,Nat.sub_zero,Nat.add_zero]
 have hsl3:aslice Tryz.prog 48 (sl lb 0 gl ls.length 50) (some (.int .i64 ((j+1:Nat):Int))) none none=some (sl lb ((j+1)*50) gl (ls.length - (j+1)) 50):=by
  have h6:(((j+1:Nat):Int)≤(ls.length:Int))=True:=eq_true (by omega)
  have h7:((0:Int)≤((j+1:Nat):Int))=True:=eq_true (by omega)
  simp only[go_sem,Nat.reduceEqDiff,Nat.reduceAdd,Nat.reduceSub,Nat.reduceMul,Nat.reduceLT,Nat.reduceLeDiff,Int.reducePow,Int.reduceBEq,Int.reduceBNe,Int.reduceDiv,Int.reduceMod,Int.reduceEq,Int.reduceLT,Int.reduceLE,Int.reduceAdd,Int.reduceSub,Int.reduceMul,Int.reduceNeg,Int.reduceToNat,Int.reduceTDiv,Int.reduceTMod,↓reduceIte,aslice,abound,h6,h7,show j+1≤ls.length by omega,Int.toNat_natCast,true_and,and_self,and_true,Nat.zero_le,Nat.zero_mul,Nat.sub_zero,Nat.add_zero,Nat.zero_add,Nat.le_refl]
 have kA:=hSj _ _ (by omega) (by omega) kW0
 have hcbl:=(List.getElem?_eq_some_iff.1 hkc).1
 have kc2:=hSj _ _ (by omega) (by omega) (oV2 _ _ (oU _ _ hkc))
 (refine sg (et t1 (et t2 (et t6 (et t9 (et t10 (et t12 (et t75 (et t76 (et t77 (df (show ¬ (n:Int)<(ls.length:Int) by omega))))))))))) ?_;try exact⟨⟩)
 first|refine drawnF ?_ (by decide +kernel)|refine drawnU [(0,14),(1,14),(2,14)] (by decide +kernel) ?_
 simp only[go_sem,Nat.reduceEqDiff,Nat.reduceAdd,Nat.reduceSub,Nat.reduceMul,Nat.reduceLT,Nat.reduceLeDiff,Int.reducePow,Int.reduceBEq,Int.reduceBNe,Int.reduceDiv,Int.reduceMod,Int.reduceEq,Int.reduceLT,Int.reduceLE,Int.reduceAdd,Int.reduceSub,Int.reduceMul,Int.reduceNeg,Int.reduceToNat,Int.reduceTDiv,Int.reduceTMod,↓reduceIte,t1,t2,t6,t9,t10,t12,t75,t76,t77,kA,kCj,wj,hsl1,hsl3,Option.map,q0,q1,Int.toNat_natCast,Nat.zero_add,kdJ,kdJ0]
 have oJP:Old J (J++[(⟨[sl lb 0 gl j 50,.slice wa li.length we,sl lb ((j+1)*50) gl (ls.length - (j+1)) 50],0,true⟩:Blk)]):=Old.app' _ _
 have gP:(J++[(⟨[sl lb 0 gl j 50,.slice wa li.length we,sl lb ((j+1)*50) gl (ls.length - (j+1)) 50],0,true⟩:Blk)])[J.length]?=some ⟨[sl lb 0 gl j 50,.slice wa li.length we,sl lb ((j+1)*50) gl (ls.length - (j+1)) 50],0,true⟩:=by rw[hget_app0];rfl
 have lP:(J++[(⟨[sl lb 0 gl j 50,.slice wa li.length we,sl lb ((j+1)*50) gl (ls.length - (j+1)) 50],0,true⟩:Blk)]).length=J.length+1:=by simp
 generalize J++[(⟨[sl lb 0 gl j 50,.slice wa li.length we,sl lb ((j+1)*50) gl (ls.length - (j+1)) 50],0,true⟩:Blk)]=P at *
 obtain⟨cs2,hok2,hE2⟩:∃ cs2:List (List Value),PcOk P ⟨.slice wa li.length we,cs2.flatten,li.length⟩∧ElQ QM cs2 (li.map (inL l (j:Int))):=by
  rcases hRj with ⟨h1,h2⟩|⟨ics,h1,h2,h3⟩
  ·refine⟨[],?_,by rw[h1];exact⟨rfl,fun i x hx=>by simp at hx⟩⟩
   rw[h2,h1];exact pcok_nil
  ·have h4:ics.length=li.length:=by rw[h3.1,List.length_map]
   have:=pcok_sl (m:=0) (n:=li.length) (oJP _ _ h2) h3.all (by omega)
   rw[List.drop_zero,← h4,List.take_length,h4,Nat.zero_mul] at this
   exact⟨ics,by rw[h1];exact this,h3⟩
 have hok1:=pcok_sl (m:=0) (n:=j) (oJP _ _ gks) hallk (by omega)
 have hok3:=pcok_sl (m:=j+1) (n:=ls.length - (j+1)) (oJP _ _ gks) hallk (by omega)
 rw[List.drop_zero,Nat.zero_mul] at hok1
 rw[List.take_of_length_le (show (ks.drop (j+1)).length≤ls.length - (j+1) by rw[List.length_drop];omega)] at hok3
 obtain⟨rows,hrows⟩:∃ rows:List Pc,rows=[⟨sl lb 0 gl j 50,(ks.take j).flatten,j⟩,⟨.slice wa li.length we,cs2.flatten,li.length⟩,⟨sl lb ((j+1)*50) gl (ls.length - (j+1)) 50,(ks.drop (j+1)).flatten,ls.length - (j+1)⟩]:=⟨_,rfl⟩
 have hrok:∀ p∈rows,PcOk P p:=fun p hp=>by
  rw[hrows] at hp
  rcases List.mem_cons.1 hp with rfl|hp
  ·exact hok1
  rcases List.mem_cons.1 hp with rfl|hp
  ·exact hok2
  rcases List.mem_cons.1 hp with rfl|hp
  ·exact hok3
  ·cases hp
 have hrv:P[J.length]?=some ⟨rows.map (·.v),0,true⟩:=by rw[hrows];exact gP
 have hrl:rows.length=3:=by rw[hrows];rfl
 have hrn:pcN rows=(openL d.comps ls j l).length:=by rw[hrows,open_len ho];simp[pcN];omega
 have hon:(openL d.comps ls j l).length≤1000:=by rw[open_len ho];have:=ho.n;omega
 have hrc:pcC rows=(ks.take j++cs2++ks.drop (j+1)).flatten:=by rw[hrows];simp[pcC]
 have hEo:ElQ (fun J=>QI J∧QM J) (ks.take j++cs2++ks.drop (j+1)) (openL d.comps ls j l):=by
  have h1:=((((hEk.imp (R:=fun J=>QI J∧QM J) fun _ h=>h.1).take j).app (hE2.imp (R:=fun J=>QI J∧QM J) fun _ h=>h.2)).app ((hEk.imp (R:=fun J=>QI J∧QM J) fun _ h=>h.1).drop (j+1)))
  rw[ho.openL,List.map_take,List.map_drop]
  exact h1
 have key:Cal Tryz.prog 25 [sl J.length 0 0 3 1] P fun v H' W=>W=[]∧(∃ L,H'=P++L)∧(∃ a e,v=.slice a (openL d.comps ls j l).length e)∧∀ J',(∀ (b:Nat) (k:Blk),H.length≤b→b≠cb→b≠H.length+1→H'[b]?=some k→J'[b]?=some k)→QI J'→QM J'→RowOf 50 LyE J' v (openL d.comps ls j l):=by
  by_cases hz0:pcN rows=0
  ·have k0:=lConcat0_ rows J.length 0 true P hrv hrok (by omega) hz0
   rw[hrl] at k0
   have ho0:openL d.comps ls j l=[]:=List.eq_nil_of_length_eq_zero (by omega)
   refine Cal.mono (semcal k0) fun v H' W hh=>?_
   obtain⟨rfl,rfl,rfl⟩:=hh
   rw[ho0]
   exact⟨rfl,⟨[],by rw[List.append_nil]⟩,⟨none,0,rfl⟩,fun J' _ _ _=>RowOf.none⟩
  ·have k1:=lConcat_ rows J.length 0 true P hrv hrok (by omega) (by omega) (by omega)
   rw[hrl] at k1
   refine Cal.mono k1 fun v H' W hh=>?_
   obtain⟨hW,hL,g,hv,hg⟩:=hh
   rw[hrn] at hv
   subst hv
   refine⟨hW,hL,⟨some ⟨P.length,0,some g⟩,50,rfl⟩,fun J' hJ' h1 h2=>?_⟩
   rw[hrc] at hg
   exact hEo.row ⟨h1,h2⟩ (hJ' _ _ (by omega) (by omega) (by omega) hg) hon
 refine key.x ?_
 rintro v P2 W2 ⟨rfl,⟨L3,rfl⟩,⟨na,ne,rfl⟩,hrow⟩
 have gc2:=old_get (oJP _ _ kc2) L3
 have gA2:=old_get (oJP _ _ kA) L3
 have lP2:P.length≤(P++L3).length:=by rw[List.length_append];omega
 have hSP:∀ (b:Nat) (k:Blk),b≠ib→b≠lb→V2[b]?=some k→(P++L3)[b]?=some k:=fun b k b1 b2 e=>old_get (oJP _ _ (hSj b k b1 b2 e)) L3
 generalize P++L3=P2 at *
 have g1P:=hSP _ _ (by omega) (by omega) (oV2 _ _ (oU _ _ (oV1 _ _ gG1)))
 have kdP:∀ n,decide (P2.length+n<H.length)=false:=fun n=>df (by omega)
 have kdP0:decide (P2.length<H.length)=false:=df (by omega)
 have dcb:decide (cb<H.length)=false:=df (by omega)
 have d1':decide (H.length+1<H.length)=false:=df (by omega)
 have hstc:=fun V=>ast_el (s:=1) (V:=V) (g:=gc) (b:=cb) (i:=i) (cs:=[.slice na (openL d.comps ls j l).length ne]) hall1 (by rw[hcl];exact hil) rfl
 have gsA:∀ X,(P2.set cb X)[V1.length]?=P2[V1.length]?:=fun X=>List.getElem?_set_ne (by omega)
 have gs1:∀ X,(P2.set cb X)[H.length+1]?=P2[H.length+1]?:=fun X=>List.getElem?_set_ne (by omega)
 have gsE:∀ X Y,((P2.set cb X).set (H.length+1) Y)[H.length+1]?=some Y:=fun X Y=>List.getElem?_set_self (by have:=(List.getElem?_eq_some_iff.1 g1P).1;rw[List.length_set];exact this)
 (refine sg (et t1 (et t2 (et t6 (et t9 (et t10 (et t12 (et kA (et kCj (et q0 (et q1 (et Int.toNat_natCast (et Nat.zero_add (et Nat.add_zero (et gc2 (et hstc (et gA2 (et gsA (et g1P (et gs1 (et gsE (et kdJ (et kdJ0 (et kdP (et kdP0 (et dcb d1'))))))))))))))))))))))))) ?_;try exact⟨⟩)
 rw[ho.e]
 refine .inr ⟨h0,sl cb 0 gc d.comps.length 1,rfl,fun J' hJ'=>?_⟩
 have hK:∀ (b:Nat) (k:Blk),H.length≤b→b≠cb→b≠H.length+1→P2[b]?=some k→J'[b]?=some k:=fun b k b0 b1 b2 e=>hJ' b k b0 (by
  rw[List.getElem?_set_ne (fun h=>b2 h.symm),List.getElem?_set_ne (fun h=>b1 h.symm)];exact e)
 have hB:∀ m,hi m≤V1.length→(cb<lo m∨hi m≤cb)→G.length≤lo m→∀ (b:Nat) (k:Blk),lo m≤b→b<hi m→b≠lb→V1[b]?=some k→J'[b]?=some k:=fun m h1 h2 h3 b k b1 b2 b3 e=>
  hK b k (by omega) (by omega) (by omega) (hSP b k (by omega) b3 (oV2 _ _ (oU _ _ e)))
 have hgcJ:=hJ' cb _ (by omega) (by rw[List.getElem?_set_ne (show ¬ H.length+1=cb by omega),List.getElem?_set_self (List.getElem?_eq_some_iff.1 gc2).1])
 refine .inr ⟨cb,gc,[],true,ces.set i [.slice na (openL d.comps ls j l).length ne],by show sl cb 0 gc d.comps.length 1=sl cb 0 gc (d.comps.set i (openL d.comps ls j l)).length 1;rw[List.length_set],?_,by show _=(d.comps.set i (openL d.comps ls j l)).length;rw[List.length_set,List.length_set,hcl],by show (d.comps.set i (openL d.comps ls j l)).length≤_;rw[List.length_set];omega,fun n x hx=>?_⟩
 ·rw[List.append_nil];exact hgcJ
 ·have hx:(d.comps.set i (openL d.comps ls j l))[n]?=some x:=hx
  by_cases hn:i=n
  ·subst hn
   rw[List.getElem?_set_self hil] at hx
   cases hx
   refine⟨_,List.getElem?_set_self (by omega),rfl,_,rfl,hrow J' hK ?_ ?_⟩
   ·rw[hQIe]
    exact hB i a2 a3 a1
   ·exact hQM _ fun b k b1 b2 e=>hK b k (by omega) (by omega) (by omega) (hSP b k b2 (by omega) e)
  ·rw[List.getElem?_set_ne hn] at hx ⊢
   obtain⟨⟨c,g1,g2⟩,z1,z2,z3,z4⟩:=hP n x hx
   refine⟨c,g1,?_,(g2.mono fun b k b1 b2 e=>hB n z2 z3 z1 b k b1 b2 ?_ e).row (hz.c x (List.mem_of_getElem? hx)).1⟩
   ·obtain⟨v,e,_⟩:=g2;rw[e];rfl
   ·rcases Nat.lt_or_ge n i with hlt|hge
    ·have:=a4 n hlt;omega
    ·have:=z4 i (by omega);omega
end Go.Proofs.YthhbglkokpablaaGreat
