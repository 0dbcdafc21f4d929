/- Merged texts: Doc5 Doc6 Doc7 Doc8 Doc9 DocA. -/
import Derived.Test.YthhbglkokpablaaGreatV7
/- Documents: the walks of what compares rows. -/
namespace Go.Proofs.YthhbglkokpablaaGreat
open Go Go.RowKit E
attribute [local irreducible] XRun XOps XCode XCal XLoop XQ SemCall
set_option linter.unusedSimpArgs false
set_option linter.unusedVariables false
theorem eqG_len {α:Type} {q:α→α→Bool}:∀ {l m:List α},¬ l.length=m.length→eqG q l m=false
 | [],[],h=>absurd rfl h
 | [],y::t,_=>rfl
 | x::s,[],_=>rfl
 | x::s,y::t,h=>by rw[eqG,eqG_len (fun e=>h (by simp[e])),Bool.and_false]
theorem eqG_refl {α:Type} {q:α→α→Bool} (h:∀ x,q x x=true):∀ (l:List α),eqG q l l=true
 | []=>rfl
 | x::s=>by rw[eqG,h x,eqG_refl h s];rfl
def PtE (_:AH) (c:List Value) (p:Pt):Prop:=c=[.int .i64 p.1,.int .i64 p.2]
theorem PtE.m:Mono PtE:=fun _ _ _ _ _ h=>h
theorem Pts.row {K:AH} {v:Value} {l:List Pt} (h:Pts K v l):RowOf 2 PtE K v l:=by
 rcases h with h|⟨b,g,rest,rw_,h1,h2,h3⟩
 ·exact .inl h
 ·have e:ptC l=(l.map fun (p:Pt)=>[Value.int .i64 p.1,Value.int .i64 p.2]).flatten:=by unfold ptC;rw[List.flatMap_def]
  refine .inr ⟨b,g,rest,rw_,l.map fun (p:Pt)=>[Value.int .i64 p.1,Value.int .i64 p.2],h1,by rw[← e];exact h2,by simp,h3,fun i x hx=>⟨_,by rw[List.getElem?_map,hx];rfl,rfl,rfl⟩⟩
set_option maxHeartbeats 4000000 in
theorem eqKy_ (l m:List Ky) (v w:Value) (H:AH) (h:RowOf 7 KyE H v l) (h':RowOf 7 KyE H w m):SemCall Tryz.prog 110 [v,w] H (.bool (eqG kyQ l m)) H []:=by
 refine pure_of ?_ rfl
 have hlen:=h.len
 obtain⟨va,ve,hv⟩:=h.form
 subst hv
 obtain⟨wa,we,hw⟩:=h'.form
 subst hw
 refine XCal.of hm Tryz.func110 rfl (fun xs w=>Tryz.call110 xs w) Tryz.ntmps110 Tryz.results110 rfl ?_
 by_cases hl:(l.length:Int)=(m.length:Int)
 ·(refine sg (nt hl) ?_;try exact⟨⟩)
  refine keep (fun k T H' D=>H=H'∧D=[]∧T 0=.slice va l.length ve∧T 1=.slice wa m.length we∧T 12=.int .i64 (l.length:Int)∧∃ i:Nat,i+k=l.length∧T 13=.int .i64 (i:Int)∧eqG kyQ (l.drop i) (m.drop i)=eqG kyQ l m) l.length ⟨rfl,rfl,rfl,rfl,rfl,0,by omega,rfl,rfl⟩ ?_
  rintro k T H' D ⟨rfl,rfl,h0,h1,h12,i,hi,h13,hr⟩
  by_cases hk:i<l.length
  ·obtain⟨x,hx⟩:∃ x,l[i]?=some x:=⟨_,List.getElem?_eq_getElem hk⟩
   obtain⟨y,hy⟩:∃ y,m[i]?=some y:=⟨_,List.getElem?_eq_getElem (by omega)⟩
   obtain⟨b,g,cells,rw_,c,hve,hb,hc,hcl,hle,hld,hgt⟩:=h.at hx
   have hc:c=kyC x:=hc
   subst hc
   obtain⟨b',g',cells',rw',c',hwe,hb',hc',hcl',hle',hld',hgt'⟩:=h'.at hy
   have hc':c'=kyC y:=hc'
   subst hc'
   rw[hve] at h0
   rw[hwe] at h1
   rw[drop_at hx,drop_at hy,eqG] at hr
   have w1:IntKind.i64.wrap ((i:Int)+1)=((i+1:Nat):Int):=by rw[wi (by omega) (by omega)];rfl
   have q0:(0:Int)≤(i:Int):=by omega
   have q1:(i:Int)<(l.length:Int):=by omega
   have q2:(i:Int)<(m.length:Int):=by omega
   cases hq:kyQ x y with
   | true=>
    rw[hq,Bool.true_and] at hr
    unfold kyQ at hq
    (refine sg (et h0 (et h1 (et h12 (et h13 (dt q1))))) ?_;try exact⟨⟩)
    repeat ((first|refine drawnF ?_ (by decide +kernel));simp only[go_sem,Nat.reduceEqDiff,Nat.reduceAdd,Nat.reduceSub,Nat.reduceMul,Nat.reduceLT,Nat.reduceLeDiff,Int.reducePow,Int.reduceBEq,Int.reduceBNe,Int.reduceDiv,Int.reduceMod,Int.reduceEq,Int.reduceLT,Int.reduceLE,Int.reduceAdd,Int.reduceSub,Int.reduceMul,Int.reduceNeg,Int.reduceToNat,Int.reduceTDiv,Int.reduceTMod,↓reduceIte,h0,h1,h12,h13,q0,q1,q2,Int.toNat_natCast,Nat.zero_add,hb,hb',hld,hld',hq,w1,bne])
    exact⟨k - 1,by omega,hve.symm,hwe.symm,i+1,by omega,rfl,hr⟩
   | false=>
    rw[hq,Bool.false_and] at hr
    unfold kyQ at hq
    (refine sg (et h0 (et h1 (et h12 (et h13 (dt q1))))) ?_;try exact⟨⟩)
    repeat ((first|refine drawnF ?_ (by decide +kernel));simp only[go_sem,Nat.reduceEqDiff,Nat.reduceAdd,Nat.reduceSub,Nat.reduceMul,Nat.reduceLT,Nat.reduceLeDiff,Int.reducePow,Int.reduceBEq,Int.reduceBNe,Int.reduceDiv,Int.reduceMod,Int.reduceEq,Int.reduceLT,Int.reduceLE,Int.reduceAdd,Int.reduceSub,Int.reduceMul,Int.reduceNeg,Int.reduceToNat,Int.reduceTDiv,Int.reduceTMod,↓reduceIte,h0,h1,h12,h13,q0,q1,q2,Int.toNat_natCast,Nat.zero_add,hb,hb',hld,hld',hq,w1,bne])
    rw[← hr]
  ·rw[List.drop_eq_nil_of_le (by omega),List.drop_eq_nil_of_le (by omega)] at hr
   (refine sg (et h0 (et h1 (et h12 (et h13 (df (show ¬ (i:Int)<(l.length:Int) by omega)))))) ?_;try exact⟨⟩)
   rw[← hr];rfl
 ·rw[eqG_len (by omega)]
  (refine sg (nf hl) ?_;try exact⟨⟩)
set_option maxHeartbeats 4000000 in
theorem eqPt_ (l m:List Pt) (v w:Value) (H:AH) (h:RowOf 2 PtE H v l) (h':RowOf 2 PtE H w m):SemCall Tryz.prog 129 [v,w] H (.bool (eqG ptQ l m)) H []:=by
 refine pure_of ?_ rfl
 have hlen:=h.len
 obtain⟨va,ve,hv⟩:=h.form
 subst hv
 obtain⟨wa,we,hw⟩:=h'.form
 subst hw
 refine XCal.of hm Tryz.func129 rfl (fun xs w=>Tryz.call129 xs w) Tryz.ntmps129 Tryz.results129 rfl ?_
 by_cases hl:(l.length:Int)=(m.length:Int)
 ·(refine sg (nt hl) ?_;try exact⟨⟩)
  refine keep (fun k T H' D=>H=H'∧D=[]∧T 0=.slice va l.length ve∧T 1=.slice wa m.length we∧T 12=.int .i64 (l.length:Int)∧∃ i:Nat,i+k=l.length∧T 13=.int .i64 (i:Int)∧eqG ptQ (l.drop i) (m.drop i)=eqG ptQ l m) l.length ⟨rfl,rfl,rfl,rfl,rfl,0,by omega,rfl,rfl⟩ ?_
  rintro k T H' D ⟨rfl,rfl,h0,h1,h12,i,hi,h13,hr⟩
  by_cases hk:i<l.length
  ·obtain⟨x,hx⟩:∃ x,l[i]?=some x:=⟨_,List.getElem?_eq_getElem hk⟩
   obtain⟨y,hy⟩:∃ y,m[i]?=some y:=⟨_,List.getElem?_eq_getElem (by omega)⟩
   obtain⟨b,g,cells,rw_,c,hve,hb,hc,hcl,hle,hld,hgt⟩:=h.at hx
   have hc:c=[.int .i64 x.1,.int .i64 x.2]:=hc
   subst hc
   obtain⟨b',g',cells',rw',c',hwe,hb',hc',hcl',hle',hld',hgt'⟩:=h'.at hy
   have hc':c'=[.int .i64 y.1,.int .i64 y.2]:=hc'
   subst hc'
   rw[hve] at h0
   rw[hwe] at h1
   rw[drop_at hx,drop_at hy,eqG] at hr
   have w1:IntKind.i64.wrap ((i:Int)+1)=((i+1:Nat):Int):=by rw[wi (by omega) (by omega)];rfl
   have q0:(0:Int)≤(i:Int):=by omega
   have q1:(i:Int)<(l.length:Int):=by omega
   have q2:(i:Int)<(m.length:Int):=by omega
   cases hq:ptQ x y with
   | true=>
    rw[hq,Bool.true_and] at hr
    unfold ptQ at hq
    (refine sg (et h0 (et h1 (et h12 (et h13 (dt q1))))) ?_;try exact⟨⟩)
    repeat ((first|refine drawnF ?_ (by decide +kernel));simp only[go_sem,Nat.reduceEqDiff,Nat.reduceAdd,Nat.reduceSub,Nat.reduceMul,Nat.reduceLT,Nat.reduceLeDiff,Int.reducePow,Int.reduceBEq,Int.reduceBNe,Int.reduceDiv,Int.reduceMod,Int.reduceEq,Int.reduceLT,Int.reduceLE,Int.reduceAdd,Int.reduceSub,Int.reduceMul,Int.reduceNeg,Int.reduceToNat,Int.reduceTDiv,Int.reduceTMod,↓reduceIte,h0,h1,h12,h13,q0,q1,q2,Int.toNat_natCast,Nat.zero_add,hb,hb',hld,hld',hq,w1,bne])
    exact⟨k - 1,by omega,hve.symm,hwe.symm,i+1,by omega,rfl,hr⟩
   | false=>
    rw[hq,Bool.false_and] at hr
    unfold ptQ at hq
    (refine sg (et h0 (et h1 (et h12 (et h13 (dt q1))))) ?_;try exact⟨⟩)
    repeat ((first|refine drawnF ?_ (by decide +kernel));simp only[go_sem,Nat.reduceEqDiff,Nat.reduceAdd,Nat.reduceSub,Nat.reduceMul,Nat.reduceLT,Nat.reduceLeDiff,Int.reducePow,Int.reduceBEq,Int.reduceBNe,Int.reduceDiv,Int.reduceMod,Int.reduceEq,Int.reduceLT,Int.reduceLE,Int.reduceAdd,Int.reduceSub,Int.reduceMul,Int.reduceNeg,Int.reduceToNat,Int.reduceTDiv,Int.reduceTMod,↓reduceIte,h0,h1,h12,h13,q0,q1,q2,Int.toNat_natCast,Nat.zero_add,hb,hb',hld,hld',hq,w1,bne])
    rw[← hr]
  ·rw[List.drop_eq_nil_of_le (by omega),List.drop_eq_nil_of_le (by omega)] at hr
   (refine sg (et h0 (et h1 (et h12 (et h13 (df (show ¬ (i:Int)<(l.length:Int) by omega)))))) ?_;try exact⟨⟩)
   rw[← hr];rfl
 ·rw[eqG_len (by omega)]
  (refine sg (nf hl) ?_;try exact⟨⟩)
set_option maxHeartbeats 4000000 in
theorem eqCk_ (l m:List Ck) (v w:Value) (H:AH) (h:RowOf 10 CkE H v l) (h':RowOf 10 CkE H w m):SemCall Tryz.prog 112 [v,w] H (.bool (eqG ckQ l m)) H []:=by
 refine pure_of ?_ rfl
 have hlen:=h.len
 obtain⟨va,ve,hv⟩:=h.form
 subst hv
 obtain⟨wa,we,hw⟩:=h'.form
 subst hw
 refine XCal.of hm Tryz.func112 rfl (fun xs w=>Tryz.call112 xs w) Tryz.ntmps112 Tryz.results112 rfl ?_
 by_cases hl:(l.length:Int)=(m.length:Int)
 ·(refine sg (nt hl) ?_;try exact⟨⟩)
  refine keep (fun k T H' D=>H=H'∧D=[]∧T 0=.slice va l.length ve∧T 1=.slice wa m.length we∧T 12=.int .i64 (l.length:Int)∧∃ i:Nat,i+k=l.length∧T 13=.int .i64 (i:Int)∧eqG ckQ (l.drop i) (m.drop i)=eqG ckQ l m) l.length ⟨rfl,rfl,rfl,rfl,rfl,0,by omega,rfl,rfl⟩ ?_
  rintro k T H' D ⟨rfl,rfl,h0,h1,h12,i,hi,h13,hr⟩
  by_cases hk:i<l.length
  ·obtain⟨x,hx⟩:∃ x,l[i]?=some x:=⟨_,List.getElem?_eq_getElem hk⟩
   obtain⟨y,hy⟩:∃ y,m[i]?=some y:=⟨_,List.getElem?_eq_getElem (by omega)⟩
   obtain⟨b,g,cells,rw_,c,hve,hb,hc,hcl,hle,hld,hgt⟩:=h.at hx
   have hc:c=ckC x:=hc
   subst hc
   obtain⟨b',g',cells',rw',c',hwe,hb',hc',hcl',hle',hld',hgt'⟩:=h'.at hy
   have hc':c'=ckC y:=hc'
   subst hc'
   rw[hve] at h0
   rw[hwe] at h1
   rw[drop_at hx,drop_at hy,eqG] at hr
   have w1:IntKind.i64.wrap ((i:Int)+1)=((i+1:Nat):Int):=by rw[wi (by omega) (by omega)];rfl
   have q0:(0:Int)≤(i:Int):=by omega
   have q1:(i:Int)<(l.length:Int):=by omega
   have q2:(i:Int)<(m.length:Int):=by omega
   cases hq:ckQ x y with
   | true=>
    rw[hq,Bool.true_and] at hr
    unfold ckQ at hq
    (refine sg (et h0 (et h1 (et h12 (et h13 (dt q1))))) ?_;try exact⟨⟩)
    repeat ((first|refine drawnF ?_ (by decide +kernel));simp only[go_sem,Nat.reduceEqDiff,Nat.reduceAdd,Nat.reduceSub,Nat.reduceMul,Nat.reduceLT,Nat.reduceLeDiff,Int.reducePow,Int.reduceBEq,Int.reduceBNe,Int.reduceDiv,Int.reduceMod,Int.reduceEq,Int.reduceLT,Int.reduceLE,Int.reduceAdd,Int.reduceSub,Int.reduceMul,Int.reduceNeg,Int.reduceToNat,Int.reduceTDiv,Int.reduceTMod,↓reduceIte,h0,h1,h12,h13,q0,q1,q2,Int.toNat_natCast,Nat.zero_add,hb,hb',hld,hld',hq,w1,bne])
    exact⟨k - 1,by omega,hve.symm,hwe.symm,i+1,by omega,rfl,hr⟩
   | false=>
    rw[hq,Bool.false_and] at hr
    unfold ckQ at hq
    (refine sg (et h0 (et h1 (et h12 (et h13 (dt q1))))) ?_;try exact⟨⟩)
    repeat ((first|refine drawnF ?_ (by decide +kernel));simp only[go_sem,Nat.reduceEqDiff,Nat.reduceAdd,Nat.reduceSub,Nat.reduceMul,Nat.reduceLT,Nat.reduceLeDiff,Int.reducePow,Int.reduceBEq,Int.reduceBNe,Int.reduceDiv,Int.reduceMod,Int.reduceEq,Int.reduceLT,Int.reduceLE,Int.reduceAdd,Int.reduceSub,Int.reduceMul,Int.reduceNeg,Int.reduceToNat,Int.reduceTDiv,Int.reduceTMod,↓reduceIte,h0,h1,h12,h13,q0,q1,q2,Int.toNat_natCast,Nat.zero_add,hb,hb',hld,hld',hq,w1,bne])
    rw[← hr]
  ·rw[List.drop_eq_nil_of_le (by omega),List.drop_eq_nil_of_le (by omega)] at hr
   (refine sg (et h0 (et h1 (et h12 (et h13 (df (show ¬ (i:Int)<(l.length:Int) by omega)))))) ?_;try exact⟨⟩)
   rw[← hr];rfl
 ·rw[eqG_len (by omega)]
  (refine sg (nf hl) ?_;try exact⟨⟩)
set_option maxHeartbeats 4000000 in
theorem eqIn_ (l m:List Int) (v w:Value) (H:AH) (h:RowOf 1 InE H v l) (h':RowOf 1 InE H w m):SemCall Tryz.prog 113 [v,w] H (.bool (eqG inQ l m)) H []:=by
 refine pure_of ?_ rfl
 have hlen:=h.len
 obtain⟨va,ve,hv⟩:=h.form
 subst hv
 obtain⟨wa,we,hw⟩:=h'.form
 subst hw
 refine XCal.of hm Tryz.func113 rfl (fun xs w=>Tryz.call113 xs w) Tryz.ntmps113 Tryz.results113 rfl ?_
 by_cases hl:(l.length:Int)=(m.length:Int)
 ·(refine sg (nt hl) ?_;try exact⟨⟩)
  refine keep (fun k T H' D=>H=H'∧D=[]∧T 0=.slice va l.length ve∧T 1=.slice wa m.length we∧T 12=.int .i64 (l.length:Int)∧∃ i:Nat,i+k=l.length∧T 13=.int .i64 (i:Int)∧eqG inQ (l.drop i) (m.drop i)=eqG inQ l m) l.length ⟨rfl,rfl,rfl,rfl,rfl,0,by omega,rfl,rfl⟩ ?_
  rintro k T H' D ⟨rfl,rfl,h0,h1,h12,i,hi,h13,hr⟩
  by_cases hk:i<l.length
  ·obtain⟨x,hx⟩:∃ x,l[i]?=some x:=⟨_,List.getElem?_eq_getElem hk⟩
   obtain⟨y,hy⟩:∃ y,m[i]?=some y:=⟨_,List.getElem?_eq_getElem (by omega)⟩
   obtain⟨b,g,cells,rw_,c,hve,hb,hc,hcl,hle,hld,hgt⟩:=h.at hx
   have hc:c=[.int .i64 x]:=hc
   subst hc
   obtain⟨b',g',cells',rw',c',hwe,hb',hc',hcl',hle',hld',hgt'⟩:=h'.at hy
   have hc':c'=[.int .i64 y]:=hc'
   subst hc'
   have hg:=hgt 0 (by omega)
   have hg':=hgt' 0 (by omega)
   rw[Nat.mul_one,Nat.add_zero] at hg hg'
   have hg:cells[i]?=some (.int .i64 x):=hg
   have hg':cells'[i]?=some (.int .i64 y):=hg'
   rw[hve] at h0
   rw[hwe] at h1
   rw[drop_at hx,drop_at hy,eqG] at hr
   have w1:IntKind.i64.wrap ((i:Int)+1)=((i+1:Nat):Int):=by rw[wi (by omega) (by omega)];rfl
   have q0:(0:Int)≤(i:Int):=by omega
   have q1:(i:Int)<(l.length:Int):=by omega
   have q2:(i:Int)<(m.length:Int):=by omega
   cases hq:inQ x y with
   | true=>
    rw[hq,Bool.true_and] at hr
    unfold inQ at hq
    (refine sg (et h0 (et h1 (et h12 (et h13 (dt q1))))) ?_;try exact⟨⟩)
    repeat ((first|refine drawnF ?_ (by decide +kernel));simp only[go_sem,Nat.reduceEqDiff,Nat.reduceAdd,Nat.reduceSub,Nat.reduceMul,Nat.reduceLT,Nat.reduceLeDiff,Int.reducePow,Int.reduceBEq,Int.reduceBNe,Int.reduceDiv,Int.reduceMod,Int.reduceEq,Int.reduceLT,Int.reduceLE,Int.reduceAdd,Int.reduceSub,Int.reduceMul,Int.reduceNeg,Int.reduceToNat,Int.reduceTDiv,Int.reduceTMod,↓reduceIte,h0,h1,h12,h13,q0,q1,q2,Int.toNat_natCast,Nat.zero_add,hb,hb',hg,hg',Nat.mul_one,hq,w1,bne])
    exact⟨k - 1,by omega,hve.symm,hwe.symm,i+1,by omega,rfl,hr⟩
   | false=>
    rw[hq,Bool.false_and] at hr
    unfold inQ at hq
    (refine sg (et h0 (et h1 (et h12 (et h13 (dt q1))))) ?_;try exact⟨⟩)
    repeat ((first|refine drawnF ?_ (by decide +kernel));simp only[go_sem,Nat.reduceEqDiff,Nat.reduceAdd,Nat.reduceSub,Nat.reduceMul,Nat.reduceLT,Nat.reduceLeDiff,Int.reducePow,Int.reduceBEq,Int.reduceBNe,Int.reduceDiv,Int.reduceMod,Int.reduceEq,Int.reduceLT,Int.reduceLE,Int.reduceAdd,Int.reduceSub,Int.reduceMul,Int.reduceNeg,Int.reduceToNat,Int.reduceTDiv,Int.reduceTMod,↓reduceIte,h0,h1,h12,h13,q0,q1,q2,Int.toNat_natCast,Nat.zero_add,hb,hb',hg,hg',Nat.mul_one,hq,w1,bne])
    rw[← hr]
  ·rw[List.drop_eq_nil_of_le (by omega),List.drop_eq_nil_of_le (by omega)] at hr
   (refine sg (et h0 (et h1 (et h12 (et h13 (df (show ¬ (i:Int)<(l.length:Int) by omega)))))) ?_;try exact⟨⟩)
   rw[← hr];rfl
 ·rw[eqG_len (by omega)]
  (refine sg (nf hl) ?_;try exact⟨⟩)
end Go.Proofs.YthhbglkokpablaaGreat
/- Documents: the walks of what compares shapes. -/
namespace Go.Proofs.YthhbglkokpablaaGreat
open Go Go.RowKit E
/-- One piece of code, then the rest, from what the piece leaves alone. -/
theorem xcut {P:Program} {sz n0:Nat} {T:Env} {H:AH} {D:List Nat} {Q:KC} {a b:Code} (R:Env→AH→List Nat→Prop) (h1:@XCode P sz n0 a T H D ⟨fun o T' H' D'=>o=.norm∧R T' H' D'⟩) (h2:∀ T' H' D',R T' H' D'→XCode P sz n0 b T' H' D'):XCode P sz n0 (.seq a b) T H D:=by
 show WCode P sz n0 a T H D _
 refine WCode.mono h1 fun o T' H' D' ⟨ho,r⟩=>?_
 subst ho
 exact h2 T' H' D' r
attribute [local irreducible] XRun XOps XCode XCal XLoop XQ SemCall
set_option linter.unusedSimpArgs false
set_option linter.unusedVariables false
theorem psame_ (p q:PL) (pv qv:Value) (H:AH) (hp:Pts H pv p.2) (hq:Pts H qv q.2):SemCall Tryz.prog 123 [.agg [.bool p.1,pv].toArray,.agg [.bool q.1,qv].toArray] H (.bool (plQ p q)) H []:=by
 refine pure_of ?_ rfl
 have k1:=fun L=>eqPt_ p.2 q.2 pv qv (H++L) (hp.app L).row (hq.app L).row
 unfold plQ
 cases h:(p.1==q.1)
 all_goals
  refine XCal.of hm Tryz.func123 rfl (fun xs w=>Tryz.call123 xs w) Tryz.ntmps123 Tryz.results123 rfl ?_
  (refine sg h ?_;try exact⟨⟩)
  repeat ((first|refine(k1 _).x ?_|refine drawnF ?_ (by decide +kernel));(refine sg h ?_;try exact⟨⟩))
abbrev pkV (x:Pk) (pv:Value):Value:=.agg [.int .i64 x.t,.bool x.p.1,pv,.int .i64 x.how,.int .i64 x.e.x1,.int .i64 x.e.y1,.int .i64 x.e.x2,.int .i64 x.e.y2].toArray
theorem spaths1_ (x y:Pk) (pv qv:Value) (H:AH) (hp:Pts H pv x.p.2) (hq:Pts H qv y.p.2):SemCall Tryz.prog 122 [pkV x pv,pkV y qv] H (.bool (pkQ x y)) H []:=by
 refine pure_of ?_ rfl
 have k1:=fun L=>psame_ x.p y.p pv qv (H++L) (hp.app L) (hq.app L)
 unfold pkQ
 cases h1:(x.t==y.t) with
 | false=>
  try unfold ezQ at h3
  refine XCal.of hm Tryz.func122 rfl (fun xs w=>Tryz.call122 xs w) Tryz.ntmps122 Tryz.results122 rfl ?_
  (refine sg h1 ?_;try exact⟨⟩)
  repeat ((first|refine(k1 _).x ?_|refine drawnF ?_ (by decide +kernel));(refine sg h1 ?_;try exact⟨⟩))
 | true=>
  cases h2:(x.how==y.how) with
  | false=>
   try unfold ezQ at h3
   refine XCal.of hm Tryz.func122 rfl (fun xs w=>Tryz.call122 xs w) Tryz.ntmps122 Tryz.results122 rfl ?_
   (refine sg (et h1 h2) ?_;try exact⟨⟩)
   repeat ((first|refine(k1 _).x ?_|refine drawnF ?_ (by decide +kernel));(refine sg (et h1 h2) ?_;try exact⟨⟩))
  | true=>
   cases h3:ezQ x.e y.e with
   | false=>
    try unfold ezQ at h3
    refine XCal.of hm Tryz.func122 rfl (fun xs w=>Tryz.call122 xs w) Tryz.ntmps122 Tryz.results122 rfl ?_
    (refine sg (et h1 (et h2 h3)) ?_;try exact⟨⟩)
    repeat ((first|refine(k1 _).x ?_|refine drawnF ?_ (by decide +kernel));(refine sg (et h1 (et h2 h3)) ?_;try exact⟨⟩))
   | true=>
    try unfold ezQ at h3
    refine XCal.of hm Tryz.func122 rfl (fun xs w=>Tryz.call122 xs w) Tryz.ntmps122 Tryz.results122 rfl ?_
    (refine sg (et h1 (et h2 h3)) ?_;try exact⟨⟩)
    repeat ((first|refine(k1 _).x ?_|refine drawnF ?_ (by decide +kernel));(refine sg (et h1 (et h2 h3)) ?_;try exact⟨⟩))
set_option maxHeartbeats 4000000 in
theorem eqPk_ (l m:List Pk) (v w:Value) (H:AH) (h:Pks H v l) (h':Pks H w m):SemCall Tryz.prog 121 [v,w,.func (.func 122) [].toArray [].toArray] H (.bool (eqG pkQ l m)) H []:=by
 refine pure_of ?_ rfl
 have hlen:=h.len
 obtain⟨va,ve,hv⟩:=h.form
 subst hv
 obtain⟨wa,we,hw⟩:=h'.form
 subst hw
 refine XCal.of hm Tryz.func121 rfl (fun xs w=>Tryz.call121 xs w) Tryz.ntmps121 Tryz.results121 rfl ?_
 by_cases hl:(l.length:Int)=(m.length:Int)
 ·(refine sg (nt hl) ?_;try exact⟨⟩)
  refine keep (fun k T K D=>D=[]∧Old H K∧H.length≤K.length∧T 1=.slice wa m.length we∧T 2=.func (.func 122) [].toArray [].toArray∧T 15=.slice va l.length ve∧T 16=.int .i64 (l.length:Int)∧∃ i:Nat,i+k=l.length∧T 17=.int .i64 (i:Int)∧eqG pkQ (l.drop i) (m.drop i)=eqG pkQ l m) l.length ⟨rfl,Old.refl _,by omega,rfl,rfl,rfl,rfl,0,by omega,rfl,rfl⟩ ?_
  rintro k T K D ⟨rfl,hold,hKl,h1,h2,h15,h16,i,hi,h17,hr⟩
  have kd:∀ n,decide (K.length+n<H.length)=false:=fun n=>df (by omega)
  have kd0:decide (K.length<H.length)=false:=df (by omega)
  by_cases hk:i<l.length
  ·obtain⟨x,hx⟩:∃ x,l[i]?=some x:=⟨_,List.getElem?_eq_getElem hk⟩
   obtain⟨y,hy⟩:∃ y,m[i]?=some y:=⟨_,List.getElem?_eq_getElem (by omega)⟩
   obtain⟨b,g,cells,rw_,c,hve,hb,⟨pv,hc,hp⟩,hcl,hle,hld,hgt⟩:=h.at hx
   subst hc
   obtain⟨b',g',cells',rw',c',hwe,hb',⟨qv,hc',hq⟩,hcl',hle',hld',hgt'⟩:=h'.at hy
   subst hc'
   have kb:=hold _ _ hb
   have kb':=hold _ _ hb'
   rw[hve] at h15
   rw[hwe] at h1
   rw[drop_at hx,drop_at hy,eqG] at hr
   have w1:IntKind.i64.wrap ((i:Int)+1)=((i+1:Nat):Int):=by rw[wi (by omega) (by omega)];rfl
   have q0:(0:Int)≤(i:Int):=by omega
   have q1:(i:Int)<(l.length:Int):=by omega
   have q2:(i:Int)<(m.length:Int):=by omega
   have k1:=fun L=>spaths1_ x y pv qv (K++L) ((hp.old hold).app L) ((hq.old hold).app L)
   cases hq:pkQ x y with
   | true=>
    rw[hq,Bool.true_and] at hr
    (refine sg (et h1 (et h2 (et h15 (et h16 (et h17 (et (dt q1) (et q0 (et q1 (et q2 (et Int.toNat_natCast (et Nat.zero_add (et kb (et kb' (et (old_get kb') (et hld (et hld' (et kd kd0))))))))))))))))) ?_;try exact⟨⟩)
    refine(k1 _).x ?_
    (refine sg (et h1 (et h2 (et h15 (et h16 (et h17 (et hq (et w1 (et kd kd0)))))))) ?_;try exact⟨⟩)
    exact⟨k - 1,by omega,hold.app _,by omega,hwe.symm,hve.symm,i+1,by omega,rfl,hr⟩
   | false=>
    rw[hq,Bool.false_and] at hr
    (refine sg (et h1 (et h2 (et h15 (et h16 (et h17 (et (dt q1) (et q0 (et q1 (et q2 (et Int.toNat_natCast (et Nat.zero_add (et kb (et kb' (et (old_get kb') (et hld (et hld' (et kd kd0))))))))))))))))) ?_;try exact⟨⟩)
    refine(k1 _).x ?_
    (refine sg (et h1 (et h2 (et h15 (et h16 (et h17 (et hq (et w1 (et kd kd0)))))))) ?_;try exact⟨⟩)
    rw[← hr]
  ·rw[List.drop_eq_nil_of_le (by omega),List.drop_eq_nil_of_le (by omega)] at hr
   (refine sg (et h1 (et h2 (et h15 (et h16 (et h17 (df (show ¬ (i:Int)<(l.length:Int) by omega))))))) ?_;try exact⟨⟩)
   rw[← hr];rfl
 ·rw[eqG_len (by omega)]
  (refine sg (nf hl) ?_;try exact⟨⟩)
theorem spaths_ (l m:List Pk) (v w:Value) (H:AH) (h:Pks H v l) (h':Pks H w m):SemCall Tryz.prog 111 [v,w] H (.bool (eqG pkQ l m)) H []:=by
 refine pure_of ?_ rfl
 refine XCal.of hm Tryz.func111 rfl (fun xs w=>Tryz.call111 xs w) Tryz.ntmps111 Tryz.results111 rfl ?_
 (refine sg trivial ?_;try exact⟨⟩)
 repeat ((first|refine(eqPk_ l m v w _ h h').x ?_|refine drawnF ?_ (by decide +kernel));(refine sg trivial ?_;try exact⟨⟩))
end Go.Proofs.YthhbglkokpablaaGreat
/- Documents: the walk of what compares shapes. -/
namespace Go.Proofs.YthhbglkokpablaaGreat
open Go Go.RowKit E
attribute [local irreducible] XRun XOps XCode XCal XLoop XQ SemCall
set_option linter.unusedSimpArgs false
set_option linter.unusedVariables false
set_option maxHeartbeats 4000000 in
theorem sshape_ (x y:Sh) (v0 v1 v2 v3 v4 v5 v6 v7 w0 w1 w2 w3 w4 w5 w6 w7:Value) (H:AH) (h:ShV H x v0 v1 v2 v3 v4 v5 v6 v7) (h':ShV H y w0 w1 w2 w3 w4 w5 w6 w7):SemCall Tryz.prog 98 [shV x v0 v1 v2 v3 v4 v5 v6 v7,shV y w0 w1 w2 w3 w4 w5 w6 w7] H (.bool (shQ x y)) H []:=by
 refine pure_of ?_ rfl
 generalize hL:H++[(⟨shC x v0 v1 v2 v3 v4 v5 v6 v7,0,true⟩:Blk),⟨shC y w0 w1 w2 w3 w4 w5 w6 w7,0,true⟩]=L at *
 have g0:L[H.length]?=some ⟨shC x v0 v1 v2 v3 v4 v5 v6 v7,0,true⟩:=by rw[← hL,hget_app0];rfl
 have g1:L[H.length+1]?=some ⟨shC y w0 w1 w2 w3 w4 w5 w6 w7,0,true⟩:=by rw[← hL,hget_app];rfl
 have o:Old H L:=by rw[← hL];exact Old.app' _ _
 have k1:=eqKy_ x.w y.w v0 w0 L (h.w.old KyE.m o) (h'.w.old KyE.m o)
 have k2:=eqKy_ x.h y.h v1 w1 L (h.h.old KyE.m o) (h'.h.old KyE.m o)
 have k3:=spaths_ x.paths y.paths v2 w2 L (h.paths.old PkE.m o) (h'.paths.old PkE.m o)
 have k4:=eqCk_ x.colors y.colors v3 w3 L (h.colors.old CkE.m o) (h'.colors.old CkE.m o)
 have k5:=eqKy_ x.width y.width v4 w4 L (h.width.old KyE.m o) (h'.width.old KyE.m o)
 have k6:=eqIn_ x.dash y.dash v5 w5 L (h.dash.old InE.m o) (h'.dash.old InE.m o)
 have k7:=eqKy_ x.frm y.frm v6 w6 L (h.frm.old KyE.m o) (h'.frm.old KyE.m o)
 have k8:=eqKy_ x.to y.to v7 w7 L (h.to.old KyE.m o) (h'.to.old KyE.m o)
 clear h h' o
 refine XCal.of hm Tryz.func98 rfl (fun xs w=>Tryz.call98 xs w) Tryz.ntmps98 Tryz.results98 rfl ?_
 refine xcut (fun T K D=>D=[]∧K=L∧T 2=ap H.length 0 0∧T 3=ap (H.length+1) 0 0) ?_ ?_
 ·simp only[go_sem,Nat.reduceEqDiff,Nat.reduceAdd,Nat.reduceSub,Nat.reduceMul,Nat.reduceLT,Nat.reduceLeDiff,Int.reducePow,Int.reduceBEq,Int.reduceBNe,Int.reduceDiv,Int.reduceMod,Int.reduceEq,Int.reduceLT,Int.reduceLE,Int.reduceAdd,Int.reduceSub,Int.reduceMul,Int.reduceNeg,Int.reduceToNat,Int.reduceTDiv,Int.reduceTMod,↓reduceIte,← hL]
 ·rintro T K D ⟨rfl,rfl,t2,t3⟩
  refine xcut (fun T' K' D=>D=[]∧K'=K∧T' 2=ap H.length 0 0∧T' 3=ap (H.length+1) 0 0∧T' 5=.bool (shP x y)) ?_ ?_
  ·obtain⟨q,hq⟩:∃ q,shP x y=q:=⟨_,rfl⟩
   rw[hq]
   unfold shP at hq
   cases h1:(x.form==y.form) with
   | false=>
    simp only[h1,Bool.true_and,Bool.and_true,Bool.false_and,Bool.and_false] at hq
    subst hq
    try unfold pntQ at h5
    try unfold c4Q at h7
    (refine sg (et t2 (et t3 (et g0 (et g1 h1)))) ?_;try exact⟨⟩)
   | true=>
    cases h2:(x.n==y.n) with
    | false=>
     simp only[h1,h2,Bool.true_and,Bool.and_true,Bool.false_and,Bool.and_false] at hq
     subst hq
     try unfold pntQ at h5
     try unfold c4Q at h7
     (refine sg (et t2 (et t3 (et g0 (et g1 (et h1 h2))))) ?_;try exact⟨⟩)
    | true=>
     cases h3:(x.fill==y.fill) with
     | false=>
      simp only[h1,h2,h3,Bool.true_and,Bool.and_true,Bool.false_and,Bool.and_false] at hq
      subst hq
      try unfold pntQ at h5
      try unfold c4Q at h7
      (refine sg (et t2 (et t3 (et g0 (et g1 (et h1 (et h2 h3)))))) ?_;try exact⟨⟩)
     | true=>
      cases h4:(x.rule==y.rule) with
      | false=>
       simp only[h1,h2,h3,h4,Bool.true_and,Bool.and_true,Bool.false_and,Bool.and_false] at hq
       subst hq
       try unfold pntQ at h5
       try unfold c4Q at h7
       (refine sg (et t2 (et t3 (et g0 (et g1 (et h1 (et h2 (et h3 h4))))))) ?_;try exact⟨⟩)
      | true=>
       cases h5:pntQ x.paint y.paint with
       | false=>
        simp only[h1,h2,h3,h4,h5,Bool.true_and,Bool.and_true,Bool.false_and,Bool.and_false] at hq
        subst hq
        try unfold pntQ at h5
        try unfold c4Q at h7
        (refine sg (et t2 (et t3 (et g0 (et g1 (et h1 (et h2 (et h3 (et h4 h5)))))))) ?_;try exact⟨⟩)
       | true=>
        cases h6:(x.stroke==y.stroke) with
        | false=>
         simp only[h1,h2,h3,h4,h5,h6,Bool.true_and,Bool.and_true,Bool.false_and,Bool.and_false] at hq
         subst hq
         try unfold pntQ at h5
         try unfold c4Q at h7
         (refine sg (et t2 (et t3 (et g0 (et g1 (et h1 (et h2 (et h3 (et h4 (et h5 h6))))))))) ?_;try exact⟨⟩)
        | true=>
         cases h7:c4Q x.line y.line with
         | false=>
          simp only[h1,h2,h3,h4,h5,h6,h7,Bool.true_and,Bool.and_true,Bool.false_and,Bool.and_false] at hq
          subst hq
          try unfold pntQ at h5
          try unfold c4Q at h7
          (refine sg (et t2 (et t3 (et g0 (et g1 (et h1 (et h2 (et h3 (et h4 (et h5 (et h6 h7)))))))))) ?_;try exact⟨⟩)
         | true=>
          simp only[h1,h2,h3,h4,h5,h6,h7,Bool.true_and,Bool.and_true,Bool.false_and,Bool.and_false] at hq
          subst hq
          try unfold pntQ at h5
          try unfold c4Q at h7
          (refine sg (et t2 (et t3 (et g0 (et g1 (et h1 (et h2 (et h3 (et h4 (et h5 (et h6 h7)))))))))) ?_;try exact⟨⟩)
  ·rintro T' K' D ⟨rfl,rfl,t2,t3,t5⟩
   refine xcut (fun T' K'' D=>D=[]∧K''=K'∧T' 2=ap H.length 0 0∧T' 3=ap (H.length+1) 0 0∧T' 5=.bool (shP x y)∧T' 6=.bool (shK x y)) ?_ ?_
   ·obtain⟨q,hq⟩:∃ q,shK x y=q:=⟨_,rfl⟩
    rw[hq]
    unfold shK at hq
    cases h1:eqG kyQ x.w y.w with
    | false=>
     simp only[h1,Bool.true_and,Bool.and_true,Bool.false_and,Bool.and_false] at hq
     subst hq
     (refine sg (et t2 (et t3 (et t5 (et g0 (et g1 h1))))) ?_;try exact⟨⟩)
     repeat ((first|refine(k1).x ?_|refine(k2).x ?_|refine(k5).x ?_|refine(k7).x ?_|refine(k8).x ?_|refine drawnF ?_ (by decide +kernel));(refine sg (et t2 (et t3 (et t5 (et g0 (et g1 h1))))) ?_;try exact⟨⟩))
    | true=>
     cases h2:eqG kyQ x.h y.h with
     | false=>
      simp only[h1,h2,Bool.true_and,Bool.and_true,Bool.false_and,Bool.and_false] at hq
      subst hq
      (refine sg (et t2 (et t3 (et t5 (et g0 (et g1 (et h1 h2)))))) ?_;try exact⟨⟩)
      repeat ((first|refine(k1).x ?_|refine(k2).x ?_|refine(k5).x ?_|refine(k7).x ?_|refine(k8).x ?_|refine drawnF ?_ (by decide +kernel));(refine sg (et t2 (et t3 (et t5 (et g0 (et g1 (et h1 h2)))))) ?_;try exact⟨⟩))
     | true=>
      cases h3:eqG kyQ x.width y.width with
      | false=>
       simp only[h1,h2,h3,Bool.true_and,Bool.and_true,Bool.false_and,Bool.and_false] at hq
       subst hq
       (refine sg (et t2 (et t3 (et t5 (et g0 (et g1 (et h1 (et h2 h3))))))) ?_;try exact⟨⟩)
       repeat ((first|refine(k1).x ?_|refine(k2).x ?_|refine(k5).x ?_|refine(k7).x ?_|refine(k8).x ?_|refine drawnF ?_ (by decide +kernel));(refine sg (et t2 (et t3 (et t5 (et g0 (et g1 (et h1 (et h2 h3))))))) ?_;try exact⟨⟩))
      | true=>
       cases h4:eqG kyQ x.frm y.frm with
       | false=>
        simp only[h1,h2,h3,h4,Bool.true_and,Bool.and_true,Bool.false_and,Bool.and_false] at hq
        subst hq
        (refine sg (et t2 (et t3 (et t5 (et g0 (et g1 (et h1 (et h2 (et h3 h4)))))))) ?_;try exact⟨⟩)
        repeat ((first|refine(k1).x ?_|refine(k2).x ?_|refine(k5).x ?_|refine(k7).x ?_|refine(k8).x ?_|refine drawnF ?_ (by decide +kernel));(refine sg (et t2 (et t3 (et t5 (et g0 (et g1 (et h1 (et h2 (et h3 h4)))))))) ?_;try exact⟨⟩))
       | true=>
        simp only[h1,h2,h3,h4,Bool.true_and,Bool.and_true,Bool.false_and,Bool.and_false] at hq
        subst hq
        (refine sg (et t2 (et t3 (et t5 (et g0 (et g1 (et h1 (et h2 (et h3 h4)))))))) ?_;try exact⟨⟩)
        repeat ((first|refine(k1).x ?_|refine(k2).x ?_|refine(k5).x ?_|refine(k7).x ?_|refine(k8).x ?_|refine drawnF ?_ (by decide +kernel));(refine sg (et t2 (et t3 (et t5 (et g0 (et g1 (et h1 (et h2 (et h3 h4)))))))) ?_;try exact⟨⟩))
   ·rintro T' K'' D ⟨rfl,rfl,t2,t3,t5,t6⟩
    obtain⟨q,hq⟩:∃ q,shQ x y=q:=⟨_,rfl⟩
    rw[hq]
    unfold shQ at hq
    cases h1:shP x y with
    | false=>
     simp only[h1,Bool.true_and,Bool.and_true,Bool.false_and,Bool.and_false] at hq
     subst hq
     (refine sg (et t2 (et t3 (et t5 (et t6 (et g0 (et g1 h1)))))) ?_;try exact⟨⟩)
     repeat ((first|refine(k3).x ?_|refine(k4).x ?_|refine(k6).x ?_|refine drawnF ?_ (by decide +kernel));(refine sg (et t2 (et t3 (et t5 (et t6 (et g0 (et g1 h1)))))) ?_;try exact⟨⟩))
    | true=>
     cases h2:shK x y with
     | false=>
      simp only[h1,h2,Bool.true_and,Bool.and_true,Bool.false_and,Bool.and_false] at hq
      subst hq
      (refine sg (et t2 (et t3 (et t5 (et t6 (et g0 (et g1 (et h1 h2))))))) ?_;try exact⟨⟩)
      repeat ((first|refine(k3).x ?_|refine(k4).x ?_|refine(k6).x ?_|refine drawnF ?_ (by decide +kernel));(refine sg (et t2 (et t3 (et t5 (et t6 (et g0 (et g1 (et h1 h2))))))) ?_;try exact⟨⟩))
     | true=>
      cases h3:eqG pkQ x.paths y.paths with
      | false=>
       simp only[h1,h2,h3,Bool.true_and,Bool.and_true,Bool.false_and,Bool.and_false] at hq
       subst hq
       (refine sg (et t2 (et t3 (et t5 (et t6 (et g0 (et g1 (et h1 (et h2 h3)))))))) ?_;try exact⟨⟩)
       repeat ((first|refine(k3).x ?_|refine(k4).x ?_|refine(k6).x ?_|refine drawnF ?_ (by decide +kernel));(refine sg (et t2 (et t3 (et t5 (et t6 (et g0 (et g1 (et h1 (et h2 h3)))))))) ?_;try exact⟨⟩))
      | true=>
       cases h4:eqG ckQ x.colors y.colors with
       | false=>
        simp only[h1,h2,h3,h4,Bool.true_and,Bool.and_true,Bool.false_and,Bool.and_false] at hq
        subst hq
        (refine sg (et t2 (et t3 (et t5 (et t6 (et g0 (et g1 (et h1 (et h2 (et h3 h4))))))))) ?_;try exact⟨⟩)
        repeat ((first|refine(k3).x ?_|refine(k4).x ?_|refine(k6).x ?_|refine drawnF ?_ (by decide +kernel));(refine sg (et t2 (et t3 (et t5 (et t6 (et g0 (et g1 (et h1 (et h2 (et h3 h4))))))))) ?_;try exact⟨⟩))
       | true=>
        simp only[h1,h2,h3,h4,Bool.true_and,Bool.and_true,Bool.false_and,Bool.and_false] at hq
        subst hq
        (refine sg (et t2 (et t3 (et t5 (et t6 (et g0 (et g1 (et h1 (et h2 (et h3 h4))))))))) ?_;try exact⟨⟩)
        repeat ((first|refine(k3).x ?_|refine(k4).x ?_|refine(k6).x ?_|refine drawnF ?_ (by decide +kernel));(refine sg (et t2 (et t3 (et t5 (et t6 (et g0 (et g1 (et h1 (et h2 (et h3 h4))))))))) ?_;try exact⟨⟩))
end Go.Proofs.YthhbglkokpablaaGreat
/- Documents: the walk of what judges a layer. -/
namespace Go.Proofs.YthhbglkokpablaaGreat
open Go Go.RowKit E
attribute [local irreducible] XRun XOps XCode XCal XLoop XQ SemCall
set_option linter.unusedSimpArgs false
set_option linter.unusedVariables false
abbrev lyVs (l:Ly) (v0 v1 v2 v3 v4 v5 v6 v7 v8 pm vw vh vp vc vd vda vf vt:Value):List Value:=lyC l v0 v1 v2 v3 v4 v5 v6 v7 v8 pm (shC l.shape vw vh vp vc vd vda vf vt)
def KsE (K:AH) (c:List Value) (l:List Ky):Prop:=∃ v,c=[v]∧Kys K v l
theorem KsE.m:Mono KsE:=RowOf.mono KyE.m
theorem keysR_ (l:Ly) (v0 v1 v2 v3 v4 v5 v6 v7 v8 pm vw vh vp vc vd vda vf vt:Value) (H:AH) (h:LyV H l v0 v1 v2 v3 v4 v5 v6 v7 v8 pm):Cal Tryz.prog 95 [.agg (lyVs l v0 v1 v2 v3 v4 v5 v6 v7 v8 pm vw vh vp vc vd vda vf vt).toArray] H fun v' H' W=>W=[]∧(∃ L,H'=H++L)∧RowOf 1 KsE H' v' l.keys:=by
 refine adds_of ?_
 obtain⟨a0,e0,rfl⟩:=h.x.form
 obtain⟨a1,e1,rfl⟩:=h.y.form
 obtain⟨a2,e2,rfl⟩:=h.ax.form
 obtain⟨a3,e3,rfl⟩:=h.ay.form
 obtain⟨a4,e4,rfl⟩:=h.sx.form
 obtain⟨a5,e5,rfl⟩:=h.sy.form
 obtain⟨a6,e6,rfl⟩:=h.turn.form
 obtain⟨a7,e7,rfl⟩:=h.opac.form
 obtain⟨a8,e8,rfl⟩:=h.remap.form
 refine XCal.of hm Tryz.func95 rfl (fun xs w=>Tryz.call95 xs w) Tryz.ntmps95 Tryz.results95 rfl ?_
 (refine sg trivial ?_;try exact⟨⟩)
 refine .inr ⟨H.length+1,0,[],true,[[.slice a0 l.x.length e0],[.slice a1 l.y.length e1],[.slice a2 l.ax.length e2],[.slice a3 l.ay.length e3],[.slice a4 l.sx.length e4],[.slice a5 l.sy.length e5],[.slice a6 l.turn.length e6],[.slice a7 l.opac.length e7],[.slice a8 l.remap.length e8]],rfl,by rw[hget_app];rfl,rfl,by simp[Ly.keys],fun i x hx=>?_⟩
 have o:=fun L=>Old.app' H L
 match i,hx with
 | 0,hx=>simp[Ly.keys] at hx;subst hx;exact⟨_,rfl,rfl,_,rfl,h.x.old KyE.m (o _)⟩
 | 1,hx=>simp[Ly.keys] at hx;subst hx;exact⟨_,rfl,rfl,_,rfl,h.y.old KyE.m (o _)⟩
 | 2,hx=>simp[Ly.keys] at hx;subst hx;exact⟨_,rfl,rfl,_,rfl,h.ax.old KyE.m (o _)⟩
 | 3,hx=>simp[Ly.keys] at hx;subst hx;exact⟨_,rfl,rfl,_,rfl,h.ay.old KyE.m (o _)⟩
 | 4,hx=>simp[Ly.keys] at hx;subst hx;exact⟨_,rfl,rfl,_,rfl,h.sx.old KyE.m (o _)⟩
 | 5,hx=>simp[Ly.keys] at hx;subst hx;exact⟨_,rfl,rfl,_,rfl,h.sy.old KyE.m (o _)⟩
 | 6,hx=>simp[Ly.keys] at hx;subst hx;exact⟨_,rfl,rfl,_,rfl,h.turn.old KyE.m (o _)⟩
 | 7,hx=>simp[Ly.keys] at hx;subst hx;exact⟨_,rfl,rfl,_,rfl,h.opac.old KyE.m (o _)⟩
 | 8,hx=>simp[Ly.keys] at hx;subst hx;exact⟨_,rfl,rfl,_,rfl,h.remap.old KyE.m (o _)⟩
 | i+9,hx=>simp[Ly.keys] at hx
theorem layer1_ (l:List Ky) (v:Value) (H:AH) (h:Kys H v l):SemCall Tryz.prog 96 [v] H (.bool (!keysB l)) H []:=by
 refine pure_of ?_ rfl
 refine XCal.of hm Tryz.func96 rfl (fun xs w=>Tryz.call96 xs w) Tryz.ntmps96 Tryz.results96 rfl ?_
 (refine sg trivial ?_;try exact⟨⟩)
 repeat ((first|refine(keyR_ l v _ h).x ?_|refine drawnF ?_ (by decide +kernel));(refine sg trivial ?_;try exact⟨⟩))
theorem kIndex_ (l:List (List Ky)) (v:Value) (H:AH) (h:RowOf 1 KsE H v l):SemCall Tryz.prog 108 [v,.func (.func 96) [].toArray [].toArray] H (.int .i64 (idxG (fun k=>!keysB k) l 0)) H []:=by
 refine pure_of ?_ rfl
 have hlen:=h.len
 obtain⟨va,ve,hv⟩:=h.form
 subst hv
 refine XCal.of hm Tryz.func108 rfl (fun xs w=>Tryz.call108 xs w) Tryz.ntmps108 Tryz.results108 rfl ?_
 (refine sg trivial ?_;try exact⟨⟩)
 refine keep (fun k T H' D=>H=H'∧D=[]∧T 0=.slice va l.length ve∧T 1=.func (.func 96) [].toArray [].toArray∧T 7=.int .i64 (l.length:Int)∧∃ i:Nat,i+k=l.length∧T 8=.int .i64 (i:Int)∧idxG (fun k=>!keysB k) (l.drop i) i=idxG (fun k=>!keysB k) l 0) l.length ⟨rfl,rfl,rfl,rfl,rfl,0,by omega,rfl,rfl⟩ ?_
 rintro k T H' D ⟨rfl,rfl,h0,h1,h7,i,hi,h8,hr⟩
 by_cases hk:i<l.length
 ·obtain⟨x,hx⟩:∃ x,l[i]?=some x:=⟨_,List.getElem?_eq_getElem hk⟩
  obtain⟨b,g,cells,rw_,c,hve,hb,⟨kv,hc,hkv⟩,hcl,hle,hld,hgt⟩:=h.at hx
  subst hc
  have hg:=hgt 0 (by omega)
  rw[Nat.mul_one,Nat.add_zero] at hg
  have hg:cells[i]?=some kv:=hg
  rw[hve] at h0
  rw[drop_at hx,idxG] at hr
  have w1:IntKind.i64.wrap ((i:Int)+1)=((i+1:Nat):Int):=by rw[wi (by omega) (by omega)];rfl
  have c1:=layer1_ x kv H hkv
  cases hd:(!keysB x) with
  | true=>
   rw[hd] at c1
   rw[if_pos hd] at hr
   (refine sg (et h0 (et h1 (et h7 (et h8 (et (dt (show (i:Int)<(l.length:Int) by omega)) (et hb (et (show (0:Int)≤(i:Int) by omega) (et (show (i:Int)<(l.length:Int) by omega) (et Int.toNat_natCast (et Nat.zero_add (et Nat.mul_one hg))))))))))) ?_;try exact⟨⟩)
   refine c1.x ?_
   (refine sg (et h0 (et h1 (et h7 h8))) ?_;try exact⟨⟩)
   rw[← hr]
  | false=>
   rw[hd] at c1
   rw[if_neg (by rw[hd];decide)] at hr
   (refine sg (et h0 (et h1 (et h7 (et h8 (et (dt (show (i:Int)<(l.length:Int) by omega)) (et hb (et (show (0:Int)≤(i:Int) by omega) (et (show (i:Int)<(l.length:Int) by omega) (et Int.toNat_natCast (et Nat.zero_add (et Nat.mul_one hg))))))))))) ?_;try exact⟨⟩)
   refine c1.x ?_
   simp only[go_sem,Nat.reduceEqDiff,Nat.reduceAdd,Nat.reduceSub,Nat.reduceMul,Nat.reduceLT,Nat.reduceLeDiff,Int.reducePow,Int.reduceBEq,Int.reduceBNe,Int.reduceDiv,Int.reduceMod,Int.reduceEq,Int.reduceLT,Int.reduceLE,Int.reduceAdd,Int.reduceSub,Int.reduceMul,Int.reduceNeg,Int.reduceToNat,Int.reduceTDiv,Int.reduceTMod,↓reduceIte,h0,h1,h7,h8,w1]
   exact⟨k - 1,by omega,hve.symm,i+1,by omega,rfl,hr⟩
 ·rw[List.drop_eq_nil_of_le (by omega)] at hr
  simp only[go_sem,Nat.reduceEqDiff,Nat.reduceAdd,Nat.reduceSub,Nat.reduceMul,Nat.reduceLT,Nat.reduceLeDiff,Int.reducePow,Int.reduceBEq,Int.reduceBNe,Int.reduceDiv,Int.reduceMod,Int.reduceEq,Int.reduceLT,Int.reduceLE,Int.reduceAdd,Int.reduceSub,Int.reduceMul,Int.reduceNeg,Int.reduceToNat,Int.reduceTDiv,Int.reduceTMod,↓reduceIte,h0,h1,h7,h8,df (show ¬ (i:Int)<(l.length:Int) by omega)]
  rw[← hr];rfl
theorem any_not:∀ (l:List (List Ky)),(l.any fun k=>!keysB k) = !l.all keysB
 | []=>rfl
 | x::t=>by rw[List.any_cons,List.all_cons,any_not t,Bool.not_and]
theorem kContains_ (l:List (List Ky)) (v:Value) (H:AH) (h:RowOf 1 KsE H v l):SemCall Tryz.prog 94 [v,.func (.func 96) [].toArray [].toArray] H (.bool (!l.all keysB)) H []:=by
 refine pure_of ?_ rfl
 refine XCal.of hm Tryz.func94 rfl (fun xs w=>Tryz.call94 xs w) Tryz.ntmps94 Tryz.results94 rfl ?_
 simp only[go_sem,Nat.reduceEqDiff,Nat.reduceAdd,Nat.reduceSub,Nat.reduceMul,Nat.reduceLT,Nat.reduceLeDiff,Int.reducePow,Int.reduceBEq,Int.reduceBNe,Int.reduceDiv,Int.reduceMod,Int.reduceEq,Int.reduceLT,Int.reduceLE,Int.reduceAdd,Int.reduceSub,Int.reduceMul,Int.reduceNeg,Int.reduceToNat,Int.reduceTDiv,Int.reduceTMod,↓reduceIte]
 repeat ((first|refine(kIndex_ l v _ h).x ?_|refine drawnF ?_ (by decide +kernel));simp only[go_sem,Nat.reduceEqDiff,Nat.reduceAdd,Nat.reduceSub,Nat.reduceMul,Nat.reduceLT,Nat.reduceLeDiff,Int.reducePow,Int.reduceBEq,Int.reduceBNe,Int.reduceDiv,Int.reduceMod,Int.reduceEq,Int.reduceLT,Int.reduceLE,Int.reduceAdd,Int.reduceSub,Int.reduceMul,Int.reduceNeg,Int.reduceToNat,Int.reduceTDiv,Int.reduceTMod,↓reduceIte,idxG_ge,any_not])
theorem tick_ (t:Int) (H:AH):SemCall Tryz.prog 52 [.int .i64 t] H (.bool (tickB t)) H []:=by
 refine pure_of ?_ rfl
 unfold tickB
 cases h1:decide (-1073741824≤t) with
 | false=>
  refine XCal.of hm Tryz.func52 rfl (fun xs w=>Tryz.call52 xs w) Tryz.ntmps52 Tryz.results52 rfl ?_
  (refine sg h1 ?_;try exact⟨⟩)
 | true=>
  refine XCal.of hm Tryz.func52 rfl (fun xs w=>Tryz.call52 xs w) Tryz.ntmps52 Tryz.results52 rfl ?_
  (refine sg h1 ?_;try exact⟨⟩)
theorem dthere_ (n many:Int) (H:AH):SemCall Tryz.prog 80 [.int .i64 n,.int .i64 many] H (.bool (decide (0≤n)&&decide (n<many))) H []:=by
 refine pure_of ?_ rfl
 cases h1:decide (0≤n) with
 | false=>
  refine XCal.of hm Tryz.func80 rfl (fun xs w=>Tryz.call80 xs w) Tryz.ntmps80 Tryz.results80 rfl ?_
  (refine sg h1 ?_;try exact⟨⟩)
 | true=>
  refine XCal.of hm Tryz.func80 rfl (fun xs w=>Tryz.call80 xs w) Tryz.ntmps80 Tryz.results80 rfl ?_
  (refine sg h1 ?_;try exact⟨⟩)
def kindB (l:Ly):Bool:=((l.kind==0)||(l.kind==1))&&decide (0≤l.matte)&&decide (l.matte≤2)
def timeB (l:Ly):Bool:=tickB l.in_&&tickB l.out&&tickB l.start&&decide (l.in_<l.out)
theorem ShV.zero (K:AH):ShV K sh00 (.slice none 0 0) (.slice none 0 0) (.slice none 0 0) (.slice none 0 0) (.slice none 0 0) (.slice none 0 0) (.slice none 0 0) (.slice none 0 0):=
 ⟨RowOf.none,RowOf.none,RowOf.none,RowOf.none,RowOf.none,RowOf.none,RowOf.none,RowOf.none⟩
theorem shape_paint {s:Sh} (h:shapeB s=true):paintB s.paint=true:=by
 unfold shapeB at h
 simp only[Bool.and_eq_true] at h
 exact h.1.1.1.1.1.1.2
set_option maxHeartbeats 4000000 in
theorem layer_ (l:Ly) (v0 v1 v2 v3 v4 v5 v6 v7 v8 pm vw vh vp vc vd vda vf vt:Value) (H:AH) (h:LyV H l v0 v1 v2 v3 v4 v5 v6 v7 v8 pm) (hs:ShV H l.shape vw vh vp vc vd vda vf vt):SemCall Tryz.prog 78 [.agg (lyVs l v0 v1 v2 v3 v4 v5 v6 v7 v8 pm vw vh vp vc vd vda vf vt).toArray] H (.bool (layerB l)) H []:=by
 refine pure_of ?_ rfl
 obtain⟨pa,pe,hpm⟩:=h.mask.form
 subst hpm
 obtain⟨ra,re,hrm⟩:=h.remap.form
 subst hrm
 generalize hL:H++[(⟨lyVs l v0 v1 v2 v3 v4 v5 v6 v7 (.slice ra l.remap.length re) (.slice pa l.mask.2.length pe) vw vh vp vc vd vda vf vt,0,true⟩:Blk)]=L at *
 have g0:L[H.length]?=some ⟨lyVs l v0 v1 v2 v3 v4 v5 v6 v7 (.slice ra l.remap.length re) (.slice pa l.mask.2.length pe) vw vh vp vc vd vda vf vt,0,true⟩:=by rw[← hL,hget_app0];rfl
 have o:Old H L:=by rw[← hL];exact Old.app' _ _
 have hLl:H.length≤L.length:=by rw[← hL];simp
 have h:=h.old o
 have hs:=hs.old o
 have m1:=right_ l.mask.1 l.mask.2 _ L h.mask
 have m2:=empty_ l.mask.1 l.mask.2 _ L h.mask
 refine XCal.of hm Tryz.func78 rfl (fun xs w=>Tryz.call78 xs w) Tryz.ntmps78 Tryz.results78 rfl ?_
 refine xcut (fun T K D=>D=[]∧K=L∧T 1=ap H.length 0 0) ?_ ?_
 ·simp only[go_sem,Nat.reduceEqDiff,Nat.reduceAdd,Nat.reduceSub,Nat.reduceMul,Nat.reduceLT,Nat.reduceLeDiff,Int.reducePow,Int.reduceBEq,Int.reduceBNe,Int.reduceDiv,Int.reduceMod,Int.reduceEq,Int.reduceLT,Int.reduceLE,Int.reduceAdd,Int.reduceSub,Int.reduceMul,Int.reduceNeg,Int.reduceToNat,Int.reduceTDiv,Int.reduceTMod,↓reduceIte,← hL]
 ·rintro T K D ⟨rfl,rfl,t1⟩
  refine xcut (fun T' K' D=>D=[]∧K'=K∧T' 1=ap H.length 0 0∧T' 3=.bool (kindB l)) ?_ ?_
  ·unfold kindB
   by_cases k0:l.kind=0
   ·skip
    cases h1:decide (0≤l.matte) with
    | false=>
     (refine sg (et t1 (et g0 (et (bt k0) (et Bool.true_or (et Bool.true_and h1))))) ?_;try exact⟨⟩)
    | true=>
     (refine sg (et t1 (et g0 (et (bt k0) (et Bool.true_or (et Bool.true_and h1))))) ?_;try exact⟨⟩)
   ·cases k1:(l.kind==1)
    ·(refine sg (et t1 (et g0 (et (bf k0) (et k1 (et Bool.or_self Bool.false_and))))) ?_;try exact⟨⟩)
    ·skip
     cases h1:decide (0≤l.matte) with
     | false=>
      (refine sg (et t1 (et g0 (et (bf k0) (et k1 (et Bool.false_or (et Bool.true_and h1)))))) ?_;try exact⟨⟩)
     | true=>
      (refine sg (et t1 (et g0 (et (bf k0) (et k1 (et Bool.false_or (et Bool.true_and h1)))))) ?_;try exact⟨⟩)
  ·rintro T' K' D ⟨rfl,rfl,t1,t3⟩
   refine xcut (fun T' K'' D=>D=[]∧K''=K'∧T' 1=ap H.length 0 0∧T' 3=.bool (kindB l)∧T' 4=.bool (timeB l)) ?_ ?_
   ·unfold timeB
    cases h1:tickB l.in_ with
    | false=>
     (refine sg (et t1 (et t3 (et g0 h1))) ?_;try exact⟨⟩)
     repeat ((first|refine(tick_ _ _).x ?_|refine drawnF ?_ (by decide +kernel));(refine sg (et t1 (et t3 (et g0 h1))) ?_;try exact⟨⟩))
    | true=>
     cases h2:tickB l.out with
     | false=>
      (refine sg (et t1 (et t3 (et g0 (et h1 h2)))) ?_;try exact⟨⟩)
      repeat ((first|refine(tick_ _ _).x ?_|refine drawnF ?_ (by decide +kernel));(refine sg (et t1 (et t3 (et g0 (et h1 h2)))) ?_;try exact⟨⟩))
     | true=>
      cases h3:tickB l.start with
      | false=>
       (refine sg (et t1 (et t3 (et g0 (et h1 (et h2 h3))))) ?_;try exact⟨⟩)
       repeat ((first|refine(tick_ _ _).x ?_|refine drawnF ?_ (by decide +kernel));(refine sg (et t1 (et t3 (et g0 (et h1 (et h2 h3))))) ?_;try exact⟨⟩))
      | true=>
       (refine sg (et t1 (et t3 (et g0 (et h1 (et h2 h3))))) ?_;try exact⟨⟩)
       repeat ((first|refine(tick_ _ _).x ?_|refine drawnF ?_ (by decide +kernel));(refine sg (et t1 (et t3 (et g0 (et h1 (et h2 h3))))) ?_;try exact⟨⟩))
   ·rintro T' K'' D ⟨rfl,rfl,t1,t3,t4⟩
    refine xcut (fun T' K' D=>D=[]∧K'=K''∧T' 1=ap H.length 0 0∧T' 3=.bool (kindB l)∧T' 4=.bool (timeB l)∧T' 5=.bool (maskB l.mask)) ?_ ?_
    ·unfold maskB
     have e0:((l.mask.2.length:Int)==0)=decide ((l.mask.2.length:Int)=0):=rfl
     rw[e0] at m2
     cases h1:rightB l.mask.1 l.mask.2 with
     | false=>
      (refine sg (et t1 (et t3 (et t4 (et g0 h1)))) ?_;try exact⟨⟩)
      repeat ((first|refine(m1).x ?_|refine(m2).x ?_|refine drawnF ?_ (by decide +kernel));(refine sg (et t1 (et t3 (et t4 (et g0 (et h1 (et Bool.true_or Bool.false_or)))))) ?_;try exact⟨⟩))
     | true=>
      cases h2:decide ((l.mask.2.length:Int)=0) with
      | false=>
       (refine sg (et t1 (et t3 (et t4 (et g0 (et h1 h2))))) ?_;try exact⟨⟩)
       repeat ((first|refine(m1).x ?_|refine(m2).x ?_|refine drawnF ?_ (by decide +kernel));(refine sg (et t1 (et t3 (et t4 (et g0 (et h1 (et h2 (et Bool.true_or Bool.false_or))))))) ?_;try exact⟨⟩))
      | true=>
       (refine sg (et t1 (et t3 (et t4 (et g0 (et h1 h2))))) ?_;try exact⟨⟩)
       repeat ((first|refine(m1).x ?_|refine(m2).x ?_|refine drawnF ?_ (by decide +kernel));(refine sg (et t1 (et t3 (et t4 (et g0 (et h1 (et h2 (et Bool.true_or Bool.false_or))))))) ?_;try exact⟨⟩))
    ·rintro T' K' D ⟨rfl,rfl,t1,t3,t4,t5⟩
     have kd:∀ n,decide (K'.length+n<H.length)=false:=fun n=>df (by omega)
     have kd0:decide (K'.length<H.length)=false:=df (by omega)
     obtain⟨q,hq⟩:∃ q,layerB l=q:=⟨_,rfl⟩
     rw[hq]
     have hq:(kindB l&&timeB l&&maskB l.mask&&l.keys.all keysB&&(if l.kind=1 then bareB l.shape else (l.comp==0)&&decide ((l.remap.length:Int)=0)&&shapeB l.shape))=q:=hq
     cases h1:kindB l with
     | false=>
      rw[h1] at hq t3
      simp only[Bool.false_and] at hq
      subst hq
      (refine sg (et t1 (et t3 (et t4 t5))) ?_;try exact⟨⟩)
     | true=>
      cases h2:timeB l with
      | false=>
       rw[h1,h2] at hq
       rw[h1] at t3
       rw[h2] at t4
       simp only[Bool.false_and,Bool.and_false] at hq
       subst hq
       (refine sg (et t1 (et t3 (et t4 t5))) ?_;try exact⟨⟩)
      | true=>
       cases h3:maskB l.mask with
       | false=>
        rw[h1,h2,h3] at hq
        rw[h1] at t3
        rw[h2] at t4
        rw[h3] at t5
        simp only[Bool.false_and,Bool.and_false] at hq
        subst hq
        (refine sg (et t1 (et t3 (et t4 t5))) ?_;try exact⟨⟩)
       | true=>
        rw[h1,h2,h3] at hq
        rw[h1] at t3
        rw[h2] at t4
        rw[h3] at t5
        simp only[Bool.true_and] at hq
        (refine sg (et t1 (et t3 (et t4 (et t5 g0)))) ?_;try exact⟨⟩)
        refine(keysR_ l _ _ _ _ _ _ _ _ _ _ _ _ _ _ _ _ _ _ K' h).x ?_
        rintro v H1 W1 ⟨rfl,⟨M,rfl⟩,hR⟩
        have hRl:H.length≤(K'++M).length:=by simp;omega
        have o2:Old K' (K'++M):=Old.app' _ _
        have h:=h.old o2
        have hs:=hs.old o2
        have g0:=o2 _ _ g0
        clear m1 m2 o hL kd kd0
        generalize K'++M=K2 at *
        have kd:∀ n,decide (K2.length+n<H.length)=false:=fun n=>df (by omega)
        have kd0:decide (K2.length<H.length)=false:=df (by omega)
        (refine sg (et t1 (et t3 (et t4 t5))) ?_;try exact⟨⟩)
        refine(kContains_ l.keys v K2 hR).x ?_
        cases h4:l.keys.all keysB with
        | false=>
         rw[h4] at hq
         simp only[Bool.false_and] at hq
         subst hq
         (refine sg (et t1 (et t3 (et t4 t5))) ?_;try exact⟨⟩)
        | true=>
         rw[h4] at hq
         simp only[Bool.true_and] at hq
         by_cases hk:l.kind=1
         ·rw[if_pos hk] at hq
          (refine sg (et t1 (et t3 (et t4 (et t5 (et g0 (bt hk)))))) ?_;try exact⟨⟩)
          refine(sshape_ l.shape sh00 vw vh vp vc vd vda vf vt _ _ _ _ _ _ _ _ K2 hs (ShV.zero K2)).x ?_
          have hq:shQ l.shape sh00=q:=hq
          rw[hq]
          (refine sg trivial ?_;try exact⟨⟩)
         ·rw[if_neg hk] at hq
          have c1:=shapeR_ l.shape vw vh vp vc vd vda vf vt K2 hs
          have c2:=ppaint_ l.shape.paint K2
          have e0:((l.remap.length:Int)==0)=decide ((l.remap.length:Int)=0):=rfl
          by_cases hc:l.comp=0
          ·rw[bt hc,Bool.true_and] at hq
           cases h5:decide ((l.remap.length:Int)=0) with
           | false=>
            rw[h5] at hq e0
            simp only[Bool.false_and] at hq
            subst hq
            (refine sg (et t1 (et t3 (et t4 (et t5 (et g0 (et (bf hk) (et (bt hc) e0))))))) ?_;try exact⟨⟩)
           | true=>
            rw[h5] at hq e0
            simp only[Bool.true_and] at hq
            (refine sg (et t1 (et t3 (et t4 (et t5 (et g0 (et (bf hk) (et (bt hc) e0))))))) ?_;try exact⟨⟩)
            refine c1.x ?_
            cases h6:shapeB l.shape with
            | false=>
             rw[h6] at hq
             subst hq
             (refine sg (et t1 (et t3 (et t4 (et t5 g0)))) ?_;try exact⟨⟩)
            | true=>
             rw[h6] at hq
             rw[shape_paint h6] at c2
             subst hq
             (refine sg (et t1 (et t3 (et t4 (et t5 g0)))) ?_;try exact⟨⟩)
             repeat ((first|refine(c2).x ?_|refine drawnF ?_ (by decide +kernel));(refine sg trivial ?_;try exact⟨⟩))
          ·rw[bf hc] at hq
           simp only[Bool.false_and] at hq
           subst hq
           (refine sg (et t1 (et t3 (et t4 (et t5 (et g0 (et (bf hk) (bf hc))))))) ?_;try exact⟨⟩)
end Go.Proofs.YthhbglkokpablaaGreat
/- Documents: the walks of what judges where layers stand. -/
namespace Go.Proofs.YthhbglkokpablaaGreat
open Go Go.RowKit E
attribute [local irreducible] XRun XOps XCode XCal XLoop XQ SemCall
set_option linter.unusedSimpArgs false
set_option linter.unusedVariables false
theorem lys_cell {H:AH} {v:Value} {c:List Ly} (h:Lys H v c) {i:Nat} {x:Ly} (hx:c[i]?=some x):∃ b g cells rw_,v=sl b 0 g c.length 50∧H[b]?=some ⟨cells,g,rw_⟩∧cells[i*50+1]?=some (.int .i64 x.parent)∧cells[i*50+3]?=some (.int .i64 x.matte):=by
 obtain⟨b,g,cells,rw_,cs,hve,hb,hc,hcl,hle,hld,hgt⟩:=h.at hx
 obtain⟨v0,v1,v2,v3,v4,v5,v6,v7,v8,pm,vw,vh,vp,vc,vd,vda,vf,vt,rfl,_,_⟩:=hc
 exact⟨b,g,cells,rw_,hve,hb,hgt 1 (by omega),hgt 3 (by omega)⟩
theorem parents_at {c:List Ly} {i:Nat} {x:Ly} (h:c[i]?=some x):(Ly.parents c)[i]?=some x.parent:=by
 unfold Ly.parents;rw[List.getElem?_map,h];rfl
theorem parents_len (c:List Ly):(Ly.parents c).length=c.length:=by unfold Ly.parents;rw[List.length_map]
set_option maxHeartbeats 4000000 in
theorem rings_ (c:List Ly) (v:Value) (k:Nat) (hk:k<c.length) (H:AH) (h:Lys H v c):SemCall Tryz.prog 101 [.agg [v].toArray,.int .i64 (k:Int)] H (.bool (ringsB (Ly.parents c) k)) H []:=by
 refine pure_of ?_ rfl
 have hlen:=h.len
 obtain⟨x,hx⟩:∃ x,c[k]?=some x:=⟨_,List.getElem?_eq_getElem hk⟩
 obtain⟨b,g,cells,rw_,hve,hb,hcp,_⟩:=lys_cell h hx
 subst hve
 have q0:∀ n:Nat,(0:Int)≤(n:Int):=fun n=>by omega
 have q1:(k:Int)<(c.length:Int):=by omega
 have hr0:ringsB (Ly.parents c) k=ringGo (Ly.parents c) k c.length x.parent:=by unfold ringsB;rw[parents_at hx,parents_len];rfl
 refine XCal.of hm Tryz.func101 rfl (fun xs w=>Tryz.call101 xs w) Tryz.ntmps101 Tryz.results101 rfl ?_
 (refine sg (et q0 (et q1 (et Int.toNat_natCast (et Nat.zero_add (et hb (et (old_get hb) hcp)))))) ?_;try exact⟨⟩)
 have g0:(H++[(⟨[sl b 0 g c.length 50],0,true⟩:Blk)])[H.length]?=some ⟨[sl b 0 g c.length 50],0,true⟩:=by rw[hget_app0];rfl
 have gb:=old_get hb [(⟨[sl b 0 g c.length 50],0,true⟩:Blk)]
 generalize H++[(⟨[sl b 0 g c.length 50],0,true⟩:Blk)]=K at *
 refine keep (fun n T K' D=>D=[]∧K=K'∧∃ (i:Nat) (a:Int),i+n=c.length∧ringsB (Ly.parents c) k=ringGo (Ly.parents c) k n a∧T 1=.int .i64 (k:Int)∧T 2=ap H.length 0 0∧T 5=.int .i64 a∧T 14=.int .i64 (c.length:Int)∧T 15=.int .i64 (i:Int)) c.length
  ⟨rfl,rfl,0,x.parent,by omega,hr0,by(refine sg trivial ?_;try exact⟨⟩),by(refine sg trivial ?_;try exact⟨⟩),by(refine sg trivial ?_;try exact⟨⟩),by(refine sg trivial ?_;try exact⟨⟩),by(refine sg trivial ?_;try exact⟨⟩) <;> rfl⟩ ?_
 rintro n T K' D ⟨rfl,rfl,i,a,hin,hr,t1,t2,t5,t14,t15⟩
 by_cases hi:i<c.length
 ·obtain⟨n',rfl⟩:∃ n',n=n'+1:=⟨n - 1,by omega⟩
  have w1:IntKind.i64.wrap ((i:Int)+1)=((i+1:Nat):Int):=by rw[wi (by omega) (by omega)];rfl
  rw[ringGo] at hr
  by_cases ha:a=(k:Int)
  ·rw[if_pos ha] at hr
   (refine sg (et t1 (et t2 (et t5 (et t14 (et t15 (et (dt (show (i:Int)<(c.length:Int) by omega)) (bt ha))))))) ?_;try exact⟨⟩)
   rw[hr]
  ·rw[if_neg ha,parents_len] at hr
   have th:=fun H=>dthere_ a (c.length:Int) H
   by_cases hth:0≤a∧a<(c.length:Int)
   ·rw[if_pos hth] at hr
    obtain⟨m,rfl⟩:∃ m:Nat,a=(m:Int):=⟨a.toNat,by omega⟩
    obtain⟨y,hy⟩:∃ y,c[m]?=some y:=⟨_,List.getElem?_eq_getElem (by omega)⟩
    obtain⟨b',g',cells',rw',hve',hb',hcp',_⟩:=lys_cell h hy
    cases hve'
    rw[hb] at hb'
    cases hb'
    rw[Int.toNat_natCast,parents_at hy] at hr
    have hr:ringsB (Ly.parents c) k=ringGo (Ly.parents c) k n' y.parent:=hr
    rw[dt hth.1,dt hth.2,Bool.and_self] at th
    (refine sg (et t1 (et t2 (et t5 (et t14 (et t15 (et (dt (show (i:Int)<(c.length:Int) by omega)) (et (bf ha) g0))))))) ?_;try exact⟨⟩)
    refine(th _).x ?_
    (refine sg (et t1 (et t2 (et t5 (et t14 (et t15 (et g0 (et gb (et q0 (et hth.2 (et Int.toNat_natCast (et Nat.zero_add (et hcp' w1)))))))))))) ?_;try exact⟨⟩)
    exact⟨n',by omega,i+1,y.parent,by omega,hr,rfl,rfl⟩
   ·rw[if_neg hth] at hr
    have:(decide (0≤a)&&decide (a<(c.length:Int)))=false:=by
     by_cases h1:0≤a
     ·rw[df (show ¬ a<(c.length:Int) by omega),Bool.and_false]
     ·rw[df h1,Bool.false_and]
    rw[this] at th
    (refine sg (et t1 (et t2 (et t5 (et t14 (et t15 (et (dt (show (i:Int)<(c.length:Int) by omega)) (et (bf ha) g0))))))) ?_;try exact⟨⟩)
    refine(th _).x ?_
    (refine sg (et t1 (et t2 (et t5 (et t14 t15)))) ?_;try exact⟨⟩)
    rw[hr]
 ·have hn:n=0:=by omega
  subst hn
  (refine sg (et t1 (et t2 (et t5 (et t14 (et t15 (df (show ¬ (i:Int)<(c.length:Int) by omega))))))) ?_;try exact⟨⟩)
  rw[hr];rfl
theorem bch (M Y K C:Bool):(M=false∧K=false)∨(M=false∧K=true∧C=false)∨(M=false∧K=true∧C=true)∨(M=true∧Y=true)∨(M=true∧Y=false∧K=false)∨(M=true∧Y=false∧K=true∧C=false)∨(M=true∧Y=false∧K=true∧C=true):=by
 cases M <;> cases Y <;> cases K <;> cases C <;> simp
set_option maxHeartbeats 4000000 in
theorem tree_ (d:Dc) (v:Value) (n k:Nat) (c:List Ly) (l:Ly) (hn:d.comps[n]?=some c) (hk:c[k]?=some l) (H:AH) (h:Cos H v d.comps):SemCall Tryz.prog 79 [dcV d v,.int .i64 (n:Int),.int .i64 (k:Int)] H (.bool (treeB d.comps n k c l)) H []:=by
 refine pure_of ?_ rfl
 have hlen:=h.len
 have hnl:=(List.getElem?_eq_some_iff.1 hn).1
 have hkl:=(List.getElem?_eq_some_iff.1 hk).1
 obtain⟨b,g,cells,rw_,cs,hve,hb,⟨w,rfl,hw⟩,hcl,hle,hld,hgt⟩:=h.at hn
 have hwlen:=hw.len
 subst hve
 obtain⟨b2,g2,cells2,rw2,cs2,hwe,hb2,hLy,hcl2,hle2,hld2,hgt2⟩:=hw.at hk
 obtain⟨v0,v1,v2,v3,v4,v5,v6,v7,v8,pm,vw,vh,vp,vc,vd,vda,vf,vt,rfl,_,_⟩:=hLy
 subst hwe
 have q0:∀ n:Nat,(0:Int)≤(n:Int):=fun n=>by omega
 have q1:(n:Int)<(d.comps.length:Int):=by omega
 have q2:(k:Int)<(c.length:Int):=by omega
 have r1:=fun L=>rings_ c (sl b2 0 g2 c.length 50) k hkl (H++L) (hw.old LyE.m (Old.app' H L))
 have th1:=fun H=>dthere_ l.parent (c.length:Int) H
 have th2:=fun H=>dthere_ l.comp (d.comps.length:Int) H
 obtain⟨q,hq⟩:∃ q,treeB d.comps n k c l=q:=⟨_,rfl⟩
 rw[hq]
 unfold treeB at hq
 generalize hP:(l.parent != -1)=P at *
 generalize (decide (0≤l.parent)&&decide (l.parent<(c.length:Int)))=Th at *
 generalize ringsB (Ly.parents c) k=R at *
 generalize hM:(l.matte != 0)=M at *
 generalize hK:(l.kind==1)=Kd at *
 generalize (decide (0≤l.comp)&&decide (l.comp<(d.comps.length:Int)))=C at *
 generalize hD:decide ((n:Int)<l.comp)=Dd at *
 have hK':(l.kind != 1) = !Kd:=by rw[← hK];rfl
 have tail:(P&&!Th||R)=false→@XCal Tryz.prog 79 [dcV d (sl b 0 g d.comps.length 1),.int .i64 (n:Int),.int .i64 (k:Int)] H ⟨fun v' _ W'=>v'=.bool q∧W'=[]⟩:=fun hA=>by
  rw[hA] at hq
  have hR:R=false:=by cases R with|false=>rfl|true=>simp at hA
  subst hR
  have hPT:P=false∨Th=true:=by cases P <;> cases Th <;> simp_all
  by_cases hk0:k=0
  ·have e0:((k:Int)==0)=true:=bt (by omega)
   rw[e0] at hq
   rcases hPT with rfl|rfl
   case' inr=>cases P
   all_goals
    cases M
    case' false=>cases Kd
    case' false.true=>cases C
   all_goals
    simp only[Bool.false_and,Bool.true_and,Bool.and_true,Bool.and_false,Bool.not_true,Bool.not_false,Bool.false_or,Bool.true_or,Bool.or_true,Bool.or_false] at hq
    subst hq
    refine XCal.of hm Tryz.func79 rfl (fun xs w=>Tryz.call79 xs w) Tryz.ntmps79 Tryz.results79 rfl ?_
    (refine sg (et q0 (et q1 (et q2 (et Int.toNat_natCast (et Nat.zero_add (et hb (et hld (et hb2 (et hld2 (et (old_get hb) (et (old_get hb2) hP))))))))))) ?_;try exact⟨⟩)
    repeat ((first|refine(th1 _).x ?_|refine(th2 _).x ?_|refine(r1 _).x ?_|refine drawnF ?_ (by decide +kernel));(refine sg (et q0 (et q1 (et q2 (et hP (et hM (et hK' (et hD (et e0 (et Bool.not_true Bool.not_false))))))))) ?_;try exact⟨⟩))
  ·obtain⟨y,hy⟩:∃ y,c[k - 1]?=some y:=⟨_,List.getElem?_eq_getElem (by omega)⟩
   obtain⟨b',g',cells',rw',hve',hb',_,hmt⟩:=lys_cell hw hy
   cases hve'
   rw[hb2] at hb'
   cases hb'
   have e0:((k:Int)==0)=false:=bf (by omega)
   have w1:IntKind.i64.wrap ((k:Int) - 1)=((k - 1:Nat):Int):=by rw[wi (by omega) (by omega)];omega
   have q3:((k - 1:Nat):Int)<(c.length:Int):=by omega
   rw[e0,hy] at hq
   have hq:(!(false||false)&&!(M&&(false||(y.matte != 0)))&&(!Kd||(C&&Dd)))=q:=by simpa using hq
   generalize hY:(y.matte != 0)=Y at *
   rcases hPT with rfl|rfl
   case' inr=>cases P
   all_goals
    rcases bch M Y Kd C with ⟨rfl,rfl⟩|⟨rfl,rfl,rfl⟩|⟨rfl,rfl,rfl⟩|⟨rfl,rfl⟩|⟨rfl,rfl,rfl⟩|⟨rfl,rfl,rfl,rfl⟩|⟨rfl,rfl,rfl,rfl⟩
   all_goals
    simp only[Bool.false_and,Bool.true_and,Bool.and_true,Bool.and_false,Bool.not_true,Bool.not_false,Bool.false_or,Bool.true_or,Bool.or_true,Bool.or_false,Bool.or_self] at hq
    subst hq
    refine XCal.of hm Tryz.func79 rfl (fun xs w=>Tryz.call79 xs w) Tryz.ntmps79 Tryz.results79 rfl ?_
    (refine sg (et q0 (et q1 (et q2 (et Int.toNat_natCast (et Nat.zero_add (et hb (et hld (et hb2 (et hld2 (et (old_get hb) (et (old_get hb2) hP))))))))))) ?_;try exact⟨⟩)
    repeat ((first|refine(th1 _).x ?_|refine(th2 _).x ?_|refine(r1 _).x ?_|refine drawnF ?_ (by decide +kernel));(refine sg (et q0 (et q1 (et q2 (et q3 (et w1 (et hP (et hM (et hK' (et hD (et hY (et e0 (et hmt (et (old_get hb2) (et Int.toNat_natCast (et Nat.zero_add (et Bool.not_true Bool.not_false)))))))))))))))) ?_;try exact⟨⟩))
 cases hA:(P&&!Th||R) with
 | false=>exact tail hA
 | true=>
  rw[hA] at hq
  simp only[Bool.not_true,Bool.false_and] at hq
  subst hq
  cases P
  case' true=>cases Th
  all_goals
   simp only[Bool.false_and,Bool.true_and,Bool.not_true,Bool.not_false,Bool.false_or,Bool.true_or] at hA
  all_goals
   try subst hA
   refine XCal.of hm Tryz.func79 rfl (fun xs w=>Tryz.call79 xs w) Tryz.ntmps79 Tryz.results79 rfl ?_
   (refine sg (et q0 (et q1 (et q2 (et Int.toNat_natCast (et Nat.zero_add (et hb (et hld (et hb2 (et hld2 (et (old_get hb) (et (old_get hb2) hP))))))))))) ?_;try exact⟨⟩)
   repeat ((first|refine(th1 _).x ?_|refine(th2 _).x ?_|refine(r1 _).x ?_|refine drawnF ?_ (by decide +kernel));(refine sg (et q0 (et q1 (et q2 (et hP (et Bool.not_true Bool.not_false))))) ?_;try exact⟨⟩))
end Go.Proofs.YthhbglkokpablaaGreat
/- Documents: the walk of what judges all layers. -/
namespace Go.Proofs.YthhbglkokpablaaGreat
open Go Go.RowKit E
attribute [local irreducible] XRun XOps XCode XCal XLoop XQ SemCall
set_option linter.unusedSimpArgs false
set_option linter.unusedVariables false
set_option maxHeartbeats 4000000 in
theorem layers_ (d:Dc) (v:Value) (H:AH) (h:Cos H v d.comps):SemCall Tryz.prog 53 [dcV d v] H (.int .i64 (cosE d.comps 0 d.comps)) H []:=by
 refine pure_of ?_ rfl
 have hlen:=h.len
 obtain⟨va,ve,hv⟩:=h.form
 subst hv
 refine XCal.of hm Tryz.func53 rfl (fun xs w=>Tryz.call53 xs w) Tryz.ntmps53 Tryz.results53 rfl ?_
 (refine sg trivial ?_;try exact⟨⟩)
 have g0:(H++[(⟨[.int .i64 d.in_,.int .i64 d.out,.slice va d.comps.length ve],0,true⟩:Blk)])[H.length]?=some ⟨[.int .i64 d.in_,.int .i64 d.out,.slice va d.comps.length ve],0,true⟩:=by rw[hget_app0];rfl
 have hL:H.length+1≤(H++[(⟨[.int .i64 d.in_,.int .i64 d.out,.slice va d.comps.length ve],0,true⟩:Blk)]).length:=by simp
 have h:=h.old CoE.m (Old.app' H [(⟨[.int .i64 d.in_,.int .i64 d.out,.slice va d.comps.length ve],0,true⟩:Blk)])
 generalize H++[(⟨[.int .i64 d.in_,.int .i64 d.out,.slice va d.comps.length ve],0,true⟩:Blk)]=K0 at *
 refine keep (fun r T K D=>D=[]∧∃ n:Nat,n+r=d.comps.length∧Old K0 K∧K0.length≤K.length∧cosE d.comps 0 d.comps=cosE d.comps n (d.comps.drop n)∧T 1=ap H.length 0 0∧T 8=.slice va d.comps.length ve∧T 9=.int .i64 (d.comps.length:Int)∧T 10=.int .i64 (n:Int)) d.comps.length
  ⟨rfl,0,by omega,Old.refl _,by omega,rfl,by(refine sg trivial ?_;try exact⟨⟩),by(refine sg trivial ?_;try exact⟨⟩),by(refine sg trivial ?_;try exact⟨⟩),by(refine sg trivial ?_;try exact⟨⟩) <;> rfl⟩ ?_
 rintro r T K D ⟨rfl,n,hnr,hold,hKl,hr,t1,t8,t9,t10⟩
 have kd:∀ n,decide (K.length+n<H.length)=false:=fun n=>df (by omega)
 have kd0:decide (K.length<H.length)=false:=df (by omega)
 by_cases hn:n<d.comps.length
 ·obtain⟨c,hc⟩:∃ c,d.comps[n]?=some c:=⟨_,List.getElem?_eq_getElem hn⟩
  obtain⟨b,g,cells,rw_,cs,hve,hb,⟨w,rfl,hw⟩,hcl,hle,hld,hgt⟩:=h.at hc
  have hwlen:=hw.len
  have kb:=hold _ _ hb
  obtain⟨wa,we,hwf⟩:=hw.form
  subst hwf
  rw[drop_at hc,cosE] at hr
  rw[hve] at t8
  have q0:∀ n:Nat,(0:Int)≤(n:Int):=fun n=>by omega
  have q1:(n:Int)<(d.comps.length:Int):=by omega
  have w1:IntKind.i64.wrap ((n:Int)+1)=((n+1:Nat):Int):=by rw[wi (by omega) (by omega)];rfl
  (refine sg (et t1 (et t8 (et t9 (et t10 (et (dt q1) (et q0 (et q1 (et Int.toNat_natCast (et Nat.zero_add (et kb (et hld (et kd kd0)))))))))))) ?_;try exact⟨⟩)
  have o1:Old K0 (K++[(⟨[.slice wa c.length we],0,true⟩:Blk)]):=hold.app _
  have hK1:K0.length≤(K++[(⟨[.slice wa c.length we],0,true⟩:Blk)]).length:=by simp;omega
  clear hold kb
  generalize K++[(⟨[.slice wa c.length we],0,true⟩:Blk)]=K1 at *
  clear kd kd0
  refine keep (fun r' T K D=>D=[]∧∃ k:Nat,k+r'=c.length∧Old K0 K∧K0.length≤K.length∧lysE d.comps n c 0 c=lysE d.comps n c k (c.drop k)∧T 1=ap H.length 0 0∧T 3=.int .i64 (n:Int)∧T 8=sl b 0 g d.comps.length 1∧T 9=.int .i64 (d.comps.length:Int)∧T 10=.int .i64 (n:Int)∧T 16=.slice wa c.length we∧T 17=.int .i64 (c.length:Int)∧T 18=.int .i64 (k:Int)) c.length
   ⟨rfl,0,by omega,o1,hK1,rfl,by(refine sg t1 ?_;try exact⟨⟩),by(refine sg trivial ?_;try exact⟨⟩),by(refine sg t8 ?_;try exact⟨⟩),by(refine sg t9 ?_;try exact⟨⟩),by(refine sg t10 ?_;try exact⟨⟩),by(refine sg trivial ?_;try exact⟨⟩),by(refine sg trivial ?_;try exact⟨⟩),by(refine sg trivial ?_;try exact⟨⟩) <;> rfl⟩ ?_
  clear t1 t8 t9 t10
  rintro r' T K D ⟨rfl,k,hkr,hold,hKl,hlr,t1,t3,t8,t9,t10,t16,t17,t18⟩
  have kd:∀ n,decide (K.length+n<H.length)=false:=fun n=>df (by omega)
  have kd0:decide (K.length<H.length)=false:=df (by omega)
  by_cases hk:k<c.length
  ·obtain⟨l,hl⟩:∃ l,c[k]?=some l:=⟨_,List.getElem?_eq_getElem hk⟩
   obtain⟨b2,g2,cells2,rw2,cs2,hwe,hb2,hLy,hcl2,hle2,hld2,hgt2⟩:=hw.at hl
   obtain⟨v0,v1,v2,v3,v4,v5,v6,v7,v8,pm,vw,vh,vp,vc,vd,vda,vf,vt,rfl,hLV,hSV⟩:=hLy
   have kb2:=hold _ _ hb2
   rw[drop_at hl,lysE] at hlr
   rw[hwe] at t16
   have q2:(k:Int)<(c.length:Int):=by omega
   have w2:IntKind.i64.wrap ((k:Int)+1)=((k+1:Nat):Int):=by rw[wi (by omega) (by omega)];rfl
   have c1:=fun L=>layer_ l v0 v1 v2 v3 v4 v5 v6 v7 v8 pm vw vh vp vc vd vda vf vt (K++L) (hLV.old (hold.app L)) (hSV.old (hold.app L))
   have c2:=fun L=>tree_ d (.slice va d.comps.length ve) n k c l hc hl (K++L) (h.old CoE.m (hold.app L))
   have kg:=hold _ _ g0
   cases h1:layerB l with
   | false=>
    rw[h1] at hlr c1
    rw[if_pos rfl] at hlr
    rw[hlr,if_pos (by decide)] at hr
    (refine sg (et t1 (et t3 (et t8 (et t9 (et t10 (et t16 (et t17 (et t18 (et (dt q2) (et q0 (et q2 (et Int.toNat_natCast (et Nat.zero_add (et kb2 (et hld2 (et kd kd0)))))))))))))))) ?_;try exact⟨⟩)
    refine(c1 _).x ?_
    (refine sg (et t1 (et t3 (et t8 (et t9 (et t10 (et t16 (et t17 (et t18 (et kd kd0))))))))) ?_;try exact⟨⟩)
    rw[hr]
   | true=>
    rw[h1] at hlr c1
    rw[if_neg (by decide)] at hlr
    cases h2:treeB d.comps n k c l with
    | false=>
     rw[h2] at hlr c2
     rw[if_pos rfl] at hlr
     rw[hlr,if_pos (by decide)] at hr
     (refine sg (et t1 (et t3 (et t8 (et t9 (et t10 (et t16 (et t17 (et t18 (et (dt q2) (et q0 (et q2 (et Int.toNat_natCast (et Nat.zero_add (et kb2 (et hld2 (et kd kd0)))))))))))))))) ?_;try exact⟨⟩)
     refine(c1 _).x ?_
     (refine sg (et t1 (et t3 (et t8 (et t9 (et t10 (et t16 (et t17 (et t18 (old_get kg))))))))) ?_;try exact⟨⟩)
     refine(c2 _).x ?_
     (refine sg (et t1 (et t3 (et t8 (et t9 (et t10 (et t16 (et t17 (et t18 (et kd kd0))))))))) ?_;try exact⟨⟩)
     rw[hr]
    | true=>
     rw[h2] at hlr c2
     rw[if_neg (by decide)] at hlr
     (refine sg (et t1 (et t3 (et t8 (et t9 (et t10 (et t16 (et t17 (et t18 (et (dt q2) (et q0 (et q2 (et Int.toNat_natCast (et Nat.zero_add (et kb2 (et hld2 (et kd kd0)))))))))))))))) ?_;try exact⟨⟩)
     refine(c1 _).x ?_
     (refine sg (et t1 (et t3 (et t8 (et t9 (et t10 (et t16 (et t17 (et t18 (old_get kg))))))))) ?_;try exact⟨⟩)
     refine(c2 _).x ?_
     (refine sg (et t1 (et t3 (et t8 (et t9 (et t10 (et t16 (et t17 (et t18 (et kd (et kd0 w2)))))))))) ?_;try exact⟨⟩)
     exact⟨r' - 1,by omega,k+1,by omega,hold.app _,by omega,hlr,hwe.symm,rfl⟩
  ·rw[List.drop_eq_nil_of_le (by omega)] at hlr
   have hlr:lysE d.comps n c 0 c=0:=hlr
   rw[hlr,if_neg (by decide)] at hr
   (refine sg (et t1 (et t3 (et t8 (et t9 (et t10 (et t16 (et t17 (et t18 (et (df (show ¬ (k:Int)<(c.length:Int) by omega)) w1))))))))) ?_;try exact⟨⟩)
   exact⟨r - 1,by omega,n+1,by omega,hold,by omega,hr,hve.symm,rfl⟩
 ·rw[List.drop_eq_nil_of_le (by omega)] at hr
  (refine sg (et t1 (et t8 (et t9 (et t10 (df (show ¬ (n:Int)<(d.comps.length:Int) by omega)))))) ?_;try exact⟨⟩)
  rw[hr];rfl
end Go.Proofs.YthhbglkokpablaaGreat
