/- Merged texts: DocW DocX Ref1. -/
import Derived.Test.YthhbglkokpablaaGreatVC
/- Documents: the walks of what the document's own answer compares. -/
namespace Go.Proofs.YthhbglkokpablaaGreat
open Go Go.RowKit E
attribute [local irreducible] XRun XOps XCode XCal XLoop XQ SemCall
set_option linter.unusedSimpArgs false
set_option linter.unusedVariables false
set_option maxHeartbeats 4000000 in
theorem rskeys_ (l m:List Ky) (v w:Value) (H:AH) (h:RowOf 7 KyE H v l) (h':RowOf 7 KyE H w m):SemCall Tryz.prog 41 [v,w] H (.bool (eqG kyQ l m)) H []:=by
 refine pure_of ?_ rfl
 have hlen:=h.len
 obtain⟨va,ve,hv⟩:=h.form
 subst hv
 obtain⟨wa,we,hw⟩:=h'.form
 subst hw
 refine XCal.of hm Tryz.func41 rfl (fun xs w=>Tryz.call41 xs w) Tryz.ntmps41 Tryz.results41 rfl ?_
 by_cases hl:(l.length:Int)=(m.length:Int)
 ·(refine sg (nt hl) ?_;try exact⟨⟩)
  refine keep (fun k T H' D=>H=H'∧D=[]∧T 0=.slice va l.length ve∧T 1=.slice wa m.length we∧∃ i:Nat,i+k=l.length∧T 12=.int .i64 (l.length:Int)∧T 13=.int .i64 (i:Int)∧eqG kyQ (l.drop i) (m.drop i)=eqG kyQ l m) l.length ⟨rfl,rfl,rfl,rfl,0,by omega,rfl,rfl,rfl⟩ ?_
  rintro k T H' D ⟨rfl,rfl,h0,h1,i,hi,h12,h13,hr⟩
  by_cases hk:i<l.length
  ·obtain⟨x,hx⟩:∃ x,l[i]?=some x:=⟨_,List.getElem?_eq_getElem hk⟩
   obtain⟨y,hy⟩:∃ y,m[i]?=some y:=⟨_,List.getElem?_eq_getElem (by omega)⟩
   obtain⟨b,g,cells,rw_,c,hve,hb,hc,hcl,hle,hld,hgt⟩:=h.at hx
   have hc:c=kyC x:=hc
   subst hc
   obtain⟨b',g',cells',rw',c',hwe,hb',hc',hcl',hle',hld',hgt'⟩:=h'.at hy
   have hc':c'=kyC y:=hc'
   subst hc'
   rw[hve] at h0
   rw[hwe] at h1
   rw[drop_at hx,drop_at hy,eqG] at hr
   have w1:IntKind.i64.wrap ((i:Int)+1)=((i+1:Nat):Int):=by rw[wi (by omega) (by omega)];rfl
   have q0:(0:Int)≤(i:Int):=by omega
   have q1:(i:Int)<(l.length:Int):=by omega
   have q2:(i:Int)<(m.length:Int):=by omega
   cases hq:kyQ x y with
   | true=>
    rw[hq,Bool.true_and] at hr
    unfold kyQ at hq
    (refine sg (et h0 (et h1 (et h12 (et h13 (dt q1))))) ?_;try exact⟨⟩)
    repeat ((first|refine drawnF ?_ (by decide +kernel));simp only[go_sem,Nat.reduceEqDiff,Nat.reduceAdd,Nat.reduceSub,Nat.reduceMul,Nat.reduceLT,Nat.reduceLeDiff,Int.reducePow,Int.reduceBEq,Int.reduceBNe,Int.reduceDiv,Int.reduceMod,Int.reduceEq,Int.reduceLT,Int.reduceLE,Int.reduceAdd,Int.reduceSub,Int.reduceMul,Int.reduceNeg,Int.reduceToNat,Int.reduceTDiv,Int.reduceTMod,↓reduceIte,h0,h1,h12,h13,q0,q1,q2,Int.toNat_natCast,Nat.zero_add,hb,hb',hld,hld',hq,w1,bne])
    exact⟨k - 1,by omega,hve.symm,hwe.symm,i+1,by omega,rfl,hr⟩
   | false=>
    rw[hq,Bool.false_and] at hr
    unfold kyQ at hq
    (refine sg (et h0 (et h1 (et h12 (et h13 (dt q1))))) ?_;try exact⟨⟩)
    repeat ((first|refine drawnF ?_ (by decide +kernel));simp only[go_sem,Nat.reduceEqDiff,Nat.reduceAdd,Nat.reduceSub,Nat.reduceMul,Nat.reduceLT,Nat.reduceLeDiff,Int.reducePow,Int.reduceBEq,Int.reduceBNe,Int.reduceDiv,Int.reduceMod,Int.reduceEq,Int.reduceLT,Int.reduceLE,Int.reduceAdd,Int.reduceSub,Int.reduceMul,Int.reduceNeg,Int.reduceToNat,Int.reduceTDiv,Int.reduceTMod,↓reduceIte,h0,h1,h12,h13,q0,q1,q2,Int.toNat_natCast,Nat.zero_add,hb,hb',hld,hld',hq,w1,bne])
    rw[← hr]
  ·rw[List.drop_eq_nil_of_le (by omega),List.drop_eq_nil_of_le (by omega)] at hr
   (refine sg (et h0 (et h1 (et h12 (et h13 (df (show ¬ (i:Int)<(l.length:Int) by omega)))))) ?_;try exact⟨⟩)
   rw[← hr];rfl
 ·rw[eqG_len (by omega)]
  (refine sg (nf hl) ?_;try exact⟨⟩)
set_option maxHeartbeats 4000000 in
theorem rpts_ (l m:List Pt) (v w:Value) (H:AH) (h:RowOf 2 PtE H v l) (h':RowOf 2 PtE H w m):SemCall Tryz.prog 66 [v,w] H (.bool (eqG ptQ l m)) H []:=by
 refine pure_of ?_ rfl
 have hlen:=h.len
 obtain⟨va,ve,hv⟩:=h.form
 subst hv
 obtain⟨wa,we,hw⟩:=h'.form
 subst hw
 refine XCal.of hm Tryz.func66 rfl (fun xs w=>Tryz.call66 xs w) Tryz.ntmps66 Tryz.results66 rfl ?_
 by_cases hl:(l.length:Int)=(m.length:Int)
 ·(refine sg (nt hl) ?_;try exact⟨⟩)
  refine keep (fun k T H' D=>H=H'∧D=[]∧T 0=.slice va l.length ve∧T 1=.slice wa m.length we∧∃ i:Nat,i+k=l.length∧T 5=.int .i64 (i:Int)∧eqG ptQ (l.drop i) (m.drop i)=eqG ptQ l m) l.length ⟨rfl,rfl,rfl,rfl,0,by omega,rfl,rfl⟩ ?_
  rintro k T H' D ⟨rfl,rfl,h0,h1,i,hi,h13,hr⟩
  by_cases hk:i<l.length
  ·obtain⟨x,hx⟩:∃ x,l[i]?=some x:=⟨_,List.getElem?_eq_getElem hk⟩
   obtain⟨y,hy⟩:∃ y,m[i]?=some y:=⟨_,List.getElem?_eq_getElem (by omega)⟩
   obtain⟨b,g,cells,rw_,c,hve,hb,hc,hcl,hle,hld,hgt⟩:=h.at hx
   have hc:c=[.int .i64 x.1,.int .i64 x.2]:=hc
   subst hc
   obtain⟨b',g',cells',rw',c',hwe,hb',hc',hcl',hle',hld',hgt'⟩:=h'.at hy
   have hc':c'=[.int .i64 y.1,.int .i64 y.2]:=hc'
   subst hc'
   rw[hve] at h0
   rw[hwe] at h1
   rw[drop_at hx,drop_at hy,eqG] at hr
   have w1:IntKind.i64.wrap ((i:Int)+1)=((i+1:Nat):Int):=by rw[wi (by omega) (by omega)];rfl
   have q0:(0:Int)≤(i:Int):=by omega
   have q1:(i:Int)<(l.length:Int):=by omega
   have q2:(i:Int)<(m.length:Int):=by omega
   cases hq:ptQ x y with
   | true=>
    rw[hq,Bool.true_and] at hr
    unfold ptQ at hq
    (refine sg (et h0 (et h1 (et h13 (dt q1)))) ?_;try exact⟨⟩)
    repeat ((first|refine drawnF ?_ (by decide +kernel));simp only[go_sem,Nat.reduceEqDiff,Nat.reduceAdd,Nat.reduceSub,Nat.reduceMul,Nat.reduceLT,Nat.reduceLeDiff,Int.reducePow,Int.reduceBEq,Int.reduceBNe,Int.reduceDiv,Int.reduceMod,Int.reduceEq,Int.reduceLT,Int.reduceLE,Int.reduceAdd,Int.reduceSub,Int.reduceMul,Int.reduceNeg,Int.reduceToNat,Int.reduceTDiv,Int.reduceTMod,↓reduceIte,h0,h1,h13,q0,q1,q2,Int.toNat_natCast,Nat.zero_add,hb,hb',hld,hld',hq,w1,bne])
    exact⟨k - 1,by omega,hve.symm,hwe.symm,i+1,by omega,rfl,hr⟩
   | false=>
    rw[hq,Bool.false_and] at hr
    unfold ptQ at hq
    (refine sg (et h0 (et h1 (et h13 (dt q1)))) ?_;try exact⟨⟩)
    repeat ((first|refine drawnF ?_ (by decide +kernel));simp only[go_sem,Nat.reduceEqDiff,Nat.reduceAdd,Nat.reduceSub,Nat.reduceMul,Nat.reduceLT,Nat.reduceLeDiff,Int.reducePow,Int.reduceBEq,Int.reduceBNe,Int.reduceDiv,Int.reduceMod,Int.reduceEq,Int.reduceLT,Int.reduceLE,Int.reduceAdd,Int.reduceSub,Int.reduceMul,Int.reduceNeg,Int.reduceToNat,Int.reduceTDiv,Int.reduceTMod,↓reduceIte,h0,h1,h13,q0,q1,q2,Int.toNat_natCast,Nat.zero_add,hb,hb',hld,hld',hq,w1,bne])
    rw[← hr]
  ·rw[List.drop_eq_nil_of_le (by omega),List.drop_eq_nil_of_le (by omega)] at hr
   (refine sg (et h0 (et h1 (et h13 (df (show ¬ (i:Int)<(l.length:Int) by omega))))) ?_;try exact⟨⟩)
   rw[← hr];rfl
 ·rw[eqG_len (by omega)]
  (refine sg (nf hl) ?_;try exact⟨⟩)
theorem rpsame_ (p q:PL) (pv qv:Value) (H:AH) (hp:Pts H pv p.2) (hq:Pts H qv q.2):SemCall Tryz.prog 38 [.agg [.bool p.1,pv].toArray,.agg [.bool q.1,qv].toArray] H (.bool (plQ p q)) H []:=by
 refine pure_of ?_ rfl
 have k1:=fun L=>rpts_ p.2 q.2 pv qv (H++L) (hp.app L).row (hq.app L).row
 unfold plQ
 cases h:(p.1==q.1)
 all_goals
  refine XCal.of hm Tryz.func38 rfl (fun xs w=>Tryz.call38 xs w) Tryz.ntmps38 Tryz.results38 rfl ?_
  (refine sg h ?_;try exact⟨⟩)
  repeat ((first|refine(k1 _).x ?_|refine drawnF ?_ (by decide +kernel));(refine sg h ?_;try exact⟨⟩))
/-- What of a shape is compared last. -/
def shR (x y:Sh):Bool:=(x.form==y.form)&&((x.n==y.n)&&(eqG kyQ x.w y.w&&(eqG kyQ x.h y.h&&((x.fill==y.fill)&&((x.rule==y.rule)&&(pntQ x.paint y.paint&&((x.stroke==y.stroke)&&(eqG kyQ x.width y.width&&(c4Q x.line y.line&&((x.cap==y.cap)&&(eqG kyQ x.frm y.frm&&eqG kyQ x.to y.to)))))))))))
theorem shQ_R (x y:Sh):shQ x y=(eqG pkQ x.paths y.paths&&(eqG ckQ x.colors y.colors&&(eqG inQ x.dash y.dash&&shR x y))):=by
 unfold shQ shP shK shR
 rw[Bool.eq_iff_iff]
 simp only[Bool.and_eq_true]
 constructor
 ·rintro⟨⟨⟨⟨⟨⟨⟨⟨⟨⟨⟨a1,a2⟩,a3⟩,a4⟩,a5⟩,a6⟩,a7⟩,a8⟩,⟨⟨⟨b1,b2⟩,b3⟩,b4⟩,b5⟩,c1⟩,c2⟩,c3⟩
  exact⟨c1,c2,c3,a1,a2,b1,b2,a3,a4,a5,a6,b3,a7,a8,b4,b5⟩
 ·rintro⟨c1,c2,c3,a1,a2,b1,b2,a3,a4,a5,a6,b3,a7,a8,b4,b5⟩
  exact⟨⟨⟨⟨⟨⟨⟨⟨⟨⟨⟨a1,a2⟩,a3⟩,a4⟩,a5⟩,a6⟩,a7⟩,a8⟩,⟨⟨⟨b1,b2⟩,b3⟩,b4⟩,b5⟩,c1⟩,c2⟩,c3⟩
set_option maxRecDepth 100000 in
set_option maxHeartbeats 8000000 in
theorem rsshape_ (x y:Sh) (v0 v1 v2 v3 v4 v5 v6 v7 w0 w1 w2 w3 w4 w5 w6 w7:Value) (H:AH) (h:ShV H x v0 v1 v2 v3 v4 v5 v6 v7) (h':ShV H y w0 w1 w2 w3 w4 w5 w6 w7):SemCall Tryz.prog 39 [shV x v0 v1 v2 v3 v4 v5 v6 v7,shV y w0 w1 w2 w3 w4 w5 w6 w7] H (.bool (shQ x y)) H []:=by
 refine pure_of ?_ rfl
 obtain⟨q,hq⟩:∃ q,shQ x y=q:=⟨_,rfl⟩
 rw[hq]
 rw[shQ_R] at hq
 obtain⟨pa,pe,e2⟩:=h.paths.form
 obtain⟨ca,ce,e3⟩:=h.colors.form
 obtain⟨da,de,e5⟩:=h.dash.form
 obtain⟨pa',pe',f2⟩:=h'.paths.form
 obtain⟨ca',ce',f3⟩:=h'.colors.form
 obtain⟨da',de',f5⟩:=h'.dash.form
 have lp:=h.paths.len
 have lc:=h.colors.len
 have ld:=h.dash.len
 subst e2 e3 e5 f2 f3 f5
 by_cases m1:(x.paths.length:Int)=(y.paths.length:Int)
 case neg=>
  rw[eqG_len (by omega),Bool.false_and] at hq
  subst hq
  refine XCal.of hm Tryz.func39 rfl (fun xs w=>Tryz.call39 xs w) Tryz.ntmps39 Tryz.results39 rfl ?_
  (refine sg (nf m1) ?_;try exact⟨⟩)
 by_cases m2:(x.colors.length:Int)=(y.colors.length:Int)
 case neg=>
  rw[eqG_len (l:=x.colors) (by omega),Bool.false_and,Bool.and_false] at hq
  subst hq
  refine XCal.of hm Tryz.func39 rfl (fun xs w=>Tryz.call39 xs w) Tryz.ntmps39 Tryz.results39 rfl ?_
  (refine sg (et (nt m1) (nf m2)) ?_;try exact⟨⟩)
 by_cases m3:(x.dash.length:Int)=(y.dash.length:Int)
 case neg=>
  rw[eqG_len (l:=x.dash) (by omega),Bool.false_and,Bool.and_false,Bool.and_false] at hq
  subst hq
  refine XCal.of hm Tryz.func39 rfl (fun xs w=>Tryz.call39 xs w) Tryz.ntmps39 Tryz.results39 rfl ?_
  (refine sg (et (nt m1) (et (nt m2) (nf m3))) ?_;try exact⟨⟩)
 refine XCal.of hm Tryz.func39 rfl (fun xs w=>Tryz.call39 xs w) Tryz.ntmps39 Tryz.results39 rfl ?_
 (refine sg (et (nt m1) (et (nt m2) (nt m3))) ?_;try exact⟨⟩)
 refine keep (fun r T K D=>D=[]∧∃ i:Nat,i+r=x.paths.length∧Old H K∧H.length+2≤K.length∧K[H.length]?=some ⟨shC x v0 v1 (.slice pa x.paths.length pe) (.slice ca x.colors.length ce) v4 (.slice da x.dash.length de) v6 v7,0,true⟩∧K[H.length+1]?=some ⟨shC y w0 w1 (.slice pa' y.paths.length pe') (.slice ca' y.colors.length ce') w4 (.slice da' y.dash.length de') w6 w7,0,true⟩∧T 2=ap H.length 0 0∧T 3=ap (H.length+1) 0 0∧T 37=.int .i64 (x.paths.length:Int)∧T 38=.int .i64 (i:Int)∧(eqG pkQ (x.paths.drop i) (y.paths.drop i)&&(eqG ckQ x.colors y.colors&&(eqG inQ x.dash y.dash&&shR x y)))=q) x.paths.length
  ⟨rfl,0,by omega,Old.app' _ _,by simp,by rw[hget_app0];rfl,by rw[hget_app];rfl,by(refine sg trivial ?_;try exact⟨⟩),by(refine sg trivial ?_;try exact⟨⟩),by(refine sg trivial ?_;try exact⟨⟩),by(refine sg trivial ?_;try exact⟨⟩) <;> rfl,hq⟩ ?_
 clear hq
 rintro r T K D ⟨rfl,i,hir,hold,hKl,g0,g1,t2,t3,t37,t38,hr⟩
 have kd:∀ n,decide (K.length+n<H.length)=false:=fun n=>df (by omega)
 have kd0:decide (K.length<H.length)=false:=df (by omega)
 by_cases hi:i<x.paths.length
 ·obtain⟨a,hx⟩:∃ a,x.paths[i]?=some a:=⟨_,List.getElem?_eq_getElem hi⟩
  obtain⟨e,hy⟩:∃ e,y.paths[i]?=some e:=⟨_,List.getElem?_eq_getElem (by omega)⟩
  obtain⟨b,g,cells,rw_,c,hve,hb,⟨pv,hc,hp⟩,hcl,hle,hld,hgt⟩:=h.paths.at hx
  subst hc
  obtain⟨b',g',cells',rw',c',hwe,hb',⟨qv,hc',hp'⟩,hcl',hle',hld',hgt'⟩:=h'.paths.at hy
  subst hc'
  have kb:=hold _ _ hb
  have kb':=hold _ _ hb'
  have g0':=g0
  have g1':=g1
  rw[hve] at g0'
  rw[hwe] at g1'
  rw[drop_at hx,drop_at hy,eqG] at hr
  have i1:IntKind.i64.wrap ((i:Int)+1)=((i+1:Nat):Int):=by rw[wi (by omega) (by omega)];rfl
  have q0:(0:Int)≤(i:Int):=by omega
  have q1:(i:Int)<(x.paths.length:Int):=by omega
  have q2:(i:Int)<(y.paths.length:Int):=by omega
  have k1:=fun L=>rpsame_ a.p e.p pv qv (K++L) ((hp.old hold).app L) ((hp'.old hold).app L)
  have bl:=(List.getElem?_eq_some_iff.1 hb).1
  have bl':=(List.getElem?_eq_some_iff.1 hb').1
  have n1:(K.length=H.length)=False:=eq_false (by omega)
  have n2:(K.length=H.length+1)=False:=eq_false (by omega)
  have n3:(K.length=b)=False:=eq_false (by omega)
  have n4:(K.length=b')=False:=eq_false (by omega)
  have n5:(K.length+1=H.length)=False:=eq_false (by omega)
  have n6:(K.length+1=H.length+1)=False:=eq_false (by omega)
  have n7:(K.length+1=b)=False:=eq_false (by omega)
  have n8:(K.length+1=b')=False:=eq_false (by omega)
  rw[show pkQ a e=((a.t==e.t)&&((a.how==e.how)&&(ezQ a.e e.e&&plQ a.p e.p))) by unfold pkQ;simp only[Bool.and_assoc]] at hr
  generalize plQ a.p e.p=P4 at *
  cases h1:(a.t==e.t) with
  | false=>
   simp only[h1,Bool.true_and,Bool.false_and] at hr
   try unfold ezQ at h3
   (refine sg (et t2 (et t3 (et t37 (et t38 (dt q1))))) ?_;try exact⟨⟩)
   repeat ((first|refine(k1 _).x ?_|refine drawnF ?_ (by decide +kernel)|refine drawnU [(5,12),(6,12),(7,12),(8,12),(9,12)] (by decide +kernel) ?_);simp only[go_sem,Nat.reduceEqDiff,Nat.reduceAdd,Nat.reduceSub,Nat.reduceMul,Nat.reduceLT,Nat.reduceLeDiff,Int.reducePow,Int.reduceBEq,Int.reduceBNe,Int.reduceDiv,Int.reduceMod,Int.reduceEq,Int.reduceLT,Int.reduceLE,Int.reduceAdd,Int.reduceSub,Int.reduceMul,Int.reduceNeg,Int.reduceToNat,Int.reduceTDiv,Int.reduceTMod,↓reduceIte,t2,t3,t37,t38,q0,q1,q2,Int.toNat_natCast,Nat.zero_add,g0',g1',kb,kb',old_get kb',hld,hld',kd,kd0,bne,i1,n1,n2,n3,n4,n5,n6,n7,n8,h1])
   first|(subst hr;done)|(rw[← hr];done)|exact⟨r - 1,by omega,i+1,by omega,hold.app _,by omega,old_get g0 _,old_get g1 _,rfl,hr⟩
  | true=>
   cases h2:(a.how==e.how) with
   | false=>
    simp only[h1,h2,Bool.true_and,Bool.false_and] at hr
    try unfold ezQ at h3
    (refine sg (et t2 (et t3 (et t37 (et t38 (dt q1))))) ?_;try exact⟨⟩)
    repeat ((first|refine(k1 _).x ?_|refine drawnF ?_ (by decide +kernel)|refine drawnU [(5,12),(6,12),(7,12),(8,12),(9,12)] (by decide +kernel) ?_);simp only[go_sem,Nat.reduceEqDiff,Nat.reduceAdd,Nat.reduceSub,Nat.reduceMul,Nat.reduceLT,Nat.reduceLeDiff,Int.reducePow,Int.reduceBEq,Int.reduceBNe,Int.reduceDiv,Int.reduceMod,Int.reduceEq,Int.reduceLT,Int.reduceLE,Int.reduceAdd,Int.reduceSub,Int.reduceMul,Int.reduceNeg,Int.reduceToNat,Int.reduceTDiv,Int.reduceTMod,↓reduceIte,t2,t3,t37,t38,q0,q1,q2,Int.toNat_natCast,Nat.zero_add,g0',g1',kb,kb',old_get kb',hld,hld',kd,kd0,bne,i1,n1,n2,n3,n4,n5,n6,n7,n8,h1,h2])
    first|(subst hr;done)|(rw[← hr];done)|exact⟨r - 1,by omega,i+1,by omega,hold.app _,by omega,old_get g0 _,old_get g1 _,rfl,hr⟩
   | true=>
    cases h3:ezQ a.e e.e with
    | false=>
     simp only[h1,h2,h3,Bool.true_and,Bool.false_and] at hr
     try unfold ezQ at h3
     (refine sg (et t2 (et t3 (et t37 (et t38 (dt q1))))) ?_;try exact⟨⟩)
     repeat ((first|refine(k1 _).x ?_|refine drawnF ?_ (by decide +kernel)|refine drawnU [(5,12),(6,12),(7,12),(8,12),(9,12)] (by decide +kernel) ?_);simp only[go_sem,Nat.reduceEqDiff,Nat.reduceAdd,Nat.reduceSub,Nat.reduceMul,Nat.reduceLT,Nat.reduceLeDiff,Int.reducePow,Int.reduceBEq,Int.reduceBNe,Int.reduceDiv,Int.reduceMod,Int.reduceEq,Int.reduceLT,Int.reduceLE,Int.reduceAdd,Int.reduceSub,Int.reduceMul,Int.reduceNeg,Int.reduceToNat,Int.reduceTDiv,Int.reduceTMod,↓reduceIte,t2,t3,t37,t38,q0,q1,q2,Int.toNat_natCast,Nat.zero_add,g0',g1',kb,kb',old_get kb',hld,hld',kd,kd0,bne,i1,n1,n2,n3,n4,n5,n6,n7,n8,h1,h2,h3])
     first|(subst hr;done)|(rw[← hr];done)|exact⟨r - 1,by omega,i+1,by omega,hold.app _,by omega,old_get g0 _,old_get g1 _,rfl,hr⟩
    | true=>
     cases h4:P4 with
     | false=>
      simp only[h1,h2,h3,h4,Bool.true_and,Bool.false_and] at hr
      try unfold ezQ at h3
      (refine sg (et t2 (et t3 (et t37 (et t38 (dt q1))))) ?_;try exact⟨⟩)
      repeat ((first|refine(k1 _).x ?_|refine drawnF ?_ (by decide +kernel)|refine drawnU [(5,12),(6,12),(7,12),(8,12),(9,12)] (by decide +kernel) ?_);simp only[go_sem,Nat.reduceEqDiff,Nat.reduceAdd,Nat.reduceSub,Nat.reduceMul,Nat.reduceLT,Nat.reduceLeDiff,Int.reducePow,Int.reduceBEq,Int.reduceBNe,Int.reduceDiv,Int.reduceMod,Int.reduceEq,Int.reduceLT,Int.reduceLE,Int.reduceAdd,Int.reduceSub,Int.reduceMul,Int.reduceNeg,Int.reduceToNat,Int.reduceTDiv,Int.reduceTMod,↓reduceIte,t2,t3,t37,t38,q0,q1,q2,Int.toNat_natCast,Nat.zero_add,g0',g1',kb,kb',old_get kb',hld,hld',kd,kd0,bne,i1,n1,n2,n3,n4,n5,n6,n7,n8,h1,h2,h3,h4])
      first|(subst hr;done)|(rw[← hr];done)|exact⟨r - 1,by omega,i+1,by omega,hold.app _,by omega,old_get g0 _,old_get g1 _,rfl,hr⟩
     | true=>
      simp only[h1,h2,h3,h4,Bool.true_and,Bool.false_and] at hr
      try unfold ezQ at h3
      (refine sg (et t2 (et t3 (et t37 (et t38 (dt q1))))) ?_;try exact⟨⟩)
      repeat ((first|refine(k1 _).x ?_|refine drawnF ?_ (by decide +kernel)|refine drawnU [(5,12),(6,12),(7,12),(8,12),(9,12)] (by decide +kernel) ?_);simp only[go_sem,Nat.reduceEqDiff,Nat.reduceAdd,Nat.reduceSub,Nat.reduceMul,Nat.reduceLT,Nat.reduceLeDiff,Int.reducePow,Int.reduceBEq,Int.reduceBNe,Int.reduceDiv,Int.reduceMod,Int.reduceEq,Int.reduceLT,Int.reduceLE,Int.reduceAdd,Int.reduceSub,Int.reduceMul,Int.reduceNeg,Int.reduceToNat,Int.reduceTDiv,Int.reduceTMod,↓reduceIte,t2,t3,t37,t38,q0,q1,q2,Int.toNat_natCast,Nat.zero_add,g0',g1',kb,kb',old_get kb',hld,hld',kd,kd0,bne,i1,n1,n2,n3,n4,n5,n6,n7,n8,h1,h2,h3,h4])
      first|(subst hr;done)|(rw[← hr];done)|exact⟨r - 1,by omega,i+1,by omega,hold.app _,by omega,old_get g0 _,old_get g1 _,rfl,hr⟩
 ·rw[List.drop_eq_nil_of_le (by omega),List.drop_eq_nil_of_le (by omega)] at hr
  have hr:(true&&(eqG ckQ x.colors y.colors&&(eqG inQ x.dash y.dash&&shR x y)))=q:=hr
  rw[Bool.true_and] at hr
  have nl:df (show ¬ (i:Int)<(x.paths.length:Int) by omega)=df (show ¬ (i:Int)<(x.paths.length:Int) by omega):=rfl
  (refine sg (et t2 (et t3 (et t37 (et t38 (et (df (show ¬ (i:Int)<(x.paths.length:Int) by omega)) g0))))) ?_;try exact⟨⟩)
  clear nl
  refine keep (fun r T J D=>D=[]∧J=K∧∃ i:Nat,i+r=x.colors.length∧T 2=ap H.length 0 0∧T 3=ap (H.length+1) 0 0∧T 81=.int .i64 (x.colors.length:Int)∧T 82=.int .i64 (i:Int)∧(eqG ckQ (x.colors.drop i) (y.colors.drop i)&&(eqG inQ x.dash y.dash&&shR x y))=q) x.colors.length
   ⟨rfl,rfl,0,by omega,by(refine sg t2 ?_;try exact⟨⟩),by(refine sg t3 ?_;try exact⟨⟩),by(refine sg trivial ?_;try exact⟨⟩),by(refine sg trivial ?_;try exact⟨⟩) <;> rfl,hr⟩ ?_
  clear hr t2 t3 t37 t38 hir hi i
  rintro r T J D ⟨rfl,rfl,i,hir,t2,t3,t81,t82,hr⟩
  by_cases hi:i<x.colors.length
  ·obtain⟨a,hx⟩:∃ a,x.colors[i]?=some a:=⟨_,List.getElem?_eq_getElem hi⟩
   obtain⟨e,hy⟩:∃ e,y.colors[i]?=some e:=⟨_,List.getElem?_eq_getElem (by omega)⟩
   obtain⟨b,g,cells,rw_,c,hve,hb,hc,hcl,hle,hld,hgt⟩:=h.colors.at hx
   have hc:c=ckC a:=hc
   subst hc
   obtain⟨b',g',cells',rw',c',hwe,hb',hc',hcl',hle',hld',hgt'⟩:=h'.colors.at hy
   have hc':c'=ckC e:=hc'
   subst hc'
   have kb:=hold _ _ hb
   have kb':=hold _ _ hb'
   rw[drop_at hx,drop_at hy,eqG] at hr
   have g0':=g0
   have g1':=g1
   rw[hve] at g0'
   rw[hwe] at g1'
   have i1:IntKind.i64.wrap ((i:Int)+1)=((i+1:Nat):Int):=by rw[wi (by omega) (by omega)];rfl
   have q0:(0:Int)≤(i:Int):=by omega
   have q1:(i:Int)<(x.colors.length:Int):=by omega
   have q2:(i:Int)<(y.colors.length:Int):=by omega
   cases h1:ckQ a e
   all_goals
    simp only[h1,Bool.true_and,Bool.false_and] at hr
    unfold ckQ at h1
    (refine sg (et t2 (et t3 (et t81 (et t82 (dt q1))))) ?_;try exact⟨⟩)
    repeat ((first|refine drawnF ?_ (by decide +kernel)|refine drawnU [(5,12),(6,12),(7,12),(8,12),(9,12)] (by decide +kernel) ?_);simp only[go_sem,Nat.reduceEqDiff,Nat.reduceAdd,Nat.reduceSub,Nat.reduceMul,Nat.reduceLT,Nat.reduceLeDiff,Int.reducePow,Int.reduceBEq,Int.reduceBNe,Int.reduceDiv,Int.reduceMod,Int.reduceEq,Int.reduceLT,Int.reduceLE,Int.reduceAdd,Int.reduceSub,Int.reduceMul,Int.reduceNeg,Int.reduceToNat,Int.reduceTDiv,Int.reduceTMod,↓reduceIte,t2,t3,t81,t82,q0,q1,q2,Int.toNat_natCast,Nat.zero_add,g0',g1',kb,kb',hld,hld',kd,kd0,bne,i1,h1])
    first|(subst hr;done)|(rw[← hr];done)|exact⟨r - 1,by omega,i+1,by omega,rfl,hr⟩
  ·rw[List.drop_eq_nil_of_le (by omega),List.drop_eq_nil_of_le (by omega)] at hr
   have hr:(true&&(eqG inQ x.dash y.dash&&shR x y))=q:=hr
   rw[Bool.true_and] at hr
   (refine sg (et t2 (et t3 (et t81 (et t82 (et (df (show ¬ (i:Int)<(x.colors.length:Int) by omega)) g0))))) ?_;try exact⟨⟩)
   refine keep (fun r T K' D=>D=[]∧K'=J∧∃ i:Nat,i+r=x.dash.length∧T 2=ap H.length 0 0∧T 3=ap (H.length+1) 0 0∧T 99=.int .i64 (x.dash.length:Int)∧T 100=.int .i64 (i:Int)∧(eqG inQ (x.dash.drop i) (y.dash.drop i)&&shR x y)=q) x.dash.length
    ⟨rfl,rfl,0,by omega,by(refine sg t2 ?_;try exact⟨⟩),by(refine sg t3 ?_;try exact⟨⟩),by(refine sg trivial ?_;try exact⟨⟩),by(refine sg trivial ?_;try exact⟨⟩) <;> rfl,hr⟩ ?_
   clear hr t2 t3 t81 t82 hir hi i
   rintro r T K' D ⟨rfl,rfl,i,hir,t2,t3,t99,t100,hr⟩
   by_cases hi:i<x.dash.length
   ·obtain⟨a,hx⟩:∃ a,x.dash[i]?=some a:=⟨_,List.getElem?_eq_getElem hi⟩
    obtain⟨e,hy⟩:∃ e,y.dash[i]?=some e:=⟨_,List.getElem?_eq_getElem (by omega)⟩
    obtain⟨b,g,cells,rw_,c,hve,hb,hc,hcl,hle,hld,hgt⟩:=h.dash.at hx
    have hc:c=[.int .i64 a]:=hc
    subst hc
    obtain⟨b',g',cells',rw',c',hwe,hb',hc',hcl',hle',hld',hgt'⟩:=h'.dash.at hy
    have hc':c'=[.int .i64 e]:=hc'
    subst hc'
    have kb:=hold _ _ hb
    have kb':=hold _ _ hb'
    have hg:=hgt 0 (by omega)
    have hg':=hgt' 0 (by omega)
    rw[Nat.mul_one,Nat.add_zero] at hg hg'
    have hg:cells[i]?=some (.int .i64 a):=hg
    have hg':cells'[i]?=some (.int .i64 e):=hg'
    rw[drop_at hx,drop_at hy,eqG] at hr
    have g0':=g0
    have g1':=g1
    rw[hve] at g0'
    rw[hwe] at g1'
    have i1:IntKind.i64.wrap ((i:Int)+1)=((i+1:Nat):Int):=by rw[wi (by omega) (by omega)];rfl
    have q0:(0:Int)≤(i:Int):=by omega
    have q1:(i:Int)<(x.dash.length:Int):=by omega
    have q2:(i:Int)<(y.dash.length:Int):=by omega
    cases h1:inQ a e
    all_goals
     simp only[h1,Bool.true_and,Bool.false_and] at hr
     unfold inQ at h1
     (refine sg (et t2 (et t3 (et t99 (et t100 (dt q1))))) ?_;try exact⟨⟩)
     repeat ((first|refine drawnF ?_ (by decide +kernel)|refine drawnU [(5,12),(6,12),(7,12),(8,12),(9,12)] (by decide +kernel) ?_);simp only[go_sem,Nat.reduceEqDiff,Nat.reduceAdd,Nat.reduceSub,Nat.reduceMul,Nat.reduceLT,Nat.reduceLeDiff,Int.reducePow,Int.reduceBEq,Int.reduceBNe,Int.reduceDiv,Int.reduceMod,Int.reduceEq,Int.reduceLT,Int.reduceLE,Int.reduceAdd,Int.reduceSub,Int.reduceMul,Int.reduceNeg,Int.reduceToNat,Int.reduceTDiv,Int.reduceTMod,↓reduceIte,t2,t3,t99,t100,q0,q1,q2,Int.toNat_natCast,Nat.zero_add,Nat.mul_one,g0',g1',kb,kb',hg,hg',kd,kd0,bne,i1,h1])
     first|(subst hr;done)|(rw[← hr];done)|exact⟨r - 1,by omega,i+1,by omega,rfl,hr⟩
   ·rw[List.drop_eq_nil_of_le (by omega),List.drop_eq_nil_of_le (by omega)] at hr
    have hr:(true&&shR x y)=q:=hr
    rw[Bool.true_and] at hr
    have c1:=rskeys_ x.w y.w v0 w0 K' (h.w.old KyE.m hold) (h'.w.old KyE.m hold)
    have c2:=rskeys_ x.h y.h v1 w1 K' (h.h.old KyE.m hold) (h'.h.old KyE.m hold)
    have c3:=rskeys_ x.width y.width v4 w4 K' (h.width.old KyE.m hold) (h'.width.old KyE.m hold)
    have c4:=rskeys_ x.frm y.frm v6 w6 K' (h.frm.old KyE.m hold) (h'.frm.old KyE.m hold)
    have c5:=rskeys_ x.to y.to v7 w7 K' (h.to.old KyE.m hold) (h'.to.old KyE.m hold)
    unfold shR at hr
    generalize eqG kyQ x.w y.w=p1 at *
    generalize eqG kyQ x.h y.h=p2 at *
    generalize eqG kyQ x.width y.width=p3 at *
    generalize eqG kyQ x.frm y.frm=p4 at *
    generalize eqG kyQ x.to y.to=p5 at *
    cases h1:(x.form==y.form) with
    | false=>
     simp only[h1,Bool.true_and,Bool.false_and] at hr
     try unfold pntQ at h7
     try unfold c4Q at h10
     subst hr
     simp (maxSteps:=1000000) only [go_sem,Nat.reduceEqDiff,Nat.reduceAdd,Nat.reduceSub,Nat.reduceMul,Nat.reduceLT,Nat.reduceLeDiff,Int.reducePow,Int.reduceBEq,Int.reduceBNe,Int.reduceDiv,Int.reduceMod,Int.reduceEq,Int.reduceLT,Int.reduceLE,Int.reduceAdd,Int.reduceSub,Int.reduceMul,Int.reduceNeg,Int.reduceToNat,Int.reduceTDiv,Int.reduceTMod,↓reduceIte,t2,t3,t99,t100,df (show ¬ (i:Int)<(x.dash.length:Int) by omega),g0,g1,h1]
     repeat ((first|refine(c1).x ?_|refine(c2).x ?_|refine(c3).x ?_|refine(c4).x ?_|refine(c5).x ?_|refine drawnF ?_ (by decide +kernel)|refine drawnU [(5,12),(6,12),(7,12),(8,12),(9,12)] (by decide +kernel) ?_);simp (maxSteps:=1000000) only [go_sem,Nat.reduceEqDiff,Nat.reduceAdd,Nat.reduceSub,Nat.reduceMul,Nat.reduceLT,Nat.reduceLeDiff,Int.reducePow,Int.reduceBEq,Int.reduceBNe,Int.reduceDiv,Int.reduceMod,Int.reduceEq,Int.reduceLT,Int.reduceLE,Int.reduceAdd,Int.reduceSub,Int.reduceMul,Int.reduceNeg,Int.reduceToNat,Int.reduceTDiv,Int.reduceTMod,↓reduceIte,t2,t3,g0,g1,h1])
    | true=>
     cases h2:(x.n==y.n) with
     | false=>
      simp only[h1,h2,Bool.true_and,Bool.false_and] at hr
      try unfold pntQ at h7
      try unfold c4Q at h10
      subst hr
      simp (maxSteps:=1000000) only [go_sem,Nat.reduceEqDiff,Nat.reduceAdd,Nat.reduceSub,Nat.reduceMul,Nat.reduceLT,Nat.reduceLeDiff,Int.reducePow,Int.reduceBEq,Int.reduceBNe,Int.reduceDiv,Int.reduceMod,Int.reduceEq,Int.reduceLT,Int.reduceLE,Int.reduceAdd,Int.reduceSub,Int.reduceMul,Int.reduceNeg,Int.reduceToNat,Int.reduceTDiv,Int.reduceTMod,↓reduceIte,t2,t3,t99,t100,df (show ¬ (i:Int)<(x.dash.length:Int) by omega),g0,g1,h1,h2]
      repeat ((first|refine(c1).x ?_|refine(c2).x ?_|refine(c3).x ?_|refine(c4).x ?_|refine(c5).x ?_|refine drawnF ?_ (by decide +kernel)|refine drawnU [(5,12),(6,12),(7,12),(8,12),(9,12)] (by decide +kernel) ?_);simp (maxSteps:=1000000) only [go_sem,Nat.reduceEqDiff,Nat.reduceAdd,Nat.reduceSub,Nat.reduceMul,Nat.reduceLT,Nat.reduceLeDiff,Int.reducePow,Int.reduceBEq,Int.reduceBNe,Int.reduceDiv,Int.reduceMod,Int.reduceEq,Int.reduceLT,Int.reduceLE,Int.reduceAdd,Int.reduceSub,Int.reduceMul,Int.reduceNeg,Int.reduceToNat,Int.reduceTDiv,Int.reduceTMod,↓reduceIte,t2,t3,g0,g1,h1,h2])
     | true=>
      cases h3:p1 with
      | false=>
       simp only[h1,h2,h3,Bool.true_and,Bool.false_and] at hr
       try unfold pntQ at h7
       try unfold c4Q at h10
       subst hr
       simp (maxSteps:=1000000) only [go_sem,Nat.reduceEqDiff,Nat.reduceAdd,Nat.reduceSub,Nat.reduceMul,Nat.reduceLT,Nat.reduceLeDiff,Int.reducePow,Int.reduceBEq,Int.reduceBNe,Int.reduceDiv,Int.reduceMod,Int.reduceEq,Int.reduceLT,Int.reduceLE,Int.reduceAdd,Int.reduceSub,Int.reduceMul,Int.reduceNeg,Int.reduceToNat,Int.reduceTDiv,Int.reduceTMod,↓reduceIte,t2,t3,t99,t100,df (show ¬ (i:Int)<(x.dash.length:Int) by omega),g0,g1,h1,h2,h3]
       repeat ((first|refine(c1).x ?_|refine(c2).x ?_|refine(c3).x ?_|refine(c4).x ?_|refine(c5).x ?_|refine drawnF ?_ (by decide +kernel)|refine drawnU [(5,12),(6,12),(7,12),(8,12),(9,12)] (by decide +kernel) ?_);simp (maxSteps:=1000000) only [go_sem,Nat.reduceEqDiff,Nat.reduceAdd,Nat.reduceSub,Nat.reduceMul,Nat.reduceLT,Nat.reduceLeDiff,Int.reducePow,Int.reduceBEq,Int.reduceBNe,Int.reduceDiv,Int.reduceMod,Int.reduceEq,Int.reduceLT,Int.reduceLE,Int.reduceAdd,Int.reduceSub,Int.reduceMul,Int.reduceNeg,Int.reduceToNat,Int.reduceTDiv,Int.reduceTMod,↓reduceIte,t2,t3,g0,g1,h1,h2,h3])
      | true=>
       cases h4:p2 with
       | false=>
        simp only[h1,h2,h3,h4,Bool.true_and,Bool.false_and] at hr
        try unfold pntQ at h7
        try unfold c4Q at h10
        subst hr
        simp (maxSteps:=1000000) only [go_sem,Nat.reduceEqDiff,Nat.reduceAdd,Nat.reduceSub,Nat.reduceMul,Nat.reduceLT,Nat.reduceLeDiff,Int.reducePow,Int.reduceBEq,Int.reduceBNe,Int.reduceDiv,Int.reduceMod,Int.reduceEq,Int.reduceLT,Int.reduceLE,Int.reduceAdd,Int.reduceSub,Int.reduceMul,Int.reduceNeg,Int.reduceToNat,Int.reduceTDiv,Int.reduceTMod,↓reduceIte,t2,t3,t99,t100,df (show ¬ (i:Int)<(x.dash.length:Int) by omega),g0,g1,h1,h2,h3,h4]
        repeat ((first|refine(c1).x ?_|refine(c2).x ?_|refine(c3).x ?_|refine(c4).x ?_|refine(c5).x ?_|refine drawnF ?_ (by decide +kernel)|refine drawnU [(5,12),(6,12),(7,12),(8,12),(9,12)] (by decide +kernel) ?_);simp (maxSteps:=1000000) only [go_sem,Nat.reduceEqDiff,Nat.reduceAdd,Nat.reduceSub,Nat.reduceMul,Nat.reduceLT,Nat.reduceLeDiff,Int.reducePow,Int.reduceBEq,Int.reduceBNe,Int.reduceDiv,Int.reduceMod,Int.reduceEq,Int.reduceLT,Int.reduceLE,Int.reduceAdd,Int.reduceSub,Int.reduceMul,Int.reduceNeg,Int.reduceToNat,Int.reduceTDiv,Int.reduceTMod,↓reduceIte,t2,t3,g0,g1,h1,h2,h3,h4])
       | true=>
        cases h5:(x.fill==y.fill) with
        | false=>
         simp only[h1,h2,h3,h4,h5,Bool.true_and,Bool.false_and] at hr
         try unfold pntQ at h7
         try unfold c4Q at h10
         subst hr
         simp (maxSteps:=1000000) only [go_sem,Nat.reduceEqDiff,Nat.reduceAdd,Nat.reduceSub,Nat.reduceMul,Nat.reduceLT,Nat.reduceLeDiff,Int.reducePow,Int.reduceBEq,Int.reduceBNe,Int.reduceDiv,Int.reduceMod,Int.reduceEq,Int.reduceLT,Int.reduceLE,Int.reduceAdd,Int.reduceSub,Int.reduceMul,Int.reduceNeg,Int.reduceToNat,Int.reduceTDiv,Int.reduceTMod,↓reduceIte,t2,t3,t99,t100,df (show ¬ (i:Int)<(x.dash.length:Int) by omega),g0,g1,h1,h2,h3,h4,h5]
         repeat ((first|refine(c1).x ?_|refine(c2).x ?_|refine(c3).x ?_|refine(c4).x ?_|refine(c5).x ?_|refine drawnF ?_ (by decide +kernel)|refine drawnU [(5,12),(6,12),(7,12),(8,12),(9,12)] (by decide +kernel) ?_);simp (maxSteps:=1000000) only [go_sem,Nat.reduceEqDiff,Nat.reduceAdd,Nat.reduceSub,Nat.reduceMul,Nat.reduceLT,Nat.reduceLeDiff,Int.reducePow,Int.reduceBEq,Int.reduceBNe,Int.reduceDiv,Int.reduceMod,Int.reduceEq,Int.reduceLT,Int.reduceLE,Int.reduceAdd,Int.reduceSub,Int.reduceMul,Int.reduceNeg,Int.reduceToNat,Int.reduceTDiv,Int.reduceTMod,↓reduceIte,t2,t3,g0,g1,h1,h2,h3,h4,h5])
        | true=>
         cases h6:(x.rule==y.rule) with
         | false=>
          simp only[h1,h2,h3,h4,h5,h6,Bool.true_and,Bool.false_and] at hr
          try unfold pntQ at h7
          try unfold c4Q at h10
          subst hr
          simp (maxSteps:=1000000) only [go_sem,Nat.reduceEqDiff,Nat.reduceAdd,Nat.reduceSub,Nat.reduceMul,Nat.reduceLT,Nat.reduceLeDiff,Int.reducePow,Int.reduceBEq,Int.reduceBNe,Int.reduceDiv,Int.reduceMod,Int.reduceEq,Int.reduceLT,Int.reduceLE,Int.reduceAdd,Int.reduceSub,Int.reduceMul,Int.reduceNeg,Int.reduceToNat,Int.reduceTDiv,Int.reduceTMod,↓reduceIte,t2,t3,t99,t100,df (show ¬ (i:Int)<(x.dash.length:Int) by omega),g0,g1,h1,h2,h3,h4,h5,h6]
          repeat ((first|refine(c1).x ?_|refine(c2).x ?_|refine(c3).x ?_|refine(c4).x ?_|refine(c5).x ?_|refine drawnF ?_ (by decide +kernel)|refine drawnU [(5,12),(6,12),(7,12),(8,12),(9,12)] (by decide +kernel) ?_);simp (maxSteps:=1000000) only [go_sem,Nat.reduceEqDiff,Nat.reduceAdd,Nat.reduceSub,Nat.reduceMul,Nat.reduceLT,Nat.reduceLeDiff,Int.reducePow,Int.reduceBEq,Int.reduceBNe,Int.reduceDiv,Int.reduceMod,Int.reduceEq,Int.reduceLT,Int.reduceLE,Int.reduceAdd,Int.reduceSub,Int.reduceMul,Int.reduceNeg,Int.reduceToNat,Int.reduceTDiv,Int.reduceTMod,↓reduceIte,t2,t3,g0,g1,h1,h2,h3,h4,h5,h6])
         | true=>
          cases h7:pntQ x.paint y.paint with
          | false=>
           simp only[h1,h2,h3,h4,h5,h6,h7,Bool.true_and,Bool.false_and] at hr
           try unfold pntQ at h7
           try unfold c4Q at h10
           subst hr
           simp (maxSteps:=1000000) only [go_sem,Nat.reduceEqDiff,Nat.reduceAdd,Nat.reduceSub,Nat.reduceMul,Nat.reduceLT,Nat.reduceLeDiff,Int.reducePow,Int.reduceBEq,Int.reduceBNe,Int.reduceDiv,Int.reduceMod,Int.reduceEq,Int.reduceLT,Int.reduceLE,Int.reduceAdd,Int.reduceSub,Int.reduceMul,Int.reduceNeg,Int.reduceToNat,Int.reduceTDiv,Int.reduceTMod,↓reduceIte,t2,t3,t99,t100,df (show ¬ (i:Int)<(x.dash.length:Int) by omega),g0,g1,h1,h2,h3,h4,h5,h6,h7]
           repeat ((first|refine(c1).x ?_|refine(c2).x ?_|refine(c3).x ?_|refine(c4).x ?_|refine(c5).x ?_|refine drawnF ?_ (by decide +kernel)|refine drawnU [(5,12),(6,12),(7,12),(8,12),(9,12)] (by decide +kernel) ?_);simp (maxSteps:=1000000) only [go_sem,Nat.reduceEqDiff,Nat.reduceAdd,Nat.reduceSub,Nat.reduceMul,Nat.reduceLT,Nat.reduceLeDiff,Int.reducePow,Int.reduceBEq,Int.reduceBNe,Int.reduceDiv,Int.reduceMod,Int.reduceEq,Int.reduceLT,Int.reduceLE,Int.reduceAdd,Int.reduceSub,Int.reduceMul,Int.reduceNeg,Int.reduceToNat,Int.reduceTDiv,Int.reduceTMod,↓reduceIte,t2,t3,g0,g1,h1,h2,h3,h4,h5,h6,h7])
          | true=>
           cases h8:(x.stroke==y.stroke) with
           | false=>
            simp only[h1,h2,h3,h4,h5,h6,h7,h8,Bool.true_and,Bool.false_and] at hr
            try unfold pntQ at h7
            try unfold c4Q at h10
            subst hr
            simp (maxSteps:=1000000) only [go_sem,Nat.reduceEqDiff,Nat.reduceAdd,Nat.reduceSub,Nat.reduceMul,Nat.reduceLT,Nat.reduceLeDiff,Int.reducePow,Int.reduceBEq,Int.reduceBNe,Int.reduceDiv,Int.reduceMod,Int.reduceEq,Int.reduceLT,Int.reduceLE,Int.reduceAdd,Int.reduceSub,Int.reduceMul,Int.reduceNeg,Int.reduceToNat,Int.reduceTDiv,Int.reduceTMod,↓reduceIte,t2,t3,t99,t100,df (show ¬ (i:Int)<(x.dash.length:Int) by omega),g0,g1,h1,h2,h3,h4,h5,h6,h7,h8]
            repeat ((first|refine(c1).x ?_|refine(c2).x ?_|refine(c3).x ?_|refine(c4).x ?_|refine(c5).x ?_|refine drawnF ?_ (by decide +kernel)|refine drawnU [(5,12),(6,12),(7,12),(8,12),(9,12)] (by decide +kernel) ?_);simp (maxSteps:=1000000) only [go_sem,Nat.reduceEqDiff,Nat.reduceAdd,Nat.reduceSub,Nat.reduceMul,Nat.reduceLT,Nat.reduceLeDiff,Int.reducePow,Int.reduceBEq,Int.reduceBNe,Int.reduceDiv,Int.reduceMod,Int.reduceEq,Int.reduceLT,Int.reduceLE,Int.reduceAdd,Int.reduceSub,Int.reduceMul,Int.reduceNeg,Int.reduceToNat,Int.reduceTDiv,Int.reduceTMod,↓reduceIte,t2,t3,g0,g1,h1,h2,h3,h4,h5,h6,h7,h8])
           | true=>
            cases h9:p3 with
            | false=>
             simp only[h1,h2,h3,h4,h5,h6,h7,h8,h9,Bool.true_and,Bool.false_and] at hr
             try unfold pntQ at h7
             try unfold c4Q at h10
             subst hr
             simp (maxSteps:=1000000) only [go_sem,Nat.reduceEqDiff,Nat.reduceAdd,Nat.reduceSub,Nat.reduceMul,Nat.reduceLT,Nat.reduceLeDiff,Int.reducePow,Int.reduceBEq,Int.reduceBNe,Int.reduceDiv,Int.reduceMod,Int.reduceEq,Int.reduceLT,Int.reduceLE,Int.reduceAdd,Int.reduceSub,Int.reduceMul,Int.reduceNeg,Int.reduceToNat,Int.reduceTDiv,Int.reduceTMod,↓reduceIte,t2,t3,t99,t100,df (show ¬ (i:Int)<(x.dash.length:Int) by omega),g0,g1,h1,h2,h3,h4,h5,h6,h7,h8,h9]
             repeat ((first|refine(c1).x ?_|refine(c2).x ?_|refine(c3).x ?_|refine(c4).x ?_|refine(c5).x ?_|refine drawnF ?_ (by decide +kernel)|refine drawnU [(5,12),(6,12),(7,12),(8,12),(9,12)] (by decide +kernel) ?_);simp (maxSteps:=1000000) only [go_sem,Nat.reduceEqDiff,Nat.reduceAdd,Nat.reduceSub,Nat.reduceMul,Nat.reduceLT,Nat.reduceLeDiff,Int.reducePow,Int.reduceBEq,Int.reduceBNe,Int.reduceDiv,Int.reduceMod,Int.reduceEq,Int.reduceLT,Int.reduceLE,Int.reduceAdd,Int.reduceSub,Int.reduceMul,Int.reduceNeg,Int.reduceToNat,Int.reduceTDiv,Int.reduceTMod,↓reduceIte,t2,t3,g0,g1,h1,h2,h3,h4,h5,h6,h7,h8,h9])
            | true=>
             cases h10:c4Q x.line y.line with
             | false=>
              simp only[h1,h2,h3,h4,h5,h6,h7,h8,h9,h10,Bool.true_and,Bool.false_and] at hr
              try unfold pntQ at h7
              try unfold c4Q at h10
              subst hr
              simp (maxSteps:=1000000) only [go_sem,Nat.reduceEqDiff,Nat.reduceAdd,Nat.reduceSub,Nat.reduceMul,Nat.reduceLT,Nat.reduceLeDiff,Int.reducePow,Int.reduceBEq,Int.reduceBNe,Int.reduceDiv,Int.reduceMod,Int.reduceEq,Int.reduceLT,Int.reduceLE,Int.reduceAdd,Int.reduceSub,Int.reduceMul,Int.reduceNeg,Int.reduceToNat,Int.reduceTDiv,Int.reduceTMod,↓reduceIte,t2,t3,t99,t100,df (show ¬ (i:Int)<(x.dash.length:Int) by omega),g0,g1,h1,h2,h3,h4,h5,h6,h7,h8,h9,h10]
              repeat ((first|refine(c1).x ?_|refine(c2).x ?_|refine(c3).x ?_|refine(c4).x ?_|refine(c5).x ?_|refine drawnF ?_ (by decide +kernel)|refine drawnU [(5,12),(6,12),(7,12),(8,12),(9,12)] (by decide +kernel) ?_);simp (maxSteps:=1000000) only [go_sem,Nat.reduceEqDiff,Nat.reduceAdd,Nat.reduceSub,Nat.reduceMul,Nat.reduceLT,Nat.reduceLeDiff,Int.reducePow,Int.reduceBEq,Int.reduceBNe,Int.reduceDiv,Int.reduceMod,Int.reduceEq,Int.reduceLT,Int.reduceLE,Int.reduceAdd,Int.reduceSub,Int.reduceMul,Int.reduceNeg,Int.reduceToNat,Int.reduceTDiv,Int.reduceTMod,↓reduceIte,t2,t3,g0,g1,h1,h2,h3,h4,h5,h6,h7,h8,h9,h10])
             | true=>
              cases h11:(x.cap==y.cap) with
              | false=>
               simp only[h1,h2,h3,h4,h5,h6,h7,h8,h9,h10,h11,Bool.true_and,Bool.false_and] at hr
               try unfold pntQ at h7
               try unfold c4Q at h10
               subst hr
               simp (maxSteps:=1000000) only [go_sem,Nat.reduceEqDiff,Nat.reduceAdd,Nat.reduceSub,Nat.reduceMul,Nat.reduceLT,Nat.reduceLeDiff,Int.reducePow,Int.reduceBEq,Int.reduceBNe,Int.reduceDiv,Int.reduceMod,Int.reduceEq,Int.reduceLT,Int.reduceLE,Int.reduceAdd,Int.reduceSub,Int.reduceMul,Int.reduceNeg,Int.reduceToNat,Int.reduceTDiv,Int.reduceTMod,↓reduceIte,t2,t3,t99,t100,df (show ¬ (i:Int)<(x.dash.length:Int) by omega),g0,g1,h1,h2,h3,h4,h5,h6,h7,h8,h9,h10,h11]
               repeat ((first|refine(c1).x ?_|refine(c2).x ?_|refine(c3).x ?_|refine(c4).x ?_|refine(c5).x ?_|refine drawnF ?_ (by decide +kernel)|refine drawnU [(5,12),(6,12),(7,12),(8,12),(9,12)] (by decide +kernel) ?_);simp (maxSteps:=1000000) only [go_sem,Nat.reduceEqDiff,Nat.reduceAdd,Nat.reduceSub,Nat.reduceMul,Nat.reduceLT,Nat.reduceLeDiff,Int.reducePow,Int.reduceBEq,Int.reduceBNe,Int.reduceDiv,Int.reduceMod,Int.reduceEq,Int.reduceLT,Int.reduceLE,Int.reduceAdd,Int.reduceSub,Int.reduceMul,Int.reduceNeg,Int.reduceToNat,Int.reduceTDiv,Int.reduceTMod,↓reduceIte,t2,t3,g0,g1,h1,h2,h3,h4,h5,h6,h7,h8,h9,h10,h11])
              | true=>
               cases h12:p4 with
               | false=>
                simp only[h1,h2,h3,h4,h5,h6,h7,h8,h9,h10,h11,h12,Bool.true_and,Bool.false_and] at hr
                try unfold pntQ at h7
                try unfold c4Q at h10
                subst hr
                simp (maxSteps:=1000000) only [go_sem,Nat.reduceEqDiff,Nat.reduceAdd,Nat.reduceSub,Nat.reduceMul,Nat.reduceLT,Nat.reduceLeDiff,Int.reducePow,Int.reduceBEq,Int.reduceBNe,Int.reduceDiv,Int.reduceMod,Int.reduceEq,Int.reduceLT,Int.reduceLE,Int.reduceAdd,Int.reduceSub,Int.reduceMul,Int.reduceNeg,Int.reduceToNat,Int.reduceTDiv,Int.reduceTMod,↓reduceIte,t2,t3,t99,t100,df (show ¬ (i:Int)<(x.dash.length:Int) by omega),g0,g1,h1,h2,h3,h4,h5,h6,h7,h8,h9,h10,h11,h12]
                repeat ((first|refine(c1).x ?_|refine(c2).x ?_|refine(c3).x ?_|refine(c4).x ?_|refine(c5).x ?_|refine drawnF ?_ (by decide +kernel)|refine drawnU [(5,12),(6,12),(7,12),(8,12),(9,12)] (by decide +kernel) ?_);simp (maxSteps:=1000000) only [go_sem,Nat.reduceEqDiff,Nat.reduceAdd,Nat.reduceSub,Nat.reduceMul,Nat.reduceLT,Nat.reduceLeDiff,Int.reducePow,Int.reduceBEq,Int.reduceBNe,Int.reduceDiv,Int.reduceMod,Int.reduceEq,Int.reduceLT,Int.reduceLE,Int.reduceAdd,Int.reduceSub,Int.reduceMul,Int.reduceNeg,Int.reduceToNat,Int.reduceTDiv,Int.reduceTMod,↓reduceIte,t2,t3,g0,g1,h1,h2,h3,h4,h5,h6,h7,h8,h9,h10,h11,h12])
               | true=>
                cases h13:p5 with
                | false=>
                 simp only[h1,h2,h3,h4,h5,h6,h7,h8,h9,h10,h11,h12,h13,Bool.true_and,Bool.false_and] at hr
                 try unfold pntQ at h7
                 try unfold c4Q at h10
                 subst hr
                 simp (maxSteps:=1000000) only [go_sem,Nat.reduceEqDiff,Nat.reduceAdd,Nat.reduceSub,Nat.reduceMul,Nat.reduceLT,Nat.reduceLeDiff,Int.reducePow,Int.reduceBEq,Int.reduceBNe,Int.reduceDiv,Int.reduceMod,Int.reduceEq,Int.reduceLT,Int.reduceLE,Int.reduceAdd,Int.reduceSub,Int.reduceMul,Int.reduceNeg,Int.reduceToNat,Int.reduceTDiv,Int.reduceTMod,↓reduceIte,t2,t3,t99,t100,df (show ¬ (i:Int)<(x.dash.length:Int) by omega),g0,g1,h1,h2,h3,h4,h5,h6,h7,h8,h9,h10,h11,h12,h13]
                 repeat ((first|refine(c1).x ?_|refine(c2).x ?_|refine(c3).x ?_|refine(c4).x ?_|refine(c5).x ?_|refine drawnF ?_ (by decide +kernel)|refine drawnU [(5,12),(6,12),(7,12),(8,12),(9,12)] (by decide +kernel) ?_);simp (maxSteps:=1000000) only [go_sem,Nat.reduceEqDiff,Nat.reduceAdd,Nat.reduceSub,Nat.reduceMul,Nat.reduceLT,Nat.reduceLeDiff,Int.reducePow,Int.reduceBEq,Int.reduceBNe,Int.reduceDiv,Int.reduceMod,Int.reduceEq,Int.reduceLT,Int.reduceLE,Int.reduceAdd,Int.reduceSub,Int.reduceMul,Int.reduceNeg,Int.reduceToNat,Int.reduceTDiv,Int.reduceTMod,↓reduceIte,t2,t3,g0,g1,h1,h2,h3,h4,h5,h6,h7,h8,h9,h10,h11,h12,h13])
                | true=>
                 simp only[h1,h2,h3,h4,h5,h6,h7,h8,h9,h10,h11,h12,h13,Bool.true_and,Bool.false_and] at hr
                 try unfold pntQ at h7
                 try unfold c4Q at h10
                 subst hr
                 simp (maxSteps:=1000000) only [go_sem,Nat.reduceEqDiff,Nat.reduceAdd,Nat.reduceSub,Nat.reduceMul,Nat.reduceLT,Nat.reduceLeDiff,Int.reducePow,Int.reduceBEq,Int.reduceBNe,Int.reduceDiv,Int.reduceMod,Int.reduceEq,Int.reduceLT,Int.reduceLE,Int.reduceAdd,Int.reduceSub,Int.reduceMul,Int.reduceNeg,Int.reduceToNat,Int.reduceTDiv,Int.reduceTMod,↓reduceIte,t2,t3,t99,t100,df (show ¬ (i:Int)<(x.dash.length:Int) by omega),g0,g1,h1,h2,h3,h4,h5,h6,h7,h8,h9,h10,h11,h12,h13]
                 repeat ((first|refine(c1).x ?_|refine(c2).x ?_|refine(c3).x ?_|refine(c4).x ?_|refine(c5).x ?_|refine drawnF ?_ (by decide +kernel)|refine drawnU [(5,12),(6,12),(7,12),(8,12),(9,12)] (by decide +kernel) ?_);simp (maxSteps:=1000000) only [go_sem,Nat.reduceEqDiff,Nat.reduceAdd,Nat.reduceSub,Nat.reduceMul,Nat.reduceLT,Nat.reduceLeDiff,Int.reducePow,Int.reduceBEq,Int.reduceBNe,Int.reduceDiv,Int.reduceMod,Int.reduceEq,Int.reduceLT,Int.reduceLE,Int.reduceAdd,Int.reduceSub,Int.reduceMul,Int.reduceNeg,Int.reduceToNat,Int.reduceTDiv,Int.reduceTMod,↓reduceIte,t2,t3,g0,g1,h1,h2,h3,h4,h5,h6,h7,h8,h9,h10,h11,h12,h13])
end Go.Proofs.YthhbglkokpablaaGreat
/- Documents: the walk of mutoscoperef18.Same. -/
namespace Go.Proofs.YthhbglkokpablaaGreat
open Go Go.RowKit E
theorem xcutC {P:Program} {sz n0:Nat} {T:Env} {H:AH} {D:List Nat} {q:WPost} {c b:Code} (R:Env→AH→List Nat→Prop) (h1:@XCode P sz n0 c T H D ⟨fun o T' H' D'=>o=.norm∧R T' H' D'⟩) (h2:∀ T' H' D',R T' H' D'→@XCode P sz n0 b T' H' D' ⟨q⟩):@XCode P sz n0 c T H D ⟨WSeq (fun T H D Q=>WCode P sz n0 b T H D Q) q⟩:=by
 show WCode P sz n0 c T H D _
 refine WCode.mono h1 fun o T' H' D' ⟨ho,r⟩=>?_
 subst ho
 exact h2 T' H' D' r
attribute [local irreducible] XRun XOps XCode XCal XLoop XQ SemCall
set_option linter.unusedSimpArgs false
set_option linter.unusedVariables false
theorem rkeysR_ (l:Ly) (v0 v1 v2 v3 v4 v5 v6 v7 v8 pm vw vh vp vc vd vda vf vt:Value) (H:AH) (h:LyV H l v0 v1 v2 v3 v4 v5 v6 v7 v8 pm):Cal Tryz.prog 40 [.agg (lyVs l v0 v1 v2 v3 v4 v5 v6 v7 v8 pm vw vh vp vc vd vda vf vt).toArray] H fun v' H' W=>W=[]∧(∃ L,H'=H++L)∧RowOf 1 KsE H' v' l.keys:=by
 refine adds_of ?_
 obtain⟨a0,e0,rfl⟩:=h.x.form
 obtain⟨a1,e1,rfl⟩:=h.y.form
 obtain⟨a2,e2,rfl⟩:=h.ax.form
 obtain⟨a3,e3,rfl⟩:=h.ay.form
 obtain⟨a4,e4,rfl⟩:=h.sx.form
 obtain⟨a5,e5,rfl⟩:=h.sy.form
 obtain⟨a6,e6,rfl⟩:=h.turn.form
 obtain⟨a7,e7,rfl⟩:=h.opac.form
 obtain⟨a8,e8,rfl⟩:=h.remap.form
 refine XCal.of hm Tryz.func40 rfl (fun xs w=>Tryz.call40 xs w) Tryz.ntmps40 Tryz.results40 rfl ?_
 (refine sg trivial ?_;try exact⟨⟩)
 refine .inr ⟨H.length+1,0,[],true,[[.slice a0 l.x.length e0],[.slice a1 l.y.length e1],[.slice a2 l.ax.length e2],[.slice a3 l.ay.length e3],[.slice a4 l.sx.length e4],[.slice a5 l.sy.length e5],[.slice a6 l.turn.length e6],[.slice a7 l.opac.length e7],[.slice a8 l.remap.length e8]],rfl,by rw[hget_app];rfl,rfl,by simp[Ly.keys],fun i x hx=>?_⟩
 have o:=fun L=>Old.app' H L
 match i,hx with
 | 0,hx=>simp[Ly.keys] at hx;subst hx;exact⟨_,rfl,rfl,_,rfl,h.x.old KyE.m (o _)⟩
 | 1,hx=>simp[Ly.keys] at hx;subst hx;exact⟨_,rfl,rfl,_,rfl,h.y.old KyE.m (o _)⟩
 | 2,hx=>simp[Ly.keys] at hx;subst hx;exact⟨_,rfl,rfl,_,rfl,h.ax.old KyE.m (o _)⟩
 | 3,hx=>simp[Ly.keys] at hx;subst hx;exact⟨_,rfl,rfl,_,rfl,h.ay.old KyE.m (o _)⟩
 | 4,hx=>simp[Ly.keys] at hx;subst hx;exact⟨_,rfl,rfl,_,rfl,h.sx.old KyE.m (o _)⟩
 | 5,hx=>simp[Ly.keys] at hx;subst hx;exact⟨_,rfl,rfl,_,rfl,h.sy.old KyE.m (o _)⟩
 | 6,hx=>simp[Ly.keys] at hx;subst hx;exact⟨_,rfl,rfl,_,rfl,h.turn.old KyE.m (o _)⟩
 | 7,hx=>simp[Ly.keys] at hx;subst hx;exact⟨_,rfl,rfl,_,rfl,h.opac.old KyE.m (o _)⟩
 | 8,hx=>simp[Ly.keys] at hx;subst hx;exact⟨_,rfl,rfl,_,rfl,h.remap.old KyE.m (o _)⟩
 | i+9,hx=>simp[Ly.keys] at hx

def lyR (x y:Ly):Bool:=(x.kind==y.kind)&&((x.parent==y.parent)&&((x.comp==y.comp)&&((x.matte==y.matte)&&((x.in_==y.in_)&&((x.out==y.out)&&((x.start==y.start)&&(plQ x.mask y.mask&&shQ x.shape y.shape)))))))
theorem lyQ_R (x y:Ly):lyQ x y=(lyR x y&&eqG (eqG kyQ) x.keys y.keys):=by
 unfold lyQ lyP lyR
 rw[Bool.eq_iff_iff]
 simp only[Bool.and_eq_true]
 constructor
 ·rintro⟨⟨⟨⟨⟨⟨⟨⟨⟨a1,a2⟩,a3⟩,a4⟩,a5⟩,a6⟩,a7⟩,b⟩,c⟩,d⟩
  exact⟨⟨a1,a2,a3,a4,a5,a6,a7,c,d⟩,b⟩
 ·rintro⟨⟨a1,a2,a3,a4,a5,a6,a7,c,d⟩,b⟩
  exact⟨⟨⟨⟨⟨⟨⟨⟨⟨a1,a2⟩,a3⟩,a4⟩,a5⟩,a6⟩,a7⟩,b⟩,c⟩,d⟩
set_option maxRecDepth 100000 in
set_option maxHeartbeats 8000000 in
theorem rdsame_ (x y:Dc) (v w:Value) (H:AH) (h:Cos H v x.comps) (h':Cos H w y.comps):SemCall Tryz.prog 17 [dcV x v,dcV y w] H (.bool (dcQ x y)) H []:=by
 refine pure_of ?_ rfl
 obtain⟨q,hq⟩:∃ q,dcQ x y=q:=⟨_,rfl⟩
 rw[hq]
 unfold dcQ at hq
 obtain⟨va,ve,hv⟩:=h.form
 subst hv
 obtain⟨wa,we,hw⟩:=h'.form
 subst hw
 have lh:=h.len
 cases h1:(x.in_==y.in_)
 case false=>
  rw[h1,Bool.false_and,Bool.false_and] at hq
  subst hq
  refine XCal.of hm Tryz.func17 rfl (fun xs w=>Tryz.call17 xs w) Tryz.ntmps17 Tryz.results17 rfl ?_
  simp only[go_sem,Nat.reduceEqDiff,Nat.reduceAdd,Nat.reduceSub,Nat.reduceMul,Nat.reduceLT,Nat.reduceLeDiff,Int.reducePow,Int.reduceBEq,Int.reduceBNe,Int.reduceDiv,Int.reduceMod,Int.reduceEq,Int.reduceLT,Int.reduceLE,Int.reduceAdd,Int.reduceSub,Int.reduceMul,Int.reduceNeg,Int.reduceToNat,Int.reduceTDiv,Int.reduceTMod,↓reduceIte,h1,bne]
 cases h2:(x.out==y.out)
 case false=>
  rw[h2,Bool.and_false,Bool.false_and] at hq
  subst hq
  refine XCal.of hm Tryz.func17 rfl (fun xs w=>Tryz.call17 xs w) Tryz.ntmps17 Tryz.results17 rfl ?_
  simp only[go_sem,Nat.reduceEqDiff,Nat.reduceAdd,Nat.reduceSub,Nat.reduceMul,Nat.reduceLT,Nat.reduceLeDiff,Int.reducePow,Int.reduceBEq,Int.reduceBNe,Int.reduceDiv,Int.reduceMod,Int.reduceEq,Int.reduceLT,Int.reduceLE,Int.reduceAdd,Int.reduceSub,Int.reduceMul,Int.reduceNeg,Int.reduceToNat,Int.reduceTDiv,Int.reduceTMod,↓reduceIte,h1,h2,bne]
 rw[h1,h2,Bool.true_and,Bool.true_and] at hq
 by_cases m1:(x.comps.length:Int)=(y.comps.length:Int)
 case neg=>
  rw[eqG_len (by omega)] at hq
  subst hq
  refine XCal.of hm Tryz.func17 rfl (fun xs w=>Tryz.call17 xs w) Tryz.ntmps17 Tryz.results17 rfl ?_
  simp only[go_sem,Nat.reduceEqDiff,Nat.reduceAdd,Nat.reduceSub,Nat.reduceMul,Nat.reduceLT,Nat.reduceLeDiff,Int.reducePow,Int.reduceBEq,Int.reduceBNe,Int.reduceDiv,Int.reduceMod,Int.reduceEq,Int.reduceLT,Int.reduceLE,Int.reduceAdd,Int.reduceSub,Int.reduceMul,Int.reduceNeg,Int.reduceToNat,Int.reduceTDiv,Int.reduceTMod,↓reduceIte,h1,h2,bne,bf m1]
 refine XCal.of hm Tryz.func17 rfl (fun xs w=>Tryz.call17 xs w) Tryz.ntmps17 Tryz.results17 rfl ?_
 simp only[go_sem,Nat.reduceEqDiff,Nat.reduceAdd,Nat.reduceSub,Nat.reduceMul,Nat.reduceLT,Nat.reduceLeDiff,Int.reducePow,Int.reduceBEq,Int.reduceBNe,Int.reduceDiv,Int.reduceMod,Int.reduceEq,Int.reduceLT,Int.reduceLE,Int.reduceAdd,Int.reduceSub,Int.reduceMul,Int.reduceNeg,Int.reduceToNat,Int.reduceTDiv,Int.reduceTMod,↓reduceIte,h1,h2,bne,bt m1]
 refine keep (fun r T K D=>D=[]∧∃ i:Nat,i+r=x.comps.length∧Old H K∧H.length+2≤K.length∧K[H.length]?=some ⟨[.int .i64 x.in_,.int .i64 x.out,.slice va x.comps.length ve],0,true⟩∧K[H.length+1]?=some ⟨[.int .i64 y.in_,.int .i64 y.out,.slice wa y.comps.length we],0,true⟩∧T 2=ap H.length 0 0∧T 3=ap (H.length+1) 0 0∧T 35=.int .i64 (x.comps.length:Int)∧T 36=.int .i64 (i:Int)∧eqG (eqG lyQ) (x.comps.drop i) (y.comps.drop i)=q) x.comps.length
  ⟨rfl,0,by omega,Old.app' _ _,by simp,by rw[hget_app0];rfl,by rw[hget_app];rfl,by(refine sg trivial ?_;try exact⟨⟩),by(refine sg trivial ?_;try exact⟨⟩),by(refine sg trivial ?_;try exact⟨⟩),by(refine sg trivial ?_;try exact⟨⟩) <;> rfl,hq⟩ ?_
 clear hq h1 h2
 rintro r T K D ⟨rfl,i,hir,hold,hKl,g0,g1,t2,t3,t35,t36,hr⟩
 have kd:∀ n,decide (K.length+n<H.length)=false:=fun n=>df (by omega)
 have kd0:decide (K.length<H.length)=false:=df (by omega)
 by_cases hi:i<x.comps.length
 case neg=>
  rw[List.drop_eq_nil_of_le (by omega),List.drop_eq_nil_of_le (by omega)] at hr
  (refine sg (et t2 (et t3 (et t35 (et t36 (df (show ¬ (i:Int)<(x.comps.length:Int) by omega)))))) ?_;try exact⟨⟩)
  rw[← hr];rfl
 obtain⟨c,hx⟩:∃ c,x.comps[i]?=some c:=⟨_,List.getElem?_eq_getElem hi⟩
 obtain⟨e,hy⟩:∃ e,y.comps[i]?=some e:=⟨_,List.getElem?_eq_getElem (by omega)⟩
 obtain⟨b,g,cells,rw_,cc,hve,hb,⟨lv,hc,hlv⟩,hcl,hle,hld,hgt⟩:=h.at hx
 subst hc
 obtain⟨b',g',cells',rw',cc',hwe,hb',⟨lw,hc',hlw⟩,hcl',hle',hld',hgt'⟩:=h'.at hy
 subst hc'
 obtain⟨la,le,hlf⟩:=hlv.form
 subst hlf
 obtain⟨ma,me,hmf⟩:=hlw.form
 subst hmf
 have lc:=hlv.len
 have kb:=hold _ _ hb
 have kb':=hold _ _ hb'
 have hg:=hgt 0 (by omega)
 have hg':=hgt' 0 (by omega)
 rw[Nat.mul_one,Nat.add_zero] at hg hg'
 have hg:cells[i]?=some (.slice la c.length le):=hg
 have hg':cells'[i]?=some (.slice ma e.length me):=hg'
 have g0:=g0
 have g1:=g1
 rw[hve] at g0
 rw[hwe] at g1
 rw[drop_at hx,drop_at hy,eqG] at hr
 have i1:IntKind.i64.wrap ((i:Int)+1)=((i+1:Nat):Int):=by rw[wi (by omega) (by omega)];rfl
 have q0:(0:Int)≤(i:Int):=by omega
 have q1:(i:Int)<(x.comps.length:Int):=by omega
 have q2:(i:Int)<(y.comps.length:Int):=by omega
 by_cases m2:(c.length:Int)=(e.length:Int)
 case neg=>
  rw[eqG_len (l:=c) (by omega),Bool.false_and] at hr
  subst hr
  (refine sg (et t2 (et t3 (et t35 (et t36 (dt q1))))) ?_;try exact⟨⟩)
  repeat ((first|refine drawnF ?_ (by decide +kernel)|refine drawnU [(9,20),(10,20),(11,20),(12,20),(13,20),(14,20),(15,20),(16,20),(17,20)] (by decide +kernel) ?_|refine drawnU [(1,2)] (by decide +kernel) ?_);(refine sg (et t2 (et t3 (et t35 (et t36 (et q0 (et q1 (et q2 (et Int.toNat_natCast (et Nat.zero_add (et Nat.mul_one (et Nat.add_zero (et g0 (et g1 (et kb (et kb' (et hg (et hg' (et kd (et kd0 (nf m2)))))))))))))))))))) ?_;try exact⟨⟩))
 (refine sg (et t2 (et t3 (et t35 (et t36 (dt q1))))) ?_;try exact⟨⟩)
 repeat ((first|refine drawnF ?_ (by decide +kernel)|refine drawnU [(9,20),(10,20),(11,20),(12,20),(13,20),(14,20),(15,20),(16,20),(17,20)] (by decide +kernel) ?_|refine drawnU [(1,2)] (by decide +kernel) ?_);(refine sg (et t2 (et t3 (et t35 (et t36 (et q0 (et q1 (et q2 (et Int.toNat_natCast (et Nat.zero_add (et Nat.mul_one (et Nat.add_zero (et g0 (et g1 (et kb (et kb' (et hg (et hg' (et kd (et kd0 (nt m2)))))))))))))))))))) ?_;try exact⟨⟩))
 refine keep (fun r T K' D=>D=[]∧∃ j:Nat,j+r=c.length∧Old K K'∧K.length≤K'.length∧T 2=ap H.length 0 0∧T 3=ap (H.length+1) 0 0∧T 35=.int .i64 (x.comps.length:Int)∧T 36=.int .i64 (i:Int)∧T 5=.int .i64 (i:Int)∧T 60=.int .i64 (c.length:Int)∧T 61=.int .i64 (j:Int)∧(eqG lyQ (c.drop j) (e.drop j)&&eqG (eqG lyQ) (x.comps.drop (i+1)) (y.comps.drop (i+1)))=q) c.length
  ⟨rfl,0,by omega,Old.refl _,by omega,by(refine sg t2 ?_;try exact⟨⟩),by(refine sg t3 ?_;try exact⟨⟩),by(refine sg t35 ?_;try exact⟨⟩),by(refine sg t36 ?_;try exact⟨⟩),by(refine sg trivial ?_;try exact⟨⟩),by(refine sg trivial ?_;try exact⟨⟩),by(refine sg trivial ?_;try exact⟨⟩) <;> rfl,hr⟩ ?_
 clear hr t2 t3 t35 t36
 rintro r2 T K' D ⟨rfl,j,hjr,hold2,hKl2,t2,t3,t35,t36,t5,t60,t61,hr⟩
 have g0:=hold2 _ _ g0
 have g1:=hold2 _ _ g1
 have kb:=hold2 _ _ kb
 have kb':=hold2 _ _ kb'
 have kd:∀ n,decide (K'.length+n<H.length)=false:=fun n=>df (by omega)
 have kd0:decide (K'.length<H.length)=false:=df (by omega)
 have hO:=hold.trans hold2
 by_cases hj:j<c.length
 case neg=>
  rw[List.drop_eq_nil_of_le (by omega),List.drop_eq_nil_of_le (by omega)] at hr
  have hr:(true&&eqG (eqG lyQ) (x.comps.drop (i+1)) (y.comps.drop (i+1)))=q:=hr
  rw[Bool.true_and] at hr
  rw[← hve] at g0
  rw[← hwe] at g1
  (refine sg (et t2 (et t3 (et t35 (et t36 (et t5 (et t60 (et t61 (et (df (show ¬ (j:Int)<(c.length:Int) by omega)) i1)))))))) ?_;try exact⟨⟩)
  exact⟨r - 1,by omega,i+1,by omega,hO,by omega,g0,g1,rfl,hr⟩
 obtain⟨a,hxj⟩:∃ a,c[j]?=some a:=⟨_,List.getElem?_eq_getElem hj⟩
 obtain⟨f,hyj⟩:∃ f,e[j]?=some f:=⟨_,List.getElem?_eq_getElem (by omega)⟩
 obtain⟨b2,g2,cells2,rw2,c2,hve2,hb2,⟨v0,v1,v2,v3,v4,v5,v6,v7,v8,pm,vw,vh,vp,vc,vd,vda,vf,vt,rfl,hLV,hSV⟩,hcl2,hle2,hld2,hgt2⟩:=hlv.at hxj
 obtain⟨b3,g3,cells3,rw3,c3,hwe3,hb3,⟨w0,w1,w2,w3,w4,w5,w6,w7,w8,qm,ww,wh,wp,wc,wd,wda,wf,wt,rfl,hLW,hSW⟩,hcl3,hle3,hld3,hgt3⟩:=hlw.at hyj
 rw[hve2] at hg
 rw[hwe3] at hg'
 have kb2:=hO _ _ hb2
 have kb3:=hO _ _ hb3
 rw[drop_at hxj,drop_at hyj,eqG,lyQ_R] at hr
 have j1:IntKind.i64.wrap ((j:Int)+1)=((j+1:Nat):Int):=by rw[wi (by omega) (by omega)];rfl
 have p0:(0:Int)≤(j:Int):=by omega
 have p1:(j:Int)<(c.length:Int):=by omega
 have p2:(j:Int)<(e.length:Int):=by omega
 obtain⟨R,hR⟩:∃ R,(eqG lyQ (c.drop (j+1)) (e.drop (j+1))&&eqG (eqG lyQ) (x.comps.drop (i+1)) (y.comps.drop (i+1)))=R:=⟨_,rfl⟩
 rw[Bool.and_assoc,hR,Bool.and_assoc] at hr
 have b2l:=(List.getElem?_eq_some_iff.1 hb2).1
 have b3l:=(List.getElem?_eq_some_iff.1 hb3).1
 have bl:=(List.getElem?_eq_some_iff.1 hb).1
 have bl':=(List.getElem?_eq_some_iff.1 hb').1
 have nn:∀ z,z<H.length+2→(K'.length=z)=False∧(K'.length+1=z)=False:=fun z hz=>⟨eq_false (by omega),eq_false (by omega)⟩
 (refine sg (et t2 (et t3 (et t35 (et t36 (et t5 (et t60 (et t61 (dt p1)))))))) ?_;try exact⟨⟩)
 refine xcutC (fun T K2 D=>D=[]∧K2=K'++[⟨lyVs a v0 v1 v2 v3 v4 v5 v6 v7 v8 pm vw vh vp vc vd vda vf vt,0,true⟩,⟨lyVs f w0 w1 w2 w3 w4 w5 w6 w7 w8 qm ww wh wp wc wd wda wf wt,0,true⟩]∧T 2=ap H.length 0 0∧T 3=ap (H.length+1) 0 0∧T 35=.int .i64 (x.comps.length:Int)∧T 36=.int .i64 (i:Int)∧T 5=.int .i64 (i:Int)∧T 60=.int .i64 (c.length:Int)∧T 61=.int .i64 (j:Int)∧T 7=ap K'.length 0 0∧T 8=ap (K'.length+1) 0 0) ?_ ?_
 ·first|refine drawnF ?_ (by decide +kernel)|refine drawnU [(9,20),(10,20),(11,20),(12,20),(13,20),(14,20),(15,20),(16,20),(17,20)] (by decide +kernel) ?_
  simp only[go_sem,Nat.reduceEqDiff,Nat.reduceAdd,Nat.reduceSub,Nat.reduceMul,Nat.reduceLT,Nat.reduceLeDiff,Int.reducePow,Int.reduceBEq,Int.reduceBNe,Int.reduceDiv,Int.reduceMod,Int.reduceEq,Int.reduceLT,Int.reduceLE,Int.reduceAdd,Int.reduceSub,Int.reduceMul,Int.reduceNeg,Int.reduceToNat,Int.reduceTDiv,Int.reduceTMod,↓reduceIte,t2,t3,t35,t36,t5,t60,t61,q0,q1,q2,p0,p1,p2,Int.toNat_natCast,Nat.zero_add,Nat.mul_one,Nat.add_zero,g0,g1,kb,kb',hg,hg',kb2,kb3,old_get kb3,hld2,hld3,kd,kd0,(nn _ (show b<H.length+2 by omega)).1,(nn _ (show b<H.length+2 by omega)).2,(nn _ (show b'<H.length+2 by omega)).1,(nn _ (show b'<H.length+2 by omega)).2,(nn _ (show b2<H.length+2 by omega)).1,(nn _ (show b2<H.length+2 by omega)).2,(nn _ (show b3<H.length+2 by omega)).1,(nn _ (show b3<H.length+2 by omega)).2,(nn _ (show H.length<H.length+2 by omega)).1,(nn _ (show H.length<H.length+2 by omega)).2,(nn _ (show H.length+1<H.length+2 by omega)).1,(nn _ (show H.length+1<H.length+2 by omega)).2]
 clear t2 t3 t35 t36 t5 t60 t61 nn
 rintro T K2 D ⟨rfl,hK2,t2,t3,t35,t36,t5,t60,t61,t7,t8⟩
 have o2:Old K' K2:=by rw[hK2];exact Old.app' _ _
 have k0:K2[K'.length]?=some ⟨lyVs a v0 v1 v2 v3 v4 v5 v6 v7 v8 pm vw vh vp vc vd vda vf vt,0,true⟩:=by rw[hK2,hget_app0];rfl
 have k1:K2[K'.length+1]?=some ⟨lyVs f w0 w1 w2 w3 w4 w5 w6 w7 w8 qm ww wh wp wc wd wda wf wt,0,true⟩:=by rw[hK2,hget_app];rfl
 have hl2:K'.length+2=K2.length:=by rw[hK2];simp
 clear hK2
 have hO2:=hO.trans o2
 have c2:=rpsame_ a.mask f.mask pm qm K2 ((hLV.old hO2).mask) ((hLW.old hO2).mask)
 have c3:=rsshape_ a.shape f.shape vw vh vp vc vd vda vf vt ww wh wp wc wd wda wf wt K2 (hSV.old hO2) (hSW.old hO2)
 obtain⟨P,hP⟩:∃ P,lyR a f=P:=⟨_,rfl⟩
 rw[hP] at hr
 refine wcode_cut (fun T J D=>D=[]∧J=K2∧T 2=ap H.length 0 0∧T 3=ap (H.length+1) 0 0∧T 35=.int .i64 (x.comps.length:Int)∧T 36=.int .i64 (i:Int)∧T 5=.int .i64 (i:Int)∧T 60=.int .i64 (c.length:Int)∧T 61=.int .i64 (j:Int)∧T 7=ap K'.length 0 0∧T 8=ap (K'.length+1) 0 0∧P=true) ?_ ?_
 ·unfold lyR at hP
  generalize plQ a.mask f.mask=P1 at *
  generalize shQ a.shape f.shape=P2 at *
  cases h1:(a.kind==f.kind) with
  | false=>
   simp only[h1,Bool.true_and,Bool.and_true,Bool.false_and,Bool.and_false] at hP
   subst hP
   simp only[Bool.true_and,Bool.false_and] at hr
   try subst hr
   simp (maxSteps:=1000000) only [go_sem,Nat.reduceEqDiff,Nat.reduceAdd,Nat.reduceSub,Nat.reduceMul,Nat.reduceLT,Nat.reduceLeDiff,Int.reducePow,Int.reduceBEq,Int.reduceBNe,Int.reduceDiv,Int.reduceMod,Int.reduceEq,Int.reduceLT,Int.reduceLE,Int.reduceAdd,Int.reduceSub,Int.reduceMul,Int.reduceNeg,Int.reduceToNat,Int.reduceTDiv,Int.reduceTMod,↓reduceIte,t2,t3,t35,t36,t5,t60,t61,t7,t8,k0,k1,bne,h1]
   repeat ((first|refine(c2).x ?_|refine(c3).x ?_|refine drawnF ?_ (by decide +kernel)|refine drawnU [(9,20),(10,20),(11,20),(12,20),(13,20),(14,20),(15,20),(16,20),(17,20)] (by decide +kernel) ?_|refine drawnU [(1,2)] (by decide +kernel) ?_);simp (maxSteps:=1000000) only [go_sem,Nat.reduceEqDiff,Nat.reduceAdd,Nat.reduceSub,Nat.reduceMul,Nat.reduceLT,Nat.reduceLeDiff,Int.reducePow,Int.reduceBEq,Int.reduceBNe,Int.reduceDiv,Int.reduceMod,Int.reduceEq,Int.reduceLT,Int.reduceLE,Int.reduceAdd,Int.reduceSub,Int.reduceMul,Int.reduceNeg,Int.reduceToNat,Int.reduceTDiv,Int.reduceTMod,↓reduceIte,t2,t3,t35,t36,t5,t60,t61,t7,t8,k0,k1,bne,h1])
  | true=>
   cases h2:(a.parent==f.parent) with
   | false=>
    simp only[h1,h2,Bool.true_and,Bool.and_true,Bool.false_and,Bool.and_false] at hP
    subst hP
    simp only[Bool.true_and,Bool.false_and] at hr
    try subst hr
    simp (maxSteps:=1000000) only [go_sem,Nat.reduceEqDiff,Nat.reduceAdd,Nat.reduceSub,Nat.reduceMul,Nat.reduceLT,Nat.reduceLeDiff,Int.reducePow,Int.reduceBEq,Int.reduceBNe,Int.reduceDiv,Int.reduceMod,Int.reduceEq,Int.reduceLT,Int.reduceLE,Int.reduceAdd,Int.reduceSub,Int.reduceMul,Int.reduceNeg,Int.reduceToNat,Int.reduceTDiv,Int.reduceTMod,↓reduceIte,t2,t3,t35,t36,t5,t60,t61,t7,t8,k0,k1,bne,h1,h2]
    repeat ((first|refine(c2).x ?_|refine(c3).x ?_|refine drawnF ?_ (by decide +kernel)|refine drawnU [(9,20),(10,20),(11,20),(12,20),(13,20),(14,20),(15,20),(16,20),(17,20)] (by decide +kernel) ?_|refine drawnU [(1,2)] (by decide +kernel) ?_);simp (maxSteps:=1000000) only [go_sem,Nat.reduceEqDiff,Nat.reduceAdd,Nat.reduceSub,Nat.reduceMul,Nat.reduceLT,Nat.reduceLeDiff,Int.reducePow,Int.reduceBEq,Int.reduceBNe,Int.reduceDiv,Int.reduceMod,Int.reduceEq,Int.reduceLT,Int.reduceLE,Int.reduceAdd,Int.reduceSub,Int.reduceMul,Int.reduceNeg,Int.reduceToNat,Int.reduceTDiv,Int.reduceTMod,↓reduceIte,t2,t3,t35,t36,t5,t60,t61,t7,t8,k0,k1,bne,h1,h2])
   | true=>
    cases h3:(a.comp==f.comp) with
    | false=>
     simp only[h1,h2,h3,Bool.true_and,Bool.and_true,Bool.false_and,Bool.and_false] at hP
     subst hP
     simp only[Bool.true_and,Bool.false_and] at hr
     try subst hr
     simp (maxSteps:=1000000) only [go_sem,Nat.reduceEqDiff,Nat.reduceAdd,Nat.reduceSub,Nat.reduceMul,Nat.reduceLT,Nat.reduceLeDiff,Int.reducePow,Int.reduceBEq,Int.reduceBNe,Int.reduceDiv,Int.reduceMod,Int.reduceEq,Int.reduceLT,Int.reduceLE,Int.reduceAdd,Int.reduceSub,Int.reduceMul,Int.reduceNeg,Int.reduceToNat,Int.reduceTDiv,Int.reduceTMod,↓reduceIte,t2,t3,t35,t36,t5,t60,t61,t7,t8,k0,k1,bne,h1,h2,h3]
     repeat ((first|refine(c2).x ?_|refine(c3).x ?_|refine drawnF ?_ (by decide +kernel)|refine drawnU [(9,20),(10,20),(11,20),(12,20),(13,20),(14,20),(15,20),(16,20),(17,20)] (by decide +kernel) ?_|refine drawnU [(1,2)] (by decide +kernel) ?_);simp (maxSteps:=1000000) only [go_sem,Nat.reduceEqDiff,Nat.reduceAdd,Nat.reduceSub,Nat.reduceMul,Nat.reduceLT,Nat.reduceLeDiff,Int.reducePow,Int.reduceBEq,Int.reduceBNe,Int.reduceDiv,Int.reduceMod,Int.reduceEq,Int.reduceLT,Int.reduceLE,Int.reduceAdd,Int.reduceSub,Int.reduceMul,Int.reduceNeg,Int.reduceToNat,Int.reduceTDiv,Int.reduceTMod,↓reduceIte,t2,t3,t35,t36,t5,t60,t61,t7,t8,k0,k1,bne,h1,h2,h3])
    | true=>
     cases h4:(a.matte==f.matte) with
     | false=>
      simp only[h1,h2,h3,h4,Bool.true_and,Bool.and_true,Bool.false_and,Bool.and_false] at hP
      subst hP
      simp only[Bool.true_and,Bool.false_and] at hr
      try subst hr
      simp (maxSteps:=1000000) only [go_sem,Nat.reduceEqDiff,Nat.reduceAdd,Nat.reduceSub,Nat.reduceMul,Nat.reduceLT,Nat.reduceLeDiff,Int.reducePow,Int.reduceBEq,Int.reduceBNe,Int.reduceDiv,Int.reduceMod,Int.reduceEq,Int.reduceLT,Int.reduceLE,Int.reduceAdd,Int.reduceSub,Int.reduceMul,Int.reduceNeg,Int.reduceToNat,Int.reduceTDiv,Int.reduceTMod,↓reduceIte,t2,t3,t35,t36,t5,t60,t61,t7,t8,k0,k1,bne,h1,h2,h3,h4]
      repeat ((first|refine(c2).x ?_|refine(c3).x ?_|refine drawnF ?_ (by decide +kernel)|refine drawnU [(9,20),(10,20),(11,20),(12,20),(13,20),(14,20),(15,20),(16,20),(17,20)] (by decide +kernel) ?_|refine drawnU [(1,2)] (by decide +kernel) ?_);simp (maxSteps:=1000000) only [go_sem,Nat.reduceEqDiff,Nat.reduceAdd,Nat.reduceSub,Nat.reduceMul,Nat.reduceLT,Nat.reduceLeDiff,Int.reducePow,Int.reduceBEq,Int.reduceBNe,Int.reduceDiv,Int.reduceMod,Int.reduceEq,Int.reduceLT,Int.reduceLE,Int.reduceAdd,Int.reduceSub,Int.reduceMul,Int.reduceNeg,Int.reduceToNat,Int.reduceTDiv,Int.reduceTMod,↓reduceIte,t2,t3,t35,t36,t5,t60,t61,t7,t8,k0,k1,bne,h1,h2,h3,h4])
     | true=>
      cases h5:(a.in_==f.in_) with
      | false=>
       simp only[h1,h2,h3,h4,h5,Bool.true_and,Bool.and_true,Bool.false_and,Bool.and_false] at hP
       subst hP
       simp only[Bool.true_and,Bool.false_and] at hr
       try subst hr
       simp (maxSteps:=1000000) only [go_sem,Nat.reduceEqDiff,Nat.reduceAdd,Nat.reduceSub,Nat.reduceMul,Nat.reduceLT,Nat.reduceLeDiff,Int.reducePow,Int.reduceBEq,Int.reduceBNe,Int.reduceDiv,Int.reduceMod,Int.reduceEq,Int.reduceLT,Int.reduceLE,Int.reduceAdd,Int.reduceSub,Int.reduceMul,Int.reduceNeg,Int.reduceToNat,Int.reduceTDiv,Int.reduceTMod,↓reduceIte,t2,t3,t35,t36,t5,t60,t61,t7,t8,k0,k1,bne,h1,h2,h3,h4,h5]
       repeat ((first|refine(c2).x ?_|refine(c3).x ?_|refine drawnF ?_ (by decide +kernel)|refine drawnU [(9,20),(10,20),(11,20),(12,20),(13,20),(14,20),(15,20),(16,20),(17,20)] (by decide +kernel) ?_|refine drawnU [(1,2)] (by decide +kernel) ?_);simp (maxSteps:=1000000) only [go_sem,Nat.reduceEqDiff,Nat.reduceAdd,Nat.reduceSub,Nat.reduceMul,Nat.reduceLT,Nat.reduceLeDiff,Int.reducePow,Int.reduceBEq,Int.reduceBNe,Int.reduceDiv,Int.reduceMod,Int.reduceEq,Int.reduceLT,Int.reduceLE,Int.reduceAdd,Int.reduceSub,Int.reduceMul,Int.reduceNeg,Int.reduceToNat,Int.reduceTDiv,Int.reduceTMod,↓reduceIte,t2,t3,t35,t36,t5,t60,t61,t7,t8,k0,k1,bne,h1,h2,h3,h4,h5])
      | true=>
       cases h6:(a.out==f.out) with
       | false=>
        simp only[h1,h2,h3,h4,h5,h6,Bool.true_and,Bool.and_true,Bool.false_and,Bool.and_false] at hP
        subst hP
        simp only[Bool.true_and,Bool.false_and] at hr
        try subst hr
        simp (maxSteps:=1000000) only [go_sem,Nat.reduceEqDiff,Nat.reduceAdd,Nat.reduceSub,Nat.reduceMul,Nat.reduceLT,Nat.reduceLeDiff,Int.reducePow,Int.reduceBEq,Int.reduceBNe,Int.reduceDiv,Int.reduceMod,Int.reduceEq,Int.reduceLT,Int.reduceLE,Int.reduceAdd,Int.reduceSub,Int.reduceMul,Int.reduceNeg,Int.reduceToNat,Int.reduceTDiv,Int.reduceTMod,↓reduceIte,t2,t3,t35,t36,t5,t60,t61,t7,t8,k0,k1,bne,h1,h2,h3,h4,h5,h6]
        repeat ((first|refine(c2).x ?_|refine(c3).x ?_|refine drawnF ?_ (by decide +kernel)|refine drawnU [(9,20),(10,20),(11,20),(12,20),(13,20),(14,20),(15,20),(16,20),(17,20)] (by decide +kernel) ?_|refine drawnU [(1,2)] (by decide +kernel) ?_);simp (maxSteps:=1000000) only [go_sem,Nat.reduceEqDiff,Nat.reduceAdd,Nat.reduceSub,Nat.reduceMul,Nat.reduceLT,Nat.reduceLeDiff,Int.reducePow,Int.reduceBEq,Int.reduceBNe,Int.reduceDiv,Int.reduceMod,Int.reduceEq,Int.reduceLT,Int.reduceLE,Int.reduceAdd,Int.reduceSub,Int.reduceMul,Int.reduceNeg,Int.reduceToNat,Int.reduceTDiv,Int.reduceTMod,↓reduceIte,t2,t3,t35,t36,t5,t60,t61,t7,t8,k0,k1,bne,h1,h2,h3,h4,h5,h6])
       | true=>
        cases h7:(a.start==f.start) with
        | false=>
         simp only[h1,h2,h3,h4,h5,h6,h7,Bool.true_and,Bool.and_true,Bool.false_and,Bool.and_false] at hP
         subst hP
         simp only[Bool.true_and,Bool.false_and] at hr
         try subst hr
         simp (maxSteps:=1000000) only [go_sem,Nat.reduceEqDiff,Nat.reduceAdd,Nat.reduceSub,Nat.reduceMul,Nat.reduceLT,Nat.reduceLeDiff,Int.reducePow,Int.reduceBEq,Int.reduceBNe,Int.reduceDiv,Int.reduceMod,Int.reduceEq,Int.reduceLT,Int.reduceLE,Int.reduceAdd,Int.reduceSub,Int.reduceMul,Int.reduceNeg,Int.reduceToNat,Int.reduceTDiv,Int.reduceTMod,↓reduceIte,t2,t3,t35,t36,t5,t60,t61,t7,t8,k0,k1,bne,h1,h2,h3,h4,h5,h6,h7]
         repeat ((first|refine(c2).x ?_|refine(c3).x ?_|refine drawnF ?_ (by decide +kernel)|refine drawnU [(9,20),(10,20),(11,20),(12,20),(13,20),(14,20),(15,20),(16,20),(17,20)] (by decide +kernel) ?_|refine drawnU [(1,2)] (by decide +kernel) ?_);simp (maxSteps:=1000000) only [go_sem,Nat.reduceEqDiff,Nat.reduceAdd,Nat.reduceSub,Nat.reduceMul,Nat.reduceLT,Nat.reduceLeDiff,Int.reducePow,Int.reduceBEq,Int.reduceBNe,Int.reduceDiv,Int.reduceMod,Int.reduceEq,Int.reduceLT,Int.reduceLE,Int.reduceAdd,Int.reduceSub,Int.reduceMul,Int.reduceNeg,Int.reduceToNat,Int.reduceTDiv,Int.reduceTMod,↓reduceIte,t2,t3,t35,t36,t5,t60,t61,t7,t8,k0,k1,bne,h1,h2,h3,h4,h5,h6,h7])
        | true=>
         cases h8:P1 with
         | false=>
          simp only[h1,h2,h3,h4,h5,h6,h7,h8,Bool.true_and,Bool.and_true,Bool.false_and,Bool.and_false] at hP
          subst hP
          simp only[Bool.true_and,Bool.false_and] at hr
          try subst hr
          simp (maxSteps:=1000000) only [go_sem,Nat.reduceEqDiff,Nat.reduceAdd,Nat.reduceSub,Nat.reduceMul,Nat.reduceLT,Nat.reduceLeDiff,Int.reducePow,Int.reduceBEq,Int.reduceBNe,Int.reduceDiv,Int.reduceMod,Int.reduceEq,Int.reduceLT,Int.reduceLE,Int.reduceAdd,Int.reduceSub,Int.reduceMul,Int.reduceNeg,Int.reduceToNat,Int.reduceTDiv,Int.reduceTMod,↓reduceIte,t2,t3,t35,t36,t5,t60,t61,t7,t8,k0,k1,bne,h1,h2,h3,h4,h5,h6,h7,h8]
          repeat ((first|refine(c2).x ?_|refine(c3).x ?_|refine drawnF ?_ (by decide +kernel)|refine drawnU [(9,20),(10,20),(11,20),(12,20),(13,20),(14,20),(15,20),(16,20),(17,20)] (by decide +kernel) ?_|refine drawnU [(1,2)] (by decide +kernel) ?_);simp (maxSteps:=1000000) only [go_sem,Nat.reduceEqDiff,Nat.reduceAdd,Nat.reduceSub,Nat.reduceMul,Nat.reduceLT,Nat.reduceLeDiff,Int.reducePow,Int.reduceBEq,Int.reduceBNe,Int.reduceDiv,Int.reduceMod,Int.reduceEq,Int.reduceLT,Int.reduceLE,Int.reduceAdd,Int.reduceSub,Int.reduceMul,Int.reduceNeg,Int.reduceToNat,Int.reduceTDiv,Int.reduceTMod,↓reduceIte,t2,t3,t35,t36,t5,t60,t61,t7,t8,k0,k1,bne,h1,h2,h3,h4,h5,h6,h7,h8])
         | true=>
          cases h9:P2 with
          | false=>
           simp only[h1,h2,h3,h4,h5,h6,h7,h8,h9,Bool.true_and,Bool.and_true,Bool.false_and,Bool.and_false] at hP
           subst hP
           simp only[Bool.true_and,Bool.false_and] at hr
           try subst hr
           simp (maxSteps:=1000000) only [go_sem,Nat.reduceEqDiff,Nat.reduceAdd,Nat.reduceSub,Nat.reduceMul,Nat.reduceLT,Nat.reduceLeDiff,Int.reducePow,Int.reduceBEq,Int.reduceBNe,Int.reduceDiv,Int.reduceMod,Int.reduceEq,Int.reduceLT,Int.reduceLE,Int.reduceAdd,Int.reduceSub,Int.reduceMul,Int.reduceNeg,Int.reduceToNat,Int.reduceTDiv,Int.reduceTMod,↓reduceIte,t2,t3,t35,t36,t5,t60,t61,t7,t8,k0,k1,bne,h1,h2,h3,h4,h5,h6,h7,h8,h9]
           repeat ((first|refine(c2).x ?_|refine(c3).x ?_|refine drawnF ?_ (by decide +kernel)|refine drawnU [(9,20),(10,20),(11,20),(12,20),(13,20),(14,20),(15,20),(16,20),(17,20)] (by decide +kernel) ?_|refine drawnU [(1,2)] (by decide +kernel) ?_);simp (maxSteps:=1000000) only [go_sem,Nat.reduceEqDiff,Nat.reduceAdd,Nat.reduceSub,Nat.reduceMul,Nat.reduceLT,Nat.reduceLeDiff,Int.reducePow,Int.reduceBEq,Int.reduceBNe,Int.reduceDiv,Int.reduceMod,Int.reduceEq,Int.reduceLT,Int.reduceLE,Int.reduceAdd,Int.reduceSub,Int.reduceMul,Int.reduceNeg,Int.reduceToNat,Int.reduceTDiv,Int.reduceTMod,↓reduceIte,t2,t3,t35,t36,t5,t60,t61,t7,t8,k0,k1,bne,h1,h2,h3,h4,h5,h6,h7,h8,h9])
          | true=>
           simp only[h1,h2,h3,h4,h5,h6,h7,h8,h9,Bool.true_and,Bool.and_true,Bool.false_and,Bool.and_false] at hP
           subst hP
           simp only[Bool.true_and,Bool.false_and] at hr
           try subst hr
           simp (maxSteps:=1000000) only [go_sem,Nat.reduceEqDiff,Nat.reduceAdd,Nat.reduceSub,Nat.reduceMul,Nat.reduceLT,Nat.reduceLeDiff,Int.reducePow,Int.reduceBEq,Int.reduceBNe,Int.reduceDiv,Int.reduceMod,Int.reduceEq,Int.reduceLT,Int.reduceLE,Int.reduceAdd,Int.reduceSub,Int.reduceMul,Int.reduceNeg,Int.reduceToNat,Int.reduceTDiv,Int.reduceTMod,↓reduceIte,t2,t3,t35,t36,t5,t60,t61,t7,t8,k0,k1,bne,h1,h2,h3,h4,h5,h6,h7,h8,h9]
           repeat ((first|refine(c2).x ?_|refine(c3).x ?_|refine drawnF ?_ (by decide +kernel)|refine drawnU [(9,20),(10,20),(11,20),(12,20),(13,20),(14,20),(15,20),(16,20),(17,20)] (by decide +kernel) ?_|refine drawnU [(1,2)] (by decide +kernel) ?_);simp (maxSteps:=1000000) only [go_sem,Nat.reduceEqDiff,Nat.reduceAdd,Nat.reduceSub,Nat.reduceMul,Nat.reduceLT,Nat.reduceLeDiff,Int.reducePow,Int.reduceBEq,Int.reduceBNe,Int.reduceDiv,Int.reduceMod,Int.reduceEq,Int.reduceLT,Int.reduceLE,Int.reduceAdd,Int.reduceSub,Int.reduceMul,Int.reduceNeg,Int.reduceToNat,Int.reduceTDiv,Int.reduceTMod,↓reduceIte,t2,t3,t35,t36,t5,t60,t61,t7,t8,k0,k1,bne,h1,h2,h3,h4,h5,h6,h7,h8,h9])
 clear t2 t3 t35 t36 t5 t60 t61 t7 t8 c2 c3
 rintro T J D ⟨rfl,rfl,t2,t3,t35,t36,t5,t60,t61,t7,t8,hPt⟩
 rw[hPt,Bool.true_and] at hr
 (refine sg trivial ?_;try exact⟨⟩)
 have hdr:True:=trivial
 first|refine drawnF ?_ (by decide +kernel)|refine drawnU [(1,2)] (by decide +kernel) ?_
 (refine sg (et t2 (et t3 (et t35 (et t36 (et t5 (et t60 (et t61 (et t7 (et t8 (et k0 k1)))))))))) ?_;try exact⟨⟩)
 refine(rkeysR_ a v0 v1 v2 v3 v4 v5 v6 v7 v8 pm vw vh vp vc vd vda vf vt J (hLV.old hO2)).x ?_
 rintro v H1 W1 ⟨rfl,⟨M,rfl⟩,hRa⟩
 have o3:Old J (J++M):=Old.app' _ _
 (refine sg (et t2 (et t3 (et t35 (et t36 (et t5 (et t60 (et t61 (et t7 (et t8 (et (old_get k0) (old_get k1))))))))))) ?_;try exact⟨⟩)
 refine(rkeysR_ f w0 w1 w2 w3 w4 w5 w6 w7 w8 qm ww wh wp wc wd wda wf wt _ ((hLW.old hO2).old o3)).x ?_
 rintro w H1 W1 ⟨rfl,⟨M',rfl⟩,hRb⟩
 have o4:Old (J++M) (J++M++M'):=Old.app' _ _
 have hRa:=hRa.old KsE.m o4
 have hO5:Old K (J++M++M'):=((hold2.trans o2).trans o3).trans o4
 have hl5:K.length≤(J++M++M').length:=by rw[List.length_append,List.length_append];omega
 obtain⟨ra,re,hrf⟩:=hRa.form
 subst hrf
 obtain⟨sa,se,hsf⟩:=hRb.form
 subst hsf
 have ll:a.keys.length=9:=rfl
 have lm:f.keys.length=9:=rfl
 rw[ll] at hRa
 rw[lm] at hRb
 (refine sg (et ll lm) ?_;try exact⟨⟩)
 generalize J++M++M'=V at *
 refine keep (fun r T K' D=>D=[]∧K'=V∧∃ n:Nat,n+r=9∧T 2=ap H.length 0 0∧T 3=ap (H.length+1) 0 0∧T 35=.int .i64 (x.comps.length:Int)∧T 36=.int .i64 (i:Int)∧T 5=.int .i64 (i:Int)∧T 60=.int .i64 (c.length:Int)∧T 61=.int .i64 (j:Int)∧T 9=.slice ra 9 re∧T 10=.slice sa 9 se∧T 150=.int .i64 9∧T 151=.int .i64 (n:Int)∧(eqG (eqG kyQ) (a.keys.drop n) (f.keys.drop n)&&R)=q) 9
  ⟨rfl,rfl,0,by omega,by(refine sg t2 ?_;try exact⟨⟩),by(refine sg t3 ?_;try exact⟨⟩),by(refine sg t35 ?_;try exact⟨⟩),by(refine sg t36 ?_;try exact⟨⟩),by(refine sg t5 ?_;try exact⟨⟩),by(refine sg t60 ?_;try exact⟨⟩),by(refine sg t61 ?_;try exact⟨⟩),by(refine sg trivial ?_;try exact⟨⟩),by(refine sg trivial ?_;try exact⟨⟩),by(refine sg trivial ?_;try exact⟨⟩),by(refine sg trivial ?_;try exact⟨⟩) <;> rfl,hr⟩ ?_
 clear hr t2 t3 t35 t36 t5 t60 t61 t7 t8
 rintro r3 T K3 D ⟨rfl,rfl,n,hnr,t2,t3,t35,t36,t5,t60,t61,t9,t10,t150,t151,hr⟩
 by_cases hn:n<9
 case neg=>
  rw[List.drop_eq_nil_of_le (by omega),List.drop_eq_nil_of_le (by omega)] at hr
  have hr:(true&&R)=q:=hr
  rw[Bool.true_and] at hr
  (refine sg (et t2 (et t3 (et t35 (et t36 (et t5 (et t60 (et t61 (et t9 (et t10 (et t150 (et t151 (et (df (show ¬ (n:Int)<9 by omega)) j1)))))))))))) ?_;try exact⟨⟩)
  exact⟨r2 - 1,by omega,j+1,by omega,hO5,hl5,rfl,by rw[hR];exact hr⟩
 obtain⟨ka,hka⟩:∃ ka,a.keys[n]?=some ka:=⟨_,List.getElem?_eq_getElem (by omega)⟩
 obtain⟨kf,hkf⟩:∃ kf,f.keys[n]?=some kf:=⟨_,List.getElem?_eq_getElem (by omega)⟩
 obtain⟨b5,g5,cells5,rw5,c5,hve5,hb5,⟨kv,hc5,hkv⟩,hcl5,hle5,hld5,hgt5⟩:=hRa.at hka
 subst hc5
 obtain⟨b6,g6,cells6,rw6,c6,hve6,hb6,⟨kw,hc6,hkw⟩,hcl6,hle6,hld6,hgt6⟩:=hRb.at hkf
 subst hc6
 have hg5:=hgt5 0 (by omega)
 have hg6:=hgt6 0 (by omega)
 rw[Nat.mul_one,Nat.add_zero] at hg5 hg6
 have hg5:cells5[n]?=some kv:=hg5
 have hg6:cells6[n]?=some kw:=hg6
 rw[hve5] at t9
 rw[hve6] at t10
 rw[ll] at t9
 rw[lm] at t10
 rw[drop_at hka,drop_at hkf,eqG] at hr
 have n1:IntKind.i64.wrap ((n:Int)+1)=((n+1:Nat):Int):=by rw[wi (by omega) (by omega)];rfl
 have z0:(0:Int)≤(n:Int):=by omega
 have z1:(n:Int)<9:=by omega
 have z2:(n:Int)<((9:Nat):Int):=by omega
 have c1:=rskeys_ ka kf kv kw K3 hkv hkw
 cases h1:eqG kyQ ka kf
 all_goals
  rw[h1] at c1
  simp only[h1,Bool.true_and,Bool.false_and] at hr
  (refine sg (et t2 (et t3 (et t35 (et t36 (et t5 (et t60 (et t61 (et t9 (et t10 (et t150 (et t151 (dt z1)))))))))))) ?_;try exact⟨⟩)
  repeat ((first|refine(c1).x ?_|refine drawnF ?_ (by decide +kernel)|refine drawnU [(9,20),(10,20),(11,20),(12,20),(13,20),(14,20),(15,20),(16,20),(17,20)] (by decide +kernel) ?_|refine drawnU [(1,2)] (by decide +kernel) ?_);(refine sg (et t2 (et t3 (et t35 (et t36 (et t5 (et t60 (et t61 (et t9 (et t10 (et t150 (et t151 (et z0 (et z1 (et z2 (et Int.toNat_natCast (et Nat.zero_add (et Nat.mul_one (et hb5 (et hb6 (et hg5 (et hg6 n1))))))))))))))))))))) ?_;try exact⟨⟩))
  first|(subst hr;done)|(rw[← hr];done)|exact⟨r3 - 1,by omega,n+1,by omega,hve5.symm,hve6.symm,rfl,hr⟩
end Go.Proofs.YthhbglkokpablaaGreat
/- Documents: the walks of what the document's own answer judges: keys, colours, paths of keys. -/
namespace Go.Proofs.YthhbglkokpablaaGreat
open Go Go.RowKit E
attribute [local irreducible] XRun XOps XCode XCal XLoop XQ SemCall
set_option linter.unusedSimpArgs false
set_option linter.unusedVariables false
theorem ald_mid {cells c:List Value} {i s j n g:Nat} {rw_:Bool} (hl:c.length=s) (hb:(i+1)*s≤cells.length) (h:∀ q,q<s→cells[i*s+q]?=c[q]?) (hj:j+n≤s) (b:Nat):ald (some true) (some n) (some ⟨cells,g,rw_⟩) b (i*s+j) g=some (.agg ((c.drop j).take n).toArray,b):=by
 have h1:i*s+j+n≤cells.length:=by rw[Nat.add_mul,Nat.one_mul] at hb;omega
 simp only[ald,true_and,h1,if_true]
 have e:(cells.drop (i*s+j)).take n=(c.drop j).take n:=by
  refine List.ext_getElem? fun k=>?_
  by_cases hk:k<n
  ·rw[List.getElem?_take_of_lt hk,List.getElem?_take_of_lt hk,List.getElem?_drop,List.getElem?_drop,← h (j+k) (by omega)]
   congr 1;omega
  ·rw[List.getElem?_eq_none (by rw[List.length_take];omega),List.getElem?_eq_none (by rw[List.length_take];omega)]
 rw[e]
theorem rwithin5_ (n lo hi:Int) (H:AH):SemCall Tryz.prog 85 [.int .i64 n,.int .i64 lo,.int .i64 hi] H (.bool (decide (lo≤n)&&decide (n≤hi))) H []:=by
 refine pure_of ?_ rfl
 cases h1:decide (lo≤n) with
 | false=>
  refine XCal.of hm Tryz.func85 rfl (fun xs w=>Tryz.call85 xs w) Tryz.ntmps85 Tryz.results85 rfl ?_
  (refine sg h1 ?_;try exact⟨⟩)
 | true=>
  refine XCal.of hm Tryz.func85 rfl (fun xs w=>Tryz.call85 xs w) Tryz.ntmps85 Tryz.results85 rfl ?_
  (refine sg h1 ?_;try exact⟨⟩)
theorem rease_ (e:Ez) (H:AH):SemCall Tryz.prog 102 [ezV e] H (.bool (easeB e)) H []:=by
 refine pure_of ?_ rfl
 have c1:=fun H=>rwithin5_ e.x1 0 65536 H
 have c2:=fun H=>rwithin5_ e.x2 0 65536 H
 have c3:=fun H=>rwithin5_ e.y1 (-131072) 196608 H
 have c4:=fun H=>rwithin5_ e.y2 (-131072) 196608 H
 unfold easeB
 generalize (decide (0≤e.x1)&&decide (e.x1≤65536))=p1 at *
 generalize (decide (0≤e.x2)&&decide (e.x2≤65536))=p2 at *
 generalize (decide (-131072≤e.y1)&&decide (e.y1≤196608))=p3 at *
 generalize (decide (-131072≤e.y2)&&decide (e.y2≤196608))=p4 at *
 cases p1
 case' true=>cases p2
 case' true.true=>cases p3
 all_goals
  refine XCal.of hm Tryz.func102 rfl (fun xs w=>Tryz.call102 xs w) Tryz.ntmps102 Tryz.results102 rfl ?_
  (refine sg trivial ?_;try exact⟨⟩)
  repeat ((first|refine(c1 _).x ?_|refine(c2 _).x ?_|refine(c3 _).x ?_|refine(c4 _).x ?_|refine drawnF ?_ (by decide +kernel));(refine sg trivial ?_;try exact⟨⟩))
theorem rmoves_ (t how:Int) (e:Ez) (H:AH):SemCall Tryz.prog 84 [.int .i64 t,.int .i64 how,ezV e] H (.bool (movesB t how e)) H []:=by
 refine pure_of ?_ rfl
 have c0:∀ H,SemCall Tryz.prog 85 [.int .i64 t,.int .i64 (-1073741824),.int .i64 1073741824] H (.bool (tickB t)) H []:=fun H=>rwithin5_ t (-1073741824) 1073741824 H
 have c1:=fun H=>rease_ e H
 unfold movesB howB
 generalize tickB t=p0 at *
 cases p0
 case false=>
  refine XCal.of hm Tryz.func84 rfl (fun xs w=>Tryz.call84 xs w) Tryz.ntmps84 Tryz.results84 rfl ?_
  (refine sg trivial ?_;try exact⟨⟩)
  repeat ((first|refine(c0 _).x ?_|refine drawnF ?_ (by decide +kernel));(refine sg trivial ?_;try exact⟨⟩))
 rw[Bool.true_and]
 by_cases h2:how=2
 ·rw[if_pos h2]
  refine XCal.of hm Tryz.func84 rfl (fun xs w=>Tryz.call84 xs w) Tryz.ntmps84 Tryz.results84 rfl ?_
  (refine sg trivial ?_;try exact⟨⟩)
  repeat ((first|refine(c0 _).x ?_|refine(c1 _).x ?_|refine drawnF ?_ (by decide +kernel));(refine sg (bt h2) ?_;try exact⟨⟩))
 ·rw[if_neg h2]
  by_cases w0:how=0
  ·rw[bt w0,Bool.true_or,Bool.true_and]
   refine XCal.of hm Tryz.func84 rfl (fun xs w=>Tryz.call84 xs w) Tryz.ntmps84 Tryz.results84 rfl ?_
   (refine sg trivial ?_;try exact⟨⟩)
   repeat ((first|refine(c0 _).x ?_|refine drawnF ?_ (by decide +kernel));simp only[go_sem,Nat.reduceEqDiff,Nat.reduceAdd,Nat.reduceSub,Nat.reduceMul,Nat.reduceLT,Nat.reduceLeDiff,Int.reducePow,Int.reduceBEq,Int.reduceBNe,Int.reduceDiv,Int.reduceMod,Int.reduceEq,Int.reduceLT,Int.reduceLE,Int.reduceAdd,Int.reduceSub,Int.reduceMul,Int.reduceNeg,Int.reduceToNat,Int.reduceTDiv,Int.reduceTMod,↓reduceIte,bf h2,bt w0,ez0])
  ·by_cases w1:how=1
   ·rw[bf w0,bt w1,Bool.false_or,Bool.true_and]
    refine XCal.of hm Tryz.func84 rfl (fun xs w=>Tryz.call84 xs w) Tryz.ntmps84 Tryz.results84 rfl ?_
    (refine sg trivial ?_;try exact⟨⟩)
    repeat ((first|refine(c0 _).x ?_|refine drawnF ?_ (by decide +kernel));simp only[go_sem,Nat.reduceEqDiff,Nat.reduceAdd,Nat.reduceSub,Nat.reduceMul,Nat.reduceLT,Nat.reduceLeDiff,Int.reducePow,Int.reduceBEq,Int.reduceBNe,Int.reduceDiv,Int.reduceMod,Int.reduceEq,Int.reduceLT,Int.reduceLE,Int.reduceAdd,Int.reduceSub,Int.reduceMul,Int.reduceNeg,Int.reduceToNat,Int.reduceTDiv,Int.reduceTMod,↓reduceIte,bf h2,bf w0,bt w1,ez0])
   ·rw[bf w0,bf w1,Bool.false_or,Bool.false_and]
    refine XCal.of hm Tryz.func84 rfl (fun xs w=>Tryz.call84 xs w) Tryz.ntmps84 Tryz.results84 rfl ?_
    (refine sg trivial ?_;try exact⟨⟩)
    repeat ((first|refine(c0 _).x ?_|refine drawnF ?_ (by decide +kernel));(refine sg (et (bf h2) (et (bf w0) (bf w1))) ?_;try exact⟨⟩))
theorem kst_moves (f:Bool) (a t how:Int) (e:Ez):kstB f a t how e=(movesB t how e&&(f||decide (a<t))):=by
 unfold kstB movesB
 cases tickB t <;> cases howB how e <;> cases (f||decide (a<t)) <;> rfl
set_option maxHeartbeats 4000000 in
theorem rkeyR_ (l:List Ky) (v:Value) (H:AH) (h:Kys H v l):SemCall Tryz.prog 60 [v] H (.bool (keysB l)) H []:=by
 refine pure_of ?_ rfl
 have hlen:=h.len
 obtain⟨va,ve,hv⟩:=h.form
 subst hv
 obtain⟨Q,hQ⟩:∃ Q,keysB l=Q:=⟨_,rfl⟩
 rw[hQ]
 refine XCal.of hm Tryz.func60 rfl (fun xs w=>Tryz.call60 xs w) Tryz.ntmps60 Tryz.results60 rfl ?_
 (refine sg trivial ?_;try exact⟨⟩)
 refine keep (fun k T K D=>D=[]∧K=H∧∃ (i:Nat) (a:Int),i+k=l.length∧(∀ y,¬ i=0→l[i - 1]?=some y→y.t=a)∧(keysGo (decide (i=0)) a (l.drop i)&&decide ((l.length:Int)≤32))=Q∧T 0=.slice va l.length ve∧T 3=.int .i64 (i:Int)) l.length
  ⟨rfl,rfl,0,0,by omega,(fun y h=>absurd rfl h),hQ,by(refine sg trivial ?_;try exact⟨⟩),by(refine sg trivial ?_;try exact⟨⟩) <;> rfl⟩ ?_
 clear hQ
 rintro k T K D ⟨rfl,rfl,i,a,hik,hpr,hr,t0,t3⟩
 by_cases hk:i<l.length
 ·obtain⟨x,hx⟩:∃ x,l[i]?=some x:=⟨_,List.getElem?_eq_getElem hk⟩
  obtain⟨b,g,cells,rw_,c,hve,hb,hc,hcl,hle,hld,hgt⟩:=h.at hx
  have hc:c=kyC x:=hc
  subst hc
  rw[drop_at hx] at hr
  simp only[keysGo,kst_moves] at hr
  rw[hve] at t0
  have q0:(0:Int)≤(i:Int):=by omega
  have q1:(i:Int)<(l.length:Int):=by omega
  have w1:IntKind.i64.wrap ((i:Int)+1)=((i+1:Nat):Int):=by rw[wi (by omega) (by omega)];rfl
  have ks:=fun H=>rmoves_ x.t x.how x.e H
  have kn:∀ H,SemCall Tryz.prog 85 [.int .i64 x.v,.int .i64 (-67108864),.int .i64 67108864] H (.bool (nearB x.v)) H []:=fun H=>rwithin5_ x.v (-67108864) 67108864 H
  have f0:=hgt 0 (by omega)
  have f1:=hgt 1 (by omega)
  have f2:=hgt 2 (by omega)
  rw[Nat.add_zero] at f0
  have f0:cells[i*7]?=some (.int .i64 x.t):=f0
  have f1:cells[i*7+1]?=some (.int .i64 x.v):=f1
  have f2:cells[i*7+2]?=some (.int .i64 x.how):=f2
  have f3:=fun b'=>ald_mid (g:=g) (rw_:=rw_) (n:=4) (j:=3) hcl (by have:=Nat.mul_le_mul_right 7 hk;omega) hgt (by omega) b'
  simp only[List.drop_succ_cons,List.drop_zero,List.take_succ_cons,List.take_zero] at f3
  generalize movesB x.t x.how x.e=E1 at *
  generalize nearB x.v=E2 at *
  by_cases hi0:i=0
  ·rw[dt hi0,Bool.true_or,Bool.and_true] at hr
   cases E1
   case' true=>cases E2
   all_goals
    simp only[Bool.true_and,Bool.false_and] at hr
    (refine sg (et t0 (et t3 (dt q1))) ?_;try exact⟨⟩)
    repeat ((first|refine(ks _).x ?_|refine(kn _).x ?_|refine drawnF ?_ (by decide +kernel));(refine sg (et t0 (et t3 (et q0 (et q1 (et Int.toNat_natCast (et Nat.zero_add (et Nat.add_zero (et hb (et f0 (et f1 (et f2 (et f3 (et w1 (df (show ¬ (0:Int)<(i:Int) by omega))))))))))))))) ?_;try exact⟨⟩))
    first|(subst hr;done)|(rw[← hr];done)|exact⟨k - 1,by omega,i+1,x.t,by omega,(fun y _ hy=>by rw[Nat.add_sub_cancel,hx] at hy;cases hy;rfl),hr,hve.symm,rfl⟩
  ·obtain⟨y,hy⟩:∃ y,l[i - 1]?=some y:=⟨_,List.getElem?_eq_getElem (by omega)⟩
   have hya:=hpr y hi0 hy
   obtain⟨b',g',cells',rw',c',hve',hb',hc',hcl',hle',hld',hgt'⟩:=h.at hy
   have hc':c'=kyC y:=hc'
   subst hc'
   rw[hve] at hve'
   cases hve'
   rw[hb] at hb'
   cases hb'
   have e0:=hgt' 0 (by omega)
   rw[Nat.add_zero] at e0
   have e0:cells[(i - 1)*7]?=some (.int .i64 y.t):=e0
   rw[hya] at e0
   have wm:IntKind.i64.wrap ((i:Int) - 1)=((i - 1:Nat):Int):=by rw[wi (by omega) (by omega)];omega
   have p0:(0:Int)≤((i - 1:Nat):Int):=by omega
   have p1:((i - 1:Nat):Int)<(l.length:Int):=by omega
   rw[df (show ¬ i=0 from hi0),Bool.false_or] at hr
   have hc3:decide (x.t≤a) = !decide (a<x.t):=by
    by_cases h:a<x.t
    ·rw[dt h,df (show ¬ x.t≤a by omega)];rfl
    ·rw[df h,dt (show x.t≤a by omega)];rfl
   generalize decide (a<x.t)=E3 at *
   cases E1
   case' true=>cases E2
   case' true.true=>cases E3
   all_goals
    simp only[Bool.true_and,Bool.false_and,Bool.and_false,Bool.and_true] at hr
    (refine sg (et t0 (et t3 (dt q1))) ?_;try exact⟨⟩)
    repeat ((first|refine(ks _).x ?_|refine(kn _).x ?_|refine drawnF ?_ (by decide +kernel));(refine sg (et t0 (et t3 (et q0 (et q1 (et Int.toNat_natCast (et Nat.zero_add (et Nat.add_zero (et hb (et f0 (et f1 (et f2 (et f3 (et w1 (et (dt (show (0:Int)<(i:Int) by omega)) (et wm (et p0 (et p1 (et e0 hc3)))))))))))))))))) ?_;try exact⟨⟩))
    first|(subst hr;done)|(rw[← hr];done)|exact⟨k - 1,by omega,i+1,x.t,by omega,(fun y _ hy=>by rw[Nat.add_sub_cancel,hx] at hy;cases hy;rfl),hr,hve.symm,rfl⟩
 ·have hi:i=l.length:=by omega
  subst hi
  rw[List.drop_eq_nil_of_le (by omega)] at hr
  have hr:(true&&decide ((l.length:Int)≤32))=Q:=hr
  rw[Bool.true_and] at hr
  (refine sg (et t0 (et t3 (et (df (show ¬ ((l.length:Nat):Int)<(l.length:Int) by omega)) hr))) ?_;try exact⟨⟩)
set_option maxHeartbeats 4000000 in
theorem rcolors_ (l:List Ck) (v:Value) (H:AH) (h:Cks H v l):SemCall Tryz.prog 89 [v] H (.bool (cksB l)) H []:=by
 refine pure_of ?_ rfl
 have hlen:=h.len
 obtain⟨va,ve,hv⟩:=h.form
 subst hv
 obtain⟨Q,hQ⟩:∃ Q,cksB l=Q:=⟨_,rfl⟩
 rw[hQ]
 refine XCal.of hm Tryz.func89 rfl (fun xs w=>Tryz.call89 xs w) Tryz.ntmps89 Tryz.results89 rfl ?_
 (refine sg trivial ?_;try exact⟨⟩)
 refine keep (fun k T K D=>D=[]∧K=H∧∃ (i:Nat) (a:Int),i+k=l.length∧(∀ y,¬ i=0→l[i - 1]?=some y→y.t=a)∧(cksGo (decide (i=0)) a (l.drop i)&&decide ((l.length:Int)≤32))=Q∧T 0=.slice va l.length ve∧T 3=.int .i64 (i:Int)) l.length
  ⟨rfl,rfl,0,0,by omega,(fun y h=>absurd rfl h),hQ,by(refine sg trivial ?_;try exact⟨⟩),by(refine sg trivial ?_;try exact⟨⟩) <;> rfl⟩ ?_
 clear hQ
 rintro k T K D ⟨rfl,rfl,i,a,hik,hpr,hr,t0,t3⟩
 by_cases hk:i<l.length
 ·obtain⟨x,hx⟩:∃ x,l[i]?=some x:=⟨_,List.getElem?_eq_getElem hk⟩
  obtain⟨b,g,cells,rw_,c,hve,hb,hc,hcl,hle,hld,hgt⟩:=h.at hx
  have hc:c=ckC x:=hc
  subst hc
  rw[drop_at hx] at hr
  simp only[cksGo,kst_moves] at hr
  rw[hve] at t0
  have q0:(0:Int)≤(i:Int):=by omega
  have q1:(i:Int)<(l.length:Int):=by omega
  have w1:IntKind.i64.wrap ((i:Int)+1)=((i+1:Nat):Int):=by rw[wi (by omega) (by omega)];rfl
  have ks:=fun H=>rmoves_ x.t x.how x.e H
  have f0:=hgt 0 (by omega)
  have f2:=hgt 5 (by omega)
  rw[Nat.add_zero] at f0
  have f0:cells[i*10]?=some (.int .i64 x.t):=f0
  have f2:cells[i*10+5]?=some (.int .i64 x.how):=f2
  have f3:=fun b'=>ald_mid (g:=g) (rw_:=rw_) (n:=4) (j:=6) hcl (by have:=Nat.mul_le_mul_right 10 hk;omega) hgt (by omega) b'
  simp only[List.drop_succ_cons,List.drop_zero,List.take_succ_cons,List.take_zero] at f3
  generalize movesB x.t x.how x.e=E1 at *
  by_cases hi0:i=0
  ·rw[dt hi0,Bool.true_or,Bool.and_true] at hr
   cases E1
   all_goals
    simp only[Bool.true_and,Bool.false_and] at hr
    (refine sg (et t0 (et t3 (dt q1))) ?_;try exact⟨⟩)
    repeat ((first|refine(ks _).x ?_|refine drawnF ?_ (by decide +kernel));(refine sg (et t0 (et t3 (et q0 (et q1 (et Int.toNat_natCast (et Nat.zero_add (et Nat.add_zero (et hb (et f0 (et f2 (et f3 (et w1 (df (show ¬ (0:Int)<(i:Int) by omega)))))))))))))) ?_;try exact⟨⟩))
    first|(subst hr;done)|(rw[← hr];done)|exact⟨k - 1,by omega,i+1,x.t,by omega,(fun y _ hy=>by rw[Nat.add_sub_cancel,hx] at hy;cases hy;rfl),hr,hve.symm,rfl⟩
  ·obtain⟨y,hy⟩:∃ y,l[i - 1]?=some y:=⟨_,List.getElem?_eq_getElem (by omega)⟩
   have hya:=hpr y hi0 hy
   obtain⟨b',g',cells',rw',c',hve',hb',hc',hcl',hle',hld',hgt'⟩:=h.at hy
   have hc':c'=ckC y:=hc'
   subst hc'
   rw[hve] at hve'
   cases hve'
   rw[hb] at hb'
   cases hb'
   have e0:=hgt' 0 (by omega)
   rw[Nat.add_zero] at e0
   have e0:cells[(i - 1)*10]?=some (.int .i64 y.t):=e0
   rw[hya] at e0
   have wm:IntKind.i64.wrap ((i:Int) - 1)=((i - 1:Nat):Int):=by rw[wi (by omega) (by omega)];omega
   have p0:(0:Int)≤((i - 1:Nat):Int):=by omega
   have p1:((i - 1:Nat):Int)<(l.length:Int):=by omega
   rw[df (show ¬ i=0 from hi0),Bool.false_or] at hr
   have hc3:decide (x.t≤a) = !decide (a<x.t):=by
    by_cases h:a<x.t
    ·rw[dt h,df (show ¬ x.t≤a by omega)];rfl
    ·rw[df h,dt (show x.t≤a by omega)];rfl
   generalize decide (a<x.t)=E3 at *
   cases E1
   case' true=>cases E3
   all_goals
    simp only[Bool.true_and,Bool.false_and,Bool.and_false,Bool.and_true] at hr
    (refine sg (et t0 (et t3 (dt q1))) ?_;try exact⟨⟩)
    repeat ((first|refine(ks _).x ?_|refine drawnF ?_ (by decide +kernel));(refine sg (et t0 (et t3 (et q0 (et q1 (et Int.toNat_natCast (et Nat.zero_add (et Nat.add_zero (et hb (et f0 (et f2 (et f3 (et w1 (et (dt (show (0:Int)<(i:Int) by omega)) (et wm (et p0 (et p1 (et e0 hc3))))))))))))))))) ?_;try exact⟨⟩))
    first|(subst hr;done)|(rw[← hr];done)|exact⟨k - 1,by omega,i+1,x.t,by omega,(fun y _ hy=>by rw[Nat.add_sub_cancel,hx] at hy;cases hy;rfl),hr,hve.symm,rfl⟩
 ·have hi:i=l.length:=by omega
  subst hi
  rw[List.drop_eq_nil_of_le (by omega)] at hr
  have hr:(true&&decide ((l.length:Int)≤32))=Q:=hr
  rw[Bool.true_and] at hr
  (refine sg (et t0 (et t3 (et (df (show ¬ ((l.length:Nat):Int)<(l.length:Int) by omega)) hr))) ?_;try exact⟨⟩)
theorem rdashes_ (l:List Int) (v:Value) (H:AH) (h:Ins H v l):SemCall Tryz.prog 90 [v] H (.bool (dashB l)) H []:=by
 refine pure_of ?_ rfl
 have hlen:=h.len
 obtain⟨va,ve,hv⟩:=h.form
 subst hv
 obtain⟨Q,hQ⟩:∃ Q,dashB l=Q:=⟨_,rfl⟩
 rw[hQ]
 unfold dashB at hQ
 rw[Bool.and_comm] at hQ
 refine XCal.of hm Tryz.func90 rfl (fun xs w=>Tryz.call90 xs w) Tryz.ntmps90 Tryz.results90 rfl ?_
 (refine sg trivial ?_;try exact⟨⟩)
 refine keep (fun k T K D=>D=[]∧K=H∧∃ (i:Nat),i+k=l.length∧(((l.drop i).all fun n=>decide (65536≤n)&&decide (n≤67108864))&&decide ((l.length:Int)≤8))=Q∧T 0=.slice va l.length ve∧T 3=.int .i64 (i:Int)) l.length
  ⟨rfl,rfl,0,by omega,hQ,by(refine sg trivial ?_;try exact⟨⟩),by(refine sg trivial ?_;try exact⟨⟩) <;> rfl⟩ ?_
 clear hQ
 rintro k T K D ⟨rfl,rfl,i,hik,hr,t0,t3⟩
 by_cases hk:i<l.length
 ·obtain⟨x,hx⟩:∃ x,l[i]?=some x:=⟨_,List.getElem?_eq_getElem hk⟩
  obtain⟨b,g,cells,rw_,c,hve,hb,hc,hcl,hle,hld,hgt⟩:=h.at hx
  have hc:c=[.int .i64 x]:=hc
  subst hc
  have f0:=hgt 0 (by omega)
  rw[Nat.add_zero,Nat.mul_one] at f0
  have f0:cells[i]?=some (.int .i64 x):=f0
  rw[drop_at hx,List.all_cons] at hr
  rw[hve] at t0
  have q0:(0:Int)≤(i:Int):=by omega
  have q1:(i:Int)<(l.length:Int):=by omega
  have w1:IntKind.i64.wrap ((i:Int)+1)=((i+1:Nat):Int):=by rw[wi (by omega) (by omega)];rfl
  by_cases h1:x<65536
  ·rw[df (show ¬ 65536≤x by omega),Bool.false_and,Bool.false_and,Bool.false_and] at hr
   subst hr
   (refine sg (et t0 (et t3 (et (dt q1) (et q0 (et q1 (et Int.toNat_natCast (et Nat.zero_add (et Nat.mul_one (et hb (et f0 (dt h1))))))))))) ?_;try exact⟨⟩)
  ·by_cases h2:67108864<x
   ·rw[df (show ¬ x≤67108864 by omega),Bool.and_false,Bool.false_and,Bool.false_and] at hr
    subst hr
    (refine sg (et t0 (et t3 (et (dt q1) (et q0 (et q1 (et Int.toNat_natCast (et Nat.zero_add (et Nat.mul_one (et hb (et f0 (et (df h1) (dt h2)))))))))))) ?_;try exact⟨⟩)
   ·rw[dt (show 65536≤x by omega),dt (show x≤67108864 by omega),Bool.true_and,Bool.true_and] at hr
    (refine sg (et t0 (et t3 (et (dt q1) (et q0 (et q1 (et Int.toNat_natCast (et Nat.zero_add (et Nat.mul_one (et hb (et f0 (et (df h1) (et (df h2) w1)))))))))))) ?_;try exact⟨⟩)
    exact⟨k - 1,by omega,i+1,by omega,hr,hve.symm,rfl⟩
 ·have hi:i=l.length:=by omega
  subst hi
  rw[List.drop_eq_nil_of_le (by omega)] at hr
  have hr:(true&&decide ((l.length:Int)≤8))=Q:=hr
  rw[Bool.true_and] at hr
  (refine sg (et t0 (et t3 (et (df (show ¬ ((l.length:Nat):Int)<(l.length:Int) by omega)) hr))) ?_;try exact⟨⟩)
theorem rfits_ (p q:PL) (pv qv:Value) (H:AH) (hp:Pts H pv p.2) (hq:Pts H qv q.2):SemCall Tryz.prog 103 [.agg [.bool p.1,pv].toArray,.agg [.bool q.1,qv].toArray] H (.bool (fitsB p q)) H []:=by
 refine pure_of ?_ rfl
 obtain⟨a1,e1,rfl⟩:=hp.form
 obtain⟨a2,e2,rfl⟩:=hq.form
 unfold fitsB
 by_cases hl:(p.2.length:Int)=(q.2.length:Int)
 ·rw[dt hl,Bool.true_and]
  refine XCal.of hm Tryz.func103 rfl (fun xs w=>Tryz.call103 xs w) Tryz.ntmps103 Tryz.results103 rfl ?_
  (refine sg (bt hl) ?_;try exact⟨⟩)
 ·rw[df hl,Bool.false_and]
  refine XCal.of hm Tryz.func103 rfl (fun xs w=>Tryz.call103 xs w) Tryz.ntmps103 Tryz.results103 rfl ?_
  (refine sg (bf hl) ?_;try exact⟨⟩)
set_option maxHeartbeats 4000000 in
theorem rpkeys_ (l:List Pk) (v:Value) (H:AH) (h:Pks H v l):SemCall Tryz.prog 87 [v] H (.bool (pksB l)) H []:=by
 refine pure_of ?_ rfl
 have hlen:=h.len
 obtain⟨va,ve,hv⟩:=h.form
 subst hv
 obtain⟨Q,hQ⟩:∃ Q,pksB l=Q:=⟨_,rfl⟩
 rw[hQ]
 obtain⟨z,hz⟩:∃ z,(l[0]?).elim (false,[]) (·.p)=z:=⟨_,rfl⟩
 unfold pksB at hQ
 rw[hz] at hQ
 refine XCal.of hm Tryz.func87 rfl (fun xs w=>Tryz.call87 xs w) Tryz.ntmps87 Tryz.results87 rfl ?_
 (refine sg trivial ?_;try exact⟨⟩)
 refine keep (fun k T K D=>D=[]∧K=H∧∃ (i:Nat) (a:Int),i+k=l.length∧(∀ y,¬ i=0→l[i - 1]?=some y→y.t=a)∧(pksGo z (decide (i=0)) a (l.drop i)&&decide ((l.length:Int)≤32))=Q∧T 0=.slice va l.length ve∧T 3=.int .i64 (i:Int)) l.length
  ⟨rfl,rfl,0,0,by omega,(fun y h=>absurd rfl h),hQ,by(refine sg trivial ?_;try exact⟨⟩),by(refine sg trivial ?_;try exact⟨⟩) <;> rfl⟩ ?_
 clear hQ
 rintro k T K D ⟨rfl,rfl,i,a,hik,hpr,hr,t0,t3⟩
 by_cases hk:i<l.length
 ·obtain⟨x,hx⟩:∃ x,l[i]?=some x:=⟨_,List.getElem?_eq_getElem hk⟩
  obtain⟨b,g,cells,rw_,c,hve,hb,⟨pv,hc,hp⟩,hcl,hle,hld,hgt⟩:=h.at hx
  subst hc
  obtain⟨z0,hz0⟩:∃ z0,l[0]?=some z0:=⟨_,List.getElem?_eq_getElem (by omega)⟩
  obtain⟨b0,g0,cells0,rw0,c0,hve0,hb0,⟨qv,hc0,hq⟩,hcl0,hle0,hld0,hgt0⟩:=h.at hz0
  subst hc0
  rw[hve] at hve0
  cases hve0
  rw[hb] at hb0
  cases hb0
  rw[hz0] at hz
  have hz:z0.p=z:=hz
  have l12:=fun b'=>ald_mid (g:=g) (rw_:=rw_) (n:=2) (j:=1) hcl (by have:=Nat.mul_le_mul_right 8 hk;omega) hgt (by omega) b'
  have z12:=fun b'=>ald_mid (g:=g) (rw_:=rw_) (n:=2) (j:=1) hcl0 (by have:=Nat.mul_le_mul_right 8 (show 0<l.length by omega);omega) hgt0 (by omega) b'
  simp only[List.drop_succ_cons,List.drop_zero,List.take_succ_cons,List.take_zero] at l12 z12
  rw[Nat.zero_mul,Nat.zero_add] at z12
  have f5:=hgt 2 (by omega)
  have f5:cells[i*8+2]?=some pv:=f5
  have k2:=rright_ x.p.1 x.p.2 pv K hp
  have k3:=rfits_ x.p z0.p pv qv K hp hq
  rw[show fitsB x.p z0.p=fitsB x.p z by rw[hz]] at k3
  obtain⟨pa,pe,hpf⟩:=hp.form
  have q2:(0:Int)<(l.length:Int):=by omega
  rw[drop_at hx] at hr
  simp only[pksGo,kst_moves] at hr
  rw[hve] at t0
  have q0:(0:Int)≤(i:Int):=by omega
  have q1:(i:Int)<(l.length:Int):=by omega
  have w1:IntKind.i64.wrap ((i:Int)+1)=((i+1:Nat):Int):=by rw[wi (by omega) (by omega)];rfl
  have ks:=fun H=>rmoves_ x.t x.how x.e H
  have f0:=hgt 0 (by omega)
  have f2:=hgt 3 (by omega)
  rw[Nat.add_zero] at f0
  have f0:cells[i*8]?=some (.int .i64 x.t):=f0
  have f2:cells[i*8+3]?=some (.int .i64 x.how):=f2
  have f3:=fun b'=>ald_mid (g:=g) (rw_:=rw_) (n:=4) (j:=4) hcl (by have:=Nat.mul_le_mul_right 8 hk;omega) hgt (by omega) b'
  simp only[List.drop_succ_cons,List.drop_zero,List.take_succ_cons,List.take_zero] at f3
  generalize movesB x.t x.how x.e=E1 at *
  subst hpf
  have hl0:((x.p.2.length:Int)==0)=decide ((x.p.2.length:Int)=0):=rfl
  generalize decide ((x.p.2.length:Int)=0)=E4 at *
  generalize rightB x.p.1 x.p.2=E2 at *
  generalize fitsB x.p z=E5 at *
  by_cases hi0:i=0
  ·rw[dt hi0,Bool.true_or,Bool.and_true] at hr
   cases E1
   case' true=>cases E2
   case' true.true=>cases E4
   case' true.true.false=>cases E5
   all_goals
    simp only[Bool.true_and,Bool.false_and,Bool.and_false,Bool.and_true,Bool.not_true,Bool.not_false] at hr
    (refine sg (et t0 (et t3 (dt q1))) ?_;try exact⟨⟩)
    repeat ((first|refine(ks _).x ?_|refine(k2).x ?_|refine(k3).x ?_|refine drawnF ?_ (by decide +kernel));simp only[go_sem,Nat.reduceEqDiff,Nat.reduceAdd,Nat.reduceSub,Nat.reduceMul,Nat.reduceLT,Nat.reduceLeDiff,Int.reducePow,Int.reduceBEq,Int.reduceBNe,Int.reduceDiv,Int.reduceMod,Int.reduceEq,Int.reduceLT,Int.reduceLE,Int.reduceAdd,Int.reduceSub,Int.reduceMul,Int.reduceNeg,Int.reduceToNat,Int.reduceTDiv,Int.reduceTMod,↓reduceIte,t0,t3,q0,q1,Int.toNat_natCast,Nat.zero_add,Nat.add_zero,hb,f0,f2,f3,f5,l12,z12,hl0,q2,Nat.zero_mul,Int.reduceToNat,Bool.not_true,Bool.not_false,w1,df (show ¬ (0:Int)<(i:Int) by omega)])
    first|(subst hr;done)|(rw[← hr];done)|exact⟨k - 1,by omega,i+1,x.t,by omega,(fun y _ hy=>by rw[Nat.add_sub_cancel,hx] at hy;cases hy;rfl),hr,hve.symm,rfl⟩
  ·obtain⟨y,hy⟩:∃ y,l[i - 1]?=some y:=⟨_,List.getElem?_eq_getElem (by omega)⟩
   have hya:=hpr y hi0 hy
   obtain⟨b',g',cells',rw',c',hve',hb',⟨pv',hc',_⟩,hcl',hle',hld',hgt'⟩:=h.at hy
   subst hc'
   rw[hve] at hve'
   cases hve'
   rw[hb] at hb'
   cases hb'
   have e0:=hgt' 0 (by omega)
   rw[Nat.add_zero] at e0
   have e0:cells[(i - 1)*8]?=some (.int .i64 y.t):=e0
   rw[hya] at e0
   have wm:IntKind.i64.wrap ((i:Int) - 1)=((i - 1:Nat):Int):=by rw[wi (by omega) (by omega)];omega
   have p0:(0:Int)≤((i - 1:Nat):Int):=by omega
   have p1:((i - 1:Nat):Int)<(l.length:Int):=by omega
   rw[df (show ¬ i=0 from hi0),Bool.false_or] at hr
   have hc3:decide (x.t≤a) = !decide (a<x.t):=by
    by_cases h:a<x.t
    ·rw[dt h,df (show ¬ x.t≤a by omega)];rfl
    ·rw[df h,dt (show x.t≤a by omega)];rfl
   generalize decide (a<x.t)=E3 at *
   cases E1
   case' true=>cases E3
   case' true.true=>cases E2
   case' true.true.true=>cases E4
   case' true.true.true.false=>cases E5
   all_goals
    simp only[Bool.true_and,Bool.false_and,Bool.and_false,Bool.and_true,Bool.not_true,Bool.not_false] at hr
    simp only[go_sem,Nat.reduceEqDiff,Nat.reduceAdd,Nat.reduceSub,Nat.reduceMul,Nat.reduceLT,Nat.reduceLeDiff,Int.reducePow,Int.reduceBEq,Int.reduceBNe,Int.reduceDiv,Int.reduceMod,Int.reduceEq,Int.reduceLT,Int.reduceLE,Int.reduceAdd,Int.reduceSub,Int.reduceMul,Int.reduceNeg,Int.reduceToNat,Int.reduceTDiv,Int.reduceTMod,↓reduceIte,t0,t3,dt q1]
    repeat ((first|refine(ks _).x ?_|refine(k2).x ?_|refine(k3).x ?_|refine drawnF ?_ (by decide +kernel));simp only[go_sem,Nat.reduceEqDiff,Nat.reduceAdd,Nat.reduceSub,Nat.reduceMul,Nat.reduceLT,Nat.reduceLeDiff,Int.reducePow,Int.reduceBEq,Int.reduceBNe,Int.reduceDiv,Int.reduceMod,Int.reduceEq,Int.reduceLT,Int.reduceLE,Int.reduceAdd,Int.reduceSub,Int.reduceMul,Int.reduceNeg,Int.reduceToNat,Int.reduceTDiv,Int.reduceTMod,↓reduceIte,t0,t3,q0,q1,Int.toNat_natCast,Nat.zero_add,Nat.add_zero,hb,f0,f2,f3,f5,l12,z12,hl0,q2,Nat.zero_mul,Int.reduceToNat,Bool.not_true,Bool.not_false,w1,dt (show (0:Int)<(i:Int) by omega),wm,p0,p1,e0,hc3])
    first|(subst hr;done)|(rw[← hr];done)|exact⟨k - 1,by omega,i+1,x.t,by omega,(fun y _ hy=>by rw[Nat.add_sub_cancel,hx] at hy;cases hy;rfl),hr,hve.symm,rfl⟩
 ·have hi:i=l.length:=by omega
  subst hi
  rw[List.drop_eq_nil_of_le (by omega)] at hr
  have hr:(true&&decide ((l.length:Int)≤32))=Q:=hr
  rw[Bool.true_and] at hr
  simp only[go_sem,Nat.reduceEqDiff,Nat.reduceAdd,Nat.reduceSub,Nat.reduceMul,Nat.reduceLT,Nat.reduceLeDiff,Int.reducePow,Int.reduceBEq,Int.reduceBNe,Int.reduceDiv,Int.reduceMod,Int.reduceEq,Int.reduceLT,Int.reduceLE,Int.reduceAdd,Int.reduceSub,Int.reduceMul,Int.reduceNeg,Int.reduceToNat,Int.reduceTDiv,Int.reduceTMod,↓reduceIte,t0,t3,df (show ¬ ((l.length:Nat):Int)<(l.length:Int) by omega),hr]
theorem rnear13_ (x:Int) (H:AH):SemCall Tryz.prog 104 [.int .i64 x] H (.bool (nearB x)) H []:=by
 refine pure_of ?_ rfl
 unfold nearB
 cases h1:decide (-67108864≤x) with
 | false=>
  refine XCal.of hm Tryz.func104 rfl (fun xs w=>Tryz.call104 xs w) Tryz.ntmps104 Tryz.results104 rfl ?_
  (refine sg h1 ?_;try exact⟨⟩)
 | true=>
  refine XCal.of hm Tryz.func104 rfl (fun xs w=>Tryz.call104 xs w) Tryz.ntmps104 Tryz.results104 rfl ?_
  (refine sg h1 ?_;try exact⟨⟩)
theorem rpaint13_ (p:Pnt) (H:AH):SemCall Tryz.prog 88 [pntV p] H (.bool (paintB p)) H []:=by
 refine pure_of ?_ rfl
 have k1:=fun H=>rnear13_ p.p.1 H
 have k2:=fun H=>rnear13_ p.p.2 H
 have k3:=fun H=>rnear13_ p.q.1 H
 have k4:=fun H=>rnear13_ p.q.2 H
 have k5:=fun H=>rnear13_ p.r H
 unfold paintB
 generalize nearB p.p.1=p1 at *
 generalize nearB p.p.2=p2 at *
 generalize nearB p.q.1=p3 at *
 generalize nearB p.q.2=p4 at *
 generalize nearB p.r=p5 at *
 cases h1:decide (0≤p.kind) with
 | false=>
  refine XCal.of hm Tryz.func88 rfl (fun xs w=>Tryz.call88 xs w) Tryz.ntmps88 Tryz.results88 rfl ?_
  (refine sg h1 ?_;try exact⟨⟩)
  repeat ((first|refine(k1 _).x ?_|refine(k2 _).x ?_|refine(k3 _).x ?_|refine(k4 _).x ?_|refine(k5 _).x ?_|refine drawnF ?_ (by decide +kernel));(refine sg h1 ?_;try exact⟨⟩))
 | true=>
  cases h2:decide (p.kind≤2) with
  | false=>
   refine XCal.of hm Tryz.func88 rfl (fun xs w=>Tryz.call88 xs w) Tryz.ntmps88 Tryz.results88 rfl ?_
   (refine sg (et h1 h2) ?_;try exact⟨⟩)
   repeat ((first|refine(k1 _).x ?_|refine(k2 _).x ?_|refine(k3 _).x ?_|refine(k4 _).x ?_|refine(k5 _).x ?_|refine drawnF ?_ (by decide +kernel));(refine sg (et h1 h2) ?_;try exact⟨⟩))
  | true=>
   cases h3:p1 with
   | false=>
    refine XCal.of hm Tryz.func88 rfl (fun xs w=>Tryz.call88 xs w) Tryz.ntmps88 Tryz.results88 rfl ?_
    (refine sg (et h1 (et h2 h3)) ?_;try exact⟨⟩)
    repeat ((first|refine(k1 _).x ?_|refine(k2 _).x ?_|refine(k3 _).x ?_|refine(k4 _).x ?_|refine(k5 _).x ?_|refine drawnF ?_ (by decide +kernel));(refine sg (et h1 (et h2 h3)) ?_;try exact⟨⟩))
   | true=>
    cases h4:p2 with
    | false=>
     refine XCal.of hm Tryz.func88 rfl (fun xs w=>Tryz.call88 xs w) Tryz.ntmps88 Tryz.results88 rfl ?_
     (refine sg (et h1 (et h2 (et h3 h4))) ?_;try exact⟨⟩)
     repeat ((first|refine(k1 _).x ?_|refine(k2 _).x ?_|refine(k3 _).x ?_|refine(k4 _).x ?_|refine(k5 _).x ?_|refine drawnF ?_ (by decide +kernel));(refine sg (et h1 (et h2 (et h3 h4))) ?_;try exact⟨⟩))
    | true=>
     cases h5:p3 with
     | false=>
      refine XCal.of hm Tryz.func88 rfl (fun xs w=>Tryz.call88 xs w) Tryz.ntmps88 Tryz.results88 rfl ?_
      (refine sg (et h1 (et h2 (et h3 (et h4 h5)))) ?_;try exact⟨⟩)
      repeat ((first|refine(k1 _).x ?_|refine(k2 _).x ?_|refine(k3 _).x ?_|refine(k4 _).x ?_|refine(k5 _).x ?_|refine drawnF ?_ (by decide +kernel));(refine sg (et h1 (et h2 (et h3 (et h4 h5)))) ?_;try exact⟨⟩))
     | true=>
      cases h6:p4 with
      | false=>
       refine XCal.of hm Tryz.func88 rfl (fun xs w=>Tryz.call88 xs w) Tryz.ntmps88 Tryz.results88 rfl ?_
       (refine sg (et h1 (et h2 (et h3 (et h4 (et h5 h6))))) ?_;try exact⟨⟩)
       repeat ((first|refine(k1 _).x ?_|refine(k2 _).x ?_|refine(k3 _).x ?_|refine(k4 _).x ?_|refine(k5 _).x ?_|refine drawnF ?_ (by decide +kernel));(refine sg (et h1 (et h2 (et h3 (et h4 (et h5 h6))))) ?_;try exact⟨⟩))
      | true=>
       refine XCal.of hm Tryz.func88 rfl (fun xs w=>Tryz.call88 xs w) Tryz.ntmps88 Tryz.results88 rfl ?_
       (refine sg (et h1 (et h2 (et h3 (et h4 (et h5 h6))))) ?_;try exact⟨⟩)
       repeat ((first|refine(k1 _).x ?_|refine(k2 _).x ?_|refine(k3 _).x ?_|refine(k4 _).x ?_|refine(k5 _).x ?_|refine drawnF ?_ (by decide +kernel));(refine sg (et h1 (et h2 (et h3 (et h4 (et h5 h6))))) ?_;try exact⟨⟩))
end Go.Proofs.YthhbglkokpablaaGreat
