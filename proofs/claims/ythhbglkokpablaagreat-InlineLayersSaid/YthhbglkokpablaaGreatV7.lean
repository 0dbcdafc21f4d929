/- Merged texts: Doc1 Doc2 Doc3 Doc4. -/
import Derived.Test.YthhbglkokpablaaGreatV6
/- Documents: the walks of what judges keys. -/
namespace Go.Proofs.YthhbglkokpablaaGreat
open Go Go.RowKit E
attribute [local irreducible] XRun XOps XCode XCal XLoop XQ SemCall
set_option linter.unusedSimpArgs false
set_option linter.unusedVariables false
theorem not_lt_d {a b:Int}:(!decide (a<b))=decide (b≤a):=by
 by_cases h:a<b
 ·rw[dt h,df (show ¬ b≤a by omega)];rfl
 ·rw[df h,dt (show b≤a by omega)];rfl
theorem easeR1_ (n lo hi:Int) (H:AH):SemCall Tryz.prog 128 [.int .i64 n,.int .i64 lo,.int .i64 hi] H (.bool (decide (lo≤n)&&decide (n≤hi))) H []:=by
 refine pure_of ?_ rfl
 cases h1:decide (lo≤n) with
 | false=>
  refine XCal.of hm Tryz.func128 rfl (fun xs w=>Tryz.call128 xs w) Tryz.ntmps128 Tryz.results128 rfl ?_
  (refine sg h1 ?_;try exact⟨⟩)
 | true=>
  refine XCal.of hm Tryz.func128 rfl (fun xs w=>Tryz.call128 xs w) Tryz.ntmps128 Tryz.results128 rfl ?_
  (refine sg h1 ?_;try exact⟨⟩)
abbrev ezV (e:Ez):Value:=.agg [.int .i64 e.x1,.int .i64 e.y1,.int .i64 e.x2,.int .i64 e.y2].toArray
theorem easeR_ (e:Ez) (H:AH):SemCall Tryz.prog 120 [ezV e] H (.bool (easeB e)) H []:=by
 refine pure_of ?_ rfl
 have c1:=fun H=>easeR1_ e.x1 0 65536 H
 have c2:=fun H=>easeR1_ e.x2 0 65536 H
 have c3:=fun H=>easeR1_ e.y1 (-131072) 196608 H
 have c4:=fun H=>easeR1_ e.y2 (-131072) 196608 H
 unfold easeB
 generalize (decide (0≤e.x1)&&decide (e.x1≤65536))=p1 at *
 generalize (decide (0≤e.x2)&&decide (e.x2≤65536))=p2 at *
 generalize (decide (-131072≤e.y1)&&decide (e.y1≤196608))=p3 at *
 generalize (decide (-131072≤e.y2)&&decide (e.y2≤196608))=p4 at *
 cases p1
 case' true=>cases p2
 case' true.true=>cases p3
 all_goals
  refine XCal.of hm Tryz.func120 rfl (fun xs w=>Tryz.call120 xs w) Tryz.ntmps120 Tryz.results120 rfl ?_
  (refine sg trivial ?_;try exact⟨⟩)
  repeat ((first|refine(c1 _).x ?_|refine(c2 _).x ?_|refine(c3 _).x ?_|refine(c4 _).x ?_|refine drawnF ?_ (by decide +kernel));(refine sg trivial ?_;try exact⟨⟩))
set_option maxHeartbeats 4000000 in
theorem kstep_ (i:Nat) (a t how:Int) (e:Ez) (H:AH):SemCall Tryz.prog 109 [.int .i64 (i:Int),.int .i64 a,.int .i64 t,.int .i64 how,ezV e] H (.bool (kstB (decide (i=0)) a t how e)) H []:=by
 refine pure_of ?_ rfl
 have hi:decide ((0:Int)<(i:Int)) = !decide (i=0):=by
  by_cases h:i=0
  ·rw[df (show ¬ (0:Int)<(i:Int) by omega),dt h];rfl
  ·rw[dt (show (0:Int)<(i:Int) by omega),df h];rfl
 unfold kstB
 generalize decide (i=0)=f at *
 have c1:=fun H=>easeR_ e H
 have bad:∀ X Y:Bool,tickB t=false→(tickB t&&X&&Y)=false:=fun X Y h=>by rw[h,Bool.false_and,Bool.false_and]
 by_cases h1:t < -1073741824
 ·rw[bad _ _ (by unfold tickB;rw[df (show ¬ -1073741824≤t by omega),Bool.false_and])]
  refine XCal.of hm Tryz.func109 rfl (fun xs w=>Tryz.call109 xs w) Tryz.ntmps109 Tryz.results109 rfl ?_
  (refine sg (dt h1) ?_;try exact⟨⟩)
 ·by_cases h2:1073741824<t
  ·rw[bad _ _ (by unfold tickB;rw[df (show ¬ t≤1073741824 by omega),Bool.and_false])]
   refine XCal.of hm Tryz.func109 rfl (fun xs w=>Tryz.call109 xs w) Tryz.ntmps109 Tryz.results109 rfl ?_
   (refine sg (et (df h1) (dt h2)) ?_;try exact⟨⟩)
  ·have ht:tickB t=true:=by unfold tickB;rw[dt (show -1073741824≤t by omega),dt (show t≤1073741824 by omega)];rfl
   rw[ht,Bool.true_and]
   cases hf:(f||decide (a<t)) with
   | false=>
    have hf0:f=false:=by cases f <;> simp_all
    subst hf0
    have h3:t≤a:=by simpa using hf
    rw[Bool.false_and]
    refine XCal.of hm Tryz.func109 rfl (fun xs w=>Tryz.call109 xs w) Tryz.ntmps109 Tryz.results109 rfl ?_
    (refine sg (et (df h1) (et (df h2) (et hi (et Bool.not_false (dt h3))))) ?_;try exact⟨⟩)
   | true=>
    rw[Bool.true_and]
    unfold howB
    have h3:f=true∨(f=false∧decide (t≤a)=false):=by
     cases f
     ·right;refine⟨rfl,?_⟩;simp at hf;exact df (by omega)
     ·exact .inl rfl
    by_cases hw:how=2
    ·rw[if_pos hw]
     rcases h3 with h3|⟨h3,h4⟩
     ·refine XCal.of hm Tryz.func109 rfl (fun xs w=>Tryz.call109 xs w) Tryz.ntmps109 Tryz.results109 rfl ?_
      (refine sg (et (df h1) (et (df h2) (et hi (et h3 (et Bool.not_true (bt hw)))))) ?_;try exact⟨⟩)
      repeat ((first|refine(c1 _).x ?_|refine drawnF ?_ (by decide +kernel));(refine sg trivial ?_;try exact⟨⟩))
     ·refine XCal.of hm Tryz.func109 rfl (fun xs w=>Tryz.call109 xs w) Tryz.ntmps109 Tryz.results109 rfl ?_
      (refine sg (et (df h1) (et (df h2) (et hi (et h3 (et h4 (et Bool.not_false (bt hw))))))) ?_;try exact⟨⟩)
      repeat ((first|refine(c1 _).x ?_|refine drawnF ?_ (by decide +kernel));(refine sg trivial ?_;try exact⟨⟩))
    ·rw[if_neg hw]
     by_cases w0:how=0
     ·rw[bt w0,Bool.true_or,Bool.true_and]
      rcases h3 with h3|⟨h3,h4⟩
      ·refine XCal.of hm Tryz.func109 rfl (fun xs w=>Tryz.call109 xs w) Tryz.ntmps109 Tryz.results109 rfl ?_
       simp only[go_sem,Nat.reduceEqDiff,Nat.reduceAdd,Nat.reduceSub,Nat.reduceMul,Nat.reduceLT,Nat.reduceLeDiff,Int.reducePow,Int.reduceBEq,Int.reduceBNe,Int.reduceDiv,Int.reduceMod,Int.reduceEq,Int.reduceLT,Int.reduceLE,Int.reduceAdd,Int.reduceSub,Int.reduceMul,Int.reduceNeg,Int.reduceToNat,Int.reduceTDiv,Int.reduceTMod,↓reduceIte,df h1,df h2,hi,h3,Bool.not_true,bf hw,bt w0,ez0]
      ·refine XCal.of hm Tryz.func109 rfl (fun xs w=>Tryz.call109 xs w) Tryz.ntmps109 Tryz.results109 rfl ?_
       simp only[go_sem,Nat.reduceEqDiff,Nat.reduceAdd,Nat.reduceSub,Nat.reduceMul,Nat.reduceLT,Nat.reduceLeDiff,Int.reducePow,Int.reduceBEq,Int.reduceBNe,Int.reduceDiv,Int.reduceMod,Int.reduceEq,Int.reduceLT,Int.reduceLE,Int.reduceAdd,Int.reduceSub,Int.reduceMul,Int.reduceNeg,Int.reduceToNat,Int.reduceTDiv,Int.reduceTMod,↓reduceIte,df h1,df h2,hi,h3,h4,Bool.not_false,bf hw,bt w0,ez0]
     ·by_cases w1:how=1
      ·rw[bf w0,bt w1,Bool.false_or,Bool.true_and]
       rcases h3 with h3|⟨h3,h4⟩
       ·refine XCal.of hm Tryz.func109 rfl (fun xs w=>Tryz.call109 xs w) Tryz.ntmps109 Tryz.results109 rfl ?_
        simp only[go_sem,Nat.reduceEqDiff,Nat.reduceAdd,Nat.reduceSub,Nat.reduceMul,Nat.reduceLT,Nat.reduceLeDiff,Int.reducePow,Int.reduceBEq,Int.reduceBNe,Int.reduceDiv,Int.reduceMod,Int.reduceEq,Int.reduceLT,Int.reduceLE,Int.reduceAdd,Int.reduceSub,Int.reduceMul,Int.reduceNeg,Int.reduceToNat,Int.reduceTDiv,Int.reduceTMod,↓reduceIte,df h1,df h2,hi,h3,Bool.not_true,bf hw,bf w0,bt w1,ez0]
       ·refine XCal.of hm Tryz.func109 rfl (fun xs w=>Tryz.call109 xs w) Tryz.ntmps109 Tryz.results109 rfl ?_
        simp only[go_sem,Nat.reduceEqDiff,Nat.reduceAdd,Nat.reduceSub,Nat.reduceMul,Nat.reduceLT,Nat.reduceLeDiff,Int.reducePow,Int.reduceBEq,Int.reduceBNe,Int.reduceDiv,Int.reduceMod,Int.reduceEq,Int.reduceLT,Int.reduceLE,Int.reduceAdd,Int.reduceSub,Int.reduceMul,Int.reduceNeg,Int.reduceToNat,Int.reduceTDiv,Int.reduceTMod,↓reduceIte,df h1,df h2,hi,h3,h4,Bool.not_false,bf hw,bf w0,bt w1,ez0]
      ·rw[bf w0,bf w1,Bool.false_or,Bool.false_and]
       rcases h3 with h3|⟨h3,h4⟩
       ·refine XCal.of hm Tryz.func109 rfl (fun xs w=>Tryz.call109 xs w) Tryz.ntmps109 Tryz.results109 rfl ?_
        (refine sg (et (df h1) (et (df h2) (et hi (et h3 (et Bool.not_true (et (bf hw) (et (bf w0) (bf w1)))))))) ?_;try exact⟨⟩)
       ·refine XCal.of hm Tryz.func109 rfl (fun xs w=>Tryz.call109 xs w) Tryz.ntmps109 Tryz.results109 rfl ?_
        (refine sg (et (df h1) (et (df h2) (et hi (et h3 (et h4 (et Bool.not_false (et (bf hw) (et (bf w0) (bf w1))))))))) ?_;try exact⟨⟩)
theorem drop_at {α:Type} {l:List α} {i:Nat} {x:α} (h:l[i]?=some x):l.drop i=x::l.drop (i+1):=by
 have hi:=(List.getElem?_eq_some_iff.1 h)
 rw[List.drop_eq_getElem_cons hi.1,hi.2]
set_option maxHeartbeats 4000000 in
theorem keyR_ (l:List Ky) (v:Value) (H:AH) (h:Kys H v l):SemCall Tryz.prog 97 [v] H (.bool (keysB l)) H []:=by
 refine pure_of ?_ rfl
 have hlen:=h.len
 obtain⟨va,ve,hv⟩:=h.form
 subst hv
 refine XCal.of hm Tryz.func97 rfl (fun xs w=>Tryz.call97 xs w) Tryz.ntmps97 Tryz.results97 rfl ?_
 (refine sg trivial ?_;try exact⟨⟩)
 refine keep (fun k T K D=>D=[]∧∃ (i:Nat) (a:Int),i+k=l.length∧Old H K∧H.length≤K.length∧keysB l=(keysGo (decide (i=0)) a (l.drop i)&&decide ((l.length:Int)≤32))∧T 0=.slice va l.length ve∧T 3=.int .i64 a∧T 6=.slice va l.length ve∧T 7=.int .i64 (l.length:Int)∧T 8=.int .i64 (i:Int)) l.length
  ⟨rfl,0,0,by omega,Old.refl _,by omega,rfl,by(refine sg trivial ?_;try exact⟨⟩),by(refine sg trivial ?_;try exact⟨⟩) <;> rfl,by(refine sg trivial ?_;try exact⟨⟩),by(refine sg trivial ?_;try exact⟨⟩),by(refine sg trivial ?_;try exact⟨⟩) <;> rfl⟩ ?_
 rintro k T K D ⟨rfl,i,a,hik,hold,hKl,hr,t0,t3,t6,t7,t8⟩
 have kd:∀ n,decide (K.length+n<H.length)=false:=fun n=>df (by omega)
 have kd0:decide (K.length<H.length)=false:=df (by omega)
 by_cases hk:i<l.length
 ·obtain⟨x,hx⟩:∃ x,l[i]?=some x:=⟨_,List.getElem?_eq_getElem hk⟩
  obtain⟨b,g,cells,rw_,c,hve,hb,hc,hcl,hle,hld,hgt⟩:=h.at hx
  have hc:c=kyC x:=hc
  subst hc
  have kb:=hold _ _ hb
  rw[drop_at hx] at hr
  simp only[keysGo] at hr
  rw[hve] at t0 t6
  have q0:(0:Int)≤(i:Int):=by omega
  have q1:(i:Int)<(l.length:Int):=by omega
  have w1:IntKind.i64.wrap ((i:Int)+1)=((i+1:Nat):Int):=by rw[wi (by omega) (by omega)];rfl
  have ks:=fun H=>kstep_ i a x.t x.how x.e H
  cases hs:kstB (decide (i=0)) a x.t x.how x.e with
  | false=>
   rw[hs] at ks hr
   (refine sg (et t0 (et t3 (et t6 (et t7 (et t8 (et (dt q1) (et q0 (et q1 (et Int.toNat_natCast (et Nat.zero_add (et kb (et hld (et kd kd0))))))))))))) ?_;try exact⟨⟩)
   repeat ((first|refine(ks _).x ?_|refine drawnF ?_ (by decide +kernel));(refine sg (et kd (et kd0 (et t0 (et t3 (et t6 (et t7 t8)))))) ?_;try exact⟨⟩))
   rw[hr];rfl
  | true=>
   rw[hs] at ks hr
   by_cases n1:x.v < -67108864
   ·(refine sg (et t0 (et t3 (et t6 (et t7 (et t8 (et (dt q1) (et q0 (et q1 (et Int.toNat_natCast (et Nat.zero_add (et kb (et hld (et kd kd0))))))))))))) ?_;try exact⟨⟩)
    repeat ((first|refine(ks _).x ?_|refine drawnF ?_ (by decide +kernel));(refine sg (et kd (et kd0 (et t0 (et t3 (et t6 (et t7 (et t8 (dt n1)))))))) ?_;try exact⟨⟩))
    rw[hr];unfold nearB;rw[df (show ¬ -67108864≤x.v by omega)];rfl
   ·by_cases n2:67108864<x.v
    ·(refine sg (et t0 (et t3 (et t6 (et t7 (et t8 (et (dt q1) (et q0 (et q1 (et Int.toNat_natCast (et Nat.zero_add (et kb (et hld (et kd kd0))))))))))))) ?_;try exact⟨⟩)
     repeat ((first|refine(ks _).x ?_|refine drawnF ?_ (by decide +kernel));(refine sg (et kd (et kd0 (et t0 (et t3 (et t6 (et t7 (et t8 (et (df n1) (dt n2))))))))) ?_;try exact⟨⟩))
     rw[hr];unfold nearB;rw[df (show ¬ x.v≤67108864 by omega),Bool.and_false];rfl
    ·have hn:nearB x.v=true:=by unfold nearB;rw[dt (show -67108864≤x.v by omega),dt (show x.v≤67108864 by omega)];rfl
     rw[hn] at hr
     (refine sg (et t0 (et t3 (et t6 (et t7 (et t8 (et (dt q1) (et q0 (et q1 (et Int.toNat_natCast (et Nat.zero_add (et kb (et hld (et kd kd0))))))))))))) ?_;try exact⟨⟩)
     repeat ((first|refine(ks _).x ?_|refine drawnF ?_ (by decide +kernel));(refine sg (et kd (et kd0 (et t0 (et t3 (et t6 (et t7 (et t8 (et (df n1) (et (df n2) w1))))))))) ?_;try exact⟨⟩))
     exact⟨k - 1,by omega,i+1,x.t,by omega,hold.app _,by omega,by rw[df (show ¬ i+1=0 by omega)];exact hr,hve.symm,rfl,hve.symm,rfl⟩
 ·have hi:i=l.length:=by omega
  subst hi
  rw[List.drop_eq_nil_of_le (by omega)] at hr
  (refine sg (et t0 (et t3 (et t6 (et t7 (et t8 (df (show ¬ ((l.length:Nat):Int)<(l.length:Int) by omega))))))) ?_;try exact⟨⟩)
  rw[hr];rfl
end Go.Proofs.YthhbglkokpablaaGreat
/- Documents: the walks of what judges colours, dashes, paths of keys, paints. -/
namespace Go.Proofs.YthhbglkokpablaaGreat
open Go Go.RowKit E
attribute [local irreducible] XRun XOps XCode XCal XLoop XQ SemCall
set_option linter.unusedSimpArgs false
set_option linter.unusedVariables false
set_option maxHeartbeats 4000000 in
theorem hueR_ (l:List Ck) (v:Value) (H:AH) (h:Cks H v l):SemCall Tryz.prog 116 [v] H (.bool (cksB l)) H []:=by
 refine pure_of ?_ rfl
 have hlen:=h.len
 obtain⟨va,ve,hv⟩:=h.form
 subst hv
 refine XCal.of hm Tryz.func116 rfl (fun xs w=>Tryz.call116 xs w) Tryz.ntmps116 Tryz.results116 rfl ?_
 (refine sg trivial ?_;try exact⟨⟩)
 refine keep (fun k T K D=>D=[]∧∃ (i:Nat) (a:Int),i+k=l.length∧Old H K∧H.length≤K.length∧cksB l=(cksGo (decide (i=0)) a (l.drop i)&&decide ((l.length:Int)≤32))∧T 0=.slice va l.length ve∧T 3=.int .i64 a∧T 6=.slice va l.length ve∧T 7=.int .i64 (l.length:Int)∧T 8=.int .i64 (i:Int)) l.length
  ⟨rfl,0,0,by omega,Old.refl _,by omega,rfl,by(refine sg trivial ?_;try exact⟨⟩),by(refine sg trivial ?_;try exact⟨⟩) <;> rfl,by(refine sg trivial ?_;try exact⟨⟩),by(refine sg trivial ?_;try exact⟨⟩),by(refine sg trivial ?_;try exact⟨⟩) <;> rfl⟩ ?_
 rintro k T K D ⟨rfl,i,a,hik,hold,hKl,hr,t0,t3,t6,t7,t8⟩
 have kd:∀ n,decide (K.length+n<H.length)=false:=fun n=>df (by omega)
 have kd0:decide (K.length<H.length)=false:=df (by omega)
 by_cases hk:i<l.length
 ·obtain⟨x,hx⟩:∃ x,l[i]?=some x:=⟨_,List.getElem?_eq_getElem hk⟩
  obtain⟨b,g,cells,rw_,c,hve,hb,hc,hcl,hle,hld,hgt⟩:=h.at hx
  have hc:c=ckC x:=hc
  subst hc
  have kb:=hold _ _ hb
  rw[drop_at hx] at hr
  simp only[cksGo] at hr
  rw[hve] at t0 t6
  have q0:(0:Int)≤(i:Int):=by omega
  have q1:(i:Int)<(l.length:Int):=by omega
  have w1:IntKind.i64.wrap ((i:Int)+1)=((i+1:Nat):Int):=by rw[wi (by omega) (by omega)];rfl
  have ks:=fun H=>kstep_ i a x.t x.how x.e H
  cases hs:kstB (decide (i=0)) a x.t x.how x.e with
  | false=>
   rw[hs] at ks hr
   (refine sg (et t0 (et t3 (et t6 (et t7 (et t8 (et (dt q1) (et q0 (et q1 (et Int.toNat_natCast (et Nat.zero_add (et kb (et hld (et kd kd0))))))))))))) ?_;try exact⟨⟩)
   repeat ((first|refine(ks _).x ?_|refine drawnF ?_ (by decide +kernel));(refine sg (et kd (et kd0 (et t0 (et t3 (et t6 (et t7 t8)))))) ?_;try exact⟨⟩))
   rw[hr];rfl
  | true=>
   rw[hs] at ks hr
   (refine sg (et t0 (et t3 (et t6 (et t7 (et t8 (et (dt q1) (et q0 (et q1 (et Int.toNat_natCast (et Nat.zero_add (et kb (et hld (et kd kd0))))))))))))) ?_;try exact⟨⟩)
   repeat ((first|refine(ks _).x ?_|refine drawnF ?_ (by decide +kernel));(refine sg (et kd (et kd0 (et t0 (et t3 (et t6 (et t7 (et t8 w1))))))) ?_;try exact⟨⟩))
   exact⟨k - 1,by omega,i+1,x.t,by omega,hold.app _,by omega,by rw[df (show ¬ i+1=0 by omega)];exact hr,hve.symm,rfl,hve.symm,rfl⟩
 ·have hi:i=l.length:=by omega
  subst hi
  rw[List.drop_eq_nil_of_le (by omega)] at hr
  (refine sg (et t0 (et t3 (et t6 (et t7 (et t8 (df (show ¬ ((l.length:Nat):Int)<(l.length:Int) by omega))))))) ?_;try exact⟨⟩)
  rw[hr];rfl
/-- Where the first is that something holds of. -/
def idxG {α:Type} (p:α→Bool):List α→Nat→Int
 | [],_=>-1
 | x::t,i=>if p x=true then (i:Int) else idxG p t (i+1)
theorem idxG_ge {α:Type} (p:α→Bool):∀ (l:List α) (i:Nat),decide (0≤idxG p l i)=l.any p
 | [],i=>rfl
 | x::t,i=>by
  cases h:p x with
  | true=>rw[idxG,if_pos h,List.any_cons,h,Bool.true_or];exact dt (by omega)
  | false=>rw[idxG,if_neg (by rw[h];decide),idxG_ge p t (i+1),List.any_cons,h,Bool.false_or]
def dashG (n:Int):Bool:=decide (n<65536)||decide (67108864<n)
theorem dashR1_ (n:Int) (H:AH):SemCall Tryz.prog 127 [.int .i64 n] H (.bool (dashG n)) H []:=by
 refine pure_of ?_ rfl
 unfold dashG
 cases h:decide (n<65536)
 all_goals
  refine XCal.of hm Tryz.func127 rfl (fun xs w=>Tryz.call127 xs w) Tryz.ntmps127 Tryz.results127 rfl ?_
  (refine sg h ?_;try exact⟨⟩)
theorem dash_all:∀ (l:List Int),(l.all fun n=>decide (65536≤n)&&decide (n≤67108864)) = !l.any dashG
 | []=>rfl
 | x::t=>by
  rw[List.all_cons,List.any_cons,dash_all t,Bool.not_or]
  congr 1
  unfold dashG
  rw[Bool.not_or,not_lt_d,not_lt_d]
theorem dIndex_ (l:List Int) (v:Value) (H:AH) (h:Ins H v l):SemCall Tryz.prog 131 [v,.func (.func 127) [].toArray [].toArray] H (.int .i64 (idxG dashG l 0)) H []:=by
 refine pure_of ?_ rfl
 have hlen:=h.len
 obtain⟨va,ve,hv⟩:=h.form
 subst hv
 refine XCal.of hm Tryz.func131 rfl (fun xs w=>Tryz.call131 xs w) Tryz.ntmps131 Tryz.results131 rfl ?_
 (refine sg trivial ?_;try exact⟨⟩)
 refine keep (fun k T H' D=>H=H'∧D=[]∧T 0=.slice va l.length ve∧T 1=.func (.func 127) [].toArray [].toArray∧T 7=.int .i64 (l.length:Int)∧∃ i:Nat,i+k=l.length∧T 8=.int .i64 (i:Int)∧idxG dashG (l.drop i) i=idxG dashG l 0) l.length ⟨rfl,rfl,rfl,rfl,rfl,0,by omega,rfl,rfl⟩ ?_
 rintro k T H' D ⟨rfl,rfl,h0,h1,h7,i,hi,h8,hr⟩
 by_cases hk:i<l.length
 ·obtain⟨x,hx⟩:∃ x,l[i]?=some x:=⟨_,List.getElem?_eq_getElem hk⟩
  obtain⟨b,g,cells,rw_,c,hve,hb,hc,hcl,hle,hld,hgt⟩:=h.at hx
  have hc:c=[.int .i64 x]:=hc
  subst hc
  have hg:=hgt 0 (by omega)
  rw[Nat.mul_one,Nat.add_zero] at hg
  have hg:cells[i]?=some (.int .i64 x):=hg
  rw[hve] at h0
  rw[drop_at hx,idxG] at hr
  have w1:IntKind.i64.wrap ((i:Int)+1)=((i+1:Nat):Int):=by rw[wi (by omega) (by omega)];rfl
  have c1:=fun H=>dashR1_ x H
  cases hd:dashG x with
  | true=>
   rw[hd] at c1
   rw[if_pos hd] at hr
   (refine sg (et h0 (et h1 (et h7 (et h8 (et (dt (show (i:Int)<(l.length:Int) by omega)) (et hb (et (show (0:Int)≤(i:Int) by omega) (et (show (i:Int)<(l.length:Int) by omega) (et Int.toNat_natCast (et Nat.zero_add (et Nat.mul_one hg))))))))))) ?_;try exact⟨⟩)
   refine(c1 _).x ?_
   (refine sg (et h0 (et h1 (et h7 h8))) ?_;try exact⟨⟩)
   rw[← hr]
  | false=>
   rw[hd] at c1
   rw[if_neg (by rw[hd];decide)] at hr
   (refine sg (et h0 (et h1 (et h7 (et h8 (et (dt (show (i:Int)<(l.length:Int) by omega)) (et hb (et (show (0:Int)≤(i:Int) by omega) (et (show (i:Int)<(l.length:Int) by omega) (et Int.toNat_natCast (et Nat.zero_add (et Nat.mul_one hg))))))))))) ?_;try exact⟨⟩)
   refine(c1 _).x ?_
   simp only[go_sem,Nat.reduceEqDiff,Nat.reduceAdd,Nat.reduceSub,Nat.reduceMul,Nat.reduceLT,Nat.reduceLeDiff,Int.reducePow,Int.reduceBEq,Int.reduceBNe,Int.reduceDiv,Int.reduceMod,Int.reduceEq,Int.reduceLT,Int.reduceLE,Int.reduceAdd,Int.reduceSub,Int.reduceMul,Int.reduceNeg,Int.reduceToNat,Int.reduceTDiv,Int.reduceTMod,↓reduceIte,h0,h1,h7,h8,w1]
   exact⟨k - 1,by omega,hve.symm,i+1,by omega,rfl,hr⟩
 ·rw[List.drop_eq_nil_of_le (by omega)] at hr
  simp only[go_sem,Nat.reduceEqDiff,Nat.reduceAdd,Nat.reduceSub,Nat.reduceMul,Nat.reduceLT,Nat.reduceLeDiff,Int.reducePow,Int.reduceBEq,Int.reduceBNe,Int.reduceDiv,Int.reduceMod,Int.reduceEq,Int.reduceLT,Int.reduceLE,Int.reduceAdd,Int.reduceSub,Int.reduceMul,Int.reduceNeg,Int.reduceToNat,Int.reduceTDiv,Int.reduceTMod,↓reduceIte,h0,h1,h7,h8,df (show ¬ (i:Int)<(l.length:Int) by omega)]
  rw[← hr];rfl
theorem dContains_ (l:List Int) (v:Value) (H:AH) (h:Ins H v l):SemCall Tryz.prog 126 [v,.func (.func 127) [].toArray [].toArray] H (.bool (l.any dashG)) H []:=by
 refine pure_of ?_ rfl
 refine XCal.of hm Tryz.func126 rfl (fun xs w=>Tryz.call126 xs w) Tryz.ntmps126 Tryz.results126 rfl ?_
 simp only[go_sem,Nat.reduceEqDiff,Nat.reduceAdd,Nat.reduceSub,Nat.reduceMul,Nat.reduceLT,Nat.reduceLeDiff,Int.reducePow,Int.reduceBEq,Int.reduceBNe,Int.reduceDiv,Int.reduceMod,Int.reduceEq,Int.reduceLT,Int.reduceLE,Int.reduceAdd,Int.reduceSub,Int.reduceMul,Int.reduceNeg,Int.reduceToNat,Int.reduceTDiv,Int.reduceTMod,↓reduceIte]
 repeat ((first|refine(dIndex_ l v _ h).x ?_|refine drawnF ?_ (by decide +kernel));simp only[go_sem,Nat.reduceEqDiff,Nat.reduceAdd,Nat.reduceSub,Nat.reduceMul,Nat.reduceLT,Nat.reduceLeDiff,Int.reducePow,Int.reduceBEq,Int.reduceBNe,Int.reduceDiv,Int.reduceMod,Int.reduceEq,Int.reduceLT,Int.reduceLE,Int.reduceAdd,Int.reduceSub,Int.reduceMul,Int.reduceNeg,Int.reduceToNat,Int.reduceTDiv,Int.reduceTMod,↓reduceIte,idxG_ge])
theorem dashR_ (l:List Int) (v:Value) (H:AH) (h:Ins H v l):SemCall Tryz.prog 117 [v] H (.bool (dashB l)) H []:=by
 refine pure_of ?_ rfl
 obtain⟨va,ve,hv⟩:=h.form
 subst hv
 unfold dashB
 rw[dash_all]
 cases hd:decide ((l.length:Int)≤8)
 all_goals
  refine XCal.of hm Tryz.func117 rfl (fun xs w=>Tryz.call117 xs w) Tryz.ntmps117 Tryz.results117 rfl ?_
  (refine sg hd ?_;try exact⟨⟩)
  repeat ((first|refine(dContains_ l _ _ h).x ?_|refine drawnF ?_ (by decide +kernel));(refine sg hd ?_;try exact⟨⟩))
theorem snear_ (x:Int) (H:AH):SemCall Tryz.prog 125 [.int .i64 x] H (.bool (nearB x)) H []:=by
 refine pure_of ?_ rfl
 unfold nearB
 cases h1:decide (-67108864≤x) with
 | false=>
  refine XCal.of hm Tryz.func125 rfl (fun xs w=>Tryz.call125 xs w) Tryz.ntmps125 Tryz.results125 rfl ?_
  (refine sg h1 ?_;try exact⟨⟩)
 | true=>
  refine XCal.of hm Tryz.func125 rfl (fun xs w=>Tryz.call125 xs w) Tryz.ntmps125 Tryz.results125 rfl ?_
  (refine sg h1 ?_;try exact⟨⟩)
theorem pnear_ (x:Int) (H:AH):SemCall Tryz.prog 118 [.int .i64 x] H (.bool (nearB x)) H []:=by
 refine pure_of ?_ rfl
 unfold nearB
 cases h1:decide (-67108864≤x) with
 | false=>
  refine XCal.of hm Tryz.func118 rfl (fun xs w=>Tryz.call118 xs w) Tryz.ntmps118 Tryz.results118 rfl ?_
  (refine sg h1 ?_;try exact⟨⟩)
 | true=>
  refine XCal.of hm Tryz.func118 rfl (fun xs w=>Tryz.call118 xs w) Tryz.ntmps118 Tryz.results118 rfl ?_
  (refine sg h1 ?_;try exact⟨⟩)
abbrev pntV (p:Pnt):Value:=.agg (pntC p).toArray
theorem spaint_ (p:Pnt) (H:AH):SemCall Tryz.prog 115 [pntV p] H (.bool (paintB p)) H []:=by
 refine pure_of ?_ rfl
 unfold paintB
 cases h1:nearB p.p.1 with
 | false=>
  cases g1:decide (0≤p.kind) <;> cases g2:decide (p.kind≤2)
  all_goals
   refine XCal.of hm Tryz.func115 rfl (fun xs w=>Tryz.call115 xs w) Tryz.ntmps115 Tryz.results115 rfl ?_
   simp only[go_sem,Nat.reduceEqDiff,Nat.reduceAdd,Nat.reduceSub,Nat.reduceMul,Nat.reduceLT,Nat.reduceLeDiff,Int.reducePow,Int.reduceBEq,Int.reduceBNe,Int.reduceDiv,Int.reduceMod,Int.reduceEq,Int.reduceLT,Int.reduceLE,Int.reduceAdd,Int.reduceSub,Int.reduceMul,Int.reduceNeg,Int.reduceToNat,Int.reduceTDiv,Int.reduceTMod,↓reduceIte,pntV,g1,g2]
   repeat ((first|refine(snear_ _ _).x ?_|refine drawnF ?_ (by decide +kernel));(refine sg (et h1 (et g1 g2)) ?_;try exact⟨⟩))
 | true=>
  cases h2:nearB p.p.2 with
  | false=>
   cases g1:decide (0≤p.kind) <;> cases g2:decide (p.kind≤2)
   all_goals
    refine XCal.of hm Tryz.func115 rfl (fun xs w=>Tryz.call115 xs w) Tryz.ntmps115 Tryz.results115 rfl ?_
    simp only[go_sem,Nat.reduceEqDiff,Nat.reduceAdd,Nat.reduceSub,Nat.reduceMul,Nat.reduceLT,Nat.reduceLeDiff,Int.reducePow,Int.reduceBEq,Int.reduceBNe,Int.reduceDiv,Int.reduceMod,Int.reduceEq,Int.reduceLT,Int.reduceLE,Int.reduceAdd,Int.reduceSub,Int.reduceMul,Int.reduceNeg,Int.reduceToNat,Int.reduceTDiv,Int.reduceTMod,↓reduceIte,pntV,g1,g2]
    repeat ((first|refine(snear_ _ _).x ?_|refine drawnF ?_ (by decide +kernel));(refine sg (et h1 (et h2 (et g1 g2))) ?_;try exact⟨⟩))
  | true=>
   cases h3:nearB p.q.1 with
   | false=>
    cases g1:decide (0≤p.kind) <;> cases g2:decide (p.kind≤2)
    all_goals
     refine XCal.of hm Tryz.func115 rfl (fun xs w=>Tryz.call115 xs w) Tryz.ntmps115 Tryz.results115 rfl ?_
     simp only[go_sem,Nat.reduceEqDiff,Nat.reduceAdd,Nat.reduceSub,Nat.reduceMul,Nat.reduceLT,Nat.reduceLeDiff,Int.reducePow,Int.reduceBEq,Int.reduceBNe,Int.reduceDiv,Int.reduceMod,Int.reduceEq,Int.reduceLT,Int.reduceLE,Int.reduceAdd,Int.reduceSub,Int.reduceMul,Int.reduceNeg,Int.reduceToNat,Int.reduceTDiv,Int.reduceTMod,↓reduceIte,pntV,g1,g2]
     repeat ((first|refine(snear_ _ _).x ?_|refine drawnF ?_ (by decide +kernel));(refine sg (et h1 (et h2 (et h3 (et g1 g2)))) ?_;try exact⟨⟩))
   | true=>
    cases h4:nearB p.q.2 with
    | false=>
     cases g1:decide (0≤p.kind) <;> cases g2:decide (p.kind≤2)
     all_goals
      refine XCal.of hm Tryz.func115 rfl (fun xs w=>Tryz.call115 xs w) Tryz.ntmps115 Tryz.results115 rfl ?_
      simp only[go_sem,Nat.reduceEqDiff,Nat.reduceAdd,Nat.reduceSub,Nat.reduceMul,Nat.reduceLT,Nat.reduceLeDiff,Int.reducePow,Int.reduceBEq,Int.reduceBNe,Int.reduceDiv,Int.reduceMod,Int.reduceEq,Int.reduceLT,Int.reduceLE,Int.reduceAdd,Int.reduceSub,Int.reduceMul,Int.reduceNeg,Int.reduceToNat,Int.reduceTDiv,Int.reduceTMod,↓reduceIte,pntV,g1,g2]
      repeat ((first|refine(snear_ _ _).x ?_|refine drawnF ?_ (by decide +kernel));(refine sg (et h1 (et h2 (et h3 (et h4 (et g1 g2))))) ?_;try exact⟨⟩))
    | true=>
     cases g1:decide (0≤p.kind) <;> cases g2:decide (p.kind≤2)
     all_goals
      refine XCal.of hm Tryz.func115 rfl (fun xs w=>Tryz.call115 xs w) Tryz.ntmps115 Tryz.results115 rfl ?_
      simp only[go_sem,Nat.reduceEqDiff,Nat.reduceAdd,Nat.reduceSub,Nat.reduceMul,Nat.reduceLT,Nat.reduceLeDiff,Int.reducePow,Int.reduceBEq,Int.reduceBNe,Int.reduceDiv,Int.reduceMod,Int.reduceEq,Int.reduceLT,Int.reduceLE,Int.reduceAdd,Int.reduceSub,Int.reduceMul,Int.reduceNeg,Int.reduceToNat,Int.reduceTDiv,Int.reduceTMod,↓reduceIte,pntV,g1,g2]
      repeat ((first|refine(snear_ _ _).x ?_|refine drawnF ?_ (by decide +kernel));(refine sg (et h1 (et h2 (et h3 (et h4 (et g1 g2))))) ?_;try exact⟨⟩))
theorem ppaint_ (p:Pnt) (H:AH):SemCall Tryz.prog 100 [pntV p] H (.bool (paintB p)) H []:=by
 refine pure_of ?_ rfl
 unfold paintB
 cases h1:nearB p.p.1 with
 | false=>
  cases g1:decide (0≤p.kind) <;> cases g2:decide (p.kind≤2)
  all_goals
   refine XCal.of hm Tryz.func100 rfl (fun xs w=>Tryz.call100 xs w) Tryz.ntmps100 Tryz.results100 rfl ?_
   simp only[go_sem,Nat.reduceEqDiff,Nat.reduceAdd,Nat.reduceSub,Nat.reduceMul,Nat.reduceLT,Nat.reduceLeDiff,Int.reducePow,Int.reduceBEq,Int.reduceBNe,Int.reduceDiv,Int.reduceMod,Int.reduceEq,Int.reduceLT,Int.reduceLE,Int.reduceAdd,Int.reduceSub,Int.reduceMul,Int.reduceNeg,Int.reduceToNat,Int.reduceTDiv,Int.reduceTMod,↓reduceIte,pntV,g1,g2]
   repeat ((first|refine(pnear_ _ _).x ?_|refine drawnF ?_ (by decide +kernel));(refine sg (et h1 (et g1 g2)) ?_;try exact⟨⟩))
 | true=>
  cases h2:nearB p.p.2 with
  | false=>
   cases g1:decide (0≤p.kind) <;> cases g2:decide (p.kind≤2)
   all_goals
    refine XCal.of hm Tryz.func100 rfl (fun xs w=>Tryz.call100 xs w) Tryz.ntmps100 Tryz.results100 rfl ?_
    simp only[go_sem,Nat.reduceEqDiff,Nat.reduceAdd,Nat.reduceSub,Nat.reduceMul,Nat.reduceLT,Nat.reduceLeDiff,Int.reducePow,Int.reduceBEq,Int.reduceBNe,Int.reduceDiv,Int.reduceMod,Int.reduceEq,Int.reduceLT,Int.reduceLE,Int.reduceAdd,Int.reduceSub,Int.reduceMul,Int.reduceNeg,Int.reduceToNat,Int.reduceTDiv,Int.reduceTMod,↓reduceIte,pntV,g1,g2]
    repeat ((first|refine(pnear_ _ _).x ?_|refine drawnF ?_ (by decide +kernel));(refine sg (et h1 (et h2 (et g1 g2))) ?_;try exact⟨⟩))
  | true=>
   cases h3:nearB p.q.1 with
   | false=>
    cases g1:decide (0≤p.kind) <;> cases g2:decide (p.kind≤2)
    all_goals
     refine XCal.of hm Tryz.func100 rfl (fun xs w=>Tryz.call100 xs w) Tryz.ntmps100 Tryz.results100 rfl ?_
     simp only[go_sem,Nat.reduceEqDiff,Nat.reduceAdd,Nat.reduceSub,Nat.reduceMul,Nat.reduceLT,Nat.reduceLeDiff,Int.reducePow,Int.reduceBEq,Int.reduceBNe,Int.reduceDiv,Int.reduceMod,Int.reduceEq,Int.reduceLT,Int.reduceLE,Int.reduceAdd,Int.reduceSub,Int.reduceMul,Int.reduceNeg,Int.reduceToNat,Int.reduceTDiv,Int.reduceTMod,↓reduceIte,pntV,g1,g2]
     repeat ((first|refine(pnear_ _ _).x ?_|refine drawnF ?_ (by decide +kernel));(refine sg (et h1 (et h2 (et h3 (et g1 g2)))) ?_;try exact⟨⟩))
   | true=>
    cases h4:nearB p.q.2 with
    | false=>
     cases g1:decide (0≤p.kind) <;> cases g2:decide (p.kind≤2)
     all_goals
      refine XCal.of hm Tryz.func100 rfl (fun xs w=>Tryz.call100 xs w) Tryz.ntmps100 Tryz.results100 rfl ?_
      simp only[go_sem,Nat.reduceEqDiff,Nat.reduceAdd,Nat.reduceSub,Nat.reduceMul,Nat.reduceLT,Nat.reduceLeDiff,Int.reducePow,Int.reduceBEq,Int.reduceBNe,Int.reduceDiv,Int.reduceMod,Int.reduceEq,Int.reduceLT,Int.reduceLE,Int.reduceAdd,Int.reduceSub,Int.reduceMul,Int.reduceNeg,Int.reduceToNat,Int.reduceTDiv,Int.reduceTMod,↓reduceIte,pntV,g1,g2]
      repeat ((first|refine(pnear_ _ _).x ?_|refine drawnF ?_ (by decide +kernel));(refine sg (et h1 (et h2 (et h3 (et h4 (et g1 g2))))) ?_;try exact⟨⟩))
    | true=>
     cases g1:decide (0≤p.kind) <;> cases g2:decide (p.kind≤2)
     all_goals
      refine XCal.of hm Tryz.func100 rfl (fun xs w=>Tryz.call100 xs w) Tryz.ntmps100 Tryz.results100 rfl ?_
      simp only[go_sem,Nat.reduceEqDiff,Nat.reduceAdd,Nat.reduceSub,Nat.reduceMul,Nat.reduceLT,Nat.reduceLeDiff,Int.reducePow,Int.reduceBEq,Int.reduceBNe,Int.reduceDiv,Int.reduceMod,Int.reduceEq,Int.reduceLT,Int.reduceLE,Int.reduceAdd,Int.reduceSub,Int.reduceMul,Int.reduceNeg,Int.reduceToNat,Int.reduceTDiv,Int.reduceTMod,↓reduceIte,pntV,g1,g2]
      repeat ((first|refine(pnear_ _ _).x ?_|refine drawnF ?_ (by decide +kernel));(refine sg (et h1 (et h2 (et h3 (et h4 (et g1 g2))))) ?_;try exact⟨⟩))
end Go.Proofs.YthhbglkokpablaaGreat
/- Documents: the walks of what judges paths of keys, shapes. -/
namespace Go.Proofs.YthhbglkokpablaaGreat
open Go Go.RowKit E
attribute [local irreducible] XRun XOps XCode XCal XLoop XQ SemCall
set_option linter.unusedSimpArgs false
set_option linter.unusedVariables false
theorem ald_two {cells:List Value} {o b g:Nat} {rw_:Bool} {x y:Value} (h1:cells[o]?=some x) (h2:cells[o+1]?=some y):ald (some true) (some 2) (some ⟨cells,g,rw_⟩) b o g=some (.agg [x,y].toArray,b):=by
 have l2:=(List.getElem?_eq_some_iff.1 h2)
 have l1:=(List.getElem?_eq_some_iff.1 h1)
 have e:cells.drop o=x::y::cells.drop (o+2):=by
  rw[List.drop_eq_getElem_cons l1.1,List.drop_eq_getElem_cons l2.1,l1.2,l2.2]
 have:o+2≤cells.length:=by have:=l2.1;omega
 simp only[ald,true_and,this,if_true]
 rw[e];rfl
theorem fits_ (p q:PL) (pv qv:Value) (H:AH) (hp:Pts H pv p.2) (hq:Pts H qv q.2):SemCall Tryz.prog 130 [.agg [.bool p.1,pv].toArray,.agg [.bool q.1,qv].toArray] H (.bool (fitsB p q)) H []:=by
 refine pure_of ?_ rfl
 obtain⟨a1,e1,rfl⟩:=hp.form
 obtain⟨a2,e2,rfl⟩:=hq.form
 unfold fitsB
 by_cases hl:(p.2.length:Int)=(q.2.length:Int)
 ·rw[dt hl,Bool.true_and]
  refine XCal.of hm Tryz.func130 rfl (fun xs w=>Tryz.call130 xs w) Tryz.ntmps130 Tryz.results130 rfl ?_
  (refine sg (bt hl) ?_;try exact⟨⟩)
 ·rw[df hl,Bool.false_and]
  refine XCal.of hm Tryz.func130 rfl (fun xs w=>Tryz.call130 xs w) Tryz.ntmps130 Tryz.results130 rfl ?_
  (refine sg (bf hl) ?_;try exact⟨⟩)
set_option maxHeartbeats 4000000 in
theorem pkeys_ (l:List Pk) (v:Value) (H:AH) (h:Pks H v l):SemCall Tryz.prog 124 [v] H (.bool (pksB l)) H []:=by
 refine pure_of ?_ rfl
 have hlen:=h.len
 obtain⟨va,ve,hv⟩:=h.form
 subst hv
 refine XCal.of hm Tryz.func124 rfl (fun xs w=>Tryz.call124 xs w) Tryz.ntmps124 Tryz.results124 rfl ?_
 (refine sg trivial ?_;try exact⟨⟩)
 obtain⟨z,hz⟩:∃ z,(l[0]?).elim (false,[]) (·.p)=z:=⟨_,rfl⟩
 have hB:pksB l=(pksGo z true 0 l&&decide ((l.length:Int)≤32)):=by unfold pksB;rw[hz]
 refine keep (fun k T K D=>D=[]∧∃ (i:Nat) (a:Int),i+k=l.length∧Old H K∧H.length≤K.length∧pksB l=(pksGo z (decide (i=0)) a (l.drop i)&&decide ((l.length:Int)≤32))∧T 0=.slice va l.length ve∧T 3=.int .i64 a∧T 6=.slice va l.length ve∧T 7=.int .i64 (l.length:Int)∧T 8=.int .i64 (i:Int)) l.length
  ⟨rfl,0,0,by omega,Old.refl _,by omega,hB,by(refine sg trivial ?_;try exact⟨⟩),by(refine sg trivial ?_;try exact⟨⟩) <;> rfl,by(refine sg trivial ?_;try exact⟨⟩),by(refine sg trivial ?_;try exact⟨⟩),by(refine sg trivial ?_;try exact⟨⟩) <;> rfl⟩ ?_
 clear hB
 rintro k T K D ⟨rfl,i,a,hik,hold,hKl,hr,t0,t3,t6,t7,t8⟩
 have kd:∀ n,decide (K.length+n<H.length)=false:=fun n=>df (by omega)
 have kd0:decide (K.length<H.length)=false:=df (by omega)
 by_cases hk:i<l.length
 ·obtain⟨x,hx⟩:∃ x,l[i]?=some x:=⟨_,List.getElem?_eq_getElem hk⟩
  obtain⟨y,hy⟩:∃ y,l[0]?=some y:=⟨_,List.getElem?_eq_getElem (by omega)⟩
  obtain⟨b,g,cells,rw_,c,hve,hb,⟨pv,hc,hp⟩,hcl,hle,hld,hgt⟩:=h.at hx
  subst hc
  obtain⟨b',g',cells',rw',c',hve',hb',⟨qv,hc',hq⟩,hcl',hle',hld',hgt'⟩:=h.at hy
  subst hc'
  rw[hve] at hve'
  cases hve'
  rw[hb] at hb'
  cases hb'
  rw[hy] at hz
  have hz:y.p=z:=hz
  have kb:=hold _ _ hb
  have l1:=hgt' 1 (by omega)
  have l2:=hgt' 2 (by omega)
  rw[Nat.zero_mul,Nat.zero_add] at l1 l2
  have l12:=fun c:Nat=>ald_two (b:=c) (g:=g) (rw_:=rw_) (o:=1) (x:=.bool y.p.1) (y:=qv) l1 l2
  have hpk:=(hp.old hold).app [⟨[.int .i64 x.t,.bool x.p.1,pv,.int .i64 x.how,.int .i64 x.e.x1,.int .i64 x.e.y1,.int .i64 x.e.x2,.int .i64 x.e.y2],0,true⟩]
  have hqk:=(hq.old hold).app [⟨[.int .i64 x.t,.bool x.p.1,pv,.int .i64 x.how,.int .i64 x.e.x1,.int .i64 x.e.y1,.int .i64 x.e.x2,.int .i64 x.e.y2],0,true⟩]
  rw[drop_at hx] at hr
  simp only[pksGo] at hr
  rw[hve] at t0 t6
  have q0:(0:Int)≤(i:Int):=by omega
  have q1:(i:Int)<(l.length:Int):=by omega
  have q2:(0:Int)<(l.length:Int):=by omega
  have w1:IntKind.i64.wrap ((i:Int)+1)=((i+1:Nat):Int):=by rw[wi (by omega) (by omega)];rfl
  have ks:=fun H=>kstep_ i a x.t x.how x.e H
  have k2:=empty_ x.p.1 x.p.2 pv _ hpk
  have k3:=right_ x.p.1 x.p.2 pv _ hpk
  have k4:=fits_ x.p y.p pv qv _ hpk hqk
  rw[show fitsB x.p y.p=fitsB x.p z by rw[hz]] at k4
  have he:((x.p.2.length:Int)==0)=decide ((x.p.2.length:Int)=0):=rfl
  rw[he] at k2
  generalize decide ((x.p.2.length:Int)=0)=E1 at *
  generalize kstB (decide (i=0)) a x.t x.how x.e=E0 at *
  generalize rightB x.p.1 x.p.2=E2 at *
  generalize fitsB x.p z=E3 at *
  cases E0
  case' true=>cases E1
  case' true.false=>cases E2
  case' true.false.true=>cases E3
  all_goals
   (refine sg (et t0 (et t3 (et t6 (et t7 (et t8 (et (dt q1) (et q0 (et q1 (et Int.toNat_natCast (et Nat.zero_add (et kb (et hld (et kd kd0))))))))))))) ?_;try exact⟨⟩)
   repeat ((first|refine(ks _).x ?_|refine(k2).x ?_|refine(k3).x ?_|refine(k4).x ?_|refine drawnF ?_ (by decide +kernel));simp only[go_sem,Nat.reduceEqDiff,Nat.reduceAdd,Nat.reduceSub,Nat.reduceMul,Nat.reduceLT,Nat.reduceLeDiff,Int.reducePow,Int.reduceBEq,Int.reduceBNe,Int.reduceDiv,Int.reduceMod,Int.reduceEq,Int.reduceLT,Int.reduceLE,Int.reduceAdd,Int.reduceSub,Int.reduceMul,Int.reduceNeg,Int.reduceToNat,Int.reduceTDiv,Int.reduceTMod,↓reduceIte,kd,kd0,t0,t3,t6,t7,t8,q0,q1,q2,w1,old_get kb,l12,Int.toNat_natCast,Int.reduceToNat,Nat.zero_add,Nat.zero_mul,Bool.not_true,Bool.not_false])
  all_goals
   first|(rw[hr];rfl)|exact⟨k - 1,by omega,i+1,x.t,by omega,hold.app _,by omega,by rw[df (show ¬ i+1=0 by omega)];exact hr,hve.symm,rfl,hve.symm,rfl⟩
 ·have hi:i=l.length:=by omega
  subst hi
  rw[List.drop_eq_nil_of_le (by omega)] at hr
  simp only[go_sem,Nat.reduceEqDiff,Nat.reduceAdd,Nat.reduceSub,Nat.reduceMul,Nat.reduceLT,Nat.reduceLeDiff,Int.reducePow,Int.reduceBEq,Int.reduceBNe,Int.reduceDiv,Int.reduceMod,Int.reduceEq,Int.reduceLT,Int.reduceLE,Int.reduceAdd,Int.reduceSub,Int.reduceMul,Int.reduceNeg,Int.reduceToNat,Int.reduceTDiv,Int.reduceTMod,↓reduceIte,t0,t3,t6,t7,t8,df (show ¬ ((l.length:Nat):Int)<(l.length:Int) by omega)]
  rw[hr];rfl
end Go.Proofs.YthhbglkokpablaaGreat
/- Documents: the walks of what judges shapes. -/
namespace Go.Proofs.YthhbglkokpablaaGreat
open Go Go.RowKit E
attribute [local irreducible] XRun XOps XCode XCal XLoop XQ SemCall
set_option linter.unusedSimpArgs false
set_option linter.unusedVariables false
abbrev shV (s:Sh) (vw vh vp vc vd vda vf vt:Value):Value:=.agg (shC s vw vh vp vc vd vda vf vt).toArray
set_option maxHeartbeats 4000000 in
theorem form_ (s:Sh) (vw vh vp vc vd vda vf vt:Value) (H:AH) (h:ShV H s vw vh vp vc vd vda vf vt):SemCall Tryz.prog 114 [shV s vw vh vp vc vd vda vf vt] H (.bool (formB s)) H []:=by
 refine pure_of ?_ rfl
 obtain⟨a1,e1,rfl⟩:=h.w.form
 obtain⟨a2,e2,rfl⟩:=h.h.form
 obtain⟨a3,e3,rfl⟩:=h.paths.form
 have k1:=fun L=>keyR_ s.w _ (H++L) (h.w.old KyE.m (Old.app' H L))
 have k2:=fun L=>keyR_ s.h _ (H++L) (h.h.old KyE.m (Old.app' H L))
 have k3:=fun L=>pkeys_ s.paths _ (H++L) (h.paths.old PkE.m (Old.app' H L))
 obtain⟨r,hr⟩:∃ r,formB s=r:=⟨_,rfl⟩
 rw[hr]
 unfold formB at hr
 by_cases f1:s.form<0
 ·rw[if_pos (.inl f1)] at hr
  refine XCal.of hm Tryz.func114 rfl (fun xs w=>Tryz.call114 xs w) Tryz.ntmps114 Tryz.results114 rfl ?_
  (refine sg (dt f1) ?_;try exact⟨⟩)
  rw[← hr]
 ·by_cases f2:3<s.form
  ·rw[if_pos (.inr f2)] at hr
   refine XCal.of hm Tryz.func114 rfl (fun xs w=>Tryz.call114 xs w) Tryz.ntmps114 Tryz.results114 rfl ?_
   (refine sg (et (df f1) (dt f2)) ?_;try exact⟨⟩)
   rw[← hr]
  ·rw[if_neg (by omega)] at hr
   by_cases g:s.form=2
   ·by_cases n1:s.n<2
    ·rw[if_pos (by omega)] at hr
     refine XCal.of hm Tryz.func114 rfl (fun xs w=>Tryz.call114 xs w) Tryz.ntmps114 Tryz.results114 rfl ?_
     (refine sg (et (df f1) (et (df f2) (et (bt g) (dt n1)))) ?_;try exact⟨⟩)
     rw[← hr]
    ·by_cases n2:16<s.n
     ·rw[if_pos (by omega)] at hr
      refine XCal.of hm Tryz.func114 rfl (fun xs w=>Tryz.call114 xs w) Tryz.ntmps114 Tryz.results114 rfl ?_
      (refine sg (et (df f1) (et (df f2) (et (bt g) (et (df n1) (dt n2))))) ?_;try exact⟨⟩)
      rw[← hr]
     ·rw[if_neg (by omega),if_neg (by omega)] at hr
      rw[← hr]
      clear hr
      cases c1:decide ((s.paths.length:Int)=0) with
      | false=>
       have c1':((s.paths.length:Int)==0)=decide ((s.paths.length:Int)=0):=rfl
       rw[c1] at c1'
       refine XCal.of hm Tryz.func114 rfl (fun xs w=>Tryz.call114 xs w) Tryz.ntmps114 Tryz.results114 rfl ?_
       (refine sg (et (df f1) (et (df f2) (et (bt g) (et (nt g) (et (df n1) (et (df n2) (et (bf (show ¬ s.form=3 by omega)) c1'))))))) ?_;try exact⟨⟩)
       repeat ((first|refine(k1 _).x ?_|refine(k2 _).x ?_|refine drawnF ?_ (by decide +kernel));(refine sg (et c1 c1') ?_;try exact⟨⟩))
      | true=>
       cases c2:keysB s.w with
       | false=>
        have c1':((s.paths.length:Int)==0)=decide ((s.paths.length:Int)=0):=rfl
        rw[c1] at c1'
        refine XCal.of hm Tryz.func114 rfl (fun xs w=>Tryz.call114 xs w) Tryz.ntmps114 Tryz.results114 rfl ?_
        (refine sg (et (df f1) (et (df f2) (et (bt g) (et (nt g) (et (df n1) (et (df n2) (et (bf (show ¬ s.form=3 by omega)) c1'))))))) ?_;try exact⟨⟩)
        repeat ((first|refine(k1 _).x ?_|refine(k2 _).x ?_|refine drawnF ?_ (by decide +kernel));(refine sg (et c1 (et c2 c1')) ?_;try exact⟨⟩))
       | true=>
        have c1':((s.paths.length:Int)==0)=decide ((s.paths.length:Int)=0):=rfl
        rw[c1] at c1'
        refine XCal.of hm Tryz.func114 rfl (fun xs w=>Tryz.call114 xs w) Tryz.ntmps114 Tryz.results114 rfl ?_
        (refine sg (et (df f1) (et (df f2) (et (bt g) (et (nt g) (et (df n1) (et (df n2) (et (bf (show ¬ s.form=3 by omega)) c1'))))))) ?_;try exact⟨⟩)
        repeat ((first|refine(k1 _).x ?_|refine(k2 _).x ?_|refine drawnF ?_ (by decide +kernel));(refine sg (et c1 (et c2 c1')) ?_;try exact⟨⟩))
   ·by_cases n1:s.n=0
    ·rw[if_neg (by omega)] at hr
     by_cases g3:s.form=3
     ·rw[if_pos g3] at hr
      rw[← hr]
      clear hr
      cases c1:decide ((s.w.length:Int)=0) with
      | false=>
       have c1':((s.w.length:Int)==0)=decide ((s.w.length:Int)=0):=rfl
       have c2':((s.h.length:Int)==0)=decide ((s.h.length:Int)=0):=rfl
       simp only[c1] at c1' c2'
       refine XCal.of hm Tryz.func114 rfl (fun xs w=>Tryz.call114 xs w) Tryz.ntmps114 Tryz.results114 rfl ?_
       (refine sg (et (df f1) (et (df f2) (et (bf g) (et (nf g) (et (nt n1) (et (bt g3) (et c1' c2'))))))) ?_;try exact⟨⟩)
       repeat ((first|refine(k3 _).x ?_|refine drawnF ?_ (by decide +kernel));(refine sg (et c1 (et c1' c2')) ?_;try exact⟨⟩))
      | true=>
       cases c2:decide ((s.h.length:Int)=0) with
       | false=>
        have c1':((s.w.length:Int)==0)=decide ((s.w.length:Int)=0):=rfl
        have c2':((s.h.length:Int)==0)=decide ((s.h.length:Int)=0):=rfl
        simp only[c1,c2] at c1' c2'
        refine XCal.of hm Tryz.func114 rfl (fun xs w=>Tryz.call114 xs w) Tryz.ntmps114 Tryz.results114 rfl ?_
        (refine sg (et (df f1) (et (df f2) (et (bf g) (et (nf g) (et (nt n1) (et (bt g3) (et c1' c2'))))))) ?_;try exact⟨⟩)
        repeat ((first|refine(k3 _).x ?_|refine drawnF ?_ (by decide +kernel));(refine sg (et c1 (et c2 (et c1' c2'))) ?_;try exact⟨⟩))
       | true=>
        have c1':((s.w.length:Int)==0)=decide ((s.w.length:Int)=0):=rfl
        have c2':((s.h.length:Int)==0)=decide ((s.h.length:Int)=0):=rfl
        simp only[c1,c2] at c1' c2'
        refine XCal.of hm Tryz.func114 rfl (fun xs w=>Tryz.call114 xs w) Tryz.ntmps114 Tryz.results114 rfl ?_
        (refine sg (et (df f1) (et (df f2) (et (bf g) (et (nf g) (et (nt n1) (et (bt g3) (et c1' c2'))))))) ?_;try exact⟨⟩)
        repeat ((first|refine(k3 _).x ?_|refine drawnF ?_ (by decide +kernel));(refine sg (et c1 (et c2 (et c1' c2'))) ?_;try exact⟨⟩))
     ·rw[if_neg g3] at hr
      rw[← hr]
      clear hr
      cases c1:decide ((s.paths.length:Int)=0) with
      | false=>
       have c1':((s.paths.length:Int)==0)=decide ((s.paths.length:Int)=0):=rfl
       rw[c1] at c1'
       refine XCal.of hm Tryz.func114 rfl (fun xs w=>Tryz.call114 xs w) Tryz.ntmps114 Tryz.results114 rfl ?_
       (refine sg (et (df f1) (et (df f2) (et (bf g) (et (nf g) (et (nt n1) (et (bf g3) c1')))))) ?_;try exact⟨⟩)
       repeat ((first|refine(k1 _).x ?_|refine(k2 _).x ?_|refine drawnF ?_ (by decide +kernel));(refine sg (et c1 c1') ?_;try exact⟨⟩))
      | true=>
       cases c2:keysB s.w with
       | false=>
        have c1':((s.paths.length:Int)==0)=decide ((s.paths.length:Int)=0):=rfl
        rw[c1] at c1'
        refine XCal.of hm Tryz.func114 rfl (fun xs w=>Tryz.call114 xs w) Tryz.ntmps114 Tryz.results114 rfl ?_
        (refine sg (et (df f1) (et (df f2) (et (bf g) (et (nf g) (et (nt n1) (et (bf g3) c1')))))) ?_;try exact⟨⟩)
        repeat ((first|refine(k1 _).x ?_|refine(k2 _).x ?_|refine drawnF ?_ (by decide +kernel));(refine sg (et c1 (et c2 c1')) ?_;try exact⟨⟩))
       | true=>
        have c1':((s.paths.length:Int)==0)=decide ((s.paths.length:Int)=0):=rfl
        rw[c1] at c1'
        refine XCal.of hm Tryz.func114 rfl (fun xs w=>Tryz.call114 xs w) Tryz.ntmps114 Tryz.results114 rfl ?_
        (refine sg (et (df f1) (et (df f2) (et (bf g) (et (nf g) (et (nt n1) (et (bf g3) c1')))))) ?_;try exact⟨⟩)
        repeat ((first|refine(k1 _).x ?_|refine(k2 _).x ?_|refine drawnF ?_ (by decide +kernel));(refine sg (et c1 (et c2 c1')) ?_;try exact⟨⟩))
    ·rw[if_pos (by omega)] at hr
     refine XCal.of hm Tryz.func114 rfl (fun xs w=>Tryz.call114 xs w) Tryz.ntmps114 Tryz.results114 rfl ?_
     (refine sg (et (df f1) (et (df f2) (et (bf g) (et (nf g) (nf n1))))) ?_;try exact⟨⟩)
     rw[← hr]
set_option maxHeartbeats 4000000 in
theorem shapeR_ (s:Sh) (vw vh vp vc vd vda vf vt:Value) (H:AH) (h:ShV H s vw vh vp vc vd vda vf vt):SemCall Tryz.prog 99 [shV s vw vh vp vc vd vda vf vt] H (.bool (shapeB s)) H []:=by
  refine pure_of ?_ rfl
  have k1:=fun L=>form_ s _ _ _ _ _ _ _ _ (H++L) (h.old (Old.app' H L))
  have k2:=fun L=>hueR_ s.colors _ (H++L) (h.colors.old CkE.m (Old.app' H L))
  have k3:=fun L=>keyR_ s.width _ (H++L) (h.width.old KyE.m (Old.app' H L))
  have k4:=fun L=>keyR_ s.frm _ (H++L) (h.frm.old KyE.m (Old.app' H L))
  have k5:=fun L=>keyR_ s.to _ (H++L) (h.to.old KyE.m (Old.app' H L))
  have k6:=fun L=>dashR_ s.dash _ (H++L) (h.dash.old InE.m (Old.app' H L))
  have k7:=fun H=>spaint_ s.paint H
  have R:∀ x:Int,((x==0)=true∧(x==0)=true)∨((x==0)=false∧(x==1)=true)∨((x==0)=false∧(x==1)=false):=fun x=>by
    cases h1:(x==0) <;> cases h2:(x==1) <;> simp
  obtain⟨a1,e1,rfl⟩:=h.colors.form
  obtain⟨a2,e2,rfl⟩:=h.width.form
  obtain⟨a3,e3,rfl⟩:=h.frm.form
  obtain⟨a4,e4,rfl⟩:=h.to.form
  obtain⟨a5,e5,rfl⟩:=h.dash.form
  obtain⟨q,hq⟩:∃ q,shapeB s=q:=⟨_,rfl⟩
  rw[hq]
  unfold shapeB at hq
  generalize formB s=p1 at *
  generalize paintB s.paint=p2 at *
  generalize cksB s.colors=p3 at *
  generalize keysB s.width=p4 at *
  generalize keysB s.frm=p5 at *
  generalize keysB s.to=p6 at *
  generalize dashB s.dash=p7 at *
  cases p1 with
  | false=>
    simp only[Bool.false_and] at hq
    subst hq
    refine XCal.of hm Tryz.func99 rfl (fun xs w=>Tryz.call99 xs w) Tryz.ntmps99 Tryz.results99 rfl ?_
    (refine sg trivial ?_;try exact⟨⟩)
    repeat ((first|refine(k1 _).x ?_|refine drawnF ?_ (by decide +kernel));(refine sg trivial ?_;try exact⟨⟩))
  | true=>
    rcases R s.rule with ⟨r,r'⟩|⟨r,r'⟩|⟨r,r'⟩
    case' inr.inr=>
      simp only[r,r',Bool.or_self,Bool.and_false,Bool.false_and] at hq
      subst hq
      refine XCal.of hm Tryz.func99 rfl (fun xs w=>Tryz.call99 xs w) Tryz.ntmps99 Tryz.results99 rfl ?_
      (refine sg trivial ?_;try exact⟨⟩)
      repeat ((first | refine (k1 _).x ?_ | refine drawnF ?_ (by decide +kernel)); (refine sg (et r r') ?_; try exact ⟨⟩))
    all_goals
      cases h2 : p2 with
      | false =>
        first
        | (simp only [r, r', h2, Bool.true_and, Bool.and_true, Bool.false_and, Bool.and_false, Bool.true_or, Bool.false_or, Bool.or_false, Bool.or_true, Bool.or_self, Bool.and_self] at hq
           subst hq
           refine XCal.of hm Tryz.func99 rfl (fun xs w => Tryz.call99 xs w) Tryz.ntmps99 Tryz.results99 rfl ?_
           (refine sg trivial ?_;try exact⟨⟩)
           repeat ((first|refine(k1 _).x ?_|refine(k2 _).x ?_|refine(k3 _).x ?_|refine(k4 _).x ?_|refine(k5 _).x ?_|refine(k6 _).x ?_|refine(k7 _).x ?_|refine drawnF ?_ (by decide +kernel));(refine sg (et r (et r' h2)) ?_;try exact⟨⟩))
           done)
        | (rcases R s.cap with ⟨c,c'⟩|⟨c,c'⟩|⟨c,c'⟩
           all_goals
             simp only[r,r',c,c',h2,Bool.true_and,Bool.and_true,Bool.false_and,Bool.and_false,Bool.true_or,Bool.false_or,Bool.or_false,Bool.or_true,Bool.or_self,Bool.and_self] at hq
             subst hq
             refine XCal.of hm Tryz.func99 rfl (fun xs w=>Tryz.call99 xs w) Tryz.ntmps99 Tryz.results99 rfl ?_
             (refine sg trivial ?_;try exact⟨⟩)
             repeat ((first|refine(k1 _).x ?_|refine(k2 _).x ?_|refine(k3 _).x ?_|refine(k4 _).x ?_|refine(k5 _).x ?_|refine(k6 _).x ?_|refine(k7 _).x ?_|refine drawnF ?_ (by decide +kernel));(refine sg (et r (et r' (et c (et c' h2)))) ?_;try exact⟨⟩)))
      | true=>
        cases h3:p3 with
        | false=>
          first
          | (simp only[r,r',h2,h3,Bool.true_and,Bool.and_true,Bool.false_and,Bool.and_false,Bool.true_or,Bool.false_or,Bool.or_false,Bool.or_true,Bool.or_self,Bool.and_self] at hq
             subst hq
             refine XCal.of hm Tryz.func99 rfl (fun xs w=>Tryz.call99 xs w) Tryz.ntmps99 Tryz.results99 rfl ?_
             (refine sg trivial ?_;try exact⟨⟩)
             repeat ((first|refine(k1 _).x ?_|refine(k2 _).x ?_|refine(k3 _).x ?_|refine(k4 _).x ?_|refine(k5 _).x ?_|refine(k6 _).x ?_|refine(k7 _).x ?_|refine drawnF ?_ (by decide +kernel));(refine sg (et r (et r' (et h2 h3))) ?_;try exact⟨⟩))
             done)
          | (rcases R s.cap with ⟨c,c'⟩|⟨c,c'⟩|⟨c,c'⟩
             all_goals
               simp only[r,r',c,c',h2,h3,Bool.true_and,Bool.and_true,Bool.false_and,Bool.and_false,Bool.true_or,Bool.false_or,Bool.or_false,Bool.or_true,Bool.or_self,Bool.and_self] at hq
               subst hq
               refine XCal.of hm Tryz.func99 rfl (fun xs w=>Tryz.call99 xs w) Tryz.ntmps99 Tryz.results99 rfl ?_
               (refine sg trivial ?_;try exact⟨⟩)
               repeat ((first|refine(k1 _).x ?_|refine(k2 _).x ?_|refine(k3 _).x ?_|refine(k4 _).x ?_|refine(k5 _).x ?_|refine(k6 _).x ?_|refine(k7 _).x ?_|refine drawnF ?_ (by decide +kernel));(refine sg (et r (et r' (et c (et c' (et h2 h3))))) ?_;try exact⟨⟩)))
        | true=>
          cases h4:p4 with
          | false=>
            first
            | (simp only[r,r',h2,h3,h4,Bool.true_and,Bool.and_true,Bool.false_and,Bool.and_false,Bool.true_or,Bool.false_or,Bool.or_false,Bool.or_true,Bool.or_self,Bool.and_self] at hq
               subst hq
               refine XCal.of hm Tryz.func99 rfl (fun xs w=>Tryz.call99 xs w) Tryz.ntmps99 Tryz.results99 rfl ?_
               (refine sg trivial ?_;try exact⟨⟩)
               repeat ((first|refine(k1 _).x ?_|refine(k2 _).x ?_|refine(k3 _).x ?_|refine(k4 _).x ?_|refine(k5 _).x ?_|refine(k6 _).x ?_|refine(k7 _).x ?_|refine drawnF ?_ (by decide +kernel));(refine sg (et r (et r' (et h2 (et h3 h4)))) ?_;try exact⟨⟩))
               done)
            | (rcases R s.cap with ⟨c,c'⟩|⟨c,c'⟩|⟨c,c'⟩
               all_goals
                 simp only[r,r',c,c',h2,h3,h4,Bool.true_and,Bool.and_true,Bool.false_and,Bool.and_false,Bool.true_or,Bool.false_or,Bool.or_false,Bool.or_true,Bool.or_self,Bool.and_self] at hq
                 subst hq
                 refine XCal.of hm Tryz.func99 rfl (fun xs w=>Tryz.call99 xs w) Tryz.ntmps99 Tryz.results99 rfl ?_
                 (refine sg trivial ?_;try exact⟨⟩)
                 repeat ((first|refine(k1 _).x ?_|refine(k2 _).x ?_|refine(k3 _).x ?_|refine(k4 _).x ?_|refine(k5 _).x ?_|refine(k6 _).x ?_|refine(k7 _).x ?_|refine drawnF ?_ (by decide +kernel));(refine sg (et r (et r' (et c (et c' (et h2 (et h3 h4)))))) ?_;try exact⟨⟩)))
          | true=>
            cases h5:p5 with
            | false=>
              first
              | (simp only[r,r',h2,h3,h4,h5,Bool.true_and,Bool.and_true,Bool.false_and,Bool.and_false,Bool.true_or,Bool.false_or,Bool.or_false,Bool.or_true,Bool.or_self,Bool.and_self] at hq
                 subst hq
                 refine XCal.of hm Tryz.func99 rfl (fun xs w=>Tryz.call99 xs w) Tryz.ntmps99 Tryz.results99 rfl ?_
                 (refine sg trivial ?_;try exact⟨⟩)
                 repeat ((first|refine(k1 _).x ?_|refine(k2 _).x ?_|refine(k3 _).x ?_|refine(k4 _).x ?_|refine(k5 _).x ?_|refine(k6 _).x ?_|refine(k7 _).x ?_|refine drawnF ?_ (by decide +kernel));(refine sg (et r (et r' (et h2 (et h3 (et h4 h5))))) ?_;try exact⟨⟩))
                 done)
              | (rcases R s.cap with ⟨c,c'⟩|⟨c,c'⟩|⟨c,c'⟩
                 all_goals
                   simp only[r,r',c,c',h2,h3,h4,h5,Bool.true_and,Bool.and_true,Bool.false_and,Bool.and_false,Bool.true_or,Bool.false_or,Bool.or_false,Bool.or_true,Bool.or_self,Bool.and_self] at hq
                   subst hq
                   refine XCal.of hm Tryz.func99 rfl (fun xs w=>Tryz.call99 xs w) Tryz.ntmps99 Tryz.results99 rfl ?_
                   (refine sg trivial ?_;try exact⟨⟩)
                   repeat ((first|refine(k1 _).x ?_|refine(k2 _).x ?_|refine(k3 _).x ?_|refine(k4 _).x ?_|refine(k5 _).x ?_|refine(k6 _).x ?_|refine(k7 _).x ?_|refine drawnF ?_ (by decide +kernel));(refine sg (et r (et r' (et c (et c' (et h2 (et h3 (et h4 h5))))))) ?_;try exact⟨⟩)))
            | true=>
              cases h6:p6 with
              | false=>
                first
                | (simp only[r,r',h2,h3,h4,h5,h6,Bool.true_and,Bool.and_true,Bool.false_and,Bool.and_false,Bool.true_or,Bool.false_or,Bool.or_false,Bool.or_true,Bool.or_self,Bool.and_self] at hq
                   subst hq
                   refine XCal.of hm Tryz.func99 rfl (fun xs w=>Tryz.call99 xs w) Tryz.ntmps99 Tryz.results99 rfl ?_
                   (refine sg trivial ?_;try exact⟨⟩)
                   repeat ((first|refine(k1 _).x ?_|refine(k2 _).x ?_|refine(k3 _).x ?_|refine(k4 _).x ?_|refine(k5 _).x ?_|refine(k6 _).x ?_|refine(k7 _).x ?_|refine drawnF ?_ (by decide +kernel));(refine sg (et r (et r' (et h2 (et h3 (et h4 (et h5 h6)))))) ?_;try exact⟨⟩))
                   done)
                | (rcases R s.cap with ⟨c,c'⟩|⟨c,c'⟩|⟨c,c'⟩
                   all_goals
                     simp only[r,r',c,c',h2,h3,h4,h5,h6,Bool.true_and,Bool.and_true,Bool.false_and,Bool.and_false,Bool.true_or,Bool.false_or,Bool.or_false,Bool.or_true,Bool.or_self,Bool.and_self] at hq
                     subst hq
                     refine XCal.of hm Tryz.func99 rfl (fun xs w=>Tryz.call99 xs w) Tryz.ntmps99 Tryz.results99 rfl ?_
                     (refine sg trivial ?_;try exact⟨⟩)
                     repeat ((first|refine(k1 _).x ?_|refine(k2 _).x ?_|refine(k3 _).x ?_|refine(k4 _).x ?_|refine(k5 _).x ?_|refine(k6 _).x ?_|refine(k7 _).x ?_|refine drawnF ?_ (by decide +kernel));(refine sg (et r (et r' (et c (et c' (et h2 (et h3 (et h4 (et h5 h6)))))))) ?_;try exact⟨⟩)))
              | true=>
                first
                | (simp only[r,r',h2,h3,h4,h5,h6,Bool.true_and,Bool.and_true,Bool.false_and,Bool.and_false,Bool.true_or,Bool.false_or,Bool.or_false,Bool.or_true,Bool.or_self,Bool.and_self] at hq
                   subst hq
                   refine XCal.of hm Tryz.func99 rfl (fun xs w=>Tryz.call99 xs w) Tryz.ntmps99 Tryz.results99 rfl ?_
                   (refine sg trivial ?_;try exact⟨⟩)
                   repeat ((first|refine(k1 _).x ?_|refine(k2 _).x ?_|refine(k3 _).x ?_|refine(k4 _).x ?_|refine(k5 _).x ?_|refine(k6 _).x ?_|refine(k7 _).x ?_|refine drawnF ?_ (by decide +kernel));(refine sg (et r (et r' (et h2 (et h3 (et h4 (et h5 h6)))))) ?_;try exact⟨⟩))
                   done)
                | (rcases R s.cap with ⟨c,c'⟩|⟨c,c'⟩|⟨c,c'⟩
                   all_goals
                     simp only[r,r',c,c',h2,h3,h4,h5,h6,Bool.true_and,Bool.and_true,Bool.false_and,Bool.and_false,Bool.true_or,Bool.false_or,Bool.or_false,Bool.or_true,Bool.or_self,Bool.and_self] at hq
                     subst hq
                     refine XCal.of hm Tryz.func99 rfl (fun xs w=>Tryz.call99 xs w) Tryz.ntmps99 Tryz.results99 rfl ?_
                     (refine sg trivial ?_;try exact⟨⟩)
                     repeat ((first|refine(k1 _).x ?_|refine(k2 _).x ?_|refine(k3 _).x ?_|refine(k4 _).x ?_|refine(k5 _).x ?_|refine(k6 _).x ?_|refine(k7 _).x ?_|refine drawnF ?_ (by decide +kernel));(refine sg (et r (et r' (et c (et c' (et h2 (et h3 (et h4 (et h5 h6)))))))) ?_;try exact⟨⟩)))
end Go.Proofs.YthhbglkokpablaaGreat
