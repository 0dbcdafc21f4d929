/- Merged texts: Q3 Q4 Q5 Tri Book Tape Mat Flat1 Path Flat2 Flat3 Flat4 Box1 Box2 Box3 Box4 Box5 Flat6 Flat7 Flat8 Roe Ol Data Spec Ring Spec2. -/
import Derived.Test.YthhbglkokpablaaGreatV5
import Derived.KernelRfl
/- Chapter 1: the walks of the document's own numbers. -/
namespace Go.Proofs.YthhbglkokpablaaGreat
open Go Go.RowKit E
attribute [local irreducible] XRun XOps XCode XCal XLoop XQ SemCall
set_option linter.unusedSimpArgs false
set_option linter.unusedVariables false
/-- What the long division comes to, with a sign, held. -/
def rdn (n r:Int) (minus:Bool):Int:=hold (if minus=true then -n - (if r=0 then 0 else 1) else n)
end Go.Proofs.YthhbglkokpablaaGreat
/- Chapter 1: the walks of what the statements call: both numbers alike, some known runs. -/
namespace Go.Proofs.YthhbglkokpablaaGreat
open Go Go.RowKit E
attribute [local irreducible] XRun XOps XCode XCal XLoop XQ SemCall
set_option linter.unusedSimpArgs false
set_option linter.unusedVariables false
end Go.Proofs.YthhbglkokpablaaGreat
/- Chapter 1: the walks of the laws on numbers. -/
namespace Go.Proofs.YthhbglkokpablaaGreat
open Go Go.RowKit E
attribute [local irreducible] XRun XOps XCode XCal XLoop XQ SemCall
set_option linter.unusedSimpArgs false
set_option linter.unusedVariables false
theorem tm_b (a:Int) {n:Int} (hn:0<n) : -n<a.tmod n∧a.tmod n<n:=by
 rcases Int.lt_or_le a 0 with h|h
 ·have f:=tdiv_np (a:=-a) (b:=n) (by omega) hn
  rw[Int.neg_neg] at f
  have:=Int.emod_nonneg (-a) (show n≠0 by omega)
  have:=Int.emod_lt_of_pos (-a) hn
  omega
 ·have f:=tdiv_pp h hn
  have:=Int.emod_nonneg a (show n≠0 by omega)
  have:=Int.emod_lt_of_pos a hn
  omega
abbrev Nr (x:Int):Prop:=-67108864<x∧x<67108864
end Go.Proofs.YthhbglkokpablaaGreat
/- Chapter 2: the walks of angles. -/
namespace Go.Proofs.YthhbglkokpablaaGreat
open Go Go.RowKit E
attribute [local irreducible] XRun XOps XCode XCal XLoop XQ SemCall
set_option linter.unusedSimpArgs false
set_option linter.unusedVariables false
theorem tmod_emod (a:Int) {n:Int} (hn:0<n):a.tmod n=if 0≤a then a % n else (if a % n=0 then 0 else a % n - n):=by
 rcases Int.lt_or_le a 0 with h|h
 ·have f:=tdiv_np (a:=-a) (b:=n) (by omega) hn
  rw[Int.neg_neg] at f
  have g:=(negdiv (-a) n hn).2
  rw[Int.neg_neg] at g
  have:=Int.emod_nonneg (-a) (show n≠0 by omega)
  have:=Int.emod_lt_of_pos (-a) hn
  rw[f.2.1,if_neg (by omega),g]
  split
  ·rw[if_pos rfl];omega
  ·rw[if_neg (by omega)];omega
 ·rw[if_pos h];exact Int.tmod_eq_emod_of_nonneg h
/-- A half round's sine. -/
def core (x:Int):Int:=4*(x*(11796480 - x) / 65536)*65536 / (2654208000 - x*(11796480 - x) / 65536)
def sn (a:Int):Int:=if a % 23592960≥11796480 then -(core (a % 23592960 - 11796480)) else core (a % 23592960)
def cs (a:Int):Int:=sn (a % 23592960+5898240)
end Go.Proofs.YthhbglkokpablaaGreat
/- A number brought within two. -/
namespace Go.Proofs.YthhbglkokpablaaGreat
open Go Go.RowKit E
attribute [local irreducible] XRun XOps XCode XCal XLoop XQ SemCall
set_option linter.unusedSimpArgs false
set_option linter.unusedVariables false
def wth (n lo hi:Int):Int:=if lo≤n∧n≤hi then n else lo+n % (hi - lo+1)
theorem wth_b (n:Int) {lo hi:Int} (h:lo≤hi):lo≤wth n lo hi∧wth n lo hi≤hi:=by
 unfold wth;split
 ·assumption
 ·have:=Int.emod_nonneg n (show hi - lo+1≠0 by omega)
  have:=Int.emod_lt_of_pos n (show 0<hi - lo+1 by omega)
  omega
theorem within_ (n lo hi:Int) (h:lo≤hi) (h1 : -1152921504606846976≤lo) (h2:hi≤1152921504606846976) (H:AH):SemCall Tryz.prog 12 [.int .i64 n,.int .i64 lo,.int .i64 hi] H (.int .i64 (wth n lo hi)) H []:=by
 refine pure_of ?_ rfl
 unfold wth
 by_cases g1:lo≤n
 ·by_cases g2:n≤hi
  ·rw[if_pos ⟨g1,g2⟩]
   refine XCal.of hm Tryz.func12 rfl (fun xs w=>Tryz.call12 xs w) Tryz.ntmps12 Tryz.results12 rfl ?_
   (refine sg (et g1 g2) ?_;try exact⟨⟩)
  ·rw[if_neg (fun h=>g2 h.2)]
   have w0:IntKind.i64.wrap (hi - lo)=hi - lo:=wi (by omega) (by omega)
   have w1:IntKind.i64.wrap (hi - lo+1)=hi - lo+1:=wi (by omega) (by omega)
   have hq:=tmod_emod n (n:=hi - lo+1) (by omega)
   have hb:=tm_b n (n:=hi - lo+1) (by omega)
   have e0:=Int.emod_nonneg n (show hi - lo+1≠0 by omega)
   have e1:=Int.emod_lt_of_pos n (show 0<hi - lo+1 by omega)
   have n0:¬ hi - lo+1=0:=by omega
   by_cases k:n.tmod (hi - lo+1)<0
   ·have e:IntKind.i64.wrap (lo+IntKind.i64.wrap (IntKind.i64.wrap (IntKind.i64.wrap (n.tmod (hi - lo+1)+hi) - lo)+1))=lo+n % (hi - lo+1):=by
     generalize hd:hi - lo+1=d at *
     rw[wi (n:=n.tmod d+hi) (by omega) (by omega),wi (n:=n.tmod d+hi - lo) (by omega) (by omega),wi (n:=n.tmod d+hi - lo+1) (by omega) (by omega),wi (by split at hq <;> (try split at hq) <;> omega) (by split at hq <;> (try split at hq) <;> omega)]
     split at hq <;> (try split at hq) <;> omega
    refine XCal.of hm Tryz.func12 rfl (fun xs w=>Tryz.call12 xs w) Tryz.ntmps12 Tryz.results12 rfl ?_
    (refine sg (et g1 (et g2 (et w0 (et w1 (et n0 (et k e)))))) ?_;try exact⟨⟩)
   ·have e:IntKind.i64.wrap (lo+n.tmod (hi - lo+1))=lo+n % (hi - lo+1):=by
     generalize hd:hi - lo+1=d at *
     rw[wi (by omega) (by omega)]
     split at hq <;> (try split at hq) <;> omega
    refine XCal.of hm Tryz.func12 rfl (fun xs w=>Tryz.call12 xs w) Tryz.ntmps12 Tryz.results12 rfl ?_
    (refine sg (et g1 (et g2 (et w0 (et w1 (et n0 (et k e)))))) ?_;try exact⟨⟩)
 ·rw[if_neg (fun h=>g1 h.1)]
  have w0:IntKind.i64.wrap (hi - lo)=hi - lo:=wi (by omega) (by omega)
  have w1:IntKind.i64.wrap (hi - lo+1)=hi - lo+1:=wi (by omega) (by omega)
  have hq:=tmod_emod n (n:=hi - lo+1) (by omega)
  have hb:=tm_b n (n:=hi - lo+1) (by omega)
  have e0:=Int.emod_nonneg n (show hi - lo+1≠0 by omega)
  have e1:=Int.emod_lt_of_pos n (show 0<hi - lo+1 by omega)
  have n0:¬ hi - lo+1=0:=by omega
  by_cases k:n.tmod (hi - lo+1)<0
  ·have e:IntKind.i64.wrap (lo+IntKind.i64.wrap (IntKind.i64.wrap (IntKind.i64.wrap (n.tmod (hi - lo+1)+hi) - lo)+1))=lo+n % (hi - lo+1):=by
    generalize hd:hi - lo+1=d at *
    rw[wi (n:=n.tmod d+hi) (by omega) (by omega),wi (n:=n.tmod d+hi - lo) (by omega) (by omega),wi (n:=n.tmod d+hi - lo+1) (by omega) (by omega),wi (by split at hq <;> (try split at hq) <;> omega) (by split at hq <;> (try split at hq) <;> omega)]
    split at hq <;> (try split at hq) <;> omega
   refine XCal.of hm Tryz.func12 rfl (fun xs w=>Tryz.call12 xs w) Tryz.ntmps12 Tryz.results12 rfl ?_
   (refine sg (et g1 (et w0 (et w1 (et n0 (et k e))))) ?_;try exact⟨⟩)
  ·have e:IntKind.i64.wrap (lo+n.tmod (hi - lo+1))=lo+n % (hi - lo+1):=by
    generalize hd:hi - lo+1=d at *
    rw[wi (by omega) (by omega)]
    split at hq <;> (try split at hq) <;> omega
   refine XCal.of hm Tryz.func12 rfl (fun xs w=>Tryz.call12 xs w) Tryz.ntmps12 Tryz.results12 rfl ?_
   (refine sg (et g1 (et w0 (et w1 (et n0 (et k e))))) ?_;try exact⟨⟩)
end Go.Proofs.YthhbglkokpablaaGreat
/- Tapes: the walks of what reads numbers off a tape. -/
namespace Go.Proofs.YthhbglkokpablaaGreat
open Go Go.RowKit E
attribute [local irreducible] XRun XOps XCode XCal XLoop XQ SemCall
set_option linter.unusedSimpArgs false
set_option linter.unusedVariables false
abbrev tblk (lv:Value) (g:Nat) (a:Int):Blk:=⟨[lv,.int .i64 a],g,true⟩
theorem tape_ren {H:AH} {tb:Nat} {lv:Value} {ls:List Int} (h:Ints H tb lv ls) (K:List (Nat × Nat)) (g:Nat) (a:Int):renL H.length K (tblk lv g a).cells=some (tblk lv g a).cells:=by
 show renL H.length K [lv,.int .i64 a]=_
 simp only[renL,h.ren K];rfl
theorem next_ (n:Int) (hn:0<n∧n≤1152921504606846976) (H:AH) {tb g:Nat} {lv:Value} {ls:List Int} (h:TapeAt H tb g lv ls) :
  Cal Tryz.prog 20 [ap tb 0 g,.int .i64 n] H fun v H' W'=>∃ r:Int × Int,(0≤r.1∧r.1<n∧0≤r.2∧r.2≤ls.length)∧v=.int .i64 r.1∧H'=H.set tb (tblk lv g r.2)∧W'=[tb]:=by
 obtain⟨hi,at_,h0,h1,hb⟩:=h
 have hlen:=hi.len
 by_cases hat:at_<ls.length
 ·obtain⟨b,g',rest,rw_,rfl,hne,hbb,_⟩:=hi.ne (fun e=>by rw[e] at hat;simp at hat;omega)
  obtain⟨a,rfl⟩:=Int.eq_ofNat_of_zero_le h0
  have ha:a<ls.length:=by omega
  have hel:(intC ls++rest)[a]?=some (.int .i64 ls[a]):=by rw[List.getElem?_append_left (by simp[intC];omega)];exact intC_get ha
  refine none_of _ _ tb _ (List.getElem?_eq_some_iff.1 hb).1 ?_ (fun r _=>rfl) (fun r _=>tape_ren hi _ _ _)
  have hbb2:∀ x L,(H.set tb x++L)[b]?=some ⟨intC ls++rest,g',rw_⟩:=fun x L=>by
   have:=(List.getElem?_eq_some_iff.1 hbb).1
   rw[List.getElem?_append_left (by simpa using this),List.getElem?_set_ne (fun e=>hne e.symm)];exact hbb
  have hbb3:∀ x,(H.set tb x)[b]?=some ⟨intC ls++rest,g',rw_⟩:=fun x=>by simpa using hbb2 x []
  have htb3:∀ x,(H.set tb x)[tb]?=some x:=fun x=>List.getElem?_set_self (List.getElem?_eq_some_iff.1 hb).1
  have w1:IntKind.i64.wrap ((a:Int)+1)=((a+1:Nat):Int):=by rw[wi (by omega) (by omega)];rfl
  have w2:IntKind.i64.wrap (((a+1:Nat):Int) - 1)=(a:Int):=by rw[wi (by omega) (by omega)];omega
  have n0:¬ n=0:=by omega
  have hw:=wth_b ls[a] (lo:=0) (hi:=1073741824) (by omega)
  have hq:=tdiv_pp (a:=wth ls[a] 0 1073741824) (b:=n) hw.1 hn.1
  refine XCal.of hm Tryz.func20 rfl (fun xs w=>Tryz.call20 xs w) Tryz.ntmps20 Tryz.results20 rfl ?_
  (refine sg trivial ?_;try exact⟨⟩)
  refine drawnF ?_ (by decide +kernel)
  (refine sg (et hb (df (show ¬ (ls.length:Int)≤(a:Int) by omega))) ?_;try exact⟨⟩)
  (refine sg (et hb (et w1 (old_lt hb))) ?_;try exact⟨⟩)
  refine drawnF ?_ (by decide +kernel)
  (refine sg (et hb (et hbb (et hbb3 (et htb3 (et w1 (et w2 (et (old_lt hb) (et (show (0:Int)≤(a:Int) by omega) (et (show (a:Int)<(ls.length:Int) by omega) (et Int.toNat_natCast (et Nat.zero_add (et Nat.mul_one hel)))))))))))) ?_;try exact⟨⟩)
  refine(within_ _ _ _ (by omega) (by omega) (by omega) _).x ?_
  (refine sg (et n0 hq.2.1) ?_;try exact⟨⟩)
  exact⟨SameW.rfl',(wth ls[a] 0 1073741824 % n,((a+1:Nat):Int)),⟨Int.emod_nonneg _ n0,Int.emod_lt_of_pos _ hn.1,by show 0≤((a+1:Nat):Int);omega,by show ((a+1:Nat):Int)≤_;omega⟩,rfl,htb3 _⟩
 ·obtain⟨a,e,rfl⟩:=hi.form
  have s:SemCall Tryz.prog 20 [ap tb 0 g,.int .i64 n] H (.int .i64 0) H []:=by
   refine pure_of ?_ rfl
   refine XCal.of hm Tryz.func20 rfl (fun xs w=>Tryz.call20 xs w) Tryz.ntmps20 Tryz.results20 rfl ?_
   (refine sg trivial ?_;try exact⟨⟩)
   refine drawnF ?_ (by decide +kernel)
   (refine sg (et hb (dt (show (ls.length:Int)≤at_ by omega))) ?_;try exact⟨⟩)
  exact⟨_,_,_,s.addW (i:=0) hb rfl,(0,at_),⟨by omega,by omega,by omega,by omega⟩,rfl,(set_same hb).symm,rfl⟩
/-- The tape behind a call. -/
theorem tape_set {H:AH} {tb g:Nat} {lv:Value} {ls:List Int} (h:TapeAt H tb g lv ls) {a:Int} (h1:0≤a∧a≤ls.length):TapeAt (H.set tb (tblk lv g a)) tb g lv ls:=h.set h1.1 h1.2
theorem number_ (lo hi:Int) (hl:lo≤hi) (h1 : -1073741824≤lo) (h2:hi≤1073741824) (H:AH) {tb g:Nat} {lv:Value} {ls:List Int} (h:TapeAt H tb g lv ls) :
  Cal Tryz.prog 68 [ap tb 0 g,.int .i64 lo,.int .i64 hi] H fun v H' W'=>∃ r:Int × Int,(lo*65536≤r.1∧r.1<hi*65536+65536∧0≤r.2∧r.2≤ls.length)∧v=.int .i64 r.1∧H'=H.set tb (tblk lv g r.2)∧W'=[tb]:=by
 have htb:=h.lt
 have hi0:=h.1
 refine none_of _ _ tb _ htb ?_ (fun r _=>rfl) (fun r _=>tape_ren hi0 _ _ _)
 have htb3:∀ x,(H.set tb x)[tb]?=some x:=fun x=>List.getElem?_set_self htb
 have w1:IntKind.i64.wrap (hi - lo)=hi - lo:=wi (by omega) (by omega)
 have w2:IntKind.i64.wrap (hi - lo+1)=hi - lo+1:=wi (by omega) (by omega)
 refine XCal.of hm Tryz.func68 rfl (fun xs w=>Tryz.call68 xs w) Tryz.ntmps68 Tryz.results68 rfl ?_
 (refine sg (et w1 w2) ?_;try exact⟨⟩)
 refine(next_ (hi - lo+1) (by omega) H h).x ?_
 rintro v H1 W1 ⟨⟨r,a1⟩,⟨r0,r1,a0,a2⟩,rfl,rfl,rfl⟩
 have w3:IntKind.i64.wrap (lo+r)=lo+r:=wi (by omega) (by omega)
 have w4:IntKind.i64.wrap ((lo+r)*65536)=(lo+r)*65536:=wi (by omega) (by omega)
 (refine sg (et w3 (et w4 (decide_eq_true htb))) ?_;try exact⟨⟩)
 refine(next_ 4 (by omega) _ (tape_set h ⟨a0,a2⟩)).x ?_
 rintro v H1 W1 ⟨⟨q,b1⟩,⟨q0,q1,b0,b2⟩,rfl,rfl,rfl⟩
 by_cases k0:q=0
 ·simp only[go_sem,Nat.reduceEqDiff,Nat.reduceAdd,Nat.reduceSub,Nat.reduceMul,Nat.reduceLT,Nat.reduceLeDiff,Int.reducePow,Int.reduceBEq,Int.reduceBNe,Int.reduceDiv,Int.reduceMod,Int.reduceEq,Int.reduceLT,Int.reduceLE,Int.reduceAdd,Int.reduceSub,Int.reduceMul,Int.reduceNeg,Int.reduceToNat,Int.reduceTDiv,Int.reduceTMod,↓reduceIte,bt k0,decide_eq_true htb,List.set_set]
  exact⟨SameW.two,((lo+r)*65536+32768,b1),⟨by show _≤(lo+r)*65536+32768;omega,by show (lo+r)*65536+32768<_;omega,b0,b2⟩,by rw[wi (by omega) (by omega)],htb3 _⟩
 ·by_cases k1:q=1
  ·simp only[go_sem,Nat.reduceEqDiff,Nat.reduceAdd,Nat.reduceSub,Nat.reduceMul,Nat.reduceLT,Nat.reduceLeDiff,Int.reducePow,Int.reduceBEq,Int.reduceBNe,Int.reduceDiv,Int.reduceMod,Int.reduceEq,Int.reduceLT,Int.reduceLE,Int.reduceAdd,Int.reduceSub,Int.reduceMul,Int.reduceNeg,Int.reduceToNat,Int.reduceTDiv,Int.reduceTMod,↓reduceIte,bf k0,bt k1,decide_eq_true htb,List.set_set]
   refine(next_ 65536 (by omega) _ (tape_set h ⟨b0,b2⟩)).x ?_
   rintro v H1 W1 ⟨⟨u,c1⟩,⟨u0,u1,c0,c2⟩,rfl,rfl,rfl⟩
   simp only[go_sem,Nat.reduceEqDiff,Nat.reduceAdd,Nat.reduceSub,Nat.reduceMul,Nat.reduceLT,Nat.reduceLeDiff,Int.reducePow,Int.reduceBEq,Int.reduceBNe,Int.reduceDiv,Int.reduceMod,Int.reduceEq,Int.reduceLT,Int.reduceLE,Int.reduceAdd,Int.reduceSub,Int.reduceMul,Int.reduceNeg,Int.reduceToNat,Int.reduceTDiv,Int.reduceTMod,↓reduceIte,decide_eq_true htb,List.set_set]
   exact⟨SameW.three,((lo+r)*65536+u,c1),⟨by show _≤(lo+r)*65536+u;omega,by show (lo+r)*65536+u<_;omega,c0,c2⟩,by rw[wi (by omega) (by omega)],htb3 _⟩
  ·simp only[go_sem,Nat.reduceEqDiff,Nat.reduceAdd,Nat.reduceSub,Nat.reduceMul,Nat.reduceLT,Nat.reduceLeDiff,Int.reducePow,Int.reduceBEq,Int.reduceBNe,Int.reduceDiv,Int.reduceMod,Int.reduceEq,Int.reduceLT,Int.reduceLE,Int.reduceAdd,Int.reduceSub,Int.reduceMul,Int.reduceNeg,Int.reduceToNat,Int.reduceTDiv,Int.reduceTMod,↓reduceIte,bf k0,bf k1,decide_eq_true htb,List.set_set]
   exact⟨SameW.two,((lo+r)*65536,b1),⟨by show _≤(lo+r)*65536;omega,by show (lo+r)*65536<_;omega,b0,b2⟩,rfl,htb3 _⟩
theorem point_ (lo hi:Int) (hl:lo≤hi) (h1 : -1073741824≤lo) (h2:hi≤1073741824) (H:AH) {tb g:Nat} {lv:Value} {ls:List Int} (h:TapeAt H tb g lv ls) :
  Cal Tryz.prog 71 [ap tb 0 g,.int .i64 lo,.int .i64 hi] H fun v H' W'=>∃ r:(Int × Int) × Int,((lo*65536≤r.1.1∧r.1.1<hi*65536+65536)∧(lo*65536≤r.1.2∧r.1.2<hi*65536+65536)∧0≤r.2∧r.2≤ls.length)∧v=.agg [.int .i64 r.1.1,.int .i64 r.1.2].toArray∧H'=H.set tb (tblk lv g r.2)∧W'=[tb]:=by
 have htb:=h.lt
 have hi0:=h.1
 refine none_of _ _ tb _ htb ?_ (fun r _=>rfl) (fun r _=>tape_ren hi0 _ _ _)
 refine XCal.of hm Tryz.func71 rfl (fun xs w=>Tryz.call71 xs w) Tryz.ntmps71 Tryz.results71 rfl ?_
 (refine sg trivial ?_;try exact⟨⟩)
 refine(number_ lo hi hl h1 h2 _ (h.app _)).x ?_
 rintro v H1 W1 ⟨⟨r,a1⟩,⟨r0,r1,a0,a2⟩,rfl,rfl,rfl⟩
 have hb:=(h.2).choose_spec.2.2
 (refine sg (et (decide_eq_true htb) (old_set hb)) ?_;try exact⟨⟩)
 refine(number_ lo hi hl h1 h2 _ ((tape_set h ⟨a0,a2⟩).app _)).x ?_
 rintro v H1 W1 ⟨⟨q,b1⟩,⟨q0,q1,b0,b2⟩,rfl,rfl,rfl⟩
 (refine sg (et (decide_eq_true htb) (et (old_set hb) (et (old_sset hb) (old_sget hb)))) ?_;try exact⟨⟩)
 exact⟨SameW.two,((r,q),b1),⟨⟨r0,r1⟩,⟨q0,q1⟩,b0,b2⟩,rfl,rfl⟩
end Go.Proofs.YthhbglkokpablaaGreat
/- Chapter 3: the walks of maps. -/
namespace Go.Proofs.YthhbglkokpablaaGreat
open Go Go.RowKit E
attribute [local irreducible] XRun XOps XCode XCal XLoop XQ SemCall
set_option linter.unusedSimpArgs false
set_option linter.unusedVariables false
abbrev pt (x y:Int):Value:=.agg [.int .i64 x,.int .i64 y].toArray
abbrev mt (a b c d e f:Int):Value:=.agg [.int .i64 a,.int .i64 b,.int .i64 c,.int .i64 d,.int .i64 e,.int .i64 f].toArray
def two (a b c d:Int):Int:=qadd (qmul a b) (qmul c d)
def ap1 (a c e x y:Int):Int:=place (qadd (two a x c y) e)
def mdE (x a b c d:Int):Int:=qadd x (-(two a b c d))
theorem mk1:qmul (cs 0) 131072=131072∧qmul (sn 0) 131072=0∧qmul (-(sn 0)) 65536=0∧qmul (cs 0) 65536=65536∧mdE 327680 131072 0 0 0=327680∧mdE 0 0 0 65536 0=0:=by decide +kernel
end Go.Proofs.YthhbglkokpablaaGreat
/- Chapter 8: the walks of halves, and of bent parts. -/
namespace Go.Proofs.YthhbglkokpablaaGreat
open Go Go.RowKit E
attribute [local irreducible] XRun XOps XCode XCal XLoop XQ SemCall
set_option linter.unusedSimpArgs false
set_option linter.unusedVariables false
abbrev Pt:=Int × Int
abbrev ptv (p:Pt):Value:=.agg [.int .i64 p.1,.int .i64 p.2].toArray
abbrev Ip (p:Pt):Prop:=I64 p.1∧I64 p.2
def hf (a b:Int):Int:=(a+b) / 2
def hfp (p q:Pt):Pt:=(hf p.1 q.1,hf p.2 q.2)
def ptC (l:List Pt):List Value:=l.flatMap fun p=>[.int .i64 p.1,.int .i64 p.2]
theorem ptC_app (l m:List Pt):ptC (l++m)=ptC l++ptC m:=by simp[ptC]
theorem ptC_len (l:List Pt):(ptC l).length=l.length*2:=by
  induction l with
  | nil => rfl
  | cons x l ih => have : ptC (x :: l) = [.int .i64 x.1, .int .i64 x.2] ++ ptC l := rfl
                   rw [this, List.length_append, ih]; simp; omega
theorem ptC_ren (n : Nat) (K : List (Nat × Nat)) (l : List Pt) : renL n K (ptC l) = some (ptC l) := by
  induction l with
  | nil=>rfl
  | cons x l ih=>
    show renL n K (.int .i64 x.1::.int .i64 x.2::ptC l)=_
    simp only[renL,ih];rfl
def bentL:Nat→Pt→Pt→Pt→Pt→List Pt
 | 0,_,_,_,d=>[d]
 | k+1,a,b,c,d=>bentL k a (hfp a b) (hfp (hfp a b) (hfp b c)) (hfp (hfp (hfp a b) (hfp b c)) (hfp (hfp b c) (hfp c d)))++bentL k (hfp (hfp (hfp a b) (hfp b c)) (hfp (hfp b c) (hfp c d))) (hfp (hfp b c) (hfp c d)) (hfp c d) d
end Go.Proofs.YthhbglkokpablaaGreat
/- Tapes: the walk of what makes a path of a tape. -/
namespace Go.Proofs.YthhbglkokpablaaGreat
open Go Go.RowKit E
attribute [local irreducible] XRun XOps XCode XCal XLoop XQ SemCall
set_option linter.unusedSimpArgs false
set_option linter.unusedVariables false
theorem ptC_drop:∀ (l:List Pt) (i:Nat) (p:Pt) (rest:List Value),l[i]?=some p→(((ptC l++rest).drop (i*2)).take 2)=[.int .i64 p.1,.int .i64 p.2]
 | [],i,p,rest,h=>by simp at h
 | x::l,0,p,rest,h=>by simp at h;subst h;rfl
 | x::l,i+1,p,rest,h=>by
  have:=ptC_drop l i p rest (by simpa using h)
  rw[show (i+1)*2=i*2+2 by omega]
  show ((Value.int .i64 x.1::Value.int .i64 x.2::(ptC l++rest)).drop (i*2+2)).take 2=_
  simpa using this
theorem ald_pt {l:List Pt} {i b g:Nat} {p:Pt} {rw_:Bool} (rest:List Value) (h:l[i]?=some p):ald (some true) (some 2) (some ⟨ptC l++rest,g,rw_⟩) b (i*2) g=some (ptv p,b):=by
 have hi:=(List.getElem?_eq_some_iff.1 h).1
 have:i*2+2≤(ptC l++rest).length:=by rw[List.length_append,ptC_len];omega
 simp only[ald,true_and,this,if_true]
 rw[ptC_drop l i p rest h]
theorem ald_pt0 {l:List Pt} {i b g:Nat} {p:Pt} {rw_:Bool} (h:l[i]?=some p):ald (some true) (some 2) (some ⟨ptC l,g,rw_⟩) b (i*2) g=some (ptv p,b):=by
 have:=ald_pt (b:=b) (g:=g) (rw_:=rw_) [] h
 rwa [List.append_nil] at this
/-- Points near. -/
abbrev Bp (p:Pt):Prop:=(-131072≤p.1∧p.1<983040)∧(-131072≤p.2∧p.2<983040)
theorem ren_path (n b g:Nat) (c:Bool) (len:Nat) (h:n≤b):renR n [(b,g)] (.agg [.bool c,sl b 0 g len 2].toArray)=some (.agg [.bool c,sl n 0 0 len 2].toArray):=by
 have:=ren_sl n b g len 2 h
 have e:renV n [(b,g)] (sl b 0 g len 2)=some (sl n 0 0 len 2):=this
 simp only[renR,renL,e];rfl
theorem snoc {D:List Nat} {tb:Nat} (h:SameW D [tb]):SameW (D++[tb]) [tb]:=fun b=>by rw[List.mem_append,h b];simp
theorem path_ (parts:Nat) (c:Bool) (hp:parts≤1000) (H:AH) {tb g:Nat} {lv:Value} {ls:List Int} (h:TapeAt H tb g lv ls) :
  Cal Tryz.prog 45 [ap tb 0 g,.int .i64 (parts:Int),.bool c] H fun v H' W'=>∃ r:List Pt × Int,(r.1.length=3*parts+1∧(∀ p∈r.1,Bp p)∧0≤r.2∧r.2≤ls.length) ∧
   v=.agg [.bool c,sl H.length 0 0 r.1.length 2].toArray∧H'=H.set tb (tblk lv g r.2)++[⟨ptC r.1,0,true⟩]∧W'=[tb]:=by
 have htb:=h.lt
 have hi0:=h.1
 have hb:=(h.2).choose_spec.2.2
 refine one_of _ (fun (r:List Pt × Int) b g=>.agg [.bool c,sl b 0 g r.1.length 2].toArray) _ tb _ htb ?_ (fun r b g _ hh=>ren_path _ _ _ _ _ hh) (fun r b g _=>ptC_ren _ _ _) (fun r b g _ _=>tape_ren hi0 _ _ _)
 refine XCal.of hm Tryz.func45 rfl (fun xs w=>Tryz.call45 xs w) Tryz.ntmps45 Tryz.results45 rfl ?_
 (refine sg trivial ?_;try exact⟨⟩)
 refine(point_ (-2) 14 (by omega) (by omega) (by omega) _ (h.app _)).x ?_
 rintro v H1 W1 ⟨⟨p0,a1⟩,⟨b1,b2,a0,a2⟩,rfl,rfl,rfl⟩
 have bp:Bp p0:=⟨⟨b1.1,b1.2⟩,b2.1,b2.2⟩
 (refine sg (et (decide_eq_true htb) (et (old_set hb) (et (old_sset hb) (old_sget hb)))) ?_;try exact⟨⟩)
 refine keep (fun k T H' D=>SameW D [tb]∧∃ (l:List Pt) (g1:Nat) (at_:Int) (G:AH) (i:Nat),i+k=parts∧l.length=3*i+1∧(∀ p∈l,Bp p)∧0≤at_∧at_≤ls.length ∧
  H'=H.set tb (tblk lv g at_)++(⟨[.bool false,.slice none 0 0],0,true⟩::⟨ptC l,g1,true⟩::⟨[.bool c,sl (H.length+1) 0 g1 l.length 2],0,true⟩::G) ∧
  T 8=.int .i64 (i:Int)∧T 1=.int .i64 (parts:Int)∧T 0=ap tb 0 g∧T 6=ap H.length 0 0∧T 7=ap (H.length+2) 0 0) parts
  ⟨SameW.rfl',[p0],0,a1,[],0,by omega,rfl,by simpa using bp,a0,a2,rfl,by(refine sg trivial ?_;try exact⟨⟩) <;> rfl,by(refine sg trivial ?_;try exact⟨⟩),by(refine sg trivial ?_;try exact⟨⟩),by(refine sg trivial ?_;try exact⟨⟩),by(refine sg trivial ?_;try exact⟨⟩)⟩ ?_
 rintro k T H' D ⟨hD,l,g1,at_,G,i,hik,hl,hB,c0,c1,rfl,h8,h1,h0,h6,h7⟩
 by_cases hk:i<parts
 ·(refine sg (et h8 (et h1 (et h0 (et h6 (et h7 (dt (show (i:Int)<(parts:Int) by omega))))))) ?_;try exact⟨⟩)
  have hlast:l[l.length - 1]?=some (l[l.length - 1]'(by omega)):=List.getElem?_eq_getElem _
  generalize l[l.length - 1]'(by omega)=pl at hlast
  have hbl:Bp pl:=hB _ (List.mem_of_getElem? hlast)
  have hld:∀ (b:Nat),ald (some true) (some 2) (some ⟨ptC l,g1,true⟩) b ((l.length - 1)*2) g1=some (ptv pl,b):=fun b=>ald_pt0 hlast
  have wl:IntKind.i64.wrap ((l.length:Int) - 1)=((l.length - 1:Nat):Int):=by rw[wi (by omega) (by omega)];omega
  have q1:(0:Int)≤((l.length - 1:Nat):Int):=by omega
  have q2:((l.length - 1:Nat):Int)<(l.length:Int):=by omega
  refine drawnU [(0,9),(1,9),(2,9),(3,9),(4,9),(5,9),(6,9),(7,9),(9,10),(9,11)] (by decide +kernel) ?_
  simp only[go_sem,Nat.reduceEqDiff,Nat.reduceAdd,Nat.reduceSub,Nat.reduceMul,Nat.reduceLT,Nat.reduceLeDiff,Int.reducePow,Int.reduceBEq,Int.reduceBNe,Int.reduceDiv,Int.reduceMod,Int.reduceEq,Int.reduceLT,Int.reduceLE,Int.reduceAdd,Int.reduceSub,Int.reduceMul,Int.reduceNeg,Int.reduceToNat,Int.reduceTDiv,Int.reduceTMod,↓reduceIte,h8,h1,h0,h6,h7,wl,q1,q2,Int.toNat_natCast,Nat.zero_add,hld,ptv]
  refine(point_ (-2) 14 (by omega) (by omega) (by omega) _ ((tape_set h ⟨c0,c1⟩).app _)).x ?_
  rintro v H1 W1 ⟨⟨pn,d1⟩,⟨e1,e2,d0,d2⟩,rfl,rfl,rfl⟩
  have bn:Bp pn:=⟨by simpa using e1,by simpa using e2⟩
  have hcap:l.length*2=(ptC l).length:=(ptC_len l).symm
  have hcap2:(l.length+3)*16 - 140737488355328=0:=Nat.sub_eq_zero_of_le (Nat.le_trans (Nat.mul_le_mul_right 16 (show l.length+3≤4000 by omega)) (by decide))
  have hcap3:l.length+3 - 140737488355328=0:=Nat.sub_eq_zero_of_le (Nat.le_trans (show l.length+3≤4000 by omega) (by decide))
  (refine sg (et (decide_eq_true htb) (et (old_set hb) (et (old_sset hb) (et (old_sget hb) (et (old_ne hb) (et (old_ne' hb) (et (old_ne0 hb) (et (old_ne0' hb) (et h8 (et h1 (et h0 (et h6 h7)))))))))))) ?_;try exact⟨⟩)
  refine(next_ 2 (by omega) _ ((tape_set h ⟨d0,d2⟩).app _)).x ?_
  rintro v H1 W1 ⟨⟨q,f1⟩,⟨q0,q1,f0,f2⟩,rfl,rfl,rfl⟩
  by_cases hq:q=0
  ·(refine sg (et (decide_eq_true htb) (et (old_set hb) (et (old_sset hb) (et (old_sget hb) (et h8 (et h1 (et h0 (et h6 (et h7 (et (bt hq) (et hcap (et hcap2 hcap3)))))))))))) ?_;try exact⟨⟩)
   exact⟨k - 1,by omega,snoc (snoc hD),l++[pl,pn,pn],g1+1,f1,_,i+1,by omega,by simp;omega,fun p hp=>by
    rcases List.mem_append.1 hp with hp|hp
    ·exact hB p hp
    ·simp at hp;rcases hp with rfl|rfl <;> assumption,f0,f2,by rw[ptC_app,List.length_append];rfl,by rw[wi (by omega) (by omega)];rfl⟩
  ·(refine sg (et (decide_eq_true htb) (et (old_set hb) (et (old_sset hb) (et (old_sget hb) (et h8 (et h1 (et h0 (et h6 (et h7 (bf hq)))))))))) ?_;try exact⟨⟩)
   refine drawnU [(0,3),(1,3),(3,4),(0,5),(1,5),(3,6),(5,6)] (by decide +kernel) ?_
   (refine sg (et (decide_eq_true htb) (et (old_set hb) (et (old_sset hb) (et (old_sget hb) (et h8 (et h1 (et h0 (et h6 h7)))))))) ?_;try exact⟨⟩)
   refine(point_ (-2) 14 (by omega) (by omega) (by omega) _ ((tape_set h ⟨f0,f2⟩).app _)).x ?_
   rintro v H1 W1 ⟨⟨pu,k1⟩,⟨m1,m2,k0,k2⟩,rfl,rfl,rfl⟩
   (refine sg (et (decide_eq_true htb) (et (old_set hb) (et (old_sset hb) (et (old_sget hb) (et h8 (et h1 (et h0 (et h6 h7)))))))) ?_;try exact⟨⟩)
   refine(point_ (-2) 14 (by omega) (by omega) (by omega) _ ((tape_set h ⟨k0,k2⟩).app _)).x ?_
   rintro v H1 W1 ⟨⟨pv,n1⟩,⟨o1,o2,n0,n2⟩,rfl,rfl,rfl⟩
   (refine sg (et (decide_eq_true htb) (et (old_set hb) (et (old_sset hb) (et (old_sget hb) (et (old_ne hb) (et (old_ne' hb) (et (old_ne0 hb) (et (old_ne0' hb) (et h8 (et h1 (et h0 (et h6 (et h7 (et hcap (et hcap2 hcap3))))))))))))))) ?_;try exact⟨⟩)
   have bu:Bp pu:=⟨by simpa using m1,by simpa using m2⟩
   have bv:Bp pv:=⟨by simpa using o1,by simpa using o2⟩
   exact⟨k - 1,by omega,snoc (snoc (snoc (snoc hD))),l++[pu,pv,pn],g1+1,n1,_,i+1,by omega,by simp;omega,fun p hp=>by
    rcases List.mem_append.1 hp with hp|hp
    ·exact hB p hp
    ·simp at hp;rcases hp with rfl|rfl|rfl <;> assumption,n0,n2,by rw[ptC_app,List.length_append];rfl,by rw[wi (by omega) (by omega)];rfl⟩
 ·(refine sg (et h8 (et h1 (et h0 (et h6 (et h7 (df (show ¬ (i:Int)<(parts:Int) by omega))))))) ?_;try exact⟨⟩)
  have hi2:i=parts:=by omega
  subst hi2
  exact⟨hD,(l,at_),H.length+1,g1,⟨hl,hB,c0,c1⟩,by omega,rfl,by rw[hget_sapp];rfl,by rw[old_sget hb]⟩
end Go.Proofs.YthhbglkokpablaaGreat
/- Chapters 7 and 8: the walks of paths that may be, and of their straight lines. -/
namespace Go.Proofs.YthhbglkokpablaaGreat
open Go Go.RowKit E
attribute [local irreducible] XRun XOps XCode XCal XLoop XQ SemCall
set_option linter.unusedSimpArgs false
set_option linter.unusedVariables false
def nearB (x:Int):Bool:=decide (-67108864≤x)&&decide (x≤67108864)
def nrp (p:Pt):Bool:=nearB p.1&&nearB p.2
/-- A row of points, as it may lie. -/
def Pts (H:AH) (pv:Value) (l:List Pt):Prop:=
 (l=[]∧((∃ e,pv=.slice (some ⟨0,0,none⟩) 0 e)∨pv=.slice none 0 0)) ∨
 ∃ b g rest rw_,pv=sl b 0 g l.length 2∧H[b]?=some ⟨ptC l++rest,g,rw_⟩∧l.length≤9223372036854775807
theorem Pts.app {H:AH} {pv:Value} {l:List Pt} (h:Pts H pv l) (L:AH):Pts (H++L) pv l:=by
 rcases h with h|⟨b,g,rest,rw_,h1,h2,h3⟩
 ·exact .inl h
 ·exact .inr ⟨b,g,rest,rw_,h1,old_get h2 L,h3⟩
theorem Pts.form {H:AH} {pv:Value} {l:List Pt} (h:Pts H pv l):∃ a e,pv=.slice a l.length e:=by
 rcases h with ⟨rfl,⟨e,rfl⟩|rfl⟩|⟨b,g,rest,rw_,rfl,_⟩
 ·exact⟨_,_,rfl⟩
 ·exact⟨_,_,rfl⟩
 ·exact⟨_,_,rfl⟩
theorem Pts.len {H:AH} {pv:Value} {l:List Pt} (h:Pts H pv l):l.length≤9223372036854775807:=by
 rcases h with ⟨rfl,_⟩|⟨b,g,rest,rw_,rfl,_,h⟩
 ·simp
 ·exact h
theorem Pts.ne {H:AH} {pv:Value} {l:List Pt} (h:Pts H pv l) (hn:¬ l=[]):∃ b g rest rw_,pv=sl b 0 g l.length 2∧H[b]?=some ⟨ptC l++rest,g,rw_⟩∧l.length≤9223372036854775807:=h.resolve_left fun h=>hn h.1
theorem near_ (x:Int) (H:AH):SemCall Tryz.prog 107 [.int .i64 x] H (.bool (nearB x)) H []:=by
 refine pure_of ?_ rfl
 unfold nearB
 by_cases h : -67108864≤x
 ·refine XCal.of hm Tryz.func107 rfl (fun xs w=>Tryz.call107 xs w) Tryz.ntmps107 Tryz.results107 rfl ?_
  (refine sg h ?_;try exact⟨⟩)
 ·refine XCal.of hm Tryz.func107 rfl (fun xs w=>Tryz.call107 xs w) Tryz.ntmps107 Tryz.results107 rfl ?_
  (refine sg h ?_;try exact⟨⟩)
theorem far_ (p:Pt) (H:AH):SemCall Tryz.prog 106 [ptv p] H (.bool (!nrp p)) H []:=by
 refine pure_of ?_ rfl
 unfold nrp
 cases h:nearB p.1
 all_goals
  refine XCal.of hm Tryz.func106 rfl (fun xs w=>Tryz.call106 xs w) Tryz.ntmps106 Tryz.results106 rfl ?_
  simp only[go_sem,Nat.reduceEqDiff,Nat.reduceAdd,Nat.reduceSub,Nat.reduceMul,Nat.reduceLT,Nat.reduceLeDiff,Int.reducePow,Int.reduceBEq,Int.reduceBNe,Int.reduceDiv,Int.reduceMod,Int.reduceEq,Int.reduceLT,Int.reduceLE,Int.reduceAdd,Int.reduceSub,Int.reduceMul,Int.reduceNeg,Int.reduceToNat,Int.reduceTDiv,Int.reduceTMod,↓reduceIte,ptv]
  repeat ((first|refine(near_ _ _).x ?_|refine drawnF ?_ (by decide +kernel));(refine sg h ?_;try exact⟨⟩))
theorem rnearp_ (p:Pt) (H:AH):SemCall Tryz.prog 86 [ptv p] H (.bool (nrp p)) H []:=by
 refine pure_of ?_ rfl
 unfold nrp nearB
 cases h1:decide (-67108864≤p.1) with
 | false=>
  refine XCal.of hm Tryz.func86 rfl (fun xs w=>Tryz.call86 xs w) Tryz.ntmps86 Tryz.results86 rfl ?_
  simp only[go_sem,Nat.reduceEqDiff,Nat.reduceAdd,Nat.reduceSub,Nat.reduceMul,Nat.reduceLT,Nat.reduceLeDiff,Int.reducePow,Int.reduceBEq,Int.reduceBNe,Int.reduceDiv,Int.reduceMod,Int.reduceEq,Int.reduceLT,Int.reduceLE,Int.reduceAdd,Int.reduceSub,Int.reduceMul,Int.reduceNeg,Int.reduceToNat,Int.reduceTDiv,Int.reduceTMod,↓reduceIte,ptv,h1]
 | true=>
  cases h2:decide (p.1≤67108864) with
  | false=>
   refine XCal.of hm Tryz.func86 rfl (fun xs w=>Tryz.call86 xs w) Tryz.ntmps86 Tryz.results86 rfl ?_
   simp only[go_sem,Nat.reduceEqDiff,Nat.reduceAdd,Nat.reduceSub,Nat.reduceMul,Nat.reduceLT,Nat.reduceLeDiff,Int.reducePow,Int.reduceBEq,Int.reduceBNe,Int.reduceDiv,Int.reduceMod,Int.reduceEq,Int.reduceLT,Int.reduceLE,Int.reduceAdd,Int.reduceSub,Int.reduceMul,Int.reduceNeg,Int.reduceToNat,Int.reduceTDiv,Int.reduceTMod,↓reduceIte,ptv,h1,h2]
  | true=>
   cases h3:decide (-67108864≤p.2) with
   | false=>
    refine XCal.of hm Tryz.func86 rfl (fun xs w=>Tryz.call86 xs w) Tryz.ntmps86 Tryz.results86 rfl ?_
    simp only[go_sem,Nat.reduceEqDiff,Nat.reduceAdd,Nat.reduceSub,Nat.reduceMul,Nat.reduceLT,Nat.reduceLeDiff,Int.reducePow,Int.reduceBEq,Int.reduceBNe,Int.reduceDiv,Int.reduceMod,Int.reduceEq,Int.reduceLT,Int.reduceLE,Int.reduceAdd,Int.reduceSub,Int.reduceMul,Int.reduceNeg,Int.reduceToNat,Int.reduceTDiv,Int.reduceTMod,↓reduceIte,ptv,h1,h2,h3]
   | true=>
    refine XCal.of hm Tryz.func86 rfl (fun xs w=>Tryz.call86 xs w) Tryz.ntmps86 Tryz.results86 rfl ?_
    simp only[go_sem,Nat.reduceEqDiff,Nat.reduceAdd,Nat.reduceSub,Nat.reduceMul,Nat.reduceLT,Nat.reduceLeDiff,Int.reducePow,Int.reduceBEq,Int.reduceBNe,Int.reduceDiv,Int.reduceMod,Int.reduceEq,Int.reduceLT,Int.reduceLE,Int.reduceAdd,Int.reduceSub,Int.reduceMul,Int.reduceNeg,Int.reduceToNat,Int.reduceTDiv,Int.reduceTMod,↓reduceIte,ptv,h1,h2,h3]
def idxL:List Pt→Nat→Int
 | [],_=>-1
 | p::t,i=>if nrp p then idxL t (i+1) else i
theorem idxL_ge:∀ (l:List Pt) (i:Nat),decide (0≤idxL l i) = !(l.all nrp)
 | [],i=>rfl
 | p::t,i=>by
  by_cases h:nrp p=true
  ·have:idxL (p::t) i=idxL t (i+1):=by simp only[idxL,h,if_true]
   rw[this,idxL_ge t (i+1),List.all_cons,h,Bool.true_and]
  ·have h':nrp p=false:=by simpa using h
   have:idxL (p::t) i=(i:Int):=by simp only[idxL,h',Bool.false_eq_true,if_false]
   rw[this,List.all_cons,h'];simp
theorem drop_cons {α:Type} {l:List α} {i:Nat} (h:i<l.length):l.drop i=l[i]::l.drop (i+1):=List.drop_eq_getElem_cons h
theorem index_ (l:List Pt) (pv:Value) (H:AH) (h:Pts H pv l):SemCall Tryz.prog 119 [pv,.func (.func 106) [].toArray [].toArray] H (.int .i64 (idxL l 0)) H []:=by
 have hlen:=h.len
 refine pure_of ?_ rfl
 by_cases hn:l=[]
 ·subst hn
  obtain⟨a,e,rfl⟩:=h.form
  refine XCal.of hm Tryz.func119 rfl (fun xs w=>Tryz.call119 xs w) Tryz.ntmps119 Tryz.results119 rfl ?_
  (refine sg trivial ?_;try exact⟨⟩)
  refine rounds 1 ?_
  simp only[go_sem,Nat.reduceEqDiff,Nat.reduceAdd,Nat.reduceSub,Nat.reduceMul,Nat.reduceLT,Nat.reduceLeDiff,Int.reducePow,Int.reduceBEq,Int.reduceBNe,Int.reduceDiv,Int.reduceMod,Int.reduceEq,Int.reduceLT,Int.reduceLE,Int.reduceAdd,Int.reduceSub,Int.reduceMul,Int.reduceNeg,Int.reduceToNat,Int.reduceTDiv,Int.reduceTMod,↓reduceIte,List.length_nil,show ((0:Nat):Int)=0 from rfl]
  rfl
 ·obtain⟨b,g,rest,rw_,rfl,hb,_⟩:=h.ne hn
  refine XCal.of hm Tryz.func119 rfl (fun xs w=>Tryz.call119 xs w) Tryz.ntmps119 Tryz.results119 rfl ?_
  (refine sg trivial ?_;try exact⟨⟩)
  refine keep (fun k T H' D=>H'=H∧D=[]∧T 0=sl b 0 g l.length 2∧T 1=.func (.func 106) [].toArray [].toArray∧T 7=.int .i64 (l.length:Int)∧∃ i:Nat,i+k=l.length∧T 8=.int .i64 (i:Int)∧idxL (l.drop i) i=idxL l 0) l.length ⟨rfl,rfl,rfl,rfl,rfl,0,by omega,rfl,rfl⟩ ?_
  rintro k T H' D ⟨rfl,rfl,h0,h1,h7,i,hi,h8,hx⟩
  by_cases hk:i<l.length
  ·have hel:l[i]?=some l[i]:=List.getElem?_eq_getElem hk
   have hld:=fun (b:Nat)=>ald_pt (b:=b) (g:=g) (rw_:=rw_) rest hel
   rw[drop_cons hk] at hx
   simp only[idxL] at hx
   simp only[go_sem,Nat.reduceEqDiff,Nat.reduceAdd,Nat.reduceSub,Nat.reduceMul,Nat.reduceLT,Nat.reduceLeDiff,Int.reducePow,Int.reduceBEq,Int.reduceBNe,Int.reduceDiv,Int.reduceMod,Int.reduceEq,Int.reduceLT,Int.reduceLE,Int.reduceAdd,Int.reduceSub,Int.reduceMul,Int.reduceNeg,Int.reduceToNat,Int.reduceTDiv,Int.reduceTMod,↓reduceIte,h0,h1,h7,h8,dt (show (i:Int)<(l.length:Int) by omega),hb,show (0:Int)≤(i:Int) by omega,show (i:Int)<(l.length:Int) by omega,Int.toNat_natCast,Nat.zero_add,hld,ptv]
   refine(far_ l[i] _).x ?_
   cases hq:nrp l[i] with
   | true=>
    rw[hq] at hx
    (refine sg (et h0 (et h1 (et h7 h8))) ?_;try exact⟨⟩)
    exact⟨k - 1,by omega,i+1,by omega,by rw[wi (by omega) (by omega)];rfl,hx⟩
   | false=>
    rw[hq] at hx
    (refine sg (et h0 (et h1 (et h7 h8))) ?_;try exact⟨⟩)
    rw[← hx];rfl
  ·have:l.drop i=[]:=List.drop_eq_nil_of_le (by omega)
   rw[this] at hx
   (refine sg (et h0 (et h1 (et h7 (et h8 (df (show ¬ (i:Int)<(l.length:Int) by omega)))))) ?_;try exact⟨⟩)
   rw[← hx];rfl
theorem contains_ (l:List Pt) (pv:Value) (H:AH) (h:Pts H pv l):SemCall Tryz.prog 105 [pv,.func (.func 106) [].toArray [].toArray] H (.bool (!(l.all nrp))) H []:=by
 refine pure_of ?_ rfl
 refine XCal.of hm Tryz.func105 rfl (fun xs w=>Tryz.call105 xs w) Tryz.ntmps105 Tryz.results105 rfl ?_
 (refine sg trivial ?_;try exact⟨⟩)
 repeat ((first|refine(index_ l pv _ h).x ?_|refine drawnF ?_ (by decide +kernel));(refine sg idxL_ge ?_;try exact⟨⟩))
def rightB (c:Bool) (l:List Pt):Bool:=if l.length=0 then !c else decide ((4:Int)≤l.length)&&decide ((l.length:Int)≤97)&&((l.length:Int).tmod 3==1)&&l.all nrp
theorem right_ (c:Bool) (l:List Pt) (pv:Value) (H:AH) (h:Pts H pv l):SemCall Tryz.prog 93 [.agg [.bool c,pv].toArray] H (.bool (rightB c l)) H []:=by
 have hlen:=h.len
 refine pure_of ?_ rfl
 unfold rightB
 obtain⟨a,e,hpv⟩:=h.form
 by_cases hn:l.length=0
 ·rw[if_pos hn]
  subst hpv
  refine XCal.of hm Tryz.func93 rfl (fun xs w=>Tryz.call93 xs w) Tryz.ntmps93 Tryz.results93 rfl ?_
  (refine sg (et hn (show ((0:Nat):Int)=0 from rfl)) ?_;try exact⟨⟩)
 ·rw[if_neg hn]
  have hc:=fun L=>contains_ l pv (H++L) (h.app L)
  subst hpv
  cases h1:decide ((4:Int)≤l.length) with
  | false=>
   refine XCal.of hm Tryz.func93 rfl (fun xs w=>Tryz.call93 xs w) Tryz.ntmps93 Tryz.results93 rfl ?_
   (refine sg (et (bf (show ¬ (l.length:Int)=0 by omega)) h1) ?_;try exact⟨⟩)
   repeat ((first|refine(hc _).x ?_|refine drawnF ?_ (by decide +kernel));(refine sg (et h1 Bool.not_not) ?_;try exact⟨⟩))
  | true=>
   cases h2:decide ((l.length:Int)≤97) with
   | false=>
    refine XCal.of hm Tryz.func93 rfl (fun xs w=>Tryz.call93 xs w) Tryz.ntmps93 Tryz.results93 rfl ?_
    (refine sg (et (bf (show ¬ (l.length:Int)=0 by omega)) (et h1 h2)) ?_;try exact⟨⟩)
    repeat ((first|refine(hc _).x ?_|refine drawnF ?_ (by decide +kernel));(refine sg (et h1 (et h2 Bool.not_not)) ?_;try exact⟨⟩))
   | true=>
    cases h3:((l.length:Int).tmod 3==1) with
    | false=>
     refine XCal.of hm Tryz.func93 rfl (fun xs w=>Tryz.call93 xs w) Tryz.ntmps93 Tryz.results93 rfl ?_
     (refine sg (et (bf (show ¬ (l.length:Int)=0 by omega)) (et h1 (et h2 h3))) ?_;try exact⟨⟩)
     repeat ((first|refine(hc _).x ?_|refine drawnF ?_ (by decide +kernel));(refine sg (et h1 (et h2 (et h3 Bool.not_not))) ?_;try exact⟨⟩))
    | true=>
     refine XCal.of hm Tryz.func93 rfl (fun xs w=>Tryz.call93 xs w) Tryz.ntmps93 Tryz.results93 rfl ?_
     (refine sg (et (bf (show ¬ (l.length:Int)=0 by omega)) (et h1 (et h2 h3))) ?_;try exact⟨⟩)
     repeat ((first|refine(hc _).x ?_|refine drawnF ?_ (by decide +kernel));(refine sg (et h1 (et h2 (et h3 Bool.not_not))) ?_;try exact⟨⟩))
end Go.Proofs.YthhbglkokpablaaGreat
/- Chapter 8: the walk of what makes straight lines of a path. -/
namespace Go.Proofs.YthhbglkokpablaaGreat
open Go Go.RowKit E
attribute [local irreducible] XRun XOps XCode XCal XLoop XQ SemCall
set_option linter.unusedSimpArgs false
set_option linter.unusedVariables false
def flatGo:List Pt→List Pt
 | a::b::c::d::t=>(if b=a∧c=d then [d] else bentL 3 a b c d)++flatGo (d::t)
 | _=>[]
def flatL:List Pt→List Pt
 | []=>[]
 | p::t=>p::flatGo (p::t)
abbrev poly (c:Bool) (v:Value):Value:=.agg [.bool c,v].toArray
theorem empty_ (c:Bool) (l:List Pt) (pv:Value) (H:AH) (h:Pts H pv l):SemCall Tryz.prog 57 [.agg [.bool c,pv].toArray] H (.bool ((l.length:Int)==0)) H []:=by
 obtain⟨a,e,rfl⟩:=h.form
 refine pure_of ?_ rfl
 refine XCal.of hm Tryz.func57 rfl (fun xs w=>Tryz.call57 xs w) Tryz.ntmps57 Tryz.results57 rfl ?_
 (refine sg trivial ?_;try exact⟨⟩)
end Go.Proofs.YthhbglkokpablaaGreat
/- Chapter 8: the walks of the known runs, and of the law on what is within. -/
namespace Go.Proofs.YthhbglkokpablaaGreat
open Go Go.RowKit E
attribute [local irreducible] XRun XOps XCode XCal XLoop XQ SemCall
set_option linter.unusedSimpArgs false
set_option linter.unusedVariables false
def mn (a b:Int):Int:=if b<a then b else a
def mx (a b:Int):Int:=if a<b then b else a
end Go.Proofs.YthhbglkokpablaaGreat
/- Chapter 14: the walks of boxes. -/
namespace Go.Proofs.YthhbglkokpablaaGreat
open Go Go.RowKit E
attribute [local irreducible] XRun XOps XCode XCal XLoop XQ SemCall
set_option linter.unusedSimpArgs false
set_option linter.unusedVariables false
structure B4 where
 x0:Int
 y0:Int
 x1:Int
 y1:Int
deriving DecidableEq
abbrev bx (a b c d:Int):Value:=.agg [.int .i64 a,.int .i64 b,.int .i64 c,.int .i64 d].toArray
abbrev B4.val (b:B4):Value:=bx b.x0 b.y0 b.x1 b.y1
abbrev B4.I (b:B4):Prop:=I64 b.x0∧I64 b.y0∧I64 b.x1∧I64 b.y1
def emp (b:B4):Bool:=decide (b.x1≤b.x0)||decide (b.y1≤b.y0)
def meet0 (a b:B4):B4:=⟨mx a.x0 b.x0,mx a.y0 b.y0,mn a.x1 b.x1,mn a.y1 b.y1⟩
def join0 (a b:B4):B4:=⟨mn a.x0 b.x0,mn a.y0 b.y0,mx a.x1 b.x1,mx a.y1 b.y1⟩
def zero4:B4:=⟨0,0,0,0⟩
def meet (a b:B4):B4:=if emp (meet0 a b)=true then zero4 else meet0 a b
def join (a b:B4):B4:=if (emp a&&emp b)=true then zero4 else if emp a=true then b else if emp b=true then a else join0 a b
def has (b:B4) (x y:Int):Bool:=decide (b.x0≤x)&&decide (x<b.x1)&&decide (b.y0≤y)&&decide (y<b.y1)
def upS (x:Int):Int:=(x+65535) / 65536
def scr (w h:Int):Bool:=decide (1≤w)&&decide (w≤256)&&decide (1≤h)&&decide (h≤256)
end Go.Proofs.YthhbglkokpablaaGreat
/- Chapter 14: the walks of what is round all places. -/
namespace Go.Proofs.YthhbglkokpablaaGreat
open Go Go.RowKit E
attribute [local irreducible] XRun XOps XCode XCal XLoop XQ SemCall
set_option linter.unusedSimpArgs false
set_option linter.unusedVariables false
abbrev PL:=Bool × List Pt
def plC (l:List (Bool × Value)):List Value:=l.flatMap fun p=>[.bool p.1,p.2]
theorem plC_app (l m:List (Bool × Value)):plC (l++m)=plC l++plC m:=by simp[plC]
/-- Rows of points, as they may lie. -/
def Polys (H:AH) (v:Value) (ps:List PL):Prop:=
 (ps=[]∧((∃ e,v=.slice (some ⟨0,0,none⟩) 0 e)∨v=.slice none 0 0)) ∨
 ∃ b g rest rw_ vs,v=sl b 0 g ps.length 2∧H[b]?=some ⟨plC vs++rest,g,rw_⟩∧vs.length=ps.length∧ps.length≤9223372036854775807∧∀ (i:Nat) x,ps[i]?=some x→∃ pv,vs[i]?=some (x.1,pv)∧Pts H pv x.2
theorem Polys.app {H:AH} {v:Value} {ps:List PL} (h:Polys H v ps) (L:AH):Polys (H++L) v ps:=by
 rcases h with h|⟨b,g,rest,rw_,vs,h1,h2,h3,h4,h5⟩
 ·exact .inl h
 ·exact .inr ⟨b,g,rest,rw_,vs,h1,old_get h2 L,h3,h4,fun i x hx=>by obtain⟨pv,e1,e2⟩:=h5 i x hx;exact⟨pv,e1,e2.app L⟩⟩
theorem Polys.form {H:AH} {v:Value} {ps:List PL} (h:Polys H v ps):∃ a e,v=.slice a ps.length e:=by
 rcases h with ⟨rfl,⟨e,rfl⟩|rfl⟩|⟨b,g,rest,rw_,vs,rfl,_⟩
 ·exact⟨_,_,rfl⟩
 ·exact⟨_,_,rfl⟩
 ·exact⟨_,_,rfl⟩
theorem Polys.ne {H:AH} {v:Value} {ps:List PL} (h:Polys H v ps) (hn:¬ ps=[]):∃ b g rest rw_ vs,v=sl b 0 g ps.length 2∧H[b]?=some ⟨plC vs++rest,g,rw_⟩∧vs.length=ps.length∧ps.length≤9223372036854775807∧∀ (i:Nat) x,ps[i]?=some x→∃ pv,vs[i]?=some (x.1,pv)∧Pts H pv x.2:=h.resolve_left fun h=>hn h.1
def pbx (p:Pt):B4:=⟨p.1 / 65536,p.2 / 65536,upS p.1,upS p.2⟩
def stepB (s:Bool × B4) (p:Pt):Bool × B4:=(false,join0 (if s.1=true then pbx p else s.2) (pbx p))
def foldP (s:Bool × B4) (x:PL):Bool × B4:=x.2.foldl stepB s
def boxOf (ps:List PL):B4:=(ps.foldl foldP (true,zero4)).2
abbrev b4C (b:B4):List Value:=[.int .i64 b.x0,.int .i64 b.y0,.int .i64 b.x1,.int .i64 b.y1]
theorem getD_some {α:Type} {l:List α} {i:Nat} (h:i<l.length):∃ x,l[i]?=some x∧l.drop i=x::l.drop (i+1):=⟨l[i],List.getElem?_eq_getElem h,drop_cons h⟩
end Go.Proofs.YthhbglkokpablaaGreat
/- Chapter 14: the walk of the document's own box round all places. -/
namespace Go.Proofs.YthhbglkokpablaaGreat
open Go Go.RowKit E
attribute [local irreducible] XRun XOps XCode XCal XLoop XQ SemCall
set_option linter.unusedSimpArgs false
set_option linter.unusedVariables false
def tl2 (l:List (Int × Int)):List Value:=ptC l
/-- The tiles of rows: from x0 to x1 in each row from y0 to y1. -/
def rowT (y:Int) (x0:Int):Nat→List (Int × Int)
 | 0=>[]
 | n+1=>(x0,y)::rowT y (x0+1) n
def rowsT (x0:Int) (nx:Nat) (y0:Int):Nat→List (Int × Int)
 | 0=>[]
 | n+1=>rowT y0 x0 nx++rowsT x0 nx (y0+1) n
def tilesOf (b:B4) (w h:Int):List (Int × Int):=
 if scr w h=true then
  let m:=meet b ⟨0,0,w,h⟩
  if emp m=true then [] else rowsT (m.x0 / 8) ((m.x1 - 1) / 8+1 - m.x0 / 8).toNat (m.y0 / 8) ((m.y1 - 1) / 8+1 - m.y0 / 8).toNat
 else []
end Go.Proofs.YthhbglkokpablaaGreat
/- Chapter 14: the walk of tiles. -/
namespace Go.Proofs.YthhbglkokpablaaGreat
open Go Go.RowKit E
attribute [local irreducible] XRun XOps XCode XCal XLoop XQ SemCall
set_option linter.unusedSimpArgs false
set_option linter.unusedVariables false
def TB (H:AH) (M:B4) (o:List (Int × Int)) (v:Value) (H':AH):Prop:=
 (o=[]∧v=.slice none 0 0∧H'=H++[⟨b4C M,0,true⟩])∨∃ g X G,v=sl (H.length+2) 0 g o.length 2∧H'=H++(⟨b4C M,0,true⟩::X::⟨ptC o,g,true⟩::G)
theorem TB.m {H:AH} {M:B4} {o:List (Int × Int)} {v:Value} {H':AH} (h:TB H M o v H'):H'[H.length]?=some ⟨b4C M,0,true⟩:=by
 rcases h with ⟨_,_,e⟩|⟨g,X,G,_,e⟩ <;> rw[e,hget_app0] <;> rfl
end Go.Proofs.YthhbglkokpablaaGreat
/- Chapter 14: the walk of the law on tiles. -/
namespace Go.Proofs.YthhbglkokpablaaGreat
open Go Go.RowKit E
attribute [local irreducible] XRun XOps XCode XCal XLoop XQ SemCall
set_option linter.unusedSimpArgs false
set_option linter.unusedVariables false
def mkn (f:Nat→Int):List Value:=(List.range 25).map fun j=>.int .i64 (f j)
def cntI:List Pt→Nat→Int
 | [],_=>0
 | t::l,j=>(if t.2*5+t.1=(j:Int) then 1 else 0)+cntI l j
def mkP (B:B4) (W Y X:Int) (j:Nat):Prop:=∃ x y:Int,0≤x∧0≤y∧(y<Y∧x<W∨y=Y∧x<X)∧has B x y=true∧(j:Int)=y / 8*5+x / 8
open Classical in
noncomputable def mkf (B:B4) (W Y X:Int) (j:Nat):Int:=if mkP B W Y X j then 1 else 0
end Go.Proofs.YthhbglkokpablaaGreat
/- Chapter 8: the walk of the plain form of straight lines. -/
namespace Go.Proofs.YthhbglkokpablaaGreat
open Go Go.RowKit E
attribute [local irreducible] XRun XOps XCode XCal XLoop XQ SemCall
set_option linter.unusedSimpArgs false
set_option linter.unusedVariables false
theorem rright_ (c:Bool) (l:List Pt) (pv:Value) (H:AH) (h:Pts H pv l):SemCall Tryz.prog 61 [.agg [.bool c,pv].toArray] H (.bool (rightB c l)) H []:=by
 have hlen:=h.len
 refine pure_of ?_ rfl
 unfold rightB
 by_cases hn:l=[]
 ·obtain⟨a,e,rfl⟩:=h.form
  subst hn
  refine XCal.of hm Tryz.func61 rfl (fun xs w=>Tryz.call61 xs w) Tryz.ntmps61 Tryz.results61 rfl ?_
  simp only[go_sem,Nat.reduceEqDiff,Nat.reduceAdd,Nat.reduceSub,Nat.reduceMul,Nat.reduceLT,Nat.reduceLeDiff,Int.reducePow,Int.reduceBEq,Int.reduceBNe,Int.reduceDiv,Int.reduceMod,Int.reduceEq,Int.reduceLT,Int.reduceLE,Int.reduceAdd,Int.reduceSub,Int.reduceMul,Int.reduceNeg,Int.reduceToNat,Int.reduceTDiv,Int.reduceTMod,↓reduceIte,List.length_nil,show ((0:Nat):Int)=0 from rfl]
 ·have hn0:¬ l.length=0:=fun e=>hn (List.eq_nil_of_length_eq_zero e)
  obtain⟨b,g,rest,rw_,rfl,hb,_⟩:=h.ne hn
  rw[if_neg hn0]
  refine XCal.of hm Tryz.func61 rfl (fun xs w=>Tryz.call61 xs w) Tryz.ntmps61 Tryz.results61 rfl ?_
  (refine sg (bf (show ¬ ((l.length:Nat):Int)=0 by omega)) ?_;try exact⟨⟩)
  refine keep (fun k T H' D=>D=[]∧∃ (i:Nat) (G:AH),i+k=l.length∧(l.drop i).all nrp=l.all nrp∧H'=H++(⟨[.bool c,sl b 0 g l.length 2],0,true⟩::G)∧T 1=ap H.length 0 0∧T 3=.int .i64 (l.length:Int)∧T 4=.int .i64 (i:Int)) l.length
   ⟨rfl,0,[],by omega,rfl,rfl,rfl,rfl,rfl⟩ ?_
  rintro k T H' D ⟨rfl,i,G,hik,hx,rfl,h1,h3,h4⟩
  by_cases hk:i<l.length
  ·obtain⟨p,hp,hdr⟩:=getD_some hk
   have ld:=fun (b:Nat)=>ald_pt (b:=b) (g:=g) (rw_:=rw_) rest hp
   rw[hdr,List.all_cons] at hx
   simp only[go_sem,Nat.reduceEqDiff,Nat.reduceAdd,Nat.reduceSub,Nat.reduceMul,Nat.reduceLT,Nat.reduceLeDiff,Int.reducePow,Int.reduceBEq,Int.reduceBNe,Int.reduceDiv,Int.reduceMod,Int.reduceEq,Int.reduceLT,Int.reduceLE,Int.reduceAdd,Int.reduceSub,Int.reduceMul,Int.reduceNeg,Int.reduceToNat,Int.reduceTDiv,Int.reduceTMod,↓reduceIte,h1,h3,h4,dt (show (i:Int)<(l.length:Int) by omega),show (0:Int)≤(i:Int) by omega,show (i:Int)<(l.length:Int) by omega,Int.toNat_natCast,Nat.zero_add,old_get hb,ld,ptv]
   refine(rnearp_ p _).x ?_
   cases hq:nrp p with
   | true=>
    rw[hq,Bool.true_and] at hx
    (refine sg (et h1 (et h3 h4)) ?_;try exact⟨⟩)
    exact⟨k - 1,by omega,i+1,_,by omega,hx,rfl,by rw[wi (by omega) (by omega)];rfl⟩
   | false=>
    rw[hq,Bool.false_and] at hx
    (refine sg (et h1 (et h3 h4)) ?_;try exact⟨⟩)
    rw[← hx,Bool.and_false]
  ·have:l.drop i=[]:=List.drop_eq_nil_of_le (by omega)
   rw[this] at hx
   rw[← hx]
   cases k1:decide ((4:Int)≤l.length) with
   | false=>
    (refine sg (et h1 (et h3 (et h4 (et (df (show ¬ (i:Int)<(l.length:Int) by omega)) k1)))) ?_;try exact⟨⟩)
    try rfl
   | true=>
    cases k2:decide ((l.length:Int)≤97) with
    | false=>
     (refine sg (et h1 (et h3 (et h4 (et (df (show ¬ (i:Int)<(l.length:Int) by omega)) (et k1 k2))))) ?_;try exact⟨⟩)
     try rfl
    | true=>
     cases k3:((l.length:Int).tmod 3==1) with
     | false=>
      (refine sg (et h1 (et h3 (et h4 (et (df (show ¬ (i:Int)<(l.length:Int) by omega)) (et k1 (et k2 k3)))))) ?_;try exact⟨⟩)
      try rfl
     | true=>
      (refine sg (et h1 (et h3 (et h4 (et (df (show ¬ (i:Int)<(l.length:Int) by omega)) (et k1 (et k2 k3)))))) ?_;try exact⟨⟩)
      try rfl
end Go.Proofs.YthhbglkokpablaaGreat
/- Chapter 8: the walks of what compares points and rows of points. -/
namespace Go.Proofs.YthhbglkokpablaaGreat
open Go Go.RowKit E
/-- A call that only adds blocks. -/
theorem adds_of {P:Program} {f:FuncId} {args:List Value} {H:AH} {Q:Value→AH→Prop} (h:@XCal P f args H ⟨fun v H1 W=>W=[]∧Q v H1⟩) :
  Cal P f args H fun v H' W=>W=[]∧(∃ L,H'=H++L)∧Q v H':=by
 unfold XCal at h
 obtain⟨v,H1,W1,h1,rfl,hq⟩:=h
 refine⟨v,H1,[],h1,rfl,⟨H1.drop H.length,?_⟩,hq⟩
 apply List.ext_getElem?
 intro i
 by_cases hi:i<H.length
 ·rw[List.getElem?_append_left hi];exact h1.1.2.2 i hi (by simp)
 ·rw[List.getElem?_append_right (by omega),List.getElem?_drop];congr 1;omega
attribute [local irreducible] XRun XOps XCode XCal XLoop XQ SemCall
set_option linter.unusedSimpArgs false
set_option linter.unusedVariables false
end Go.Proofs.YthhbglkokpablaaGreat
/- Chapter 8: rows of points and of polys that are being made; the walks of maps. -/
namespace Go.Proofs.YthhbglkokpablaaGreat
open Go Go.RowKit E
theorem of_x {P:Program} {f:FuncId} {args:List Value} {H:AH} {Q:Value→AH→List Nat→Prop} (h:@XCal P f args H ⟨Q⟩):Cal P f args H Q:=h
attribute [local irreducible] XRun XOps XCode XCal XLoop XQ SemCall
set_option linter.unusedSimpArgs false
set_option linter.unusedVariables false
/-- What was, is. -/
def Old (H K:AH):Prop:=∀ (c:Nat) (k:Blk),H[c]?=some k→K[c]?=some k
theorem Old.refl (H:AH):Old H H:=fun _ _ h=>h
theorem Old.app {H K:AH} (h:Old H K) (L:AH):Old H (K++L):=fun c k e=>old_get (h c k e) L
theorem Old.app' (H L:AH):Old H (H++L):=fun c k e=>old_get e L
theorem Old.set {H K:AH} (h:Old H K) {b:Nat} (hb:H.length≤b) (x:Blk) (L:AH):Old H (K.set b x++L):=fun c k e=>by
 have hc:=(List.getElem?_eq_some_iff.1 e).1
 refine old_get ?_ L
 rw[List.getElem?_set_ne (by omega)];exact h c k e
theorem Old.trans {H K J:AH} (h:Old H K) (h':Old K J):Old H J:=fun c k e=>h' c k (h c k e)
theorem Pts.old {H K:AH} {pv:Value} {l:List Pt} (h:Pts H pv l) (o:Old H K):Pts K pv l:=by
 rcases h with h|⟨b,g,rest,rw_,h1,h2,h3⟩
 ·exact .inl h
 ·exact .inr ⟨b,g,rest,rw_,h1,o _ _ h2,h3⟩
theorem Polys.old {H K:AH} {v:Value} {ps:List PL} (h:Polys H v ps) (o:Old H K):Polys K v ps:=by
 rcases h with h|⟨b,g,rest,rw_,vs,h1,h2,h3,h4,h5⟩
 ·exact .inl h
 ·exact .inr ⟨b,g,rest,rw_,vs,h1,o _ _ h2,h3,h4,fun i x hx=>by obtain⟨pv,e1,e2⟩:=h5 i x hx;exact⟨pv,e1,e2.old o⟩⟩
/-- Points that lie in a new block, apart from one block. -/
def PtsF (n0 bad:Nat) (K:AH) (pv:Value) (l:List Pt):Prop:=
 (l=[]∧pv=.slice none 0 0)∨∃ b g rest rw_,n0≤b∧b≠bad∧pv=sl b 0 g l.length 2∧K[b]?=some ⟨ptC l++rest,g,rw_⟩∧l.length≤9223372036854775807
theorem PtsF.pts {n0 bad:Nat} {K:AH} {pv:Value} {l:List Pt} (h:PtsF n0 bad K pv l):Pts K pv l:=by
 rcases h with ⟨h1,h2⟩|⟨b,g,rest,rw_,_,_,h1,h2,h3⟩
 ·exact .inl ⟨h1,.inr h2⟩
 ·exact .inr ⟨b,g,rest,rw_,h1,h2,h3⟩
theorem PtsF.app {n0 bad:Nat} {K:AH} {pv:Value} {l:List Pt} (h:PtsF n0 bad K pv l) (L:AH):PtsF n0 bad (K++L) pv l:=by
 rcases h with h|⟨b,g,rest,rw_,h0,h0',h1,h2,h3⟩
 ·exact .inl h
 ·exact .inr ⟨b,g,rest,rw_,h0,h0',h1,old_get h2 L,h3⟩
theorem PtsF.set {n0 bad:Nat} {K:AH} {pv:Value} {l:List Pt} (h:PtsF n0 bad K pv l) (x:Blk):PtsF n0 bad (K.set bad x) pv l:=by
 rcases h with h|⟨b,g,rest,rw_,h0,h0',h1,h2,h3⟩
 ·exact .inl h
 ·exact .inr ⟨b,g,rest,rw_,h0,h0',h1,by rw[List.getElem?_set_ne (fun e=>h0' e.symm)];exact h2,h3⟩
theorem PtsF.weak {n0 n1 bad bad':Nat} {K:AH} {pv:Value} {l:List Pt} (h:PtsF n0 bad K pv l) (h1:n1≤n0) (h2:bad'<n0):PtsF n1 bad' K pv l:=by
 rcases h with h|⟨b,g,rest,rw_,h0,h0',h⟩
 ·exact .inl h
 ·exact .inr ⟨b,g,rest,rw_,by omega,by omega,h⟩
theorem PtsF.bad {n0 bad:Nat} {K:AH} {pv:Value} {l:List Pt} (h:PtsF n0 bad K pv l) {b':Nat} (h':K.length≤b'):PtsF n0 b' K pv l:=by
 rcases h with h|⟨b,g,rest,rw_,h0,h0',h1,h2,h3⟩
 ·exact .inl h
 ·exact .inr ⟨b,g,rest,rw_,h0,by have:=(List.getElem?_eq_some_iff.1 h2).1;omega,h1,h2,h3⟩
/-- A row of polys that is being made. -/
def OutN (n0:Nat) (K:AH) (b:Nat) (vs:List (Bool × Value)) (qs:List PL):Prop:=
 vs.length=qs.length∧∀ (i:Nat) x,qs[i]?=some x→∃ pv,vs[i]?=some (x.1,pv)∧PtsF n0 b K pv x.2
def OutP (n0:Nat) (K:AH) (v:Value) (qs:List PL):Prop:=
 (qs=[]∧v=.slice none 0 0)∨∃ b g vs,n0≤b∧v=sl b 0 g qs.length 2∧K[b]?=some ⟨plC vs,g,true⟩∧OutN n0 K b vs qs
theorem OutP.polys {n0:Nat} {K:AH} {v:Value} {qs:List PL} (h:OutP n0 K v qs) (hl:qs.length≤9223372036854775807):Polys K v qs:=by
 rcases h with ⟨h1,h2⟩|⟨b,g,vs,h0,h1,h2,h3,h4⟩
 ·exact .inl ⟨h1,.inr h2⟩
 ·exact .inr ⟨b,g,[],true,vs,h1,by rw[List.append_nil];exact h2,h3,hl,fun i x hx=>by obtain⟨pv,e1,e2⟩:=h4 i x hx;exact⟨pv,e1,e2.pts⟩⟩
theorem OutP.app {n0:Nat} {K:AH} {v:Value} {qs:List PL} (h:OutP n0 K v qs) (L:AH):OutP n0 (K++L) v qs:=by
 rcases h with h|⟨b,g,vs,h0,h1,h2,h3,h4⟩
 ·exact .inl h
 ·exact .inr ⟨b,g,vs,h0,h1,old_get h2 L,h3,fun i x hx=>by obtain⟨pv,e1,e2⟩:=h4 i x hx;exact⟨pv,e1,e2.app L⟩⟩
theorem OutN.push {n0:Nat} {K:AH} {b:Nat} {vs ws:List (Bool × Value)} {qs rs:List PL} (h:OutN n0 K b vs qs) (h':OutN n0 K b ws rs):OutN n0 K b (vs++ws) (qs++rs):=by
 refine⟨by rw[List.length_append,List.length_append,h.1,h'.1],fun i x hx=>?_⟩
 by_cases hi:i<qs.length
 ·rw[List.getElem?_append_left hi] at hx
  rw[List.getElem?_append_left (by rw[h.1];exact hi)]
  exact h.2 i x hx
 ·rw[List.getElem?_append_right (by omega)] at hx
  rw[List.getElem?_append_right (by rw[h.1];omega),h.1]
  exact h'.2 _ x hx
theorem OutN.mono {n0 n1:Nat} {K J:AH} {b b':Nat} {vs:List (Bool × Value)} {qs:List PL} (h:OutN n0 K b vs qs) (m:∀ pv l,PtsF n0 b K pv l→PtsF n1 b' J pv l):OutN n1 J b' vs qs:=
 ⟨h.1,fun i x hx=>by obtain⟨pv,e1,e2⟩:=h.2 i x hx;exact⟨pv,e1,m _ _ e2⟩⟩
theorem OutN.one {n0:Nat} {K:AH} {b:Nat} {c:Bool} {pv:Value} {l:List Pt} (h:PtsF n0 b K pv l):OutN n0 K b [(c,pv)] [(c,l)]:=
 ⟨rfl,fun i x hx=>by
  cases i with
  | zero=>simp at hx;subst hx;exact⟨pv,rfl,h⟩
  | succ i=>simp at hx⟩
theorem PtsF.old {n0 bad:Nat} {K J:AH} {pv:Value} {l:List Pt} (h:PtsF n0 bad K pv l) (o:Old K J):PtsF n0 bad J pv l:=by
 rcases h with h|⟨b,g,rest,rw_,h0,h0',h1,h2,h3⟩
 ·exact .inl h
 ·exact .inr ⟨b,g,rest,rw_,h0,h0',h1,o _ _ h2,h3⟩
theorem PtsF.form {n0 bad:Nat} {K:AH} {pv:Value} {l:List Pt} (h:PtsF n0 bad K pv l):∃ a e,pv=.slice a l.length e:=by
 rcases h with ⟨rfl,rfl⟩|⟨b,g,rest,rw_,_,_,rfl,_⟩
 ·exact⟨_,_,rfl⟩
 ·exact⟨_,_,rfl⟩
/-- What was, is, apart from one block. -/
def Olx (bo:Nat) (K J:AH):Prop:=∀ (c:Nat) (k:Blk),c≠bo→K[c]?=some k→J[c]?=some k
theorem Olx.set1 (bo:Nat) (K M:AH) (x:Blk):Olx bo K (K.set bo x++M):=fun c k hc e=>old_get (by rw[List.getElem?_set_ne (fun e=>hc e.symm)];exact e) M
theorem Olx.old {bo:Nat} {K J:AH} (o:Old K J):Olx bo K J:=fun c k _ e=>o c k e
theorem PtsF.olx {n0 bad:Nat} {K J:AH} {pv:Value} {l:List Pt} (h:PtsF n0 bad K pv l) (o:Olx bad K J):PtsF n0 bad J pv l:=by
 rcases h with h|⟨b,g,rest,rw_,h0,h0',h1,h2,h3⟩
 ·exact .inl h
 ·exact .inr ⟨b,g,rest,rw_,h0,h0',h1,o _ _ h0' h2,h3⟩
theorem Old.olx {H K J:AH} {bo:Nat} (h:Old H K) (o:Olx bo K J) (hb:H.length≤bo):Old H J:=fun c k e=>o c k (by have:=(List.getElem?_eq_some_iff.1 e).1;omega) (h c k e)
/-- The first of a row that is being made. -/
theorem OutP.first {n0 n1 bad:Nat} {K1 J:AH} {c:Bool} {pv:Value} {l:List Pt} (h:PtsF n1 bad K1 pv l) (o:Old K1 J) (hn:n0≤n1) {b g:Nat} (hb:J[b]?=some ⟨[.bool c,pv],g,true⟩) (hbl:K1.length≤b) (hnb:n0≤b):OutP n0 J (sl b 0 g 1 2) [(c,l)]:=by
 refine .inr ⟨b,g,[(c,pv)],hnb,rfl,hb,OutN.one (PtsF.old ?_ o)⟩
 have:=h.bad hbl
 rcases this with h|⟨b,g,rest,rw_,h0,h⟩
 ·exact .inl h
 ·exact .inr ⟨b,g,rest,rw_,by omega,h⟩
/-- One more of a row that is being made. -/
theorem OutP.next {n0 n1 bad bo go:Nat} {K K1 J:AH} {c:Bool} {pv:Value} {l:List Pt} {vo:List (Bool × Value)} {qs:List PL} (hov:OutN n0 K bo vo qs) (hbo:n0≤bo) (o:Olx bo K J) (h:PtsF n1 bad K1 pv l) (o1:Olx bo K1 J) (hn:bo<n1) (hb:J[bo]?=some ⟨plC vo++[.bool c,pv],go,true⟩):OutP n0 J (sl bo 0 go (qs.length+1) 2) (qs++[(c,l)]):=by
 refine .inr ⟨bo,go,vo++[(c,pv)],hbo,by rw[List.length_append];rfl,by rw[plC_app];exact hb,(hov.mono fun _ _ p=>p.olx o).push (OutN.one ?_)⟩
 exact PtsF.olx (h.weak (by omega) hn) o1
theorem PtsF.low {n0 n1 bad:Nat} {K:AH} {pv:Value} {l:List Pt} (h:PtsF n0 bad K pv l) (h1:n1≤n0):PtsF n1 bad K pv l:=by
 rcases h with h|⟨b,g,rest,rw_,h0,h0',h⟩
 ·exact .inl h
 ·exact .inr ⟨b,g,rest,rw_,by omega,h0',h⟩
theorem OutP.low {n0 n1:Nat} {K:AH} {v:Value} {qs:List PL} (h:OutP n0 K v qs) (h1:n1≤n0):OutP n1 K v qs:=by
 rcases h with h|⟨b,g,vs,h0,h2,h3,h4⟩
 ·exact .inl h
 ·exact .inr ⟨b,g,vs,by omega,h2,h3,h4.mono fun _ _ p=>p.low h1⟩
theorem Old.apx (K A M:AH):Old (K++A) (K++(A++M)):=by rw[← List.append_assoc];exact Old.app' _ _
theorem Olx.trans {b:Nat} {H K J:AH} (h:Olx b H K) (h':Olx b K J):Olx b H J:=fun c k hc e=>h' c k hc (h c k hc e)
theorem Olx.set0 (b:Nat) (K:AH) (x:Blk):Olx b K (K.set b x):=fun c k hc e=>by rw[List.getElem?_set_ne (fun e=>hc e.symm)];exact e
theorem Olx.refl (b:Nat) (K:AH):Olx b K K:=fun _ _ _ e=>e
theorem Olx.app {b:Nat} {H K:AH} (h:Olx b H K) (L:AH):Olx b H (K++L):=fun c k hc e=>old_get (h c k hc e) L
theorem Olx.bo {tb bo:Nat} {H K J:AH} (h:Olx tb H K) (hb:H.length≤bo) (o:Olx bo K J):Olx tb H J:=fun c k hc e=>o c k (by have:=(List.getElem?_eq_some_iff.1 e).1;omega) (h c k hc e)
end Go.Proofs.YthhbglkokpablaaGreat
/- Rows in blocks, of anything; rows that are being made. -/
namespace Go.Proofs.YthhbglkokpablaaGreat
open Go Go.RowKit E
set_option linter.unusedSimpArgs false
set_option linter.unusedVariables false
/-- A row of things, each of s cells. -/
def RowOf {α:Type} (s:Nat) (E:AH→List Value→α→Prop) (K:AH) (v:Value) (l:List α):Prop:=
 (l=[]∧((∃ e,v=.slice (some ⟨0,0,none⟩) 0 e)∨v=.slice none 0 0)) ∨
 ∃ b g rest rw_,∃ cs:List (List Value),v=sl b 0 g l.length s∧K[b]?=some ⟨cs.flatten++rest,g,rw_⟩∧cs.length=l.length∧l.length≤9223372036854775807 ∧
  ∀ (i:Nat) x,l[i]?=some x→∃ c,cs[i]?=some c∧c.length=s∧E K c x
/-- What holds of things in blocks, holds where these stand. -/
def Mono {α:Type} (E:AH→List Value→α→Prop):Prop:=∀ K J c x,Old K J→E K c x→E J c x
theorem RowOf.old {α:Type} {s:Nat} {E:AH→List Value→α→Prop} {K J:AH} {v:Value} {l:List α} (h:RowOf s E K v l) (m:Mono E) (o:Old K J):RowOf s E J v l:=by
 rcases h with h|⟨b,g,rest,rw_,cs,h1,h2,h3,h4,h5⟩
 ·exact .inl h
 ·exact .inr ⟨b,g,rest,rw_,cs,h1,o _ _ h2,h3,h4,fun i x hx=>by obtain⟨c,e1,e2,e3⟩:=h5 i x hx;exact⟨c,e1,e2,m _ _ _ _ o e3⟩⟩
theorem RowOf.mono {α:Type} {s:Nat} {E:AH→List Value→α→Prop} (m:Mono E):Mono (fun K (c:List Value) (l:List α)=>∃ v,c=[v]∧RowOf s E K v l):=fun K J c x o h=>by
 obtain⟨v,h1,h2⟩:=h;exact⟨v,h1,h2.old m o⟩
theorem RowOf.form {α:Type} {s:Nat} {E:AH→List Value→α→Prop} {K:AH} {v:Value} {l:List α} (h:RowOf s E K v l):∃ a e,v=.slice a l.length e:=by
 rcases h with ⟨rfl,⟨e,rfl⟩|rfl⟩|⟨b,g,rest,rw_,cs,rfl,_⟩
 ·exact⟨_,_,rfl⟩
 ·exact⟨_,_,rfl⟩
 ·exact⟨_,_,rfl⟩
theorem RowOf.len {α:Type} {s:Nat} {E:AH→List Value→α→Prop} {K:AH} {v:Value} {l:List α} (h:RowOf s E K v l):l.length≤9223372036854775807:=by
 rcases h with ⟨rfl,_⟩|⟨b,g,rest,rw_,cs,_,_,_,h,_⟩
 ·simp
 ·exact h
theorem flatten_len {s:Nat}:∀ {cs:List (List Value)},(∀ c∈cs,c.length=s)→cs.flatten.length=cs.length*s
 | [],_=>by simp
 | c::cs,h=>by
  rw[List.flatten_cons,List.length_append,flatten_len (fun d hd=>h d (by simp[hd])),h c (by simp),List.length_cons,Nat.add_mul];omega
theorem flatten_drop {s:Nat}:∀ {cs:List (List Value)} {i:Nat} {c:List Value},(∀ c∈cs,c.length=s)→cs[i]?=some c→cs.flatten.drop (i*s)=c++(cs.drop (i+1)).flatten
 | [],i,c,_,hi=>by simp at hi
 | d::cs,0,c,h,hi=>by simp at hi;subst hi;simp
 | d::cs,i+1,c,h,hi=>by
  have:=flatten_drop (s:=s) (cs:=cs) (i:=i) (fun d hd=>h d (by simp[hd])) (by simpa using hi)
  have hd:=h d (by simp)
  rw[List.flatten_cons,Nat.add_mul,Nat.one_mul,Nat.add_comm,← List.drop_drop,← hd,List.drop_left,hd,this];rfl
theorem RowOf.all {s:Nat} {α:Type} {P:List Value→α→Prop} {cs:List (List Value)} {l:List α} (hl:cs.length=l.length) (h:∀ (i:Nat) x,l[i]?=some x→∃ c,cs[i]?=some c∧c.length=s∧P c x):∀ c∈cs,c.length=s:=fun c hc=>by
 obtain⟨i,hi⟩:=List.getElem?_of_mem hc
 have hil:i<l.length:=by have:=(List.getElem?_eq_some_iff.1 hi).1;omega
 obtain⟨c',e1,e2,_⟩:=h i l[i] (List.getElem?_eq_getElem hil)
 rw[hi] at e1;cases e1;exact e2
/-- One of a row: its block, its cells, how it is read. -/
theorem RowOf.at {α:Type} {s:Nat} {E:AH→List Value→α→Prop} {K:AH} {v:Value} {l:List α} (h:RowOf s E K v l) {i:Nat} {x:α} (hx:l[i]?=some x) :
  ∃ b g cells rw_ c,v=sl b 0 g l.length s∧K[b]?=some ⟨cells,g,rw_⟩∧E K c x∧c.length=s∧l.length*s≤cells.length∧(∀ b',ald (some true) (some s) (some ⟨cells,g,rw_⟩) b' (i*s) g=some (.agg c.toArray,b'))∧∀ j,j<s→cells[i*s+j]?=c[j]?:=by
 have hi:=(List.getElem?_eq_some_iff.1 hx).1
 rcases h with ⟨rfl,_⟩|⟨b,g,rest,rw_,cs,h1,h2,h3,h4,h5⟩
 ·simp at hx
 ·obtain⟨c,e1,e2,e3⟩:=h5 i x hx
  have hall:=RowOf.all h3 h5
  have hfl:=flatten_len hall
  have hdr:=flatten_drop hall e1
  have hb:i*s+s≤cs.flatten.length:=by
   rw[hfl,h3]
   have:(i+1)*s≤l.length*s:=Nat.mul_le_mul_right s hi
   rw[Nat.add_mul,Nat.one_mul] at this;exact this
  refine⟨b,g,_,rw_,c,h1,h2,e3,e2,by rw[List.length_append,hfl,h3];omega,fun b'=>?_,fun j hj=>?_⟩
  ·have:i*s+s≤(cs.flatten++rest).length:=by rw[List.length_append];omega
   simp only[ald,true_and,this,if_true]
   rw[List.drop_append_of_le_length (by omega),hdr,List.append_assoc,← e2,List.take_left]
  ·rw[List.getElem?_append_left (by omega),← List.getElem?_drop,hdr,List.getElem?_append_left (by omega)]
/-- What hangs on blocks from n0 on alone. -/
def Dep (n0:Nat) (K:AH) (Φ:AH→Prop):Prop:=∀ J,(∀ (c:Nat) (k:Blk),n0≤c→K[c]?=some k→J[c]?=some k)→Φ J
/-- And not on block b. -/
def Dex (n0 b:Nat) (K:AH) (Φ:AH→Prop):Prop:=∀ J,(∀ (c:Nat) (k:Blk),n0≤c→c≠b→K[c]?=some k→J[c]?=some k)→Φ J
theorem Dep.here {n0:Nat} {K:AH} {Φ:AH→Prop} (h:Dep n0 K Φ):Φ K:=h K fun _ _ _ e=>e
theorem Dep.old {n0:Nat} {K J:AH} {Φ:AH→Prop} (h:Dep n0 K Φ) (o:Old K J):Dep n0 J Φ:=fun J' h'=>h J' fun c k hc e=>h' c k hc (o c k e)
theorem Dep.low {n0 n1:Nat} {K:AH} {Φ:AH→Prop} (h:Dep n0 K Φ) (hn:n1≤n0):Dep n1 K Φ:=fun J h'=>h J fun c k hc e=>h' c k (by omega) e
theorem Dep.olx {n0 b:Nat} {K J:AH} {Φ:AH→Prop} (h:Dep n0 K Φ) (o:Olx b K J) (hb:b<n0):Dep n0 J Φ:=fun J' h'=>h J' fun c k hc e=>h' c k hc (o c k (by omega) e)
theorem Dep.map {n0:Nat} {K:AH} {Φ Ψ:AH→Prop} (h:Dep n0 K Φ) (m:∀ J,Φ J→Ψ J):Dep n0 K Ψ:=fun J h'=>m J (h J h')
theorem Dep.and {n0:Nat} {K:AH} {Φ Ψ:AH→Prop} (h:Dep n0 K Φ) (h':Dep n0 K Ψ):Dep n0 K (fun J=>Φ J∧Ψ J):=fun J k=>⟨h J k,h' J k⟩
theorem Dep.pure {n0:Nat} {K:AH} {p:Prop} (h:p):Dep n0 K (fun _=>p):=fun _ _=>h
theorem Dex.olx {n0 b:Nat} {K J:AH} {Φ:AH→Prop} (h:Dex n0 b K Φ) (o:Olx b K J):Dex n0 b J Φ:=fun J' h'=>h J' fun c k hc hb e=>h' c k hc hb (o c k hb e)
theorem Dex.olt {n0 b t:Nat} {K J:AH} {Φ:AH→Prop} (h:Dex n0 b K Φ) (o:Olx t K J) (ht:t<n0):Dex n0 b J Φ:=fun J' h'=>h J' fun c k hc hb e=>h' c k hc hb (o c k (by omega) e)
theorem Dex.dep {n0 b:Nat} {K:AH} {Φ:AH→Prop} (h:Dex n0 b K Φ):Dep n0 K Φ:=fun J h'=>h J fun c k hc _ e=>h' c k hc e
theorem Dep.dex {n0 n1 b:Nat} {K:AH} {Φ:AH→Prop} (h:Dep n1 K Φ) (hn:n0≤n1) (hb:b<n1∨K.length≤b):Dex n0 b K Φ:=fun J h'=>h J fun c k hc e=>h' c k (by omega) (by have:=(List.getElem?_eq_some_iff.1 e).1;omega) e
/-- A row that is being made, in a block from n0 on. -/
def MkRow {α:Type} (s:Nat) (E:AH→List Value→α→Prop) (n0:Nat) (K:AH) (v:Value) (l:List α):Prop:=
 (l=[]∧v=.slice none 0 0) ∨
 ∃ b g,∃ cs:List (List Value),n0≤b∧v=sl b 0 g l.length s∧K[b]?=some ⟨cs.flatten,g,true⟩∧cs.length=l.length ∧
  ∀ (i:Nat) x,l[i]?=some x→∃ c,cs[i]?=some c∧c.length=s∧Dex n0 b K (fun J=>E J c x)
theorem MkRow.dep {α:Type} {s:Nat} {E:AH→List Value→α→Prop} {n0:Nat} {K:AH} {v:Value} {l:List α} (h:MkRow s E n0 K v l) (hl:l.length≤9223372036854775807):Dep n0 K (fun J=>RowOf s E J v l):=by
 rcases h with ⟨rfl,rfl⟩|⟨b,g,cs,h0,h1,h2,h3,h4⟩
 ·exact fun J _=>.inl ⟨rfl,.inr rfl⟩
 ·exact fun J hJ=>.inr ⟨b,g,[],true,cs,h1,by rw[List.append_nil];exact hJ _ _ h0 h2,h3,hl,fun i x hx=>by obtain⟨c,e1,e2,e3⟩:=h4 i x hx;exact⟨c,e1,e2,e3.dep J hJ⟩⟩
theorem MkRow.low {α:Type} {s:Nat} {E:AH→List Value→α→Prop} {n0 n1:Nat} {K:AH} {v:Value} {l:List α} (h:MkRow s E n0 K v l) (hn:n1≤n0):MkRow s E n1 K v l:=by
 rcases h with h|⟨b,g,cs,h0,h1,h2,h3,h4⟩
 ·exact .inl h
 ·exact .inr ⟨b,g,cs,by omega,h1,h2,h3,fun i x hx=>by obtain⟨c,e1,e2,e3⟩:=h4 i x hx;exact⟨c,e1,e2,fun J hJ=>e3 J fun c k hc hb e=>hJ c k (by omega) hb e⟩⟩
theorem MkRow.old {α:Type} {s:Nat} {E:AH→List Value→α→Prop} {n0:Nat} {K J:AH} {v:Value} {l:List α} (h:MkRow s E n0 K v l) (o:Old K J):MkRow s E n0 J v l:=by
 rcases h with h|⟨b,g,cs,h0,h1,h2,h3,h4⟩
 ·exact .inl h
 ·exact .inr ⟨b,g,cs,h0,h1,o _ _ h2,h3,fun i x hx=>by obtain⟨c,e1,e2,e3⟩:=h4 i x hx;exact⟨c,e1,e2,e3.olx (Olx.old o)⟩⟩
theorem MkRow.olt {α:Type} {s:Nat} {E:AH→List Value→α→Prop} {n0 t:Nat} {K J:AH} {v:Value} {l:List α} (h:MkRow s E n0 K v l) (o:Olx t K J) (ht:t<n0):MkRow s E n0 J v l:=by
 rcases h with h|⟨b,g,cs,h0,h1,h2,h3,h4⟩
 ·exact .inl h
 ·exact .inr ⟨b,g,cs,h0,h1,o _ _ (by omega) h2,h3,fun i x hx=>by obtain⟨c,e1,e2,e3⟩:=h4 i x hx;exact⟨c,e1,e2,e3.olt o ht⟩⟩
theorem MkRow.form {α:Type} {s:Nat} {E:AH→List Value→α→Prop} {n0:Nat} {K:AH} {v:Value} {l:List α} (h:MkRow s E n0 K v l):∃ a e,v=.slice a l.length e:=by
 rcases h with ⟨rfl,rfl⟩|⟨b,g,cs,_,rfl,_⟩
 ·exact⟨_,_,rfl⟩
 ·exact⟨_,_,rfl⟩
/-- The first of a row that is being made. -/
theorem MkRow.first {α:Type} {s:Nat} {E:AH→List Value→α→Prop} {n0:Nat} {J:AH} {x:α} {c:List Value} {b g:Nat} (hc:Dex n0 b J (fun J=>E J c x)) (hl:c.length=s) (hb:J[b]?=some ⟨c,g,true⟩) (hn:n0≤b):MkRow s E n0 J (sl b 0 g 1 s) [x]:=
 .inr ⟨b,g,[c],hn,rfl,by simpa using hb,rfl,fun i y hy=>by
  cases i with
  | zero=>simp at hy;subst hy;exact⟨c,rfl,hl,hc⟩
  | succ i=>simp at hy⟩
/-- One more of a row that is being made. -/
theorem MkRow.next {α:Type} {s:Nat} {E:AH→List Value→α→Prop} {n0:Nat} {K J:AH} {l:List α} {x:α} {c:List Value} {b g':Nat} {cs:List (List Value)} (h0:n0≤b) (h3:cs.length=l.length)
  (h4:∀ (i:Nat) x,l[i]?=some x→∃ c,cs[i]?=some c∧c.length=s∧Dex n0 b K (fun J=>E J c x)) (o:Olx b K J) (hc:Dex n0 b J (fun J=>E J c x)) (hl:c.length=s) (hb:J[b]?=some ⟨cs.flatten++c,g',true⟩):MkRow s E n0 J (sl b 0 g' (l.length+1) s) (l++[x]):=
 .inr ⟨b,g',cs++[c],h0,by rw[List.length_append];rfl,by rw[List.flatten_append,List.flatten_singleton];exact hb,by rw[List.length_append,List.length_append,h3];rfl,fun i y hy=>by
  by_cases hi:i<l.length
  ·rw[List.getElem?_append_left hi] at hy
   rw[List.getElem?_append_left (by omega)]
   obtain⟨d,e1,e2,e3⟩:=h4 i y hy
   exact⟨d,e1,e2,e3.olx o⟩
  ·rw[List.getElem?_append_right (by omega)] at hy
   rw[List.getElem?_append_right (by omega),h3]
   have:i - l.length=0:=by have:=(List.getElem?_eq_some_iff.1 hy).1;simp at this;omega
   rw[this] at hy ⊢
   simp at hy;subst hy
   exact⟨c,rfl,hl,hc⟩⟩
theorem RowOf.none {α:Type} {s:Nat} {E:AH→List Value→α→Prop} {K:AH}:RowOf s E K (.slice none 0 0) []:=.inl ⟨rfl,.inr rfl⟩
end Go.Proofs.YthhbglkokpablaaGreat
/- Heaps that differ at some blocks. -/
namespace Go.Proofs.YthhbglkokpablaaGreat
open Go Go.RowKit E
/-- Blocks beside p stand. -/
def OlP (p:Nat→Prop) (K J:AH):Prop:=∀ (c:Nat) (k:Blk),¬ p c→K[c]?=some k→J[c]?=some k
theorem OlP.refl (p:Nat→Prop) (K:AH):OlP p K K:=fun _ _ _ h=>h
theorem OlP.old {p:Nat→Prop} {K J:AH} (o:Old K J):OlP p K J:=fun c k _ e=>o c k e
theorem take_snoc {α:Type} {l:List α} {i:Nat} {x:α} (h:l[i]?=some x):l.take (i+1)=l.take i++[x]:=by
 obtain⟨hi,rfl⟩:=List.getElem?_eq_some_iff.1 h
 rw[List.take_append_getElem hi]
theorem take_len {α:Type} {l:List α} {i:Nat} (h:i≤l.length):(l.take i).length=i:=by rw[List.length_take];omega
end Go.Proofs.YthhbglkokpablaaGreat
/- Documents as plain data. -/
namespace Go.Proofs.YthhbglkokpablaaGreat
open Go Go.RowKit E
set_option linter.unusedSimpArgs false
set_option linter.unusedVariables false
structure Ez where
 x1:Int
 y1:Int
 x2:Int
 y2:Int
structure Ky where
 t:Int
 v:Int
 how:Int
 e:Ez
structure Pk where
 t:Int
 p:PL
 how:Int
 e:Ez
structure C4 where
 r:Int
 g:Int
 b:Int
 a:Int
structure Ck where
 t:Int
 c:C4
 how:Int
 e:Ez
structure Pnt where
 kind:Int
 a:C4
 b:C4
 p:Pt
 q:Pt
 r:Int
structure Sh where
 form:Int
 n:Int
 w:List Ky
 h:List Ky
 paths:List Pk
 fill:Bool
 rule:Int
 paint:Pnt
 colors:List Ck
 stroke:Bool
 width:List Ky
 line:C4
 cap:Int
 dash:List Int
 frm:List Ky
 to:List Ky
structure Ly where
 kind:Int
 parent:Int
 comp:Int
 matte:Int
 in_:Int
 out:Int
 start:Int
 x:List Ky
 y:List Ky
 ax:List Ky
 ay:List Ky
 sx:List Ky
 sy:List Ky
 turn:List Ky
 opac:List Ky
 remap:List Ky
 mask:PL
 shape:Sh
structure Dc where
 in_:Int
 out:Int
 comps:List (List Ly)
abbrev ezC (e:Ez):List Value:=[.int .i64 e.x1,.int .i64 e.y1,.int .i64 e.x2,.int .i64 e.y2]
abbrev c4C (c:C4):List Value:=[.int .u8 c.r,.int .u8 c.g,.int .u8 c.b,.int .u8 c.a]
abbrev kyC (k:Ky):List Value:=[.int .i64 k.t,.int .i64 k.v,.int .i64 k.how,.int .i64 k.e.x1,.int .i64 k.e.y1,.int .i64 k.e.x2,.int .i64 k.e.y2]
abbrev ckC (k:Ck):List Value:=[.int .i64 k.t,.int .u8 k.c.r,.int .u8 k.c.g,.int .u8 k.c.b,.int .u8 k.c.a,.int .i64 k.how,.int .i64 k.e.x1,.int .i64 k.e.y1,.int .i64 k.e.x2,.int .i64 k.e.y2]
abbrev pntC (p:Pnt):List Value:=[.int .i64 p.kind,.int .u8 p.a.r,.int .u8 p.a.g,.int .u8 p.a.b,.int .u8 p.a.a,.int .u8 p.b.r,.int .u8 p.b.g,.int .u8 p.b.b,.int .u8 p.b.a,.int .i64 p.p.1,.int .i64 p.p.2,.int .i64 p.q.1,.int .i64 p.q.2,.int .i64 p.r]
def KyE (_:AH) (c:List Value) (k:Ky):Prop:=c=kyC k
def CkE (_:AH) (c:List Value) (k:Ck):Prop:=c=ckC k
def InE (_:AH) (c:List Value) (k:Int):Prop:=c=[.int .i64 k]
def PkE (K:AH) (c:List Value) (k:Pk):Prop:=∃ pv,c=[.int .i64 k.t,.bool k.p.1,pv,.int .i64 k.how,.int .i64 k.e.x1,.int .i64 k.e.y1,.int .i64 k.e.x2,.int .i64 k.e.y2]∧Pts K pv k.p.2
abbrev Kys (K:AH) (v:Value) (l:List Ky):Prop:=RowOf 7 KyE K v l
abbrev Cks (K:AH) (v:Value) (l:List Ck):Prop:=RowOf 10 CkE K v l
abbrev Ins (K:AH) (v:Value) (l:List Int):Prop:=RowOf 1 InE K v l
abbrev Pks (K:AH) (v:Value) (l:List Pk):Prop:=RowOf 8 PkE K v l
theorem KyE.m:Mono KyE:=fun _ _ _ _ _ h=>h
theorem CkE.m:Mono CkE:=fun _ _ _ _ _ h=>h
theorem InE.m:Mono InE:=fun _ _ _ _ _ h=>h
theorem PkE.m:Mono PkE:=fun _ _ _ _ o ⟨pv,h1,h2⟩=>⟨pv,h1,h2.old o⟩
/-- A shape's cells. -/
abbrev shC (s:Sh) (vw vh vp vc vd vda vf vt:Value):List Value:=
 [.int .i64 s.form,.int .i64 s.n,vw,vh,vp,.bool s.fill,.int .i64 s.rule,.int .i64 s.paint.kind,.int .u8 s.paint.a.r,.int .u8 s.paint.a.g,.int .u8 s.paint.a.b,.int .u8 s.paint.a.a,.int .u8 s.paint.b.r,.int .u8 s.paint.b.g,.int .u8 s.paint.b.b,.int .u8 s.paint.b.a,
  .int .i64 s.paint.p.1,.int .i64 s.paint.p.2,.int .i64 s.paint.q.1,.int .i64 s.paint.q.2,.int .i64 s.paint.r,vc,.bool s.stroke,vd,.int .u8 s.line.r,.int .u8 s.line.g,.int .u8 s.line.b,.int .u8 s.line.a,.int .i64 s.cap,vda,vf,vt]
/-- A shape's rows. -/
structure ShV (K:AH) (s:Sh) (vw vh vp vc vd vda vf vt:Value):Prop where
 w:Kys K vw s.w
 h:Kys K vh s.h
 paths:Pks K vp s.paths
 colors:Cks K vc s.colors
 width:Kys K vd s.width
 dash:Ins K vda s.dash
 frm:Kys K vf s.frm
 to:Kys K vt s.to
theorem ShV.old {K J:AH} {s:Sh} {a b c d e f g h:Value} (k:ShV K s a b c d e f g h) (o:Old K J):ShV J s a b c d e f g h:=
 ⟨k.w.old KyE.m o,k.h.old KyE.m o,k.paths.old PkE.m o,k.colors.old CkE.m o,k.width.old KyE.m o,k.dash.old InE.m o,k.frm.old KyE.m o,k.to.old KyE.m o⟩
/-- A layer's cells. -/
abbrev lyC (l:Ly) (v0 v1 v2 v3 v4 v5 v6 v7 v8 pm:Value) (sh:List Value):List Value:=
 .int .i64 l.kind::.int .i64 l.parent::.int .i64 l.comp::.int .i64 l.matte::.int .i64 l.in_::.int .i64 l.out::.int .i64 l.start::v0::v1::v2::v3::v4::v5::v6::v7::v8::.bool l.mask.1::pm::sh
/-- A layer's rows. -/
structure LyV (K:AH) (l:Ly) (v0 v1 v2 v3 v4 v5 v6 v7 v8 pm:Value):Prop where
 x:Kys K v0 l.x
 y:Kys K v1 l.y
 ax:Kys K v2 l.ax
 ay:Kys K v3 l.ay
 sx:Kys K v4 l.sx
 sy:Kys K v5 l.sy
 turn:Kys K v6 l.turn
 opac:Kys K v7 l.opac
 remap:Kys K v8 l.remap
 mask:Pts K pm l.mask.2
theorem LyV.old {K J:AH} {l:Ly} {a b c d e f g h i j:Value} (k:LyV K l a b c d e f g h i j) (o:Old K J):LyV J l a b c d e f g h i j:=
 ⟨k.x.old KyE.m o,k.y.old KyE.m o,k.ax.old KyE.m o,k.ay.old KyE.m o,k.sx.old KyE.m o,k.sy.old KyE.m o,k.turn.old KyE.m o,k.opac.old KyE.m o,k.remap.old KyE.m o,k.mask.old o⟩
def LyE (K:AH) (c:List Value) (l:Ly):Prop:=∃ v0 v1 v2 v3 v4 v5 v6 v7 v8 pm vw vh vp vc vd vda vf vt,c=lyC l v0 v1 v2 v3 v4 v5 v6 v7 v8 pm (shC l.shape vw vh vp vc vd vda vf vt)∧LyV K l v0 v1 v2 v3 v4 v5 v6 v7 v8 pm∧ShV K l.shape vw vh vp vc vd vda vf vt
theorem LyE.m:Mono LyE:=fun _ _ _ _ o ⟨v0,v1,v2,v3,v4,v5,v6,v7,v8,pm,vw,vh,vp,vc,vd,vda,vf,vt,h1,h2,h3⟩=>⟨v0,v1,v2,v3,v4,v5,v6,v7,v8,pm,vw,vh,vp,vc,vd,vda,vf,vt,h1,h2.old o,h3.old o⟩
abbrev Lys (K:AH) (v:Value) (l:List Ly):Prop:=RowOf 50 LyE K v l
def CoE (K:AH) (c:List Value) (l:List Ly):Prop:=∃ v,c=[v]∧Lys K v l
theorem CoE.m:Mono CoE:=RowOf.mono LyE.m
abbrev Cos (K:AH) (v:Value) (l:List (List Ly)):Prop:=RowOf 1 CoE K v l
abbrev dcV (d:Dc) (v:Value):Value:=.agg [.int .i64 d.in_,.int .i64 d.out,v].toArray
end Go.Proofs.YthhbglkokpablaaGreat
/- Documents: what may be, in plain words. -/
namespace Go.Proofs.YthhbglkokpablaaGreat
open Go Go.RowKit E
set_option linter.unusedSimpArgs false
set_option linter.unusedVariables false
def tickB (t:Int):Bool:=decide (-1073741824≤t)&&decide (t≤1073741824)
def easeB (e:Ez):Bool:=(decide (0≤e.x1)&&decide (e.x1≤65536))&&(decide (0≤e.x2)&&decide (e.x2≤65536))&&(decide (-131072≤e.y1)&&decide (e.y1≤196608))&&(decide (-131072≤e.y2)&&decide (e.y2≤196608))
def ez0 (e:Ez):Bool:=(e.x1==0)&&((e.y1==0)&&((e.x2==0)&&(e.y2==0)))
def howB (how:Int) (e:Ez):Bool:=if how=2 then easeB e else ((how==0)||(how==1))&&ez0 e
def movesB (t how:Int) (e:Ez):Bool:=tickB t&&howB how e
def kstB (f:Bool) (a t how:Int) (e:Ez):Bool:=tickB t&&(f||decide (a<t))&&howB how e
def keysGo:Bool→Int→List Ky→Bool
 | _,_,[]=>true
 | f,a,k::l=>kstB f a k.t k.how k.e&&nearB k.v&&keysGo false k.t l
def keysB (l:List Ky):Bool:=keysGo true 0 l&&decide ((l.length:Int)≤32)
def cksGo:Bool→Int→List Ck→Bool
 | _,_,[]=>true
 | f,a,k::l=>kstB f a k.t k.how k.e&&cksGo false k.t l
def cksB (l:List Ck):Bool:=cksGo true 0 l&&decide ((l.length:Int)≤32)
def fitsB (a b:PL):Bool:=decide ((a.2.length:Int)=b.2.length)&&(a.1==b.1)
def pksGo (z:PL):Bool→Int→List Pk→Bool
 | _,_,[]=>true
 | f,a,k::l=>kstB f a k.t k.how k.e&&!(decide ((k.p.2.length:Int)=0))&&rightB k.p.1 k.p.2&&fitsB k.p z&&pksGo z false k.t l
def pksB (l:List Pk):Bool:=pksGo ((l[0]?).elim (false,[]) (·.p)) true 0 l&&decide ((l.length:Int)≤32)
def paintB (p:Pnt):Bool:=decide (0≤p.kind)&&decide (p.kind≤2)&&nearB p.p.1&&nearB p.p.2&&nearB p.q.1&&nearB p.q.2&&nearB p.r
def dashB (l:List Int):Bool:=decide ((l.length:Int)≤8)&&l.all fun n=>decide (65536≤n)&&decide (n≤67108864)
def formB (s:Sh):Bool:=
 if s.form<0∨3<s.form then false
 else if (s.form=2∧(s.n<2∨16<s.n))∨(¬ s.form=2∧¬ s.n=0) then false
 else if s.form=3 then decide ((s.w.length:Int)=0)&&decide ((s.h.length:Int)=0)&&pksB s.paths
 else decide ((s.paths.length:Int)=0)&&keysB s.w&&keysB s.h
def shapeB (s:Sh):Bool:=formB s&&((s.rule==0)||(s.rule==1))&&paintB s.paint&&cksB s.colors&&keysB s.width&&keysB s.frm&&keysB s.to&&((s.cap==0)||(s.cap==1))&&dashB s.dash
/-- Rows of which each is as the other's. -/
def eqG {α:Type} (q:α→α→Bool):List α→List α→Bool
 | [],[]=>true
 | x::s,y::t=>q x y&&eqG q s t
 | _,_=>false
def ezQ (x y:Ez):Bool:=(x.x1==y.x1)&&((x.y1==y.y1)&&((x.x2==y.x2)&&(x.y2==y.y2)))
def kyQ (x y:Ky):Bool:=(x.t==y.t)&&((x.v==y.v)&&((x.how==y.how)&&((x.e.x1==y.e.x1)&&((x.e.y1==y.e.y1)&&((x.e.x2==y.e.x2)&&(x.e.y2==y.e.y2))))))
def ckQ (x y:Ck):Bool:=(x.t==y.t)&&((x.c.r==y.c.r)&&((x.c.g==y.c.g)&&((x.c.b==y.c.b)&&((x.c.a==y.c.a)&&((x.how==y.how)&&((x.e.x1==y.e.x1)&&((x.e.y1==y.e.y1)&&((x.e.x2==y.e.x2)&&(x.e.y2==y.e.y2)))))))))
def ptQ (x y:Pt):Bool:=(x.1==y.1)&&(x.2==y.2)
def inQ (x y:Int):Bool:=x==y
def plQ (p q:PL):Bool:=(p.1==q.1)&&eqG ptQ p.2 q.2
def pkQ (x y:Pk):Bool:=(x.t==y.t)&&(x.how==y.how)&&ezQ x.e y.e&&plQ x.p y.p
def c4Q (x y:C4):Bool:=(x.r==y.r)&&((x.g==y.g)&&((x.b==y.b)&&(x.a==y.a)))
def pntQ (x y:Pnt):Bool:=(x.kind==y.kind)&&((x.a.r==y.a.r)&&((x.a.g==y.a.g)&&((x.a.b==y.a.b)&&((x.a.a==y.a.a)&&((x.b.r==y.b.r)&&((x.b.g==y.b.g)&&((x.b.b==y.b.b)&&((x.b.a==y.b.a)&&((x.p.1==y.p.1)&&((x.p.2==y.p.2)&&((x.q.1==y.q.1)&&((x.q.2==y.q.2)&&(x.r==y.r)))))))))))))
def shP (x y:Sh):Bool:=(x.form==y.form)&&(x.n==y.n)&&(x.fill==y.fill)&&(x.rule==y.rule)&&pntQ x.paint y.paint&&(x.stroke==y.stroke)&&c4Q x.line y.line&&(x.cap==y.cap)
def shK (x y:Sh):Bool:=eqG kyQ x.w y.w&&eqG kyQ x.h y.h&&eqG kyQ x.width y.width&&eqG kyQ x.frm y.frm&&eqG kyQ x.to y.to
def shQ (x y:Sh):Bool:=shP x y&&shK x y&&eqG pkQ x.paths y.paths&&eqG ckQ x.colors y.colors&&eqG inQ x.dash y.dash
def ez00:Ez:=⟨0,0,0,0⟩
def c400:C4:=⟨0,0,0,0⟩
def pnt00:Pnt:=⟨0,c400,c400,(0,0),(0,0),0⟩
def sh00:Sh:=⟨0,0,[],[],[],false,0,pnt00,[],false,[],c400,0,[],[],[]⟩
def bareB (s:Sh):Bool:=shQ s sh00
def Ly.keys (l:Ly):List (List Ky):=[l.x,l.y,l.ax,l.ay,l.sx,l.sy,l.turn,l.opac,l.remap]
def maskB (p:PL):Bool:=rightB p.1 p.2&&(decide ((p.2.length:Int)=0)||p.1)
def layerB (l:Ly):Bool:=
 (((l.kind==0)||(l.kind==1))&&decide (0≤l.matte)&&decide (l.matte≤2))&&(tickB l.in_&&tickB l.out&&tickB l.start&&decide (l.in_<l.out))&&maskB l.mask&&l.keys.all keysB &&
  (if l.kind=1 then bareB l.shape else (l.comp==0)&&decide ((l.remap.length:Int)=0)&&shapeB l.shape)
end Go.Proofs.YthhbglkokpablaaGreat
/- Parents that lead back: a plain law. -/
namespace Go.Proofs.YthhbglkokpablaaGreat
open Go Go.RowKit E
set_option linter.unusedSimpArgs false
set_option linter.unusedVariables false
theorem ilt_ge (a b:Int):a<b∨b≤a:=by omega
theorem php:∀ (n:Nat) (f:Nat→Nat),(∀ j,j≤n→f j<n)→∃ a b,a<b∧b≤n∧f a=f b
 | 0,f,h=>absurd (h 0 (by omega)) (by omega)
 | n+1,f,h=>by
  by_cases hv:∃ a,a≤n∧f a=f (n+1)
  ·obtain⟨a,h1,h2⟩:=hv;exact⟨a,n+1,by omega,by omega,h2⟩
  ·have hne:∀ a,a≤n→f a≠f (n+1):=fun a ha e=>hv ⟨a,ha,e⟩
   have hvn:=h (n+1) (by omega)
   obtain⟨a,b,h1,h2,h3⟩:=php n (fun j=>if f j=n then f (n+1) else f j) (fun j hj=>by
    have h1:=h j (by omega)
    have h2:=hne j hj
    show (if f j=n then f (n+1) else f j)<n
    split <;> omega)
   have ha:=hne a (by omega)
   have hb:=hne b h2
   refine⟨a,b,h1,by omega,?_⟩
   have h3:=h3
   split at h3 <;> split at h3 <;> omega
/-- The k-th parent. -/
def chn (ps:List Int) (i:Int):Nat→Int
 | 0=>i
 | k+1=>if 0≤chn ps i k then (ps[(chn ps i k).toNat]?).getD (-1) else chn ps i k
theorem chn_add (ps:List Int) (i:Int) (a:Nat):∀ b,chn ps i (a+b)=chn ps (chn ps i a) b
 | 0=>rfl
 | b+1=>by rw[← Nat.add_assoc,chn,chn,chn_add ps i a b]
theorem chn_neg {ps:List Int} {i:Int} (h:i<0):∀ k,chn ps i k=i
 | 0=>rfl
 | k+1=>by rw[chn,chn_neg h k,if_neg (by omega)]
/-- Whether the way from k comes back. -/
def ringAt (ps:List Int) (k:Int):Prop:=∃ m,1≤m∧m≤ps.length∧chn ps k m=k
theorem chn_lt {ps:List Int} (h:∀ p∈ps,p<ps.length) {i:Int} (hi:i<ps.length):∀ k,chn ps i k<ps.length
 | 0=>hi
 | k+1=>by
  rw[chn]
  split
  ·rename_i h0
   have hl:=chn_lt h hi k
   rw[List.getElem?_eq_getElem (by omega)]
   exact h _ (List.getElem_mem _)
  ·exact chn_lt h hi k
theorem ring_law (ps:List Int) (h:∀ p∈ps,p<ps.length):(∃ i:Nat,i<ps.length∧0≤chn ps i (ps.length+1))↔∃ k:Nat,k<ps.length∧ringAt ps k:=by
 constructor
 ·rintro⟨i,hi,hc⟩
  have hpos:∀ j,j≤ps.length→0≤chn ps i j:=fun j hj=>by
   rcases ilt_ge (chn ps i j) 0 with hlt|hge
   ·have:=chn_add ps i j (ps.length+1 - j)
    rw[show j+(ps.length+1 - j)=ps.length+1 by omega,chn_neg hlt] at this
    omega
   ·exact hge
  have hlt:=chn_lt h (i:=(i:Int)) (by omega)
  obtain⟨a,b,h1,h2,h3⟩:=php ps.length (fun j=>(chn ps i j).toNat) (fun j hj=>by
   have:=hpos j hj;have:=hlt j
   show (chn ps i j).toNat<ps.length;omega)
  have ea:chn ps i a=chn ps i b:=by
   have:=hpos a (by omega);have:=hpos b h2
   have h3:(chn ps i a).toNat=(chn ps i b).toNat:=h3;omega
  have hk0:=hpos a (by omega)
  have hkl:=hlt a
  refine⟨(chn ps i a).toNat,by omega,b - a,by omega,by omega,?_⟩
  rw[show (((chn ps i a).toNat:Nat):Int)=chn ps i a by omega,← chn_add,show a+(b - a)=b by omega,ea]
 ·rintro⟨k,hk,m,h1,h2,h3⟩
  refine⟨k,hk,?_⟩
  rcases ilt_ge (chn ps k (ps.length+1)) 0 with hlt|hge
  ·have hm:∀ j,chn ps k (j*m)=k:=fun j=>by
    induction j with
    | zero=>rw[Nat.zero_mul];rfl
    | succ j ih=>rw[Nat.add_mul,Nat.one_mul,chn_add,ih,h3]
   have hle:ps.length+1≤(ps.length+1)*m:=Nat.le_mul_of_pos_right _ (by omega)
   have:=chn_add ps k (ps.length+1) ((ps.length+1)*m - (ps.length+1))
   rw[show ps.length+1+((ps.length+1)*m - (ps.length+1))=(ps.length+1)*m by omega,hm,chn_neg hlt] at this
   omega
  ·exact hge
end Go.Proofs.YthhbglkokpablaaGreat
/- Documents: what may be, on: where layers stand, how many nodes, how deep. -/
namespace Go.Proofs.YthhbglkokpablaaGreat
open Go Go.RowKit E
set_option linter.unusedSimpArgs false
set_option linter.unusedVariables false
def Ly.parents (c:List Ly):List Int:=c.map (·.parent)
def ringGo (ps:List Int) (k:Int):Nat→Int→Bool
 | 0,_=>false
 | n+1,a=>if a=k then true else if 0≤a∧a<ps.length then ringGo ps k n ((ps[a.toNat]?).getD (-1)) else false
def ringsB (ps:List Int) (k:Nat):Bool:=ringGo ps k ps.length ((ps[k]?).getD (-1))
theorem ringGo_iff (ps:List Int) (k:Int) (hk:0≤k∧k<ps.length):∀ (n:Nat) (a:Int),ringGo ps k n a=true↔∃ m,m<n∧chn ps a m=k
 | 0,a=>by simp[ringGo]
 | n+1,a=>by
  rw[ringGo]
  by_cases h:a=k
  ·rw[if_pos h];exact⟨fun _=>⟨0,by omega,h⟩,fun _=>rfl⟩
  ·rw[if_neg h]
   have e:0≤a→∀ m,chn ps a (m+1)=chn ps ((ps[a.toNat]?).getD (-1)) m:=fun h0 m=>by
    rw[Nat.add_comm,chn_add]
    show chn ps (if 0≤a then _ else _) m=_
    rw[if_pos h0];rfl
   by_cases h2:0≤a∧a<ps.length
   ·rw[if_pos h2,ringGo_iff ps k hk n]
    constructor
    ·rintro⟨m,h3,h4⟩;exact⟨m+1,by omega,by rw[e h2.1];exact h4⟩
    ·rintro⟨m,h3,h4⟩
     cases m with
     | zero=>exact absurd h4 h
     | succ m=>exact⟨m,by omega,by rw[← e h2.1];exact h4⟩
   ·rw[if_neg h2]
    constructor
    ·intro h3;cases h3
    ·rintro⟨m,h3,h4⟩
     rcases ilt_ge a 0 with hlt|hge
     ·rw[chn_neg hlt] at h4;exact absurd h4 h
     ·cases m with
      | zero=>exact absurd h4 h
      | succ m=>
       rw[e hge,List.getElem?_eq_none (by omega)] at h4
       have:chn ps (-1) m=k:=h4
       rw[chn_neg (by omega)] at this;omega
theorem ringsB_iff (ps:List Int) (k:Nat) (hk:k<ps.length):ringsB ps k=true↔ringAt ps k:=by
 unfold ringsB ringAt
 rw[ringGo_iff ps k (by omega)]
 have e:∀ m,chn ps k (m+1)=chn ps ((ps[k]?).getD (-1)) m:=fun m=>by
  rw[Nat.add_comm,chn_add]
  show chn ps (if 0≤(k:Int) then _ else _) m=_
  rw[if_pos (by omega)];rfl
 constructor
 ·rintro⟨m,h1,h2⟩;exact⟨m+1,by omega,by omega,by rw[e];exact h2⟩
 ·rintro⟨m,h1,h2,h3⟩
  refine⟨m - 1,by omega,?_⟩
  rw[← e,show m - 1+1=m by omega];exact h3
def treeB (cs:List (List Ly)) (n k:Nat) (c:List Ly) (l:Ly):Bool:=
 !(((l.parent != -1)&&!(decide (0≤l.parent)&&decide (l.parent<(c.length:Int))))||ringsB (Ly.parents c) k) &&
 !((l.matte != 0)&&(((k:Int)==0)||(((c[k - 1]?).elim 0 (·.matte)) != 0))) &&
 (!(l.kind==1)||((decide (0≤l.comp)&&decide (l.comp<(cs.length:Int)))&&decide ((n:Int)<l.comp)))
def lysE (cs:List (List Ly)) (n:Nat) (c:List Ly):Nat→List Ly→Int
 | _,[]=>0
 | k,l::t=>if layerB l=false then 14 else if treeB cs n k c l=false then 15 else lysE cs n c (k+1) t
def cosE (cs:List (List Ly)):Nat→List (List Ly)→Int
 | _,[]=>0
 | n,c::t=>if ¬ lysE cs n c 0 c=0 then lysE cs n c 0 c else cosE cs (n+1) t
/-- Something of each comp, from the c-th on, of what comps behind have. -/
def cntGo (f:Int→Ly→Int→Int) (z:Int):Nat→List (List Ly)→List Int
 | _,[]=>[]
 | c,ls::rest=>ls.foldl (fun n l=>f n l (if l.kind=1∧(c:Int)<l.comp∧l.comp<c+1+rest.length then (((cntGo f z (c+1) rest)[(l.comp - (c+1)).toNat]?).getD 0) else 0)) z::cntGo f z (c+1) rest
def mnI (a b:Int):Int:=if b<a then b else a
def mxI (a b:Int):Int:=if a<b then b else a
def nodF (n:Int) (l:Ly) (inner:Int):Int:=mnI (if l.kind=0 then n+2 else if l.kind=1 then n+(1+inner) else n) 257
def depF (n:Int) (_:Ly) (inner:Int):Int:=mxI n (1+inner)
def nodesE (cs:List (List Ly)) (c:Int):Int:=if (decide (0≤c)&&decide (c<(cs.length:Int)))=true then ((cntGo nodF 0 0 cs)[c.toNat]?).getD 0 else 0
def deepE (cs:List (List Ly)) (c:Int):Int:=if (decide (0≤c)&&decide (c<(cs.length:Int)))=true then ((cntGo depF 1 0 cs)[c.toNat]?).getD 0 else 0
def sizeB (cs:List (List Ly)):Bool:=decide ((cs.length:Int)<1)||decide (8<(cs.length:Int))||cs.any fun c=>decide (16<(c.length:Int))
def rightE (d:Dc):Int:=
 if sizeB d.comps=true then 23
 else if (!tickB d.in_||!tickB d.out||decide (d.out≤d.in_))=true then 1
 else if ¬ cosE d.comps 0 d.comps=0 then cosE d.comps 0 d.comps
 else if 4<deepE d.comps 0∨256<nodesE d.comps 0 then 24 else 0
end Go.Proofs.YthhbglkokpablaaGreat
