/- Merged texts: ES ET EU EV EW EX EY. -/
import Derived.Test.YthhbglkokpablaaGreatV3
import Derived.DataReads
/- Regions whose order is drawn, with calls that write: which pairs have to be apart is reckoned once; that they are is shown with the places at hand. -/
set_option linter.unusedVariables false
set_option linter.unusedSimpArgs false
namespace Go.Proofs.YthhbglkokpablaaGreat.E
open Go Go.RowKit

def isW2:Op→Bool
 | .store ..=>true
 | .call ⟨.builtin .append,_,_⟩=>true
 | .call ⟨.value _,_,_⟩=>true
 | _=>false
/-- No other operation writes. -/
def quietU:List Oper→List Foot→Prop
 | o::os,F::Fs=>(isW2 o.op=true∨F.w=[])∧quietU os Fs
 | _,_=>True
theorem quietU_get:∀ {ops:List Oper} {Fs:List Foot} (h:quietU ops Fs) {i:Nat} {o:Oper},ops[i]?=some o→isW2 o.op=true∨(Fs.getD i noFoot).w=[]
 | [],_,_,i,o,e=>by cases i <;> cases e
 | _::_,[],_,i,o,e=>.inr (by simp[noFoot])
 | p::ps,F::Fs,h,0,o,e=>by
  simp only[List.getElem?_cons_zero,Option.some.injEq] at e
  subst e;exact h.1
 | p::ps,F::Fs,h,i+1,o,e=>by
  simp only[List.getElem?_cons_succ] at e
  simpa [List.getD_cons_succ] using quietU_get h.2 e
/-- The pairs that have no order, one of which may write. -/
def unord (ops:Array Oper) (ms:List Nat):List (Nat × Nat):=
 (List.range ops.size).flatMap fun j=>(List.range j).filterMap fun i=>match ops[i]?,ops[j]? with
  | some x,some y=>if (ms.getD j 0).testBit i then none else if isW2 x.op||isW2 y.op then some (i,j) else none
  | _,_=>none
def disj:List Nat→List Nat→Prop
 | [],_=>True
 | x::xs,ys=>(∀ y∈ys,¬ x=y)∧disj xs ys
def disjR:List Nat→Option (List Nat)→Prop
 | [],_=>True
 | _::_,none=>False
 | x::xs,some ys=>disj (x::xs) ys
def okP (f g:Foot):Prop:=disjR f.w g.r∧disj f.w g.w∧disjR g.w f.r∧disj g.w f.w
theorem disj_ok:∀ {xs ys:List Nat},disj xs ys→∀ b∈xs,b∉ys
 | x::xs,ys,h,b,hb=>by
  rcases List.mem_cons.1 hb with rfl|hb
  ·exact fun hy=>h.1 b hy rfl
  ·exact disj_ok h.2 b hb
theorem disjR_ok {xs:List Nat} {r:Option (List Nat)} (h:disjR xs r):∀ b∈xs,¬ inR r b:=by
 intro b hb
 cases xs with
 | nil=>cases hb
 | cons x xs=>cases r with
  | none=>exact h.elim
  | some ys=>exact disj_ok h b hb
theorem okP_ok {f g:Foot} (h:okP f g):okPair f g:=
 ⟨fun b hb=>⟨disjR_ok h.1 b hb,disj_ok h.2.1 b hb⟩,fun b hb=>⟨disjR_ok h.2.2.1 b hb,disj_ok h.2.2.2 b hb⟩⟩
def POk:List (Nat × Nat)→List Foot→Prop
 | [],_=>True
 | p::U,Fs=>okP (Fs.getD p.1 noFoot) (Fs.getD p.2 noFoot)∧POk U Fs
theorem POk.mem:∀ {U:List (Nat × Nat)} {Fs:List Foot},POk U Fs→∀ p∈U,okP (Fs.getD p.1 noFoot) (Fs.getD p.2 noFoot)
 | q::U,Fs,h,p,hp=>by
  rcases List.mem_cons.1 hp with rfl|hp
  ·exact h.1
  ·exact POk.mem h.2 p hp
def regU (ops:Array Oper) (ms:List Nat):Bool:=
 (List.range ops.size).all fun j=>match ops[j]? with
  | none=>true
  | some y=>(ons y).all (fun k=>decide (k<j))&&(List.range j).all fun i=>match ops[i]? with
   | none=>true
   | some x=>dstF x y&&((ms.getD j 0).testBit i||((match x.dst with
  | some d=>!(y.looksAt ops).contains d
  | none=>true)&&(match y.dst with
  | some d=>!(x.looksAt ops).contains d
  | none=>true)))
theorem regU_ok {ops:Array Oper} {ms:List Nat} (hm:mskL [] ops.toList=ms) (h:regU ops ms=true):regB ops=true:=by
 subst hm
 unfold regU at h
 have h:=List.all_eq_true.1 h
 refine List.all_eq_true.2 fun j hj=>?_
 have hy:=h j hj
 cases e:ops[j]? with
 | none=>rfl
 | some y=>
  simp only[e,Bool.and_eq_true] at hy
  simp only[Bool.and_eq_true]
  refine⟨hy.1,List.all_eq_true.2 fun i hi=>?_⟩
  have hx:=List.all_eq_true.1 hy.2 i hi
  cases e':ops[i]? with
  | none=>rfl
  | some x=>
   simp only[e',Bool.and_eq_true] at hx
   simp only[apartB,ordered_msk]
   unfold dstF at hx
   cases hb:((mskL [] ops.toList).getD j 0).testBit i with
   | true=>cases hxd:x.dst <;> cases hyd:y.dst <;> simp_all
   | false=>cases hxd:x.dst <;> cases hyd:y.dst <;> simp_all
theorem compat_u {l:List Oper} {Fs:List Foot} (hq:quietU l Fs) (hp:POk (unord l.toArray (mskL [] l)) Fs):Compat l.toArray Fs:=by
 intro i j hij hj ho
 have hj':j<l.length:=by simpa using hj
 have hi':i<l.length:=by omega
 have ei:l.toArray[i]?=some l[i]:=by simp
 have ej:l.toArray[j]?=some l[j]:=by simp
 by_cases hw:isW2 l[i].op=true∨isW2 l[j].op=true
 ·refine okP_ok (hp.mem (i,j) ?_)
  unfold unord
  refine List.mem_flatMap.2 ⟨j,List.mem_range.2 hj,List.mem_filterMap.2 ⟨i,List.mem_range.2 hij,?_⟩⟩
  rw[ordered_msk] at ho
  simp only[ei,ej]
  have ho':((mskL [] l).getD j 0).testBit i=false:=ho
  rw[ho']
  simp only[Bool.false_eq_true,if_false,Bool.or_eq_true]
  rw[if_pos hw]
 ·have a:=(quietU_get hq (List.getElem?_eq_getElem hi')).resolve_left (fun h=>hw (.inl h))
  have b:=(quietU_get hq (List.getElem?_eq_getElem hj')).resolve_left (fun h=>hw (.inr h))
  exact⟨fun x hx=>(by rw[a] at hx;cases hx),fun x hx=>(by rw[b] at hx;cases hx)⟩
/-- What is left behind such a region. -/
def KU (l:List Oper) (U:List (Nat × Nat)) (Fs:List Foot) (p:Prop):Prop:=quietU l Fs∧POk U Fs∧p
section
variable {P:Program} {sz n0:Nat} {T:Env} {H:AH} {D:List Nat}
theorem drawnU {Q:KC} {id:Nat} {l:List Oper} (U:List (Nat × Nat)) (hr:(regU l.toArray (mskL [] l)&&decide (unord l.toArray (mskL [] l)=U))=true)
  (h:@XOps P sz n0 l.toArray l T H D [] ⟨fun T' H' D' Fs=>KU l U Fs (Q.go .norm T' H' D')⟩):XCode P sz n0 (.region id l.toArray true) T H D:=by
 simp only[Bool.and_eq_true,decide_eq_true_eq] at hr
 simp only[XCode,WCode]
 refine⟨regU_ok rfl hr.1,WOps.mono (fun T H D Fs k=>⟨compat_u k.1 ?_,k.2.2⟩) h⟩
 rw[hr.2];exact k.2.1
end
@[go_sem] theorem ku_def {l:List Oper} {U:List (Nat × Nat)} {Fs:List Foot} {p:Prop}:KU l U Fs p=(quietU l Fs∧POk U Fs∧p):=(rfl)
section
variable {dst:Option Tmp} {op:Op} {ty:TypeId} {pos:String} {af:Array Edge} {gd:Option (Nat × Bool)} {os:List Oper} {Fs:List Foot} {r:Option (List Nat)} {w:List Nat}
@[go_sem] theorem quietU_nil:quietU [] Fs=True:=by cases Fs <;> rfl
@[go_sem] theorem quietU_w:quietU (⟨dst,op,ty,pos,af,gd⟩::os) (⟨[],r⟩::Fs)=quietU os Fs:=by simp[quietU]
@[go_sem] theorem quietU_s {t:TypeId} {x y:Operand}:quietU (⟨dst,.store t x y,ty,pos,af,gd⟩::os) (⟨w,r⟩::Fs)=quietU os Fs:=by simp[quietU,isW2]
@[go_sem] theorem quietU_a {xs:Array Operand} {ts:Array TypeId}:quietU (⟨dst,.call ⟨.builtin .append,xs,ts⟩,ty,pos,af,gd⟩::os) (⟨w,r⟩::Fs)=quietU os Fs:=by simp[quietU,isW2]
@[go_sem] theorem quietU_c {f:Operand} {xs:Array Operand} {ts:Array TypeId}:quietU (⟨dst,.call ⟨.value f,xs,ts⟩,ty,pos,af,gd⟩::os) (⟨w,r⟩::Fs)=quietU os Fs:=by simp[quietU,isW2]
@[go_sem] theorem pok_nil:POk [] Fs=True:=(rfl)
@[go_sem] theorem pok_cons {i j:Nat} {U:List (Nat × Nat)}:POk ((i,j)::U) Fs=(okP (Fs.getD i noFoot) (Fs.getD j noFoot)∧POk U Fs):=(rfl)
@[go_sem] theorem okP_mk {w1 w2:List Nat} {r1 r2:Option (List Nat)}:okP ⟨w1,r1⟩ ⟨w2,r2⟩=(disjR w1 r2∧disj w1 w2∧disjR w2 r1∧disj w2 w1):=(rfl)
@[go_sem] theorem disjR_nil:disjR [] r=True:=(rfl)
@[go_sem] theorem disjR_some {x:Nat} {xs ys:List Nat}:disjR (x::xs) (some ys)=disj (x::xs) ys:=(rfl)
@[go_sem] theorem disj_nil {ys:List Nat}:disj [] ys=True:=(rfl)
@[go_sem] theorem disj_cons {x:Nat} {xs ys:List Nat}:disj (x::xs) ys=((∀ y∈ys,¬ x=y)∧disj xs ys):=(rfl)
@[go_sem] theorem all_nil {x:Nat}:(∀ y∈([]:List Nat),¬ x=y)=True:=by simp
@[go_sem] theorem all_cons {x y:Nat} {ys:List Nat}:(∀ z∈y::ys,¬ x=z)=((x=y→False)∧∀ z∈ys,¬ x=z):=by simp[imp_false]
attribute [go_sem] List.getD_cons_zero List.getD_cons_succ
end
end Go.Proofs.YthhbglkokpablaaGreat.E
/- Calls that write one old block, and leave at most one new one. -/
set_option linter.unusedVariables false
set_option linter.unusedSimpArgs false
namespace Go.Proofs.YthhbglkokpablaaGreat.E
open Go Go.RowKit
theorem set_same {H:AH} {b:Nat} {k:Blk} (h:H[b]?=some k):H.set b k=H:=by
 refine List.ext_getElem? fun i=>?_
 by_cases e:b=i
 ·subst e
  rw[List.getElem?_set_self (List.getElem?_eq_some_iff.1 h).1,h]
 ·rw[List.getElem?_set_ne e]
section
variable {P:Program} {f:FuncId} {args:List Value} {H:AH}
theorem SemCall.addW {v:Value} {tb g off i:Nat} {cells:List Value} (h:SemCall P f args H v H []) (hb:H[tb]?=some ⟨cells,g,true⟩) (ha:args[i]?=some (ap tb off g)):SemCall P f args H v H [tb]:=by
 refine⟨⟨h.1.1,Nat.le_refl _,fun _ _ _=>rfl⟩,fun N0 M w args' p hargs=>(h.2 N0 M w args' p hargs).mono fun e w' ⟨v',M',a,b,q⟩=>⟨v',M',a,b,?_⟩⟩
 have hi:i<args'.toList.length:=by rw[← hargs.1];exact(List.getElem?_eq_some_iff.1 ha).1
 obtain⟨c0,o0,n0,hM,_⟩:=(hargs.2 i _ _ ha (List.getElem?_eq_getElem hi)).ptr_inv
 obtain⟨c,o,n,e1,e2,e3,e4⟩:=p.cont trivial hb ⟨_,_,hM⟩
 have hlt:=p.hp.lt e1
 refine⟨q.le,fun b hb hn=>rfl,q.ext,fun b g hb hn=>q.keep b g hb (by simp),q.dom,q.absent,q.fresh,fun c hc hf=>q.frame c hc (by simp),fun b hb'=>?_,q.hp,fun hb' hk hx=>?_,q.size,q.os,q.tape,q.output⟩
 ·simp at hb';subst hb'
  exact⟨⟨_,_,hM⟩,fun g' c' o' n' e=>p.hp.hom e1 e (e4 rfl)⟩
 ·rcases hb' with hb'|hb'
  ·simp at hb';subst hb'
   rw[hb] at hk;cases hk
   refine⟨c,o,n,by rw[q.keep _ _ (List.getElem?_eq_some_iff.1 hb).1 (by simp)];exact e1,fun g' hg=>by rw[q.keep _ _ (List.getElem?_eq_some_iff.1 hb).1 (by simp)];exact e2 g' hg,e3.keep q.ext (q.frame c hlt (by simp)),e4⟩
  ·have:=(List.getElem?_eq_some_iff.1 hk).1;omega
/-- A call that writes one old block, whose result leads nowhere new. -/
theorem none_of {ι:Type} (p:ι→Prop) (val:ι→Value) (tb:Nat) (k:ι→Blk) (htb:tb<H.length)
  (h:@XCal P f args H ⟨fun v H1 W1=>SameW W1 [tb]∧∃ r,p r∧v=val r∧H1[tb]?=some (k r)⟩)
  (hv:∀ r,p r→renR H.length [] (val r)=some (val r)) (hk:∀ r,p r→renL H.length [] (k r).cells=some (k r).cells) :
  Cal P f args H fun v H' W'=>∃ r,p r∧v=val r∧H'=H.set tb (k r)∧W'=[tb]:=by
 obtain⟨v,H1,W1,h1,h2,r,hp,rfl,hb⟩:=h
 have h1:=h1.setW h2
 refine⟨val r,H.set tb (k r),[tb],h1.ren [] (hv r hp) (by simp) (by simp) (by simp) (fun b hb hn=>?_) (fun b hb'=>?_) (by simp),r,hp,rfl,rfl,rfl⟩
 ·rw[List.getElem?_set_ne (by simp at hn;omega)]
  exact(h1.1.2.2 b hb hn).symm
 ·simp at hb';subst hb'
  exact⟨k r,k r,hb,List.getElem?_set_self htb,⟨hk r hp,rfl⟩,rfl⟩
/-- A call that writes one old block, whose result leads to one new one. -/
theorem one_of {ι:Type} (p:ι→Prop) (val:ι→Nat→Nat→Value) (cells:ι→List Value) (tb:Nat) (k:ι→Blk) (htb:tb<H.length)
  (h:@XCal P f args H ⟨fun v H1 W1=>SameW W1 [tb]∧∃ r b g,p r∧H.length≤b∧v=val r b g∧H1[b]?=some ⟨cells r,g,true⟩∧H1[tb]?=some (k r)⟩)
  (hv:∀ r b g,p r→H.length≤b→renR H.length [(b,g)] (val r b g)=some (val r H.length 0)) (hc:∀ r b g,p r→renL H.length [(b,g)] (cells r)=some (cells r))
  (hk:∀ r b g,p r→H.length≤b→renL H.length [(b,g)] (k r).cells=some (k r).cells) :
  Cal P f args H fun v H' W'=>∃ r,p r∧v=val r H.length 0∧H'=H.set tb (k r)++[⟨cells r,0,true⟩]∧W'=[tb]:=by
 obtain⟨v,H1,W1,h1,h2,r,b,g,hp,hb,rfl,hcb,htbk⟩:=h
 have h1:=h1.setW h2
 refine⟨val r H.length 0,H.set tb (k r)++[⟨cells r,0,true⟩],[tb],h1.ren [(b,g)] (hv r b g hp hb) (by simp) (fun b' g' hh=>by simp at hh;omega) (by simp) (fun b' hb' hn=>?_) (fun b' hb'=>?_) (fun j b' g' hj=>?_),r,hp,rfl,rfl,rfl⟩
 ·rw[List.getElem?_append_left (by simpa using hb'),List.getElem?_set_ne (by simp at hn;omega)]
  exact(h1.1.2.2 b' hb' hn).symm
 ·simp at hb';subst hb'
  exact⟨k r,k r,htbk,by rw[List.getElem?_append_left (by simpa using htb)];exact List.getElem?_set_self htb,⟨hk r b g hp hb,rfl⟩,rfl⟩
 ·cases j with
  | zero=>
   simp at hj
   obtain⟨rfl,rfl⟩:=hj
   exact⟨_,⟨cells r,0,true⟩,hcb,rfl,by simp,⟨hc r _ _ hp,rfl⟩,rfl⟩
  | succ j=>simp at hj
end
/-- A row of numbers, as it may lie. -/
def Ints (H:AH) (tb:Nat) (lv:Value) (ls:List Int):Prop:=
 (ls=[]∧((∃ e,lv=.slice (some ⟨0,0,none⟩) 0 e)∨lv=.slice none 0 0)) ∨
 ∃ b g rest rw_,lv=sl b 0 g ls.length 1∧¬ b=tb∧H[b]?=some ⟨intC ls++rest,g,rw_⟩∧ls.length≤9223372036854775807
theorem Ints.ren {H:AH} {tb:Nat} {lv:Value} {ls:List Int} (h:Ints H tb lv ls) (K:List (Nat × Nat)):renV H.length K lv=some lv:=by
 rcases h with ⟨_,⟨e,rfl⟩|rfl⟩|⟨b,g,rest,rw_,rfl,_,hb,_⟩
 ·rfl
 ·rfl
 ·have:=(List.getElem?_eq_some_iff.1 hb).1
  show (renB H.length K b g).map _=_
  unfold renB;rw[if_pos this];rfl
theorem Ints.set {H:AH} {tb:Nat} {lv:Value} {ls:List Int} (h:Ints H tb lv ls) (k:Blk) (L:AH):Ints (H.set tb k++L) tb lv ls:=by
 rcases h with h|⟨b,g,rest,rw_,h1,h2,h3,h4⟩
 ·exact .inl h
 ·refine .inr ⟨b,g,rest,rw_,h1,h2,?_,h4⟩
  have:=(List.getElem?_eq_some_iff.1 h3).1
  rw[List.getElem?_append_left (by simpa using this),List.getElem?_set_ne (fun e=>h2 e.symm)];exact h3
theorem Ints.app {H:AH} {tb:Nat} {lv:Value} {ls:List Int} (h:Ints H tb lv ls) (L:AH):Ints (H++L) tb lv ls:=by
 rcases h with h|⟨b,g,rest,rw_,h1,h2,h3,h4⟩
 ·exact .inl h
 ·exact .inr ⟨b,g,rest,rw_,h1,h2,old_get h3 L,h4⟩
theorem Ints.form {H:AH} {tb:Nat} {lv:Value} {ls:List Int} (h:Ints H tb lv ls):∃ a e,lv=.slice a ls.length e:=by
 rcases h with ⟨rfl,⟨e,rfl⟩|rfl⟩|⟨b,g,rest,rw_,rfl,_⟩
 ·exact⟨_,_,rfl⟩
 ·exact⟨_,_,rfl⟩
 ·exact⟨_,_,rfl⟩
theorem Ints.cellsL {H:AH} {t:Nat} {lv:Value} {ls:List Int} (h:Ints H t lv ls):cellsL lv=some [lv]:=by
 obtain⟨a,e,rfl⟩:=h.form;rfl
theorem Ints.to {H:AH} {t:Nat} {lv:Value} {ls:List Int} (h:Ints H t lv ls) {n:Nat} (hn:H.length≤n):Ints H n lv ls:=by
 rcases h with h|⟨b,g,rest,rw_,h1,h2,h3,h4⟩
 ·exact .inl h
 ·exact .inr ⟨b,g,rest,rw_,h1,by have:=(List.getElem?_eq_some_iff.1 h3).1;omega,h3,h4⟩
/-- A tape, as it lies, before the place at_. -/
def TapeAt (H:AH) (tb g:Nat) (lv:Value) (ls:List Int):Prop:=Ints H tb lv ls∧∃ at_:Int,0≤at_∧at_≤ls.length∧H[tb]?=some ⟨[lv,.int .i64 at_],g,true⟩
theorem TapeAt.lt {H:AH} {tb g:Nat} {lv:Value} {ls:List Int} (h:TapeAt H tb g lv ls):tb<H.length:=by
 obtain⟨_,_,_,_,h⟩:=h;exact(List.getElem?_eq_some_iff.1 h).1
theorem TapeAt.app {H:AH} {tb g:Nat} {lv:Value} {ls:List Int} (h:TapeAt H tb g lv ls) (L:AH):TapeAt (H++L) tb g lv ls:=by
 obtain⟨h1,a,h2,h3,h4⟩:=h;exact⟨h1.app L,a,h2,h3,old_get h4 L⟩
theorem TapeAt.set {H:AH} {tb g:Nat} {lv:Value} {ls:List Int} (h:TapeAt H tb g lv ls) {at_:Int} (h1:0≤at_) (h2:at_≤ls.length):TapeAt (H.set tb ⟨[lv,.int .i64 at_],g,true⟩) tb g lv ls:=by
 have hl:=h.lt
 refine⟨by simpa using h.1.set ⟨[lv,.int .i64 at_],g,true⟩ [],at_,h1,h2,List.getElem?_set_self hl⟩
theorem Ints.ne {H:AH} {tb:Nat} {lv:Value} {ls:List Int} (h:Ints H tb lv ls) (hn:¬ ls=[]):∃ b g rest rw_,lv=sl b 0 g ls.length 1∧¬ b=tb∧H[b]?=some ⟨intC ls++rest,g,rw_⟩∧ls.length≤9223372036854775807:=h.resolve_left fun h=>hn h.1
theorem Ints.len {H:AH} {tb:Nat} {lv:Value} {ls:List Int} (h:Ints H tb lv ls):ls.length≤9223372036854775807:=by
 rcases h with ⟨rfl,_⟩|⟨b,g,rest,rw_,rfl,_,_,h⟩
 ·simp
 ·exact h
end Go.Proofs.YthhbglkokpablaaGreat.E
/- Arguments that lead to memory, on: the whole reading. -/
set_option linter.unusedVariables false
namespace Go.Proofs.YthhbglkokpablaaGreat.E
open Go Go.RowKit

theorem mapM_get {α β:Type} {f:α→Option β}:∀ {l:List α} {r:List β},l.mapM f=some r→∀ (i:Nat) (x:α),l[i]?=some x→∃ y,r[i]?=some y∧f x=some y:=by
 intro l
 induction l with
 | nil=>intro r h i x hx;simp at hx
 | cons a l ih=>
  intro r h i x hx
  rw[List.mapM_cons] at h
  cases ha:f a with
  | none=>simp[ha] at h
  | some y=>
   cases hl:l.mapM f with
   | none=>simp[ha,hl] at h
   | some ys=>
    simp[ha,hl] at h
    subst h
    cases i with
    | zero=>simp at hx;subst hx;exact⟨y,rfl,ha⟩
    | succ i=>simpa using ih hl i x (by simpa using hx)
theorem cell_spot {W:World} {a:Addr} {v:Value} (h:W.cell? a=some v):a.spot=none∧a.block<W.heap.size:=by
 unfold World.cell? at h
 split at h
 ·rename_i c e fr hc
  split at h
  ·cases h
  ·rename_i hs
   exact⟨by cases hh:a.spot with|none=>rfl|some x=>rw[hh] at hs;simp at hs,(Array.getElem?_eq_some_iff.1 hc).1⟩
 ·cases h
theorem add_eq {a:Addr} (h:a.spot=none) (n:Nat):a.add n=⟨a.block,a.off+n,none⟩:=by
 unfold Addr.add
 split
 ·rename_i h0;subst h0;cases a;simp at h;subst h;rfl
 ·rfl
theorem cells_get {W:World} {b0:Nat} {a:Addr} {n:Nat} {cs:List Value} (h:W.cells? b0 a n=some cs):cs.length=n∧∀ j,j<n→∃ v,cs[j]?=some v∧W.cell? (a.add j)=some v:=by
 unfold World.cells? at h
 split at h
 ·have hl:=mapM_some_length h
  refine⟨by simpa using hl,fun j hj=>?_⟩
  obtain⟨v,h1,h2⟩:=mapM_get h j j (List.getElem?_range hj)
  exact⟨v,h1,h2⟩
 ·cases h
theorem weightsAll_mem {Hh:Type} {P:Program} {e:TypeId}:∀ {ds:List (DataW Hh)} {d:DataW Hh},d∈ds→∀ w∈d.weights P e,w∈DataW.weightsAll P e ds
 | [],d,h,w,hw=>by cases h
 | x::xs,d,h,w,hw=>by
  rw[DataW.weightsAll]
  rcases List.mem_cons.1 h with rfl|h
  ·exact List.mem_append_left _ hw
  ·exact List.mem_append_right _ (weightsAll_mem h w hw)
theorem weightsEach_get {Hh:Type} {P:Program}:∀ {ts:List TypeId} {ds:List (DataW Hh)} (i:Nat) {t:TypeId} {d:DataW Hh},ts[i]?=some t→ds[i]?=some d→∀ w∈d.weights P t,w∈DataW.weightsEach P ts ds
 | [],ds,i,t,d,h,_,w,hw=>by simp at h
 | x::xs,[],i,t,d,_,h,w,hw=>by simp at h
 | x::xs,y::ys,0,t,d,h,h',w,hw=>by
  simp at h h';subst h;subst h'
  rw[DataW.weightsEach];exact List.mem_append_left _ hw
 | x::xs,y::ys,i+1,t,d,h,h',w,hw=>by
  rw[DataW.weightsEach];exact List.mem_append_right _ (weightsEach_get i (by simpa using h) (by simpa using h') w hw)
theorem light_of {Hh:Type} {P:Program} {ts:List TypeId} {ds:List (DataW Hh)} (h:(DataW.weightsEach P ts ds).all (·≤reachBytes)=true) (i:Nat) {t:TypeId} {d:DataW Hh} (ht:ts[i]?=some t) (hd:ds[i]?=some d):Light P t d:=fun w hw=>by
 have:=List.all_eq_true.1 h w (weightsEach_get i ht hd w hw)
 exact of_decide_eq_true this
section
variable {Hh:Type} {enc:TypeId × Value→Hh} {P:Program} {W:World} {held:Bool}
theorem Got.slice {n:Nat} {e:TypeId} (ih:∀ H M cs,Img W.heap.size H M W→(∃ m y,DataW.trod enc P W 0 (fun _=>true) held m e cs=some y∧Light P e y.1)→Got P W.heap.size W n e cs H M) {H:AH} {M:Mp} (hi:Img W.heap.size H M W) {t:TypeId} (ht:P.underlying t=some (.slice e)) (hs:0<P.cellsOf e)
  {a:Addr} {len cap m:Nat} (hlc:len≤cap) (hcm:cap≤maxLen) (hwt:cap*P.bytesOf e≤140737488351232)
  (he:∀ i,i<cap→∃ ci y,W.cells? 0 (a.add (i*P.cellsOf e)) (P.cellsOf e)=some ci∧DataW.trod enc P W 0 (fun _=>true) held m e ci=some y∧Light P e y.1) :
  Got P W.heap.size W (n+1) t [.slice (some a) len cap] H M:=by
 by_cases hc0:cap=0
 ·subst hc0
  have:len=0:=by omega
  subst this
  exact⟨H,M,[.slice (some ⟨0,0,none⟩) 0 (P.cellsOf e)],Ahead.refl _,MLe.refl _,hi,VCs.single .zs rfl,by unfold Rd;rw[ht];exact .inr (.inl rfl)⟩
 ·obtain⟨c0,_,hc0',_⟩:=he 0 (by omega)
  have hz:=(cells_get hc0').2 0 hs
  obtain⟨v0,_,hv0⟩:=hz
  rw[Nat.zero_mul] at hv0
  have ha0:(a.add 0).add 0=a:=by unfold Addr.add;simp
  rw[ha0] at hv0
  obtain⟨hsp,hblk⟩:=cell_spot hv0
  generalize hse:P.cellsOf e=s at *
  let cs:List Value:=(List.range (len*s)).map fun k=>(W.cell? ⟨a.block,a.off+k,none⟩).getD undef
  have hcl:cs.length=len*s:=by simp[cs]
  have hcell:∀ i j,i<cap→j<s→∃ v,W.cell? ⟨a.block,a.off+(i*s+j),none⟩=some v:=fun i j hi hj=>by
   obtain⟨ci,_,h1,_⟩:=he i hi
   obtain⟨v,_,hv⟩:=(cells_get h1).2 j hj
   rw[add_eq hsp,add_eq (a:=⟨a.block,a.off+i*s,none⟩) rfl] at hv
   exact⟨v,by rw[← Nat.add_assoc];exact hv⟩
  have hsome:∀ k,k<len*s→∃ v,cs[k]?=some v∧W.cell? ⟨a.block,a.off+k,none⟩=some v:=fun k hk=>by
   have hks:k / s<cap:=by exact Nat.lt_of_lt_of_le ((Nat.div_lt_iff_lt_mul hs).2 hk) hlc
   obtain⟨v,hv⟩:=hcell (k / s) (k % s) hks (Nat.mod_lt _ hs)
   rw[Nat.mul_comm,Nat.div_add_mod] at hv
   refine⟨v,?_,hv⟩
   simp only[cs,List.getElem?_map,List.getElem?_range hk,Option.map_some,hv,Option.getD_some]
  have hpart:∀ i,i<len→∃ m y,DataW.trod enc P W 0 (fun _=>true) held m e ((cs.drop (i*s)).take s)=some y∧Light P e y.1:=fun i hil=>by
   obtain⟨ci,y,h1,h2⟩:=he i (by omega)
   obtain⟨g1,g2⟩:=cells_get h1
   have:(cs.drop (i*s)).take s=ci:=by
    refine List.ext_getElem? fun j=>?_
    by_cases hj:j<s
    ·obtain⟨v,gv,gw⟩:=g2 j hj
     rw[add_eq hsp,add_eq (a:=⟨a.block,a.off+i*s,none⟩) rfl] at gw
     have hk:i*s+j<len*s:=by
      have:(i+1)*s≤len*s:=Nat.mul_le_mul_right s hil
      rw[Nat.add_mul] at this;omega
     obtain⟨u,k1,k2⟩:=hsome (i*s+j) hk
     rw[List.getElem?_take_of_lt hj,List.getElem?_drop,k1,gv]
     have e1:W.cell? ⟨a.block,a.off+(i*s+j),none⟩=some v:=by rw[← Nat.add_assoc];exact gw
     rw[e1] at k2;rw[k2]
    ·rw[List.getElem?_eq_none (by rw[List.length_take];omega),List.getElem?_eq_none (by rw[g1];show s≤j;omega)]
   rw[this];exact⟨m,y,h2⟩
  obtain⟨H1,M1,us,a1,m1,i1,v1,l1,r1⟩:=Got.elems (s:=s) (sp:=fun _=>true) (fun H M cs h1 _ h3=>ih H M cs h1 h3) len cs H M hi hcl hpart
  have hr:CellR M1 W a.block a.off us:=fun k u hu=>by
   have hk:k<len*s:=by have:=(List.getElem?_eq_some_iff.1 hu).1;rw[l1,hcl] at this;exact this
   obtain⟨v,k1,k2⟩:=hsome k hk
   exact⟨v1.2 u (List.mem_of_getElem? hu),v,k2,v1.1.2 k u v hu k1⟩
  obtain⟨i2,m2,hm⟩:=i1.push (n:=a.off+cap*s) hblk hr
  have ha:a=⟨a.block,a.off+0,none⟩:=by cases a;simp at hsp;subst hsp;rfl
  refine⟨H1++[⟨us,0,false⟩],_,[sl H1.length 0 0 len s],a1.trans ⟨_,rfl⟩,m1.trans m2,i2,?_,?_⟩
  ·refine VCs.single ?_ rfl
   rw[ha]
   exact .sl hm hlc (by omega)
  ·subst hse
   unfold Rd
   rw[ht]
   refine .inr (.inr ⟨H1.length,len,us,rfl,by rw[List.getElem?_append_right (Nat.le_refl _)];simp,⟨?_,Nat.le_trans (Nat.mul_le_mul_right _ hlc) hwt⟩,by rw[l1,hcl],elems_mono (fun cs=>Rd.mono ⟨_,rfl⟩) r1⟩)
   unfold maxLen at hcm;omega
theorem got:∀ (n:Nat) (t:TypeId),rdOk P n t=true→∀ (H:AH) (M:Mp) (cs:List Value),Img W.heap.size H M W→(∃ m y,DataW.trod enc P W 0 (fun _=>true) held m t cs=some y∧Light P t y.1)→Got P W.heap.size W n t cs H M:=by
 intro n
 induction n with
 | zero=>intro t h;cases h
 | succ n ih=>
  intro t ht H M cs hi ⟨m,y,hy,hL⟩
  cases m with
  | zero=>simp[DataW.trod] at hy
  | succ m=>
  rw[DataW.trod_step] at hy
  simp only[rdOk] at ht
  split at ht
  ·rename_i hu
   unfold DataW.trodStep at hy
   rw[hu] at hy
   simp only at hy
   split at hy <;> simp_all
   exact⟨H,M,_,Ahead.refl _,MLe.refl _,hi,VCs.single (.bool _) rfl,by unfold Rd;rw[hu];exact⟨_,rfl⟩⟩
  ·rename_i k hu
   unfold DataW.trodStep at hy
   rw[hu] at hy
   simp only at hy
   split at hy <;> simp_all
   exact⟨H,M,_,Ahead.refl _,MLe.refl _,hi,VCs.single (.int _ _) rfl,by unfold Rd;rw[hu];exact⟨_,rfl,hy.1.2⟩⟩
  ·rename_i e hu
   simp only[Bool.and_eq_true,decide_eq_true_eq] at ht
   unfold DataW.trodStep at hy
   rw[hu] at hy
   simp only at hy
   split at hy
   all_goals try (exfalso;simp_all;done)
   ·exact⟨H,M,[.slice none 0 0],Ahead.refl _,MLe.refl _,hi,VCs.single .nils rfl,by unfold Rd;rw[hu];exact .inl rfl⟩
   ·rename_i e' a len cap hh
    cases hh
    split at hy
    case isFalse=>cases hy
    rename_i hc
    rw[Option.bind_eq_some_iff] at hy
    obtain⟨el,he1,he2⟩:=hy
    simp only[if_true,Option.map_eq_some_iff] at he2
    obtain⟨rs,hr1,hye⟩:=he2
    subst hye
    unfold Light at hL
    simp only[DataW.weights,hu] at hL
    have l1:=mapM_some_length he1
    have l2:=mapM_some_length hr1
    rw[List.length_range] at l1 l2
    have hcap:=hL _ (List.mem_cons_self ..)
    rw[List.length_map,List.length_map,l1,l2,show len+(cap - len)=cap by omega] at hcap
    have hin:∀ z,z∈el∨z∈rs→Light P e z.1:=fun z hz w hw=>by
     refine hL w (List.mem_cons_of_mem _ ?_)
     rcases hz with hz|hz
     ·exact List.mem_append_left _ (weightsAll_mem (List.mem_map_of_mem hz) w hw)
     ·exact List.mem_append_right _ (weightsAll_mem (List.mem_map_of_mem hz) w hw)
    refine Got.slice (m:=m) (fun H M cs h1 h2=>ih e ht.2 H M cs h1 h2) hi hu ht.1 hc.2.1 hc.2.2 hcap (fun i hic=>?_)
    have key:∃ z,(W.cells? 0 (a.add (i*P.cellsOf e)) (P.cellsOf e)).bind (DataW.trod enc P W 0 (fun _=>true) held m e)=some z∧Light P e z.1:=by
     by_cases hl:i<len
     ·obtain⟨z,hm,hz⟩:=mapM_get he1 i i (List.getElem?_range hl)
      exact⟨z,hz,hin z (.inl (List.mem_of_getElem? hm))⟩
     ·obtain⟨z,hm,hz⟩:=mapM_get hr1 (i - len) (i - len) (List.getElem?_range (by omega))
      rw[show len+(i - len)=i by omega] at hz
      exact⟨z,hz,hin z (.inr (List.mem_of_getElem? hm))⟩
    obtain⟨z,hz,hzl⟩:=key
    rw[Option.bind_eq_some_iff] at hz
    obtain⟨ci,h1,h2⟩:=hz
    exact⟨ci,z,h1,h2,hzl⟩
  ·rename_i fs hu
   simp only[Bool.and_eq_true,decide_eq_true_eq] at ht
   unfold DataW.trodStep at hy
   rw[hu] at hy
   simp only at hy
   split at hy
   case isFalse=>cases hy
   rename_i hlen
   obtain⟨ys,hys,hye⟩:=Option.map_eq_some_iff.1 hy
   subst hye
   unfold Light at hL
   simp only[DataW.weights,hu] at hL
   have hall:=List.all_eq_true.1 ht.2
   obtain⟨H',M',us,a1,m1,i1,v1,r1⟩:=Got.parts (n:=n) (all:=cs) (fun t h H M cs h1 h2=>ih t h H M cs h1 h2) fs.toList 0 _ H M hi ht.1 hlen (fun x hx=>hall x hx) (fun x hx=>by
    obtain⟨i,hxi⟩:=List.getElem?_of_mem hx
    obtain⟨z,hzi,hz⟩:=mapM_get hys i x hxi
    exact⟨m,z,hz,fun w hw=>hL w (weightsEach_get i (by rw[List.getElem?_map,hxi];rfl) (by rw[List.getElem?_map,hzi];rfl) w hw)⟩)
   exact⟨H',M',us,a1,m1,i1,by simpa using v1,by unfold Rd;rw[hu];exact r1⟩
  ·rename_i k e hu
   simp only[Bool.and_eq_true,decide_eq_true_eq] at ht
   unfold DataW.trodStep at hy
   rw[hu] at hy
   simp only at hy
   split at hy
   case isFalse=>cases hy
   rename_i hlen
   obtain⟨ys,hys,hye⟩:=Option.map_eq_some_iff.1 hy
   subst hye
   unfold Light at hL
   simp only[DataW.weights,hu] at hL
   obtain⟨H',M',us,a1,m1,i1,v1,l1,r1⟩:=Got.elems (n:=n) (e:=e) (s:=P.cellsOf e) (sp:=fun _=>true) (fun H M cs h1 _ h3=>ih e ht.2 H M cs h1 h3) k cs H M hi (by rw[hlen,ht.1]) (fun i hik=>by
    obtain⟨z,hzi,hz⟩:=mapM_get hys i i (List.getElem?_range hik)
    exact⟨m,z,hz,fun w hw=>hL w (weightsAll_mem (List.mem_map_of_mem (List.mem_of_getElem? hzi)) w hw)⟩)
   exact⟨H',M',us,a1,m1,i1,v1,by unfold Rd;rw[hu];exact r1⟩
  ·cases ht
end
end Go.Proofs.YthhbglkokpablaaGreat.E
/- From a law's walk to its row, where arguments lead to memory. -/
set_option linter.unusedVariables false
namespace Go.Proofs.YthhbglkokpablaaGreat.E
open Go Go.RowKit
theorem SemCall.worldH {P:Program} {f:FuncId} {args:List Value} {H H':AH} {W:List Nat} {b:Bool} (h:SemCall P f args H (.bool b) H' W) {M:Mp} (w:World) (hi:Img w.heap.size H M w) (args':Array Value) (ha:VRs M args args'.toList) :
  Calls P f args' w fun e w'=>e=.returned (.bool b)∧Below w.heap.size w w':=by
 refine(h.2 w.heap.size M w args' (hi.pre (Nat.le_refl _)) ha).mono (fun e w' ⟨v',M',he,hr,q⟩=>?_)
 have:=hr.bool_inv
 subst this
 refine⟨he,q.os,q.tape,q.output,q.size,fun k hk=>q.frame k hk (fun b hb g o n hh=>?_)⟩
 have h1:=(q.wown b hb).2 g k o n hh
 omega
theorem cells_one {P:Program} {W:World} {r:Reach} {b:Nat} {t e:TypeId} {v:Value} (hu:P.underlying t=some (.slice e)) (hval:Value.okWide P W r b t v):v.cells.toList=[v]:=by
 unfold Value.okWide at hval
 rw[hu] at hval
 simp only[Cell.okWide,hu,Cell.ok] at hval
 split at hval <;> simp_all [Value.cells]
section
variable {Hh:Type} {enc:TypeId × Value→Hh} {P:Program} {W:World}
/-- An argument that is a row. -/
theorem arg_row {n:Nat} {t e:TypeId} {v:Value} {d:DataW Hh} {ps:List MemPlace} {r:Reach} {b:Nat} (hr:rdOk P n t=true) (hu:P.underlying t=some (.slice e)) (hval:Value.okWide P W r b t v) (hd:DataW.Trod enc P W 0 (fun _=>true) true t v d ps) (hL:Light P t d)
  {H:AH} {M:Mp} (hi:Img W.heap.size H M W):∃ H' M' u,Ahead H H'∧MLe M M'∧Img W.heap.size H' M' W∧VR M' u v∧Rd P n H' t [u]:=by
 obtain⟨m,hm⟩:=hd
 rw[cells_one hu hval] at hm
 obtain⟨H',M',us,a1,m1,i1,v1,r1⟩:=got n t hr H M [v] hi ⟨m,_,hm,hL⟩
 have hl:=v1.1.1
 match us,hl with
 | [u],_=>exact⟨H',M',u,a1,m1,i1,v1.1.2 0 u v rfl rfl,r1⟩
/-- A row of numbers. -/
theorem elems_ints {n:Nat} {H:AH} {e:TypeId} (he:P.underlying e=some (.int .i64)):∀ {len:Nat} {us:List Value},elems P (Rd P (n+1) H e) 1 len us→∃ ls:List Int,us=intC ls∧ls.length=len∧∀ x∈ls,(Lit.int .i64 x).wf=true
 | 0,us,h=>⟨[],h,rfl,fun x hx=>by cases hx⟩
 | len+1,us,h=>by
  obtain⟨h1,h2,h3⟩:=h
  obtain⟨ls,e1,e2,e3⟩:=elems_ints he h3
  unfold Rd at h1
  rw[he] at h1
  obtain⟨a,ha,hw⟩:=h1
  refine⟨a::ls,?_,by simp[e2],fun x hx=>?_⟩
  ·rw[← List.take_append_drop 1 us,ha,e1];rfl
  ·rcases List.mem_cons.1 hx with rfl|hx
   ·exact hw
   ·exact e3 x hx
theorem ints_of {n:Nat} {H:AH} {t e:TypeId} {u:Value} (hu:P.underlying t=some (.slice e)) (he:P.underlying e=some (.int .i64)) (hc:P.cellsOf e=1) (h:Rd P (n+2) H t [u]):∃ ls:List Int,Ints H H.length u ls∧∀ x∈ls,(Lit.int .i64 x).wf=true:=by
 unfold Rd at h
 rw[hu] at h
 rcases h with h|h|⟨b,len,us,h1,h2,h3,h4,h5⟩
 ·simp at h;subst h;exact⟨[],.inl ⟨rfl,.inr rfl⟩,fun x hx=>by cases hx⟩
 ·simp at h;subst h;exact⟨[],.inl ⟨rfl,.inl ⟨_,rfl⟩⟩,fun x hx=>by cases hx⟩
 ·simp at h1;subst h1
  rw[hc] at h4 h5 ⊢
  obtain⟨ls,rfl,hl,hw⟩:=elems_ints he h5
  subst hl
  exact⟨ls,.inr ⟨b,0,[],false,rfl,by have:=(List.getElem?_eq_some_iff.1 h2).1;omega,by rw[List.append_nil];exact h2,h3.1⟩,hw⟩
end
theorem VRs.cons' {M:Mp} {v v':Value} {l l':List Value} (h:VR M v v') (k:VRs M l l'):VRs M (v::l) (v'::l'):=VRs.cons h k
theorem Ints.ahead {H H':AH} {lv:Value} {ls:List Int} {t:Nat} (h:Ints H t lv ls) (a:Ahead H H'):Ints H' t lv ls:=by
 obtain⟨L,rfl⟩:=a;exact h.app L
end Go.Proofs.YthhbglkokpablaaGreat.E
/- Calls that leave nothing behind, whatever comes of them. -/
set_option linter.unusedVariables false
namespace Go.Proofs.YthhbglkokpablaaGreat.E
open Go Go.RowKit
end Go.Proofs.YthhbglkokpablaaGreat.E
/- The plain lemmas of all walks, as one word. -/
set_option linter.unusedVariables false
namespace Go.Proofs.YthhbglkokpablaaGreat.E
open Go Go.RowKit
attribute [go_sem] Nat.left_eq_add Nat.add_eq_left Nat.add_left_cancel_iff imp_self implies_true decide_true decide_false Int.cast_ofNat_Int Bool.not_true Bool.not_false Bool.true_beq Bool.false_beq Bool.true_and Bool.and_true Bool.false_and Bool.and_false Bool.true_or Bool.or_true Bool.false_or Bool.or_false BEq.rfl Bool.false_eq_true List.append_eq List.append_nil List.cons_append List.nil_append List.set_cons_zero List.set_cons_succ List.getElem?_cons_zero List.getElem?_cons_succ
end Go.Proofs.YthhbglkokpablaaGreat.E
/- A walk's step as one word: what is known, then the rest. -/
set_option linter.unusedVariables false
namespace Go.Proofs.YthhbglkokpablaaGreat.E
open Go Go.RowKit
theorem et {a b:Prop} (x:a) (y:b):a∧b:=⟨x,y⟩
theorem sg {c p q:Prop} (x:c) (y:q) (e:c→p=q:=by intro h;(conv=>lhs;simp only[go_sem,Nat.reduceEqDiff,Nat.reduceAdd,Nat.reduceSub,Nat.reduceMul,Nat.reduceLT,Nat.reduceLeDiff,Int.reducePow,Int.reduceBEq,Int.reduceBNe,Int.reduceDiv,Int.reduceMod,Int.reduceEq,Int.reduceLT,Int.reduceLE,Int.reduceAdd,Int.reduceSub,Int.reduceMul,Int.reduceNeg,Int.reduceToNat,Int.reduceTDiv,Int.reduceTMod,↓reduceIte,h]) <;> exact rfl):p:=by rw[e x];exact y
end Go.Proofs.YthhbglkokpablaaGreat.E
