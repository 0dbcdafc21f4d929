/- Merged texts: EH EI EJ EK EL EM EN EO EP EQ ER. -/
import Derived.Test.YthhbglkokpablaaGreatV2
import Derived.ReadAgain
import Derived.ChangeOld
import Derived.ChangeSame
import Derived.Below
import Derived.RowKit
/- What a call leaves behind may be put in order: blocks that nothing leads to are let go, the others renumbered. And how the machine's word becomes the world's. -/
set_option linter.unusedVariables false
set_option linter.unusedSimpArgs false
namespace Go.Proofs.YthhbglkokpablaaGreat.E
open Go Go.RowKit

/-- A block's new number: those below n stay; K lists the others that are kept, with their growth. -/
def renB (n:Nat) (K:List (Nat × Nat)) (b g:Nat):Option (Nat × Nat):=
 if b<n then some (b,g) else match K.findIdx? (fun x=>x.1==b&&x.2==g) with
  | some j=>some (n+j,0)
  | none=>none

def renV (n:Nat) (K:List (Nat × Nat)):Value→Option Value
 | .pointer (some ⟨b,off,some g⟩)=>(renB n K b g).map fun (b',g')=>.pointer (some ⟨b',off,some g'⟩)
 | .slice (some ⟨b,off,some g⟩) len e=>(renB n K b g).map fun (b',g')=>.slice (some ⟨b',off,some g'⟩) len e
 | .slice (some ⟨0,0,none⟩) 0 e=>some (.slice (some ⟨0,0,none⟩) 0 e)
 | v=>if plain1 v then some v else none

def renL (n:Nat) (K:List (Nat × Nat)):List Value→Option (List Value)
 | []=>some []
 | v::vs=>match renV n K v,renL n K vs with
  | some u,some us=>some (u::us)
  | _,_=>none

/-- A call's result. -/
def renR (n:Nat) (K:List (Nat × Nat)):Value→Option Value
 | .agg cs=>(renL n K cs.toList).map fun l=>.agg l.toArray
 | .tuple vs=>(renT vs.toList).map fun l=>.tuple l.toArray
 | v=>renV n K v
where
 renT:List Value→Option (List Value)
  | []=>some []
  | .agg cs::vs=>match renL n K cs.toList,renT vs with
   | some l,some us=>some (.agg l.toArray::us)
   | _,_=>none
  | v::vs=>match renV n K v,renT vs with
   | some u,some us=>some (u::us)
   | _,_=>none

/-- The map behind the renumbering. -/
def renM (n:Nat) (K:List (Nat × Nat)) (M:Mp):Mp:=fun b g=>
  if b<n then M b g else if g=0 then match K[b - n]? with
    | some (b',g')=>M b' g'
    | none=>none
  else none

theorem renB_map {n : Nat} {K : List (Nat × Nat)} {M : Mp} {b g b' g' : Nat} (h : renB n K b g = some (b', g')) : renM n K M b' g' = M b g := by
  unfold renB at h
  split at h
  · cases h; simp [renM, *]
  · split at h
    case h_2 => cases h
    rename_i j hj
    cases h
    obtain⟨hlt,hp,_⟩:=List.findIdx?_eq_some_iff_getElem.1 hj
    have e:K[j]=(b,g):=by
      simp only[Bool.and_eq_true,beq_iff_eq] at hp
      exact Prod.ext hp.1 hp.2
    unfold renM
    rw[if_neg (by omega),if_pos rfl,show n+j - n=j by omega,List.getElem?_eq_getElem hlt,e]

theorem renV_rel {n:Nat} {K:List (Nat × Nat)} {M:Mp} {v u v':Value} (h:renV n K v=some u) (r:VR M v v'):VR (renM n K M) u v':=by
 unfold renV at h
 split at h
 ·rename_i b off g
  cases hb:renB n K b g with
  | none=>rw[hb] at h;cases h
  | some x=>
   obtain⟨b',g'⟩:=x
   rw[hb] at h;cases h
   obtain⟨c,o,m,hM,rfl⟩:=r.ptr_inv
   exact .ptr (by rw[renB_map hb];exact hM)
 ·rename_i b off g len e
  cases hb:renB n K b g with
  | none=>rw[hb] at h;cases h
  | some x=>
   obtain⟨b',g'⟩:=x
   rw[hb] at h;cases h
   rcases r.sl_inv with ⟨c,o,m,cap,hM,h1,h2,rfl⟩|⟨rfl,a',x,hM,rfl⟩
   ·exact .sl (by rw[renB_map hb];exact hM) h1 h2
   ·exact .ze (by rw[renB_map hb];exact hM)
 ·cases h
  obtain⟨a',rfl⟩:=r.zs_inv
  exact .zs
 ·split at h
  case isFalse=>cases h
  rename_i hp
  cases h
  have:v'=v:=by
   unfold plain1 at hp
   split at hp
   ·exact r.int_inv
   ·exact r.bool_inv
   ·exact r.str_inv
   ·cases r;rfl
   ·cases r;rfl
   ·cases r;rfl
   ·exact r.nil_inv
   ·cases hp
  subst this
  exact plain1_rel hp

theorem renL_rel {n:Nat} {K:List (Nat × Nat)} {M:Mp}:∀ {l u l':List Value},renL n K l=some u→VRs M l l'→VRs (renM n K M) u l'
 | [],u,l',h,r=>by
  cases h
  have:l'=[]:=List.eq_nil_of_length_eq_zero (by have:=r.1;simpa using this.symm)
  subst this;exact VRs.nil
 | v::l,u,[],h,r=>absurd r.1 (by simp)
 | v::l,u,v'::l',h,r=>by
  simp only[renL] at h
  split at h
  case h_2=>cases h
  rename_i x xs h1 h2
  cases h
  exact VRs.cons (renV_rel h1 (r.2 0 v v' rfl rfl)) (renL_rel h2 ⟨by have:=r.1;simpa using this,fun i a b p q=>r.2 (i+1) a b (by simpa using p) (by simpa using q)⟩)

theorem renV_one {n:Nat} {K:List (Nat × Nat)} {v u:Value} (h:renV n K v=some u):one u=true:=by
 unfold renV at h
 split at h
 ·rename_i b off g
  cases hb:renB n K b g <;> rw[hb] at h <;> cases h;rfl
 ·rename_i b off g len e
  cases hb:renB n K b g <;> rw[hb] at h <;> cases h;rfl
 ·cases h;rfl
 ·split at h
  case isFalse=>cases h
  cases h;exact plain1_one ‹_›

theorem renL_one {n:Nat} {K:List (Nat × Nat)}:∀ {l u:List Value},renL n K l=some u→∀ v∈u,one v=true
 | [],u,h,v,hv=>by cases h;cases hv
 | x::l,u,h,v,hv=>by
  simp only[renL] at h
  split at h
  case h_2=>cases h
  rename_i y ys h1 h2
  cases h
  rcases List.mem_cons.1 hv with rfl|hv
  ·exact renV_one h1
  ·exact renL_one h2 v hv

theorem renT_rel {n:Nat} {K:List (Nat × Nat)} {M:Mp}:∀ {l u l':List Value},renR.renT n K l=some u→VRs M l l'→VRs (renM n K M) u l'
 | [],u,l',h,r=>by
  cases h
  have:l'=[]:=List.eq_nil_of_length_eq_zero (by have:=r.1;simpa using this.symm)
  subst this;exact VRs.nil
 | v::l,u,[],h,r=>absurd r.1 (by simp)
 | v::l,u,v'::l',h,r=>by
  have rest:VRs M l l':=⟨by have:=r.1;simpa using this,fun i a b p q=>r.2 (i+1) a b (by simpa using p) (by simpa using q)⟩
  have hd:=r.2 0 v v' rfl rfl
  unfold renR.renT at h
  split at h
  ·rename_i hh;cases hh
  ·rename_i cs vs hh
   cases hh
   split at h
   case h_2=>cases h
   rename_i x xs h1 h2
   cases h
   refine VRs.cons ?_ (renT_rel h2 rest)
   obtain⟨ys,rfl,hc⟩:=agg_cells hd
   have hvc:VCs (renM n K M) x ys.toList:=⟨renL_rel h1 hc.1,renL_one h1⟩
   have:=hvc.agg
   simpa using this
  ·rename_i hh
   cases hh
   split at h
   case h_2=>cases h
   rename_i x xs h1 h2
   cases h
   exact VRs.cons (renV_rel h1 hd) (renT_rel h2 rest)

theorem renR_rel {n:Nat} {K:List (Nat × Nat)} {M:Mp} {v u v':Value} (h:renR n K v=some u) (r:VR M v v'):VR (renM n K M) u v':=by
 unfold renR at h
 split at h
 ·rename_i cs
  cases hl:renL n K cs.toList with
  | none=>rw[hl] at h;cases h
  | some l=>
   rw[hl] at h;cases h
   obtain⟨ys,rfl,hc⟩:=agg_cells r
   have hvc:VCs (renM n K M) l ys.toList:=⟨renL_rel hl hc.1,renL_one hl⟩
   have:=hvc.agg
   simpa using this
 ·rename_i vs
  cases hl:renR.renT n K vs.toList with
  | none=>rw[hl] at h;cases h
  | some l=>
   rw[hl] at h;cases h
   have:∃ ys,v'=.tuple ys∧VRs M vs.toList ys.toList:=by
    cases r with
    | tup e hv=>
     rename_i ys
     refine⟨ys,rfl,by simpa using e,fun i a b p q=>?_⟩
     obtain⟨i1,e1⟩:=List.getElem?_eq_some_iff.1 p
     obtain⟨i2,e2⟩:=List.getElem?_eq_some_iff.1 q
     simp only[Array.getElem_toList] at e1 e2
     rw[← e1,← e2];exact hv i (by simpa using i1) (by simpa using i2)
   obtain⟨ys,rfl,hys⟩:=this
   have q:=renT_rel hl hys
   refine .tup (by have:=q.1;simpa using this) (fun i h1 h2=>?_)
   simp at h1
   have h3:i<ys.toList.length:=by simpa using h2
   have:=q.2 i l[i] ys.toList[i] (List.getElem?_eq_getElem h1) (List.getElem?_eq_getElem h3)
   simpa using this
 ·exact renV_rel h r

/-- One block, renumbered. -/
def RenBlk (n:Nat) (K:List (Nat × Nat)) (k k2:Blk):Prop:=renL n K k.cells=some k2.cells∧k2.rw=k.rw

theorem SemCall.ren {P:Program} {f:FuncId} {args:List Value} {H H1 H2:AH} {v v2:Value} {W:List Nat} (K:List (Nat × Nat)) (h:SemCall P f args H v H1 W) (hv:renR H.length K v=some v2)
  (hnd:(K.map (·.1)).Nodup) (hK:∀ b g,(b,g)∈K→H.length≤b) (hlen:H2.length=H.length+K.length) (hsame:∀ b,b<H.length→b∉W→H2[b]?=H1[b]?)
  (hw:∀ b∈W,∃ k k2,H1[b]?=some k∧H2[b]?=some k2∧RenBlk H.length K k k2∧k2.gen=k.gen)
  (hn:∀ (j b g:Nat),K[j]?=some (b,g)→∃ k k2,H1[b]?=some k∧k.gen=g∧H2[H.length+j]?=some k2∧RenBlk H.length K k k2∧k2.gen=0):SemCall P f args H v2 H2 W:=by
 refine⟨⟨h.1.1,by omega,fun b hb hnw=>by rw[hsame b hb hnw];exact h.1.2.2 b hb hnw⟩,fun N0 M w args' p ha=>?_⟩
 refine(h.2 N0 M w args' p ha).mono (fun e w' ⟨v',M',he,hr,q⟩=>?_)
 have lo:∀ b g,b<H.length→renM H.length K M' b g=M' b g:=fun b g hb=>by simp[renM,hb]
 have hi:∀ {b g x},H.length≤b→renM H.length K M' b g=some x→g=0∧∃ b' g',K[b - H.length]?=some (b',g')∧M' b' g'=some x:=fun {b g x} hb hx=>by
  unfold renM at hx
  rw[if_neg (by omega)] at hx
  split at hx
  case isFalse=>cases hx
  rename_i hg
  split at hx
  case h_2=>cases hx
  rename_i b' g' hk
  exact⟨hg,b',g',hk,hx⟩
 have src:∀ {b g x},renM H.length K M' b g=some x→∃ b' g',M' b' g'=some x∧((b<H.length∧b'=b)∨(H.length≤b∧K[b - H.length]?=some (b',g'))):=fun {b g x} hx=>by
  by_cases hb:b<H.length
  ·rw[lo b g hb] at hx;exact⟨b,g,hx,.inl ⟨hb,rfl⟩⟩
  ·obtain⟨_,b',g',h1,h2⟩:=hi (by omega) hx
   exact⟨b',g',h2,.inr ⟨by omega,h1⟩⟩
 have same:∀ {b b' b1 b2:Nat} {g1 g2:Nat},((b<H.length∧b1=b)∨(H.length≤b∧K[b - H.length]?=some (b1,g1)))→((b'<H.length∧b2=b')∨(H.length≤b'∧K[b' - H.length]?=some (b2,g2)))→b1=b2→b=b':=by
  intro b b' b1 b2 g1 g2 h1 h2 e
  rcases h1 with ⟨a1,a2⟩|⟨a1,a2⟩ <;> rcases h2 with ⟨c1,c2⟩|⟨c1,c2⟩
  ·omega
  ·have:=hK _ _ (List.mem_of_getElem? c2);omega
  ·have:=hK _ _ (List.mem_of_getElem? a2);omega
  ·subst e
   obtain⟨i1,e1⟩:=List.getElem?_eq_some_iff.1 a2
   obtain⟨i2,e2⟩:=List.getElem?_eq_some_iff.1 c2
   have m1:(K.map (·.1))[b - H.length]'(by simpa using i1)=b1:=by simp[e1]
   have m2:(K.map (·.1))[b' - H.length]'(by simpa using i2)=b1:=by simp[e2]
   have hpw:=List.pairwise_iff_getElem.1 hnd
   rcases Nat.lt_trichotomy (b - H.length) (b' - H.length) with h|h|h
   ·exact absurd (m1.trans m2.symm) (hpw _ _ (by simpa using i1) (by simpa using i2) h)
   ·omega
   ·exact absurd (m2.trans m1.symm) (hpw _ _ (by simpa using i2) (by simpa using i1) h)
 have ext:MLe M (renM H.length K M'):=fun b g x hx=>by rw[lo b g (p.dom hx)];exact q.ext _ _ _ hx
 have cell:∀ {c o:Nat} {k k2:Blk},RenBlk H.length K k k2→CellR M' w' c o k.cells→CellR (renM H.length K M') w' c o k2.cells:=fun {c o k k2} hb hc i u hu=>by
  have hren:∀ {l u:List Value},renL H.length K l=some u→∀ (i:Nat) y,u[i]?=some y→∃ x,l[i]?=some x∧renV H.length K x=some y:=by
   intro l
   induction l with
   | nil=>intro u hl i y hy;cases hl;simp at hy
   | cons x l ih=>
    intro u hl i y hy
    simp only[renL] at hl
    split at hl
    case h_2=>cases hl
    rename_i z zs h1 h2
    cases hl
    cases i with
    | zero=>simp at hy;subst hy;exact⟨x,rfl,h1⟩
    | succ i=>simpa using ih h2 i y (by simpa using hy)
  obtain⟨x,hx,hxr⟩:=hren hb.1 i u hu
  obtain⟨_,v',c1,c2⟩:=hc i x hx
  exact⟨renV_one hxr,v',c1,renV_rel hxr c2⟩
 refine⟨v',renM H.length K M',he,renR_rel hv hr,⟨by omega,fun b hb hnw=>by rw[hsame b hb hnw];exact q.same b hb hnw,ext,fun b g hb hnw=>by rw[lo b g hb];exact q.keep b g hb hnw,fun {b g x} hx=>?_,fun b hb hnn g=>by rw[lo b g hb];exact q.absent b hb hnn g,fun {b g c o n} hx=>?_,q.frame,q.wown,⟨fun hx=>?_,fun hx hN=>?_,fun hx hx' hN=>?_,fun {b g c o n g' c' o' n'} hx hx' hN=>?_⟩,fun {b k} hb hk hx=>?_,q.size,q.os,q.tape,q.output⟩⟩
 ·by_cases hb:b<H.length
  ·omega
  ·obtain⟨_,b',g',h1,_⟩:=hi (by omega) hx
   have:=(List.getElem?_eq_some_iff.1 h1).1
   omega
 ·obtain⟨b',g',h1,h2⟩:=src hx
  rcases q.fresh h1 with h3|⟨g'',h3⟩
  ·exact .inl h3
  ·rcases h2 with ⟨_,rfl⟩|⟨_,h2⟩
   ·exact .inr ⟨g'',h3⟩
   ·have:=hK _ _ (List.mem_of_getElem? h2)
    have:=p.dom h3
    omega
 ·obtain⟨_,_,h1,_⟩:=src hx;exact q.hp.lt h1
 ·obtain⟨_,_,h1,_⟩:=src hx;exact q.hp.own h1 hN
 ·obtain⟨_,_,h1,h2⟩:=src hx
  obtain⟨_,_,h3,h4⟩:=src hx'
  exact same h2 h4 (q.hp.inj h1 h3 hN)
 ·by_cases hb:b<H.length
  ·rw[lo b g hb] at hx;rw[lo b g' hb] at hx';exact q.hp.hom hx hx' hN
  ·obtain⟨e1,_,_,k1,h1⟩:=hi (by omega) hx
   obtain⟨e2,_,_,k2,h2⟩:=hi (by omega) hx'
   rw[k1] at k2;cases k2
   exact q.hp.hom h1 h2 hN
 ·by_cases hbl:b<H.length
  ·have hbW:b∈W:=by rcases hb with hb|hb;exact hb;omega
   obtain⟨k1,k2,g1,g2,g3,g4⟩:=hw b hbW
   rw[g2] at hk;cases hk
   obtain⟨gg,x,hx⟩:=hx
   rw[lo b gg hbl] at hx
   obtain⟨c,o,n,c1,c2,c3,c4⟩:=q.cont (.inl hbW) g1 ⟨gg,x,hx⟩
   exact⟨c,o,n,by rw[lo b _ hbl,g4];exact c1,fun g hg=>by rw[lo b g hbl];exact c2 g (by rw[← g4];exact hg),cell g3 c3,fun hr=>c4 (by rw[← g3.2];exact hr)⟩
  ·obtain⟨gg,x,hx⟩:=hx
   obtain⟨e1,b',g',k1,h1⟩:=hi (by omega) hx
   obtain⟨k0,k2,g1,g2,g3,g4,g5⟩:=hn (b - H.length) b' g' k1
   rw[show H.length+(b - H.length)=b by omega,hk] at g3;cases g3
   have hge:=hK _ _ (List.mem_of_getElem? k1)
   obtain⟨c,o,n,c1,c2,c3,c4⟩:=q.cont (.inr hge) g1 ⟨_,_,h1⟩
   refine⟨c,o,n,?_,fun g hg=>?_,cell g4 c3,fun hr=>c4 (by rw[← g4.2];exact hr)⟩
   ·unfold renM
    rw[if_neg hbl,if_pos g5,k1]
    simp only[]
    rw[← g2];exact c1
   ·unfold renM
    rw[if_neg hbl,if_neg (by omega)]

end Go.Proofs.YthhbglkokpablaaGreat.E
/- Ways to use the machine. -/
set_option linter.unusedVariables false
set_option linter.unusedSimpArgs false
namespace Go.Proofs.YthhbglkokpablaaGreat.E
open Go Go.RowKit

theorem Cal.sem {P:Program} {f:FuncId} {args:List Value} {H H1:AH} {v:Value} {W:List Nat} (h:Cal P f args H fun v' H' W'=>v'=v∧H'=H1∧W'=W):SemCall P f args H v H1 W:=by
 obtain⟨_,_,_,h,rfl,rfl,rfl⟩:=h;exact h

/-- A call that leaves nothing behind that anything leads to. -/
theorem Cal.pure {P:Program} {f:FuncId} {args:List Value} {H:AH} {v:Value} (h:Cal P f args H fun v' _ W'=>v'=v∧W'=[]) (hv:renR H.length [] v=some v):SemCall P f args H v H []:=by
 obtain⟨_,H1,_,h,rfl,rfl⟩:=h
 exact h.ren [] hv (by simp) (by simp) (by simp) (fun b hb _=>(h.1.2.2 b hb (by simp)).symm) (by simp) (by simp)

/-- From the machine's word to the world's, where nothing is handed in but what leads nowhere. -/
theorem SemCall.world {P:Program} {f:FuncId} {args:List Value} {H':AH} {W:List Nat} {b:Bool} (h:SemCall P f args [] (.bool b) H' W) (w:World) (args':Array Value) (ha:VRs (fun _ _=>none) args args'.toList) :
  Calls P f args' w fun e w'=>e=.returned (.bool b)∧Below w.heap.size w w':=by
 have p:Pre w.heap.size ([]:AH) none (fun _ _=>none) w:=⟨(fun h=>by cases h),⟨(fun h=>by cases h),(fun h=>by cases h),(fun h=>by cases h),(fun h=>by cases h)⟩,Nat.le_refl _,(fun _ h=>by simp at h)⟩
 refine(h.2 w.heap.size _ w args' p ha).mono (fun e w' ⟨v',M',he,hr,q⟩=>?_)
 have:=hr.bool_inv
 subst this
 exact⟨he,q.os,q.tape,q.output,q.size,fun k hk=>q.frame k hk (fun b hb g o n hh=>by cases hh)⟩

/-! ### what evaluation needs -/
theorem hget_app (H L:AH) (k:Nat):(H++L)[H.length+k]?=L[k]?:=by rw[List.getElem?_append_right (by omega)];congr 1;omega
theorem hget_app0 (H L:AH):(H++L)[H.length]?=L[0]?:=by rw[List.getElem?_append_right (by omega)];congr 1;omega
theorem hset_app (H L:AH) (k:Nat) (x:Blk):(H++L).set (H.length+k) x=H++L.set k x:=by
 rw[List.set_append_right _ _ (by omega)];congr 2;omega
theorem hset_app0 (H L:AH) (x:Blk):(H++L).set H.length x=H++L.set 0 x:=by
 rw[List.set_append_right _ _ (by omega)];congr 2;omega
theorem happ_app (H L:AH) (x:Blk):(H++L)++[x]=H++(L++[x]):=List.append_assoc _ _ _
theorem lt_add (n k:Nat):decide (n+k<n)=false:=by simp
theorem lt_self (n:Nat):decide (n<n)=false:=by simp

/-- Where no call of a region writes, and nothing else that has no order does. -/
def statOk (ops:Array Oper):Bool:=
 (List.range ops.size).all fun j=>(List.range j).all fun i=>ordered ops i j||match ops[i]?,ops[j]? with
  | some x,some y=>let w (o:Oper):Bool:=match o.op with
    | .store ..=>true
    | .call ⟨.builtin .append,_,_⟩=>true
    | _=>false
   !w x&&!w y
  | _,_=>true

end Go.Proofs.YthhbglkokpablaaGreat.E
/- Evaluation in the machine, by rewriting from the outside. -/
set_option linter.unusedVariables false
set_option linter.unusedSimpArgs false
namespace Go.Proofs.YthhbglkokpablaaGreat.E
open Go Go.RowKit

/-- What is still to be done, laid where the rewriting does not look. -/
class Co (α:Type) where
 go:α
@[go_sem ↓] theorem co_go {α:Type} (f:α):(Co.mk f).go=f:=(rfl)

abbrev KV:=Co (Value→AH→Foot→Prop)
abbrev KO:=Co (Env→AH→List Nat→List Foot→Prop)
abbrev KC:=Co WPost
abbrev KX:=Co (Value→AH→List Nat→Prop)

def XRun (P:Program) (sz:Nat) (o:Oper) (T:Env) (H:AH) [R:KV]:Prop:=WRun P sz o T H R.go
def XOps (P:Program) (sz n0:Nat) (ops:Array Oper) (l:List Oper) (T:Env) (H:AH) (D:List Nat) (Fs:List Foot) [K:KO]:Prop:=WOps P sz n0 ops l T H D Fs K.go
def XCode (P:Program) (sz n0:Nat) (c:Code) (T:Env) (H:AH) (D:List Nat) [Q:KC]:Prop:=WCode P sz n0 c T H D Q.go
def XCal (P:Program) (f:FuncId) (args:List Value) (H:AH) [Q:KX]:Prop:=Cal P f args H Q.go

section
variable {P:Program} {sz n0:Nat} {T:Env} {H:AH} {D:List Nat}

@[go_sem ↓] theorem wcode_x {c:Code} {q:WPost}:WCode P sz n0 c T H D q=@XCode P sz n0 c T H D ⟨q⟩:=(rfl)
@[go_sem ↓] theorem wcode_skip {Q:KC}:XCode P sz n0 .skip T H D=Q.go .norm T H D:=(rfl)
@[go_sem ↓] theorem wcode_region {Q:KC} {id:Nat} {l:List Oper}:XCode P sz n0 (.region id l.toArray false) T H D=@XOps P sz n0 l.toArray l T H D [] ⟨fun T' H' D' _=>Q.go .norm T' H' D'⟩:=by simp[XCode,XOps,WCode]
@[go_sem ↓] theorem wcode_seq {Q:KC} {a b:Code}:XCode P sz n0 (.seq a b) T H D=@XCode P sz n0 a T H D ⟨WSeq (fun T H D Q=>WCode P sz n0 b T H D Q) Q.go⟩:=(rfl)
@[go_sem ↓] theorem wcode_block {Q:KC} {id:Nat} {c:Code}:XCode P sz n0 (.block id c) T H D=@XCode P sz n0 c T H D ⟨WBlk id Q.go⟩:=(rfl)
@[go_sem ↓] theorem wcode_exit {Q:KC} {id:Nat}:XCode P sz n0 (.exit id) T H D=Q.go (.exit id) T H D:=(rfl)
@[go_sem ↓] theorem wcode_ret {Q:KC}:XCode P sz n0 .ret T H D=Q.go .ret T H D:=(rfl)
@[go_sem ↓] theorem wcode_cond_t {Q:KC} {c:Operand} {a b:Code} (h:ev T c=some (.bool true)):XCode P sz n0 (.cond c a b) T H D=XCode P sz n0 a T H D:=by simp[XCode,WCode,h]
@[go_sem ↓] theorem wcode_cond_f {Q:KC} {c:Operand} {a b:Code} (h:ev T c=some (.bool false)):XCode P sz n0 (.cond c a b) T H D=XCode P sz n0 b T H D:=by simp[XCode,WCode,h]

/-- What is left behind a region whose order is drawn. -/
def KEnd (ops:List Oper) [Q:KC] (T:Env) (H:AH) (D:List Nat) (Fs:List Foot):Prop:=Compat ops.toArray Fs∧Q.go .norm T H D

@[go_sem ↓] theorem wseq_norm' {B:WT} {q:WPost}:WSeq B q .norm T H D=B T H D q:=(rfl)
@[go_sem ↓] theorem wseq_ret' {B:WT} {q:WPost}:WSeq B q .ret T H D=q .ret T H D:=(rfl)
@[go_sem ↓] theorem wseq_exit' {B:WT} {q:WPost} {i:Nat}:WSeq B q (.exit i) T H D=q (.exit i) T H D:=(rfl)
@[go_sem ↓] theorem wblk_norm' {id:Nat} {q:WPost}:WBlk id q .norm T H D=q .norm T H D:=(rfl)
@[go_sem ↓] theorem wblk_ret' {id:Nat} {q:WPost}:WBlk id q .ret T H D=q .ret T H D:=(rfl)
@[go_sem ↓] theorem wblk_exit_t {id:Nat} {q:WPost}:WBlk id q (.exit id) T H D=q .norm T H D:=by simp[WBlk]
@[go_sem ↓] theorem wblk_exit_f {id i:Nat} {q:WPost} (h:(i==id)=false):WBlk id q (.exit i) T H D=q (.exit i) T H D:=by
 have:¬ i=id:=by simpa using h
 simp[WBlk,this]
end

/-! ### operations -/
section
variable {P:Program} {sz n0:Nat} {ops:Array Oper} {rest:List Oper} {T:Env} {H:AH} {D:List Nat} {Fs:List Foot}
variable {dst:Option Tmp} {op:Op} {ty:TypeId} {pos:String} {af:Array Edge} {gd:Option (Nat × Bool)}

@[go_sem ↓] theorem wops_nil {K:KO}:XOps P sz n0 ops [] T H D Fs=K.go T H D Fs:=(rfl)
@[go_sem ↓] theorem wops_plain {K:KO} {d:Nat} (hd:d+1 - sz=0):XOps P sz n0 ops (⟨some d,op,ty,pos,af,none⟩::rest) T H D Fs =
  @XRun P sz ⟨some d,op,ty,pos,af,none⟩ T H ⟨fun v H' F=>XOps P sz n0 ops rest (upd T d v) H' (D++F.w.filter (fun b=>decide (b<n0))) (Fs++[F])⟩:=by
 have hd:d<sz:=by omega
 simp[XOps,XRun,WOps,dok,hd,awant,put]
@[go_sem ↓] theorem wops_plain0 {K:KO}:XOps P sz n0 ops (⟨none,op,ty,pos,af,none⟩::rest) T H D Fs =
  @XRun P sz ⟨none,op,ty,pos,af,none⟩ T H ⟨fun v H' F=>XOps P sz n0 ops rest (T) H' (D++F.w.filter (fun b=>decide (b<n0))) (Fs++[F])⟩:=by
 simp[XOps,XRun,WOps,dok,awant,put]
@[go_sem ↓] theorem wops_yes {K:KO} {d:Nat} {g:Nat × Bool} (hd:d+1 - sz=0) (hg:awant ops T ⟨some d,op,ty,pos,af,some g⟩=some true):XOps P sz n0 ops (⟨some d,op,ty,pos,af,some g⟩::rest) T H D Fs =
  @XRun P sz ⟨some d,op,ty,pos,af,some g⟩ T H ⟨fun v H' F=>XOps P sz n0 ops rest (upd T d v) H' (D++F.w.filter (fun b=>decide (b<n0))) (Fs++[F])⟩:=by
 have hd:d<sz:=by omega
 simp[XOps,XRun,WOps,dok,hd,hg,put]
@[go_sem ↓] theorem wops_no {K:KO} {d:Nat} {g:Nat × Bool} (hd:d+1 - sz=0) (hg:awant ops T ⟨some d,op,ty,pos,af,some g⟩=some false):XOps P sz n0 ops (⟨some d,op,ty,pos,af,some g⟩::rest) T H D Fs =
  XOps P sz n0 ops rest (upd T d undef) H D (Fs++[⟨[],some []⟩]):=by
 have hd:d<sz:=by omega
 simp[XOps,WOps,dok,hd,hg,put]

/-- What comes of a value that is worked out. -/
def Kv [R:KV] (H:AH):Option Value→Prop
 | some v=>R.go v H ⟨[],some []⟩
 | none=>False
@[go_sem] theorem kv_some {R:KV} {v:Value}:Kv H (some v)=R.go v H ⟨[],some []⟩:=(rfl)
/-- What comes of a value that is read. -/
def Kl [R:KV] (H:AH):Option (Value × Nat)→Prop
 | some (v,b)=>R.go v H ⟨[],some [b]⟩
 | none=>False
@[go_sem] theorem kl_some {R:KV} {v:Value} {b:Nat}:Kl H (some (v,b))=R.go v H ⟨[],some [b]⟩:=(rfl)
/-- What comes of a store. -/
def Ks [R:KV]:Option (AH × Nat)→Prop
 | some (H',b)=>R.go undef H' ⟨[b],some [b]⟩
 | none=>False
@[go_sem] theorem ks_some {R:KV} {H':AH} {b:Nat}:Ks (some (H',b))=R.go undef H' ⟨[b],some [b]⟩:=(rfl)
/-- What comes of a new block. -/
def Kn [R:KV] (H:AH):Option (List Value)→Prop
 | some cs=>R.go (ap H.length 0 0) (H++[⟨cs,0,true⟩]) ⟨[],some []⟩
 | none=>False
@[go_sem] theorem kn_some {R:KV} {cs:List Value}:Kn H (some cs)=R.go (ap H.length 0 0) (H++[⟨cs,0,true⟩]) ⟨[],some []⟩:=(rfl)
/-- What comes of a new row. -/
def Kr [R:KV] (H:AH) (n:Nat):Option (List Value × Nat)→Prop
 | some (cs,s)=>R.go (sl H.length 0 0 n s) (H++[⟨cs,0,true⟩]) ⟨[],some []⟩
 | none=>False
@[go_sem] theorem kr_some {R:KV} {n s:Nat} {cs:List Value}:Kr H n (some (cs,s))=R.go (sl H.length 0 0 n s) (H++[⟨cs,0,true⟩]) ⟨[],some []⟩:=(rfl)
def Km [R:KV] (H:AH):Option (List Value × Nat × Nat)→Prop
 | some (cs,s,n)=>R.go (sl H.length 0 0 n s) (H++[⟨cs,0,true⟩]) ⟨[],some []⟩
 | none=>False
@[go_sem] theorem km_some {R:KV} {n s:Nat} {cs:List Value}:Km H (some (cs,s,n))=R.go (sl H.length 0 0 n s) (H++[⟨cs,0,true⟩]) ⟨[],some []⟩:=(rfl)
def Ka [R:KV]:Option (Value × AH × List Nat × List Nat)→Prop
 | some (v,H',W,rs)=>R.go v H' ⟨W,some rs⟩
 | none=>False
@[go_sem] theorem ka_some {R:KV} {v:Value} {H':AH} {W rs:List Nat}:Ka (some (v,H',W,rs))=R.go v H' ⟨W,some rs⟩:=(rfl)

/- Operands, as far as they are known. -/
def b1 (f:Value→Option Value):Option Value→Option Value
 | some v=>f v
 | none=>none
def b2 {α:Type} (f:Value→Value→Option α):Option Value→Option Value→Option α
 | some v,some u=>f v u
 | _,_=>none
@[go_sem] theorem b1_some {f:Value→Option Value} {v:Value}:b1 f (some v)=f v:=(rfl)
@[go_sem] theorem b2_some {α:Type} {f:Value→Value→Option α} {v u:Value}:b2 f (some v) (some u)=f v u:=(rfl)

@[go_sem ↓] theorem wrun_move {R:KV} {x:Operand}:XRun P sz ⟨dst,.move x,ty,pos,af,gd⟩ T H=Kv H (ev T x):=by
 simp only[XRun,WRun,astep];cases ev T x <;> rfl
@[go_sem ↓] theorem wrun_assign {R:KV} {x:Operand}:XRun P sz ⟨dst,.assign x,ty,pos,af,gd⟩ T H=Kv H (ev T x):=by
 simp only[XRun,WRun,astep];cases ev T x <;> rfl
def apick:Value→Value→Value→Option Value
 | .bool t,x,y=>some (if t then x else y)
 | _,_,_=>none
def b3 (f:Value→Value→Value→Option Value):Option Value→Option Value→Option Value→Option Value
 | some v,some u,some x=>f v u x
 | _,_,_=>none
@[go_sem] theorem b3_some {f:Value→Value→Value→Option Value} {v u x:Value}:b3 f (some v) (some u) (some x)=f v u x:=(rfl)
@[go_sem] theorem apick_t {x y:Value}:apick (.bool true) x y=some x:=(rfl)
@[go_sem] theorem apick_f {x y:Value}:apick (.bool false) x y=some y:=(rfl)
@[go_sem ↓] theorem wrun_pick {R:KV} {c x y:Operand}:XRun P sz ⟨dst,.pick c x y,ty,pos,af,gd⟩ T H=Kv H (b3 apick (ev T c) (ev T x) (ev T y)):=by
 simp only[XRun,WRun,astep]
 cases ev T c with
 | none=>rfl
 | some v=>cases v <;> cases ev T x <;> cases ev T y <;> rfl
@[go_sem ↓] theorem wrun_alloc {R:KV} {e:TypeId}:XRun P sz ⟨dst,.alloc e,ty,pos,af,gd⟩ T H=Kn H (tzero P e):=by
 simp only[XRun,WRun,astep];cases tzero P e <;> rfl
def bL (f:Value→Option (List Value)):Option Value→Option (List Value)
 | some v=>f v
 | none=>none
@[go_sem] theorem bL_some {f:Value→Option (List Value)} {v:Value}:bL f (some v)=f v:=(rfl)
@[go_sem ↓] theorem wrun_box {R:KV} {e:TypeId} {x:Operand}:XRun P sz ⟨dst,.box e x,ty,pos,af,gd⟩ T H=Kn H (bL cellsL (ev T x)):=by
 simp only[XRun,WRun,astep]
 cases ev T x with
 | none=>rfl
 | some v=>simp only[bL];cases cellsL v <;> rfl
def bP {α:Type} (f:List (Nat × Value)→Option α):Option (List (Nat × Value))→Option α
 | some v=>f v
 | none=>none
@[go_sem] theorem bP_some {α:Type} {f:List (Nat × Value)→Option α} {v:List (Nat × Value)}:bP f (some v)=f v:=(rfl)
@[go_sem ↓] theorem wrun_build {R:KV} {t:TypeId} {ps:List (Nat × Operand)}:XRun P sz ⟨dst,.build t ps.toArray,ty,pos,af,gd⟩ T H=Kv H (bP (abuild P t) (evp T ps)):=by
 simp only[XRun,WRun,astep]
 cases evp T ps with
 | none=>rfl
 | some v=>simp only[bP];cases abuild P t v <;> rfl
@[go_sem ↓] theorem wrun_buildSlice {R:KV} {t:TypeId} {n:Nat} {ps:List (Nat × Operand)}:XRun P sz ⟨dst,.buildSlice t n ps.toArray,ty,pos,af,gd⟩ T H=Kr H n (bP (abuildSlice P t n) (evp T ps)):=by
 simp only[XRun,WRun,astep]
 cases evp T ps with
 | none=>rfl
 | some v=>simp only[bP];cases abuildSlice P t n v <;> rfl
def bl (f:Value→Option (Value × Nat)):Option Value→Option (Value × Nat)
 | some v=>f v
 | none=>none
@[go_sem] theorem bl_some {f:Value→Option (Value × Nat)} {v:Value}:bl f (some v)=f v:=(rfl)
@[go_sem ↓] theorem wrun_load {R:KV} {t:TypeId} {x:Operand}:XRun P sz ⟨dst,.load t x,ty,pos,af,gd⟩ T H=Kl H (bl (aload P H t) (ev T x)):=by
 simp only[XRun,WRun,astep]
 cases ev T x with
 | none=>rfl
 | some v=>simp only[bl];cases aload P H t v <;> rfl
@[go_sem ↓] theorem wrun_store {R:KV} {t:TypeId} {x y:Operand}:XRun P sz ⟨dst,.store t x y,ty,pos,af,gd⟩ T H=Ks (b2 (astore P H t) (ev T x) (ev T y)):=by
 simp only[XRun,WRun,astep]
 cases ev T x with
 | none=>rfl
 | some v=>cases ev T y with
  | none=>rfl
  | some u=>simp only[b2];cases astore P H t v u <;> rfl
def anil:Value→Option Value
 | .pointer (some a)=>some (.pointer (some a))
 | .func (.func f) xs zs=>some (.func (.func f) xs zs)
 | _=>none
@[go_sem] theorem anil_ptr {a:Addr}:anil (.pointer (some a))=some (.pointer (some a)):=(rfl)
@[go_sem ↓] theorem wrun_nilCheck {R:KV} {x:Operand}:XRun P sz ⟨dst,.nilCheck x,ty,pos,af,gd⟩ T H=Kv H (b1 anil (ev T x)):=by
 simp only[XRun,WRun,astep]
 cases ev T x with
 | none=>rfl
 | some v=>
  simp only[b1,anil]
  split
  ·rename_i heq;split at heq <;> first|(simp_all;done)|(simp_all [Kv];obtain⟨rfl,rfl,rfl⟩:=heq;rfl)
  ·rename_i heq;split at heq <;> first|(simp_all;done)|(simp_all [Kv])
@[go_sem ↓] theorem wrun_bin {R:KV} {o:BinOp} {t u:TypeId} {x y:Operand}:XRun P sz ⟨dst,.binOp o t x y u,ty,pos,af,gd⟩ T H=Kv H (b2 (abin P o t) (ev T x) (ev T y)):=by
 simp only[XRun,WRun,astep]
 cases ev T x with
 | none=>rfl
 | some v=>cases ev T y with
  | none=>rfl
  | some u=>simp only[b2];cases abin P o t v u <;> rfl
@[go_sem ↓] theorem wrun_un {R:KV} {o:UnOp} {t:TypeId} {x:Operand}:XRun P sz ⟨dst,.unOp o t x,ty,pos,af,gd⟩ T H=Kv H (b1 (aun o) (ev T x)):=by
 simp only[XRun,WRun,astep]
 cases ev T x with
 | none=>rfl
 | some v=>simp only[b1];cases aun o v <;> rfl
/-- What comes of a conversion. -/
def Kt (P:Program) (H:AH) [R:KV] (s d:TypeId) (v:Value):Option Value→Prop
 | some u=>R.go u H ⟨[],some []⟩
 | none=>match astrb P s d v with
  | some (cs,n)=>R.go (sl H.length 0 0 n 1) (H++[⟨cs,0,true⟩]) ⟨[],some []⟩
  | none=>match abstr P H s d v with
   | some (u,bs)=>R.go u H ⟨[],some bs⟩
   | none=>match amark P H s d v with
    | some b=>R.go v H ⟨[b],some [b]⟩
    | none=>False
def Ktb (P:Program) (H:AH) [R:KV] (s d:TypeId):Option Value→Prop
 | some v=>Kt P H s d v (aconv P s d v)
 | none=>False
@[go_sem] theorem kt_some {R:KV} {s d:TypeId} {v u:Value}:Kt P H s d v (some u)=R.go u H ⟨[],some []⟩:=(rfl)
@[go_sem] theorem ktb_some {R:KV} {s d:TypeId} {v:Value}:Ktb P H s d (some v)=Kt P H s d v (aconv P s d v):=(rfl)
@[go_sem ↓] theorem wrun_conv {R:KV} {s d:TypeId} {x:Operand}:XRun P sz ⟨dst,.convert s d x,ty,pos,af,gd⟩ T H=Ktb P H s d (ev T x):=by
 simp only[XRun,WRun,astep]
 cases ev T x with
 | none=>rfl
 | some v=>
  simp only[Ktb]
  cases aconv P s d v with
  | some u=>rfl
  | none=>
   simp only[Kt]
   cases astrb P s d v with
   | some r=>rfl
   | none=>cases abstr P H s d v with
    | some r=>rfl
    | none=>cases amark P H s d v <;> rfl
def afun (fn:Fn):Option (List Value)→Option (List Value)→Option Value
 | some xs,some zs=>some (.func fn xs.toArray zs.toArray)
 | _,_=>none
@[go_sem] theorem afun_some {fn:Fn} {xs zs:List Value}:afun fn (some xs) (some zs)=some (.func fn xs.toArray zs.toArray):=(rfl)
@[go_sem ↓] theorem wrun_makeFunc {R:KV} {fn:Fn} {xs zs:List Operand}:XRun P sz ⟨dst,.makeFunc fn xs.toArray zs.toArray,ty,pos,af,gd⟩ T H=Kv H (afun fn (evs T xs) (evs T zs)):=by
 simp only[XRun,WRun,astep]
 cases evs T xs <;> cases evs T zs <;> rfl
@[go_sem ↓] theorem wrun_make {R:KV} {t:TypeId} {l c:Operand}:XRun P sz ⟨dst,.makeSlice t l c,ty,pos,af,gd⟩ T H=Km H (b2 (amake P t) (ev T l) (ev T c)):=by
 simp only[XRun,WRun,astep]
 cases ev T l with
 | none=>rfl
 | some v=>cases ev T c with
  | none=>rfl
  | some u=>simp only[b2];cases amake P t v u <;> rfl
/-- What comes of a cut. -/
def Kq (P:Program) (H:AH) [R:KV] (t:TypeId) (v:Value) (l h m:Option Value):Option Value→Prop
 | some u=>R.go u H ⟨[],some []⟩
 | none=>if m.isNone=true then Kl H (aslicep P H t v l h) else False
def Kc (P:Program) (H:AH) [R:KV] (t:TypeId):Option Value→Option (Option Value)→Option (Option Value)→Option (Option Value)→Prop
 | some v,some l,some h,some m=>Kq P H t v l h m (aslice P t v l h m)
 | _,_,_,_=>False
@[go_sem] theorem kq_some {R:KV} {t:TypeId} {v u:Value} {l h m:Option Value}:Kq P H t v l h m (some u)=R.go u H ⟨[],some []⟩:=(rfl)
@[go_sem] theorem kc_some {R:KV} {t:TypeId} {v:Value} {l h m:Option Value}:Kc P H t (some v) (some l) (some h) (some m)=Kq P H t v l h m (aslice P t v l h m):=(rfl)
@[go_sem ↓] theorem wrun_slice {R:KV} {t:TypeId} {x:Operand} {lo hi mx:Option Operand}:XRun P sz ⟨dst,.slice t x lo hi mx,ty,pos,af,gd⟩ T H=Kc P H t (ev T x) (evo T lo) (evo T hi) (evo T mx):=by
 simp only[XRun,WRun,astep]
 cases ev T x with
 | none=>rfl
 | some v=>cases evo T lo with
  | none=>rfl
  | some l=>cases evo T hi with
   | none=>rfl
   | some h=>cases evo T mx with
    | none=>rfl
    | some m=>
     simp only[Kc]
     cases aslice P t v l h m with
     | some u=>rfl
     | none=>
      simp only[Kq]
      by_cases hm:m.isNone=true
      ·rw[if_pos hm,if_pos hm]
       cases aslicep P H t v l h <;> rfl
      ·rw[if_neg hm,if_neg hm]
@[go_sem ↓] theorem wrun_fieldAddr {R:KV} {t:TypeId} {x:Operand} {f:Nat}:XRun P sz ⟨dst,.fieldAddr t x f,ty,pos,af,gd⟩ T H=Kv H (b1 (afield P t f) (ev T x)):=by
 simp only[XRun,WRun,astep]
 cases ev T x with
 | none=>rfl
 | some v=>simp only[b1];cases afield P t f v <;> rfl
@[go_sem ↓] theorem wrun_field {R:KV} {t:TypeId} {x:Operand} {f:Nat}:XRun P sz ⟨dst,.field t x f,ty,pos,af,gd⟩ T H=Kv H (b1 (afieldv P t f) (ev T x)):=by
 simp only[XRun,WRun,astep]
 cases ev T x with
 | none=>rfl
 | some v=>simp only[b1];cases afieldv P t f v <;> rfl
@[go_sem ↓] theorem wrun_indexAddr {R:KV} {t:TypeId} {x i:Operand}:XRun P sz ⟨dst,.indexAddr t x i,ty,pos,af,gd⟩ T H=Kv H (b2 (aindex P t) (ev T x) (ev T i)):=by
 simp only[XRun,WRun,astep]
 cases ev T x with
 | none=>rfl
 | some v=>cases ev T i with
  | none=>rfl
  | some u=>simp only[b2];cases aindex P t v u <;> rfl
def aextract (i:Nat):Value→Option Value
 | .tuple vs=>vs.toList[i]?
 | _=>none
@[go_sem] theorem aextract_tuple {i:Nat} {l:List Value}:aextract i (.tuple l.toArray)=l[i]?:=(rfl)
@[go_sem ↓] theorem wrun_extract {R:KV} {x:Operand} {i:Nat}:XRun P sz ⟨dst,.extract x i,ty,pos,af,gd⟩ T H=Kv H (b1 (aextract i) (ev T x)):=by
 simp only[XRun,WRun,astep]
 cases ev T x with
 | none=>rfl
 | some v=>cases v with
  | tuple vs=>simp only[b1,aextract];cases vs.toList[i]? <;> rfl
  | _=>rfl
def bs1 (f:Value→Option Value):Option (List Value)→Option Value
 | some [x]=>f x
 | _=>none
@[go_sem] theorem bs1_some {f:Value→Option Value} {x:Value}:bs1 f (some [x])=f x:=(rfl)
@[go_sem ↓] theorem wrun_len {R:KV} {as:List Operand} {t:TypeId}:XRun P sz ⟨dst,.call ⟨.builtin .len,as.toArray,#[t]⟩,ty,pos,af,gd⟩ T H=Kv H (bs1 (alen P t) (evs T as)):=by
 simp only[XRun,WRun,astep]
 cases evs T as with
 | none=>rfl
 | some l=>match l with
  | []=>rfl
  | [x]=>simp only[bs1];cases alen P t x <;> rfl
  | _::_::_=>rfl
@[go_sem ↓] theorem wrun_cap {R:KV} {as:List Operand} {t:TypeId}:XRun P sz ⟨dst,.call ⟨.builtin .cap,as.toArray,#[t]⟩,ty,pos,af,gd⟩ T H=Kv H (bs1 (acap P t) (evs T as)):=by
 simp only[XRun,WRun,astep]
 cases evs T as with
 | none=>rfl
 | some l=>match l with
  | []=>rfl
  | [x]=>simp only[bs1];cases acap P t x <;> rfl
  | _::_::_=>rfl
theorem acap_nil {t e:TypeId} (h:tslice P t=some e):acap P t (.slice none 0 0)=some (.int .i64 0):=by simp[acap,h]
def bs2 {α:Type} (f:Value→Value→Option α):Option (List Value)→Option α
 | some [x,y]=>f x y
 | _=>none
@[go_sem] theorem bs2_some {α:Type} {f:Value→Value→Option α} {x y:Value}:bs2 f (some [x,y])=f x y:=(rfl)
@[go_sem] theorem aapp2_sl {t t':TypeId} {x:Value} {a:Option Addr} {n e:Nat}:aapp2 P H t t' x (.slice a n e)=aappend P H t t' x (.slice a n e):=(rfl)
theorem azapp_x {t t':TypeId} {a:Addr} {n e:Nat} {y:Value}:azapp P H t t' (.slice (some a) n e) y=none:=by
 cases y with
 | int k m=>cases k <;> rfl
 | _=>rfl
theorem azappB_s {t t':TypeId} {x y:Value} (h:(tslice P t').isSome=true):azappB P H t t' x y=none:=by
 have hk:tkind P t'=none:=by
  unfold tslice at h
  unfold tkind
  split at h
  ·rename_i e he;rw[he]
  ·cases h
 unfold azappB
 split
 ·split
  ·rw[hk]
   split
   ·rename_i e1 e2 h2;cases h2
   ·rfl
  ·rfl
 ·rfl
def apw {α:Type}:Bool→α→α→α
 | true,a,_=>a
 | false,_,b=>b
@[go_sem] theorem apw_f {α:Type} {a b:α}:apw false a b=b:=(rfl)
theorem aappend_s {t t':TypeId} {x y:Value} (h:(tslice P t').isSome=false):aappend P H t t' x y=none:=by
 unfold aappend
 cases hq:tslice P t' with
 | none=>cases tslice P t <;> rfl
 | some e=>rw[hq] at h;cases h
@[go_sem] theorem aapp2_x {t t':TypeId} {a:Addr} {n e:Nat} {y:Value}:aapp2 P H t t' (.slice (some a) n e) y=apw (tslice P t').isSome (aappend P H t t' (.slice (some a) n e) y) (azappB P H t t' (.slice (some a) n e) y):=by
 unfold aapp2;rw[azapp_x]
 cases h:(tslice P t').isSome with
 | true=>simp only[azappB_s h,apw]
 | false=>simp only[aappend_s h,apw];cases azappB P H t t' (.slice (some a) n e) y <;> rfl
theorem azappB_make {t t' e:TypeId} {s by_:Nat} {z cells:List Value} {b g len:Nat} (h1:tslice P t=some e) (h2:tkind P t'=some .i64) (h3:tsz P e=some s) (h4:tby P e=some by_) (h5:tzero P e=some z) (hk:H[b]?=some ⟨cells,g,true⟩) {n:Nat} (hs:0<s) (hz:z.length=s) (hn:0<n) (hb:(len+n)*by_≤140737488355328) (hm:len+n≤140737488355328) (hl:len*s=cells.length) :
  azappB P H t t' (sl b 0 g len s) (.int .i64 (n:Int))=some (sl b 0 (g+1) (len+n) s,H.set b ⟨cells++zrep z n,g+1,true⟩,[b],[b]):=by
 unfold sl
 simp only[azappB,h1,h2,h3,h4,h5,hk]
 rw[if_pos ⟨hs,hz,by omega,by rw[Int.toNat_natCast];exact hb,by rw[Int.toNat_natCast];exact hm,trivial,trivial,trivial,hl⟩,Int.toNat_natCast]
theorem aapp2_make {t t' e:TypeId} {s by_:Nat} {z:List Value} (h1:tslice P t=some e) (h2:tkind P t'=some .i64) (h3:tsz P e=some s) (h4:tby P e=some by_) (h5:tzero P e=some z) {n:Nat} (hs:0<s) (hz:z.length=s) (hn:0<n) (hb:n*by_≤140737488355328) (hm:n≤140737488355328) :
  aapp2 P H t t' (.slice none 0 0) (.int .i64 (n:Int))=some (sl H.length 0 0 n s,H++[⟨zrep z n,0,true⟩],[],[]):=by
 have:azapp P H t t' (.slice none 0 0) (.int .i64 (n:Int))=some (sl H.length 0 0 n s,H++[⟨zrep z n,0,true⟩],[],[]):=by
  simp only[azapp,h1,h2,h3,h4,h5]
  rw[if_pos ⟨hs,hz,by omega,by rw[Int.toNat_natCast];exact hb,by rw[Int.toNat_natCast];exact hm⟩,Int.toNat_natCast]
 unfold aapp2;rw[this]
@[go_sem ↓] theorem wrun_append {R:KV} {as:List Operand} {t t':TypeId}:XRun P sz ⟨dst,.call ⟨.builtin .append,as.toArray,#[t,t']⟩,ty,pos,af,gd⟩ T H=Ka (bs2 (aapp2 P H t t') (evs T as)):=by
 simp only[XRun,WRun,astep]
 cases evs T as with
 | none=>rfl
 | some l=>match l with
  | []=>rfl
  | [x]=>rfl
  | [x,y]=>simp only[bs2];cases aapp2 P H t t' x y <;> rfl
  | _::_::_::_=>rfl
def amins (big:Bool):Option (List Value)→Option Value
 | some (x::r)=>amin big x r
 | _=>none
@[go_sem] theorem amins_some {big:Bool} {x:Value} {r:List Value}:amins big (some (x::r))=amin big x r:=(rfl)
@[go_sem ↓] theorem wrun_min {R:KV} {as:List Operand} {ts:Array TypeId}:XRun P sz ⟨dst,.call ⟨.builtin .min,as.toArray,ts⟩,ty,pos,af,gd⟩ T H=Kv H (amins false (evs T as)):=by
 simp only[XRun,WRun,astep]
 cases evs T as with
 | none=>rfl
 | some l=>match l with
  | []=>rfl
  | x::r=>simp only[amins];cases amin false x r <;> rfl
@[go_sem ↓] theorem wrun_max {R:KV} {as:List Operand} {ts:Array TypeId}:XRun P sz ⟨dst,.call ⟨.builtin .max,as.toArray,ts⟩,ty,pos,af,gd⟩ T H=Kv H (amins true (evs T as)):=by
 simp only[XRun,WRun,astep]
 cases evs T as with
 | none=>rfl
 | some l=>match l with
  | []=>rfl
  | x::r=>simp only[amins];cases amin true x r <;> rfl

/-- What comes of a call of a function's value. -/
def Kf (P:Program) (H:AH) [R:KV]:Option Value→Option (List Value)→Prop
 | some (.func (.func fid) xs zs),some vs=>@XCal P fid (xs.toList++vs++zs.toList) H ⟨fun v H' W=>R.go v H' ⟨W,none⟩⟩
 | _,_=>False
@[go_sem ↓] theorem wrun_call {R:KV} {f:Operand} {as:List Operand} {ts:Array TypeId}:XRun P sz ⟨dst,.call ⟨.value f,as.toArray,ts⟩,ty,pos,af,gd⟩ T H=Kf P H (ev T f) (evs T as):=by
 simp only[XRun,WRun]
 cases ev T f with
 | none=>rfl
 | some v=>cases v with
  | func fn xs zs=>cases fn <;> cases evs T as <;> rfl
  | _=>rfl
@[go_sem] theorem kf_some {R:KV} {fid:FuncId} {xs zs vs:List Value}:Kf P H (some (.func (.func fid) xs.toArray zs.toArray)) (some vs)=@XCal P fid (xs++vs++zs) H ⟨fun v H' W=>R.go v H' ⟨W,none⟩⟩:=(rfl)
end

/-! ### values -/
@[go_sem] theorem ev_tmp (T:Env) (t:Tmp):ev T (.tmp t)=some (T t):=(rfl)
@[go_sem] theorem ev_int (T:Env) (k:IntKind) (n:Int):ev T (.const (.int k n))=some (.int k n):=(rfl)
@[go_sem] theorem ev_bool (T:Env) (b:Bool):ev T (.const (.bool b))=some (.bool b):=(rfl)
@[go_sem] theorem ev_nils (T:Env):ev T (.const (.slice none 0 0))=some (.slice none 0 0):=(rfl)
@[go_sem] theorem ev_func (T:Env) (f:FuncId):ev T (.func f)=some (.func (.func f) #[] #[]):=(rfl)
@[go_sem] theorem evs_nil (T:Env):evs T []=some []:=(rfl)
def ocons:Option Value→Option (List Value)→Option (List Value)
 | some v,some vs=>some (v::vs)
 | _,_=>none
@[go_sem] theorem ocons_some {v:Value} {vs:List Value}:ocons (some v) (some vs)=some (v::vs):=(rfl)
@[go_sem] theorem evs_cons (T:Env) (x:Operand) (xs:List Operand):evs T (x::xs)=ocons (ev T x) (evs T xs):=by
 simp only[evs];cases ev T x <;> cases evs T xs <;> rfl
@[go_sem] theorem evp_nil (T:Env):evp T []=some []:=(rfl)
def pcons (i:Nat):Option Value→Option (List (Nat × Value))→Option (List (Nat × Value))
 | some v,some vs=>some ((i,v)::vs)
 | _,_=>none
@[go_sem] theorem pcons_some {i:Nat} {v:Value} {vs:List (Nat × Value)}:pcons i (some v) (some vs)=some ((i,v)::vs):=(rfl)
@[go_sem] theorem evp_cons (T:Env) (i:Nat) (x:Operand) (xs:List (Nat × Operand)):evp T ((i,x)::xs)=pcons i (ev T x) (evp T xs):=by
 simp only[evp];cases ev T x <;> cases evp T xs <;> rfl
@[go_sem] theorem evo_none (T:Env):evo T none=some none:=(rfl)
@[go_sem] theorem evo_some (T:Env) (x:Operand):evo T (some x)=(ev T x).map some:=(rfl)
@[go_sem ↓] theorem upd_hit (T:Env) (d:Nat) (v:Value):upd T d v d=v:=by simp[upd]
@[go_sem ↓] theorem upd_miss (T:Env) (d t:Nat) (v:Value) (h:(t=d)=False):upd T d v t=T t:=by
 have:¬ t=d:=fun e=>by rw[h] at e;exact e
 simp[upd,this]
@[go_sem] theorem arg0 (x:Value) (xs:List Value):argEnv (x::xs) 0=x:=(rfl)
@[go_sem] theorem argS (x:Value) (xs:List Value) (n:Nat):argEnv (x::xs) (n+1)=argEnv xs n:=(rfl)
@[go_sem] theorem cellsL_int (k:IntKind) (n:Int):cellsL (.int k n)=some [.int k n]:=(rfl)
@[go_sem] theorem cellsL_bool (b:Bool):cellsL (.bool b)=some [.bool b]:=(rfl)
@[go_sem] theorem cellsL_ptr (a:Option Addr):cellsL (.pointer a)=some [.pointer a]:=(rfl)
@[go_sem] theorem cellsL_slice (a:Option Addr) (l c:Nat):cellsL (.slice a l c)=some [.slice a l c]:=(rfl)
@[go_sem] theorem cellsL_agg (l:List Value):cellsL (.agg l.toArray)=some l:=(rfl)

/-! ### operators -/
section
variable {P:Program} {t:TypeId} {k yk:IntKind} {a b:Int}
@[go_sem] theorem abin_add:abin P .add t (.int k a) (.int k b)=some (.int k (k.wrap (a+b))):=by simp[abin,aint]
@[go_sem] theorem abin_sub:abin P .sub t (.int k a) (.int k b)=some (.int k (k.wrap (a - b))):=by simp[abin,aint]
@[go_sem] theorem abin_mul:abin P .mul t (.int k a) (.int k b)=some (.int k (k.wrap (a*b))):=by simp[abin,aint]
@[go_sem] theorem abin_rem (h:(b=0)=False):abin P .rem t (.int k a) (.int k b)=some (.int k (a.tmod b)):=by
 have:b≠0:=fun e=>by rw[h] at e;exact e
 simp[abin,aint,this]
@[go_sem] theorem abin_eql:abin P .eql t (.int k a) (.int k b)=some (.bool (a==b)):=by simp[abin,aint]
@[go_sem] theorem abin_neq:abin P .neq t (.int k a) (.int k b)=some (.bool (a != b)):=by simp[abin,aint]
@[go_sem] theorem abin_lss:abin P .lss t (.int k a) (.int k b)=some (.bool (decide (a<b))):=by simp[abin,aint]
@[go_sem] theorem abin_leq:abin P .leq t (.int k a) (.int k b)=some (.bool (decide (a≤b))):=by simp[abin,aint]
@[go_sem] theorem abin_gtr:abin P .gtr t (.int k a) (.int k b)=some (.bool (decide (b<a))):=by simp[abin,aint]
@[go_sem] theorem abin_geq:abin P .geq t (.int k a) (.int k b)=some (.bool (decide (b≤a))):=by simp[abin,aint]
@[go_sem] theorem abin_eqlb {x y:Bool} (h:tbool P t=true):abin P .eql t (.bool x) (.bool y)=some (.bool (x==y)):=by simp[abin,h]
@[go_sem] theorem aun_not {b:Bool}:aun .not (.bool b)=some (.bool !b):=(rfl)
end

/-! ### ends -/
/-- A function's end. -/
def WFin (P:Program) (rs:List ResultVar) [K:KX]:WPost:=fun o T H D=>match o with
 | .exit _=>False
 | _=>match aresL P T H rs with
  | some vs=>K.go (one1 vs) H D
  | none=>False
def Ke [K:KX] (H:AH) (D:List Nat):Option (List Value)→Prop
 | some vs=>K.go (one1 vs) H D
 | none=>False
section
variable {P:Program} {T:Env} {H:AH} {D:List Nat}
@[go_sem] theorem ke_one {K:KX} {v:Value}:Ke H D (some [v])=K.go v H D:=(rfl)
@[go_sem] theorem ke_two {K:KX} {v u:Value} {vs:List Value}:Ke H D (some (v::u::vs))=K.go (.tuple (v::u::vs).toArray) H D:=(rfl)
@[go_sem ↓] theorem wfin_ret {K:KX} {rs:List ResultVar}:WFin P rs .ret T H D=Ke H D (aresL P T H rs):=by
 simp only[WFin];cases aresL P T H rs <;> rfl
@[go_sem] theorem aresL_nil:aresL P T H []=some []:=(rfl)
@[go_sem] theorem aresL_cons {r:ResultVar} {rs:List ResultVar}:aresL P T H (r::rs)=ocons (ares1 P T H r) (aresL P T H rs):=by
 simp only[aresL];cases ares1 P T H r <;> cases aresL P T H rs <;> rfl
@[go_sem] theorem ares1_tmp {t:Tmp}:ares1 P T H (.tmp t)=some (T t):=(rfl)
def fst1:Option (Value × Nat)→Option Value
 | some (v,_)=>some v
 | none=>none
@[go_sem] theorem fst1_some {v:Value} {b:Nat}:fst1 (some (v,b))=some v:=(rfl)
@[go_sem] theorem ares1_cell {a:Tmp} {t:TypeId}:ares1 P T H (.cell a t)=fst1 (aload P H t (T a)):=by
 simp only[ares1];cases aload P H t (T a) <;> rfl
end

theorem XCal.of {P:Program} (hm:P.follows .mixedOrders=true) {f:FuncId} {fn:Func} {c:Code} {args:List Value} {H:AH} {K:KX} {sz:Nat} {rs:List ResultVar}
  (hf:P.funcs[f]?=some fn) (hb:fn.body=some c) (hc:∀ (xs:Array Value) (w:World),(callFunc f xs).run P w=.ok (.enter f xs) w) (hn:fn.ntmps=sz) (hr:fn.results=rs.toArray) (hsz:decide (args.length≤sz)=true)
  (h:@XCode P sz H.length c (argEnv args) H [] ⟨WFin P rs⟩):XCal P f args H:=by
 subst hn
 refine Cal.of hm hf hb hc (by simpa using hsz) ?_
 have h':WCode P fn.ntmps H.length c (argEnv args) H [] (WFin P rs):=h
 rw[hr]
 have e:(WFin P rs:WPost)=fun o T' H' D'=>(match o with | .exit _=>False|_=>True)∧match aresL P T' H' rs.toArray.toList with
   | some vs=>K.go (one1 vs) H' D'
   | none=>False:=by
  funext o T' H' D'
  cases o <;> simp[WFin]
 rw[e] at h'
 exact h'

theorem SemCall.x {P:Program} {f:FuncId} {args:List Value} {H H':AH} {v:Value} {W:List Nat} (h:SemCall P f args H v H' W) {Q:KX} (q:Q.go v H' W):XCal P f args H:=⟨v,H',W,h,q⟩

/-- A function that only reckons. -/
theorem pure_of {P:Program} {f:FuncId} {args:List Value} {H:AH} {v:Value} (h:@XCal P f args H ⟨fun v' _ W'=>v'=v∧W'=[]⟩) (hv:renR H.length [] v=some v):SemCall P f args H v H []:=Cal.pure h hv

/-! ### blocks -/
attribute [go_sem] List.filter_nil List.append_nil List.nil_append List.filter_cons List.cons_append List.getElem?_cons_zero List.getElem?_cons_succ List.set_cons_zero List.set_cons_succ List.length_cons List.length_nil
attribute [go_sem] hget_app hget_app0 hset_app hset_app0 happ_app lt_add lt_self

end Go.Proofs.YthhbglkokpablaaGreat.E
/- Evaluation of memory: loads, stores, places, aggregates, appends. -/
set_option linter.unusedVariables false
set_option linter.unusedSimpArgs false
namespace Go.Proofs.YthhbglkokpablaaGreat.E
open Go Go.RowKit

/-! ### loads and stores -/
def ald (a:Option Bool) (s:Option Nat) (k:Option Blk) (b off g:Nat):Option (Value × Nat):=
 match k,a,s with
 | some k,some true,some s=>if g=k.gen∧off+s≤k.cells.length then some (.agg ((k.cells.drop off).take s).toArray,b) else none
 | some k,some false,some _=>if g=k.gen then (k.cells[off]?).map (·,b) else none
 | _,_,_=>none
def pairb (b:Nat):Option Value→Option (Value × Nat)
 | some v=>some (v,b)
 | none=>none
@[go_sem] theorem pairb_some {b:Nat} {v:Value}:pairb b (some v)=some (v,b):=(rfl)
@[go_sem] theorem aload_ptr {P:Program} {H:AH} {t:TypeId} {b off g:Nat}:aload P H t (.pointer (some ⟨b,off,some g⟩))=ald (tagg P t) (tsz P t) H[b]? b off g:=(rfl)
@[go_sem] theorem ald_s {s:Nat} {cs:List Value} {b off g:Nat} {rw_:Bool}:ald (some false) (some s) (some ⟨cs,g,rw_⟩) b off g=pairb b cs[off]?:=by
 simp only[ald,if_true];cases cs[off]? <;> rfl
@[go_sem] theorem ald_a {s:Nat} {cs:List Value} {b off g:Nat} {rw_:Bool} (h:off+s - cs.length=0):ald (some true) (some s) (some ⟨cs,g,rw_⟩) b off g=some (.agg ((cs.drop off).take s).toArray,b):=by
 have:off+s≤cs.length:=by omega
 simp[ald,this]
def ast (H:AH) (k:Option Blk) (cs:Option (List Value)) (s:Option Nat) (b off g:Nat):Option (AH × Nat):=
 match k,cs,s with
 | some k,some cs,some s=>if k.rw=true∧g=k.gen∧cs.length=s∧off+s≤k.cells.length then some (H.set b ⟨splice k.cells off cs,k.gen,true⟩,b) else none
 | _,_,_=>none
@[go_sem] theorem astore_ptr {P:Program} {H:AH} {t:TypeId} {b off g:Nat} {v:Value}:astore P H t (.pointer (some ⟨b,off,some g⟩)) v=ast H H[b]? (cellsL v) (tsz P t) b off g:=(rfl)
@[go_sem] theorem ast_some {H:AH} {cells cs:List Value} {s b off g:Nat} (h1:cs.length=s) (h2:off+s - cells.length=0):ast H (some ⟨cells,g,true⟩) (some cs) (some s) b off g=some (H.set b ⟨splice cells off cs,g,true⟩,b):=by
 have:off+s≤cells.length:=by omega
 simp[ast,h1,this]
@[go_sem] theorem splice_def (l:List Value) (off:Nat) (cs:List Value):splice l off cs=l.take off++cs++l.drop (off+cs.length):=(rfl)
attribute [go_sem] List.drop_succ_cons List.drop_zero List.take_succ_cons List.take_zero List.drop_nil List.take_nil

/-! ### places -/
def tfo (P:Program) (t:TypeId) (f:Nat):Option Nat:=
 match tfld P t f with
 | some (o,u)=>match tsz P u with
  | some s=>if s≠0 then some o else none
  | none=>none
 | none=>none
def afl (b off g:Nat):Option Nat→Option Value
 | some o=>some (ap b (off+o) g)
 | none=>none
@[go_sem] theorem afl_some {b off g o:Nat}:afl b off g (some o)=some (ap b (off+o) g):=(rfl)
@[go_sem] theorem afield_ptr {P:Program} {t:TypeId} {f b off g:Nat}:afield P t f (.pointer (some ⟨b,off,some g⟩))=afl b off g (tfo P t f):=by
 simp only[afield,tfo]
 cases tfld P t f with
 | none=>rfl
 | some x=>
  obtain⟨o,u⟩:=x
  simp only
  cases tsz P u with
  | none=>rfl
  | some s=>simp only;split <;> rfl
/-- The size of an array's or a slice's elements, an array's length. -/
def tse (P:Program) (t:TypeId):Option Nat:=match tslice P t with
 | some e=>tsz P e
 | none=>none
def tae (P:Program) (t:TypeId):Option (Nat × Nat):=match tarr P t with
 | some (n,e)=>(tsz P e).map (n,·)
 | none=>none
def aix (b off g len:Nat) (n:Int):Option Nat→Option Value
 | some s=>if 0≤n∧n<(len:Int) then some (ap b (off+n.toNat*s) g) else none
 | none=>none
def aixa (b off g:Nat) (n:Int):Option (Nat × Nat)→Option Value
 | some (len,s)=>if 0≤n∧n<(len:Int) then some (ap b (off+n.toNat*s) g) else none
 | none=>none
@[go_sem] theorem aindex_sl {P:Program} {t:TypeId} {b off g len e:Nat} {k:IntKind} {n:Int}:aindex P t (.slice (some ⟨b,off,some g⟩) len e) (.int k n)=aix b off g len n (tse P t):=by
 simp only[aindex,tse]
 cases tslice P t with
 | none=>rfl
 | some e=>simp only;cases tsz P e <;> rfl
@[go_sem] theorem aix_some {b off g len s:Nat} {n:Int} (h0:0≤n) (h1:n<(len:Int)):aix b off g len n (some s)=some (ap b (off+n.toNat*s) g):=by simp[aix,h0,h1]
/-! ### aggregates -/
def fil (place:Nat→Option (Nat × Nat)) (rest:List (Nat × Value)) (cells:List Value):Option (Nat × Nat)→Option (List Value)→Option (List Value)
 | some (off,size),some cs=>if cs.length=size∧off+size≤cells.length then fillL place (splice cells off cs) rest else none
 | _,_=>none
@[go_sem] theorem fillL_nil {place:Nat→Option (Nat × Nat)} {cells:List Value}:fillL place cells []=some cells:=(rfl)
@[go_sem] theorem fillL_cons {place:Nat→Option (Nat × Nat)} {cells:List Value} {i:Nat} {v:Value} {rest:List (Nat × Value)}:fillL place cells ((i,v)::rest)=fil place rest cells (place i) (cellsL v):=by
 simp only[fillL]
 cases place i with
 | none=>rfl
 | some x=>cases cellsL v <;> rfl
@[go_sem] theorem fil_some {place:Nat→Option (Nat × Nat)} {rest:List (Nat × Value)} {cells cs:List Value} {off size:Nat} (h1:cs.length=size) (h2:off+size - cells.length=0):fil place rest cells (some (off,size)) (some cs)=fillL place (splice cells off cs) rest:=by
 have:off+size≤cells.length:=by omega
 simp[fil,h1,this]
def toAgg:Option (List Value)→Option Value
 | some l=>some (.agg l.toArray)
 | none=>none
@[go_sem] theorem toAgg_some {l:List Value}:toAgg (some l)=some (.agg l.toArray):=(rfl)
/-- How an aggregate's parts lie: a struct's, or (with the elements' size) an array's. -/
inductive Lay where
 | str (z:List Value)
 | arr (z:List Value) (s:Nat)
def tlay (P:Program) (t:TypeId):Option Lay:=
 match tzero P t with
 | some z=>match tarr P t with
  | some (_,e)=>(tsz P e).map (.arr z)
  | none=>if tsized P t=true then some (.str z) else none
 | none=>none
def arrp (s i:Nat):Option (Nat × Nat):=some (i*s,s)
@[go_sem] theorem arrp_def (s i:Nat):arrp s i=some (i*s,s):=(rfl)
def abl (P:Program) (t:TypeId) (vs:List (Nat × Value)):Option Lay→Option Value
 | some (.str z)=>toAgg (fillL (tplaces P t) z vs)
 | some (.arr z s)=>toAgg (fillL (arrp s) z vs)
 | none=>none
@[go_sem] theorem abl_str {P:Program} {t:TypeId} {vs:List (Nat × Value)} {z:List Value}:abl P t vs (some (.str z))=toAgg (fillL (tplaces P t) z vs):=(rfl)
@[go_sem] theorem abl_arr {P:Program} {t:TypeId} {vs:List (Nat × Value)} {z:List Value} {s:Nat}:abl P t vs (some (.arr z s))=toAgg (fillL (arrp s) z vs):=(rfl)
@[go_sem] theorem abuild_lay {P:Program} {t:TypeId} {vs:List (Nat × Value)}:abuild P t vs=abl P t vs (tlay P t):=by
 simp only[abuild,tlay]
 cases tzero P t with
 | none=>rfl
 | some z=>
  simp only
  cases tarr P t with
  | none=>simp only;split <;> first|rfl|(simp only[abl];cases fillL (tplaces P t) z vs <;> rfl)
  | some x=>
   obtain⟨n,e⟩:=x
   simp only
   cases tsz P e with
   | none=>rfl
   | some s=>
    simp only[Option.map_some,abl]
    have:arrp s=fun i=>some (i*s,s):=rfl
    rw[this]
    cases fillL (fun i=>some (i*s,s)) z vs <;> rfl
def tlit (P:Program) (t:TypeId):Option (List Value × Nat):=match tslice P t with
 | some e=>match tsz P e,tzero P e with
  | some s,some z=>if z.length=s∧s≠0 then some (z,s) else none
  | _,_=>none
 | none=>none
def withS (s:Nat):Option (List Value)→Option (List Value × Nat)
 | some l=>some (l,s)
 | none=>none
@[go_sem] theorem withS_some {s:Nat} {l:List Value}:withS s (some l)=some (l,s):=(rfl)
def abs_ (len:Nat) (vs:List (Nat × Value)):Option (List Value × Nat)→Option (List Value × Nat)
 | some (z,s)=>if len*s≤16777216 then withS s (fillL (arrp s) (zrep z len) vs) else none
 | none=>none
@[go_sem] theorem abs_some {len s:Nat} {vs:List (Nat × Value)} {z:List Value} (h:len*s - 16777216=0):abs_ len vs (some (z,s))=withS s (fillL (arrp s) (zrep z len) vs):=by
 have:len*s≤16777216:=by omega
 simp[abs_,this]
@[go_sem] theorem abuildSlice_lit {P:Program} {t:TypeId} {len:Nat} {vs:List (Nat × Value)}:abuildSlice P t len vs=abs_ len vs (tlit P t):=by
 simp only[abuildSlice,tlit]
 cases tslice P t with
 | none=>rfl
 | some e=>
  simp only
  cases tsz P e with
  | none=>rfl
  | some s=>cases tzero P e with
   | none=>rfl
   | some z=>
    simp only
    by_cases h1:z.length=s∧s≠0
    ·rw[if_pos h1]
     simp only[abs_]
     by_cases h2:len*s≤16777216
     ·rw[if_pos ⟨h1.1,h1.2,h2⟩,if_pos h2]
      have:arrp s=fun i=>some (i*s,s):=rfl
      rw[this]
      cases fillL (fun i=>some (i*s,s)) (zrep z len) vs <;> rfl
     ·rw[if_neg (fun h=>h2 h.2.2),if_neg h2]
    ·rw[if_neg (fun h=>h1 ⟨h.1,h.2.1⟩),if_neg h1];rfl
@[go_sem] theorem zrep_zero (z:List Value):zrep z 0=[]:=(rfl)
@[go_sem] theorem zrep_succ (z:List Value) (n:Nat):zrep z (n+1)=z++zrep z n:=by simp[zrep,List.replicate_succ]

/-! ### lengths, conversions -/
@[go_sem] theorem alen_sl {P:Program} {t:TypeId} {a:Option Addr} {n e:Nat} (h:(tslice P t).isSome=true):alen P t (.slice a n e)=some (.int .i64 n):=by
 simp only[alen]
 cases ht:tslice P t with
 | none=>rw[ht] at h;cases h
 | some e=>rfl
def acv (n:Int):Option IntKind→Option Value
 | some k=>some (.int k (k.wrap n))
 | none=>none
@[go_sem] theorem acv_some {n:Int} {k:IntKind}:acv n (some k)=some (.int k (k.wrap n)):=(rfl)
@[go_sem] theorem aconv_int {P:Program} {s d:TypeId} {k:IntKind} {n:Int} (h:(P.underlying s).isSome=true):aconv P s d (.int k n)=acv n (tkind P d):=by
 simp only[aconv]
 cases tkind P d <;> simp[acv,h]
@[go_sem] theorem amin_nil {big:Bool} {k:IntKind} {x:Int}:amin big (.int k x) []=some (.int k x):=(rfl)
@[go_sem] theorem amin_cons {k k':IntKind} {x y:Int} {r:List Value}:amin false (.int k x) (.int k' y::r)=amin false (.int k (if y<x then y else x)) r:=(rfl)
@[go_sem] theorem amax_cons {k k':IntKind} {x y:Int} {r:List Value}:amin true (.int k x) (.int k' y::r)=amin true (.int k (if x<y then y else x)) r:=(rfl)
@[go_sem] theorem isSome_s {α:Type} (x:α):(some x).isSome=true:=(rfl)

/-! ### equality of aggregates -/
def teq (P:Program) (t:TypeId):Option (List Lf):=if P.eqGuardType P.depth t=false∧tagg P t=some true then flatTy P 16 t else none
def aeq (neg:Bool) (xs ys:List Value):Option (List Lf)→Option Value
 | some ks=>match eqc ks xs ys with
  | some b=>some (.bool (if neg then !b else b))
  | none=>none
 | none=>none
@[go_sem] theorem abin_eqla {P:Program} {t:TypeId} {xs ys:List Value}:abin P .eql t (.agg xs.toArray) (.agg ys.toArray)=aeq false xs ys (teq P t):=by
 simp only[abin,teq]
 split
 ·cases flatTy P 16 t with
  | none=>rfl
  | some ks=>simp only[aeq];cases eqc ks xs ys <;> rfl
 ·rfl
@[go_sem] theorem abin_neqa {P:Program} {t:TypeId} {xs ys:List Value}:abin P .neq t (.agg xs.toArray) (.agg ys.toArray)=aeq true xs ys (teq P t):=by
 simp only[abin,teq]
 split
 ·cases flatTy P 16 t with
  | none=>rfl
  | some ks=>simp only[aeq];cases eqc ks xs ys <;> rfl
 ·rfl
def obool (neg:Bool):Option Bool→Option Value
 | some b=>some (.bool (if neg then !b else b))
 | none=>none
@[go_sem] theorem obool_f {b:Bool}:obool false (some b)=some (.bool b):=(rfl)
@[go_sem] theorem obool_t {b:Bool}:obool true (some b)=some (.bool (!b)):=(rfl)
@[go_sem] theorem aeq_some {neg:Bool} {xs ys:List Value} {ks:List Lf}:aeq neg xs ys (some ks)=obool neg (eqc ks xs ys):=by
 simp only[aeq];cases eqc ks xs ys <;> rfl
def oand:Option Bool→Option Bool→Option Bool
 | some a,some b=>some (a&&b)
 | _,_=>none
@[go_sem] theorem oand_some {a b:Bool}:oand (some a) (some b)=some (a&&b):=(rfl)
@[go_sem] theorem eqc_nil:eqc [] [] []=some true:=(rfl)
@[go_sem] theorem eqc_cons {l:Lf} {ls:List Lf} {x y:Value} {xs ys:List Value}:eqc (l::ls) (x::xs) (y::ys)=oand (eq1 l x y) (eqc ls xs ys):=by
 simp only[eqc];cases eq1 l x y <;> cases eqc ls xs ys <;> rfl
@[go_sem] theorem eq1_int {k:IntKind} {a b:Int}:eq1 .i (.int k a) (.int k b)=some (a==b):=by simp[eq1]
/-! ### appends -/
def tapp (P:Program) (t:TypeId):Option (Nat × Nat):=match tslice P t with
 | some e=>match tsz P e,tby P e,tzero P e with
  | some s,some by_,some z=>if 0<s∧z.length=s∧by_≤1073741824 then some (s,by_) else none
  | _,_,_=>none
 | none=>none
def apy (H:AH) (x:Value) (s by_:Nat):Option (List Value × Nat × List Nat)→Option (Value × AH × List Nat × List Nat)
 | some (cs,n,bs)=>match x with
  | .slice none 0 0=>if n=0 then some (.slice none 0 0,H,[],bs) else
    if n*by_≤140737488355328∧n≤140737488355328 then some (sl H.length 0 0 n s,H++[⟨cs,0,true⟩],[],bs) else none
  | .slice (some ⟨_,_,none⟩) 0 _=>if n=0 then some (x,H,[],bs) else
    if n*by_≤140737488355328∧n≤140737488355328 then some (sl H.length 0 0 n s,H++[⟨cs,0,true⟩],[],bs) else none
  | .slice (some ⟨b,0,some g⟩) len e0=>
   match H[b]? with
   | some k=>
    if e0=s∧g=k.gen∧k.rw=true∧len*s=k.cells.length then
     if n=0 then some (x,H,[],b::bs) else
     if (len+n)*by_≤140737488355328∧len+n≤140737488355328 then some (sl b 0 (g+1) (len+n) s,H.set b ⟨k.cells++cs,g+1,true⟩,[b],b::bs) else none
    else if e0=s∧g=k.gen∧k.rw=true∧len=0∧b∉bs then
     if n=0 then some (x,H,[],b::bs) else
     if n*by_≤140737488355328∧n≤140737488355328 then some (sl b 0 (g+1) n s,H.set b ⟨cs,g+1,true⟩,[b],b::bs) else none
    else none
   | none=>none
  | _=>none
 | none=>none
def apx (H:AH) (x y:Value):Option (Nat × Nat)→Bool→Option (Value × AH × List Nat × List Nat)
 | some (s,by_),true=>apy H x s by_ (asrc H s y)
 | _,_=>none
@[go_sem] theorem apx_some {H:AH} {x y:Value} {s by_:Nat}:apx H x y (some (s,by_)) true=apy H x s by_ (asrc H s y):=(rfl)
@[go_sem] theorem aappend_x {P:Program} {H:AH} {t t':TypeId} {x y:Value}:aappend P H t t' x y=apx H x y (tapp P t) (tslice P t').isSome:=by
 simp only[aappend,tapp]
 cases tslice P t with
 | none=>cases tslice P t' <;> rfl
 | some e=>
  cases tslice P t' with
  | none=>simp only;cases tsz P e <;> cases tby P e <;> cases tzero P e <;> simp only[Option.isSome] <;> (try split) <;> rfl
  | some e'=>
   simp only
   cases tsz P e with
   | none=>rfl
   | some s=>cases tby P e with
    | none=>rfl
    | some by_=>cases tzero P e with
     | none=>rfl
     | some z=>
      simp only
      by_cases hc:0<s∧z.length=s∧by_≤1073741824
      ·rw[if_pos hc]
       simp only[Option.isSome,apx]
       cases asrc H s y with
       | none=>rfl
       | some r=>
        obtain⟨cs,n,bs⟩:=r
        simp only[apy,if_pos hc]
        cases x with
        | slice a l e0=>
         cases a with
         | none=>cases l with
          | zero=>cases e0 <;> rfl
          | succ l=>rfl
         | some a=>
          obtain⟨b,off,g⟩:=a
          cases g with
          | none=>cases l <;> rfl
          | some g=>cases off <;> rfl
        | _=>rfl
      ·rw[if_neg hc]
       cases asrc H s y with
       | none=>rfl
       | some r=>obtain⟨cs,n,bs⟩:=r;simp only[if_neg hc];rfl
@[go_sem] theorem apy_nil {H:AH} {s by_ n:Nat} {cs:List Value} {bs:List Nat} (h0:(n=0)=False) (h1:n*by_ - 140737488355328=0) (h2:n - 140737488355328=0) :
  apy H (.slice none 0 0) s by_ (some (cs,n,bs))=some (sl H.length 0 0 n s,H++[⟨cs,0,true⟩],[],bs):=by
 have:¬ n=0:=fun e=>by rw[h0] at e;exact e
 have h3:n*by_≤140737488355328∧n≤140737488355328:=by omega
 simp[apy,this,h3]
@[go_sem] theorem apy_nil0 {H:AH} {s by_:Nat} {cs:List Value} {bs:List Nat}:apy H (.slice none 0 0) s by_ (some (cs,0,bs))=some (.slice none 0 0,H,[],bs):=(rfl)
def asy (s b off g n:Nat):Option Blk→Option (List Value × Nat × List Nat)
 | some k=>if n=0 then some ([],0,[]) else if g=k.gen∧off+n*s≤k.cells.length then some ((k.cells.drop off).take (n*s),n,[b]) else none
 | none=>if n=0 then some ([],0,[]) else none
@[go_sem] theorem asrc_nil {H:AH} {s:Nat}:asrc H s (.slice none 0 0)=some ([],0,[]):=(rfl)
@[go_sem] theorem asrc_sl {H:AH} {s b off g n:Nat}:asrc H s (.slice (some ⟨b,off,some g⟩) n s)=asy s b off g n H[b]?:=by
 simp only[asrc,if_true,asy]
 cases H[b]? <;> rfl
@[go_sem] theorem asy_some {s b off g n:Nat} {cells:List Value} {rw_:Bool} (h0:(n=0)=False) (h1:off+n*s - cells.length=0):asy s b off g n (some ⟨cells,g,rw_⟩)=some ((cells.drop off).take (n*s),n,[b]):=by
 have:¬ n=0:=fun e=>by rw[h0] at e;exact e
 have h3:off+n*s≤cells.length:=by omega
 simp[asy,this,h3]
@[go_sem] theorem asy_zero {s b off g:Nat} {k:Option Blk}:asy s b off g 0 k=some ([],0,[]):=by cases k <;> rfl

/-! ### drawn regions -/
def isW:Op→Bool
 | .store ..=>true
 | .call ⟨.builtin .append,_,_⟩=>true
 | _=>false
/-- No call of a region writes what was there. -/
def quietL:List Oper→List Foot→Prop
 | o::os,F::Fs=>(isW o.op=true∨F.w=[])∧quietL os Fs
 | _,_=>True
/-- What writes has an order with all others; what only reckons has none to keep. -/
def isP:Op→Bool
 | .move _ | .assign _ | .pick .. | .alloc _ | .box .. | .build .. | .buildSlice .. | .nilCheck _ | .binOp .. | .unOp .. | .convert .. | .makeFunc .. | .makeSlice .. | .fieldAddr .. | .field .. | .indexAddr .. | .index .. | .extract ..=>true
 | .call ⟨.builtin .len,_,_⟩ | .call ⟨.builtin .min,_,_⟩ | .call ⟨.builtin .max,_,_⟩=>true
 | _=>false

end Go.Proofs.YthhbglkokpablaaGreat.E
/- Loops in the machine, and regions whose order is drawn but makes no difference. -/
set_option linter.unusedVariables false
set_option linter.unusedSimpArgs false
namespace Go.Proofs.YthhbglkokpablaaGreat.E
open Go Go.RowKit

theorem WRun.mono {P:Program} {sz:Nat} {o:Oper} {T:Env} {H:AH} {K K':Value→AH→Foot→Prop} (h:WRun P sz o T H K) (q:∀ v H' F,K v H' F→K' v H' F):WRun P sz o T H K':=by
 unfold WRun at h ⊢
 split at h
 ·split at h
  ·exact Cal.mono h fun v H' W k=>q _ _ _ k
  ·exact h
 ·split at h
  ·exact q _ _ _ h
  ·exact h
theorem WOps.mono {P:Program} {sz n0:Nat} {ops:Array Oper} {K K':Env→AH→List Nat→List Foot→Prop} (q:∀ T H D Fs,K T H D Fs→K' T H D Fs) :
  ∀ {l:List Oper} {T:Env} {H:AH} {D:List Nat} {Fs:List Foot},WOps P sz n0 ops l T H D Fs K→WOps P sz n0 ops l T H D Fs K'
 | [],_,_,_,_,h=>q _ _ _ _ h
 | o::rest,T,H,D,Fs,h=>by
  simp only[WOps] at h ⊢
  refine⟨h.1,?_⟩
  have h2:=h.2
  split at h2
  ·exact⟨fun g=>(h2.1 g).mono fun v H' F k=>WOps.mono q k,fun g=>WOps.mono q (h2.2 g)⟩
  ·exact h2

theorem WLoop.mono {B:WT} (hB:∀ (T:Env) (H:AH) (D:List Nat) (Q Q':WPost),B T H D Q→(∀ o T H D,Q o T H D→Q' o T H D)→B T H D Q') {Q Q':WPost} (q:∀ o T H D,Q o T H D→Q' o T H D) :
  ∀ {n:Nat} {T:Env} {H:AH} {D:List Nat},WLoop B n T H D Q→WLoop B n T H D Q'
 | 0,_,_,_,h=>h
 | n+1,T,H,D,h=>by
  simp only[WLoop] at h ⊢
  refine hB _ _ _ _ _ h fun o T H D k=>?_
  cases o with
  | norm=>exact WLoop.mono hB q k
  | ret=>exact q _ _ _ _ k
  | exit i=>exact q _ _ _ _ k

theorem WCode.mono {P:Program} {sz n0:Nat}:∀ {c:Code} {T:Env} {H:AH} {D:List Nat} {Q Q':WPost},WCode P sz n0 c T H D Q→(∀ o T H D,Q o T H D→Q' o T H D)→WCode P sz n0 c T H D Q':=by
 intro c
 induction c with
 | skip=>intro T H D Q Q' h q;exact q _ _ _ _ h
 | region id ops dr=>
  intro T H D Q Q' h q
  cases dr with
  | false=>simp only[WCode] at h ⊢;exact WOps.mono (fun T H D Fs k=>q _ _ _ _ k) h
  | true=>simp only[WCode] at h ⊢;exact⟨h.1,WOps.mono (fun T H D Fs k=>⟨k.1,q _ _ _ _ k.2⟩) h.2⟩
 | seq a b iha ihb=>
  intro T H D Q Q' h q
  simp only[WCode] at h ⊢
  refine iha h fun o T H D k=>?_
  cases o with
  | norm=>exact ihb k q
  | ret=>exact q _ _ _ _ k
  | exit i=>exact q _ _ _ _ k
 | cond c a b iha ihb=>
  intro T H D Q Q' h q
  simp only[WCode] at h ⊢
  split at h
  ·exact⟨fun t=>iha (h.1 t) q,fun t=>ihb (h.2 t) q⟩
  ·exact h
 | block id c ih=>
  intro T H D Q Q' h q
  simp only[WCode] at h ⊢
  refine ih h fun o T H D k=>?_
  cases o with
  | norm=>exact q _ _ _ _ k
  | ret=>exact q _ _ _ _ k
  | exit i=>
   simp only[WBlk] at k ⊢
   split at k
   ·rename_i e;rw[if_pos e];exact q _ _ _ _ k
   ·rename_i e;rw[if_neg e];exact q _ _ _ _ k
 | loop c ih=>
  intro T H D Q Q' h q
  simp only[WCode] at h ⊢
  obtain⟨n,h⟩:=h
  exact⟨n,WLoop.mono (B:=fun T H D Q=>WCode P sz n0 c T H D Q) (fun T H D Q Q' k q=>ih k q) q h⟩
 | exit id=>intro T H D Q Q' h q;exact q _ _ _ _ h
 | ret=>intro T H D Q Q' h q;exact q _ _ _ _ h
 | _=>intro T H D Q Q' h q;exact h.elim

section
variable {P:Program} {sz n0:Nat} {T:Env} {H:AH} {D:List Nat}
/-- So many rounds of a loop. -/
def XLoop (P:Program) (sz n0:Nat) (c:Code) (n:Nat) (T:Env) (H:AH) (D:List Nat) [Q:KC]:Prop:=WLoop (fun T H D Q=>WCode P sz n0 c T H D Q) n T H D Q.go
def WLp (P:Program) (sz n0:Nat) (c:Code) (n:Nat) (q:WPost):WPost:=fun o T H D=>match o with
 | .norm=>@XLoop P sz n0 c n T H D ⟨q⟩
 | o=>q o T H D
theorem rounds {Q:KC} {c:Code} (n:Nat) (h:XLoop P sz n0 c n T H D):XCode P sz n0 (.loop c) T H D:=⟨n,h⟩
@[go_sem ↓] theorem xloop_succ {Q:KC} {c:Code} {n:Nat}:XLoop P sz n0 c (n+1) T H D=@XCode P sz n0 c T H D ⟨WLp P sz n0 c n Q.go⟩:=by
 simp only[XLoop,XCode,WLoop]
 refine propext ⟨fun h=>WCode.mono h fun o T H D k=>?_,fun h=>WCode.mono h fun o T H D k=>?_⟩ <;> cases o <;> exact k
@[go_sem ↓] theorem wlp_exit {q:WPost} {c:Code} {n i:Nat}:WLp P sz n0 c n q (.exit i) T H D=q (.exit i) T H D:=(rfl)

/-- What holds at a loop's head, so many rounds ahead of its end. -/
def WInv (I:Nat→Env→AH→List Nat→Prop) (k:Nat) (q:WPost):WPost:=fun o T H D=>match o with
 | .norm=>∃ j,j<k∧I j T H D
 | o=>q o T H D
@[go_sem ↓] theorem winv_norm {I:Nat→Env→AH→List Nat→Prop} {k:Nat} {q:WPost}:WInv I k q .norm T H D = ∃ j,j<k∧I j T H D:=(rfl)
@[go_sem ↓] theorem winv_ret {I:Nat→Env→AH→List Nat→Prop} {k:Nat} {q:WPost}:WInv I k q .ret T H D=q .ret T H D:=(rfl)
@[go_sem ↓] theorem winv_exit {I:Nat→Env→AH→List Nat→Prop} {k i:Nat} {q:WPost}:WInv I k q (.exit i) T H D=q (.exit i) T H D:=(rfl)
theorem WLoop.more {P:Program} {sz n0:Nat} {c:Code} {Q:WPost}:∀ {n:Nat} {T:Env} {H:AH} {D:List Nat},WLoop (fun T H D Q=>WCode P sz n0 c T H D Q) n T H D Q→WLoop (fun T H D Q=>WCode P sz n0 c T H D Q) (n+1) T H D Q
  | 0,_,_,_,h=>h.elim
  | n+1,T,H,D,h=>by
    simp only[WLoop] at h
    rw[WLoop]
    refine WCode.mono h fun o T H D k=>?_
    cases o with
    | norm=>exact WLoop.more k
    | ret=>exact k
    | exit i => exact k
theorem WLoop.le {P : Program} {sz n0 : Nat} {c : Code} {Q : WPost} {n m : Nat} (hnm : n ≤ m) {T : Env} {H : AH} {D : List Nat} (h : WLoop (fun T H D Q => WCode P sz n0 c T H D Q) n T H D Q) : WLoop (fun T H D Q => WCode P sz n0 c T H D Q) m T H D Q := by
  induction m with
  | zero => have : n = 0 := by omega
            subst this; exact h
  | succ m ih =>
    by_cases e : n = m + 1
    · subst e;exact h
    · exact WLoop.more (ih (by omega))
/-- A loop that keeps to what it keeps to. -/
theorem keep {Q:KC} {c:Code} (I:Nat→Env→AH→List Nat→Prop) (n:Nat) (h0:I n T H D)
  (hs:∀ k T H D,I k T H D→@XCode P sz n0 c T H D ⟨WInv I k Q.go⟩):XCode P sz n0 (.loop c) T H D:=by
 have key:∀ n k,k≤n→∀ T H D,I k T H D→WLoop (fun T H D Q=>WCode P sz n0 c T H D Q) (n+1) T H D Q.go:=by
  intro n
  induction n with
  | zero=>
   intro k hk T H D hI
   refine WCode.mono (hs k T H D hI) fun o T H D q=>?_
   cases o with
   | norm=>obtain⟨j,hj,_⟩:=q;omega
   | ret=>exact q
   | exit i=>exact q
  | succ n ih=>
   intro k hk T H D hI
   refine WCode.mono (hs k T H D hI) fun o T H D q=>?_
   cases o with
   | norm=>obtain⟨j,hj,hI⟩:=q;exact ih j (by omega) _ _ _ hI
   | ret=>exact q
   | exit i=>exact q
 exact⟨n+1,key n n (Nat.le_refl _) _ _ _ h0⟩

theorem quiet_get:∀ {ops:List Oper} {Fs:List Foot} (h:quietL ops Fs) {i:Nat} {o:Oper},ops[i]?=some o→isW o.op=true∨(Fs.getD i noFoot).w=[]
 | [],_,_,i,o,e=>by cases i <;> cases e
 | _::_,[],_,i,o,e=>.inr (by simp[noFoot])
 | p::ps,F::Fs,h,0,o,e=>by
  simp only[List.getElem?_cons_zero,Option.some.injEq] at e
  subst e;exact h.1
 | p::ps,F::Fs,h,i+1,o,e=>by
  simp only[List.getElem?_cons_succ] at e
  simpa [List.getD_cons_succ] using quiet_get h.2 e
theorem compat_stat {l:List Oper} {Fs:List Foot} (hs:statOk l.toArray=true) (hq:quietL l Fs):Compat l.toArray Fs:=by
 intro i j hij hj ho
 have hj':j<l.length:=by simpa using hj
 have h:=List.all_eq_true.1 (List.all_eq_true.1 hs j (List.mem_range.2 (by simpa using hj'))) i (List.mem_range.2 hij)
 have hi':i<l.length:=by omega
 rw[ho] at h
 have ei:l[i]?=some l[i]:=List.getElem?_eq_getElem hi'
 have ej:l[j]?=some l[j]:=List.getElem?_eq_getElem hj'
 have ei':l.toArray[i]?=some l[i]:=by simp
 have ej':l.toArray[j]?=some l[j]:=by simp
 rw[ei',ej'] at h
 have nw:∀ o:Oper,(!(match o.op with | .store ..=>true | .call ⟨.builtin .append,_,_⟩=>true|_=>false))=true→isW o.op=false:=by
  intro o e
  unfold isW
  split <;> simp_all
 simp only[Bool.false_or,Bool.and_eq_true] at h
 have a:=quiet_get hq ei
 have b:=quiet_get hq ej
 rw[nw _ h.1] at a
 rw[nw _ h.2] at b
 have a:(Fs.getD i noFoot).w=[]:=a.resolve_left (by decide)
 have b:(Fs.getD j noFoot).w=[]:=b.resolve_left (by decide)
 exact⟨fun x hx=>(by rw[a] at hx;cases hx),fun x hx=>(by rw[b] at hx;cases hx)⟩
/-- What is left behind a region whose order makes no difference. -/
theorem drawn {Q:KC} {id:Nat} {l:List Oper} (hr:regB l.toArray=true) (hs:statOk l.toArray=true) (h:@XOps P sz n0 l.toArray l T H D [] ⟨fun T' H' D' Fs=>quietL l Fs∧Q.go .norm T' H' D'⟩):XCode P sz n0 (.region id l.toArray true) T H D:=by
 simp only[XCode,WCode]
 exact⟨hr,WOps.mono (fun T H D Fs k=>⟨compat_stat hs k.1,k.2⟩) h⟩
end
@[go_sem] theorem wrap_i64_in {n:Int} (h1:(-9223372036854775808≤n)=True) (h2:(n≤9223372036854775807)=True):IntKind.i64.wrap n=n:=by
 have h1:=of_eq_true h1
 have h2:=of_eq_true h2
 rw[IntKind.wrap_i64];omega
attribute [go_sem] List.length_append List.length_cons List.length_nil true_and and_true and_self
end Go.Proofs.YthhbglkokpablaaGreat.E
/- Regions whose order makes no difference: a quick way to see it. -/
set_option linter.unusedVariables false
set_option linter.unusedSimpArgs false
namespace Go.Proofs.YthhbglkokpablaaGreat.E
open Go Go.RowKit

def mk1 (acc:List Nat) (l:List Nat):Nat:=l.foldr (fun k m=>m ||| (1 <<< k) ||| acc.getD k 0) 0
/-- All that stands ahead of each operation, as a number's bits. -/
def mskL:List Nat→List Oper→List Nat
 | acc,[]=>acc
 | acc,o::rest=>mskL (acc++[mk1 acc (ons o)]) rest
def Same (acc:List (List Nat)) (ms:List Nat):Prop:=acc.length=ms.length∧∀ j i,i∈acc.getD j []↔(ms.getD j 0).testBit i=true
theorem bit_one (k i:Nat):(1 <<< k).testBit i=true↔i=k:=by
 rw[Nat.one_shiftLeft,Nat.testBit_two_pow]
 simp[eq_comm]
theorem mk1_bit {acc:List (List Nat)} {ms:List Nat} (h:Same acc ms) (i:Nat):∀ l:List Nat,(i∈l++l.flatMap fun k=>acc.getD k [])↔(mk1 ms l).testBit i=true
 | []=>by simp[mk1]
 | k::l=>by
  have ih:=mk1_bit h i l
  have e:mk1 ms (k::l)=mk1 ms l ||| (1 <<< k) ||| ms.getD k 0:=rfl
  rw[e,Nat.testBit_or,Nat.testBit_or,Bool.or_eq_true,Bool.or_eq_true,bit_one,← h.2 k i,← ih]
  simp only[List.mem_append,List.mem_cons,List.flatMap_cons]
  grind
theorem Same.push {acc:List (List Nat)} {ms:List Nat} (h:Same acc ms) (l:List Nat):Same (acc++[l++l.flatMap fun k=>acc.getD k []]) (ms++[mk1 ms l]):=by
 refine⟨by simp[h.1],fun j i=>?_⟩
 by_cases hj:j<acc.length
 ·rw[List.getD_eq_getElem?_getD,List.getElem?_append_left hj,← List.getD_eq_getElem?_getD,List.getD_eq_getElem?_getD (l:=ms++_),List.getElem?_append_left (by rw[← h.1];exact hj),← List.getD_eq_getElem?_getD]
  exact h.2 j i
 ·by_cases he:j=acc.length
  ·subst he
   rw[List.getD_eq_getElem?_getD,List.getElem?_append_right (Nat.le_refl _),h.1,List.getD_eq_getElem?_getD (l:=ms++_),List.getElem?_append_right (Nat.le_refl _)]
   simp only[Nat.sub_self,List.getElem?_cons_zero,Option.getD_some]
   exact mk1_bit h i l
  ·have hl:=h.1
   rw[List.getD_eq_getElem?_getD,List.getElem?_eq_none (by simp;omega),List.getD_eq_getElem?_getD,List.getElem?_eq_none (by simp;omega)]
   simp
theorem ancL_msk:∀ (l:List Oper) {acc:List (List Nat)} {ms:List Nat},Same acc ms→Same (ancL acc l) (mskL ms l)
 | [],_,_,h=>h
 | o::rest,_,_,h=>ancL_msk rest (h.push _)
theorem ordered_msk (ops:Array Oper) (i j:Nat):ordered ops i j=((mskL [] ops.toList).getD j 0).testBit i:=by
 have h:=(ancL_msk ops.toList (acc:=[]) (ms:=[]) ⟨rfl,fun j i=>by simp⟩).2 j i
 unfold ordered ancs
 rw[Bool.eq_iff_iff,List.contains_iff_mem]
 exact h

def isW1 (o:Oper):Bool:=match o.op with
 | .store ..=>true
 | .call ⟨.builtin .append,_,_⟩=>true
 | _=>false
def pairF (ops:Array Oper) (x y:Oper):Bool:=!isW1 x&&!isW1 y&&(match x.dst with
  | some d=>!(y.looksAt ops).contains d
  | none=>true)&&(match y.dst with
  | some d=>!(x.looksAt ops).contains d
  | none=>true)
def dstF (x y:Oper):Bool:=match x.dst with
  | some d=>y.dst != some d
  | none=>true
def regF (ops:Array Oper) (ms:List Nat):Bool:=
 (List.range ops.size).all fun j=>match ops[j]? with
  | none=>true
  | some y=>(ons y).all (fun k=>decide (k<j))&&(List.range j).all fun i=>match ops[i]? with
   | none=>true
   | some x=>dstF x y&&((ms.getD j 0).testBit i||pairF ops x y)
theorem regF_ok {ops:Array Oper} {ms:List Nat} (hm:mskL [] ops.toList=ms) (h:regF ops ms=true):regB ops=true∧statOk ops=true:=by
 subst hm
 unfold regF at h
 have h:=List.all_eq_true.1 h
 constructor
 ·refine List.all_eq_true.2 fun j hj=>?_
  have hy:=h j hj
  cases e:ops[j]? with
  | none=>rfl
  | some y=>
   simp only[e,Bool.and_eq_true] at hy
   simp only[Bool.and_eq_true]
   refine⟨hy.1,List.all_eq_true.2 fun i hi=>?_⟩
   have hx:=List.all_eq_true.1 hy.2 i hi
   cases e':ops[i]? with
   | none=>rfl
   | some x=>
    simp only[e',Bool.and_eq_true] at hx
    simp only[apartB,ordered_msk]
    unfold dstF pairF at hx
    cases hb:((mskL [] ops.toList).getD j 0).testBit i with
    | true=>cases hxd:x.dst <;> cases hyd:y.dst <;> simp_all
    | false=>cases hxd:x.dst <;> cases hyd:y.dst <;> simp_all
 ·refine List.all_eq_true.2 fun j hj=>List.all_eq_true.2 fun i hi=>?_
  have hy:=h j hj
  rw[ordered_msk]
  cases e:ops[j]? with
  | none=>cases ops[i]? <;> simp
  | some y=>
   simp only[e,Bool.and_eq_true] at hy
   have hx:=List.all_eq_true.1 hy.2 i hi
   cases e':ops[i]? with
   | none=>simp
   | some x=>
    simp only[e',Bool.and_eq_true] at hx
    have hx2:=hx.2
    cases hb:((mskL [] ops.toList).getD j 0).testBit i with
    | true=>simp
    | false=>
     rw[hb] at hx2
     simp only[Bool.false_or,pairF,Bool.and_eq_true] at hx2
     simp only[Bool.false_or,Bool.and_eq_true]
     exact⟨hx2.1.1.1,hx2.1.1.2⟩
/-- Operations of which no call writes what was there. -/
def WQ (P:Program) (sz n0:Nat) (ops:Array Oper):List Oper→Env→AH→List Nat→(Env→AH→List Nat→Prop)→Prop
 | [],T,H,D,K=>K T H D
 | o::rest,T,H,D,K=>dok sz o.dst=true ∧
  match awant ops T o with
  | some g=>(g=true→WRun P sz o T H fun v H' F=>(isW o.op=true∨F.w=[])∧WQ P sz n0 ops rest (put T o.dst v) H' (D++F.w.filter (fun b=>decide (b<n0))) K) ∧
    (g=false→WQ P sz n0 ops rest (put T o.dst undef) H D K)
  | none=>False
theorem WQ.ops {P:Program} {sz n0:Nat} {ops:Array Oper} {K:Env→AH→List Nat→Prop}:∀ {l:List Oper} {T:Env} {H:AH} {D:List Nat} (Fs0:List Foot),WQ P sz n0 ops l T H D K →
  WOps P sz n0 ops l T H D Fs0 fun T H D Fs=>(∃ Fs1,Fs=Fs0++Fs1∧quietL l Fs1)∧K T H D
 | [],_,_,_,Fs0,h=>⟨⟨[],by simp,by simp[quietL]⟩,h⟩
 | o::rest,T,H,D,Fs0,h=>by
  simp only[WQ] at h
  simp only[WOps]
  refine⟨h.1,?_⟩
  have h2:=h.2
  cases ha:awant ops T o with
  | none=>rw[ha] at h2;exact h2
  | some g=>
   rw[ha] at h2
   refine⟨fun g=>WRun.mono (h2.1 g) fun v H' F k=>?_,fun g=>?_⟩
   ·refine WOps.mono (fun T H D Fs q=>⟨?_,q.2⟩) (WQ.ops (Fs0++[F]) k.2)
    obtain⟨Fs1,e,q⟩:=q.1
    exact⟨F::Fs1,by rw[e];simp,k.1,q⟩
   ·refine WOps.mono (fun T H D Fs q=>⟨?_,q.2⟩) (WQ.ops (Fs0++[⟨[],some []⟩]) (h2.2 g))
    obtain⟨Fs1,e,q⟩:=q.1
    exact⟨⟨[],some []⟩::Fs1,by rw[e];simp,.inr rfl,q⟩
abbrev KD:=Co (Env→AH→List Nat→Prop)
def XQ (P:Program) (sz n0:Nat) (ops:Array Oper) (l:List Oper) (T:Env) (H:AH) (D:List Nat) [K:KD]:Prop:=WQ P sz n0 ops l T H D K.go
def QF (op:Op) (F:Foot) (p:Prop):Prop:=(isW op=true∨F.w=[])∧p
section
variable {P:Program} {sz n0:Nat} {T:Env} {H:AH} {D:List Nat}
variable {ops:Array Oper} {rest:List Oper} {dst:Option Tmp} {op:Op} {ty:TypeId} {pos:String} {af:Array Edge} {gd:Option (Nat × Bool)}
@[go_sem ↓] theorem xq_nil {K:KD}:XQ P sz n0 ops [] T H D=K.go T H D:=(rfl)
@[go_sem ↓] theorem xq_plain {K:KD} {d:Nat} (hd:d+1 - sz=0):XQ P sz n0 ops (⟨some d,op,ty,pos,af,none⟩::rest) T H D =
  @XRun P sz ⟨some d,op,ty,pos,af,none⟩ T H ⟨fun v H' F=>QF op F (XQ P sz n0 ops rest (upd T d v) H' (D++F.w.filter (fun b=>decide (b<n0))))⟩:=by
 have hd:d<sz:=by omega
 simp[XQ,XRun,WQ,dok,hd,awant,put,QF]
@[go_sem ↓] theorem xq_plain0 {K:KD}:XQ P sz n0 ops (⟨none,op,ty,pos,af,none⟩::rest) T H D =
  @XRun P sz ⟨none,op,ty,pos,af,none⟩ T H ⟨fun v H' F=>QF op F (XQ P sz n0 ops rest (T) H' (D++F.w.filter (fun b=>decide (b<n0))))⟩:=by
 simp[XQ,XRun,WQ,dok,awant,put,QF]
@[go_sem ↓] theorem xq_yes {K:KD} {d:Nat} {g:Nat × Bool} (hd:d+1 - sz=0) (hg:awant ops T ⟨some d,op,ty,pos,af,some g⟩=some true):XQ P sz n0 ops (⟨some d,op,ty,pos,af,some g⟩::rest) T H D =
  @XRun P sz ⟨some d,op,ty,pos,af,some g⟩ T H ⟨fun v H' F=>QF op F (XQ P sz n0 ops rest (upd T d v) H' (D++F.w.filter (fun b=>decide (b<n0))))⟩:=by
 have hd:d<sz:=by omega
 simp[XQ,XRun,WQ,dok,hd,hg,put,QF]
@[go_sem ↓] theorem xq_no {K:KD} {d:Nat} {g:Nat × Bool} (hd:d+1 - sz=0) (hg:awant ops T ⟨some d,op,ty,pos,af,some g⟩=some false):XQ P sz n0 ops (⟨some d,op,ty,pos,af,some g⟩::rest) T H D =
  XQ P sz n0 ops rest (upd T d undef) H D:=by
 have hd:d<sz:=by omega
 simp[XQ,WQ,dok,hd,hg,put]
@[go_sem ↓] theorem qf_w {r:Option (List Nat)} {p:Prop}:QF op ⟨[],r⟩ p=p:=by simp[QF]
@[go_sem ↓] theorem qf_s {t:TypeId} {x y:Operand} {F:Foot} {p:Prop}:QF (.store t x y) F p=p:=by simp[QF,isW]
theorem drawnF {Q:KC} {id:Nat} {l:List Oper} (h:@XQ P sz n0 l.toArray l T H D ⟨fun T' H' D'=>Q.go .norm T' H' D'⟩) (hr:regF l.toArray (mskL [] l)=true):XCode P sz n0 (.region id l.toArray true) T H D:=by
 have hr:=regF_ok rfl hr
 simp only[XCode,WCode]
 refine⟨hr.1,WOps.mono (fun T H D Fs k=>⟨?_,k.2⟩) (WQ.ops [] h)⟩
 obtain⟨Fs1,e,q⟩:=k.1
 rw[e];exact compat_stat hr.2 q
end
/- Guards. -/
def dstAt:List Oper→Nat→Option Tmp
 | [],_=>none
 | o::_,0=>o.dst
 | _::l,j+1=>dstAt l j
@[go_sem] theorem dstAt_0 {o:Oper} {l:List Oper}:dstAt (o::l) 0=o.dst:=(rfl)
@[go_sem] theorem dstAt_s {o:Oper} {l:List Oper} {j:Nat}:dstAt (o::l) (j+1)=dstAt l j:=(rfl)
theorem dstAt_eq:∀ (l:List Oper) (j:Nat),(l[j]?).bind (·.dst)=dstAt l j
 | [],_=>by simp[dstAt]
 | o::l,0=>by simp[dstAt]
 | o::l,j+1=>by simpa [dstAt] using dstAt_eq l j
def agb (want:Bool):Value→Option Bool
 | .bool b=>some (b==want)
 | .tuple _=>some false
 | _=>none
@[go_sem] theorem agb_t {b:Bool}:agb true (.bool b)=some b:=by cases b <;> rfl
@[go_sem] theorem agb_f {b:Bool}:agb false (.bool b)=some (!b):=by cases b <;> rfl
@[go_sem] theorem agb_u' {w:Bool}:agb w undef=some false:=(rfl)
def agd (want:Bool) (T:Env):Option Tmp→Option Bool
 | some t=>agb want (T t)
 | none=>none
@[go_sem] theorem agd_some {want:Bool} {T:Env} {t:Tmp}:agd want T (some t)=agb want (T t):=(rfl)
@[go_sem] theorem awant_g {l:List Oper} {T:Env} {dst:Option Tmp} {op:Op} {ty:TypeId} {pos:String} {af:Array Edge} {j:Nat} {want:Bool}:awant l.toArray T ⟨dst,op,ty,pos,af,some (j,want)⟩=agd want T (dstAt l j):=by
 simp only[awant,List.getElem?_toArray,dstAt_eq]
 cases dstAt l j with
 | none=>rfl
 | some t=>simp only[agd,agb];cases T t <;> rfl
end Go.Proofs.YthhbglkokpablaaGreat.E
/- From a law's walk to what its row says: what was read stays as it was. -/
set_option linter.unusedVariables false
namespace Go.Proofs.YthhbglkokpablaaGreat.E
open Go Go.RowKit

theorem carryAll {H:Type} {enc:TypeId × Value→H} {P:Program} {W W':World} {b:Nat} {sp:Nat→Bool} {held:Bool}:∀ {ts:List TypeId} {vs:List Value} {ds:List (DataW H)} {ps:List MemPlace},
  DataW.TrodAll enc P W b sp held ts vs ds ps→(∀ p∈ps,W.sameAt W' p)→DataW.TrodAll enc P W' b sp held ts vs ds ps
 | [],[],[],_,h,_=>h
 | _::_,_::_,_::_,_,⟨p,q,⟨n,h1⟩,h2,e⟩,hs=>⟨p,q,⟨n,DataW.trod_carry n _ _ _ h1 (fun x hx=>hs x (by rw[e];exact List.mem_append_left _ hx))⟩,
   carryAll h2 (fun x hx=>hs x (by rw[e];exact List.mem_append_right _ hx)),e⟩

theorem law_post {H:Type} {enc:TypeId × Value→H} {P:Program} {f:Func} {s:ChangeSpec} {W W':World} {args:Array Value} {ds gs:List (DataW H)} {before:List MemPlace} {tb:TypeId}
  (K:Kids P (·< P.types.size)) (hz:∀ t e,t<P.types.size→P.underlying t=some (.slice e)→0<P.cellsOf e) (hT:∀ t∈f.params.toList,t<P.types.size)
  (hvars:s.vars=[]) (hr:f.resultTypes = #[tb]) (hb:P.underlying tb=some .bool)
  (hW:DataW.Whole enc P f.params.toList s.vars false W args.toList ds gs before)
  (hfn:s.fn H (ds++gs) = { results:=[.lit (.bool true)],args:=ds }) (bel:Below W.heap.size W W') :
  s.post enc P f false true false false W args (.bool true) W':=by
 have hlt:=hW.lt
 obtain⟨p,q,hA,hV,rfl,hfz,hnd⟩:=hW
 have hV':=hV
 rw[hvars] at hV'
 cases gs with
 | cons g gs=>exact hV'.elim
 | nil=>
  have hq:q=[]:=hV'
  subst hq
  refine⟨ds,[],p++[],[],p,[],⟨p,[],hA,hV,rfl,hfz,hnd⟩,?_,?_,?_,bel.frame _,fun h=>by cases h⟩
  ·rw[hfn,hr]
   exact⟨[],[],shut_bool hb true,rfl,rfl⟩
  ·rw[hfn]
   have hlt':∀ x∈p,x.block<W.heap.size:=fun x hx=>hlt x (List.mem_append_left _ hx)
   refine carryAll (DataW.TrodAll.respare K hz hT hA (fun x hx=>by simpa using hlt' x hx)) (fun x hx=>bel.same (hlt' x hx))
  ·rw[hfn,hvars]
   rfl
end Go.Proofs.YthhbglkokpablaaGreat.E
/- What an argument's reading says of its value: arrays of four bytes. -/
set_option linter.unusedVariables false
namespace Go.Proofs.YthhbglkokpablaaGreat.E
open Go Go.RowKit

end Go.Proofs.YthhbglkokpablaaGreat.E
/- What an argument's reading says of its value, where it is made of numbers and bools alone. -/
set_option linter.unusedVariables false
namespace Go.Proofs.YthhbglkokpablaaGreat.E
open Go Go.RowKit

inductive LK where
 | int (k:IntKind)
 | bool
deriving DecidableEq
def LK.fits:LK→Value→Prop
 | .int k,.int k' n=>k'=k∧(Lit.int k n).wf=true
 | .bool,.bool _=>True
 | _,_=>False
def Fits:List LK→List Value→Prop
 | [],[]=>True
 | k::ks,v::vs=>k.fits v∧Fits ks vs
 | _,_=>False
theorem Fits.append:∀ {ks ks':List LK} {vs vs':List Value},Fits ks vs→Fits ks' vs'→Fits (ks++ks') (vs++vs')
 | [],_,[],_,_,h'=>h'
 | k::ks,_,v::vs,_,h,h'=>⟨h.1,Fits.append h.2 h'⟩
theorem Fits.length:∀ {ks:List LK} {vs:List Value},Fits ks vs→vs.length=ks.length
 | [],[],_=>rfl
 | k::ks,v::vs,h=>by simp[Fits.length h.2]
def kAll (f:Go.Field→Option (List LK)):List Go.Field→Nat→Option (List LK)
 | [],_=>some []
 | x::xs,o=>match f x with
  | some ks=>if x.offset=o then match kAll f xs (o+ks.length) with
   | some r=>some (ks++r)
   | none=>none
   else none
  | none=>none
def kRep (ks:List LK):Nat→List LK
 | 0=>[]
 | n+1=>ks++kRep ks n
def leaf (P:Program):Nat→TypeId→Option (List LK)
 | 0,_=>none
 | n+1,t=>match P.underlying t with
  | some .bool=>some [.bool]
  | some (.int k)=>some [.int k]
  | some (.struct fs)=>match kAll (fun f=>match leaf P n f.type with
    | some ks=>if ks.length=P.cellsOf f.type then some ks else none
    | none=>none) fs.toList 0 with
   | some ks=>if ks.length=P.cellsOf t then some ks else none
   | none=>none
  | some (.array m e)=>match leaf P n e with
   | some ks=>if ks.length=P.cellsOf e∧(kRep ks m).length=P.cellsOf t then some (kRep ks m) else none
   | none=>none
  | _=>none

theorem mapM_all {α β:Type} {f:α→Option β}:∀ {l:List α} {r:List β},l.mapM f=some r→∀ x∈l,∃ y,f x=some y:=by
 intro l
 induction l with
 | nil=>intro r _ x hx;cases hx
 | cons a l ih=>
  intro r h x hx
  rw[List.mapM_cons] at h
  cases ha:f a with
  | none=>simp[ha] at h
  | some y=>
   cases hl:l.mapM f with
   | none=>simp[ha,hl] at h
   | some ys=>
    rcases List.mem_cons.1 hx with rfl|hx
    ·exact⟨y,ha⟩
    ·exact ih hl x hx
theorem kRep_len (ks:List LK):∀ n,(kRep ks n).length=n*ks.length
 | 0=>by simp[kRep]
 | n+1=>by simp[kRep,kRep_len ks n,Nat.add_mul,Nat.add_comm]

section
variable {H:Type} {enc:TypeId × Value→H} {P:Program} {W:World} {b0:Nat} {sp:Nat→Bool} {held:Bool}

theorem kAll_fits {m:Nat} {f:Go.Field→Option (List LK)} (hf:∀ x ks cs,f x=some ks→(∃ y,DataW.trod enc P W b0 sp held m x.type cs=some y)→Fits ks cs) (hl:∀ x ks,f x=some ks→ks.length=P.cellsOf x.type) :
  ∀ {fs:List Go.Field} {o:Nat} {ks:List LK} {cs:List Value},kAll f fs o=some ks→(∀ x∈fs,∃ y,DataW.trod enc P W b0 sp held m x.type ((cs.drop x.offset).take (P.cellsOf x.type))=some y)→cs.length=o+ks.length→Fits ks (cs.drop o)
 | [],o,ks,cs,h,_,hc=>by
  cases h
  have:cs.drop o=[]:=List.drop_eq_nil_of_le (by simp at hc;omega)
  rw[this];trivial
 | x::xs,o,ks,cs,h,ha,hc=>by
  simp only[kAll] at h
  split at h
  case h_2=>cases h
  rename_i k1 h1
  split at h
  case isFalse=>cases h
  rename_i ho
  split at h
  case h_2=>cases h
  rename_i r hr
  cases h
  have:=kAll_fits hf hl (cs:=cs) hr (fun y hy=>ha y (List.mem_cons_of_mem _ hy)) (by rw[hc];simp;omega)
  have a:=hf x k1 _ h1 (ha x (List.mem_cons_self ..))
  rw[ho,← hl x k1 h1] at a
  rw[← List.take_append_drop k1.length (cs.drop o),List.drop_drop]
  exact a.append this
theorem leaf_fits:∀ {n m:Nat} {t:TypeId} {ks:List LK} {cs:List Value},leaf P n t=some ks→(∃ y,DataW.trod enc P W b0 sp held m t cs=some y)→Fits ks cs:=by
 intro n
 induction n with
 | zero=>intro m t ks cs h;cases h
 | succ n ih=>
  intro m t ks cs h hy
  obtain⟨y,hy⟩:=hy
  cases m with
  | zero=>simp[DataW.trod] at hy
  | succ m=>
  rw[DataW.trod_step] at hy
  unfold DataW.trodStep at hy
  simp only[leaf] at h
  split at h
  ·rename_i hu
   cases h
   rw[hu] at hy
   simp only at hy
   split at hy <;> simp_all [Fits,LK.fits]
  ·rename_i k hu
   cases h
   rw[hu] at hy
   simp only at hy
   split at hy <;> simp_all [Fits,LK.fits]
  ·rename_i fs hu
   rw[hu] at hy
   split at h
   case h_2=>cases h
   rename_i kk hk
   split at h
   case isFalse=>cases h
   rename_i hlen
   cases h
   have hy2:(if cs.length=P.cellsOf t then (fs.toList.mapM fun f=>DataW.trod enc P W b0 sp held m f.type ((cs.drop f.offset).take (P.cellsOf f.type))).map fun xs=>(DataW.agg (xs.map (·.1)),xs.flatMap (·.2)) else none)=some y:=by
    simpa using hy
   split at hy2
   case isFalse=>cases hy2
   rename_i hc
   obtain⟨ys,hys,_⟩:=Option.map_eq_some_iff.1 hy2
   have:=kAll_fits (enc:=enc) (W:=W) (b0:=b0) (sp:=sp) (held:=held) (m:=m) (cs:=cs) (fun x ks cs hx hy=>by
    split at hx
    case h_2=>cases hx
    rename_i k2 h2
    split at hx
    case isFalse=>cases hx
    cases hx
    exact ih h2 hy) (fun x ks hx=>by
    split at hx
    case h_2=>cases hx
    rename_i k2 h2
    split at hx
    case isFalse=>cases hx
    cases hx
    assumption) hk (mapM_all hys) (by omega)
   simpa using this
  ·rename_i a e hu
   rw[hu] at hy
   split at h
   case h_2=>cases h
   rename_i kk hk
   split at h
   case isFalse=>cases h
   rename_i hlen
   cases h
   have hy2:(if cs.length=P.cellsOf t then ((List.range a).mapM fun i=>DataW.trod enc P W b0 sp held m e ((cs.drop (i*P.cellsOf e)).take (P.cellsOf e))).map fun xs=>(DataW.agg (xs.map (·.1)),xs.flatMap (·.2)) else none)=some y:=by
    simpa using hy
   split at hy2
   case isFalse=>cases hy2
   rename_i hc
   obtain⟨ys,hys,_⟩:=Option.map_eq_some_iff.1 hy2
   have hall:=mapM_all hys
   have key:∀ j,j≤a→Fits (kRep kk (a - (a - j))) (cs.drop ((a - j)*P.cellsOf e))∨True:=fun _ _=>.inr trivial
   have key:∀ j,j≤a→Fits (kRep kk j) (cs.drop ((a - j)*P.cellsOf e)):=by
    intro j
    induction j with
    | zero=>
     intro _
     have:cs.drop ((a - 0)*P.cellsOf e)=[]:=List.drop_eq_nil_of_le (by rw[hc,← hlen.2,kRep_len,← hlen.1];simp)
     rw[this];trivial
    | succ j ihj=>
     intro hj
     have h1:=ih hk (hall (a - (j+1)) (List.mem_range.2 (by omega)))
     have h2:=ihj (by omega)
     have e1:(a - j)*P.cellsOf e=(a - (j+1))*P.cellsOf e+P.cellsOf e:=by rw[show a - j=a - (j+1)+1 by omega,Nat.add_mul,Nat.one_mul]
     rw[← List.take_append_drop (P.cellsOf e) (cs.drop ((a - (j+1))*P.cellsOf e)),List.drop_drop,← e1]
     exact h1.append h2
   have:=key a (Nat.le_refl _)
   simpa using this
  ·cases h

/-- A struct's or an array's value. -/
def isAgg (P:Program) (t:TypeId):Bool:=match P.underlying t with
 | some (.struct _)|some (.array ..)=>true
 | _=>false
theorem open_num {k:IntKind} {r:Reach} {b:Nat} {t:TypeId} {v:Value} {d:DataW H} {ps:List MemPlace} (hu:P.underlying t=some (.int k)) (hval:Value.okWide P W r b t v) (hd:DataW.Trod enc P W b0 sp held t v d ps) :
  ∃ a,v=.int k a∧(Lit.int k a).wf=true:=by
 unfold Value.okWide at hval
 rw[hu] at hval
 simp only[Cell.okWide,hu,Cell.ok] at hval
 split at hval <;> simp_all
 rename_i n he
 obtain⟨m,hm⟩:=hd
 subst he
 exact(leaf_fits (P:=P) (n:=1) (ks:=[.int k]) (cs:=[.int k n]) (t:=t) (by simp[leaf,hu]) ⟨_,hm⟩).1.2
end
end Go.Proofs.YthhbglkokpablaaGreat.E
/- Arguments that lead to memory: what was read becomes blocks of the machine. -/
set_option linter.unusedVariables false
namespace Go.Proofs.YthhbglkokpablaaGreat.E
open Go Go.RowKit

/-- What stands in blocks, by its type: numbers, bools, and rows, structs, arrays of such; n: how deep. -/
def elems (P:Program) (F:List Value→Prop) (s:Nat):Nat→List Value→Prop
 | 0,cs=>cs=[]
 | n+1,cs=>F (cs.take s)∧cs.length≥s∧elems P F s n (cs.drop s)
def parts (F:TypeId→List Value→Prop) (P:Program):List Go.Field→Nat→List Value→Prop
 | [],_,cs=>cs=[]
 | x::xs,o,cs=>x.offset=o∧F x.type (cs.take (P.cellsOf x.type))∧cs.length≥P.cellsOf x.type∧parts F P xs (o+P.cellsOf x.type) (cs.drop (P.cellsOf x.type))
def Rd (P:Program):Nat→AH→TypeId→List Value→Prop
 | 0,_,_,_=>False
 | n+1,H,t,cs=>match P.underlying t with
  | some .bool=>∃ b,cs=[.bool b]
  | some (.int k)=>∃ a,cs=[.int k a]∧(Lit.int k a).wf=true
  | some (.slice e)=>cs=[.slice none 0 0]∨cs=[.slice (some ⟨0,0,none⟩) 0 (P.cellsOf e)] ∨
    ∃ b len us,cs=[sl b 0 0 len (P.cellsOf e)]∧H[b]?=some ⟨us,0,false⟩∧(len≤9223372036854775807∧len*P.bytesOf e≤140737488351232)∧us.length=len*P.cellsOf e∧elems P (Rd P n H e) (P.cellsOf e) len us
  | some (.struct fs)=>parts (Rd P n H) P fs.toList 0 cs
  | some (.array m e)=>elems P (Rd P n H e) (P.cellsOf e) m cs
  | _=>False
/-- What takes no more room than there is. -/
def Light {Hh:Type} (P:Program) (t:TypeId) (d:DataW Hh):Prop:=∀ w∈d.weights P t,w≤140737488351232
/-- Types whose parts lie one behind the other. -/
def consec (P:Program):List Go.Field→Nat→Option Nat
 | [],o=>some o
 | x::xs,o=>if x.offset=o then consec P xs (o+P.cellsOf x.type) else none
def rdOk (P:Program):Nat→TypeId→Bool
 | 0,_=>false
 | n+1,t=>match P.underlying t with
  | some .bool=>true
  | some (.int _)=>true
  | some (.slice e)=>decide (0<P.cellsOf e)&&rdOk P n e
  | some (.struct fs)=>decide (consec P fs.toList 0=some (P.cellsOf t))&&fs.toList.all fun x=>rdOk P n x.type
  | some (.array m e)=>decide (m*P.cellsOf e=P.cellsOf t)&&rdOk P n e
  | _=>false

/-- More blocks behind. -/
def Ahead (H H':AH):Prop:=∃ L,H'=H++L
theorem Ahead.refl (H:AH):Ahead H H:=⟨[],by simp⟩
theorem Ahead.trans {H H1 H2:AH} (h:Ahead H H1) (k:Ahead H1 H2):Ahead H H2:=by
 obtain⟨L,rfl⟩:=h;obtain⟨L',rfl⟩:=k;exact⟨L++L',by simp⟩
theorem Ahead.get {H H':AH} (h:Ahead H H') {b:Nat} {k:Blk} (e:H[b]?=some k):H'[b]?=some k:=by
 obtain⟨L,rfl⟩:=h
 rw[List.getElem?_append_left (List.getElem?_eq_some_iff.1 e).1];exact e
theorem elems_mono {P:Program} {F F':List Value→Prop} {s:Nat} (h:∀ cs,F cs→F' cs):∀ {n:Nat} {cs:List Value},elems P F s n cs→elems P F' s n cs
 | 0,_,k=>k
 | n+1,_,k=>⟨h _ k.1,k.2.1,elems_mono h k.2.2⟩
theorem parts_mono {P:Program} {F F':TypeId→List Value→Prop} (h:∀ t cs,F t cs→F' t cs):∀ {fs:List Go.Field} {o:Nat} {cs:List Value},parts F P fs o cs→parts F' P fs o cs
 | [],_,_,k=>k
 | _::_,_,_,k=>⟨k.1,h _ _ k.2.1,k.2.2.1,parts_mono h k.2.2.2⟩
theorem Rd.mono {P:Program}:∀ {n:Nat} {H H':AH} {t:TypeId} {cs:List Value},Ahead H H'→Rd P n H t cs→Rd P n H' t cs:=by
 intro n
 induction n with
 | zero=>intro H H' t cs _ h;exact h
 | succ n ih=>
  intro H H' t cs a h
  unfold Rd at h ⊢
  split
  ·rename_i hu;rw[hu] at h;exact h
  ·rename_i hu;rw[hu] at h;exact h
  ·rename_i hu;rw[hu] at h
   rcases h with h|h|⟨b,len,us,h1,h2,h3,h4,h5⟩
   ·exact .inl h
   ·exact .inr (.inl h)
   ·exact .inr (.inr ⟨b,len,us,h1,a.get h2,h3,h4,elems_mono (fun cs=>ih a) h5⟩)
  ·rename_i hu;rw[hu] at h;exact parts_mono (fun t cs=>ih a) h
  ·rename_i hu;rw[hu] at h;exact elems_mono (fun cs=>ih a) h
  ·rename_i h1 h2 h3 h4 h5
   split at h
   ·exact absurd ‹_› h1
   ·exact absurd ‹_› (h2 _)
   ·exact absurd ‹_› (h3 _)
   ·exact absurd ‹_› (h4 _)
   ·exact absurd ‹_› (h5 _ _)
   ·exact h

/-- Blocks that stand for what lies in the world W, all of it old. -/
structure Img (N0:Nat) (H:AH) (M:Mp) (W:World):Prop where
 dom:∀ {b g x},M b g=some x→b<H.length
 old:∀ {b g c o n},M b g=some (c,o,n)→c<N0
 cont:∀ {b k},H[b]?=some k→Cont N0 M W b k
theorem Img.pre {N0:Nat} {H:AH} {M:Mp} {W:World} (h:Img N0 H M W) (hl:N0≤W.heap.size):Pre N0 H none M W:=
 ⟨h.dom,⟨fun e=>Nat.lt_of_lt_of_le (h.old e) hl,fun e k=>absurd (h.old e) (by omega),fun e _ k=>absurd (h.old e) (by omega),fun e _ k=>absurd (h.old e) (by omega)⟩,hl,fun _ e _=>h.cont e⟩
theorem Img.nil (N0:Nat) (W:World):Img N0 [] (fun _ _=>none) W:=⟨(fun h=>by cases h),(fun h=>by cases h),(fun h=>by simp at h)⟩

theorem CellR.mono {M M':Mp} {w:World} {c o:Nat} {cs:List Value} (h:CellR M w c o cs) (hM:MLe M M'):CellR M' w c o cs:=fun i v hv=>by
 obtain⟨h1,v',h2,h3⟩:=h i v hv
 exact⟨h1,v',h2,h3.mono hM⟩
/-- One more block. -/
theorem Img.push {N0:Nat} {H:AH} {M:Mp} {W:World} (h:Img N0 H M W) {c o n:Nat} {us:List Value} (hc:c<N0) (hr:CellR M W c o us) :
  Img N0 (H++[⟨us,0,false⟩]) (mset M H.length 0 (c,o,n)) W∧MLe M (mset M H.length 0 (c,o,n))∧mset M H.length 0 (c,o,n) H.length 0=some (c,o,n):=by
 have le:MLe M (mset M H.length 0 (c,o,n)):=fun b g x e=>by
  have:=h.dom e
  unfold mset;rw[if_neg (by omega)];exact e
 refine⟨⟨fun {b g x} e=>?_,fun {b g c' o' n'} e=>?_,fun {b k} e=>?_⟩,le,by simp[mset]⟩
 ·unfold mset at e
  split at e
  ·rename_i hb;simp;omega
  ·have:=h.dom e;simp;omega
 ·unfold mset at e
  split at e
  ·cases e;exact hc
  ·exact h.old e
 ·by_cases hb:b<H.length
  ·rw[List.getElem?_append_left hb] at e
   obtain⟨c',o',n',e1,e2,e3,e4⟩:=h.cont e
   refine⟨c',o',n',le _ _ _ e1,fun g hg=>?_,e3.mono le,e4⟩
   unfold mset;rw[if_neg (by omega)];exact e2 g hg
  ·rw[List.getElem?_append_right (by omega)] at e
   have:b=H.length:=by
    have:=(List.getElem?_eq_some_iff.1 e).1
    simp at this;omega
   subst this
   simp at e
   subst e
   exact⟨c,o,n,by simp[mset],fun g hg=>by
    have hn:M H.length g=none:=by
     cases hh:M H.length g with
     | none=>rfl
     | some x=>have:=h.dom hh;omega
    unfold mset;rw[if_neg (by simp at hg;omega)];exact hn,hr.mono le,fun hh=>by cases hh⟩

theorem VCs.nil' (M:Mp):VCs M [] []:=⟨VRs.nil,fun v hv=>by cases hv⟩
theorem VCs.append' {M:Mp} {a a' b b':List Value} (h:VCs M a a') (k:VCs M b b'):VCs M (a++b) (a'++b'):=by
 refine⟨⟨by simp[h.1.1,k.1.1],fun i v v' h1 h2=>?_⟩,fun v hv=>?_⟩
 ·by_cases hi:i<a.length
  ·rw[List.getElem?_append_left hi] at h1
   rw[List.getElem?_append_left (by rw[← h.1.1];exact hi)] at h2
   exact h.1.2 i v v' h1 h2
  ·rw[List.getElem?_append_right (by omega)] at h1
   rw[List.getElem?_append_right (by have:=h.1.1;omega),← h.1.1] at h2
   exact k.1.2 _ v v' h1 h2
 ·rcases List.mem_append.1 hv with hv|hv
  ·exact h.2 v hv
  ·exact k.2 v hv
theorem VCs.mono' {M M':Mp} (hM:MLe M M') {a a':List Value} (h:VCs M a a'):VCs M' a a':=
 ⟨⟨h.1.1,fun i v v' h1 h2=>(h.1.2 i v v' h1 h2).mono hM⟩,h.2⟩
theorem VCs.single {M:Mp} {v v':Value} (h:VR M v v') (ho:one v=true):VCs M [v] [v']:=
 ⟨VRs.cons h VRs.nil,fun x hx=>by simp at hx;subst hx;exact ho⟩

section
variable {Hh:Type} {enc:TypeId × Value→Hh} {P:Program} {W:World} {N0:Nat} {sp:Nat→Bool} {held:Bool}

/-- What is at hand once some cells became cells of the machine. -/
def Got (P:Program) (N0:Nat) (W:World) (n:Nat) (t:TypeId) (cs:List Value) (H:AH) (M:Mp):Prop:=
 ∃ H' M' us,Ahead H H'∧MLe M M'∧Img N0 H' M' W∧VCs M' us cs∧Rd P n H' t us

theorem Got.elems {n:Nat} {e:TypeId} {s:Nat} (hs:∀ H M cs,Img N0 H M W→cs.length=s→(∃ m y,DataW.trod enc P W 0 sp held m e cs=some y∧Light P e y.1)→Got P N0 W n e cs H M) :
  ∀ (k:Nat) (cs:List Value) (H:AH) (M:Mp),Img N0 H M W→cs.length=k*s→(∀ i,i<k→∃ m y,DataW.trod enc P W 0 sp held m e ((cs.drop (i*s)).take s)=some y∧Light P e y.1) →
   ∃ H' M' us,Ahead H H'∧MLe M M'∧Img N0 H' M' W∧VCs M' us cs∧us.length=cs.length∧E.elems P (Rd P n H' e) s k us
 | 0,cs,H,M,hi,hl,_=>by
  have:cs=[]:=List.eq_nil_of_length_eq_zero (by simpa using hl)
  subst this
  exact⟨H,M,[],Ahead.refl _,MLe.refl _,hi,VCs.nil' _,rfl,rfl⟩
 | k+1,cs,H,M,hi,hl,hk=>by
  have hlen:(cs.take s).length=s:=by rw[List.length_take,hl,Nat.add_mul];omega
  have h0:=hk 0 (by omega)
  rw[Nat.zero_mul,List.drop_zero] at h0
  obtain⟨H1,M1,u1,a1,m1,i1,v1,r1⟩:=hs H M _ hi hlen h0
  obtain⟨H2,M2,u2,a2,m2,i2,v2,l2,r2⟩:=Got.elems hs k (cs.drop s) H1 M1 i1 (by rw[List.length_drop,hl,Nat.add_mul];omega) (fun i hik=>by
   have:=hk (i+1) (by omega)
   rwa [List.drop_drop,show s+i*s=(i+1)*s by rw[Nat.add_mul];omega])
  have lu:u1.length=s:=by rw[v1.1.1,hlen]
  refine⟨H2,M2,u1++u2,a1.trans a2,m1.trans m2,i2,?_,?_,?_⟩
  ·have:=(v1.mono' m2).append' v2
   rwa [List.take_append_drop] at this
  ·rw[List.length_append,l2,lu,List.length_drop,hl,Nat.add_mul];omega
  ·refine⟨?_,by simp[lu],?_⟩
   ·rw[List.take_append_of_le_length (by omega),List.take_of_length_le (by omega)]
    exact r1.mono a2
   ·rw[← lu,List.drop_left,lu];exact r2
theorem Got.parts {n:Nat} (hs:∀ t,rdOk P n t=true→∀ H M cs,Img N0 H M W→(∃ m y,DataW.trod enc P W 0 sp held m t cs=some y∧Light P t y.1)→Got P N0 W n t cs H M) {all:List Value} :
  ∀ (fs:List Go.Field) (o tot:Nat) (H:AH) (M:Mp),Img N0 H M W→consec P fs o=some tot→all.length=tot→(∀ x∈fs,rdOk P n x.type=true) →
   (∀ x∈fs,∃ m y,DataW.trod enc P W 0 sp held m x.type ((all.drop x.offset).take (P.cellsOf x.type))=some y∧Light P x.type y.1) →
   ∃ H' M' us,Ahead H H'∧MLe M M'∧Img N0 H' M' W∧VCs M' us (all.drop o)∧E.parts (Rd P n H') P fs o us
 | [],o,tot,H,M,hi,hc,hl,_,_=>by
  simp only[consec,Option.some.injEq] at hc
  subst hc
  exact⟨H,M,[],Ahead.refl _,MLe.refl _,hi,by rw[List.drop_eq_nil_of_le (by omega)];exact VCs.nil' _,rfl⟩
 | x::xs,o,tot,H,M,hi,hc,hl,hr,hk=>by
  simp only[consec] at hc
  split at hc
  case isFalse=>cases hc
  rename_i ho
  have hx:=hk x (List.mem_cons_self ..)
  rw[ho] at hx
  have cle:∀ (fs:List Go.Field) (o tot:Nat),consec P fs o=some tot→o≤tot:=by
   intro fs
   induction fs with
   | nil=>intro o tot h;simp only[consec,Option.some.injEq] at h;omega
   | cons y ys ih=>
    intro o tot h
    simp only[consec] at h
    split at h
    ·have:=ih _ _ h;omega
    ·cases h
  have hle:=cle _ _ _ hc
  have hlen:((all.drop o).take (P.cellsOf x.type)).length=P.cellsOf x.type:=by rw[List.length_take,List.length_drop];omega
  obtain⟨H1,M1,u1,a1,m1,i1,v1,r1⟩:=hs x.type (hr x (List.mem_cons_self ..)) H M _ hi hx
  obtain⟨H2,M2,u2,a2,m2,i2,v2,r2⟩:=Got.parts hs xs _ _ H1 M1 i1 hc hl (fun y hy=>hr y (List.mem_cons_of_mem _ hy)) (fun y hy=>hk y (List.mem_cons_of_mem _ hy))
  have lu:u1.length=P.cellsOf x.type:=by rw[v1.1.1,hlen]
  refine⟨H2,M2,u1++u2,a1.trans a2,m1.trans m2,i2,?_,ho,?_,by simp[lu],?_⟩
  ·have:=(v1.mono' m2).append' v2
   rwa [← List.drop_drop,List.take_append_drop] at this
  ·rw[List.take_append_of_le_length (by omega),List.take_of_length_le (by omega)]
   exact r1.mono a2
  ·rw[← lu,List.drop_left,lu];exact r2
end
end Go.Proofs.YthhbglkokpablaaGreat.E
/- More rewriting: appends behind a row that is known, calls that say what they leave. -/
set_option linter.unusedVariables false
set_option linter.unusedSimpArgs false
namespace Go.Proofs.YthhbglkokpablaaGreat.E
open Go Go.RowKit
def apz (H:AH) (s by_ len b g n:Nat) (cs:List Value) (bs:List Nat):Option Blk→Option (Value × AH × List Nat × List Nat)
 | some k=>if g=k.gen∧k.rw=true∧len*s=k.cells.length then
   if n=0 then some (sl b 0 g len s,H,[],b::bs) else
   if (len+n)*by_≤140737488355328∧len+n≤140737488355328 then some (sl b 0 (g+1) (len+n) s,H.set b ⟨k.cells++cs,g+1,true⟩,[b],b::bs) else none
   else if g=k.gen∧k.rw=true∧len=0∧b∉bs then
   if n=0 then some (sl b 0 g len s,H,[],b::bs) else
   if n*by_≤140737488355328∧n≤140737488355328 then some (sl b 0 (g+1) n s,H.set b ⟨cs,g+1,true⟩,[b],b::bs) else none
   else none
 | none=>none
@[go_sem] theorem apy_sl {H:AH} {s by_ n b g len:Nat} {cs:List Value} {bs:List Nat}:apy H (.slice (some ⟨b,0,some g⟩) len s) s by_ (some (cs,n,bs))=apz H s by_ len b g n cs bs H[b]?:=by
 simp only[apy,true_and]
 cases H[b]? <;> rfl
@[go_sem] theorem apz_some {H:AH} {s by_ n b g len:Nat} {cs cells:List Value} {bs:List Nat} (hl:len*s=cells.length) (h0:(n=0)=False) (h1:(len+n)*by_ - 140737488355328=0) (h2:len+n - 140737488355328=0) :
  apz H s by_ len b g n cs bs (some ⟨cells,g,true⟩)=some (sl b 0 (g+1) (len+n) s,H.set b ⟨cells++cs,g+1,true⟩,[b],b::bs):=by
 have h0:¬ n=0:=fun e=>by rw[h0] at e;exact e
 have h3:(len+n)*by_≤140737488355328∧len+n≤140737488355328:=by omega
 simp[apz,hl,h0,h3]
@[go_sem] theorem apz_zero {H:AH} {s by_ b g len:Nat} {cs cells:List Value} {bs:List Nat} (hl:len*s=cells.length):apz H s by_ len b g 0 cs bs (some ⟨cells,g,true⟩)=some (sl b 0 g len s,H,[],b::bs):=by
 simp[apz,hl]
/-- An append onto what was cut to nothing. -/
theorem apz_cut {H:AH} {s by_ n b g:Nat} {cs cells:List Value} {bs:List Nat} (h0:(n=0)=False) (h1:n*by_ - 140737488355328=0) (h2:n - 140737488355328=0) (hb:b∉bs) :
  apz H s by_ 0 b g n cs bs (some ⟨cells,g,true⟩)=some (sl b 0 (g+1) n s,H.set b ⟨cs,g+1,true⟩,[b],b::bs):=by
 have h0:¬ n=0:=fun e=>by rw[h0] at e;exact e
 have h3:n*by_≤140737488355328∧n≤140737488355328:=by omega
 by_cases hc:0*s=cells.length
 ·have:cells=[]:=List.eq_nil_of_length_eq_zero (by omega)
  subst this
  simp[apz,h0,h3]
 ·simp[apz,h0,h3,hb]
  intro he;exact absurd (by rw[Nat.zero_mul];simp[he]) hc
theorem Cal.x {P:Program} {f:FuncId} {args:List Value} {H:AH} {Q0:Value→AH→List Nat→Prop} (h:Cal P f args H Q0) {Q:KX} (q:∀ v H' W,Q0 v H' W→Q.go v H' W):XCal P f args H:=Cal.mono h q
/-- A cut: what holds behind the first part. -/
theorem wcode_cut {P:Program} {sz n0:Nat} {T:Env} {H:AH} {D:List Nat} {Q:KC} {a b:Code} (I:Env→AH→List Nat→Prop)
  (ha:@XCode P sz n0 a T H D ⟨WSeq (fun T H D _=>I T H D) Q.go⟩) (hb:∀ T H D,I T H D→XCode P sz n0 b T H D):XCode P sz n0 (.seq a b) T H D:=by
 simp only[XCode,WCode] at ha ⊢
 refine WCode.mono ha fun o T H D k=>?_
 cases o with
 | norm=>exact hb T H D k
 | ret=>exact k
 | exit i=>exact k
theorem Post.setW {N0:Nat} {H H':AH} {W W':List Nat} {M M':Mp} {w w':World} (h:∀ b,b∈W↔b∈W') (q:Post N0 H H' W M M' w w'):Post N0 H H' W' M M' w w':=
 ⟨q.le,fun b hb hn=>q.same b hb (fun hw=>hn ((h b).1 hw)),q.ext,fun b g hb hn=>q.keep b g hb (fun hw=>hn ((h b).1 hw)),q.dom,q.absent,q.fresh,fun c hc hf=>q.frame c hc (fun b hb=>hf b ((h b).1 hb)),
 fun b hb=>q.wown b ((h b).2 hb),q.hp,fun hb=>q.cont (hb.imp (h _).2 id),q.size,q.os,q.tape,q.output⟩
def SameW (W W':List Nat):Prop:=∀ b,b∈W↔b∈W'
theorem SameW.rfl' {W:List Nat}:SameW W W:=fun b=>Iff.rfl
theorem SameW.three {b:Nat}:SameW [b,b,b] [b]:=fun x=>by simp
theorem SameW.two {b:Nat}:SameW [b,b] [b]:=fun x=>by simp
theorem SemCall.setW {P:Program} {f:FuncId} {args:List Value} {H H':AH} {v:Value} {W W':List Nat} (h:SemCall P f args H v H' W) (e:SameW W W'):SemCall P f args H v H' W':=
 ⟨⟨h.1.1,h.1.2.1,fun b hb hn=>h.1.2.2 b hb (fun hw=>hn ((e b).1 hw))⟩,fun N0 M w args' p ha=>(h.2 N0 M w args' p ha).mono fun e' w' ⟨v',M',a,b,c⟩=>⟨v',M',a,b,c.setW e⟩⟩
@[go_sem] theorem hget_sapp (H L:AH) (b:Nat) (x:Blk) (k:Nat):(H.set b x++L)[H.length+k]?=L[k]?:=by
 have:=hget_app (H.set b x) L k
 rwa [List.length_set] at this
@[go_sem] theorem hget_sapp0 (H L:AH) (b:Nat) (x:Blk):(H.set b x++L)[H.length]?=L[0]?:=by
 have:=hget_app0 (H.set b x) L
 rwa [List.length_set] at this
@[go_sem] theorem hset_sapp (H L:AH) (b:Nat) (y:Blk) (k:Nat) (x:Blk):(H.set b y++L).set (H.length+k) x=H.set b y++L.set k x:=by
 have:=hset_app (H.set b y) L k x
 rwa [List.length_set] at this
@[go_sem] theorem hset_sapp0 (H L:AH) (b:Nat) (y x:Blk):(H.set b y++L).set H.length x=H.set b y++L.set 0 x:=by
 have:=hset_app0 (H.set b y) L x
 rwa [List.length_set] at this
attribute [go_sem] List.length_set
theorem old_get {H:AH} {b:Nat} {k:Blk} (h:H[b]?=some k) (L:AH):(H++L)[b]?=some k:=by
 rw[List.getElem?_append_left (List.getElem?_eq_some_iff.1 h).1];exact h
theorem old_set {H:AH} {b:Nat} {k:Blk} (h:H[b]?=some k) (L:AH) (x:Blk):(H++L).set b x=H.set b x++L:=
 List.set_append_left _ _ (List.getElem?_eq_some_iff.1 h).1
theorem old_sget {H:AH} {b:Nat} {k:Blk} (h:H[b]?=some k) (x:Blk) (L:AH):(H.set b x++L)[b]?=some x:=by
 have hb:=(List.getElem?_eq_some_iff.1 h).1
 rw[List.getElem?_append_left (by simpa using hb),List.getElem?_set_self hb]
theorem old_sset {H:AH} {b:Nat} {k:Blk} (h:H[b]?=some k) (x y:Blk) (L:AH):(H.set b x++L).set b y=H.set b y++L:=by
 have hb:=(List.getElem?_eq_some_iff.1 h).1
 rw[List.set_append_left _ _ (by simpa using hb),List.set_set]
theorem old_lt {H:AH} {b:Nat} {k:Blk} (h:H[b]?=some k):decide (b<H.length)=true:=decide_eq_true (List.getElem?_eq_some_iff.1 h).1
theorem old_ne {H:AH} {b:Nat} {k:Blk} (h:H[b]?=some k) (n:Nat):(b=H.length+n)=False:=by
 have hb:=(List.getElem?_eq_some_iff.1 h).1
 exact eq_false (by omega)
theorem old_ne' {H:AH} {b:Nat} {k:Blk} (h:H[b]?=some k) (n:Nat):(H.length+n=b)=False:=by
 have hb:=(List.getElem?_eq_some_iff.1 h).1
 exact eq_false (by omega)
theorem old_ne0 {H:AH} {b:Nat} {k:Blk} (h:H[b]?=some k):(b=H.length)=False:=by
 have hb:=(List.getElem?_eq_some_iff.1 h).1
 exact eq_false (by omega)
theorem old_ne0' {H:AH} {b:Nat} {k:Blk} (h:H[b]?=some k):(H.length=b)=False:=by
 have hb:=(List.getElem?_eq_some_iff.1 h).1
 exact eq_false (by omega)
def intC (l:List Int):List Value:=l.map fun n=>.int .i64 n
theorem intC_get {l:List Int} {i:Nat} (h:i<l.length):(intC l)[i]?=some (.int .i64 l[i]):=by simp[intC,h]
theorem ren_sl (n b g len e:Nat) (h:n≤b):renR n [(b,g)] (sl b 0 g len e)=some (sl n 0 0 len e):=by
 show (renB n [(b,g)] b g).map _=_
 unfold renB
 rw[if_neg (by omega)]
 simp
end Go.Proofs.YthhbglkokpablaaGreat.E
