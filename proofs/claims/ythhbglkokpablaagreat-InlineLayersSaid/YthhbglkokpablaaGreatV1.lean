/- Merged texts: E1 E2 E3 E4 E5 E6 E7 E8. -/
import Derived.Orders
import Derived.Below
import Derived.Laws.Cells
import Derived.Laws.StructEq
import Derived.Laws.Append
import Derived.Laws.AppendOwn
import Derived.Laws.MakeOwn
import Derived.Laws.IdiomCopy
import Derived.Laws.Slices
import Derived.Laws.Rows
import Derived.Laws.Bits
import Derived.Laws.BitsLemmas
import Derived.ChangeKeysEq
/- An abstract machine on lists of blocks, in which Go code is reckoned without a tape, without capacities and without orders: what its values and its blocks stand for in the world. No program is in sight here. -/
set_option linter.unusedVariables false
set_option linter.unusedSimpArgs false
namespace Go.Proofs.YthhbglkokpablaaGreat.E
open Go Go.RowKit

/-- A block: what its cells hold, how often it has grown, whether it may be written. -/
structure Blk where
 cells:List Value
 gen:Nat
 rw:Bool

abbrev AH:=List Blk
abbrev Env:=Nat→Value
/-- Where a block (as it was after so many growths) lies in the world: block, first cell, how many cells the world's block has. -/
abbrev Mp:=Nat→Nat→Option (Nat × Nat × Nat)

def upd (T:Env) (d:Nat) (v:Value):Env:=fun t=>if t=d then v else T t
theorem upd_same (T:Env) (d:Nat) (v:Value):upd T d v d=v:=by simp[upd]
theorem upd_ne (T:Env) (d t:Nat) (v:Value) (h:t≠d):upd T d v t=T t:=by simp[upd,h]

abbrev ap (b off g:Nat):Value:=.pointer (some ⟨b,off,some g⟩)
abbrev sl (b off g len e:Nat):Value:=.slice (some ⟨b,off,some g⟩) len e

/-- May it lie in one cell? -/
def one:Value→Bool
 | .agg _ | .tuple _=>false
 | _=>true

/-- What a value of the machine stands for. -/
inductive VR (M:Mp):Value→Value→Prop
 | bool (b:Bool):VR M (.bool b) (.bool b)
 | int (k:IntKind) (n:Int):VR M (.int k n) (.int k n)
 | str (s:ByteArray):VR M (.string s) (.string s)
 | nilp:VR M (.pointer none) (.pointer none)
 | ptr {b off g c o n:Nat} (h:M b g=some (c,o,n)):VR M (.pointer (some ⟨b,off,some g⟩)) (.pointer (some ⟨c,o+off,none⟩))
 | nils:VR M (.slice none 0 0) (.slice none 0 0)
 | zs {a':Addr} {e:Nat}:VR M (.slice (some ⟨0,0,none⟩) 0 e) (.slice (some a') 0 0)
 | ze {b off g e:Nat} {a':Addr} {x:Nat × Nat × Nat} (h:M b g=some x):VR M (.slice (some ⟨b,off,some g⟩) 0 e) (.slice (some a') 0 0)
 | sl {b off g c o n len e cap:Nat} (h:M b g=some (c,o,n)) (hl:len≤cap) (hc:o+off+cap*e≤n) :
   VR M (.slice (some ⟨b,off,some g⟩) len e) (.slice (some ⟨c,o+off,none⟩) len cap)
 | nilf:VR M .nilFunc .nilFunc
 | nili:VR M .nilIface .nilIface
 | fn {f:Fn} {xs ys zs ws:Array Value} (h:xs.size=ys.size) (hv:∀ i (h1:i<xs.size) (h2:i<ys.size),VR M xs[i] ys[i])
   (h':zs.size=ws.size) (hv':∀ i (h1:i<zs.size) (h2:i<ws.size),VR M zs[i] ws[i]):VR M (.func f xs zs) (.func f ys ws)
 | agg {xs ys:Array Value} (h:xs.size=ys.size) (ho:∀ i (h1:i<xs.size),one xs[i]=true)
   (hv:∀ i (h1:i<xs.size) (h2:i<ys.size),VR M xs[i] ys[i]):VR M (.agg xs) (.agg ys)
 | tup {xs ys:Array Value} (h:xs.size=ys.size) (hv:∀ i (h1:i<xs.size) (h2:i<ys.size),VR M xs[i] ys[i]):VR M (.tuple xs) (.tuple ys)

def MLe (M M':Mp):Prop:=∀ b g x,M b g=some x→M' b g=some x
theorem MLe.refl (M:Mp):MLe M M:=fun _ _ _ h=>h
theorem MLe.trans {M M' M'':Mp} (h:MLe M M') (k:MLe M' M''):MLe M M'':=fun b g x e=>k b g x (h b g x e)

theorem VR.mono {M M':Mp} (h:MLe M M') {v v':Value} (r:VR M v v'):VR M' v v':=by
 induction r with
 | bool b=>exact .bool b
 | int k n=>exact .int k n
 | str s=>exact .str s
 | nilp=>exact .nilp
 | ptr e=>exact .ptr (h _ _ _ e)
 | nils=>exact .nils
 | zs=>exact .zs
 | ze e=>exact .ze (h _ _ _ e)
 | sl e a b=>exact .sl (h _ _ _ e) a b
 | nilf=>exact .nilf
 | nili=>exact .nili
 | fn a _ b _ ih ih'=>exact .fn a ih b ih'
 | agg a o _ ih=>exact .agg a o ih
 | tup a _ ih=>exact .tup a ih

theorem VR.undef {M:Mp}:VR M undef undef:=.tup rfl (fun i h=>by simp at h)

theorem VR.one_eq {M:Mp} {v v':Value} (r:VR M v v'):one v'=one v:=by cases r <;> rfl

theorem VR.int_inv {M:Mp} {k:IntKind} {n:Int} {v':Value} (r:VR M (.int k n) v'):v'=.int k n:=by cases r;rfl
theorem VR.bool_inv {M:Mp} {b:Bool} {v':Value} (r:VR M (.bool b) v'):v'=.bool b:=by cases r;rfl
theorem VR.str_inv {M:Mp} {s:ByteArray} {v':Value} (r:VR M (.string s) v'):v'=.string s:=by cases r;rfl
theorem VR.ptr_inv {M:Mp} {b off g:Nat} {v':Value} (r:VR M (.pointer (some ⟨b,off,some g⟩)) v'):∃ c o n,M b g=some (c,o,n)∧v'=.pointer (some ⟨c,o+off,none⟩):=by
 cases r with|ptr h=>exact⟨_,_,_,h,rfl⟩
theorem VR.agg_inv {M:Mp} {xs:Array Value} {v':Value} (r:VR M (.agg xs) v'):∃ ys,v'=.agg ys∧xs.size=ys.size∧(∀ i (h1:i<xs.size),one xs[i]=true)∧∀ i (h1:i<xs.size) (h2:i<ys.size),VR M xs[i] ys[i]:=by
 cases r with|agg h o hv=>exact⟨_,rfl,h,o,hv⟩

/-- Two rows of values, place by place. -/
def VRs (M:Mp) (xs ys:List Value):Prop:=xs.length=ys.length∧∀ (i:Nat) v v',xs[i]?=some v→ys[i]?=some v'→VR M v v'
/-- Two rows of cells. -/
def VCs (M:Mp) (xs ys:List Value):Prop:=VRs M xs ys∧∀ v∈xs,one v=true

theorem VRs.nil {M:Mp}:VRs M [] []:=⟨rfl,fun i v v' h=>by simp at h⟩
theorem VRs.cons {M:Mp} {x y:Value} {xs ys:List Value} (h:VR M x y) (hs:VRs M xs ys):VRs M (x::xs) (y::ys):=
 ⟨by simp[hs.1],fun i v v' h1 h2=>by
  cases i with
  | zero=>simp at h1 h2;subst h1;subst h2;exact h
  | succ i=>simp at h1 h2;exact hs.2 i v v' h1 h2⟩
theorem VRs.mono {M M':Mp} (h:MLe M M') {xs ys:List Value} (r:VRs M xs ys):VRs M' xs ys:=⟨r.1,fun i v v' a b=>(r.2 i v v' a b).mono h⟩
theorem VCs.mono {M M':Mp} (h:MLe M M') {xs ys:List Value} (r:VCs M xs ys):VCs M' xs ys:=⟨r.1.mono h,r.2⟩
theorem VRs.get {M:Mp} {xs ys:List Value} (r:VRs M xs ys) {i:Nat} {v:Value} (h:xs[i]?=some v):∃ v',ys[i]?=some v'∧VR M v v':=by
 have hi:i<xs.length:=(List.getElem?_eq_some_iff.1 h).1
 have hj:i<ys.length:=by have:=r.1;omega
 exact⟨ys[i],List.getElem?_eq_getElem hj,r.2 i v _ h (List.getElem?_eq_getElem hj)⟩
theorem VRs.append {M:Mp} {xs ys xs' ys':List Value} (h:VRs M xs ys) (h':VRs M xs' ys'):VRs M (xs++xs') (ys++ys'):=by
 refine⟨by simp[h.1,h'.1],fun i v v' a b=>?_⟩
 by_cases hi:i<xs.length
 ·rw[List.getElem?_append_left hi] at a
  rw[List.getElem?_append_left (by have:=h.1;omega)] at b
  exact h.2 i v v' a b
 ·rw[List.getElem?_append_right (by omega)] at a
  rw[List.getElem?_append_right (by have:=h.1;omega)] at b
  rw[h.1] at a
  exact h'.2 _ v v' a b
theorem VRs.take {M:Mp} {xs ys:List Value} (h:VRs M xs ys) (n:Nat):VRs M (xs.take n) (ys.take n):=by
 refine⟨by simp[h.1],fun i v v' a b=>?_⟩
 rw[List.getElem?_take] at a b
 split at a
 ·rw[if_pos ‹_›] at b;exact h.2 i v v' a b
 ·cases a
theorem VRs.drop {M:Mp} {xs ys:List Value} (h:VRs M xs ys) (n:Nat):VRs M (xs.drop n) (ys.drop n):=by
 refine⟨by simp[h.1],fun i v v' a b=>?_⟩
 rw[List.getElem?_drop] at a b
 exact h.2 _ v v' a b
theorem VCs.append {M:Mp} {xs ys xs' ys':List Value} (h:VCs M xs ys) (h':VCs M xs' ys'):VCs M (xs++xs') (ys++ys'):=
 ⟨h.1.append h'.1,fun v hv=>by rcases List.mem_append.1 hv with k|k;exact h.2 v k;exact h'.2 v k⟩
theorem VCs.take {M:Mp} {xs ys:List Value} (h:VCs M xs ys) (n:Nat):VCs M (xs.take n) (ys.take n):=⟨h.1.take n,fun v hv=>h.2 v (List.mem_of_mem_take hv)⟩
theorem VCs.drop {M:Mp} {xs ys:List Value} (h:VCs M xs ys) (n:Nat):VCs M (xs.drop n) (ys.drop n):=⟨h.1.drop n,fun v hv=>h.2 v (List.mem_of_mem_drop hv)⟩

theorem VCs.agg {M:Mp} {xs ys:List Value} (h:VCs M xs ys):VR M (.agg xs.toArray) (.agg ys.toArray):=by
 refine .agg (by simpa using h.1.1) (fun i hi=>?_) (fun i h1 h2=>?_)
 ·have hi':i<xs.length:=by simpa using hi
  have:xs.toArray[i]=xs[i]:=by simp
  rw[this];exact h.2 _ (List.getElem_mem hi')
 ·have h1':i<xs.length:=by simpa using h1
  have h2':i<ys.length:=by simpa using h2
  have e1:xs.toArray[i]=xs[i]:=by simp
  have e2:ys.toArray[i]=ys[i]:=by simp
  rw[e1,e2]
  exact h.1.2 i _ _ (List.getElem?_eq_getElem h1') (List.getElem?_eq_getElem h2')

/-- The cells of a value, if it can lie in cells. -/
def cellsL:Value→Option (List Value)
 | .agg cs=>some cs.toList
 | .tuple _=>none
 | v=>some [v]

theorem cellsL_rel {M:Mp} {v v':Value} {cs:List Value} (r:VR M v v') (h:cellsL v=some cs):VCs M cs v'.cells.toList:=by
 cases r <;> simp only[cellsL,Option.some.injEq,reduceCtorEq] at h <;> subst h <;> simp only[Value.cells]
 case agg xs ys a o hv=>
  refine⟨⟨by simpa using a,fun i v v' h1 h2=>?_⟩,fun v hv'=>?_⟩
  ·obtain⟨i1,e1⟩:=List.getElem?_eq_some_iff.1 h1
   obtain⟨i2,e2⟩:=List.getElem?_eq_some_iff.1 h2
   have q:=hv i (by simpa using i1) (by simpa using i2)
   simp only[Array.getElem_toList] at e1 e2
   rw[← e1,← e2];exact q
  ·obtain⟨i,i1,e1⟩:=List.getElem_of_mem hv'
   simp only[Array.getElem_toList] at e1
   rw[← e1];exact o i (by simpa using i1)
 all_goals
  refine⟨VRs.cons (by first|exact .bool _|exact .int _ _|exact .str _|exact .nilp|exact .ptr ‹_› | exact .nils|exact .zs|exact .ze ‹_› | exact .sl ‹_› ‹_› ‹_› | exact .nilf|exact .nili|exact .fn ‹_› ‹_› ‹_› ‹_›) VRs.nil,fun v hv=>?_⟩
  simp at hv;subst hv;rfl

/-- What a block's cells stand for. -/
def CellR (M:Mp) (w:World) (c o:Nat) (cells:List Value):Prop:=
 ∀ (i:Nat) v,cells[i]?=some v→one v=true∧∃ v',w.cell? ⟨c,o+i,none⟩=some v'∧VR M v v'

def Cont (N0:Nat) (M:Mp) (w:World) (b:Nat) (k:Blk):Prop:=
 ∃ c o n,M b k.gen=some (c,o,n)∧(∀ g,k.gen<g→M b g=none)∧CellR M w c o k.cells∧(k.rw=true→N0≤c)

structure Hp (N0:Nat) (M:Mp) (w:World):Prop where
 lt:∀ {b g c o n},M b g=some (c,o,n)→c<w.heap.size
 own:∀ {b g c o n},M b g=some (c,o,n)→N0≤c→(∃ cs e fr,w.heap[c]?=some (.cells cs e fr)∧n=cs.size∧fr.1≤fr.2)∧∀ i,i<n→w.frozen? ⟨c,i,none⟩=false
 inj:∀ {b g c o n b' g' o' n'},M b g=some (c,o,n)→M b' g'=some (c,o',n')→N0≤c→b=b'
 hom:∀ {b g c o n g' c' o' n'},M b g=some (c,o,n)→M b g'=some (c',o',n')→N0≤c→N0≤c'

/-- What a step reads: these blocks, or any. -/
def inR:Option (List Nat)→Nat→Prop
 | none,_=>True
 | some l,b=>b∈l

structure Pre (N0:Nat) (H:AH) (R:Option (List Nat)) (M:Mp) (w:World):Prop where
 dom:∀ {b g x},M b g=some x→b<H.length
 hp:Hp N0 M w
 low:N0≤w.heap.size
 cont:∀ {b k},inR R b→H[b]?=some k→(∃ g x,M b g=some x)→Cont N0 M w b k

/-- From the blocks H to the blocks H', W of the old ones written. -/
structure Post (N0:Nat) (H H':AH) (W:List Nat) (M M':Mp) (w w':World):Prop where
 le:H.length≤H'.length
 same:∀ b,b<H.length→b∉W→H'[b]?=H[b]?
 ext:MLe M M'
 keep:∀ b g,b<H.length→b∉W→M' b g=M b g
 dom:∀ {b g x},M' b g=some x→b<H'.length
 absent:∀ b,b<H.length→(∀ g,M b g=none)→∀ g,M' b g=none
 fresh:∀ {b g c o n},M' b g=some (c,o,n)→(w.heap.size≤c∨∃ g',M b g'=some (c,o,n))
 frame:∀ c,c<w.heap.size→(∀ b∈W,∀ g o n,M b g≠some (c,o,n))→w'.heap[c]?=w.heap[c]?
 wown:∀ b,b∈W→(∃ g x,M b g=some x)∧∀ g c o n,M b g=some (c,o,n)→N0≤c
 hp:Hp N0 M' w'
 cont:∀ {b k},(b∈W∨H.length≤b)→H'[b]?=some k→(∃ g x,M' b g=some x)→Cont N0 M' w' b k
 size:w.heap.size≤w'.heap.size
 os:w'.os=w.os
 tape:w'.tape=w.tape
 output:w'.output=w.output

theorem CellR.keep {M M':Mp} {w w':World} {c o:Nat} {cs:List Value} (h:CellR M w c o cs) (hM:MLe M M') (hc:w'.heap[c]?=w.heap[c]?):CellR M' w' c o cs:=by
 intro i v hv
 obtain⟨h1,v',h2,h3⟩:=h i v hv
 refine⟨h1,v',?_,h3.mono hM⟩
 rw[← h2];exact World.cell?_of_block (w:=w) (a:=⟨c,o+i,none⟩) hc

theorem frozen_keep {w w':World} {c i:Nat} (hc:w'.heap[c]?=w.heap[c]?):w'.frozen? ⟨c,i,none⟩=w.frozen? ⟨c,i,none⟩:=World.frozen?_of_block (w:=w) (a:=⟨c,i,none⟩) hc

/-- What stands of the whole behind a step of which only a part was looked at. -/
theorem Post.all {N0:Nat} {H H':AH} {W:List Nat} {M M':Mp} {w w':World} (p:Pre N0 H none M w) (q:Post N0 H H' W M M' w w'):Pre N0 H' none M' w':=by
 refine⟨q.dom,q.hp,Nat.le_trans p.low q.size,fun {b k} _ hk hx=>?_⟩
 by_cases hb:b<H.length
 ·by_cases hw:b∈W
  ·exact q.cont (.inl hw) hk hx
  ·obtain⟨g,x,hx⟩:=hx
   rw[q.keep b g hb hw] at hx
   rw[q.same b hb hw] at hk
   obtain⟨c,o,n,e1,e2,e3,e4⟩:=p.cont (b:=b) trivial hk ⟨g,x,hx⟩
   have hc:w'.heap[c]?=w.heap[c]?:=by
    refine q.frame c (p.hp.lt e1) (fun b' hb' g' o' n' e'=>?_)
    have:=p.hp.inj e1 e' ((q.wown b' hb').2 _ _ _ _ e')
    exact hw (this ▸ hb')
   exact⟨c,o,n,by rw[q.keep b _ hb hw];exact e1,fun g' hg'=>by rw[q.keep b g' hb hw];exact e2 g' hg',e3.keep q.ext hc,e4⟩
 ·exact q.cont (.inr (by omega)) hk hx

theorem Post.refl {N0:Nat} {H:AH} {M:Mp} {w:World} (p:Pre N0 H none M w):Post N0 H H [] M M w w where
 le:=Nat.le_refl _
 same:=fun _ _ _=>rfl
 ext:=MLe.refl _
 keep:=fun _ _ _ _=>rfl
 dom:=p.dom
 absent:=fun _ _ h=>h
 fresh:=fun h=>.inr ⟨_,h⟩
 frame:=fun _ _ _=>rfl
 wown:=fun b h=>by cases h
 hp:=p.hp
 cont:=fun {b k} h hk=>by
  rcases h with h|h
  ·cases h
  ·rw[List.getElem?_eq_none h] at hk;cases hk
 size:=Nat.le_refl _
 os:=rfl
 tape:=rfl
 output:=rfl

/-- Two steps, one behind the other. What the second one wrote of what the first one made is no matter from outside. -/
theorem Post.trans {N0:Nat} {H H1 H2:AH} {W1 W2:List Nat} {M M1 M2:Mp} {w w1 w2:World} (p:Post N0 H H1 W1 M M1 w w1) (q:Post N0 H1 H2 W2 M1 M2 w1 w2) (hp0:Hp N0 M w) (pd:∀ {b g x},M b g=some x→b<H.length)
  (pall:Pre N0 H1 none M1 w1):Post N0 H H2 (W1++W2.filter (fun b=>decide (b<H.length))) M M2 w w2:=by
 have sub:∀ b,b<H.length→b∉W1++W2.filter (fun b=>decide (b<H.length))→b∉W1∧b∉W2:=fun b hb hn=>by
  refine⟨fun h=>hn (List.mem_append_left _ h),fun h=>hn (List.mem_append_right _ (List.mem_filter.2 ⟨h,by simpa using hb⟩))⟩
 have pres:∀ b,b<H.length→(∃ g x,M1 b g=some x)→∃ g x,M b g=some x:=fun b hb ⟨g,x,h⟩=>by
  refine Classical.byContradiction fun hn=>?_
  have hall:∀ g,M b g=none:=fun g=>by
   cases h':M b g with
   | none=>rfl
   | some x=>exact absurd ⟨g,x,h'⟩ hn
  rw[p.absent b hb hall g] at h;cases h
 refine⟨Nat.le_trans p.le q.le,fun b hb hn=>?_,p.ext.trans q.ext,fun b g hb hn=>?_,q.dom,fun b hb h g=>?_,fun h=>?_,fun c hc hW=>?_,fun b hb=>?_,q.hp,fun {b k} h hk hx=>?_,Nat.le_trans p.size q.size,q.os.trans p.os,q.tape.trans p.tape,q.output.trans p.output⟩
 ·obtain⟨h1,h2⟩:=sub b hb hn
  rw[q.same b (Nat.lt_of_lt_of_le hb p.le) h2,p.same b hb h1]
 ·obtain⟨h1,h2⟩:=sub b hb hn
  rw[q.keep b g (Nat.lt_of_lt_of_le hb p.le) h2,p.keep b g hb h1]
 ·exact q.absent b (Nat.lt_of_lt_of_le hb p.le) (p.absent b hb h) g
 ·rcases q.fresh h with h1|⟨g',h1⟩
  ·exact .inl (Nat.le_trans p.size h1)
  ·exact p.fresh h1
 ·have f1:w1.heap[c]?=w.heap[c]?:=p.frame c hc (fun b hb g o n e=>hW b (List.mem_append_left _ hb) g o n e)
  refine(q.frame c (Nat.lt_of_lt_of_le hc p.size) (fun b hb g o n e=>?_)).trans f1
  rcases p.fresh e with h1|⟨g',h1⟩
  ·omega
  ·exact hW b (List.mem_append_right _ (List.mem_filter.2 ⟨hb,by simpa using pd h1⟩)) g' o n h1
 ·rcases List.mem_append.1 hb with h|h
  ·exact p.wown b h
  ·obtain⟨h1,h2⟩:=List.mem_filter.1 h
   have hlt:b<H.length:=by simpa using h2
   exact⟨pres b hlt (q.wown b h1).1,fun g c o n e=>(q.wown b h1).2 g c o n (p.ext _ _ _ e)⟩
 ·exact(Post.all pall q).cont trivial hk hx

end Go.Proofs.YthhbglkokpablaaGreat.E
/- The machine's memory: a new block, a load, a store, an append, each beside what the world does. -/
set_option linter.unusedVariables false
set_option linter.unusedSimpArgs false
namespace Go.Proofs.YthhbglkokpablaaGreat.E
open Go Go.RowKit

theorem one_kit (v:Value):v.oneCell'=one v:=by cases v <;> rfl

theorem add_off (c o j:Nat):(⟨c,o,none⟩:Addr).add j=⟨c,o+j,none⟩:=by unfold Addr.add;split <;> simp_all

/-- The map with one place more. -/
def mset (M:Mp) (b g:Nat) (x:Nat × Nat × Nat):Mp:=fun b' g'=>if b'=b∧g'=g then some x else M b' g'
theorem mset_same (M:Mp) (b g:Nat) (x:Nat × Nat × Nat):mset M b g x b g=some x:=by simp[mset]
theorem mset_ne (M:Mp) {b g b' g':Nat} (x:Nat × Nat × Nat) (h:¬ (b'=b∧g'=g)):mset M b g x b' g'=M b' g':=by simp only[mset];rw[if_neg h]
theorem mset_le {M:Mp} {b g:Nat} {x:Nat × Nat × Nat} (h:M b g=none):MLe M (mset M b g x):=fun b' g' y e=>by
 by_cases hh:b'=b∧g'=g
 ·obtain⟨rfl,rfl⟩:=hh;rw[h] at e;cases e
 ·rw[mset_ne _ _ hh];exact e

/-- A block in which nothing is written is a step that writes nothing. -/
theorem Post.still {N0:Nat} {H:AH} {R:Option (List Nat)} {M:Mp} {w w':World} (p:Pre N0 H R M w) (hh:w'.heap=w.heap) (ho:w'.os=w.os) (ht:w'.tape=w.tape) (hu:w'.output=w.output):Post N0 H H [] M M w w' where
 le:=Nat.le_refl _
 same:=fun _ _ _=>rfl
 ext:=MLe.refl _
 keep:=fun _ _ _ _=>rfl
 dom:=p.dom
 absent:=fun _ _ h=>h
 fresh:=fun h=>.inr ⟨_,h⟩
 frame:=fun _ _ _=>by rw[hh]
 wown:=fun b h=>by cases h
 hp:=⟨fun h=>by rw[hh];exact p.hp.lt h,fun h hN=>⟨by rw[hh];exact(p.hp.own h hN).1,fun i hi=>by rw[← (p.hp.own h hN).2 i hi];exact frozen_keep (by rw[hh])⟩,fun h h' hN=>p.hp.inj h h' hN,fun h h' hN=>p.hp.hom h h' hN⟩
 cont:=fun {b k} h hk=>by
  rcases h with h|h
  ·cases h
  ·rw[List.getElem?_eq_none h] at hk;cases hk
 size:=by rw[hh];exact Nat.le_refl _
 os:=ho
 tape:=ht
 output:=hu

/-- What a new row of cells in the world is to the machine. The world may have been asked for something ahead of it. -/
theorem Post.new_fr {N0:Nat} {H:AH} {R:Option (List Nat)} {M:Mp} {w w1:World} (p:Pre N0 H R M w) (cs:List Value) (cells:Array Value) (e:TypeId) (rw_:Bool) (fr:Nat × Nat) (hfr:fr=(0,0)∨(cells.size≤fr.1∧fr.1≤fr.2))
  (hh:w1.heap=w.heap) (ho:w1.os=w.os) (ht:w1.tape=w.tape) (hu:w1.output=w.output)
  (h:∀ (i:Nat) v,cs[i]?=some v→one v=true∧∃ v',cells[i]?=some v'∧VR M v v') :
  Post N0 H (H++[⟨cs,0,rw_⟩]) [] M (mset M H.length 0 (w.heap.size,0,cells.size)) w (w1.alloc (.cells cells e fr)):=by
 have none_new:∀ g,M H.length g=none:=fun g=>by
  cases h':M H.length g with
  | none=>rfl
  | some x=>exact absurd (p.dom h') (Nat.lt_irrefl _)
 have hle:MLe M (mset M H.length 0 (w.heap.size,0,cells.size)):=mset_le (none_new 0)
 have hnew:(w1.alloc (.cells cells e fr)).heap[w.heap.size]?=some (.cells cells e fr):=by
  simp[World.alloc,hh]
 have hold:∀ c,c<w.heap.size→(w1.alloc (.cells cells e fr)).heap[c]?=w.heap[c]?:=fun c hc=>by
  have:c<w1.heap.size:=by rw[hh];exact hc
  rw[Below.heap_alloc _ _ _ this,hh]
 refine⟨by simp,fun b hb _=>List.getElem?_append_left hb,hle,fun b g hb _=>mset_ne _ _ (by omega),fun {b g x} hx=>?_,fun b hb hn g=>?_,fun {b g c o n} hx=>?_,fun c hc _=>hold c hc,fun b hb=>by(cases hb),⟨fun {b g c o n} hx=>?_,fun {b g c o n} hx hN=>?_,fun {b g c o n b' g' o' n'} hx hx' hN=>?_,fun {b g c o n g' c' o' n'} hx hx' hN=>?_⟩,fun {b k} hb hk hx=>?_,?_,ho,ht,hu⟩
 ·by_cases hh':b=H.length∧g=0
  ·simp[hh'.1]
  ·rw[mset_ne _ _ hh'] at hx;have:=p.dom hx;simp;omega
 ·rw[mset_ne _ _ (by omega)];exact hn g
 ·by_cases hh':b=H.length∧g=0
  ·obtain⟨rfl,rfl⟩:=hh';rw[mset_same] at hx;cases hx;exact .inl (Nat.le_refl _)
  ·rw[mset_ne _ _ hh'] at hx;exact .inr ⟨g,hx⟩
 ·by_cases hh':b=H.length∧g=0
  ·obtain⟨rfl,rfl⟩:=hh';rw[mset_same] at hx;cases hx;simp[World.alloc,hh]
  ·rw[mset_ne _ _ hh'] at hx;have:=p.hp.lt hx;simp[World.alloc,hh];omega
 ·by_cases hh':b=H.length∧g=0
  ·obtain⟨rfl,rfl⟩:=hh';rw[mset_same] at hx;cases hx
   refine⟨⟨cells,e,fr,hnew,rfl,by rcases hfr with rfl|⟨_,h⟩;exact Nat.le_refl _;exact h⟩,fun i hi=>?_⟩
   rcases hfr with rfl|⟨hfr,_⟩
   ·simp[World.frozen?,hnew]
   ·have hni:¬ fr.1≤i:=by omega
    simp[World.frozen?,hnew,hni]
  ·rw[mset_ne _ _ hh'] at hx
   have hlt:=p.hp.lt hx
   obtain⟨h1,h2⟩:=p.hp.own hx hN
   exact⟨by rw[hold c hlt];exact h1,fun i hi=>by rw[← h2 i hi];exact frozen_keep (hold c hlt)⟩
 ·by_cases h1:b=H.length∧g=0
  ·by_cases h2:b'=H.length∧g'=0
   ·rw[h1.1,h2.1]
   ·obtain⟨rfl,rfl⟩:=h1
    rw[mset_same] at hx;cases hx
    rw[mset_ne _ _ h2] at hx'
    exact absurd (p.hp.lt hx') (Nat.lt_irrefl _)
  ·by_cases h2:b'=H.length∧g'=0
   ·obtain⟨rfl,rfl⟩:=h2
    rw[mset_same] at hx';cases hx'
    rw[mset_ne _ _ h1] at hx
    exact absurd (p.hp.lt hx) (Nat.lt_irrefl _)
   ·rw[mset_ne _ _ h1] at hx;rw[mset_ne _ _ h2] at hx';exact p.hp.inj hx hx' hN
 ·by_cases h1:b=H.length∧g'=0
  ·obtain⟨rfl,rfl⟩:=h1
   rw[mset_same] at hx';cases hx';exact p.low
  ·rw[mset_ne _ _ h1] at hx'
   by_cases h2:b=H.length∧g=0
   ·exact absurd (p.dom hx') (by omega)
   ·rw[mset_ne _ _ h2] at hx;exact p.hp.hom hx hx' hN
 ·rcases hb with hb|hb
  ·cases hb
  ·have hlt:b<(H++[(⟨cs,0,rw_⟩:Blk)]).length:=(List.getElem?_eq_some_iff.1 hk).1
   have hbe:b=H.length:=by simp at hlt;omega
   subst hbe
   rw[List.getElem?_append_right (Nat.le_refl _)] at hk
   simp at hk
   subst hk
   refine⟨w.heap.size,0,cells.size,mset_same _ _ _ _,fun g hg=>by rw[mset_ne _ _ (by simp at hg;omega)];exact none_new g,fun i v hv=>?_,fun _=>p.low⟩
   obtain⟨h1,v',h2,h3⟩:=h i v hv
   refine⟨h1,v',?_,h3.mono hle⟩
   rw[cell_of_row _ _ _ _ _ _ hnew];simpa using h2
 ·simp[World.alloc,hh]
theorem Post.new {N0:Nat} {H:AH} {R:Option (List Nat)} {M:Mp} {w w1:World} (p:Pre N0 H R M w) (cs:List Value) (cells:Array Value) (e:TypeId) (rw_:Bool)
  (hh:w1.heap=w.heap) (ho:w1.os=w.os) (ht:w1.tape=w.tape) (hu:w1.output=w.output)
  (h:∀ (i:Nat) v,cs[i]?=some v→one v=true∧∃ v',cells[i]?=some v'∧VR M v v') :
  Post N0 H (H++[⟨cs,0,rw_⟩]) [] M (mset M H.length 0 (w.heap.size,0,cells.size)) w (w1.alloc (.cells cells e)):=
 Post.new_fr p cs cells e rw_ (0,0) (.inl rfl) hh ho ht hu h

theorem new_ptr {M:Mp} {b n:Nat} {w:World}:VR (mset M b 0 (w.heap.size,0,n)) (ap b 0 0) (.pointer (some ⟨w.heap.size,0,none⟩)):=by
 have:=VR.ptr (M:=mset M b 0 (w.heap.size,0,n)) (off:=0) (mset_same _ _ _ _)
 simpa using this

/-- What lies at a place that may be read. -/
theorem cell_at {N0:Nat} {H:AH} {R:Option (List Nat)} {M:Mp} {w:World} (p:Pre N0 H R M w) {b g c o n:Nat} {k:Blk} (hR:inR R b) (hk:H[b]?=some k) (hg:g=k.gen) (hM:M b g=some (c,o,n)):CellR M w c o k.cells∧(k.rw=true→N0≤c):=by
 subst hg
 obtain⟨c1,o1,n1,e1,_,e3,e4⟩:=p.cont hR hk ⟨_,_,hM⟩
 rw[hM] at e1;cases e1
 exact⟨e3,e4⟩

/-- The cells of a part of a block, as the world has them. -/
theorem cells_at {M:Mp} {w:World} {c o:Nat} {cs:List Value} (h:CellR M w c o cs) (off s:Nat) (hs:off+s≤cs.length) :
  ∃ cs',cs'.length=s∧(∀ j v,cs'[j]?=some v→w.cell? ⟨c,o+off+j,none⟩=some v)∧VCs M ((cs.drop off).take s) cs':=by
 induction s with
 | zero=>exact⟨[],rfl,fun j v h=>by simp at h,⟨by simp[VRs],by simp⟩⟩
 | succ s ih=>
  obtain⟨cs',l1,l2,l3⟩:=ih (by omega)
  obtain⟨h1,v',h2,h3⟩:=h (off+s) cs[off+s] (List.getElem?_eq_getElem (by omega))
  refine⟨cs'++[v'],by simp[l1],fun j v hj=>?_,?_⟩
  ·by_cases hlt:j<cs'.length
   ·rw[List.getElem?_append_left hlt] at hj;exact l2 j v hj
   ·rw[List.getElem?_append_right (by omega)] at hj
    have:j=cs'.length:=by
     have:=(List.getElem?_eq_some_iff.1 hj).1
     simp at this;omega
    subst this
    simp at hj;subst hj
    rw[l1,show o+off+s=o+(off+s) by omega];exact h2
  ·have e:(cs.drop off).take (s+1)=(cs.drop off).take s++[cs[off+s]]:=by
    rw[List.take_succ_eq_append_getElem (by simp;omega)]
    simp
   rw[e]
   exact l3.append ⟨VRs.cons h3 VRs.nil,fun v hv=>by simp at hv;subst hv;exact h1⟩


theorem setCells_block (b:Nat):∀ (vs:List Value) (o:Nat) (w:World) (c:Nat),c≠b→(w.setCells b o vs).heap[c]?=w.heap[c]?
 | [],_,_,_,_=>rfl
 | v::r,o,w,c,h=>by rw[World.setCells,setCells_block b r (o+1) _ c h];exact Below.heap_setCell _ _ _ _ h
theorem setCells_size (b:Nat):∀ (vs:List Value) (o:Nat) (w:World),(w.setCells b o vs).heap.size=w.heap.size
 | [],_,_=>rfl
 | v::r,o,w=>by rw[World.setCells,setCells_size b r (o+1) _];simp
theorem setCells_rest (b:Nat):∀ (vs:List Value) (o:Nat) (w:World),(w.setCells b o vs).os=w.os∧(w.setCells b o vs).tape=w.tape∧(w.setCells b o vs).output=w.output
 | [],_,_=>⟨rfl,rfl,rfl⟩
 | v::r,o,w=>by rw[World.setCells];exact setCells_rest b r (o+1) _
theorem setCells_shape (b:Nat):∀ (vs:List Value) (o:Nat) (w:World) (cs:Array Value) (e:TypeId) (fr:Nat × Nat),w.heap[b]?=some (.cells cs e fr)→∃ cs',(w.setCells b o vs).heap[b]?=some (.cells cs' e fr)∧cs'.size=cs.size
 | [],_,_,cs,e,fr,h=>⟨cs,h,rfl⟩
 | v::r,o,w,cs,e,fr,h=>by
  rw[World.setCells]
  obtain⟨cs',h1,h2⟩:=setCells_shape b r (o+1) (w.setCell ⟨b,o,none⟩ v) (cs.setIfInBounds o v) e fr (by simp[World.setCell,Array.getElem?_modify,h])
  exact⟨cs',h1,by simpa using h2⟩

def splice (l:List Value) (off:Nat) (cs:List Value):List Value:=l.take off++cs++l.drop (off+cs.length)

theorem splice_length (l:List Value) (off:Nat) (cs:List Value) (h:off+cs.length≤l.length):(splice l off cs).length=l.length:=by
 simp[splice];omega

theorem splice_get (l:List Value) (off:Nat) (cs:List Value) (h:off+cs.length≤l.length) (i:Nat) :
  (splice l off cs)[i]?=if i<off then l[i]? else if i<off+cs.length then cs[i - off]? else l[i]?:=by
 unfold splice
 have ht:(l.take off).length=off:=by simp;omega
 by_cases h1:i<off
 ·rw[if_pos h1,List.append_assoc,List.getElem?_append_left (by omega),List.getElem?_take,if_pos h1]
 ·rw[if_neg h1,List.append_assoc,List.getElem?_append_right (by omega),ht]
  by_cases h2:i<off+cs.length
  ·rw[if_pos h2,List.getElem?_append_left (by omega)]
  ·rw[if_neg h2,List.getElem?_append_right (by omega),List.getElem?_drop]
   congr 1;omega

theorem Post.stored {N0:Nat} {H:AH} {R:Option (List Nat)} {M:Mp} {w:World} (p:Pre N0 H R M w) {b c o n:Nat} {k:Blk} (hR:inR R b) (hk:H[b]?=some k) (hM:M b k.gen=some (c,o,n)) (hrw:k.rw=true)
  (off:Nat) (cs vs:List Value) (hoff:off+cs.length≤k.cells.length) (hv:VCs M cs vs) :
  Post N0 H (H.set b ⟨splice k.cells off cs,k.gen,true⟩) [b] M M w (w.setCells c (o+off) vs):=by
 have hlt:b<H.length:=(List.getElem?_eq_some_iff.1 hk).1
 obtain⟨hc,hN⟩:=cell_at p hR hk rfl hM
 have hN:=hN hrw
 obtain⟨c0,o0,n0,e0,hg0,_,_⟩:=p.cont hR hk ⟨_,_,hM⟩
 obtain⟨⟨ccs,ce,cfr,hb1,hb2,hbf⟩,hfz⟩:=p.hp.own hM hN
 obtain⟨ccs',hb3,hb4⟩:=setCells_shape c vs (o+off) w ccs ce cfr hb1
 have hrest:=setCells_rest c vs (o+off) w
 have hall:∀ g c' o' n',M b g=some (c',o',n')→N0≤c':=fun g c' o' n' h=>p.hp.hom hM h hN
 refine⟨by simp,fun b' hb' hn=>?_,MLe.refl _,fun _ _ _ _=>rfl,fun {b' g' x'} h=>by have:=p.dom h;simpa using this,fun _ _ h=>h,fun h=>.inr ⟨_,h⟩,fun c' hc' hW=>setCells_block c vs (o+off) w c' (fun e=>hW b (by simp) k.gen o n (by rw[hM,e])),fun b' hb'=>?_,⟨fun h=>by rw[setCells_size];exact p.hp.lt h,fun {b' g' c' o' n'} h hN'=>?_,fun h h' hN=>p.hp.inj h h' hN,fun h h' hN=>p.hp.hom h h' hN⟩,fun {b' k'} hb' hk' hx=>?_,by rw[setCells_size];exact Nat.le_refl _,hrest.1,hrest.2.1,hrest.2.2⟩
 ·have:b'≠b:=fun e=>hn (by simp[e])
  rw[List.getElem?_set_ne (Ne.symm this)]
 ·simp at hb';subst hb';exact⟨⟨_,_,hM⟩,hall⟩
 ·obtain⟨h1,h2⟩:=p.hp.own h hN'
  refine⟨?_,fun i hi=>by rw[World.frozen?_setCells];exact h2 i hi⟩
  by_cases hcc:c'=c
  ·subst hcc
   obtain⟨cs1,e1,fr1,f1,f2⟩:=h1
   rw[hb1] at f1;cases f1
   exact⟨ccs',ce,cfr,hb3,by rw[f2.1,hb4],hbf⟩
  ·rw[setCells_block c vs (o+off) w c' hcc];exact h1
 ·have hbb:b'=b:=by
   rcases hb' with hb'|hb'
   ·simpa using hb'
   ·have:=(List.getElem?_eq_some_iff.1 hk').1;simp at this;omega
  subst hbb
  rw[List.getElem?_set_self hlt] at hk'
  cases hk'
  refine⟨c,o,n,hM,?_,fun i v hi=>?_,fun _=>hN⟩
  ·rw[hM] at e0;cases e0;exact hg0
  ·rw[splice_get _ _ _ hoff] at hi
   have isS:∀ j,j<vs.length→(w.cell? ⟨c,o+off+j,none⟩).isSome=true:=fun j hj=>by
    have hj':j<cs.length:=by have:=hv.1.1;omega
    obtain⟨_,v',h2,_⟩:=hc (off+j) k.cells[off+j] (List.getElem?_eq_getElem (by omega))
    rw[show o+off+j=o+(off+j) by omega,h2];rfl
   by_cases h1:i<off
   ·rw[if_pos h1] at hi
    obtain⟨g1,v',g2,g3⟩:=hc i v hi
    refine⟨g1,v',?_,g3⟩
    rw[World.cell?_setCells_out c vs _ w _ (fun _ _=>Or.inl (by simp;omega))];exact g2
   ·rw[if_neg h1] at hi
    by_cases h2:i<off+cs.length
    ·rw[if_pos h2] at hi
     obtain⟨v',g2,g3⟩:=hv.1.get hi
     obtain⟨hj,e⟩:=List.getElem?_eq_some_iff.1 g2
     refine⟨hv.2 v (List.mem_of_getElem? hi),v',?_,g3⟩
     have:=World.cell?_setCells_in c vs (o+off) w isS (i - off) hj
     rw[show o+off+(i - off)=o+i by omega] at this
     rw[this,e]
    ·rw[if_neg h2] at hi
     obtain⟨g1,v',g2,g3⟩:=hc i v hi
     refine⟨g1,v',?_,g3⟩
     rw[World.cell?_setCells_out c vs _ w _ (fun _ _=>Or.inr (by have:=hv.1.1;simp;omega))];exact g2

end Go.Proofs.YthhbglkokpablaaGreat.E
/- Growth: an append is, to the machine, the same block with more cells; in the world it is written where there is room, or laid anew. -/
set_option linter.unusedVariables false
set_option linter.unusedSimpArgs false
namespace Go.Proofs.YthhbglkokpablaaGreat.E
open Go Go.RowKit

/-- In place. -/
theorem Post.grow_in {N0:Nat} {H:AH} {R:Option (List Nat)} {M:Mp} {w:World} (p:Pre N0 H R M w) {b c o n:Nat} {k:Blk} (hR:inR R b) (hk:H[b]?=some k) (hM:M b k.gen=some (c,o,n)) (hrw:k.rw=true)
  (cs vs:List Value) (hfit:o+k.cells.length+cs.length≤n) (hv:VCs M cs vs) :
  Post N0 H (H.set b ⟨k.cells++cs,k.gen+1,true⟩) [b] M (mset M b (k.gen+1) (c,o,n)) w (w.setCells c (o+k.cells.length) vs):=by
 have hlt:b<H.length:=(List.getElem?_eq_some_iff.1 hk).1
 obtain⟨hc,hN⟩:=cell_at p hR hk rfl hM
 have hN:=hN hrw
 obtain⟨c0,o0,n0,e0,hg0,_,_⟩:=p.cont hR hk ⟨_,_,hM⟩
 obtain⟨⟨ccs,ce,cfr,hb1,hb2,hbf⟩,hfz⟩:=p.hp.own hM hN
 obtain⟨ccs',hb3,hb4⟩:=setCells_shape c vs (o+k.cells.length) w ccs ce cfr hb1
 have hrest:=setCells_rest c vs (o+k.cells.length) w
 have hall:∀ g c' o' n',M b g=some (c',o',n')→N0≤c':=fun g c' o' n' h=>p.hp.hom hM h hN
 have hle:MLe M (mset M b (k.gen+1) (c,o,n)):=mset_le (hg0 _ (by omega))
 have old:∀ {b' g' x'},mset M b (k.gen+1) (c,o,n) b' g'=some x'→∃ g'',M b' g''=some x':=fun {b' g' x'} h=>by
  by_cases hh:b'=b∧g'=k.gen+1
  ·obtain⟨rfl,rfl⟩:=hh;rw[mset_same] at h;cases h;exact⟨_,hM⟩
  ·rw[mset_ne _ _ hh] at h;exact⟨_,h⟩
 refine⟨by simp,fun b' hb' hn=>?_,hle,fun b' g' hb' hn=>mset_ne _ _ (fun h=>hn (by simp[h.1])),fun {b' g' x'} h=>by obtain⟨_,h⟩:=old h;have:=p.dom h;simpa using this,fun b' hb' h g=>?_,fun h=>.inr (old h),fun c' hc' hW=>setCells_block c vs _ w c' (fun e=>hW b (by simp) k.gen o n (by rw[hM,e])),fun b' hb'=>?_,⟨fun h=>by obtain⟨_,h⟩:=old h;rw[setCells_size];exact p.hp.lt h,fun {b' g' c' o' n'} h hN'=>?_,fun h h' hN=>?_,fun h h' hN=>?_⟩,fun {b' k'} hb' hk' hx=>?_,by rw[setCells_size];exact Nat.le_refl _,hrest.1,hrest.2.1,hrest.2.2⟩
 ·have:b'≠b:=fun e=>hn (by simp[e])
  rw[List.getElem?_set_ne (Ne.symm this)]
 ·cases hm:mset M b (k.gen+1) (c,o,n) b' g with
  | none=>rfl
  | some x=>obtain⟨g'',h''⟩:=old hm;rw[h g''] at h'';cases h''
 ·simp at hb';subst hb';exact⟨⟨_,_,hM⟩,hall⟩
 ·obtain⟨_,h⟩:=old h
  obtain⟨h1,h2⟩:=p.hp.own h hN'
  refine⟨?_,fun i hi=>by rw[World.frozen?_setCells];exact h2 i hi⟩
  by_cases hcc:c'=c
  ·subst hcc
   obtain⟨cs1,e1,fr1,f1,f2⟩:=h1
   rw[hb1] at f1;cases f1
   exact⟨ccs',ce,cfr,hb3,by rw[f2.1,hb4],hbf⟩
  ·rw[setCells_block c vs _ w c' hcc];exact h1
 ·obtain⟨_,h⟩:=old h;obtain⟨_,h'⟩:=old h';exact p.hp.inj h h' hN
 ·obtain⟨_,h⟩:=old h;obtain⟨_,h'⟩:=old h';exact p.hp.hom h h' hN
 ·have hbb:b'=b:=by
   rcases hb' with hb'|hb'
   ·simpa using hb'
   ·have:=(List.getElem?_eq_some_iff.1 hk').1;simp at this;omega
  subst hbb
  rw[List.getElem?_set_self hlt] at hk'
  cases hk'
  refine⟨c,o,n,mset_same _ _ _ _,fun g' hg'=>?_,fun i v hi=>?_,fun _=>hN⟩
  ·simp at hg'
   rw[mset_ne _ _ (by omega)];exact hg0 g' (by omega)
  ·have hsz:vs.length=cs.length:=hv.1.1.symm
   have isS:∀ j,j<vs.length→(w.cell? ⟨c,o+k.cells.length+j,none⟩).isSome=true:=fun j hj=>by
    rw[cell_of_row _ _ _ _ _ _ hb1,Array.getElem?_eq_getElem (by omega)];rfl
   by_cases h1:i<k.cells.length
   ·rw[List.getElem?_append_left h1] at hi
    obtain⟨g1,v',g2,g3⟩:=hc i v hi
    refine⟨g1,v',?_,g3.mono hle⟩
    rw[World.cell?_setCells_out c vs _ w _ (fun _ _=>Or.inl (by simp;omega))];exact g2
   ·rw[List.getElem?_append_right (by omega)] at hi
    obtain⟨v',g2,g3⟩:=hv.1.get hi
    obtain⟨hj,e⟩:=List.getElem?_eq_some_iff.1 g2
    refine⟨hv.2 v (List.mem_of_getElem? hi),v',?_,g3.mono hle⟩
    have:=World.cell?_setCells_in c vs (o+k.cells.length) w isS (i - k.cells.length) hj
    rw[show o+k.cells.length+(i - k.cells.length)=o+i by omega] at this
    rw[this,e]

/-- Laid anew. -/
theorem Post.grow_new {N0:Nat} {H:AH} {R:Option (List Nat)} {M:Mp} {w w1:World} (p:Pre N0 H R M w) {b c o n:Nat} {k:Blk} (hR:inR R b) (hk:H[b]?=some k) (hM:M b k.gen=some (c,o,n)) (hrw:k.rw=true)
  (cs:List Value) (cells:Array Value) (e:TypeId) (hh:w1.heap=w.heap) (ho:w1.os=w.os) (ht:w1.tape=w.tape) (hu:w1.output=w.output)
  (h:∀ (i:Nat) v,(k.cells++cs)[i]?=some v→one v=true∧∃ v',cells[i]?=some v'∧VR M v v') :
  Post N0 H (H.set b ⟨k.cells++cs,k.gen+1,true⟩) [b] M (mset M b (k.gen+1) (w.heap.size,0,cells.size)) w (w1.alloc (.cells cells e)):=by
 have hlt:b<H.length:=(List.getElem?_eq_some_iff.1 hk).1
 obtain⟨hc,hN⟩:=cell_at p hR hk rfl hM
 have hN:=hN hrw
 obtain⟨c0,o0,n0,e0,hg0,_,_⟩:=p.cont hR hk ⟨_,_,hM⟩
 have hall:∀ g c' o' n',M b g=some (c',o',n')→N0≤c':=fun g c' o' n' h=>p.hp.hom hM h hN
 have hle:MLe M (mset M b (k.gen+1) (w.heap.size,0,cells.size)):=mset_le (hg0 _ (by omega))
 have hnew:(w1.alloc (.cells cells e)).heap[w.heap.size]?=some (.cells cells e):=by
  simp[World.alloc,hh]
 have hold:∀ c,c<w.heap.size→(w1.alloc (.cells cells e)).heap[c]?=w.heap[c]?:=fun c hc=>by
  have:c<w1.heap.size:=by rw[hh];exact hc
  rw[Below.heap_alloc _ _ _ this,hh]
 have old:∀ {b' g' x'},mset M b (k.gen+1) (w.heap.size,0,cells.size) b' g'=some x'→(b'=b∧g'=k.gen+1∧x'=(w.heap.size,0,cells.size))∨M b' g'=some x':=fun {b' g' x'} h=>by
  by_cases hh:b'=b∧g'=k.gen+1
  ·obtain⟨rfl,rfl⟩:=hh;rw[mset_same] at h;cases h;exact .inl ⟨rfl,rfl,rfl⟩
  ·rw[mset_ne _ _ hh] at h;exact .inr h
 refine⟨by simp,fun b' hb' hn=>?_,hle,fun b' g' hb' hn=>mset_ne _ _ (fun h=>hn (by simp[h.1])),fun {b' g' x'} h=>?_,fun b' hb' h g=>?_,fun h=>?_,fun c' hc' _=>hold c' hc',fun b' hb'=>?_,⟨fun h=>?_,fun {b' g' c' o' n'} h hN'=>?_,fun {b1 g1 c1 o1 n1 b2 g2 o2 n2} h h' hN=>?_,fun {b1 g1 c1 o1 n1 g2 c2 o2 n2} h h' hN=>?_⟩,fun {b' k'} hb' hk' hx=>?_,by simp[World.alloc,hh],ho,ht,hu⟩
 ·have:b'≠b:=fun e=>hn (by simp[e])
  rw[List.getElem?_set_ne (Ne.symm this)]
 ·rcases old h with ⟨rfl,_,_⟩|h
  ·simpa using hlt
  ·have:=p.dom h;simpa using this
 ·cases hm:mset M b (k.gen+1) (w.heap.size,0,cells.size) b' g with
  | none=>rfl
  | some x=>
   rcases old hm with ⟨rfl,_,_⟩|h'
   ·rw[h k.gen] at hM;cases hM
   ·rw[h g] at h';cases h'
 ·rcases old h with ⟨_,_,e⟩|h
  ·cases e;exact .inl (Nat.le_refl _)
  ·exact .inr ⟨_,h⟩
 ·simp at hb';subst hb';exact⟨⟨_,_,hM⟩,hall⟩
 ·rcases old h with ⟨_,_,e⟩|h
  ·cases e;simp[World.alloc,hh]
  ·have:=p.hp.lt h;simp[World.alloc,hh];omega
 ·rcases old h with ⟨_,_,e'⟩|h
  ·cases e'
   exact⟨⟨cells,e,(0,0),hnew,rfl,Nat.le_refl _⟩,fun i _=>by simp[World.frozen?,hnew]⟩
  ·have hlt:=p.hp.lt h
   obtain⟨h1,h2⟩:=p.hp.own h hN'
   exact⟨by rw[hold _ hlt];exact h1,fun i hi=>by rw[← h2 i hi];exact frozen_keep (hold _ hlt)⟩
 ·rcases old h with ⟨e1,_,e1'⟩|h <;> rcases old h' with ⟨e2,_,e2'⟩|h'
  ·rw[e1,e2]
  ·cases e1';exact absurd (p.hp.lt h') (Nat.lt_irrefl _)
  ·cases e2';exact absurd (p.hp.lt h) (Nat.lt_irrefl _)
  ·exact p.hp.inj h h' hN
 ·rcases old h' with ⟨e2,_,e2'⟩|hx'
  ·cases e2';exact p.low
  ·rcases old h with ⟨e1,_,e1'⟩|hx
   ·rw[e1] at hx';exact p.hp.hom hM hx' (hall _ _ _ _ hM)
   ·exact p.hp.hom hx hx' hN
 ·have hbb:b'=b:=by
   rcases hb' with hb'|hb'
   ·simpa using hb'
   ·have:=(List.getElem?_eq_some_iff.1 hk').1;simp at this;omega
  subst hbb
  rw[List.getElem?_set_self hlt] at hk'
  cases hk'
  refine⟨w.heap.size,0,cells.size,mset_same _ _ _ _,fun g' hg'=>?_,fun i v hi=>?_,fun _=>p.low⟩
  ·simp at hg'
   rw[mset_ne _ _ (by omega)];exact hg0 g' (by omega)
  ·obtain⟨h1,v',h2,h3⟩:=h i v hi
   refine⟨h1,v',?_,h3.mono hle⟩
   rw[cell_of_row _ _ _ _ _ _ hnew];simpa using h2

end Go.Proofs.YthhbglkokpablaaGreat.E
/- The machine's steps that call nothing: what each operation makes of values and blocks. -/
set_option linter.unusedVariables false
set_option linter.unusedSimpArgs false
namespace Go.Proofs.YthhbglkokpablaaGreat.E
open Go Go.RowKit

/-- A value that leads nowhere. -/
def plain1:Value→Bool
 | .int _ _ | .bool _ | .string _ | .nilFunc | .nilIface | .pointer none | .slice none 0 0=>true
 | _=>false

theorem plain1_rel {M:Mp} {v:Value} (h:plain1 v=true):VR M v v:=by
 unfold plain1 at h
 split at h
 ·exact .int _ _
 ·exact .bool _
 ·exact .str _
 ·exact .nilf
 ·exact .nili
 ·exact .nilp
 ·exact .nils
 ·cases h
theorem plain1_one {v:Value} (h:plain1 v=true):one v=true:=by
 unfold plain1 at h
 split at h <;> first|rfl|cases h

def plain:Value→Bool
 | .agg cs=>cs.toList.all plain1
 | v=>plain1 v

theorem plains_rel {M:Mp} {l:List Value} (h:l.all plain1=true):VCs M l l:=by
 rw[List.all_eq_true] at h
 refine⟨⟨rfl,fun i v v' h1 h2=>?_⟩,fun v hv=>plain1_one (h v hv)⟩
 rw[h1] at h2;cases h2
 exact plain1_rel (h v (List.mem_of_getElem? h1))

theorem plain_rel {M:Mp} {v:Value} (h:plain v=true):VR M v v:=by
 unfold plain at h
 split at h
 ·have:=(plains_rel (M:=M) h).agg
  simpa using this
 ·exact plain1_rel h

/-- What an operand is. -/
def ev (T:Env):Operand→Option Value
 | .tmp t=>some (T t)
 | .const v=>if plain v then some v else none
 | .func f=>some (.func (.func f) #[] #[])
 | .global _=>none

def evs (T:Env):List Operand→Option (List Value)
 | []=>some []
 | x::xs=>match ev T x,evs T xs with
  | some v,some vs=>some (v::vs)
  | _,_=>none

def evp (T:Env):List (Nat × Operand)→Option (List (Nat × Value))
 | []=>some []
 | (i,x)::xs=>match ev T x,evp T xs with
  | some v,some vs=>some ((i,v)::vs)
  | _,_=>none

def evo (T:Env):Option Operand→Option (Option Value)
 | none=>some none
 | some x=>(ev T x).map some

/-- The frame's slots, as the machine has them. -/
def ActR (M:Mp) (sz:Nat) (T:Env) (a:Act):Prop:=a.tmps.size=sz∧a.defers=[]∧∀ t,VR M (T t) (a.tmps.getD t undef)

theorem ev_rel {M:Mp} {sz:Nat} {T:Env} {a:Act} (h:ActR M sz T a) {x:Operand} {v:Value} (e:ev T x=some v):VR M v (a.eval x):=by
 cases x with
 | tmp t=>simp only[ev,Option.some.injEq] at e;subst e;exact h.2.2 t
 | const c=>
  simp only[ev] at e
  split at e
  ·cases e;exact plain_rel ‹_›
  ·cases e
 | global g=>cases e
 | func f=>
  simp only[ev,Option.some.injEq] at e;subst e
  exact .fn rfl (fun i h=>by simp at h) rfl (fun i h=>by simp at h)

/-! ### types -/
def tsz (P:Program) (t:TypeId):Option Nat:=(P.info? t).map (·.size)
def tby (P:Program) (t:TypeId):Option Nat:=(P.info? t).map (·.bytes)
def tzero (P:Program) (t:TypeId):Option (List Value):=
 match (P.info? t).bind (·.zero) with
 | some z=>if z.cells.toList.all plain1 then some z.cells.toList else none
 | none=>none
def tagg (P:Program) (t:TypeId):Option Bool:=
 match P.underlying t with
 | some (.struct _)|some (.array _ _)=>some true
 | some _=>some false
 | none=>none
def tslice (P:Program) (t:TypeId):Option TypeId:=
 match P.underlying t with
 | some (.slice e)=>some e
 | _=>none
def tarr (P:Program) (t:TypeId):Option (Nat × TypeId):=
 match P.underlying t with
 | some (.array n e)=>some (n,e)
 | _=>none
/-- A field: where it begins, its type. -/
def tfld (P:Program) (t:TypeId) (i:Nat):Option (Nat × TypeId):=
 match P.underlying t with
 | some (.struct fs)=>(fs[i]?).map fun f=>(f.offset,f.type)
 | _=>none
def tkind (P:Program) (t:TypeId):Option IntKind:=
 match P.underlying t with
 | some (.int k)=>some k
 | _=>none
def tstr (P:Program) (t:TypeId):Bool:=
 match P.underlying t with
 | some .string=>true
 | _=>false

theorem tsz_run {P:Program} {t:TypeId} {s:Nat} (h:tsz P t=some s) (w:World):(sizeOf t).run P w=.ok s w:=by
 unfold tsz at h
 cases hi:P.info? t with
 | none=>rw[hi] at h;cases h
 | some i=>rw[hi] at h;cases h;simp[sizeOf,typeInfo,hi]
theorem tagg_run {P:Program} {t:TypeId} {b:Bool} (h:tagg P t=some b) (w:World):(isAgg t).run P w=.ok b w:=by
 unfold tagg at h
 cases hu:P.underlying t with
 | none=>rw[hu] at h;cases h
 | some d=>rw[hu] at h;cases d <;> simp at h <;> subst h <;> simp[isAgg,run_underlying hu]
theorem tslice_und {P:Program} {t e:TypeId} (h:tslice P t=some e):P.underlying t=some (.slice e):=by
 unfold tslice at h
 split at h
 ·cases h;assumption
 ·cases h
theorem tarr_und {P:Program} {t e:TypeId} {n:Nat} (h:tarr P t=some (n,e)):P.underlying t=some (.array n e):=by
 unfold tarr at h
 split at h
 ·cases h;assumption
 ·cases h
theorem tzero_val {P:Program} {t:TypeId} {l:List Value} (h:tzero P t=some l):∃ i z,P.info? t=some i∧i.zero=some z∧z.cells.toList=l∧l.all plain1=true:=by
 unfold tzero at h
 cases hi:P.info? t with
 | none=>rw[hi] at h;cases h
 | some i=>
  rw[hi] at h
  simp only[Option.bind_some] at h
  cases hz:i.zero with
  | none=>rw[hz] at h;cases h
  | some z=>
   rw[hz] at h
   simp only at h
   split at h
   ·cases h;exact⟨i,z,rfl,hz,rfl,‹_›⟩
   ·cases h
theorem tzero_run {P:Program} {t:TypeId} {l:List Value} (h:tzero P t=some l) (w:World):∃ z,(zeroValue t).run P w=.ok z w∧z.cells.toList=l∧l.all plain1=true:=by
 obtain⟨i,z,h1,h2,h3,h4⟩:=tzero_val h
 exact⟨z,by simp[zeroValue,typeInfo,h1,h2],h3,h4⟩

/-- The outcome of an operation, seen from the machine. -/
def Gives (N0:Nat) (H H':AH) (W:List Nat) (M:Mp) (w:World) (v:Value) (r:Result Value):Prop:=
 ∃ v' w' M',r=.ok v' w'∧VR M' v v'∧Post N0 H H' W M M' w w'

theorem Gives.same {N0:Nat} {H:AH} {R:Option (List Nat)} {M:Mp} {w:World} (p:Pre N0 H R M w) {v v':Value} {r:Result Value} (h:r=.ok v' w) (hv:VR M v v'):Gives N0 H H [] M w v r:=
 ⟨v',w,M,h,hv,Post.still p rfl rfl rfl rfl⟩

section
variable {P:Program} {N0:Nat} {H:AH} {R:Option (List Nat)} {M:Mp} {w:World} (p:Pre N0 H R M w)
include p

theorem gives_new {cs:List Value} {cells:Array Value} (e:TypeId) (h:VCs M cs cells.toList) :
  Gives N0 H (H++[⟨cs,0,true⟩]) [] M w (ap H.length 0 0) (.ok (.pointer (some ⟨w.heap.size,0,none⟩)) (w.alloc (.cells cells e))):=
 ⟨_,_,_,rfl,new_ptr,Post.new p cs cells e true rfl rfl rfl rfl (fun i v hv=>⟨h.2 v (List.mem_of_getElem? hv),by
  obtain⟨v',h1,h2⟩:=h.1.get hv
  exact⟨v',by simpa using h1,h2⟩⟩)⟩

theorem gives_alloc {e:TypeId} {z:List Value} (h:tzero P e=some z) :
  Gives N0 H (H++[⟨z,0,true⟩]) [] M w (ap H.length 0 0) ((Instr.alloc e true (.tuple #[])).run P w):=by
 obtain⟨v,h1,h2,h3⟩:=tzero_run h w
 have:=gives_new p (cs:=z) (cells:=v.cells) e (by rw[h2];exact plains_rel h3)
 simpa [Instr.alloc,h1,newVar,newRow] using this

theorem gives_box {e:TypeId} {v v':Value} {cs:List Value} (h:cellsL v=some cs) (hv:VR M v v') :
  Gives N0 H (H++[⟨cs,0,true⟩]) [] M w (ap H.length 0 0) ((Instr.box e v').run P w):=by
 have:=gives_new p (cs:=cs) (cells:=v'.cells) e (cellsL_rel hv h)
 simpa [Instr.box,newVar,newRow] using this
end

/-! ### loads and stores -/
def aload (P:Program) (H:AH) (t:TypeId):Value→Option (Value × Nat)
 | .pointer (some ⟨b,off,some g⟩)=>
  match H[b]?,tagg P t,tsz P t with
  | some k,some true,some s=>if g=k.gen∧off+s≤k.cells.length then some (.agg ((k.cells.drop off).take s).toArray,b) else none
  | some k,some false,some _=>if g=k.gen then (k.cells[off]?).map (·,b) else none
  | _,_,_=>none
 | _=>none

theorem loadAt_ptr {P:Program} {t:TypeId} {a:Addr} {w:World}:(Instr.loadAt t (.pointer (some a))).run P w=(loadVar t a).run P w:=by simp[Instr.loadAt,Instr.sureAddr]

theorem gives_load {P:Program} {N0:Nat} {H:AH} {R:Option (List Nat)} {M:Mp} {w:World} (p:Pre N0 H R M w) {t:TypeId} {x x' v:Value} {b:Nat} (hx:VR M x x') (h:aload P H t x=some (v,b)) (hR:inR R b) :
  ∃ v',(Instr.loadAt t x').run P w=.ok v' w∧VR M v v':=by
 unfold aload at h
 split at h
 case h_2=>cases h
 rename_i b' off g
 obtain⟨c,o,n,hM,rfl⟩:=hx.ptr_inv
 split at h
 ·rename_i k s hk ha hs
  split at h
  ·rename_i hc
   obtain⟨hg,hl⟩:=hc
   cases h
   obtain⟨hcell,_⟩:=cell_at p hR hk hg hM
   obtain⟨cs',l1,l2,l3⟩:=cells_at hcell off s hl
   refine⟨.agg cs'.toArray,?_,l3.agg⟩
   have:=run_loadCells_list (P:=P) w ⟨c,o+off,none⟩ cs' (fun j v hj=>by rw[add_off];exact l2 j v hj)
   rw[l1] at this
   rw[loadAt_ptr]
   simp[loadVar,tagg_run ha,tsz_run hs,this]
  ·cases h
 ·rename_i k s hk ha hs
  split at h
  ·rename_i hg
   cases hv:k.cells[off]? with
   | none=>rw[hv] at h;cases h
   | some u=>
    rw[hv] at h;cases h
    obtain⟨hcell,_⟩:=cell_at p hR hk hg hM
    obtain⟨_,v',h2,h3⟩:=hcell off _ hv
    refine⟨v',?_,h3⟩
    rw[loadAt_ptr]
    simp[loadVar,tagg_run ha,h2]
  ·cases h
 ·cases h

def astore (P:Program) (H:AH) (t:TypeId) (x v:Value):Option (AH × Nat):=
 match x with
 | .pointer (some ⟨b,off,some g⟩)=>
  match H[b]?,cellsL v,tsz P t with
  | some k,some cs,some s=>if k.rw=true∧g=k.gen∧cs.length=s∧off+s≤k.cells.length then some (H.set b ⟨splice k.cells off cs,k.gen,true⟩,b) else none
  | _,_,_=>none
 | _=>none

theorem gives_store {P:Program} {N0:Nat} {H H':AH} {R:Option (List Nat)} {M:Mp} {w:World} (p:Pre N0 H R M w) {t:TypeId} {x x' v v':Value} {b:Nat} (hx:VR M x x') (hv:VR M v v') (h:astore P H t x v=some (H',b)) (hR:inR R b) :
  ∃ w',(Instr.storeAt t x' v').run P w=.ok () w'∧Post N0 H H' [b] M M w w':=by
 unfold astore at h
 split at h
 case h_2=>cases h
 rename_i b' off g
 obtain⟨c,o,n,hM,rfl⟩:=hx.ptr_inv
 split at h
 case h_2=>cases h
 rename_i k cs s hk hcs hs
 split at h
 case isFalse=>cases h
 rename_i hc
 obtain⟨hrw,hg,hl,hoff⟩:=hc
 cases h
 subst hg
 have hvc:=cellsL_rel hv hcs
 obtain⟨hcell,hN⟩:=cell_at p hR hk rfl hM
 obtain⟨hb,hfz⟩:=p.hp.own hM (hN hrw)
 obtain⟨ccs,ce,cfr,hb1,hb2,hbf⟩:=hb
 have hlen:v'.cells.toList.length=cs.length:=hvc.1.1.symm
 have hcl:∀ j,j<v'.cells.toList.length→(w.cell? ⟨c,o+off+0+j,none⟩).isSome=true:=fun j hj=>by
  obtain⟨_,u,h2,_⟩:=hcell (off+j) k.cells[off+j] (List.getElem?_eq_getElem (by omega))
  rw[show o+off+0+j=o+(off+j) by omega,h2];rfl
 have hst:=run_storeCells_cells (P:=P) c (o+off) v'.cells.toList 0 w hcl (fun j hj=>by
   refine hfz _ ?_
   have:=hcl j hj
   rw[cell_of_row _ _ _ _ _ _ hb1] at this
   obtain⟨u,hu⟩:=Option.isSome_iff_exists.1 this
   have:=(Array.getElem?_eq_some_iff.1 hu).1
   omega) (fun u hu=>by
   rw[one_kit]
   obtain⟨j,hj,e⟩:=List.getElem_of_mem hu
   have hj':j<cs.length:=by omega
   have r:=hvc.1.2 j cs[j] u (List.getElem?_eq_getElem hj') (by rw[← e];exact List.getElem?_eq_getElem hj)
   rw[r.one_eq];exact hvc.2 _ (List.getElem_mem hj'))
 refine⟨_,?_,Post.stored p hR hk hM hrw off cs v'.cells.toList (by omega) hvc⟩
 have hsz:v'.cells.size=s:=by rw[← Array.length_toList];omega
 simp only[Nat.add_zero] at hst
 simp[Instr.storeAt,Instr.sureAddr,storeVar,tsz_run hs,hsz,hst]

end Go.Proofs.YthhbglkokpablaaGreat.E
/- More of the machine's steps: places, parts, aggregates. -/
set_option linter.unusedVariables false
set_option linter.unusedSimpArgs false
namespace Go.Proofs.YthhbglkokpablaaGreat.E
open Go Go.RowKit

/-! ### places -/
def afield (P:Program) (t:TypeId) (f:Nat):Value→Option Value
 | .pointer (some ⟨b,off,some g⟩)=>
  match tfld P t f with
  | some (o,u)=>match tsz P u with
   | some s=>if s≠0 then some (ap b (off+o) g) else none
   | none=>none
  | none=>none
 | _=>none

theorem run_afield {P:Program} {M:Mp} {t:TypeId} {f:Nat} {x x' v:Value} (hx:VR M x x') (h:afield P t f x=some v) (w:World) :
  ∃ v',(Instr.fieldAt t x' f).run P w=.ok v' w∧VR M v v':=by
 unfold afield at h
 split at h
 case h_2=>cases h
 rename_i b off g
 obtain⟨c,o,n,hM,rfl⟩:=hx.ptr_inv
 split at h
 case h_2=>cases h
 rename_i fo u hf
 split at h
 case h_2=>cases h
 rename_i s hs
 split at h
 case isFalse=>cases h
 rename_i hz
 cases h
 unfold tfld at hf
 split at hf
 case h_2=>cases hf
 rename_i fs hu
 cases hfi:fs[f]? with
 | none=>rw[hfi] at hf;cases hf
 | some fd=>
  rw[hfi] at hf
  simp only[Option.map_some,Option.some.injEq,Prod.mk.injEq] at hf
  obtain⟨rfl,rfl⟩:=hf
  refine⟨.pointer (some ⟨c,o+off+fd.offset,none⟩),?_,?_⟩
  ·simp[Instr.fieldAt,run_underlying hu,hfi,Instr.sureAddr,fieldPlace,tsz_run hs,hz,add_off]
  ·have:=VR.ptr (off:=off+fd.offset) hM
   rwa [show o+(off+fd.offset)=o+off+fd.offset by omega] at this

def aindex (P:Program) (t:TypeId) (x i:Value):Option Value:=
 match i with
 | .int _ n=>
  match x with
  | .pointer (some ⟨b,off,some g⟩)=>
   match tarr P t with
   | some (len,e)=>match tsz P e with
    | some s=>if 0≤n∧n<(len:Int) then some (ap b (off+n.toNat*s) g) else none
    | none=>none
   | none=>none
  | .slice (some ⟨b,off,some g⟩) len _=>
   match tslice P t with
   | some e=>match tsz P e with
    | some s=>if 0≤n∧n<(len:Int) then some (ap b (off+n.toNat*s) g) else none
    | none=>none
   | none=>none
  | _=>none
 | _=>none

theorem VR.sl_inv {M:Mp} {b off g len e:Nat} {v':Value} (r:VR M (.slice (some ⟨b,off,some g⟩) len e) v') :
  (∃ c o n cap,M b g=some (c,o,n)∧len≤cap∧o+off+cap*e≤n∧v'=.slice (some ⟨c,o+off,none⟩) len cap)∨(len=0∧∃ a' x,M b g=some x∧v'=.slice (some a') 0 0):=by
 cases r with
 | sl h a b=>exact .inl ⟨_,_,_,_,h,a,b,rfl⟩
 | ze h=>exact .inr ⟨rfl,_,_,h,rfl⟩

theorem run_aindex {P:Program} {M:Mp} {t:TypeId} {x x' i i' v:Value} (hx:VR M x x') (hi:VR M i i') (h:aindex P t x i=some v) (w:World) :
  ∃ v',(Instr.indexAt t x' i').run P w=.ok v' w∧VR M v v':=by
 unfold aindex at h
 split at h
 case h_2=>cases h
 rename_i k n
 have:=hi.int_inv;subst this
 split at h
 case h_3=>cases h
 ·rename_i b off g
  obtain⟨c,o,m,hM,rfl⟩:=hx.ptr_inv
  split at h
  case h_2=>cases h
  rename_i len e ha
  split at h
  case h_2=>cases h
  rename_i s hs
  split at h
  case isFalse=>cases h
  rename_i hc
  cases h
  refine⟨.pointer (some ⟨c,o+off+n.toNat*s,none⟩),?_,?_⟩
  ·simp[Instr.indexAt,run_underlying (tarr_und ha),asIntOf,Instr.sureAddr,hc,tsz_run hs,add_off]
  ·have:=VR.ptr (off:=off+n.toNat*s) hM
   rwa [show o+(off+n.toNat*s)=o+off+n.toNat*s by omega] at this
 ·rename_i b off g len e0
  split at h
  case h_2=>cases h
  rename_i e ha
  split at h
  case h_2=>cases h
  rename_i s hs
  split at h
  case isFalse=>cases h
  rename_i hc
  cases h
  rcases hx.sl_inv with ⟨c,o,m,cap,hM,_,_,rfl⟩|⟨h0,_⟩
  ·refine⟨.pointer (some ⟨c,o+off+n.toNat*s,none⟩),?_,?_⟩
   ·simp[Instr.indexAt,run_underlying (tslice_und ha),asIntOf,hc,tsz_run hs,add_off]
   ·have:=VR.ptr (off:=off+n.toNat*s) hM
    rwa [show o+(off+n.toNat*s)=o+off+n.toNat*s by omega] at this
  ·omega

/-- A part of an aggregate. -/
def apart (P:Program) (t:TypeId) (cs:List Value) (off:Nat):Option Value:=
 match tagg P t,tsz P t with
 | some true,some s=>if off+s≤cs.length then some (.agg ((cs.drop off).take s).toArray) else none
 | some false,_=>cs[off]?
 | _,_=>none

theorem run_apart {P:Program} {M:Mp} {t:TypeId} {cs:List Value} {ys:Array Value} {off:Nat} {v:Value} (hc:VCs M cs ys.toList) (h:apart P t cs off=some v) (w:World) :
  ∃ v',(part t ys off).run P w=.ok v' w∧VR M v v':=by
 unfold apart at h
 split at h
 ·rename_i s ha hs
  split at h
  case isFalse=>cases h
  cases h
  refine⟨.agg (ys.extract off (off+s)),by simp[part,tagg_run ha,tsz_run hs],?_⟩
  have:=((hc.drop off).take s).agg
  have e:(List.take s (List.drop off ys.toList)).toArray=ys.extract off (off+s):=by
   apply Array.ext'
   simp[Array.toList_extract,List.extract]
  rwa [e] at this
 ·rename_i ha
  obtain⟨v',h1,h2⟩:=hc.1.get h
  refine⟨v',?_,h2⟩
  have:ys[off]?=some v':=by simpa using h1
  simp[part,tagg_run ha,this]
 ·cases h

theorem agg_cells {M:Mp} {xs:Array Value} {v':Value} (r:VR M (.agg xs) v'):∃ ys,v'=.agg ys∧VCs M xs.toList ys.toList:=by
 have:=cellsL_rel r (cs:=xs.toList) rfl
 obtain⟨ys,rfl,_⟩:=r.agg_inv
 exact⟨ys,rfl,this⟩

def afieldv (P:Program) (t:TypeId) (f:Nat):Value→Option Value
 | .agg cs=>match tfld P t f with
  | some (o,u)=>apart P u cs.toList o
  | none=>none
 | _=>none

theorem run_afieldv {P:Program} {M:Mp} {t:TypeId} {f:Nat} {x x' v:Value} (hx:VR M x x') (h:afieldv P t f x=some v) (w:World) :
  ∃ v',(Instr.field t x' f).run P w=.ok v' w∧VR M v v':=by
 unfold afieldv at h
 split at h
 case h_2=>cases h
 rename_i cs
 obtain⟨ys,rfl,hc⟩:=agg_cells hx
 split at h
 case h_2=>cases h
 rename_i o u hf
 obtain⟨v',h1,h2⟩:=run_apart hc h w
 refine⟨v',?_,h2⟩
 unfold tfld at hf
 split at hf
 case h_2=>cases hf
 rename_i fs hu
 cases hfi:fs[f]? with
 | none=>rw[hfi] at hf;cases hf
 | some fd=>
  rw[hfi] at hf
  simp only[Option.map_some,Option.some.injEq,Prod.mk.injEq] at hf
  obtain⟨rfl,rfl⟩:=hf
  simp[Instr.field,run_underlying hu,hfi,asAgg,h1]

def aindexv (P:Program) (t:TypeId) (x i:Value):Option Value:=
 match x,i with
 | .agg cs,.int _ n=>match tarr P t with
  | some (len,e)=>match tsz P e with
   | some s=>if 0≤n∧n<(len:Int) then apart P e cs.toList (n.toNat*s) else none
   | none=>none
  | none=>none
 | .string b,.int _ n=>if tstr P t=true∧0≤n then match b[n.toNat]? with
   | some c=>some (.int .u8 c.toNat)
   | none=>none
  else none
 | _,_=>none

theorem tstr_und {P:Program} {t:TypeId} (h:tstr P t=true):P.underlying t=some .string:=by
 unfold tstr at h
 split at h
 ·assumption
 ·cases h

theorem run_aindexv {P:Program} {M:Mp} {t:TypeId} {x x' i i' v:Value} (hx:VR M x x') (hi:VR M i i') (h:aindexv P t x i=some v) (w:World) :
  ∃ v',(Instr.index t x' i').run P w=.ok v' w∧VR M v v':=by
 unfold aindexv at h
 split at h
 case h_3=>cases h
 ·rename_i cs k n
  obtain⟨ys,rfl,hc⟩:=agg_cells hx
  have:=hi.int_inv;subst this
  split at h
  case h_2=>cases h
  rename_i len e ha
  split at h
  case h_2=>cases h
  rename_i s hs
  split at h
  case isFalse=>cases h
  rename_i hn
  obtain⟨v',h1,h2⟩:=run_apart hc h w
  exact⟨v',by simp[Instr.index,run_underlying (tarr_und ha),asIntOf,hn,tsz_run hs,h1],h2⟩
 ·rename_i s k n
  have:=hx.str_inv;subst this
  have:=hi.int_inv;subst this
  split at h
  case isFalse=>cases h
  rename_i hc
  split at h
  case h_2=>cases h
  rename_i c hb
  cases h
  exact⟨.int .u8 c.toNat,by simp[Instr.index,run_underlying (tstr_und hc.1),asIntOf,hc.2,hb],.int _ _⟩

/-! ### aggregates -/
def fillL (place:Nat→Option (Nat × Nat)) (cells:List Value):List (Nat × Value)→Option (List Value)
 | []=>some cells
 | (i,v)::rest=>
  match place i,cellsL v with
  | some (off,size),some cs=>if cs.length=size∧off+size≤cells.length then fillL place (splice cells off cs) rest else none
  | _,_=>none

theorem foldl_set (vs:List Value):∀ (off:Nat) (cells:Array Value),off+vs.length≤cells.size→∀ (j:Nat),
  ((vs.zipIdx j).foldl (fun cs (x:Value × Nat)=>cs.setIfInBounds (off+(x.2 - j)) x.1) cells).toList=splice cells.toList off vs:=by
 intro off cells h j
 suffices H:∀ (vs:List Value) (d:Nat) (cells:Array Value),off+d+vs.length≤cells.size →
   ((vs.zipIdx (j+d)).foldl (fun cs (x:Value × Nat)=>cs.setIfInBounds (off+(x.2 - j)) x.1) cells).toList=splice cells.toList (off+d) vs by
  have:=H vs 0 cells (by omega)
  simpa using this
 intro vs
 induction vs with
 | nil=>intro d cells h;simp[splice]
 | cons v vs ih=>
  intro d cells h
  simp only[List.zipIdx_cons,List.foldl_cons]
  rw[show j+d+1=j+(d+1) by omega,ih (d+1) _ (by simp at h ⊢;omega)]
  rw[show off+(j+d - j)=off+d by omega]
  apply List.ext_getElem?
  intro i
  simp at h
  rw[splice_get _ _ _ (by simp;omega),splice_get _ _ _ (by simp;omega)]
  simp only[Array.toList_setIfInBounds,List.length_cons]
  by_cases h1:i<off+d
  ·rw[if_pos (by omega),if_pos h1,List.getElem?_set_ne (by omega)]
  ·by_cases h2:i=off+d
   ·subst h2
    rw[if_pos (by omega),if_neg (by omega),if_pos (by omega),List.getElem?_set_self (by simp;omega)]
    simp
   ·rw[if_neg (by omega)]
    by_cases h3:i<off+(d+1)+vs.length
    ·rw[if_pos h3,if_neg h1,if_pos (by omega),show i - (off+d)=(i - (off+(d+1)))+1 by omega]
     simp
    ·rw[if_neg h3,if_neg h1,if_neg (by omega),List.getElem?_set_ne (by omega)]

theorem foldl_set0 (vs:List Value) (off:Nat) (cells:Array Value) (h:off+vs.length≤cells.size) :
  (vs.zipIdx.foldl (fun cs (x:Value × Nat)=>cs.setIfInBounds (off+x.2) x.1) cells).toList=splice cells.toList off vs:=by
 have:=foldl_set vs off cells h 0
 simpa using this

theorem splice_rel {M:Mp} {l l' cs cs':List Value} (off:Nat) (h:VCs M l l') (k:VCs M cs cs'):VCs M (splice l off cs) (splice l' off cs'):=by
 unfold splice
 rw[← k.1.1]
 exact((h.take off).append k).append (h.drop _)

theorem fill_rel {M:Mp} {place:Nat→Option (Nat × Nat)}:∀ {parts parts':List (Nat × Value)} {cells:List Value} {cells':Array Value} {r:List Value},
  parts.length=parts'.length→(∀ (j:Nat) i v i' v',parts[j]?=some (i,v)→parts'[j]?=some (i',v')→i=i'∧VR M v v')→VCs M cells cells'.toList→fillL place cells parts=some r →
  ∃ r',Instr.fill place cells' parts'=some r'∧VCs M r r'.toList
 | [],[],cells,cells',r,_,_,hc,h=>by
  cases h;exact⟨cells',rfl,hc⟩
 | (i,v)::ps,(i',v')::ps',cells,cells',r,hl,hp,hc,h=>by
  obtain⟨rfl,hv⟩:=hp 0 i v i' v' rfl rfl
  simp only[fillL] at h
  cases hpl:place i with
  | none=>rw[hpl] at h;cases h
  | some os=>
   obtain⟨off,size⟩:=os
   rw[hpl] at h
   cases hcs:cellsL v with
   | none=>rw[hcs] at h;cases h
   | some cs=>
    rw[hcs] at h
    simp only at h
    split at h
    case isFalse=>cases h
    rename_i hb
    obtain⟨hb1,hb2⟩:=hb
    have hvc:=cellsL_rel hv hcs
    have e1:v'.cells.size=size:=by rw[← Array.length_toList,← hvc.1.1,hb1]
    have e2:cells'.size=cells.length:=by rw[← Array.length_toList,← hc.1.1]
    have hfold:(v'.cells.zipIdx.foldl (fun cs (x:Value × Nat)=>cs.setIfInBounds (off+x.2) x.1) cells').toList=splice cells'.toList off v'.cells.toList:=by
     rw[← foldl_set0 _ _ _ (by simp;omega)]
     rw[← Array.foldl_toList,Array.toList_zipIdx]
    have hsp:=splice_rel off hc hvc
    rw[← hfold] at hsp
    obtain⟨r',h1,h2⟩:=fill_rel (parts:=ps) (parts':=ps') (by simpa using hl) (fun j i v i' v' a b=>hp (j+1) i v i' v' (by simpa using a) (by simpa using b)) hsp h
    refine⟨r',?_,h2⟩
    simp only[Instr.fill,hpl]
    rw[if_neg (by simp[e1];omega)]
    exact h1

/-- Operands with their numbers, evaluated on both sides. -/
theorem evp_rel {M:Mp} {sz:Nat} {T:Env} {a:Act} (h:ActR M sz T a):∀ {ps:List (Nat × Operand)} {vs:List (Nat × Value)},evp T ps=some vs →
  vs.length=(ps.map fun (i,x)=>(i,a.eval x)).length∧∀ (j:Nat) i v i' v',vs[j]?=some (i,v)→(ps.map fun (i,x)=>(i,a.eval x))[j]?=some (i',v')→i=i'∧VR M v v'
 | [],vs,e=>by cases e;exact⟨rfl,fun j i v i' v' h=>by simp at h⟩
 | (i,x)::ps,vs,e=>by
  simp only[evp] at e
  split at e
  case h_2=>cases e
  rename_i v us h1 h2
  cases e
  obtain⟨l1,l2⟩:=evp_rel h h2
  refine⟨by simpa using l1,fun j i' u i'' u' a b=>?_⟩
  cases j with
  | zero=>simp at a b;obtain⟨rfl,rfl⟩:=a;obtain⟨rfl,rfl⟩:=b;exact⟨rfl,ev_rel h h1⟩
  | succ j=>exact l2 j i' u i'' u' (by simpa using a) (by simpa using b)

def tplaces (P:Program) (t:TypeId) (i:Nat):Option (Nat × Nat):=
 match tfld P t i with
 | some (o,u)=>(tsz P u).map (o,·)
 | none=>none

/-- Are all fields' sizes known? -/
def tsized (P:Program) (t:TypeId):Bool:=
 match P.underlying t with
 | some (.struct fs)=>fs.toList.all fun f=>(tsz P f.type).isSome
 | _=>false

def abuild (P:Program) (t:TypeId) (parts:List (Nat × Value)):Option Value:=
 match tzero P t with
 | some z=>
  match tarr P t with
  | some (_,e)=>match tsz P e with
   | some s=>(fillL (fun i=>some (i*s,s)) z parts).map fun l=>.agg l.toArray
   | none=>none
  | none=>if tsized P t=true then (fillL (tplaces P t) z parts).map fun l=>.agg l.toArray else none
 | none=>none

theorem mapM_places {P:Program} {w:World}:∀ (fs:List Field),(∀ f∈fs,(tsz P f.type).isSome=true) →
  (fs.mapM (m:=Sem) fun f=>do pure (f.offset,← sizeOf f.type)).run P w=.ok (fs.map fun f=>(f.offset,(tsz P f.type).getD 0)) w
 | [],_=>rfl
 | f::fs,h=>by
  obtain⟨s,hs⟩:=Option.isSome_iff_exists.1 (h f (by simp))
  have ih:=mapM_places (P:=P) (w:=w) fs (fun g hg=>h g (by simp[hg]))
  simp only[List.mapM_cons,Sem.run_bind,tsz_run hs,Result.andThen_ok,Sem.run_pure,ih,List.map_cons,hs,Option.getD_some]

theorem run_abuild {P:Program} {M:Mp} {t:TypeId} {parts:List (Nat × Value)} {parts':Array (Nat × Value)} {v:Value}
  (hl:parts.length=parts'.toList.length) (hp:∀ (j:Nat) i v i' v',parts[j]?=some (i,v)→parts'.toList[j]?=some (i',v')→i=i'∧VR M v v') (h:abuild P t parts=some v) (w:World) :
  ∃ v',(Instr.build t parts').run P w=.ok v' w∧VR M v v':=by
 unfold abuild at h
 split at h
 case h_2=>cases h
 rename_i z hz
 obtain⟨zv,hz1,hz2,hz3⟩:=tzero_run hz w
 have hzc:VCs M z zv.cells.toList:=by rw[hz2];exact plains_rel hz3
 split at h
 ·rename_i n e ha
  split at h
  case h_2=>cases h
  rename_i s hs
  cases hf:fillL (fun i=>some (i*s,s)) z parts with
  | none=>rw[hf] at h;cases h
  | some r=>
   rw[hf] at h;cases h
   obtain⟨r',h1,h2⟩:=fill_rel hl hp hzc hf
   refine⟨.agg r',by simp[Instr.build,hz1,run_underlying (tarr_und ha),tsz_run hs,h1],?_⟩
   have:=h2.agg
   simpa using this
 ·split at h
  case isFalse=>cases h
  rename_i hsd
  cases hf:fillL (tplaces P t) z parts with
  | none=>rw[hf] at h;cases h
  | some r=>
   rw[hf] at h;cases h
   obtain⟨r',h1,h2⟩:=fill_rel hl hp hzc hf
   refine⟨.agg r',?_,by have:=h2.agg;simpa using this⟩
   unfold tsized at hsd
   split at hsd
   case h_2=>cases hsd
   rename_i fs hu
   rw[List.all_eq_true] at hsd
   have hm:=mapM_places (P:=P) (w:=w) fs.toList hsd
   have hm':(fs.mapM (m:=Sem) fun f=>do pure (f.offset,← sizeOf f.type)).run P w=.ok (fs.map fun f=>(f.offset,(tsz P f.type).getD 0)) w:=by
    rw[Array.mapM_eq_mapM_toList]
    simp only[Sem.run_map,hm,Result.andThen_ok]
    congr 1
    apply Array.ext'
    simp
   have hpl:(fun i=>(fs.map fun f=>(f.offset,(tsz P f.type).getD 0))[i]?)=tplaces P t:=by
    funext i
    simp only[tplaces,tfld,hu]
    cases hfi:fs[i]? with
    | none=>simp[hfi]
    | some f=>
     obtain⟨s,hs⟩:=Option.isSome_iff_exists.1 (hsd f (by
      have:=Array.mem_of_getElem? hfi
      simpa using this))
     simp[hfi,hs]
   simp only[Instr.build,Sem.run_bind,hz1,Result.andThen_ok,run_underlying hu,hm']
   have:(fun x=>(fs.map fun f=>(f.offset,(tsz P f.type).getD 0))[x]?)=tplaces P t:=hpl
   rw[this,h1]
   rfl

end Go.Proofs.YthhbglkokpablaaGreat.E
/- The machine's steps on slices: literals, make, cuts, lengths, appends. -/
set_option linter.unusedVariables false
set_option linter.unusedSimpArgs false
namespace Go.Proofs.YthhbglkokpablaaGreat.E
open Go Go.RowKit

def zrep (z:List Value) (n:Nat):List Value:=(List.replicate n z).flatten

theorem zrep_all {z:List Value} (h:z.all plain1=true) (n:Nat):(zrep z n).all plain1=true:=by
 rw[List.all_eq_true] at h ⊢
 intro v hv
 obtain⟨l,h1,h2⟩:=List.mem_flatten.1 hv
 rw[List.mem_replicate] at h1
 rw[h1.2] at h2
 exact h v h2

theorem zrep_length (z:List Value) (n:Nat):(zrep z n).length=n*z.length:=by
 unfold zrep
 induction n with
 | zero=>simp
 | succ n ih=>rw[List.replicate_succ,List.flatten_cons,List.length_append,ih];grind

theorem zrep_get (z:List Value) (n i:Nat) (h:i<n*z.length):(zrep z n)[i]?=z[i % z.length]?:=by
 unfold zrep
 induction n generalizing i with
 | zero=>simp at h
 | succ n ih=>
  rw[List.replicate_succ,List.flatten_cons]
  by_cases hi:i<z.length
  ·rw[List.getElem?_append_left hi,Nat.mod_eq_of_lt hi]
  ·rw[List.getElem?_append_right (by omega),ih _ (by rw[Nat.succ_mul] at h;omega)]
   rw[Nat.mod_eq_sub_mod (by omega:i≥z.length)]

theorem zeros_eq (z:Array Value) (n:Nat) (h:z.size≠0∨n=0):((Array.range (n*z.size)).map (z[·% z.size]!)).toList=zrep z.toList n:=by
 apply List.ext_getElem?
 intro i
 by_cases hi:i<n*z.size
 ·rw[zrep_get _ _ _ (by simpa using hi)]
  have hz:0<z.size:=by
   rcases h with h|h
   ·omega
   ·subst h;simp at hi
  have hm:i % z.size<z.size:=Nat.mod_lt _ hz
  simp[hi,getElem!_pos,hm]
 ·rw[List.getElem?_eq_none (by simp;omega),List.getElem?_eq_none (by rw[zrep_length];simp;omega)]

/-- A slice written out. -/
def abuildSlice (P:Program) (t:TypeId) (len:Nat) (parts:List (Nat × Value)):Option (List Value × Nat):=
 match tslice P t with
 | some e=>match tsz P e,tzero P e with
  | some s,some z=>if z.length=s∧s≠0∧len*s≤16777216 then (fillL (fun i=>some (i*s,s)) (zrep z len) parts).map (·,s) else none
  | _,_=>none
 | none=>none

theorem fillL_length {place:Nat→Option (Nat × Nat)}:∀ {parts:List (Nat × Value)} {cells r:List Value},fillL place cells parts=some r→r.length=cells.length
 | [],cells,r,h=>by cases h;rfl
 | (i,v)::ps,cells,r,h=>by
  simp only[fillL] at h
  split at h
  case h_2=>cases h
  rename_i off size cs _ _
  split at h
  case isFalse=>cases h
  rename_i hb
  rw[fillL_length h,splice_length _ _ _ (by omega)]

theorem gives_buildSlice {P:Program} {N0:Nat} {H:AH} {R:Option (List Nat)} {M:Mp} {w:World} (p:Pre N0 H R M w) {t:TypeId} {len s:Nat} {parts:List (Nat × Value)} {parts':Array (Nat × Value)} {cs:List Value}
  (hl:parts.length=parts'.toList.length) (hp:∀ (j:Nat) i v i' v',parts[j]?=some (i,v)→parts'.toList[j]?=some (i',v')→i=i'∧VR M v v') (h:abuildSlice P t len parts=some (cs,s)) :
  Gives N0 H (H++[⟨cs,0,true⟩]) [] M w (sl H.length 0 0 len s) ((Instr.buildSlice t len parts').run P w):=by
 unfold abuildSlice at h
 split at h
 case h_2=>cases h
 rename_i e ht
 split at h
 case h_2=>cases h
 rename_i s' z hs hz
 split at h
 case isFalse=>cases h
 rename_i hc
 cases hf:fillL (fun i=>some (i*s',s')) (zrep z len) parts with
 | none=>rw[hf] at h;cases h
 | some r=>
  rw[hf] at h;cases h
  obtain⟨zv,hz1,hz2,hz3⟩:=tzero_run hz w
  have hzl:zv.cells.size=s:=by rw[← Array.length_toList,hz2];exact hc.1
  have hzc:VCs M (zrep z len) ((Array.range (len*s)).map (zv.cells[·% zv.cells.size]!)).toList:=by
   have:=zeros_eq zv.cells len (.inl (by rw[hzl];exact hc.2.1))
   rw[hzl] at this ⊢
   rw[this,hz2]
   exact plains_rel (zrep_all hz3 len)
  obtain⟨r',h1,h2⟩:=fill_rel hl hp hzc hf
  have hlen:cs.length=len*s:=by rw[fillL_length hf,zrep_length,hc.1]
  have hsz:r'.size=len*s:=by rw[← Array.length_toList,← h2.1.1,hlen]
  have hle:¬ (len*s>2 ^ 24):=by omega
  refine⟨.slice (some ⟨w.heap.size,0,none⟩) len len,w.alloc (.cells r' e),mset M H.length 0 (w.heap.size,0,r'.size),?_,?_,Post.new p cs r' e true rfl rfl rfl rfl (fun i v hv=>⟨h2.2 v (List.mem_of_getElem? hv),by
    obtain⟨v',g1,g2⟩:=h2.1.get hv
    exact⟨v',by simpa using g1,g2⟩⟩)⟩
  ·by_cases h0:len*s=0
   ·have e0:((Array.range (len*s)).map ((#[]:Array Value)[·% (#[]:Array Value).size]!))=((Array.range (len*s)).map (zv.cells[·% zv.cells.size]!)):=by
     rw[h0];apply Array.ext';simp
    simp only[Instr.buildSlice,Sem.run_bind,run_underlying (tslice_und ht),Result.andThen_ok,tsz_run hs]
    rw[if_neg hle,if_pos h0]
    simp only[Sem.run_bind,Sem.run_pure,Result.andThen_ok,e0,h1]
    rfl
   ·simp only[Instr.buildSlice,Sem.run_bind,run_underlying (tslice_und ht),Result.andThen_ok,tsz_run hs]
    rw[if_neg hle,if_neg h0]
    simp only[Sem.run_bind,hz1,Sem.run_pure,Result.andThen_ok,h1]
    rfl
  ·have:=VR.sl (M:=mset M H.length 0 (w.heap.size,0,r'.size)) (off:=0) (len:=len) (e:=s) (cap:=len) (mset_same _ _ _ _) (Nat.le_refl _) (by omega)
   simpa using this

/-- make. -/
def amake (P:Program) (t:TypeId) (len cap:Value):Option (List Value × Nat × Nat):=
 match len,cap with
 | .int _ l,.int _ c=>
  match tslice P t with
  | some e=>match tsz P e,tzero P e,tby P e with
   | some s,some z,some by_=>if z.length=s∧s≠0∧0≤l∧l≤c∧c≤9223372036854775807∧(by_:Int)*c≤140737488355328 then some (zrep z l.toNat,s,l.toNat) else none
   | _,_,_=>none
  | none=>none
 | _,_=>none

theorem gives_make {P:Program} {N0:Nat} {H:AH} {R:Option (List Nat)} {M:Mp} {w:World} (p:Pre N0 H R M w) {t:TypeId} {len cap len' cap':Value} {cs:List Value} {s n:Nat} (hl:VR M len len') (hcp:VR M cap cap')
  (h:amake P t len cap=some (cs,s,n)):Gives N0 H (H++[⟨cs,0,true⟩]) [] M w (sl H.length 0 0 n s) ((Instr.makeSlice t len' cap').run P w):=by
 unfold amake at h
 split at h
 case h_2=>cases h
 rename_i kl l kc c
 have:=hl.int_inv;subst this
 have:=hcp.int_inv;subst this
 split at h
 case h_2=>cases h
 rename_i e ht
 split at h
 case h_2=>cases h
 rename_i s' z by_ hs hz hb
 split at h
 case isFalse=>cases h
 rename_i hc
 cases h
 obtain⟨h1,h2,h3,h4,h5,h6⟩:=hc
 obtain⟨i,zv,g1,g2,g3,g4⟩:=tzero_val hz
 have hsi:i.size=s:=by unfold tsz at hs;rw[g1] at hs;simpa using hs
 have hbi:i.bytes=by_:=by unfold tby at hb;rw[g1] at hb;simpa using hb
 have hzl:zv.cells.size=s:=by rw[← Array.length_toList,g3];exact h1
 have hrun:=run_make (P:=P) w t e i zv (tslice_und ht) g1 g2 kl kc l c h3 h4 (by rw[hbi];omega) h5
 refine⟨_,_,mset M H.length 0 (w.heap.size,0,(madeCells zv.cells (c.toNat*i.size)).size),hrun,?_,Post.new p _ _ e true rfl rfl rfl rfl (fun j v hv=>?_)⟩
 ·have:=VR.sl (M:=mset M H.length 0 (w.heap.size,0,(madeCells zv.cells (c.toNat*i.size)).size)) (off:=0) (len:=l.toNat) (e:=s) (cap:=c.toNat) (mset_same _ _ _ _) (by omega) (by rw[size_madeCells,hsi];omega)
  simpa using this
 ·have hall:=zrep_all g4 l.toNat
  rw[List.all_eq_true] at hall
  have hp1:=hall v (List.mem_of_getElem? hv)
  refine⟨plain1_one hp1,v,?_,plain1_rel hp1⟩
  have hj:j<l.toNat*s:=by
   have:=(List.getElem?_eq_some_iff.1 hv).1
   rw[zrep_length,h1] at this;exact this
  rw[zrep_get _ _ _ (by rw[h1];exact hj),h1] at hv
  have hj2:j<c.toNat*s:=Nat.lt_of_lt_of_le hj (Nat.mul_le_mul_right _ (by omega))
  have hm:j % s<zv.cells.size:=by rw[hzl];exact Nat.mod_lt _ (by omega)
  unfold madeCells
  rw[hsi,hzl]
  simp only[Array.getElem?_map]
  rw[Array.getElem?_eq_getElem (by simpa using hj2)]
  simp only[Array.getElem_range,Option.map_some]
  rw[getElem!_pos zv.cells _ hm]
  rw[← g3] at hv
  have hm':zv.cells.toList[j % s]?=some zv.cells[j % s]:=by simp[hm]
  rw[hm'] at hv
  exact hv

/-! ### lengths -/
def alen (P:Program) (t:TypeId):Value→Option Value
 | .slice _ n _=>match tslice P t with
  | some _=>some (.int .i64 n)
  | none=>none
 | .string s=>if tstr P t=true then some (.int .i64 s.size) else none
 | .agg _=>match tarr P t with
  | some (n,_)=>some (.int .i64 n)
  | none=>none
 | _=>none

/-- The room of nothing. -/
def acap (P:Program) (t:TypeId):Value→Option Value
 | .slice none 0 0=>match tslice P t with
  | some _=>some (.int .i64 0)
  | none=>none
 | _=>none
theorem run_acap {P:Program} {M:Mp} {t ty:TypeId} {x x' v:Value} (hx:VR M x x') (h:acap P t x=some v) (w:World):v=.int .i64 0∧(Builtin.cap_ #[t] ty #[x']).run P w=.ok v w:=by
 unfold acap at h
 split at h
 ·split at h
  ·rename_i e ht
   cases h
   have:x'=.slice none 0 0:=by cases hx;rfl
   subst this
   exact⟨rfl,by simp[Builtin.cap_,run_underlying (tslice_und ht),goInt]⟩
  ·cases h
 ·cases h

theorem VR.slice_len {M:Mp} {a:Option Addr} {n e:Nat} {v':Value} (r:VR M (.slice a n e) v'):∃ a' c',v'=.slice a' n c':=by
 cases r <;> exact⟨_,_,rfl⟩

theorem run_alen {P:Program} {M:Mp} {t ty:TypeId} {x x' v:Value} (hx:VR M x x') (h:alen P t x=some v) (w:World):(Builtin.len_ #[t] ty #[x']).run P w=.ok v w:=by
 unfold alen at h
 split at h
 ·obtain⟨a',c',rfl⟩:=hx.slice_len
  split at h
  case h_2=>cases h
  rename_i e ht
  cases h
  simp[Builtin.len_,run_underlying (tslice_und ht),goInt]
 ·have:=hx.str_inv;subst this
  split at h
  case isFalse=>cases h
  rename_i ht
  cases h
  simp[Builtin.len_,run_underlying (tstr_und ht),goInt]
 ·split at h
  case h_2=>cases h
  rename_i n e ht
  cases h
  simp[Builtin.len_,run_underlying (tarr_und ht),goInt]
 ·cases h

/-! ### cuts -/
def abound:Option Value→Nat→Option Nat
 | none,d=>some d
 | some (.int _ n),_=>if 0≤n then some n.toNat else none
 | _,_=>none

def aslice (P:Program) (t:TypeId) (x:Value) (lo hi mx:Option Value):Option Value:=
 match x,mx with
 | .slice none 0 0,none=>match tslice P t,abound lo 0,abound hi 0 with
  | some e,some 0,some 0=>if (tsz P e).isSome=true then some (.slice none 0 0) else none
  | _,_,_=>none
 | .slice none 0 0,some (.int _ m)=>match tslice P t,abound lo 0,abound hi 0 with
  | some e,some 0,some 0=>if m=0∧hi.isSome=true∧(tsz P e).isSome=true then some (.slice none 0 0) else none
  | _,_,_=>none
 | .slice (some a) n e0,some (.int _ m)=>match tslice P t,abound lo 0,abound hi n with
  | some e,some 0,some 0=>if m=0∧hi.isSome=true∧(tsz P e).isSome=true then some (.slice (some ⟨0,0,none⟩) 0 e0) else none
  | _,_,_=>none
 | .slice (some ⟨b,off,some g⟩) n e0,none=>match tslice P t,abound lo 0,abound hi n with
  | some e,some l,some h=>match tsz P e with
   | some s=>if s=e0∧l≤h∧h≤n then some (sl b (off+l*s) g (h - l) s) else none
   | none=>none
  | _,_,_=>none
 | .string s,none=>match abound lo 0,abound hi s.size with
  | some l,some h=>if tstr P t=true∧l≤h∧h≤s.size then some (.string (s.extract l h)) else none
  | _,_=>none
 | _,_=>none

/-- A cut of an array. -/
def aslicep (P:Program) (H:AH) (t:TypeId) (x:Value) (lo hi:Option Value):Option (Value × Nat):=
 match x with
 | .pointer (some ⟨b,off,some g⟩)=>match H[b]?,tarr P t with
  | some k,some (n,e)=>match tsz P e,abound lo 0,abound hi n with
   | some s,some 0,some h=>if h=n∧0<n∧k.rw=true∧g=k.gen∧off+n*s≤k.cells.length∧0<s then some (sl b off g n s,b) else none
   | _,_,_=>none
  | _,_=>none
 | _=>none

theorem abound_rel {M:Mp} {x:Option Value} {x':Option Value} {d n:Nat} (hx:(x=none∧x'=none)∨∃ v v',x=some v∧x'=some v'∧VR M v v') (h:abound x d=some n) :
  (x'=none∧n=d)∨∃ k,x'=some (.int k (n:Int)):=by
 unfold abound at h
 split at h
 ·rcases hx with ⟨_,h2⟩|⟨v,v',h1,_⟩
  ·cases h;exact .inl ⟨h2,rfl⟩
  ·cases h1
 ·split at h
  case isFalse=>cases h
  rcases hx with ⟨h1,_⟩|⟨v,v',h1,h2,h3⟩
  ·cases h1
  ·cases h1;cases h
   have:=h3.int_inv;subst this
   exact .inr ⟨_,by rw[h2,Int.toNat_of_nonneg ‹_›]⟩
 ·cases h

theorem telem_eq {P:Program} {t e:TypeId} (h:P.underlying t=some (.slice e)):P.elem t=e:=by unfold Program.elem;rw[h]
theorem tarr_eq {P:Program} {t e:TypeId} {n:Nat} (h:P.underlying t=some (.array n e)):P.elem t=e∧P.arrayLen t=n:=by unfold Program.elem Program.arrayLen;rw[h];exact⟨rfl,rfl⟩

/-- The two bounds of a cut, as the world has them. -/
def ORel (M:Mp) (x x':Option Value):Prop:=(x=none∧x'=none)∨∃ v v',x=some v∧x'=some v'∧VR M v v'

theorem run_cut {P:Program} {M:Mp} {t e:TypeId} {lo hi lo' hi':Option Value} {l h n cap s:Nat} {a:Option Addr} (ht:tslice P t=some e) (hs:tsz P e=some s) (hlo:ORel M lo lo') (hhi:ORel M hi hi')
  (e1:abound lo 0=some l) (e2:abound hi n=some h) (hl:l≤h) (hh:h≤n) (hc:n≤cap) (w:World) :
  (Instr.sliceAt t (.slice a n cap) lo' hi' none).run P w=.ok (sliced a l h cap s) w:=by
 have hu:=tslice_und ht
 have he:=telem_eq hu
 have hu':P.underlying t=some (.slice (P.elem t)):=by rw[he];exact hu
 have hs':=tsz_run (P:=P) (by rw[he];exact hs:tsz P (P.elem t)=some s) w
 rw[run_sliceAt_slice _ _ _ _ _ _ hu']
 rcases abound_rel hlo e1 with ⟨rfl,rfl⟩|⟨kl,rfl⟩ <;> rcases abound_rel hhi e2 with ⟨rfl,rfl⟩|⟨kh,rfl⟩
 ·rw[run_slice_all _ _ _ _ _ hu',hs'];rfl
 ·rw[run_slice_h _ _ _ _ _ hu' kh _ (by omega) (by omega),hs'];simp
 ·rw[run_slice_l _ _ _ _ _ hu' kl _ (by omega) (by omega),hs'];simp
 ·rw[run_slice_lh _ _ _ _ _ hu' kl kh _ _ (by omega) (by omega) (by omega),hs'];simp

theorem run_cut0 {P:Program} {M:Mp} {t e:TypeId} {lo hi lo' hi':Option Value} {n cap s:Nat} {k:IntKind} {a:Option Addr} (ht:tslice P t=some e) (hs:tsz P e=some s) (hlo:ORel M lo lo') (hhi:ORel M hi hi')
  (e1:abound lo 0=some 0) (e2:abound hi n=some 0) (e3:hi.isSome=true) (w:World) :
  (Instr.sliceAt t (.slice a n cap) lo' hi' (some (.int k 0))).run P w=.ok (.slice a 0 0) w:=by
 have hu:=tslice_und ht
 have he:=telem_eq hu
 have hu':P.underlying t=some (.slice (P.elem t)):=by rw[he];exact hu
 have hs':=tsz_run (P:=P) (by rw[he];exact hs:tsz P (P.elem t)=some s) w
 rw[run_sliceAt_slice _ _ _ _ _ _ hu']
 rcases abound_rel hhi e2 with ⟨rfl,_⟩|⟨kh,rfl⟩
 ·rcases hhi with ⟨rfl,_⟩|⟨_,_,_,h,_⟩
  ·cases e3
  ·cases h
 rcases abound_rel hlo e1 with ⟨rfl,_⟩|⟨kl,rfl⟩
 ·rw[run_slice_hm _ _ _ _ _ hu' kh k _ _ (by omega) (by omega) (by omega),hs'];simp[sliced]
 ·rw[run_slice_lhm _ _ _ _ _ hu' kl kh k _ _ _ (by omega) (by omega) (by omega) (by omega),hs'];simp[sliced]

theorem run_aslice {P:Program} {M:Mp} {t:TypeId} {x x' v:Value} {lo hi mx lo' hi' mx':Option Value} (hx:VR M x x') (hlo:ORel M lo lo') (hhi:ORel M hi hi') (hmx:ORel M mx mx') (h:aslice P t x lo hi mx=some v) (w:World) :
  ∃ v',(Instr.sliceAt t x' lo' hi' mx').run P w=.ok v' w∧VR M v v':=by
 unfold aslice at h
 split at h
 case h_6=>cases h
 ·split at h
  case h_2=>cases h
  rename_i e ht e1 e2
  split at h
  case isFalse=>cases h
  rename_i hs
  obtain⟨s,hs⟩:=Option.isSome_iff_exists.1 hs
  cases h
  cases hx
  rcases hmx with ⟨_,rfl⟩|⟨_,_,h,_⟩
  ·refine⟨.slice none 0 0,?_,.nils⟩
   rw[run_cut ht hs hlo hhi e1 e2 (Nat.le_refl _) (Nat.le_refl _) (Nat.le_refl _)]
   simp[sliced]
  ·cases h
 ·split at h
  case h_2=>cases h
  rename_i e ht e1 e2
  split at h
  case isFalse=>cases h
  rename_i hs
  obtain⟨rfl,e3,hs⟩:=hs
  obtain⟨s,hs⟩:=Option.isSome_iff_exists.1 hs
  cases h
  cases hx
  rcases hmx with ⟨h,_⟩|⟨_,_,h,rfl,hm⟩
  ·cases h
  ·cases h
   have:=hm.int_inv;subst this
   exact⟨.slice none 0 0,run_cut0 ht hs hlo hhi e1 e2 e3 w,.nils⟩
 ·split at h
  case h_2=>cases h
  rename_i e ht e1 e2
  split at h
  case isFalse=>cases h
  rename_i hs
  obtain⟨rfl,e3,hs⟩:=hs
  obtain⟨s,hs⟩:=Option.isSome_iff_exists.1 hs
  cases h
  rcases hmx with ⟨h,_⟩|⟨_,_,h,rfl,hm⟩
  ·cases h
  ·cases h
   have:=hm.int_inv;subst this
   obtain⟨a',c',rfl⟩:=hx.slice_len
   have ha:∃ a'',a'=some a'':=by cases hx <;> exact⟨_,rfl⟩
   obtain⟨a'',rfl⟩:=ha
   exact⟨.slice (some a'') 0 0,run_cut0 ht hs hlo hhi e1 e2 e3 w,.zs⟩
 ·rename_i b off g n e0
  split at h
  case h_2=>cases h
  rename_i e l hh ht e1 e2
  split at h
  case h_2=>cases h
  rename_i s hs
  split at h
  case isFalse=>cases h
  rename_i hc
  obtain⟨rfl,hl,hn⟩:=hc
  cases h
  rcases hmx with ⟨_,rfl⟩|⟨_,_,h,_⟩
  case inr=>cases h
  rcases hx.sl_inv with ⟨c,o,m,cap,hM,h1,h2,rfl⟩|⟨rfl,a',x,hM,rfl⟩
  ·refine⟨_,run_cut ht hs hlo hhi e1 e2 hl hn h1 w,?_⟩
   unfold sliced
   by_cases hcl:cap=l
   ·have:hh=l:=by omega
    subst this
    rw[if_pos hcl]
    simp only[hcl,Nat.sub_self]
    exact .ze hM
   ·rw[if_neg hcl]
    simp only[Option.map_some,add_off]
    have:=VR.sl (off:=off+l*s) (len:=hh - l) (e:=s) (cap:=cap - l) hM (by omega) (by rw[Nat.sub_mul];have:=Nat.mul_le_mul_right s (by omega:l≤cap);omega)
    rwa [show o+(off+l*s)=o+off+l*s by omega] at this
  ·have:hh=0:=by omega
   subst this
   have:l=0:=by omega
   subst this
   refine⟨_,run_cut ht hs hlo hhi e1 e2 (Nat.le_refl _) (Nat.le_refl _) (Nat.le_refl _) w,?_⟩
   simp only[sliced,if_true,Nat.sub_self]
   exact .ze hM
 ·rename_i s
  split at h
  case h_2=>cases h
  rename_i l hh e1 e2
  split at h
  case isFalse=>cases h
  rename_i hc
  obtain⟨ht,hl,hn⟩:=hc
  cases h
  have:=hx.str_inv;subst this
  rcases hmx with ⟨_,rfl⟩|⟨_,_,h,_⟩
  case inr=>cases h
  refine⟨.string (s.extract l hh),?_,.str _⟩
  have hu:=tstr_und ht
  rw[run_sliceAt_string _ _ _ _ _ _ hu]
  rcases abound_rel hlo e1 with ⟨rfl,rfl⟩|⟨kl,rfl⟩ <;> rcases abound_rel hhi e2 with ⟨rfl,rfl⟩|⟨kh,rfl⟩
  ·rw[run_slice_string_all _ _ _ hu]
  ·rw[run_slice_string_h _ _ _ hu kh _ (by omega) (by omega)];simp
  ·rw[run_slice_string_l _ _ _ hu kl _ (by omega) (by omega)];simp
  ·simp[Instr.slice,run_underlying hu,Instr.sliceBounds]
   rw[run_sliceBound (P:=P) w kh _ _ _ (by omega) (by omega)]
   simp only[Result.andThen_ok]
   rw[run_sliceBound (P:=P) w kl _ _ _ (by omega) (by omega)]
   simp

theorem run_aslicep {P:Program} {N0:Nat} {H:AH} {R:Option (List Nat)} {M:Mp} {w:World} (p:Pre N0 H R M w) {t:TypeId} {x x' v:Value} {b:Nat} {lo hi lo' hi':Option Value} (hx:VR M x x') (hlo:ORel M lo lo') (hhi:ORel M hi hi')
  (h:aslicep P H t x lo hi=some (v,b)) (hR:inR R b):∃ v',(Instr.sliceAt t x' lo' hi' none).run P w=.ok v' w∧VR M v v':=by
 unfold aslicep at h
 split at h
 case h_2=>cases h
 rename_i b' off g
 obtain⟨c,o,m,hM,rfl⟩:=hx.ptr_inv
 split at h
 case h_2=>cases h
 rename_i k n e hk ht
 split at h
 case h_2=>cases h
 rename_i s hh hs e1 e2
 split at h
 case isFalse=>cases h
 rename_i hc
 obtain⟨rfl,hn,hrw,rfl,hlen,hs0⟩:=hc
 cases h
 have hu:=tarr_und ht
 obtain⟨he,hn'⟩:=tarr_eq hu
 have hu':P.underlying t=some (.array (P.arrayLen t) (P.elem t)):=by rw[he,hn'];exact hu
 have hs':=tsz_run (P:=P) (by rw[he];exact hs:tsz P (P.elem t)=some s) w
 obtain⟨hcell,hN⟩:=cell_at p hR hk rfl hM
 obtain⟨⟨ccs,ce,cfr,hb1,hb2,hbf⟩,_⟩:=p.hp.own hM (hN hrw)
 have hpos:0<hh*s:=Nat.mul_pos hn hs0
 obtain⟨_,u,h2,_⟩:=hcell (off+hh*s - 1) k.cells[off+hh*s - 1] (List.getElem?_eq_getElem (by omega))
 rw[cell_of_row _ _ _ _ _ _ hb1] at h2
 have hbd:=(Array.getElem?_eq_some_iff.1 h2).1
 have hres:∃ v',(Instr.sliceAt t (.pointer (some ⟨c,o+off,none⟩)) lo' hi' none).run P w=.ok v' w∧v'=slicedAt ⟨c,o+off,none⟩ 0 hh hh s:=by
  refine⟨_,?_,rfl⟩
  rcases abound_rel hlo e1 with ⟨rfl,_⟩|⟨kl,rfl⟩ <;> rcases abound_rel hhi e2 with ⟨rfl,_⟩|⟨kh,rfl⟩
  ·rw[run_sliceAt_array_all _ _ _ hu',hs',hn'];rfl
  ·rw[run_sliceAt_array_h _ _ _ hu' kh _ (by omega) (by omega),hs',hn'];simp
  ·rw[run_sliceAt_array_l _ _ _ hu' kl _ (by omega) (by omega),hs',hn'];simp
  ·rw[run_sliceAt_array_lh _ _ _ hu' kl kh _ _ (by omega) (by omega) (by omega),hs',hn'];simp
 obtain⟨v',h1,rfl⟩:=hres
 refine⟨_,h1,?_⟩
 unfold slicedAt
 rw[if_neg (by omega)]
 simp only[Nat.zero_mul,add_off,Nat.add_zero,Nat.sub_zero]
 exact .sl hM (Nat.le_refl _) (by omega)

end Go.Proofs.YthhbglkokpablaaGreat.E
/- The machine's appends. -/
set_option linter.unusedVariables false
set_option linter.unusedSimpArgs false
namespace Go.Proofs.YthhbglkokpablaaGreat.E
open Go Go.RowKit

/-- The cells that a slice reads, its elements' number, the block that was read. -/
def asrc (H:AH) (s:Nat):Value→Option (List Value × Nat × List Nat)
 | .slice none 0 0=>some ([],0,[])
 | .slice (some ⟨b,off,some g⟩) n e=>
  if e=s then
   if n=0 then some ([],0,[]) else
   match H[b]? with
   | some k=>if g=k.gen∧off+n*s≤k.cells.length then some ((k.cells.drop off).take (n*s),n,[b]) else none
   | none=>none
  else none
 | .slice (some ⟨_,_,none⟩) 0 _=>some ([],0,[])
 | _=>none

theorem src_run {P:Program} {N0:Nat} {H:AH} {R:Option (List Nat)} {M:Mp} {w w1:World} (p:Pre N0 H R M w) {s:Nat} {x x':Value} {cs:List Value} {n:Nat} {bs:List Nat} (hx:VR M x x') (h:asrc H s x=some (cs,n,bs)) (hR:∀ b∈bs,inR R b) (hw:w1.heap=w.heap) :
  (∃ a c,x'=.slice a n c)∧cs.length=n*s∧∃ vs,VCs M cs vs∧vs.length=n*s∧(Builtin.firstCells s n x').run P w1=.ok vs.toArray w1:=by
 have zero:cs=[]→n=0→∀ a c,x'=.slice a n c→(∃ a c,x'=.slice a n c)∧cs.length=n*s∧∃ vs,VCs M cs vs∧vs.length=n*s∧(Builtin.firstCells s n x').run P w1=.ok vs.toArray w1:=by
  rintro rfl rfl a c rfl
  refine⟨⟨a,c,rfl⟩,by simp,[],⟨VRs.nil,by simp⟩,by simp,?_⟩
  cases a with
  | none=>simp[Builtin.firstCells]
  | some a=>
   have:=run_firstCells_some (P:=P) w1 s 0 a 0 c [] (by simp) (fun j v h=>by simp at h)
   exact this
 unfold asrc at h
 split at h
 ·cases h
  obtain⟨a,c,rfl⟩:=hx.slice_len
  exact zero rfl rfl _ _ rfl
 ·rename_i b off g n' e
  split at h
  case isFalse=>cases h
  rename_i he
  subst he
  split at h
  ·rename_i hn
   subst hn
   cases h
   obtain⟨a,c,rfl⟩:=hx.slice_len
   exact zero rfl rfl _ _ rfl
  ·rename_i hn
   split at h
   case h_2=>cases h
   rename_i k hk
   split at h
   case isFalse=>cases h
   rename_i hc
   obtain⟨rfl,hlen⟩:=hc
   cases h
   rcases hx.sl_inv with ⟨c,o,m,cap,hM,h1,h2,rfl⟩|⟨h0,_⟩
   case inr=>exact absurd h0 hn
   obtain⟨hcell,_⟩:=cell_at p (hR b (by simp)) hk rfl hM
   obtain⟨vs,l1,l2,l3⟩:=cells_at hcell off (n*e) hlen
   refine⟨⟨_,_,rfl⟩,by simp;omega,vs,l3,l1,?_⟩
   exact run_firstCells_some (P:=P) w1 e n _ n cap vs l1 (fun j v hj=>by
    rw[add_off,World.cell?_of_block (w:=w) (by rw[hw])];exact l2 j v hj)
 ·cases h
  obtain⟨a,c,rfl⟩:=hx.slice_len
  exact zero rfl rfl _ _ rfl
 ·cases h

/-- append: the value, the blocks, what is written, what is read. -/
def aappend (P:Program) (H:AH) (t t':TypeId) (x y:Value):Option (Value × AH × List Nat × List Nat):=
 match tslice P t,tslice P t' with
 | some e,some _=>
  match tsz P e,tby P e,tzero P e with
  | some s,some by_,some z=>
   match asrc H s y with
   | some (cs,n,bs)=>
    if 0<s∧z.length=s∧by_≤1073741824 then
     match x with
     | .slice none 0 0=>if n=0 then some (.slice none 0 0,H,[],bs) else
       if n*by_≤140737488355328∧n≤140737488355328 then some (sl H.length 0 0 n s,H++[⟨cs,0,true⟩],[],bs) else none
     | .slice (some ⟨_,_,none⟩) 0 _=>if n=0 then some (x,H,[],bs) else
       if n*by_≤140737488355328∧n≤140737488355328 then some (sl H.length 0 0 n s,H++[⟨cs,0,true⟩],[],bs) else none
     | .slice (some ⟨b,0,some g⟩) len e0=>
      match H[b]? with
      | some k=>
       if e0=s∧g=k.gen∧k.rw=true∧len*s=k.cells.length then
        if n=0 then some (x,H,[],b::bs) else
        if (len+n)*by_≤140737488355328∧len+n≤140737488355328 then some (sl b 0 (g+1) (len+n) s,H.set b ⟨k.cells++cs,g+1,true⟩,[b],b::bs) else none
       else if e0=s∧g=k.gen∧k.rw=true∧len=0∧b∉bs then
        if n=0 then some (x,H,[],b::bs) else
        if n*by_≤140737488355328∧n≤140737488355328 then some (sl b 0 (g+1) n s,H.set b ⟨cs,g+1,true⟩,[b],b::bs) else none
       else none
      | none=>none
     | _=>none
    else none
   | none=>none
  | _,_,_=>none
 | _,_=>none

theorem append_grow {P:Program} {w:World} {t t' ty e e':TypeId} {i:TypeInfo} {z:Value} (ht:P.underlying t=some (.slice e)) (ht':P.underlying t'=some (.slice e')) (hi:P.info? e=some i) (hz:i.zero=some z)
  (base:Option Addr) (sLen sCap:Nat) (olds:List Value) (hold:(Builtin.firstCells i.size sLen (.slice base sLen sCap)).run P w.drew=.ok olds.toArray w.drew)
  (y':Value) (a:Option Addr) (n c:Nat) (hy:y'=.slice a n c) (news:List Value) (hnew:(Builtin.firstCells i.size n y').run P w.drew=.ok news.toArray w.drew)
  (hg:sCap<sLen+n) (h63:sLen+n≤140737488355328) (hfit:(sLen+n)*i.bytes≤140737488355328) :
  (Builtin.append_ #[t,t'] ty #[.slice base sLen sCap,y']).run P w =
   .ok (.slice (some ⟨w.heap.size,0,none⟩) (sLen+n) (grownCap w (sLen+n) sCap e))
    (w.drew.alloc (.cells (olds.toArray++news.toArray++Builtin.zeroCells z.cells (grownCap w (sLen+n) sCap e - (sLen+n))) e)):=by
 subst hy
 have hn:¬ (sLen+n≤sCap):=by omega
 have h63':¬ (9223372036854775807<((sLen:Int)+(n:Int))):=by omega
 have hnx:=nextslicecap_le (need:=sLen+n) (old:=sCap) hg
 have h48:Builtin.nextslicecap (sLen+n) sCap*i.bytes≤2*(sLen+n)*i.bytes:=Nat.mul_le_mul_right _ hnx
 have h48':¬ (281474976710656<Builtin.nextslicecap (sLen+n) sCap*i.bytes):=by rw[Nat.mul_assoc] at h48;omega
 simp[Builtin.append_,run_underlying ht,run_underlying ht',sizeOf,typeInfo,zeroValue,hi,hz,Builtin.lenOf,hn,h63',h48',Question.forced,hold,hnew,newRow,grownCap]
 congr 2
 apply Array.ext'
 simp[List.append_assoc]

theorem append_room {P:Program} {w:World} {t t' ty e e':TypeId} {i:TypeInfo} (ht:P.underlying t=some (.slice e)) (ht':P.underlying t'=some (.slice e')) (hi:P.info? e=some i)
  (base:Option Addr) (sLen sCap:Nat) (y':Value) (a:Option Addr) (n c:Nat) (hy:y'=.slice a n c) (news:List Value) (hnew:(Builtin.firstCells i.size n y').run P w=.ok news.toArray w)
  (hroom:sLen+n≤sCap) (w':World) (hst:∀ b,base=some b→(storeCells (b.add (sLen*i.size)) news).run P w=.ok () w') (hno:base=none→w'=w) :
  (Builtin.append_ #[t,t'] ty #[.slice base sLen sCap,y']).run P w=.ok (.slice base (sLen+n) sCap) w':=by
 subst hy
 cases base with
 | none=>
  have:=hno rfl;subst this
  simp[Builtin.append_,run_underlying ht,run_underlying ht',sizeOf,typeInfo,hi,Builtin.lenOf,hroom,hnew]
 | some b=>
  have:=hst b rfl
  simp[Builtin.append_,run_underlying ht,run_underlying ht',sizeOf,typeInfo,hi,Builtin.lenOf,hroom,hnew,this]

/-- An append onto nothing. -/
theorem gives_append_nil {P:Program} {N0:Nat} {H:AH} {R:Option (List Nat)} {M:Mp} {w:World} (p:Pre N0 H R M w) {t t' ty e e':TypeId} {s by_:Nat} {z:List Value} (ht:tslice P t=some e) (ht':tslice P t'=some e') (hs:tsz P e=some s) (hb:tby P e=some by_) (hz:tzero P e=some z)
  {y y':Value} {cs:List Value} {n:Nat} {bs:List Nat} (hy:VR M y y') (h:asrc H s y=some (cs,n,bs)) (hR:∀ b∈bs,inR R b) (hs0:0<s) (hzl:z.length=s) (base:Option Addr) (h0:0<n) (h1:n*by_≤140737488355328) (h2:n≤140737488355328) :
  Gives N0 H (H++[⟨cs,0,true⟩]) [] M w (sl H.length 0 0 n s) ((Builtin.append_ #[t,t'] ty #[.slice base 0 0,y']).run P w):=by
 obtain⟨i,zv,g1,g2,g3,g4⟩:=tzero_val hz
 have hsi:i.size=s:=by unfold tsz at hs;rw[g1] at hs;simpa using hs
 have hbi:i.bytes=by_:=by unfold tby at hb;rw[g1] at hb;simpa using hb
 obtain⟨⟨a,c,rfl⟩,hcl,vs,l1,l2,l3⟩:=src_run (P:=P) (w1:=w.drew) p hy h hR rfl
 have hold:(Builtin.firstCells i.size 0 (.slice base 0 0)).run P w.drew=.ok ([]:List Value).toArray w.drew:=by
  cases base with
  | none=>simp[Builtin.firstCells]
  | some b=>exact run_firstCells_some (P:=P) w.drew i.size 0 b 0 0 [] (by simp) (fun j v h=>by simp at h)
 have hrun:=append_grow (ty:=ty) (tslice_und ht) (tslice_und ht') g1 g2 base 0 0 [] hold (.slice a n c) a n c rfl vs (by rw[hsi];exact l3) (by omega) (by omega) (by rw[hbi];simpa using h1)
 simp only[Nat.zero_add] at hrun
 have hcap:=grownCap_ge w n 0 e
 refine⟨_,_,mset M H.length 0 (w.heap.size,0,([].toArray++vs.toArray++Builtin.zeroCells zv.cells (grownCap w n 0 e - n)).size),hrun,?_,Post.new (w1:=w.drew) p cs _ e true rfl rfl rfl rfl (fun j v hv=>?_)⟩
 ·have hzs:zv.cells.size=s:=by rw[← Array.length_toList,g3];exact hzl
  have hsz:([].toArray++vs.toArray++Builtin.zeroCells zv.cells (grownCap w n 0 e - n)).size=grownCap w n 0 e*s:=by
   simp[size_zeroCells,hzs,l2,Nat.sub_mul]
   have:=Nat.mul_le_mul_right s hcap
   omega
  have:=VR.sl (M:=mset M H.length 0 (w.heap.size,0,([].toArray++vs.toArray++Builtin.zeroCells zv.cells (grownCap w n 0 e - n)).size)) (off:=0) (len:=n) (e:=s) (cap:=grownCap w n 0 e) (mset_same _ _ _ _) hcap (by omega)
  simpa using this
 ·obtain⟨v',q1,q2⟩:=l1.1.get hv
  refine⟨l1.2 v (List.mem_of_getElem? hv),v',?_,q2⟩
  have hj:j<vs.length:=(List.getElem?_eq_some_iff.1 q1).1
  rw[Array.getElem?_append_left (by simpa using hj)]
  simpa using q1

/-- An append onto a block. -/
theorem gives_append_blk {P:Program} {N0:Nat} {H:AH} {R:Option (List Nat)} {M:Mp} {w:World} (p:Pre N0 H R M w) {t t' ty e e':TypeId} {s by_:Nat} {z:List Value} (ht:tslice P t=some e) (ht':tslice P t'=some e') (hs:tsz P e=some s) (hb:tby P e=some by_) (hz:tzero P e=some z)
  {y y':Value} {cs:List Value} {n:Nat} {bs:List Nat} (hy:VR M y y') (h:asrc H s y=some (cs,n,bs)) (hR:∀ b∈bs,inR R b) (hs0:0<s) (hzl:z.length=s)
  {b g len:Nat} {k:Blk} {x':Value} (hx:VR M (sl b 0 g len s) x') (hRb:inR R b) (hk:H[b]?=some k) (hg:g=k.gen) (hrw:k.rw=true) (hlen:len*s=k.cells.length)
  (h0:0<n) (h1:(len+n)*by_≤140737488355328) (h2:len+n≤140737488355328) :
  Gives N0 H (H.set b ⟨k.cells++cs,g+1,true⟩) [b] M w (sl b 0 (g+1) (len+n) s) ((Builtin.append_ #[t,t'] ty #[x',y']).run P w):=by
 subst hg
 obtain⟨i,zv,g1,g2,g3,g4⟩:=tzero_val hz
 have hsi:i.size=s:=by unfold tsz at hs;rw[g1] at hs;simpa using hs
 have hbi:i.bytes=by_:=by unfold tby at hb;rw[g1] at hb;simpa using hb
 have hzs:zv.cells.size=s:=by rw[← Array.length_toList,g3];exact hzl
 -- what lies in the world
 have hM:∃ c o m base cap,M b k.gen=some (c,o,m)∧x'=.slice base len cap∧len≤cap∧((base=some ⟨c,o,none⟩∧o+cap*s≤m)∨(len=0∧cap=0)):=by
  rcases hx.sl_inv with ⟨c,o,m,cap,hM,q1,q2,rfl⟩|⟨rfl,a',⟨c,o,m⟩,hM,rfl⟩
  ·exact⟨c,o,m,_,cap,hM,rfl,q1,.inl ⟨by simp,by simpa using q2⟩⟩
  ·exact⟨c,o,m,_,0,hM,rfl,Nat.le_refl _,.inr ⟨rfl,rfl⟩⟩
 obtain⟨c,o,m,base,cap,hM,rfl,hcap,hbase⟩:=hM
 obtain⟨hcell,hN⟩:=cell_at p hRb hk rfl hM
 have hN:=hN hrw
 obtain⟨⟨ccs,ce,cfr,hb1,hb2,hbf⟩,hfz⟩:=p.hp.own hM hN
 by_cases hroom:len+n≤cap
 ·-- in place
  rcases hbase with ⟨rfl,hm⟩|⟨rfl,rfl⟩
  case inr=>omega
  obtain⟨⟨a,c',rfl⟩,hcl,vs,l1,l2,l3⟩:=src_run (P:=P) (w1:=w) p hy h hR rfl
  have hmul:(len+n)*s≤cap*s:=Nat.mul_le_mul_right s hroom
  rw[Nat.add_mul] at hmul
  have hst:=run_storeCells_cells (P:=P) c (o+k.cells.length) vs 0 w (fun j hj=>by
    rw[cell_of_row _ _ _ _ _ _ hb1,Array.getElem?_eq_getElem (by omega)];rfl) (fun j hj=>hfz _ (by omega)) (fun u hu=>by
    rw[one_kit]
    obtain⟨j,hj,e⟩:=List.getElem_of_mem hu
    have hj':j<cs.length:=by omega
    have r:=l1.1.2 j cs[j] u (List.getElem?_eq_getElem hj') (by rw[← e];exact List.getElem?_eq_getElem hj)
    rw[r.one_eq];exact l1.2 _ (List.getElem_mem hj'))
  simp only[Nat.add_zero] at hst
  have hrun:=append_room (P:=P) (w:=w) (ty:=ty) (tslice_und ht) (tslice_und ht') g1 (some ⟨c,o,none⟩) len cap (.slice a n c') a n c' rfl vs (by rw[hsi];exact l3) hroom (w.setCells c (o+k.cells.length) vs) (fun b' hb'=>by
   cases hb'
   rw[add_off,hsi,hlen];exact hst) (fun hh=>by cases hh)
  refine⟨_,_,mset M b (k.gen+1) (c,o,m),hrun,?_,Post.grow_in p hRb hk hM hrw cs vs (by rw[hcl];omega) l1⟩
  have:=VR.sl (M:=mset M b (k.gen+1) (c,o,m)) (off:=0) (len:=len+n) (e:=s) (cap:=cap) (mset_same _ _ _ _) hroom (by simpa using hm)
  simpa using this
 ·-- laid anew
  obtain⟨⟨a,c',rfl⟩,hcl,vs,l1,l2,l3⟩:=src_run (P:=P) (w1:=w.drew) p hy h hR rfl
  have holds:∃ olds,(Builtin.firstCells i.size len (.slice base len cap)).run P w.drew=.ok olds.toArray w.drew∧olds.length=len*s∧VCs M k.cells olds:=by
   rcases hbase with ⟨rfl,hm⟩|⟨rfl,rfl⟩
   ·obtain⟨cs',q1,q2,q3⟩:=cells_at hcell 0 k.cells.length (by omega)
    refine⟨cs',?_,by omega,by simpa using q3⟩
    rw[hsi]
    exact run_firstCells_some (P:=P) w.drew s len ⟨c,o,none⟩ len cap cs' (by omega) (fun j v hj=>by
     rw[add_off];have:=q2 j v hj;simpa using this)
   ·refine⟨[],?_,by simp,?_⟩
    ·cases base with
     | none=>simp[Builtin.firstCells]
     | some b=>exact run_firstCells_some (P:=P) w.drew i.size 0 b 0 0 [] (by simp) (fun j v h=>by simp at h)
    ·have:k.cells=[]:=List.eq_nil_of_length_eq_zero (by omega)
     rw[this];exact⟨VRs.nil,by simp⟩
  obtain⟨olds,o1,o2,o3⟩:=holds
  have hrun:=append_grow (ty:=ty) (tslice_und ht) (tslice_und ht') g1 g2 base len cap olds o1 (.slice a n c') a n c' rfl vs (by rw[hsi];exact l3) (by omega) h2 (by rw[hbi];exact h1)
  have hcapg:=grownCap_ge w (len+n) cap e
  have hall:=o3.append l1
  refine⟨_,_,mset M b (k.gen+1) (w.heap.size,0,(olds.toArray++vs.toArray++Builtin.zeroCells zv.cells (grownCap w (len+n) cap e - (len+n))).size),hrun,?_,Post.grow_new (w1:=w.drew) p hRb hk hM hrw cs _ e rfl rfl rfl rfl (fun j v hv=>?_)⟩
  ·have hsz:(olds.toArray++vs.toArray++Builtin.zeroCells zv.cells (grownCap w (len+n) cap e - (len+n))).size=grownCap w (len+n) cap e*s:=by
    simp only[Array.size_append,size_zeroCells,hzs,List.size_toArray,l2,o2,Nat.sub_mul]
    have:=Nat.mul_le_mul_right s hcapg
    rw[Nat.add_mul] at this ⊢
    omega
   have:=VR.sl (M:=mset M b (k.gen+1) (w.heap.size,0,(olds.toArray++vs.toArray++Builtin.zeroCells zv.cells (grownCap w (len+n) cap e - (len+n))).size)) (off:=0) (len:=len+n) (e:=s) (cap:=grownCap w (len+n) cap e) (mset_same _ _ _ _) hcapg (by omega)
   simpa using this
  ·obtain⟨v',q1,q2⟩:=hall.1.get hv
   refine⟨hall.2 v (List.mem_of_getElem? hv),v',?_,q2⟩
   have hj:j<(olds++vs).length:=(List.getElem?_eq_some_iff.1 q1).1
   rw[Array.getElem?_append_left (by simpa using hj)]
   simpa using q1

/-- A block of which less is known. -/
theorem Pre.trunc {N0:Nat} {H:AH} {R:Option (List Nat)} {M:Mp} {w:World} (p:Pre N0 H R M w) {b:Nat} {k:Blk} (hk:H[b]?=some k):Pre N0 (H.set b ⟨[],k.gen,k.rw⟩) R M w:=by
 have hlt:=(List.getElem?_eq_some_iff.1 hk).1
 refine⟨fun h=>by rw[List.length_set];exact p.dom h,p.hp,p.low,fun {b' k'} hR hk' hx=>?_⟩
 by_cases e:b=b'
 ·subst e
  rw[List.getElem?_set_self hlt] at hk'
  cases hk'
  obtain⟨c,o,n,h1,h2,h3,h4⟩:=p.cont hR hk hx
  exact⟨c,o,n,h1,h2,fun i v hi=>by simp at hi,h4⟩
 ·rw[List.getElem?_set_ne e] at hk'
  exact p.cont hR hk' hx
theorem Gives.untrunc {N0:Nat} {H H':AH} {W:List Nat} {M:Mp} {w:World} {v:Value} {r:Result Value} {b:Nat} {k:Blk} (h:Gives N0 (H.set b k) H' W M w v r) (hb:b∈W):Gives N0 H H' W M w v r:=by
 obtain⟨v',w',M',h1,h2,q⟩:=h
 refine⟨v',w',M',h1,h2,⟨by have:=q.le;rwa [List.length_set] at this,fun b' hb' hn=>?_,q.ext,fun b' g hb' hn=>q.keep b' g (by rwa [List.length_set]) hn,q.dom,fun b' hb' h=>q.absent b' (by rwa [List.length_set]) h,q.fresh,q.frame,q.wown,q.hp,fun hh hk hx=>q.cont (by rwa [List.length_set]) hk hx,q.size,q.os,q.tape,q.output⟩⟩
 have hne:¬ b=b':=fun e=>hn (by rw[← e];exact hb)
 rw[q.same b' (by rwa [List.length_set]) hn,List.getElem?_set_ne hne]
theorem asrc_set {H:AH} {s:Nat} {y:Value} {cs:List Value} {n:Nat} {bs:List Nat} (h:asrc H s y=some (cs,n,bs)) {b:Nat} (k:Blk) (hb:b∉bs):asrc (H.set b k) s y=some (cs,n,bs):=by
 unfold asrc at h ⊢
 split at h
 ·exact h
 ·rename_i b' off g n' e
  split at h
  case isFalse=>cases h
  rename_i he
  rw[if_pos he]
  split at h
  ·rename_i h0
   rw[if_pos h0];exact h
  ·rename_i h0
   rw[if_neg h0]
   cases hk:H[b']? with
   | none=>rw[hk] at h;cases h
   | some k'=>
    rw[hk] at h
    simp only at h
    split at h
    case isFalse=>cases h
    rename_i hc
    cases h
    rw[List.getElem?_set_ne (fun e=>hb (by simp[e])),hk]
    simp only
    rw[if_pos hc]
 ·exact h
 ·cases h

theorem VR.nil_inv {M:Mp} {v':Value} (r:VR M (.slice none 0 0) v'):v'=.slice none 0 0:=by cases r;rfl
theorem VR.zs_inv {M:Mp} {b off e:Nat} {v':Value} (r:VR M (.slice (some ⟨b,off,none⟩) 0 e) v'):∃ a',v'=.slice (some a') 0 0:=by cases r;exact⟨_,rfl⟩

theorem gives_append {P:Program} {N0:Nat} {H H':AH} {R:Option (List Nat)} {M:Mp} {w:World} (p:Pre N0 H R M w) {t t' ty:TypeId} {x x' y y' v:Value} {W rs:List Nat} (hx:VR M x x') (hy:VR M y y')
  (h:aappend P H t t' x y=some (v,H',W,rs)) (hR:∀ b∈rs,inR R b):Gives N0 H H' W M w v ((Builtin.append_ #[t,t'] ty #[x',y']).run P w):=by
 unfold aappend at h
 split at h
 case h_2=>cases h
 rename_i e e' ht ht'
 split at h
 case h_2=>cases h
 rename_i s by_ z hs hb hz
 split at h
 case h_2=>cases h
 rename_i cs n bs hsrc
 split at h
 case isFalse=>cases h
 rename_i hc
 obtain⟨hs0,hzl,_⟩:=hc
 have none0:∀ (base:Option Addr) (len cap:Nat),n=0→len≤cap→(∀ b∈bs,inR R b)→(Builtin.append_ #[t,t'] ty #[.slice base len cap,y']).run P w=.ok (.slice base len cap) w:=by
  intro base len cap h0 hle hbs
  obtain⟨i,zv,g1,g2,g3,g4⟩:=tzero_val hz
  have hsi:i.size=s:=by unfold tsz at hs;rw[g1] at hs;simpa using hs
  obtain⟨⟨a,c,rfl⟩,hcl,vs,l1,l2,l3⟩:=src_run (P:=P) (w1:=w) p hy hsrc hbs rfl
  subst h0
  have hvs:vs=[]:=List.eq_nil_of_length_eq_zero (by simpa using l2)
  subst hvs
  have:=append_room (P:=P) (w:=w) (ty:=ty) (tslice_und ht) (tslice_und ht') g1 base len cap (.slice a 0 c) a 0 c rfl [] (by rw[hsi];exact l3) (by omega) w (fun b _=>rfl) (fun _=>rfl)
  simpa using this
 split at h
 ·-- nil
  have:=hx.nil_inv;subst this
  split at h
  ·rename_i h0
   cases h
   exact Gives.same p (none0 none 0 0 h0 (Nat.le_refl _) hR) .nils
  ·rename_i h0
   split at h
   case isFalse=>cases h
   rename_i hb2
   cases h
   exact gives_append_nil p ht ht' hs hb hz hy hsrc hR hs0 hzl none (by omega) hb2.1 hb2.2
 ·obtain⟨a',rfl⟩:=hx.zs_inv
  split at h
  ·rename_i h0
   cases h
   exact Gives.same p (none0 _ 0 0 h0 (Nat.le_refl _) hR) hx
  ·rename_i h0
   split at h
   case isFalse=>cases h
   rename_i hb2
   cases h
   exact gives_append_nil p ht ht' hs hb hz hy hsrc hR hs0 hzl (some a') (by omega) hb2.1 hb2.2
 ·rename_i b g len e0
  split at h
  case h_2=>cases h
  rename_i k hk
  split at h
  case isFalse=>
   split at h
   case isFalse=>cases h
   rename_i hc
   obtain⟨rfl,hg,hrw,rfl,hnb⟩:=hc
   split at h
   ·rename_i h0
    cases h
    rcases hx.sl_inv with ⟨c,o,m,cap,hM,q1,q2,rfl⟩|⟨_,a',x,hM,rfl⟩
    ·exact Gives.same p (none0 _ 0 cap h0 q1 (fun b hb=>hR b (by simp[hb]))) hx
    ·exact Gives.same p (none0 _ 0 0 h0 (Nat.le_refl _) (fun b hb=>hR b (by simp[hb]))) hx
   ·rename_i h0
    split at h
    case isFalse=>cases h
    rename_i hb2
    cases h
    have hlt:=(List.getElem?_eq_some_iff.1 hk).1
    have q:=gives_append_blk (ty:=ty) (p.trunc hk) ht ht' hs hb hz hy (asrc_set hsrc ⟨[],k.gen,k.rw⟩ hnb) (fun b hb=>hR b (by simp[hb])) hs0 hzl hx (hR b (by simp)) (List.getElem?_set_self hlt) hg hrw (by simp) (by omega) (by rw[Nat.zero_add];exact hb2.1) (by rw[Nat.zero_add];exact hb2.2)
    rw[List.set_set,Nat.zero_add] at q
    exact q.untrunc (List.mem_singleton.2 rfl)
  rename_i hc
  obtain⟨rfl,hg,hrw,hlen⟩:=hc
  split at h
  ·rename_i h0
   cases h
   rcases hx.sl_inv with ⟨c,o,m,cap,hM,q1,q2,rfl⟩|⟨rfl,a',x,hM,rfl⟩
   ·exact Gives.same p (none0 _ len cap h0 q1 (fun b hb=>hR b (by simp[hb]))) hx
   ·exact Gives.same p (none0 _ 0 0 h0 (Nat.le_refl _) (fun b hb=>hR b (by simp[hb]))) hx
  ·rename_i h0
   split at h
   case isFalse=>cases h
   rename_i hb2
   cases h
   exact gives_append_blk p ht ht' hs hb hz hy hsrc (fun b hb=>hR b (by simp[hb])) hs0 hzl hx (hR b (by simp)) hk hg hrw hlen (by omega) hb2.1 hb2.2
 ·cases h

/-! ### append(nil, make([]T, n)...) -/
theorem tkind_und7 {P:Program} {t:TypeId} {k:IntKind} (h:tkind P t=some k):P.underlying t=some (.int k):=by
 unfold tkind at h
 split at h
 ·cases h;assumption
 ·cases h
def azapp (P:Program) (H:AH) (t t':TypeId) (x y:Value):Option (Value × AH × List Nat × List Nat):=
 match y with
 | .int .i64 n=>match x with
  | .slice none 0 0=>match tslice P t,tkind P t' with
   | some e,some .i64=>match tsz P e,tby P e,tzero P e with
    | some s,some by_,some z=>if 0<s∧z.length=s∧0<n∧n.toNat*by_≤140737488355328∧n.toNat≤140737488355328 then some (sl H.length 0 0 n.toNat s,H++[⟨zrep z n.toNat,0,true⟩],[],[]) else none
    | _,_,_=>none
   | _,_=>none
  | _=>none
 | _=>none
theorem append_zeros {P:Program} {w:World} {t t' ty e:TypeId} {i:TypeInfo} {z:Value} (ht:P.underlying t=some (.slice e)) (ht':P.underlying t'=some (.int .i64)) (hi:P.info? e=some i) (hz:i.zero=some z) (n:Nat) (h0:0<n) (hs:0<i.size) (h63:n≤140737488355328) (hfit:n*i.bytes≤140737488355328) :
  (Builtin.append_ #[t,t'] ty #[.slice none 0 0,.int .i64 (n:Int)]).run P w=.ok (.slice (some ⟨w.heap.size,0,none⟩) n (grownCap w n 0 e)) (w.drew.alloc (.cells (Builtin.zeroCells z.cells n++Builtin.zeroCells z.cells (grownCap w n 0 e - n)) e)):=by
 have hw:IntKind.i64.wrap (n:Int)=n:=by simp[IntKind.wrap,IntKind.bits,IntKind.signed];omega
 have hn0:¬ ((n:Int)<0):=by omega
 have hb:¬ ((n:Int)*(i.bytes:Int)>281474976710656):=by
  have:((n*i.bytes:Nat):Int)≤((140737488355328:Nat):Int):=Int.ofNat_le.2 hfit
  rw[Int.natCast_mul] at this;omega
 have hnx:=nextslicecap_le (need:=n) (old:=0) (by omega)
 have h48:Builtin.nextslicecap n 0*i.bytes≤2*n*i.bytes:=Nat.mul_le_mul_right _ hnx
 have h48':¬ (281474976710656<Builtin.nextslicecap n 0*i.bytes):=by rw[Nat.mul_assoc] at h48;omega
 have h64:¬ (9223372036854775807<(n:Int)):=by omega
 have hne:¬ n=0:=by omega
 have hse:¬ i.size=0:=by omega
 simp[Builtin.append_,run_underlying ht,run_underlying ht',sizeOf,typeInfo,zeroValue,hi,hz,hw,hn0,hb,hne,hse,h48',h64,Question.forced,newRow,grownCap,asInt,asIntOf,Builtin.firstCells]
 intro h
 exact absurd h (Nat.ne_of_gt (Nat.mul_pos h0 hs))
theorem gives_azapp {P:Program} {N0:Nat} {H H':AH} {R:Option (List Nat)} {M:Mp} {w:World} (p:Pre N0 H R M w) {t t' ty:TypeId} {x x' y y' v:Value} {W rs:List Nat} (hx:VR M x x') (hy:VR M y y')
  (h:azapp P H t t' x y=some (v,H',W,rs)):Gives N0 H H' W M w v ((Builtin.append_ #[t,t'] ty #[x',y']).run P w):=by
 unfold azapp at h
 split at h
 case h_2=>cases h
 rename_i n
 have:=hy.int_inv;subst this
 split at h
 case h_2=>cases h
 have:=hx.nil_inv;subst this
 split at h
 case h_2=>cases h
 rename_i e ht ht'
 split at h
 case h_2=>cases h
 rename_i s by_ z hs hb hz
 split at h
 case isFalse=>cases h
 rename_i hc
 cases h
 obtain⟨hs0,hzl,hn0,h1,h2⟩:=hc
 obtain⟨m,rfl⟩:∃ m:Nat,n=(m:Int):=⟨n.toNat,by omega⟩
 rw[Int.toNat_natCast] at h1 h2 ⊢
 obtain⟨i,zv,g1,g2,g3,g4⟩:=tzero_val hz
 have hsi:i.size=s:=by unfold tsz at hs;rw[g1] at hs;simpa using hs
 have hbi:i.bytes=by_:=by unfold tby at hb;rw[g1] at hb;simpa using hb
 have hzs:zv.cells.size=s:=by rw[← Array.length_toList,g3];exact hzl
 have hrun:=append_zeros (P:=P) (w:=w) (ty:=ty) (tslice_und ht) (tkind_und7 ht') g1 g2 m (by omega) (by omega) h2 (by rw[hbi];exact h1)
 have hcap:=grownCap_ge w m 0 e
 have hsz:(Builtin.zeroCells zv.cells m++Builtin.zeroCells zv.cells (grownCap w m 0 e - m)).size=grownCap w m 0 e*s:=by
  simp only[Array.size_append,size_zeroCells,hzs,Nat.sub_mul]
  have:=Nat.mul_le_mul_right s hcap
  omega
 refine⟨_,_,mset M H.length 0 (w.heap.size,0,(Builtin.zeroCells zv.cells m++Builtin.zeroCells zv.cells (grownCap w m 0 e - m)).size),hrun,?_,Post.new (w1:=w.drew) p _ _ e true rfl rfl rfl rfl (fun j v hv=>?_)⟩
 ·have:=VR.sl (M:=mset M H.length 0 (w.heap.size,0,(Builtin.zeroCells zv.cells m++Builtin.zeroCells zv.cells (grownCap w m 0 e - m)).size)) (off:=0) (len:=m) (e:=s) (cap:=grownCap w m 0 e) (mset_same _ _ _ _) hcap (by omega)
  simpa using this
 ·have hall:=zrep_all g4 m
  rw[List.all_eq_true] at hall
  have hp1:=hall v (List.mem_of_getElem? hv)
  refine⟨plain1_one hp1,v,?_,plain1_rel hp1⟩
  have hj:j<m*s:=by
   have:=(List.getElem?_eq_some_iff.1 hv).1
   rw[zrep_length,hzl] at this;exact this
  rw[zrep_get _ _ _ (by rw[hzl];exact hj),hzl] at hv
  have hm:j % s<zv.cells.size:=by rw[hzs];exact Nat.mod_lt _ (by omega)
  rw[Array.getElem?_append_left (by rw[size_zeroCells,hzs];exact hj)]
  unfold Builtin.zeroCells
  rw[hzs]
  simp only[Array.getElem?_map]
  rw[Array.getElem?_eq_getElem (by simpa using hj)]
  simp only[Array.getElem_range,Option.map_some]
  rw[getElem!_pos zv.cells _ hm]
  rw[← g3] at hv
  have hm':zv.cells.toList[j % s]?=some zv.cells[j % s]:=by simp[hm]
  rw[hm'] at hv
  exact hv
/-! ### append(s, make([]T, n)...) onto a block -/
def azappB (P:Program) (H:AH) (t t':TypeId) (x y:Value):Option (Value × AH × List Nat × List Nat):=
 match y with
 | .int .i64 n=>match x with
  | .slice (some ⟨b,0,some g⟩) len e0=>match tslice P t,tkind P t' with
   | some e,some .i64=>match tsz P e,tby P e,tzero P e with
    | some s,some by_,some z=>match H[b]? with
     | some k=>if 0<s∧z.length=s∧0<n∧(len+n.toNat)*by_≤140737488355328∧len+n.toNat≤140737488355328∧e0=s∧g=k.gen∧k.rw=true∧len*s=k.cells.length then some (sl b 0 (g+1) (len+n.toNat) s,H.set b ⟨k.cells++zrep z n.toNat,g+1,true⟩,[b],[b]) else none
     | none=>none
    | _,_,_=>none
   | _,_=>none
  | _=>none
 | _=>none
theorem zeros_grow {P:Program} {w:World} {t t' ty e:TypeId} {i:TypeInfo} {z:Value} (ht:P.underlying t=some (.slice e)) (ht':P.underlying t'=some (.int .i64)) (hi:P.info? e=some i) (hz:i.zero=some z)
  (base:Option Addr) (sLen sCap n:Nat) (olds:List Value) (hold:(Builtin.firstCells i.size sLen (.slice base sLen sCap)).run P w.drew=.ok olds.toArray w.drew)
  (h0:0<n) (hs:0<i.size) (hg:sCap<sLen+n) (h63:sLen+n≤140737488355328) (hfit:(sLen+n)*i.bytes≤140737488355328) :
  (Builtin.append_ #[t,t'] ty #[.slice base sLen sCap,.int .i64 (n:Int)]).run P w =
   .ok (.slice (some ⟨w.heap.size,0,none⟩) (sLen+n) (grownCap w (sLen+n) sCap e))
    (w.drew.alloc (.cells (olds.toArray++Builtin.zeroCells z.cells n++Builtin.zeroCells z.cells (grownCap w (sLen+n) sCap e - (sLen+n))) e)):=by
 have hw:IntKind.i64.wrap (n:Int)=n:=by simp[IntKind.wrap,IntKind.bits,IntKind.signed];omega
 have hn0:¬ ((n:Int)<0):=by omega
 have hle:n*i.bytes≤(sLen+n)*i.bytes:=Nat.mul_le_mul_right _ (by omega)
 have hb:¬ ((n:Int)*(i.bytes:Int)>281474976710656):=by
  have:((n*i.bytes:Nat):Int)≤((140737488355328:Nat):Int):=Int.ofNat_le.2 (by omega)
  rw[Int.natCast_mul] at this;omega
 have hn:¬ (sLen+n≤sCap):=by omega
 have h63':¬ (9223372036854775807<((sLen:Int)+(n:Int))):=by omega
 have hnx:=nextslicecap_le (need:=sLen+n) (old:=sCap) hg
 have h48:Builtin.nextslicecap (sLen+n) sCap*i.bytes≤2*(sLen+n)*i.bytes:=Nat.mul_le_mul_right _ hnx
 have h48':¬ (281474976710656<Builtin.nextslicecap (sLen+n) sCap*i.bytes):=by rw[Nat.mul_assoc] at h48;omega
 simp[Builtin.append_,run_underlying ht,run_underlying ht',sizeOf,typeInfo,zeroValue,hi,hz,hw,hn0,hb,hn,h63',h48',Question.forced,hold,newRow,grownCap,asInt,asIntOf]
 intro h
 exact absurd h (Nat.ne_of_gt (Nat.mul_pos h0 hs))
theorem zeros_room {P:Program} {w:World} {t t' ty e:TypeId} {i:TypeInfo} {z:Value} (ht:P.underlying t=some (.slice e)) (ht':P.underlying t'=some (.int .i64)) (hi:P.info? e=some i) (hz:i.zero=some z)
  (b:Addr) (sLen sCap n:Nat) (h0:0<n) (hs:0<i.size) (hfit:n*i.bytes≤140737488355328) (h63:n≤140737488355328)
  (hroom:sLen+n≤sCap) (w':World) (hst:(storeCells (b.add (sLen*i.size)) (Builtin.zeroCells z.cells n).toList).run P w=.ok () w') :
  (Builtin.append_ #[t,t'] ty #[.slice (some b) sLen sCap,.int .i64 (n:Int)]).run P w=.ok (.slice (some b) (sLen+n) sCap) w':=by
 have hw:IntKind.i64.wrap (n:Int)=n:=by simp[IntKind.wrap,IntKind.bits,IntKind.signed];omega
 have hn0:¬ ((n:Int)<0):=by omega
 have hb:¬ ((n:Int)*(i.bytes:Int)>281474976710656):=by
  have:((n*i.bytes:Nat):Int)≤((140737488355328:Nat):Int):=Int.ofNat_le.2 hfit
  rw[Int.natCast_mul] at this;omega
 simp[Builtin.append_,run_underlying ht,run_underlying ht',sizeOf,typeInfo,zeroValue,hi,hz,hw,hn0,hb,hroom,asInt,asIntOf,hst]
 intro h
 exact absurd h (Nat.ne_of_gt (Nat.mul_pos h0 hs))
theorem zrep_vcs {M:Mp} {zv:Value} {z:List Value} {s:Nat} (g3:zv.cells.toList=z) (g4:z.all plain1=true) (hzl:z.length=s) (m:Nat):VCs M (zrep z m) (Builtin.zeroCells zv.cells m).toList:=by
 have hzs:zv.cells.size=s:=by rw[← Array.length_toList,g3];exact hzl
 have hall:=zrep_all g4 m
 rw[List.all_eq_true] at hall
 have hlz:(zrep z m).length=(Builtin.zeroCells zv.cells m).toList.length:=by rw[zrep_length,hzl];simp[size_zeroCells,hzs]
 refine⟨⟨hlz,fun j v v' h1 h2=>?_⟩,fun v hv=>plain1_one (hall v hv)⟩
 have hp1:=hall v (List.mem_of_getElem? h1)
 have hj:j<m*s:=by
  have:=(List.getElem?_eq_some_iff.1 h1).1
  rw[zrep_length,hzl] at this;exact this
 have hs0:0<s:=by
  rcases Nat.eq_zero_or_pos s with h|h
  ·rw[h] at hj;omega
  ·exact h
 rw[zrep_get _ _ _ (by rw[hzl];exact hj),hzl] at h1
 have hm:j % s<zv.cells.size:=by rw[hzs];exact Nat.mod_lt _ hs0
 unfold Builtin.zeroCells at h2
 rw[hzs] at h2
 simp only[Array.getElem?_toList,Array.getElem?_map] at h2
 rw[Array.getElem?_eq_getElem (by simpa using hj)] at h2
 simp only[Array.getElem_range,Option.map_some] at h2
 rw[getElem!_pos zv.cells _ hm] at h2
 rw[← g3] at h1
 have hm':zv.cells.toList[j % s]?=some zv.cells[j % s]:=by simp[hm]
 rw[hm'] at h1
 cases h1
 cases h2
 exact plain1_rel hp1
theorem gives_azappB {P:Program} {N0:Nat} {H H':AH} {R:Option (List Nat)} {M:Mp} {w:World} (p:Pre N0 H R M w) {t t' ty:TypeId} {x x' y y' v:Value} {W rs:List Nat} (hx:VR M x x') (hy:VR M y y')
  (h:azappB P H t t' x y=some (v,H',W,rs)) (hR:∀ b∈rs,inR R b):Gives N0 H H' W M w v ((Builtin.append_ #[t,t'] ty #[x',y']).run P w):=by
 unfold azappB at h
 split at h
 case h_2=>cases h
 rename_i nn
 have:=hy.int_inv;subst this
 split at h
 case h_2=>cases h
 rename_i b g len e0
 split at h
 case h_2=>cases h
 rename_i e ht ht'
 split at h
 case h_2=>cases h
 rename_i s by_ z hs hb hz
 split at h
 case h_2=>cases h
 rename_i k hk
 split at h
 case isFalse=>cases h
 rename_i hc
 cases h
 obtain⟨hs0,hzl,hn0,h1,h2,rfl,hg,hrw,hlen⟩:=hc
 obtain⟨n,rfl⟩:∃ m:Nat,nn=(m:Int):=⟨nn.toNat,by omega⟩
 rw[Int.toNat_natCast] at h1 h2 ⊢
 have h0:0<n:=by omega
 have hRb:inR R b:=hR b (by simp)
 have ht:=tslice_und ht
 have ht':=tkind_und7 ht'
 subst hg
 obtain⟨i,zv,g1,g2,g3,g4⟩:=tzero_val hz
 have hsi:i.size=e0:=by unfold tsz at hs;rw[g1] at hs;simpa using hs
 have hbi:i.bytes=by_:=by unfold tby at hb;rw[g1] at hb;simpa using hb
 have hzs:zv.cells.size=e0:=by rw[← Array.length_toList,g3];exact hzl
 have hx:VR M (sl b 0 k.gen len e0) x':=hx
 have hM:∃ c o m base cap,M b k.gen=some (c,o,m)∧x'=.slice base len cap∧len≤cap∧((base=some ⟨c,o,none⟩∧o+cap*e0≤m)∨(len=0∧cap=0)):=by
  rcases hx.sl_inv with ⟨c,o,m,cap,hM,q1,q2,rfl⟩|⟨rfl,a',⟨c,o,m⟩,hM,rfl⟩
  ·exact⟨c,o,m,_,cap,hM,rfl,q1,.inl ⟨by simp,by simpa using q2⟩⟩
  ·exact⟨c,o,m,_,0,hM,rfl,Nat.le_refl _,.inr ⟨rfl,rfl⟩⟩
 obtain⟨c,o,m,base,cap,hM,rfl,hcap,hbase⟩:=hM
 obtain⟨hcell,hN⟩:=cell_at p hRb hk rfl hM
 have hN:=hN hrw
 obtain⟨⟨ccs,ce,cfr,hb1,hb2,hbf⟩,hfz⟩:=p.hp.own hM hN
 have l1:VCs M (zrep z n) (Builtin.zeroCells zv.cells n).toList:=zrep_vcs g3 g4 hzl n
 have l2:(Builtin.zeroCells zv.cells n).toList.length=n*e0:=by rw[Array.length_toList,size_zeroCells,hzs]
 have hcl:(zrep z n).length=n*e0:=by rw[zrep_length,hzl]
 have hleb:n*by_≤(len+n)*by_:=Nat.mul_le_mul_right _ (by omega)
 by_cases hroom:len+n≤cap
 ·rcases hbase with ⟨rfl,hm⟩|⟨rfl,rfl⟩
  case inr=>omega
  have hmul:(len+n)*e0≤cap*e0:=Nat.mul_le_mul_right e0 hroom
  rw[Nat.add_mul] at hmul
  have hst:=run_storeCells_cells (P:=P) c (o+k.cells.length) (Builtin.zeroCells zv.cells n).toList 0 w (fun j hj=>by
    rw[cell_of_row _ _ _ _ _ _ hb1,Array.getElem?_eq_getElem (by omega)];rfl) (fun j hj=>hfz _ (by omega)) (fun u hu=>by
    rw[one_kit]
    obtain⟨j,hj,e⟩:=List.getElem_of_mem hu
    have hj':j<(zrep z n).length:=by omega
    have r:=l1.1.2 j (zrep z n)[j] u (List.getElem?_eq_getElem hj') (by rw[← e];exact List.getElem?_eq_getElem hj)
    rw[r.one_eq];exact l1.2 _ (List.getElem_mem hj'))
  simp only[Nat.add_zero] at hst
  have hrun:=zeros_room (P:=P) (w:=w) (ty:=ty) ht ht' g1 g2 ⟨c,o,none⟩ len cap n h0 (by omega) (by rw[hbi];omega) (by omega) hroom (w.setCells c (o+k.cells.length) (Builtin.zeroCells zv.cells n).toList) (by
   rw[add_off,hsi,hlen];exact hst)
  refine⟨_,_,mset M b (k.gen+1) (c,o,m),hrun,?_,Post.grow_in p hRb hk hM hrw (zrep z n) (Builtin.zeroCells zv.cells n).toList (by rw[hcl];omega) l1⟩
  have:=VR.sl (M:=mset M b (k.gen+1) (c,o,m)) (off:=0) (len:=len+n) (e:=e0) (cap:=cap) (mset_same _ _ _ _) hroom (by simpa using hm)
  simpa using this
 ·have holds:∃ olds,(Builtin.firstCells i.size len (.slice base len cap)).run P w.drew=.ok olds.toArray w.drew∧olds.length=len*e0∧VCs M k.cells olds:=by
   rcases hbase with ⟨rfl,hm⟩|⟨rfl,rfl⟩
   ·obtain⟨cs',q1,q2,q3⟩:=cells_at hcell 0 k.cells.length (by omega)
    refine⟨cs',?_,by omega,by simpa using q3⟩
    rw[hsi]
    exact run_firstCells_some (P:=P) w.drew e0 len ⟨c,o,none⟩ len cap cs' (by omega) (fun j v hj=>by
     rw[add_off];have:=q2 j v hj;simpa using this)
   ·refine⟨[],?_,by simp,?_⟩
    ·cases base with
     | none=>simp[Builtin.firstCells]
     | some b=>exact run_firstCells_some (P:=P) w.drew i.size 0 b 0 0 [] (by simp) (fun j v h=>by simp at h)
    ·have:k.cells=[]:=List.eq_nil_of_length_eq_zero (by omega)
     rw[this];exact⟨VRs.nil,by simp⟩
  obtain⟨olds,o1,o2,o3⟩:=holds
  have hrun:=zeros_grow (P:=P) (w:=w) (ty:=ty) ht ht' g1 g2 base len cap n olds o1 h0 (by omega) (by omega) h2 (by rw[hbi];exact h1)
  have hcapg:=grownCap_ge w (len+n) cap e
  have hall:=o3.append l1
  refine⟨_,_,mset M b (k.gen+1) (w.heap.size,0,(olds.toArray++Builtin.zeroCells zv.cells n++Builtin.zeroCells zv.cells (grownCap w (len+n) cap e - (len+n))).size),hrun,?_,Post.grow_new (w1:=w.drew) p hRb hk hM hrw (zrep z n) _ e rfl rfl rfl rfl (fun j v hv=>?_)⟩
  ·have hsz:(olds.toArray++Builtin.zeroCells zv.cells n++Builtin.zeroCells zv.cells (grownCap w (len+n) cap e - (len+n))).size=grownCap w (len+n) cap e*e0:=by
    simp only[Array.size_append,size_zeroCells,hzs,List.size_toArray,o2,Nat.sub_mul]
    have:=Nat.mul_le_mul_right e0 hcapg
    rw[Nat.add_mul] at this ⊢
    omega
   have:=VR.sl (M:=mset M b (k.gen+1) (w.heap.size,0,(olds.toArray++Builtin.zeroCells zv.cells n++Builtin.zeroCells zv.cells (grownCap w (len+n) cap e - (len+n))).size)) (off:=0) (len:=len+n) (e:=e0) (cap:=grownCap w (len+n) cap e) (mset_same _ _ _ _) hcapg (by omega)
   simpa using this
  ·obtain⟨v',q1,q2⟩:=hall.1.get hv
   refine⟨hall.2 v (List.mem_of_getElem? hv),v',?_,q2⟩
   have hj:j<(olds++(Builtin.zeroCells zv.cells n).toList).length:=(List.getElem?_eq_some_iff.1 q1).1
   rw[Array.getElem?_append_left (by simpa using hj)]
   have:(olds.toArray++Builtin.zeroCells zv.cells n)[j]?=(olds++(Builtin.zeroCells zv.cells n).toList)[j]?:=by rw[← Array.getElem?_toList,Array.toList_append]
   rw[this];exact q1
def aapp2 (P:Program) (H:AH) (t t':TypeId) (x y:Value):Option (Value × AH × List Nat × List Nat):=
 match azapp P H t t' x y with
 | some r=>some r
 | none=>match azappB P H t t' x y with
  | some r=>some r
  | none=>aappend P H t t' x y
theorem gives_aapp2 {P:Program} {N0:Nat} {H H':AH} {R:Option (List Nat)} {M:Mp} {w:World} (p:Pre N0 H R M w) {t t' ty:TypeId} {x x' y y' v:Value} {W rs:List Nat} (hx:VR M x x') (hy:VR M y y')
  (h:aapp2 P H t t' x y=some (v,H',W,rs)) (hR:∀ b∈rs,inR R b):Gives N0 H H' W M w v ((Builtin.append_ #[t,t'] ty #[x',y']).run P w):=by
 unfold aapp2 at h
 split at h
 ·rename_i r hr
  cases h
  exact gives_azapp p hx hy hr
 ·split at h
  ·rename_i r hr
   cases h
   exact gives_azappB p hx hy hr hR
  ·exact gives_append p hx hy h hR
end Go.Proofs.YthhbglkokpablaaGreat.E
/- The machine's operators: equality of values, cell by cell. -/
set_option linter.unusedVariables false
set_option linter.unusedSimpArgs false
namespace Go.Proofs.YthhbglkokpablaaGreat.E
open Go Go.RowKit

/-- What a cell holds: a number, a truth, a text. -/
inductive Lf where
 | i|b|s

def eq1:Lf→Value→Value→Option Bool
 | .i,.int k a,.int k' b=>if k=k' then some (a==b) else none
 | .b,.bool a,.bool b=>some (a==b)
 | .s,.string a,.string b=>some (a.toList==b.toList)
 | _,_,_=>none

def eqc:List Lf→List Value→List Value→Option Bool
 | [],[],[]=>some true
 | l::ls,x::xs,y::ys=>match eq1 l x y,eqc ls xs ys with
  | some b,some c=>some (b&&c)
  | _,_=>none
 | _,_,_=>none

theorem eqc_len:∀ {ks:List Lf} {xs ys:List Value} {b:Bool},eqc ks xs ys=some b→xs.length=ks.length∧ys.length=ks.length
 | [],[],[],_,_=>⟨rfl,rfl⟩
 | [],[],_::_,_,h=>by cases h
 | [],_::_,[],_,h=>by cases h
 | [],_::_,_::_,_,h=>by cases h
 | _::_,[],[],_,h=>by cases h
 | _::_,[],_::_,_,h=>by cases h
 | _::_,_::_,[],_,h=>by cases h
 | l::ls,x::xs,y::ys,b,h=>by
  simp only[eqc] at h
  split at h
  case h_2=>cases h
  rename_i h1 h2
  obtain⟨e1,e2⟩:=eqc_len h2
  exact⟨by simp[e1],by simp[e2]⟩

theorem eqc_split:∀ {ks ls:List Lf} {xs ys:List Value} {b:Bool},eqc (ks++ls) xs ys=some b→∃ b1 b2,eqc ks (xs.take ks.length) (ys.take ks.length)=some b1∧eqc ls (xs.drop ks.length) (ys.drop ks.length)=some b2∧b=(b1&&b2)
 | [],ls,xs,ys,b,h=>⟨true,b,rfl,by simpa using h,by simp⟩
 | k::ks,ls,[],ys,b,h=>by cases ys <;> cases h
 | k::ks,ls,_::_,[],b,h=>by cases h
 | k::ks,ls,x::xs,y::ys,b,h=>by
  simp only[List.cons_append,eqc] at h
  split at h
  case h_2=>cases h
  rename_i c1 c2 h1 h2
  cases h
  obtain⟨b1,b2,g1,g2,rfl⟩:=eqc_split h2
  exact⟨c1&&b1,b2,by simp[eqc,h1,g1],by simpa using g2,by simp[Bool.and_assoc]⟩

def flatF (rec:TypeId→Option (List Lf)):Nat→List Field→Option (List Lf)
 | _,[]=>some []
 | s0,f::fs=>
  match rec f.type with
  | some l=>if f.name≠"_"∧f.offset=s0∧0<l.length then (flatF rec (s0+l.length) fs).map (l++·) else none
  | none=>none

/-- Types whose values are rows of numbers, truths and texts. -/
def flatTy (P:Program):Nat→TypeId→Option (List Lf)
 | 0,_=>none
 | d+1,t=>
  match P.underlying t with
  | some (.int _)=>some [.i]
  | some .bool=>some [.b]
  | some .string=>some [.s]
  | some (.struct fs)=>if P.stoodInHeld t=false then (match flatF (flatTy P d) 0 fs.toList with
    | some l=>if tsz P t=some l.length then some l else none
    | none=>none) else none
  | some (.array n e)=>match flatTy P d e with
   | some l=>if tsz P e=some l.length∧tsz P t=some (n*l.length)∧0<l.length then some (List.replicate n l).flatten else none
   | none=>none
  | _=>none

def PartForm (P:Program) (t:TypeId) (cs:List Value) (x:Value):Prop:=(tagg P t=some true∧x=.agg cs.toArray)∨(tagg P t=some false∧cs=[x])

theorem flat_form {P:Program}:∀ {d:Nat} {t:TypeId} {l:List Lf},flatTy P d t=some l→(tagg P t=some true∧tsz P t=some l.length)∨(tagg P t=some false∧l.length=1)
  | 0,_,_,h=>by cases h
  | d+1,t,l,h=>by
    simp only[flatTy] at h
    split at h
    case h_6=>cases h
    · rename_i hu;cases h;exact .inr ⟨by simp[tagg,hu],rfl⟩
    · rename_i hu;cases h;exact .inr ⟨by simp[tagg,hu],rfl⟩
    · rename_i hu;cases h;exact .inr ⟨by simp[tagg,hu],rfl⟩
    · rename_i hu
      split at h
      case isFalse=>cases h
      split at h
      case h_2=>cases h
      split at h
      case isFalse=>cases h
      cases h
      exact .inl ⟨by simp[tagg,hu],‹_›⟩
    · rename_i n e hu
      split at h
      case h_2=>cases h
      rename_i l' _
      split at h
      case isFalse=>cases h
      rename_i hc
      cases h
      refine .inl ⟨by simp[tagg,hu],?_⟩
      rw[hc.2.1]
      congr 1
      induction n with
      | zero => simp
      | succ n ih => rw [List.replicate_succ, List.flatten_cons, List.length_append]; clear hc hu; have : (List.replicate n l').flatten.length = n * l'.length := by simp
                     rw [this]; grind

theorem run_part_form {P : Program} {d : Nat} {t : TypeId} {l : List Lf} (h : flatTy P d t = some l) (cs : List Value) (off : Nat) (hl : off + l.length ≤ cs.length) (w : World) :
    ∃ x,(part t cs.toArray off).run P w=.ok x w∧PartForm P t ((cs.drop off).take l.length) x:=by
  rcases flat_form h with ⟨h1,h2⟩|⟨h1,h2⟩
  · refine⟨.agg (cs.toArray.extract off (off+l.length)),by simp[part,tagg_run h1,tsz_run h2],.inl ⟨h1,?_⟩⟩
    congr 1
    apply Array.ext'
    simp[List.extract]
  · have hlt:off<cs.length:=by omega
    refine⟨cs[off],by simp[part,tagg_run h1,hlt],.inr ⟨h1,?_⟩⟩
    rw[h2]
    rw[List.take_one]
    simp[hlt]

theorem eqc_one {ks:List Lf} {x y:Value} {b:Bool} (h:eqc ks [x] [y]=some b):∃ k,ks=[k]∧eq1 k x y=some b:=by
 cases ks with
 | nil=>cases h
 | cons k ks=>
  simp only[eqc] at h
  split at h
  case h_2=>cases h
  rename_i b1 b2 h1 h2
  cases h
  cases ks with
  | nil=>cases h2;exact⟨k,rfl,by simpa using h1⟩
  | cons _ _=>cases h2

theorem flat_eq {P:Program}:∀ (d:Nat) (t:TypeId) (ks:List Lf),flatTy P d t=some ks→∀ (D:Nat),d≤D→∀ (xs ys:List Value) (b:Bool),eqc ks xs ys=some b→∀ (x y:Value),
  PartForm P t xs x→PartForm P t ys y→∀ w,(Op.equalIn D t x y).run P w=.ok b w:=by
 intro d
 induction d with
 | zero=>intro t s h;cases h
 | succ d ih=>
  intro t ks h D hD xs ys b hb x y hx hy w
  obtain⟨D,rfl⟩:∃ m,D=m+1:=⟨D - 1,by omega⟩
  have hD:d≤D:=by omega
  simp only[flatTy] at h
  split at h
  case h_6=>cases h
  case h_1 k hu=>
   cases h
   have ha:tagg P t=some false:=by simp[tagg,hu]
   rcases hx with ⟨hq,_⟩|⟨_,rfl⟩
   ·rw[ha] at hq;cases hq
   rcases hy with ⟨hq,_⟩|⟨_,rfl⟩
   ·rw[ha] at hq;cases hq
   obtain⟨k,hk,h1⟩:=eqc_one hb
   cases hk
   unfold eq1 at h1
   split at h1
   ·split at h1
    case isFalse=>cases h1
    cases h1
    rename_i hk;subst hk
    simp[Op.equalIn,run_underlying hu]
   all_goals first|(rename_i hh;cases hh;done)|cases h1
  case h_2 hu=>
   cases h
   have ha:tagg P t=some false:=by simp[tagg,hu]
   rcases hx with ⟨hq,_⟩|⟨_,rfl⟩
   ·rw[ha] at hq;cases hq
   rcases hy with ⟨hq,_⟩|⟨_,rfl⟩
   ·rw[ha] at hq;cases hq
   obtain⟨k,hk,h1⟩:=eqc_one hb
   cases hk
   unfold eq1 at h1
   split at h1
   case h_2=>cases h1;simp[Op.equalIn,run_underlying hu]
   all_goals first|(rename_i hh;cases hh;done)|cases h1
  case h_3 hu=>
   cases h
   have ha:tagg P t=some false:=by simp[tagg,hu]
   rcases hx with ⟨hq,_⟩|⟨_,rfl⟩
   ·rw[ha] at hq;cases hq
   rcases hy with ⟨hq,_⟩|⟨_,rfl⟩
   ·rw[ha] at hq;cases hq
   obtain⟨k,hk,h1⟩:=eqc_one hb
   cases hk
   unfold eq1 at h1
   split at h1
   case h_3=>cases h1;simp[Op.equalIn,run_underlying hu,beq_toListBytes]
   all_goals first|(rename_i hh;cases hh;done)|cases h1
  case h_4 fs hu=>
   split at h
   case isFalse=>cases h
   rename_i hst
   split at h
   case h_2=>cases h
   rename_i l hf
   split at h
   case isFalse=>cases h
   cases h
   have ha:tagg P t=some true:=by simp[tagg,hu]
   rcases hx with ⟨_,rfl⟩|⟨hq,_⟩
   case inr=>rw[ha] at hq;cases hq
   rcases hy with ⟨_,rfl⟩|⟨hq,_⟩
   case inr=>rw[ha] at hq;cases hq
   have hfo:P.fieldsOf t=fs:=by unfold Program.fieldsOf;rw[hu]
   rw[run_equalIn_struct w D t _ _ (by rw[hfo];exact hu) hst,hfo]
   have key:∀ (fl:List Field) (s0:Nat) (l:List Lf) (b:Bool),flatF (flatTy P d) s0 fl=some l→eqc l (xs.drop s0) (ys.drop s0)=some b→(Op.eqFields D xs.toArray ys.toArray fl).run P w=.ok b w:=by
    intro fl
    induction fl with
    | nil=>
     intro s0 l b hf hb
     cases hf
     have:b=true:=by
      obtain⟨e1,e2⟩:=eqc_len hb
      rw[List.eq_nil_of_length_eq_zero e1,List.eq_nil_of_length_eq_zero e2] at hb
      cases hb;rfl
     subst this
     simp[Op.eqFields]
    | cons f fl ihf=>
     intro s0 l b hf hb
     simp only[flatF] at hf
     split at hf
     case h_2=>cases hf
     rename_i lf hlf
     split at hf
     case isFalse=>cases hf
     rename_i hc
     obtain⟨hn,rfl,hpos⟩:=hc
     cases hrest:flatF (flatTy P d) (f.offset+lf.length) fl with
     | none=>rw[hrest] at hf;cases hf
     | some lr=>
      rw[hrest] at hf;cases hf
      obtain⟨e1,e2⟩:=eqc_len hb
      obtain⟨b1,b2,g1,g2,rfl⟩:=eqc_split hb
      simp only[List.length_append,List.length_drop] at e1 e2
      have hl1:f.offset+lf.length≤xs.length:=by omega
      have hl2:f.offset+lf.length≤ys.length:=by omega
      obtain⟨px,p1,p2⟩:=run_part_form hlf xs f.offset hl1 w
      obtain⟨py,q1,q2⟩:=run_part_form hlf ys f.offset hl2 w
      have he:=ih f.type lf hlf D hD _ _ b1 g1 px py p2 q2 w
      have hr:=ihf (f.offset+lf.length) lr b2 hrest (by rw[List.drop_drop,List.drop_drop] at g2;exact g2)
      simp only[Op.eqFields]
      rw[if_pos hn]
      simp only[Sem.run_bind,p1,q1,he,Result.andThen_ok]
      cases b1
      ·simp
      ·simpa using hr
   exact key fs.toList 0 ks b hf (by simpa using hb)
  case h_5 n e hu=>
   split at h
   case h_2=>cases h
   rename_i l hle
   split at h
   case isFalse=>cases h
   rename_i hc
   obtain⟨hse,hst,hpos⟩:=hc
   cases h
   have ha:tagg P t=some true:=by simp[tagg,hu]
   rcases hx with ⟨_,rfl⟩|⟨hq,_⟩
   case inr=>rw[ha] at hq;cases hq
   rcases hy with ⟨_,rfl⟩|⟨hq,_⟩
   case inr=>rw[ha] at hq;cases hq
   obtain⟨i,hi⟩:∃ i,P.info? e=some i:=by
    unfold tsz at hse
    cases hh:P.info? e with
    | none=>rw[hh] at hse;cases hse
    | some i=>exact⟨i,rfl⟩
   have hce:P.cellsOf e=l.length:=by
    unfold tsz at hse
    unfold Program.cellsOf
    rw[hse];rfl
   rw[run_equalIn_array w D _ _ hu hi,hce,List.range_eq_range']
   have key:∀ (n j:Nat) (b:Bool),eqc (List.replicate n l).flatten (xs.drop (j*l.length)) (ys.drop (j*l.length))=some b→(Op.eqItems D e l.length xs.toArray ys.toArray (List.range' j n)).run P w=.ok b w:=by
    intro n
    induction n with
    | zero=>
     intro j b hb
     have:b=true:=by
      obtain⟨e1,e2⟩:=eqc_len hb
      simp at e1 e2
      rw[List.drop_eq_nil_of_le (by omega),List.drop_eq_nil_of_le (by omega)] at hb
      cases hb;rfl
     subst this
     simp[Op.eqItems]
    | succ n ihn=>
     intro j b hb
     rw[List.replicate_succ,List.flatten_cons] at hb
     obtain⟨e1,e2⟩:=eqc_len hb
     obtain⟨b1,b2,g1,g2,rfl⟩:=eqc_split hb
     simp only[List.length_append,List.length_drop] at e1 e2
     have hl1:j*l.length+l.length≤xs.length:=by omega
     have hl2:j*l.length+l.length≤ys.length:=by omega
     obtain⟨px,p1,p2⟩:=run_part_form hle xs (j*l.length) hl1 w
     obtain⟨py,q1,q2⟩:=run_part_form hle ys (j*l.length) hl2 w
     have he:=ih e l hle D hD _ _ b1 g1 px py p2 q2 w
     have hr:=ihn (j+1) b2 (by rw[List.drop_drop,List.drop_drop] at g2;rw[Nat.add_mul,Nat.one_mul];exact g2)
     simp only[List.range'_succ,Op.eqItems,Sem.run_bind,p1,q1,he,Result.andThen_ok]
     cases b1
     ·simp
     ·simpa using hr
   exact key n 0 b (by simpa using hb)

end Go.Proofs.YthhbglkokpablaaGreat.E
