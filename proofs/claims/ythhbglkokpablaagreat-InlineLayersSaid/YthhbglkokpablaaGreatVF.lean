/- Merged texts: Odd1 DocV Odd2 Tells1. -/
import Derived.Test.YthhbglkokpablaaGreatVE
/- Documents: the walk of what turns a layer. -/
namespace Go.Proofs.YthhbglkokpablaaGreat
open Go Go.RowKit E
attribute [local irreducible] XRun XOps XCode XCal XLoop XQ SemCall
set_option linter.unusedSimpArgs false
set_option linter.unusedVariables false
/-- A layer whose rows are no longer than n. -/
structure LyN (n:Nat) (l:Ly):Prop where
 x:l.x.length≤n
 y:l.y.length≤n
 ax:l.ax.length≤n
 ay:l.ay.length≤n
 sx:l.sx.length≤n
 sy:l.sy.length≤n
 turn:l.turn.length≤n
 opac:l.opac.length≤n
 remap:l.remap.length≤n
 mask:l.mask.2.length≤n
 w:l.shape.w.length≤n
 h:l.shape.h.length≤n
 paths:l.shape.paths.length≤n
 pts:∀ p∈l.shape.paths,p.p.2.length≤n
 colors:l.shape.colors.length≤n
 width:l.shape.width.length≤n
 dash:l.shape.dash.length≤n
 frm:l.shape.frm.length≤n
 to:l.shape.to.length≤n
theorem LyN.s {n:Nat} {l:Ly} (h:LyN n l) (hn:n≤1000):LyS l:=
 ⟨Nat.le_trans h.x hn,Nat.le_trans h.y hn,Nat.le_trans h.ax hn,Nat.le_trans h.ay hn,Nat.le_trans h.sx hn,Nat.le_trans h.sy hn,Nat.le_trans h.turn hn,Nat.le_trans h.opac hn,Nat.le_trans h.remap hn,Nat.le_trans h.mask hn,Nat.le_trans h.w hn,Nat.le_trans h.h hn,Nat.le_trans h.paths hn,fun p hp=>Nat.le_trans (h.pts p hp) hn,Nat.le_trans h.colors hn,Nat.le_trans h.width hn,Nat.le_trans h.dash hn,Nat.le_trans h.frm hn,Nat.le_trans h.to hn⟩
theorem LyN.up {n m:Nat} {l:Ly} (h:LyN n l) (hn:n≤m):LyN m l:=
 ⟨Nat.le_trans h.x hn,Nat.le_trans h.y hn,Nat.le_trans h.ax hn,Nat.le_trans h.ay hn,Nat.le_trans h.sx hn,Nat.le_trans h.sy hn,Nat.le_trans h.turn hn,Nat.le_trans h.opac hn,Nat.le_trans h.remap hn,Nat.le_trans h.mask hn,Nat.le_trans h.w hn,Nat.le_trans h.h hn,Nat.le_trans h.paths hn,fun p hp=>Nat.le_trans (h.pts p hp) hn,Nat.le_trans h.colors hn,Nat.le_trans h.width hn,Nat.le_trans h.dash hn,Nat.le_trans h.frm hn,Nat.le_trans h.to hn⟩
theorem LyS.m {l:Ly} (h:LyS l):LyM l:=by
 have h1:=h.mask
 have h2:=h.remap
 have a1:=h.w
 have a2:=h.h
 have a3:=h.paths
 have a4:=h.colors
 have a5:=h.width
 have a6:=h.dash
 have a7:=h.frm
 have a8:=h.to
 refine⟨?_,?_,?_,?_,?_,?_,?_,?_,?_,?_⟩ <;> (unfold mxR;omega)
theorem keysB_lenN {l:List Ky} (h:keysB l=true):l.length≤100:=by
 unfold keysB at h
 simp only[Bool.and_eq_true,decide_eq_true_eq] at h
 omega
theorem rightB_lenN {c:Bool} {l:List Pt} (h:rightB c l=true):l.length≤100:=by
 unfold rightB at h
 by_cases e:l.length=0
 ·omega
 ·rw[if_neg e] at h
  simp only[Bool.and_eq_true,decide_eq_true_eq] at h
  omega
theorem pksGo_ptsN {z:PL}:∀ {l:List Pk} {f:Bool} {a:Int},pksGo z f a l=true→∀ p∈l,p.p.2.length≤100
 | [],_,_,_,p,hp=>by cases hp
 | k::l,f,a,h,p,hp=>by
  simp only[pksGo,Bool.and_eq_true] at h
  rcases List.mem_cons.1 hp with rfl|hp
  ·exact rightB_lenN h.1.1.2
  ·exact pksGo_ptsN h.2 p hp
theorem shapeB_smallN {s:Sh} (h:shapeB s=true):s.w.length≤100∧s.h.length≤100∧s.paths.length≤100∧(∀ p∈s.paths,p.p.2.length≤100)∧s.colors.length≤100∧s.width.length≤100∧s.dash.length≤100∧s.frm.length≤100∧s.to.length≤100:=by
 unfold shapeB at h
 simp only[Bool.and_eq_true] at h
 obtain⟨⟨⟨⟨⟨⟨⟨⟨hf,_⟩,_⟩,hc⟩,hw⟩,hr⟩,ht⟩,_⟩,hd⟩:=h
 have hc':s.colors.length≤100:=by
  unfold cksB at hc;simp only[Bool.and_eq_true,decide_eq_true_eq] at hc;omega
 have hd':s.dash.length≤100:=by
  unfold dashB at hd;simp only[Bool.and_eq_true,decide_eq_true_eq] at hd;omega
 have hp:s.w.length≤100∧s.h.length≤100∧s.paths.length≤100∧(∀ p∈s.paths,p.p.2.length≤100):=by
  unfold formB at hf
  by_cases e1:s.form<0∨3<s.form
  ·rw[if_pos e1] at hf;cases hf
  rw[if_neg e1] at hf
  by_cases e2:(s.form=2∧(s.n<2∨16<s.n))∨(¬ s.form=2∧¬ s.n=0)
  ·rw[if_pos e2] at hf;cases hf
  rw[if_neg e2] at hf
  by_cases e3:s.form=3
  ·rw[if_pos e3] at hf
   simp only[Bool.and_eq_true,decide_eq_true_eq] at hf
   obtain⟨⟨a,b⟩,c⟩:=hf
   unfold pksB at c
   simp only[Bool.and_eq_true,decide_eq_true_eq] at c
   exact⟨by omega,by omega,by omega,pksGo_ptsN c.1⟩
  ·rw[if_neg e3] at hf
   simp only[Bool.and_eq_true,decide_eq_true_eq] at hf
   obtain⟨⟨a,b⟩,c⟩:=hf
   have:s.paths=[]:=List.eq_nil_of_length_eq_zero (by omega)
   exact⟨keysB_lenN b,keysB_lenN c,by omega,fun p hp=>by rw[this] at hp;cases hp⟩
 exact⟨hp.1,hp.2.1,hp.2.2.1,hp.2.2.2,hc',keysB_lenN hw,hd',keysB_lenN hr,keysB_lenN ht⟩
theorem LyB.smallN {k c m:Int} {ah:Bool} {l:Ly} (h:LyB k c m ah l):LyN 100 l:=by
 have hm:l.mask.2.length≤100:=by
  have:=h.ma
  unfold maskB at this
  simp only[Bool.and_eq_true] at this
  exact rightB_lenN this.1
 have hr:l.remap.length≤100:=by
  rcases h.kd with ⟨_,_,e,_⟩|⟨_,_,_,e,_⟩
  ·rw[e];simp
  ·exact keysB_lenN e
 have hs:l.shape.w.length≤100∧l.shape.h.length≤100∧l.shape.paths.length≤100∧(∀ p∈l.shape.paths,p.p.2.length≤100)∧l.shape.colors.length≤100∧l.shape.width.length≤100∧l.shape.dash.length≤100∧l.shape.frm.length≤100∧l.shape.to.length≤100:=by
  rcases h.kd with ⟨_,_,_,e⟩|⟨_,_,_,_,e⟩
  ·exact shapeB_smallN e
  ·rw[e]
   exact⟨by simp[sh00],by simp[sh00],by simp[sh00],fun p hp=>by simp[sh00] at hp,by simp[sh00],by simp[sh00],by simp[sh00],by simp[sh00],by simp[sh00]⟩
 obtain⟨h1,h2,h3,h4,h5,h6,h7,h8,h9⟩:=hs
 exact⟨keysB_lenN h.x,keysB_lenN h.y,keysB_lenN h.ax,keysB_lenN h.ay,keysB_lenN h.sx,keysB_lenN h.sy,keysB_lenN h.tu,keysB_lenN h.op,hr,hm,h1,h2,h3,h4,h5,h6,h7,h8,h9⟩
theorem dzrep_pt:∀ n:Nat,zrep [.int .i64 0,.int .i64 0] n=ptC (List.replicate n (0,0))
 | 0=>rfl
 | n+1=>by
  rw[List.replicate_succ]
  show _++zrep [.int .i64 0,.int .i64 0] n=[.int .i64 0,.int .i64 0]++ptC (List.replicate n (0,0))
  rw[dzrep_pt n]
theorem damkP (n:Nat) (h:n≤1000):amake Tryz.prog 32 (.int .i64 (n:Int)) (.int .i64 (n:Int))=some (ptC (List.replicate n (0,0)),2,n):=by
 have hb:tby Tryz.prog 39=some 16:=by kernel_rfl
 unfold amake
 (refine sg hb ?_;try exact⟨⟩)
 rw[if_pos (by simp;omega),Int.toNat_natCast,dzrep_pt]
theorem RowOf.two {α:Type} {s:Nat} {E:AH→List Value→α→Prop} {K:AH} {b g:Nat} {rw_:Bool} {c c':List Value} {x x':α} (hb:K[b]?=some ⟨c++c',g,rw_⟩) (hc:c.length=s) (hc':c'.length=s) (hE:E K c x) (hE':E K c' x'):RowOf s E K (sl b 0 g 2 s) [x,x']:=
 .inr ⟨b,g,[],rw_,[c,c'],rfl,by simpa using hb,rfl,by simp,fun i y hy=>by
  match i,hy with
  | 0,hy=>simp at hy;subst hy;exact⟨c,rfl,hc,hE⟩
  | 1,hy=>simp at hy;subst hy;exact⟨c',rfl,hc',hE'⟩
  | i+2,hy=>simp at hy⟩
end Go.Proofs.YthhbglkokpablaaGreat
/- Documents: a copy that is written; the walk of DocCopies. -/
namespace Go.Proofs.YthhbglkokpablaaGreat
open Go Go.RowKit E
attribute [local irreducible] XRun XOps XCode XCal XLoop XQ SemCall
set_option linter.unusedSimpArgs false
set_option linter.unusedVariables false
theorem kyQ_refl (x:Ky):kyQ x x=true:=by simp[kyQ]
theorem ckQ_refl (x:Ck):ckQ x x=true:=by simp[ckQ]
theorem inQ_refl (x:Int):inQ x x=true:=by simp[inQ]
theorem ptQ_refl (x:Pt):ptQ x x=true:=by simp[ptQ]
theorem plQ_refl (x:PL):plQ x x=true:=by
 unfold plQ;rw[eqG_refl ptQ_refl];simp
theorem pkQ_refl (x:Pk):pkQ x x=true:=by simp[pkQ,ezQ,plQ_refl]
theorem shQ_refl (x:Sh):shQ x x=true:=by
 unfold shQ shP shK
 simp only[eqG_refl pkQ_refl,eqG_refl ckQ_refl,eqG_refl inQ_refl,eqG_refl kyQ_refl]
 simp[pntQ,c4Q]
theorem lyQ_refl (x:Ly):lyQ x x=true:=by
 unfold lyQ lyP;rw[eqG_refl (fun l=>eqG_refl kyQ_refl l),plQ_refl,shQ_refl];simp
theorem dcQ_refl (d:Dc):dcQ d d=true:=by
 unfold dcQ;rw[eqG_refl (fun l=>eqG_refl lyQ_refl l)];simp
/-- The same but for numbers in blocks from n on. -/
def Shp (n:Nat) (K0 K:AH):Prop:=K.length=K0.length∧(∀ b k,b<n→K0[b]?=some k→K[b]?=some k)∧∀ (b:Nat) (k:Blk),K0[b]?=some k→∃ cells:List Value,K[b]?=some ⟨cells,k.gen,k.rw⟩∧cells.length=k.cells.length∧(∀ (i:Nat) a l e,k.cells[i]?=some (Value.slice a l e)→cells[i]?=some (Value.slice a l e))∧∀ (i:Nat) (x:Int),k.cells[i]?=some (Value.int .i64 x)→∃ y:Int,cells[i]?=some (Value.int .i64 y)
theorem Shp.refl (n:Nat) (K:AH):Shp n K K:=⟨rfl,fun _ _ _ h=>h,fun b k h=>⟨k.cells,h,rfl,fun _ _ _ _ h=>h,fun i x h=>⟨x,h⟩⟩⟩
theorem Shp.put {n:Nat} {K0 K:AH} (h:Shp n K0 K) {b g off:Nat} {cs cells:List Value} (hn:n≤b) (hk:K0[b]?=some ⟨cs,g,true⟩) (hK:K[b]?=some ⟨cells,g,true⟩) {x:Int} (hx:cs[off]?=some (.int .i64 x)) (z:Int) :
  Shp n K0 (K.set b ⟨cells.set off (.int .i64 z),g,true⟩):=by
 have hbl:=(List.getElem?_eq_some_iff.1 hK).1
 obtain⟨cells',e1,e2,e3,e4⟩:=h.2.2 b _ hk
 rw[hK] at e1
 cases e1
 have hol:=(List.getElem?_eq_some_iff.1 hx).1
 have e2:cells.length=cs.length:=e2
 refine⟨by rw[List.length_set];exact h.1,fun b' k hb e=>by rw[List.getElem?_set_ne (by omega)];exact h.2.1 b' k hb e,fun b' k e=>?_⟩
 by_cases hb:b=b'
 ·subst hb
  rw[hk] at e;cases e
  refine⟨_,List.getElem?_set_self hbl,by rw[List.length_set];exact e2,fun i a l e hi=>?_,fun i y hi=>?_⟩
  ·by_cases ho:off=i
   ·subst ho
    have hi:cs[off]?=some (.slice a l e):=hi
    rw[hx] at hi;cases hi
   ·rw[List.getElem?_set_ne ho];exact e3 i a l e hi
  ·by_cases ho:off=i
   ·subst ho
    exact⟨z,List.getElem?_set_self (by omega)⟩
   ·rw[List.getElem?_set_ne ho];exact e4 i y hi
 ·rw[List.getElem?_set_ne hb];exact h.2.2 b' k e
/-- A row whose cells at one place are numbers, that may be written. -/
def IntAt (n:Nat) (K:AH) (v:Value) (len s j:Nat):Prop:=(∃ a e,v=.slice a len e)∧∀ i,i<len→∃ b g cs x,v=sl b 0 g len s∧n≤b∧K[b]?=some ⟨cs,g,true⟩∧cs[i*s+j]?=some (.int .i64 x)
theorem IntAt.of {α:Type} {s:Nat} {E:AH→List Value→α→Prop} {n:Nat} {K:AH} {v:Value} {l:List α} (h:Dep n K (fun J=>RowOf s E J v l)) (hw:Wr K v) (j:Nat) (hj:j<s) (hE:∀ K c x,E K c x→∃ y,c[j]?=some (.int .i64 y)):IntAt n K v l.length s j:=by
 refine⟨h.here.form,fun i hi=>?_⟩
 rcases RowOf.high h with ⟨rfl,_⟩|⟨b,g,rest,rw_,cs,hb,rfl,h2,h3,h4,h5⟩
 ·simp at hi
 ·obtain⟨c,e1,e2,e3⟩:=h5 i _ (List.getElem?_eq_getElem hi)
  obtain⟨y,hy⟩:=hE _ _ _ e3.here
  obtain⟨k,w1,w2⟩:=hw b 0 g l.length s rfl
  rw[h2] at w1;cases w1
  have w2:rw_=true:=w2
  subst w2
  have hall:∀ c∈cs,c.length=s:=RowOf.all h3 (P:=fun c x=>Dep n K (fun J=>E J c x)) h5
  refine⟨b,g,_,y,rfl,hb,h2,?_⟩
  have hf:=flatten_get j hall e1 hj
  rw[hy] at hf
  rw[List.getElem?_append_left (by exact(List.getElem?_eq_some_iff.1 hf).1)]
  exact hf
/-- The same where things have changed. -/
theorem IntAt.now {n:Nat} {K0 K:AH} {v:Value} {len s j:Nat} (h:IntAt n K0 v len s j) (hS:Shp n K0 K) {i:Nat} (hi:i<len):∃ b g cells y,v=sl b 0 g len s∧K[b]?=some ⟨cells,g,true⟩∧cells[i*s+j]?=some (.int .i64 y)∧n≤b∧∀ z,Shp n K0 (K.set b ⟨cells.set (i*s+j) (.int .i64 z),g,true⟩):=by
 obtain⟨b,g,cs,x,rfl,h1,h2,h3⟩:=h.2 i hi
 obtain⟨cells,e1,e2,e3,e4⟩:=hS.2.2 b _ h2
 obtain⟨y,hy⟩:=e4 _ _ h3
 exact⟨b,g,cells,y,rfl,e1,hy,h1,fun z=>hS.put h1 h2 e1 h3 z⟩
def PathsAt (n:Nat) (K:AH) (v:Value) (ps:List Pk):Prop:=(∃ a e,v=.slice a ps.length e)∧∀ (i:Nat) x,ps[i]?=some x→∃ b g cs rw_ pv,v=sl b 0 g ps.length 8∧K[b]?=some ⟨cs,g,rw_⟩∧cs[i*8+1+1]?=some pv∧IntAt n K pv x.p.2.length 2 1
theorem PathsAt.of {n:Nat} {K:AH} {v:Value} {ps:List Pk} (h:Dep n K (fun J=>RowOf 8 PkT J v ps)):PathsAt n K v ps:=by
 refine⟨h.here.form,fun i x hx=>?_⟩
 have hil:=(List.getElem?_eq_some_iff.1 hx).1
 rcases RowOf.high h with ⟨rfl,_⟩|⟨b,g,rest,rw_,cs,hb,rfl,h2,h3,h4,h5⟩
 ·simp at hx
 ·obtain⟨c,e1,e2,e3⟩:=h5 i x hx
  obtain⟨pv,hc,_,hw⟩:=e3.here
  have hp:Dep n K (fun J=>RowOf 2 PtE J pv x.p.2):=fun J hJ=>by
   obtain⟨pv',hc',hp,_⟩:=e3 J hJ
   rw[hc] at hc'
   simp only[List.cons.injEq] at hc'
   rw[hc'.2.2.1];exact hp.row
  have hall:∀ c∈cs,c.length=8:=RowOf.all h3 (P:=fun c x=>Dep n K (fun J=>PkT J c x)) h5
  have hf:=flatten_get 2 hall e1 (by omega)
  rw[hc] at hf
  have hf:cs.flatten[i*8+2]?=some pv:=hf
  refine⟨b,g,_,rw_,pv,rfl,h2,?_,IntAt.of hp hw 1 (by omega) fun K c x h=>?_⟩
  ·rw[List.getElem?_append_left (by have:=(List.getElem?_eq_some_iff.1 hf).1;omega)];exact hf
  ·have h:c=[.int .i64 x.1,.int .i64 x.2]:=h
   subst h;exact⟨_,rfl⟩
/-- What of a copy's layer is written. -/
structure LyA (n:Nat) (K:AH) (lv:Value) (m k:Nat) (l:Ly) (bl gl:Nat) (cells:List Value) (v0 pm vp vda:Value):Prop where
 lv:lv=sl bl 0 gl m 50
 hi:n≤bl
 blk:K[bl]?=some ⟨cells,gl,true⟩
 c4:cells[k*50+4]?=some (.int .i64 l.in_)
 c7:cells[k*50+7]?=some v0
 c17:cells[k*50+16+1]?=some pm
 c22:cells[k*50+18+4]?=some vp
 c47:cells[k*50+18+29]?=some vda
 x:IntAt n K v0 l.x.length 7 1
 m:IntAt n K pm l.mask.2.length 2 0
 p:PathsAt n K vp l.shape.paths
 d:IntAt n K vda l.shape.dash.length 1 0
theorem LyA.of {n:Nat} {K:AH} {lv:Value} {c:List Ly} (h:Dep n K (fun J=>RowOf 50 LyT J lv c)) (hw:Wr K lv) {k:Nat} {l:Ly} (hk:c[k]?=some l):∃ bl gl cells v0 pm vp vda,LyA n K lv c.length k l bl gl cells v0 pm vp vda:=by
 rcases RowOf.high h with ⟨rfl,_⟩|⟨b,g,rest,rw_,cs,hb,rfl,h2,h3,h4,h5⟩
 ·simp at hk
 ·obtain⟨c',e1,e2,e3⟩:=h5 k l hk
  obtain⟨v0,v1,v2,v3,v4,v5,v6,v7,v8,pm,vw,vh,vp,vc,vd,vda,vf,vt,hc,_,w0,wm,wda,_⟩:=e3.here
  have hd:Dep n K (fun J=>(LyV J l v0 v1 v2 v3 v4 v5 v6 v7 v8 pm∧ShV J l.shape vw vh vp vc vd vda vf vt)∧RowOf 8 PkT J vp l.shape.paths):=fun J hJ=>by
   obtain⟨v0',v1',v2',v3',v4',v5',v6',v7',v8',pm',vw',vh',vp',vc',vd',vda',vf',vt',hc',hl,_,_,_,hp⟩:=e3 J hJ
   rw[hc] at hc'
   simp only[List.cons.injEq,true_and,and_true] at hc'
   obtain⟨rfl,rfl,rfl,rfl,rfl,rfl,rfl,rfl,rfl,rfl,rfl,rfl,rfl,rfl,rfl,rfl,rfl,rfl⟩:=hc'
   exact⟨hl,hp⟩
  obtain⟨kk,w1,w2⟩:=hw b 0 g c.length 50 rfl
  rw[h2] at w1;cases w1
  have w2:rw_=true:=w2
  subst w2
  have hall:∀ c∈cs,c.length=50:=RowOf.all h3 (P:=fun c x=>Dep n K (fun J=>LyT J c x)) h5
  have hf:∀ j,j<50→(cs.flatten++rest)[k*50+j]?=c'[j]?:=fun j hj=>by
   have hf:=flatten_get j hall e1 hj
   rw[List.getElem?_append_left (by
    have:j<c'.length:=by omega
    rw[List.getElem?_eq_getElem this] at hf
    exact(List.getElem?_eq_some_iff.1 hf).1)]
   exact hf
  subst hc
  refine⟨b,g,_,v0,pm,vp,vda,rfl,hb,h2,hf 4 (by omega),hf 7 (by omega),hf 17 (by omega),hf 22 (by omega),hf 47 (by omega),
   IntAt.of (hd.map fun _ h=>h.1.1.x) w0 1 (by omega) (fun K c x h=>?_),IntAt.of (hd.map fun _ h=>h.1.1.mask.row) wm 0 (by omega) (fun K c x h=>?_),PathsAt.of (hd.map fun _ h=>h.2),IntAt.of (hd.map fun _ h=>h.1.2.dash) wda 0 (by omega) (fun K c x h=>?_)⟩
  ·have h:c=kyC x:=h
   subst h;exact⟨_,rfl⟩
  ·have h:c=[.int .i64 x.1,.int .i64 x.2]:=h
   subst h;exact⟨_,rfl⟩
  ·have h:c=[.int .i64 x]:=h
   subst h;exact⟨_,rfl⟩
theorem CoA.of {n:Nat} {K:AH} {cw:Value} {cs:List (List Ly)} (h:Dep n K (fun J=>RowOf 1 CoT J cw cs)) {i:Nat} {c:List Ly} (hi:cs[i]?=some c):∃ b g cells rw_ lv,cw=sl b 0 g cs.length 1∧K[b]?=some ⟨cells,g,rw_⟩∧cells[i]?=some lv∧Dep n K (fun J=>RowOf 50 LyT J lv c)∧Wr K lv:=by
 rcases RowOf.high h with ⟨rfl,_⟩|⟨b,g,rest,rw_,es,hb,rfl,h2,h3,h4,h5⟩
 ·simp at hi
 ·obtain⟨c',e1,e2,e3⟩:=h5 i c hi
  obtain⟨lv,hc,_,hw⟩:=e3.here
  have hp:Dep n K (fun J=>RowOf 50 LyT J lv c):=fun J hJ=>by
   obtain⟨v',hc',hp,_⟩:=e3 J hJ
   rw[hc] at hc'
   simp only[List.cons.injEq,and_true] at hc'
   rw[hc'];exact hp
  have hall:∀ c∈es,c.length=1:=RowOf.all h3 (P:=fun c x=>Dep n K (fun J=>CoT J c x)) h5
  have hf:=flatten_get 0 hall e1 (by omega)
  rw[hc,Nat.mul_one,Nat.add_zero] at hf
  have hf:es.flatten[i]?=some lv:=hf
  exact⟨b,g,_,rw_,lv,rfl,h2,by rw[List.getElem?_append_left (by exact(List.getElem?_eq_some_iff.1 hf).1)];exact hf,hp,hw⟩
end Go.Proofs.YthhbglkokpablaaGreat
/- Documents: the walks of what turns a document. -/
namespace Go.Proofs.YthhbglkokpablaaGreat
open Go Go.RowKit E
attribute [local irreducible] XRun XOps XCode XCal XLoop XQ SemCall
set_option linter.unusedSimpArgs false
set_option linter.unusedVariables false
/-- A row that doesn't hang on block q. -/
theorem row_apart {α:Type} {s:Nat} {E:AH→List Value→α→Prop} {p:Nat→Prop} {K:AH} {v:Value} {l:List α} (h:∀ J,OlP p K J→RowOf s E J v l) :
  (l=[]∧((∃ e,v=.slice (some ⟨0,0,none⟩) 0 e)∨v=.slice none 0 0)) ∨
  ∃ b g rest rw_,∃ cs:List (List Value),¬ p b∧v=sl b 0 g l.length s∧K[b]?=some ⟨cs.flatten++rest,g,rw_⟩∧cs.length=l.length∧l.length≤9223372036854775807 ∧
   ∀ (i:Nat) x,l[i]?=some x→∃ c,cs[i]?=some c∧c.length=s∧∀ J,OlP p K J→E J c x:=by
 rcases h K (OlP.refl _ _) with h0|⟨b,g,rest,rw_,cs,h1,h2,h3,h4,h5⟩
 ·exact .inl h0
 ·have hb:¬ p b:=fun hbq=>by
   have hl:=(List.getElem?_eq_some_iff.1 h2).1
   rcases h (K.set b ⟨[],g+1,false⟩) (fun c k hc e=>by rw[List.getElem?_set_ne (fun (h:b=c)=>hc (h ▸ hbq))];exact e) with ⟨_,⟨e,h6⟩|h6⟩|⟨b',g',r',w',cs',h6,h7,_⟩
   ·rw[h1] at h6;cases h6
   ·rw[h1] at h6;cases h6
   ·rw[h1] at h6
    obtain⟨rfl,rfl⟩:=sl_inj h6
    rw[List.getElem?_set_self hl] at h7
    simp at h7
  refine .inr ⟨b,g,rest,rw_,cs,hb,h1,h2,h3,h4,fun i x hx=>?_⟩
  obtain⟨c,e1,e2,_⟩:=h5 i x hx
  refine⟨c,e1,e2,fun J hJ=>?_⟩
  rcases h J hJ with ⟨h6,_⟩|⟨b',g',r',w',cs',h6,h7,h8,_,h9⟩
  ·rw[h6] at hx;simp at hx
  ·rw[h1] at h6
   obtain⟨rfl,rfl⟩:=sl_inj h6
   rw[hJ _ _ hb h2] at h7
   have h10:cs.flatten++rest=cs'.flatten++r':=by injection h7 with h7;injection h7
   have h11:=flat_inj (by rw[h3,h8]) (RowOf.all h3 h5) (RowOf.all h8 h9) h10
   subst h11
   obtain⟨c',f1,_,f3⟩:=h9 i x hx
   rw[e1] at f1
   cases f1
   exact f3
theorem asrc_row {α:Type} {s:Nat} {E:AH→List Value→α→Prop} {p:Nat→Prop} {H:AH} {v:Value} {l:List α} (h:∀ J,OlP p H J→RowOf s E J v l):∃ (cs:List (List Value)) (bs:List Nat),cs.length=l.length∧cs.flatten.length=l.length*s∧(∀ (i:Nat) x,l[i]?=some x→∃ c,cs[i]?=some c∧c.length=s∧∀ J,OlP p H J→E J c x)∧(∀ b∈bs,b<H.length)∧∀ J,Old H J→asrc J s v=some (cs.flatten,l.length,bs):=by
 rcases row_apart h with ⟨rfl,⟨e,rfl⟩|rfl⟩|⟨b,g,rest,rw_,cs,_,rfl,h2,h3,h4,h5⟩
 ·exact⟨[],[],rfl,by simp,fun i x hx=>by simp at hx,fun b hb=>by simp at hb,fun J _=>asrc_zs⟩
 ·exact⟨[],[],rfl,by simp,fun i x hx=>by simp at hx,fun b hb=>by simp at hb,fun J _=>asrc_nil⟩
 ·have hfl:=flatten_len (RowOf.all (P:=fun c x=>∀ J,OlP p H J→E J c x) h3 h5)
  rw[h3] at hfl
  by_cases hn:l.length=0
  ·have hl:l=[]:=List.eq_nil_of_length_eq_zero hn
   subst hl
   have hc:cs=[]:=List.eq_nil_of_length_eq_zero (by simpa using h3)
   subst hc
   refine⟨[],[],rfl,by simp,fun i x hx=>by simp at hx,fun b hb=>by simp at hb,fun J oJ=>?_⟩
   show asrc J s (sl b 0 g 0 s)=some ([],0,[])
   rw[asrc_sl,asy_zero]
  ·refine⟨cs,[b],h3,hfl,h5,fun b' hb'=>by rw[List.mem_singleton.1 hb'];exact(List.getElem?_eq_some_iff.1 h2).1,fun J oJ=>?_⟩
   rw[asrc_sl,oJ _ _ h2,asy_some (eq_false hn) (by rw[List.length_append,hfl];omega),List.drop_zero,← hfl,List.take_left]
/-- How great a document is, that was turned k times. -/
structure DcN (k:Nat) (d:Dc):Prop where
 n:d.comps.length≤3+k
 c:∀ c∈d.comps,c.length≤4*2 ^ k∧∀ l∈c,LyN (100+k) l
theorem ald_el {s:Nat} {cs:List (List Value)} {i:Nat} {c:List Value} (h:∀ c∈cs,c.length=s) (hi:cs[i]?=some c) (g:Nat) (rw_:Bool) (b:Nat):ald (some true) (some s) (some ⟨cs.flatten,g,rw_⟩) b (i*s) g=some (.agg c.toArray,b):=by
 have h1:=flatten_drop h hi
 have hc:=h c (List.mem_of_getElem? hi)
 have hil:=(List.getElem?_eq_some_iff.1 hi).1
 have h2:i*s+s≤cs.flatten.length:=by
  rw[flatten_len h]
  have:(i+1)*s≤cs.length*s:=Nat.mul_le_mul_right s hil
  rw[Nat.add_mul,Nat.one_mul] at this;exact this
 simp only[ald,true_and,h2,if_true]
 rw[h1,← hc,List.take_left]
theorem pow_le4 {k:Nat} (hk:k≤4):2 ^ k≤16:=by
 have:k=0∨k=1∨k=2∨k=3∨k=4:=by omega
 rcases this with rfl|rfl|rfl|rfl|rfl <;> decide
theorem DcN.s {k:Nat} {d:Dc} (h:DcN k d) (hk:k≤4):DcS d:=
 ⟨by have:=h.n;omega,fun c hc=>⟨by have:=(h.c c hc).1;have:=pow_le4 hk;omega,fun l hl=>((h.c c hc).2 l hl).s (by omega)⟩⟩
theorem DcN.up {k:Nat} {d:Dc} (h:DcN k d):DcN (k+1) d:=
 ⟨by have:=h.n;omega,fun c hc=>⟨by have:=(h.c c hc).1;rw[Nat.pow_succ];omega,fun l hl=>((h.c c hc).2 l hl).up (by omega)⟩⟩
theorem DcB.smallN {d:Dc} (h:DcB d):DcN 0 d:=by
 refine⟨by have:=h.n;omega,fun c hc=>?_⟩
 obtain⟨i,hi⟩:=List.getElem?_of_mem hc
 obtain⟨h1,h2,h3⟩:=h.cs i c hi
 refine⟨by omega,fun l hl=>?_⟩
 obtain⟨j,hj⟩:=List.getElem?_of_mem hl
 obtain⟨ah,h4,_⟩:=h1 j l hj
 exact h4.smallN.up (by omega)
theorem DcS.m {d:Dc} (h:DcS d):DcM d:=fun c hc l hl=>((h.c c hc).2 l hl).m
/-- One comp of it another one. -/
theorem DcN.set {k:Nat} {d:Dc} (h:DcN k d) {i:Nat} {ls:List Ly} (h1:ls.length≤4*2 ^ (k+1)) (h2:∀ l∈ls,LyN (100+(k+1)) l):DcN (k+1) { d with comps:=d.comps.set i ls }:=by
 refine⟨by have:=h.n;show (d.comps.set i ls).length≤_;rw[List.length_set];omega,fun c hc=>?_⟩
 rcases List.mem_or_eq_of_mem_set hc with hc|rfl
 ·exact h.up.c c hc
 ·exact⟨h1,h2⟩
end Go.Proofs.YthhbglkokpablaaGreat
/- Documents: the walks of Odd, of same. -/
namespace Go.Proofs.YthhbglkokpablaaGreat
open Go Go.RowKit E
attribute [local irreducible] XRun XOps XCode XCal XLoop XQ SemCall
set_option linter.unusedSimpArgs false
set_option linter.unusedVariables false
structure Tn where
 what:Int
 comp:Int
 lay:Int
 n:Int
abbrev tnC (t:Tn):List Value:=[.int .i64 t.what,.int .i64 t.comp,.int .i64 t.lay,.int .i64 t.n]
def TnE (_:AH) (c:List Value) (t:Tn):Prop:=c=tnC t
abbrev Tns (K:AH) (v:Value) (l:List Tn):Prop:=RowOf 4 TnE K v l
theorem DcN.four {i:Nat} {d:Dc} (h:DcN i d) (hi:i≤4):DcN 4 d:=by
 have:i=0∨i=1∨i=2∨i=3∨i=4:=by omega
 rcases this with rfl|rfl|rfl|rfl|rfl
 ·exact h.up.up.up.up
 ·exact h.up.up.up
 ·exact h.up.up
 ·exact h.up
 ·exact h
end Go.Proofs.YthhbglkokpablaaGreat
