/- Merged texts: Odd1 DocV Odd2 Tells1. -/
import Derived.Test.YthhbglkokpablaaGreatZE
/- Documents: the walk of what turns a layer. -/
namespace Go.Proofs.YthhbglkokpablaaGreat
open Go Go.RowKit E
attribute [local irreducible] XRun XOps XCode XCal XLoop XQ SemCall
set_option linter.unusedSimpArgs false
set_option linter.unusedVariables false
/-- A layer whose rows are no longer than n. -/
structure LyN (n:Nat) (l:Ly):Prop where
 x:l.x.length≤n
 y:l.y.length≤n
 ax:l.ax.length≤n
 ay:l.ay.length≤n
 sx:l.sx.length≤n
 sy:l.sy.length≤n
 turn:l.turn.length≤n
 opac:l.opac.length≤n
 remap:l.remap.length≤n
 mask:l.mask.2.length≤n
 w:l.shape.w.length≤n
 h:l.shape.h.length≤n
 paths:l.shape.paths.length≤n
 pts:∀ p∈l.shape.paths,p.p.2.length≤n
 colors:l.shape.colors.length≤n
 width:l.shape.width.length≤n
 dash:l.shape.dash.length≤n
 frm:l.shape.frm.length≤n
 to:l.shape.to.length≤n
theorem LyN.s {n:Nat} {l:Ly} (h:LyN n l) (hn:n≤1000):LyS l:=
 ⟨Nat.le_trans h.x hn,Nat.le_trans h.y hn,Nat.le_trans h.ax hn,Nat.le_trans h.ay hn,Nat.le_trans h.sx hn,Nat.le_trans h.sy hn,Nat.le_trans h.turn hn,Nat.le_trans h.opac hn,Nat.le_trans h.remap hn,Nat.le_trans h.mask hn,Nat.le_trans h.w hn,Nat.le_trans h.h hn,Nat.le_trans h.paths hn,fun p hp=>Nat.le_trans (h.pts p hp) hn,Nat.le_trans h.colors hn,Nat.le_trans h.width hn,Nat.le_trans h.dash hn,Nat.le_trans h.frm hn,Nat.le_trans h.to hn⟩
theorem LyN.up {n m:Nat} {l:Ly} (h:LyN n l) (hn:n≤m):LyN m l:=
 ⟨Nat.le_trans h.x hn,Nat.le_trans h.y hn,Nat.le_trans h.ax hn,Nat.le_trans h.ay hn,Nat.le_trans h.sx hn,Nat.le_trans h.sy hn,Nat.le_trans h.turn hn,Nat.le_trans h.opac hn,Nat.le_trans h.remap hn,Nat.le_trans h.mask hn,Nat.le_trans h.w hn,Nat.le_trans h.h hn,Nat.le_trans h.paths hn,fun p hp=>Nat.le_trans (h.pts p hp) hn,Nat.le_trans h.colors hn,Nat.le_trans h.width hn,Nat.le_trans h.dash hn,Nat.le_trans h.frm hn,Nat.le_trans h.to hn⟩
theorem LyS.m {l:Ly} (h:LyS l):LyM l:=by
 have h1:=h.mask
 have h2:=h.remap
 have a1:=h.w
 have a2:=h.h
 have a3:=h.paths
 have a4:=h.colors
 have a5:=h.width
 have a6:=h.dash
 have a7:=h.frm
 have a8:=h.to
 refine⟨?_,?_,?_,?_,?_,?_,?_,?_,?_,?_⟩ <;> (unfold mxR;omega)
theorem keysB_lenN {l:List Ky} (h:keysB l=true):l.length≤100:=by
 unfold keysB at h
 simp only[Bool.and_eq_true,decide_eq_true_eq] at h
 omega
theorem rightB_lenN {c:Bool} {l:List Pt} (h:rightB c l=true):l.length≤100:=by
 unfold rightB at h
 by_cases e:l.length=0
 ·omega
 ·rw[if_neg e] at h
  simp only[Bool.and_eq_true,decide_eq_true_eq] at h
  omega
theorem pksGo_ptsN {z:PL}:∀ {l:List Pk} {f:Bool} {a:Int},pksGo z f a l=true→∀ p∈l,p.p.2.length≤100
 | [],_,_,_,p,hp=>by cases hp
 | k::l,f,a,h,p,hp=>by
  simp only[pksGo,Bool.and_eq_true] at h
  rcases List.mem_cons.1 hp with rfl|hp
  ·exact rightB_lenN h.1.1.2
  ·exact pksGo_ptsN h.2 p hp
theorem shapeB_smallN {s:Sh} (h:shapeB s=true):s.w.length≤100∧s.h.length≤100∧s.paths.length≤100∧(∀ p∈s.paths,p.p.2.length≤100)∧s.colors.length≤100∧s.width.length≤100∧s.dash.length≤100∧s.frm.length≤100∧s.to.length≤100:=by
 unfold shapeB at h
 simp only[Bool.and_eq_true] at h
 obtain⟨⟨⟨⟨⟨⟨⟨⟨hf,_⟩,_⟩,hc⟩,hw⟩,hr⟩,ht⟩,_⟩,hd⟩:=h
 have hc':s.colors.length≤100:=by
  unfold cksB at hc;simp only[Bool.and_eq_true,decide_eq_true_eq] at hc;omega
 have hd':s.dash.length≤100:=by
  unfold dashB at hd;simp only[Bool.and_eq_true,decide_eq_true_eq] at hd;omega
 have hp:s.w.length≤100∧s.h.length≤100∧s.paths.length≤100∧(∀ p∈s.paths,p.p.2.length≤100):=by
  unfold formB at hf
  by_cases e1:s.form<0∨3<s.form
  ·rw[if_pos e1] at hf;cases hf
  rw[if_neg e1] at hf
  by_cases e2:(s.form=2∧(s.n<2∨16<s.n))∨(¬ s.form=2∧¬ s.n=0)
  ·rw[if_pos e2] at hf;cases hf
  rw[if_neg e2] at hf
  by_cases e3:s.form=3
  ·rw[if_pos e3] at hf
   simp only[Bool.and_eq_true,decide_eq_true_eq] at hf
   obtain⟨⟨a,b⟩,c⟩:=hf
   unfold pksB at c
   simp only[Bool.and_eq_true,decide_eq_true_eq] at c
   exact⟨by omega,by omega,by omega,pksGo_ptsN c.1⟩
  ·rw[if_neg e3] at hf
   simp only[Bool.and_eq_true,decide_eq_true_eq] at hf
   obtain⟨⟨a,b⟩,c⟩:=hf
   have:s.paths=[]:=List.eq_nil_of_length_eq_zero (by omega)
   exact⟨keysB_lenN b,keysB_lenN c,by omega,fun p hp=>by rw[this] at hp;cases hp⟩
 exact⟨hp.1,hp.2.1,hp.2.2.1,hp.2.2.2,hc',keysB_lenN hw,hd',keysB_lenN hr,keysB_lenN ht⟩
theorem LyB.smallN {k c m:Int} {ah:Bool} {l:Ly} (h:LyB k c m ah l):LyN 100 l:=by
 have hm:l.mask.2.length≤100:=by
  have:=h.ma
  unfold maskB at this
  simp only[Bool.and_eq_true] at this
  exact rightB_lenN this.1
 have hr:l.remap.length≤100:=by
  rcases h.kd with ⟨_,_,e,_⟩|⟨_,_,_,e,_⟩
  ·rw[e];simp
  ·exact keysB_lenN e
 have hs:l.shape.w.length≤100∧l.shape.h.length≤100∧l.shape.paths.length≤100∧(∀ p∈l.shape.paths,p.p.2.length≤100)∧l.shape.colors.length≤100∧l.shape.width.length≤100∧l.shape.dash.length≤100∧l.shape.frm.length≤100∧l.shape.to.length≤100:=by
  rcases h.kd with ⟨_,_,_,e⟩|⟨_,_,_,_,e⟩
  ·exact shapeB_smallN e
  ·rw[e]
   exact⟨by simp[sh00],by simp[sh00],by simp[sh00],fun p hp=>by simp[sh00] at hp,by simp[sh00],by simp[sh00],by simp[sh00],by simp[sh00],by simp[sh00]⟩
 obtain⟨h1,h2,h3,h4,h5,h6,h7,h8,h9⟩:=hs
 exact⟨keysB_lenN h.x,keysB_lenN h.y,keysB_lenN h.ax,keysB_lenN h.ay,keysB_lenN h.sx,keysB_lenN h.sy,keysB_lenN h.tu,keysB_lenN h.op,hr,hm,h1,h2,h3,h4,h5,h6,h7,h8,h9⟩
theorem and7 (x:Int):bits .and .i64 x 7=x % 8:=and_i64 x 3 (by decide)
theorem and1 (x:Int):bits .and .i64 x 1=x % 2:=and_i64 x 1 (by decide)
theorem dzrep_pt:∀ n:Nat,zrep [.int .i64 0,.int .i64 0] n=ptC (List.replicate n (0,0))
 | 0=>rfl
 | n+1=>by
  rw[List.replicate_succ]
  show _++zrep [.int .i64 0,.int .i64 0] n=[.int .i64 0,.int .i64 0]++ptC (List.replicate n (0,0))
  rw[dzrep_pt n]
theorem damkP (n:Nat) (h:n≤1000):amake Tryz.prog 32 (.int .i64 (n:Int)) (.int .i64 (n:Int))=some (ptC (List.replicate n (0,0)),2,n):=by
 have hb:tby Tryz.prog 39=some 16:=by kernel_rfl
 unfold amake
 (refine sg hb ?_;try exact⟨⟩)
 rw[if_pos (by simp;omega),Int.toNat_natCast,dzrep_pt]
theorem RowOf.two {α:Type} {s:Nat} {E:AH→List Value→α→Prop} {K:AH} {b g:Nat} {rw_:Bool} {c c':List Value} {x x':α} (hb:K[b]?=some ⟨c++c',g,rw_⟩) (hc:c.length=s) (hc':c'.length=s) (hE:E K c x) (hE':E K c' x'):RowOf s E K (sl b 0 g 2 s) [x,x']:=
 .inr ⟨b,g,[],rw_,[c,c'],rfl,by simpa using hb,rfl,by simp,fun i y hy=>by
  match i,hy with
  | 0,hy=>simp at hy;subst hy;exact⟨c,rfl,hc,hE⟩
  | 1,hy=>simp at hy;subst hy;exact⟨c',rfl,hc',hE'⟩
  | i+2,hy=>simp at hy⟩
theorem kat_ (n:Int) (k:Nat) (h1:1≤k) (h2:k≤1000000):∃ m:Nat,m<k∧∀ H,SemCall Tryz.prog 46 [.int .i64 n,.int .i64 (k:Int)] H (.int .i64 (m:Int)) H []:=by
 have hw:=fun H=>within_ n 0 1048576 (by omega) (by omega) (by omega) H
 have hb:=wth_b n (lo:=0) (hi:=1048576) (by omega)
 generalize wth n 0 1048576=z at *
 have hp:=tmod_p z (k:Int) (by omega) hb.1
 refine⟨(z.tmod k).toNat,by omega,fun H=>?_⟩
 refine pure_of ?_ rfl
 have z0:((k:Int)=0)=False:=eq_false (by omega)
 have e:(((z.tmod k).toNat:Nat):Int)=z.tmod k:=by omega
 have mx1:(if (k:Int)<1 then (1:Int) else (k:Int))=(k:Int):=if_neg (by omega)
 refine XCal.of hm Tryz.func46 rfl (fun xs w=>Tryz.call46 xs w) Tryz.ntmps46 Tryz.results46 rfl ?_
 (refine sg trivial ?_;try exact⟨⟩)
 repeat ((first|refine(hw _).x ?_|refine drawnF ?_ (by decide +kernel));(refine sg (et mx1 (et z0 e)) ?_;try exact⟨⟩))
set_option maxRecDepth 100000 in
set_option maxHeartbeats 16000000 in
theorem oddlayer_ (n:Nat) (l:Ly) (v0 v1 v2 v3 v4 v5 v6 v7 v8 pm vw vh vp vc vd vda vf vt:Value) (a b c N:Int) (p:Nat→Prop) (HB H:AH) (o0:Old HB H) (h:∀ J,OlP p HB J→LyV J l v0 v1 v2 v3 v4 v5 v6 v7 v8 pm) (hs:∀ J,OlP p HB J→ShV J l.shape vw vh vp vc vd vda vf vt) (hz:LyN n l) (hn:8≤n∧n≤900) :
  Cal Tryz.prog 47 [.agg (lyVs l v0 v1 v2 v3 v4 v5 v6 v7 v8 pm vw vh vp vc vd vda vf vt).toArray,.agg [.int .i64 a,.int .i64 b,.int .i64 c,.int .i64 N].toArray] H fun v' H' W=>W=[]∧(∃ L,H'=H++L)∧∃ l' cs,v'=.agg cs.toArray∧(∀ J,OlP p HB J→(∀ (c:Nat) (k:Blk),H.length≤c→H'[c]?=some k→J[c]?=some k)→LyE J cs l')∧cs.length=50∧LyN (n+1) l':=by
 refine adds_of ?_
 obtain⟨n8,n9⟩:=hn
 have kd:∀ n,decide (H.length+n<H.length)=false:=fun n=>df (by omega)
 have kd0:decide (H.length<H.length)=false:=df (by omega)
 obtain⟨w,hw,ka⟩:=kat_ a 23 (by omega) (by omega)
 have hz0:0≤N % 8:=by omega
 have hz7:N % 8≤7:=by omega
 obtain⟨z,hzz⟩:∃ z,N % 8=z:=⟨_,rfl⟩
 rw[hzz] at hz0 hz7
 obtain⟨m,hzm⟩:∃ m:Nat,z=(m:Int):=⟨z.toNat,by omega⟩
 have wz1:IntKind.i64.wrap (z - 1)=z - 1:=wi (by omega) (by omega)
 have wz2:IntKind.i64.wrap (z - 2)=z - 2:=wi (by omega) (by omega)
 have ka:∀ H,SemCall Tryz.prog 46 [.int .i64 a,.int .i64 23] H (.int .i64 (w:Int)) H []:=ka
 have mk:=damkP m (by omega)
 rw[← hzm] at mk
 refine XCal.of hm Tryz.func47 rfl (fun xs w=>Tryz.call47 xs w) Tryz.ntmps47 Tryz.results47 rfl ?_
 refine wcode_cut (fun T K D=>D=[]∧K=H++[⟨lyVs l v0 v1 v2 v3 v4 v5 v6 v7 v8 pm vw vh vp vc vd vda vf vt,0,true⟩,⟨[.int .i64 a,.int .i64 b,.int .i64 c,.int .i64 N],0,true⟩,⟨lyVs (lyD 0 0) ns ns ns ns ns ns ns ns ns ns ns ns ns ns ns ns ns ns,0,true⟩]∧T 2=ap H.length 0 0∧T 3=ap (H.length+1) 0 0∧T 4=ap (H.length+2) 0 0) ?_ ?_
 ·(refine sg (et kd kd0) ?_;try exact⟨⟩)
  rfl
 rintro T K D ⟨rfl,rfl,t2,t3,t4⟩
 refine wcode_cut (fun T K D=>D=[]∧K=H++[⟨lyVs l v0 v1 v2 v3 v4 v5 v6 v7 v8 pm vw vh vp vc vd vda vf vt,0,true⟩,⟨[.int .i64 a,.int .i64 b,.int .i64 c,.int .i64 N],0,true⟩,⟨lyVs (lyD 0 0) ns ns ns ns ns ns ns ns ns ns ns ns ns ns ns ns ns ns,0,true⟩]∧T 2=ap H.length 0 0∧T 3=ap (H.length+1) 0 0∧T 4=ap (H.length+2) 0 0∧T 5=.int .i64 z) ?_ ?_
 ·(refine sg (et t2 (et t3 (et t4 (et and7 hzz)))) ?_;try exact⟨⟩)
 clear t2 t3 t4
 rintro T K D ⟨rfl,rfl,t2,t3,t4,t5⟩
 refine wcode_cut (fun T K D=>D=[]∧T 2=ap H.length 0 0∧T 4=ap (H.length+2) 0 0∧∃ (l':Ly) (u0 u1 u2 u3 u4 u5 u6 u7 u8 u9 u10 u11 u12 u13 u14 u15 u16 u17:Value),Old H K∧H.length+3≤K.length∧K[H.length]?=some ⟨lyVs l' u0 u1 u2 u3 u4 u5 u6 u7 u8 u9 u10 u11 u12 u13 u14 u15 u16 u17,0,true⟩∧(∃ zc:List Value,zc.length=50∧K[H.length+2]?=some ⟨zc,0,true⟩)∧(∀ J,OlP p HB J→(∀ (c:Nat) (k:Blk),H.length≤c→c≠H.length+2→K[c]?=some k→J[c]?=some k)→LyV J l' u0 u1 u2 u3 u4 u5 u6 u7 u8 u9∧ShV J l'.shape u10 u11 u12 u13 u14 u15 u16 u17)∧LyN (n+1) l') ?_ ?_
 ·have o:=fun L=>Old.app' H L
  have o:∀ {L},Old H (H++L):=fun {L}=>o L
  have hcase:w=0∨w=1∨w=2∨w=3∨w=4∨w=5∨w=6∨w=7∨w=8∨w=9∨w=10∨w=11∨w=12∨w=13∨w=14∨w=15∨w=16∨w=17∨w=18∨w=19∨w=20∨w=21∨w=22:=by omega
  rcases hcase with rfl|rfl|rfl|rfl|rfl|rfl|rfl|rfl|rfl|rfl|rfl|rfl|rfl|rfl|rfl|rfl|rfl|rfl|rfl|rfl|rfl|rfl|rfl
  ·(refine sg (et t2 (et t3 (et t4 t5))) ?_;try exact⟨⟩)
   refine(ka _).x ?_
   (refine sg (et t2 (et t3 (et t4 (et t5 (et wz1 (et wz2 (et kd kd0))))))) ?_;try exact⟨⟩)
   exact⟨{ l with kind:=z - 1 },v0,v1,v2,v3,v4,v5,v6,v7,v8,pm,vw,vh,vp,vc,vd,vda,vf,vt,o,by simp,by first|rfl|(rw[hget_app0];rfl),⟨_,rfl,by first|rfl|(rw[hget_app];rfl)⟩,fun J o0J oJ=>⟨⟨(h J o0J).x,(h J o0J).y,(h J o0J).ax,(h J o0J).ay,(h J o0J).sx,(h J o0J).sy,(h J o0J).turn,(h J o0J).opac,(h J o0J).remap,(h J o0J).mask⟩,⟨(hs J o0J).w,(hs J o0J).h,(hs J o0J).paths,(hs J o0J).colors,(hs J o0J).width,(hs J o0J).dash,(hs J o0J).frm,(hs J o0J).to⟩⟩,⟨(by have:=hz.x;exact Nat.le_succ_of_le this),(by have:=hz.y;exact Nat.le_succ_of_le this),(by have:=hz.ax;exact Nat.le_succ_of_le this),(by have:=hz.ay;exact Nat.le_succ_of_le this),(by have:=hz.sx;exact Nat.le_succ_of_le this),(by have:=hz.sy;exact Nat.le_succ_of_le this),(by have:=hz.turn;exact Nat.le_succ_of_le this),(by have:=hz.opac;exact Nat.le_succ_of_le this),(by have:=hz.remap;exact Nat.le_succ_of_le this),(by have:=hz.mask;exact Nat.le_succ_of_le this),(by have:=hz.w;exact Nat.le_succ_of_le this),(by have:=hz.h;exact Nat.le_succ_of_le this),(by have:=hz.paths;exact Nat.le_succ_of_le this),(fun p hp=>Nat.le_succ_of_le (hz.pts p hp)),(by have:=hz.colors;exact Nat.le_succ_of_le this),(by have:=hz.width;exact Nat.le_succ_of_le this),(by have:=hz.dash;exact Nat.le_succ_of_le this),(by have:=hz.frm;exact Nat.le_succ_of_le this),(by have:=hz.to;exact Nat.le_succ_of_le this)⟩⟩
  ·(refine sg (et t2 (et t3 (et t4 t5))) ?_;try exact⟨⟩)
   refine(ka _).x ?_
   (refine sg (et t2 (et t3 (et t4 (et t5 (et wz1 (et wz2 (et kd kd0))))))) ?_;try exact⟨⟩)
   exact⟨{ l with parent:=z - 2 },v0,v1,v2,v3,v4,v5,v6,v7,v8,pm,vw,vh,vp,vc,vd,vda,vf,vt,o,by simp,by first|rfl|(rw[hget_app0];rfl),⟨_,rfl,by first|rfl|(rw[hget_app];rfl)⟩,fun J o0J oJ=>⟨⟨(h J o0J).x,(h J o0J).y,(h J o0J).ax,(h J o0J).ay,(h J o0J).sx,(h J o0J).sy,(h J o0J).turn,(h J o0J).opac,(h J o0J).remap,(h J o0J).mask⟩,⟨(hs J o0J).w,(hs J o0J).h,(hs J o0J).paths,(hs J o0J).colors,(hs J o0J).width,(hs J o0J).dash,(hs J o0J).frm,(hs J o0J).to⟩⟩,⟨(by have:=hz.x;exact Nat.le_succ_of_le this),(by have:=hz.y;exact Nat.le_succ_of_le this),(by have:=hz.ax;exact Nat.le_succ_of_le this),(by have:=hz.ay;exact Nat.le_succ_of_le this),(by have:=hz.sx;exact Nat.le_succ_of_le this),(by have:=hz.sy;exact Nat.le_succ_of_le this),(by have:=hz.turn;exact Nat.le_succ_of_le this),(by have:=hz.opac;exact Nat.le_succ_of_le this),(by have:=hz.remap;exact Nat.le_succ_of_le this),(by have:=hz.mask;exact Nat.le_succ_of_le this),(by have:=hz.w;exact Nat.le_succ_of_le this),(by have:=hz.h;exact Nat.le_succ_of_le this),(by have:=hz.paths;exact Nat.le_succ_of_le this),(fun p hp=>Nat.le_succ_of_le (hz.pts p hp)),(by have:=hz.colors;exact Nat.le_succ_of_le this),(by have:=hz.width;exact Nat.le_succ_of_le this),(by have:=hz.dash;exact Nat.le_succ_of_le this),(by have:=hz.frm;exact Nat.le_succ_of_le this),(by have:=hz.to;exact Nat.le_succ_of_le this)⟩⟩
  ·(refine sg (et t2 (et t3 (et t4 t5))) ?_;try exact⟨⟩)
   refine(ka _).x ?_
   (refine sg (et t2 (et t3 (et t4 (et t5 (et wz1 (et wz2 (et kd kd0))))))) ?_;try exact⟨⟩)
   exact⟨{ l with comp:=z },v0,v1,v2,v3,v4,v5,v6,v7,v8,pm,vw,vh,vp,vc,vd,vda,vf,vt,o,by simp,by first|rfl|(rw[hget_app0];rfl),⟨_,rfl,by first|rfl|(rw[hget_app];rfl)⟩,fun J o0J oJ=>⟨⟨(h J o0J).x,(h J o0J).y,(h J o0J).ax,(h J o0J).ay,(h J o0J).sx,(h J o0J).sy,(h J o0J).turn,(h J o0J).opac,(h J o0J).remap,(h J o0J).mask⟩,⟨(hs J o0J).w,(hs J o0J).h,(hs J o0J).paths,(hs J o0J).colors,(hs J o0J).width,(hs J o0J).dash,(hs J o0J).frm,(hs J o0J).to⟩⟩,⟨(by have:=hz.x;exact Nat.le_succ_of_le this),(by have:=hz.y;exact Nat.le_succ_of_le this),(by have:=hz.ax;exact Nat.le_succ_of_le this),(by have:=hz.ay;exact Nat.le_succ_of_le this),(by have:=hz.sx;exact Nat.le_succ_of_le this),(by have:=hz.sy;exact Nat.le_succ_of_le this),(by have:=hz.turn;exact Nat.le_succ_of_le this),(by have:=hz.opac;exact Nat.le_succ_of_le this),(by have:=hz.remap;exact Nat.le_succ_of_le this),(by have:=hz.mask;exact Nat.le_succ_of_le this),(by have:=hz.w;exact Nat.le_succ_of_le this),(by have:=hz.h;exact Nat.le_succ_of_le this),(by have:=hz.paths;exact Nat.le_succ_of_le this),(fun p hp=>Nat.le_succ_of_le (hz.pts p hp)),(by have:=hz.colors;exact Nat.le_succ_of_le this),(by have:=hz.width;exact Nat.le_succ_of_le this),(by have:=hz.dash;exact Nat.le_succ_of_le this),(by have:=hz.frm;exact Nat.le_succ_of_le this),(by have:=hz.to;exact Nat.le_succ_of_le this)⟩⟩
  ·(refine sg (et t2 (et t3 (et t4 t5))) ?_;try exact⟨⟩)
   refine(ka _).x ?_
   (refine sg (et t2 (et t3 (et t4 (et t5 (et wz1 (et wz2 (et kd kd0))))))) ?_;try exact⟨⟩)
   exact⟨{ l with matte:=z - 2 },v0,v1,v2,v3,v4,v5,v6,v7,v8,pm,vw,vh,vp,vc,vd,vda,vf,vt,o,by simp,by first|rfl|(rw[hget_app0];rfl),⟨_,rfl,by first|rfl|(rw[hget_app];rfl)⟩,fun J o0J oJ=>⟨⟨(h J o0J).x,(h J o0J).y,(h J o0J).ax,(h J o0J).ay,(h J o0J).sx,(h J o0J).sy,(h J o0J).turn,(h J o0J).opac,(h J o0J).remap,(h J o0J).mask⟩,⟨(hs J o0J).w,(hs J o0J).h,(hs J o0J).paths,(hs J o0J).colors,(hs J o0J).width,(hs J o0J).dash,(hs J o0J).frm,(hs J o0J).to⟩⟩,⟨(by have:=hz.x;exact Nat.le_succ_of_le this),(by have:=hz.y;exact Nat.le_succ_of_le this),(by have:=hz.ax;exact Nat.le_succ_of_le this),(by have:=hz.ay;exact Nat.le_succ_of_le this),(by have:=hz.sx;exact Nat.le_succ_of_le this),(by have:=hz.sy;exact Nat.le_succ_of_le this),(by have:=hz.turn;exact Nat.le_succ_of_le this),(by have:=hz.opac;exact Nat.le_succ_of_le this),(by have:=hz.remap;exact Nat.le_succ_of_le this),(by have:=hz.mask;exact Nat.le_succ_of_le this),(by have:=hz.w;exact Nat.le_succ_of_le this),(by have:=hz.h;exact Nat.le_succ_of_le this),(by have:=hz.paths;exact Nat.le_succ_of_le this),(fun p hp=>Nat.le_succ_of_le (hz.pts p hp)),(by have:=hz.colors;exact Nat.le_succ_of_le this),(by have:=hz.width;exact Nat.le_succ_of_le this),(by have:=hz.dash;exact Nat.le_succ_of_le this),(by have:=hz.frm;exact Nat.le_succ_of_le this),(by have:=hz.to;exact Nat.le_succ_of_le this)⟩⟩
  ·(refine sg (et t2 (et t3 (et t4 t5))) ?_;try exact⟨⟩)
   refine(ka _).x ?_
   (refine sg (et t2 (et t3 (et t4 (et t5 (et wz1 (et wz2 (et kd kd0))))))) ?_;try exact⟨⟩)
   exact⟨{ l with in_:=N },v0,v1,v2,v3,v4,v5,v6,v7,v8,pm,vw,vh,vp,vc,vd,vda,vf,vt,o,by simp,by first|rfl|(rw[hget_app0];rfl),⟨_,rfl,by first|rfl|(rw[hget_app];rfl)⟩,fun J o0J oJ=>⟨⟨(h J o0J).x,(h J o0J).y,(h J o0J).ax,(h J o0J).ay,(h J o0J).sx,(h J o0J).sy,(h J o0J).turn,(h J o0J).opac,(h J o0J).remap,(h J o0J).mask⟩,⟨(hs J o0J).w,(hs J o0J).h,(hs J o0J).paths,(hs J o0J).colors,(hs J o0J).width,(hs J o0J).dash,(hs J o0J).frm,(hs J o0J).to⟩⟩,⟨(by have:=hz.x;exact Nat.le_succ_of_le this),(by have:=hz.y;exact Nat.le_succ_of_le this),(by have:=hz.ax;exact Nat.le_succ_of_le this),(by have:=hz.ay;exact Nat.le_succ_of_le this),(by have:=hz.sx;exact Nat.le_succ_of_le this),(by have:=hz.sy;exact Nat.le_succ_of_le this),(by have:=hz.turn;exact Nat.le_succ_of_le this),(by have:=hz.opac;exact Nat.le_succ_of_le this),(by have:=hz.remap;exact Nat.le_succ_of_le this),(by have:=hz.mask;exact Nat.le_succ_of_le this),(by have:=hz.w;exact Nat.le_succ_of_le this),(by have:=hz.h;exact Nat.le_succ_of_le this),(by have:=hz.paths;exact Nat.le_succ_of_le this),(fun p hp=>Nat.le_succ_of_le (hz.pts p hp)),(by have:=hz.colors;exact Nat.le_succ_of_le this),(by have:=hz.width;exact Nat.le_succ_of_le this),(by have:=hz.dash;exact Nat.le_succ_of_le this),(by have:=hz.frm;exact Nat.le_succ_of_le this),(by have:=hz.to;exact Nat.le_succ_of_le this)⟩⟩
  ·(refine sg (et t2 (et t3 (et t4 t5))) ?_;try exact⟨⟩)
   refine(ka _).x ?_
   (refine sg (et t2 (et t3 (et t4 (et t5 (et wz1 (et wz2 (et kd kd0))))))) ?_;try exact⟨⟩)
   exact⟨{ l with out:=N },v0,v1,v2,v3,v4,v5,v6,v7,v8,pm,vw,vh,vp,vc,vd,vda,vf,vt,o,by simp,by first|rfl|(rw[hget_app0];rfl),⟨_,rfl,by first|rfl|(rw[hget_app];rfl)⟩,fun J o0J oJ=>⟨⟨(h J o0J).x,(h J o0J).y,(h J o0J).ax,(h J o0J).ay,(h J o0J).sx,(h J o0J).sy,(h J o0J).turn,(h J o0J).opac,(h J o0J).remap,(h J o0J).mask⟩,⟨(hs J o0J).w,(hs J o0J).h,(hs J o0J).paths,(hs J o0J).colors,(hs J o0J).width,(hs J o0J).dash,(hs J o0J).frm,(hs J o0J).to⟩⟩,⟨(by have:=hz.x;exact Nat.le_succ_of_le this),(by have:=hz.y;exact Nat.le_succ_of_le this),(by have:=hz.ax;exact Nat.le_succ_of_le this),(by have:=hz.ay;exact Nat.le_succ_of_le this),(by have:=hz.sx;exact Nat.le_succ_of_le this),(by have:=hz.sy;exact Nat.le_succ_of_le this),(by have:=hz.turn;exact Nat.le_succ_of_le this),(by have:=hz.opac;exact Nat.le_succ_of_le this),(by have:=hz.remap;exact Nat.le_succ_of_le this),(by have:=hz.mask;exact Nat.le_succ_of_le this),(by have:=hz.w;exact Nat.le_succ_of_le this),(by have:=hz.h;exact Nat.le_succ_of_le this),(by have:=hz.paths;exact Nat.le_succ_of_le this),(fun p hp=>Nat.le_succ_of_le (hz.pts p hp)),(by have:=hz.colors;exact Nat.le_succ_of_le this),(by have:=hz.width;exact Nat.le_succ_of_le this),(by have:=hz.dash;exact Nat.le_succ_of_le this),(by have:=hz.frm;exact Nat.le_succ_of_le this),(by have:=hz.to;exact Nat.le_succ_of_le this)⟩⟩
  ·(refine sg (et t2 (et t3 (et t4 t5))) ?_;try exact⟨⟩)
   refine(ka _).x ?_
   (refine sg (et t2 (et t3 (et t4 (et t5 (et wz1 (et wz2 (et kd kd0))))))) ?_;try exact⟨⟩)
   exact⟨{ l with start:=N },v0,v1,v2,v3,v4,v5,v6,v7,v8,pm,vw,vh,vp,vc,vd,vda,vf,vt,o,by simp,by first|rfl|(rw[hget_app0];rfl),⟨_,rfl,by first|rfl|(rw[hget_app];rfl)⟩,fun J o0J oJ=>⟨⟨(h J o0J).x,(h J o0J).y,(h J o0J).ax,(h J o0J).ay,(h J o0J).sx,(h J o0J).sy,(h J o0J).turn,(h J o0J).opac,(h J o0J).remap,(h J o0J).mask⟩,⟨(hs J o0J).w,(hs J o0J).h,(hs J o0J).paths,(hs J o0J).colors,(hs J o0J).width,(hs J o0J).dash,(hs J o0J).frm,(hs J o0J).to⟩⟩,⟨(by have:=hz.x;exact Nat.le_succ_of_le this),(by have:=hz.y;exact Nat.le_succ_of_le this),(by have:=hz.ax;exact Nat.le_succ_of_le this),(by have:=hz.ay;exact Nat.le_succ_of_le this),(by have:=hz.sx;exact Nat.le_succ_of_le this),(by have:=hz.sy;exact Nat.le_succ_of_le this),(by have:=hz.turn;exact Nat.le_succ_of_le this),(by have:=hz.opac;exact Nat.le_succ_of_le this),(by have:=hz.remap;exact Nat.le_succ_of_le this),(by have:=hz.mask;exact Nat.le_succ_of_le this),(by have:=hz.w;exact Nat.le_succ_of_le this),(by have:=hz.h;exact Nat.le_succ_of_le this),(by have:=hz.paths;exact Nat.le_succ_of_le this),(fun p hp=>Nat.le_succ_of_le (hz.pts p hp)),(by have:=hz.colors;exact Nat.le_succ_of_le this),(by have:=hz.width;exact Nat.le_succ_of_le this),(by have:=hz.dash;exact Nat.le_succ_of_le this),(by have:=hz.frm;exact Nat.le_succ_of_le this),(by have:=hz.to;exact Nat.le_succ_of_le this)⟩⟩
  ·by_cases hx0:l.x=[]
   ·have hxl:l.x.length=0:=by rw[hx0];rfl
    have ha:∀ J:AH,Old H J→asrc J 7 v0=some ([],0,[]):=fun J oJ=>by
     rcases (h H (OlP.old o0)).x with ⟨_,⟨e,rfl⟩|rfl⟩|⟨bx,gx,rest,rw_,cs,rfl,h2,h3,h4,h5⟩
     ·exact asrc_zs
     ·exact asrc_nil
     ·rw[asrc_sl,oJ _ _ h2,hxl,asy_zero]
    (refine sg (et t2 (et t3 (et t4 t5))) ?_;try exact⟨⟩)
    refine(ka _).x ?_
    (refine sg (et t2 (et t3 (et t4 t5))) ?_;try exact⟨⟩)
    refine drawnU [(3,4),(3,5),(3,6),(3,7),(3,8),(3,9)] (by decide +kernel) ?_
    simp only[go_sem,Nat.reduceEqDiff,Nat.reduceAdd,Nat.reduceSub,Nat.reduceMul,Nat.reduceLT,Nat.reduceLeDiff,Int.reducePow,Int.reduceBEq,Int.reduceBNe,Int.reduceDiv,Int.reduceMod,Int.reduceEq,Int.reduceLT,Int.reduceLE,Int.reduceAdd,Int.reduceSub,Int.reduceMul,Int.reduceNeg,Int.reduceToNat,Int.reduceTDiv,Int.reduceTMod,↓reduceIte,t2,t3,t4,t5,ha _ o,Nat.zero_add,Nat.zero_mul,kd,kd0]
    exact⟨{ l with x:=l.x++[⟨N,N,0,ez00⟩] },sl (H.length+3) 0 1 1 7,v1,v2,v3,v4,v5,v6,v7,v8,pm,vw,vh,vp,vc,vd,vda,vf,vt,o,by simp,by first|rfl|(rw[hget_app0];rfl),⟨_,rfl,by first|rfl|(rw[hget_app];rfl)⟩,fun J o0J oJ=>⟨⟨(by show RowOf 7 KyE _ _ (l.x++[⟨N,N,0,ez00⟩]);rw[hx0];exact RowOf.one (oJ _ _ (by omega) (by omega) (by first|rfl|(rw[hget_app];rfl))) rfl rfl),(h J o0J).y,(h J o0J).ax,(h J o0J).ay,(h J o0J).sx,(h J o0J).sy,(h J o0J).turn,(h J o0J).opac,(h J o0J).remap,(h J o0J).mask⟩,⟨(hs J o0J).w,(hs J o0J).h,(hs J o0J).paths,(hs J o0J).colors,(hs J o0J).width,(hs J o0J).dash,(hs J o0J).frm,(hs J o0J).to⟩⟩,⟨(by show (l.x++[_]).length≤n+1;rw[hx0];simp),(by have:=hz.y;exact Nat.le_succ_of_le this),(by have:=hz.ax;exact Nat.le_succ_of_le this),(by have:=hz.ay;exact Nat.le_succ_of_le this),(by have:=hz.sx;exact Nat.le_succ_of_le this),(by have:=hz.sy;exact Nat.le_succ_of_le this),(by have:=hz.turn;exact Nat.le_succ_of_le this),(by have:=hz.opac;exact Nat.le_succ_of_le this),(by have:=hz.remap;exact Nat.le_succ_of_le this),(by have:=hz.mask;exact Nat.le_succ_of_le this),(by have:=hz.w;exact Nat.le_succ_of_le this),(by have:=hz.h;exact Nat.le_succ_of_le this),(by have:=hz.paths;exact Nat.le_succ_of_le this),(fun p hp=>Nat.le_succ_of_le (hz.pts p hp)),(by have:=hz.colors;exact Nat.le_succ_of_le this),(by have:=hz.width;exact Nat.le_succ_of_le this),(by have:=hz.dash;exact Nat.le_succ_of_le this),(by have:=hz.frm;exact Nat.le_succ_of_le this),(by have:=hz.to;exact Nat.le_succ_of_le this)⟩⟩
   ·rcases (h H (OlP.old o0)).x with ⟨e,_⟩|⟨bx,gx,rest,rw_,cs,hv0,h2,h3,h4,h5⟩
    ·exact absurd e hx0
    subst hv0
    have hxl:¬ l.x.length=0:=fun e=>hx0 (List.eq_nil_of_length_eq_zero e)
    have hxn:=hz.x
    have hfl:=flatten_len (RowOf.all h3 h5)
    rw[h3] at hfl
    have zn:(l.x.length=0)=False:=eq_false hxl
    have hz1:0+l.x.length*7 - (cs.flatten++rest).length=0:=by rw[List.length_append,hfl];omega
    have ht1:((cs.flatten++rest).drop 0).take (l.x.length*7)=cs.flatten:=by rw[List.drop_zero,← hfl,List.take_left]
    have ha:∀ J:AH,Old H J→asrc J 7 (sl bx 0 gx l.x.length 7)=some (cs.flatten,l.x.length,[bx]):=fun J oJ=>by
     rw[asrc_sl,oJ _ _ h2,asy_some zn hz1,ht1]
    have hp3:l.x.length*56 - 140737488355328=0:=Nat.sub_eq_zero_of_le (Nat.le_trans (Nat.mul_le_mul_right 56 (show l.x.length≤1000 by omega)) (by decide))
    have hp4:l.x.length - 140737488355328=0:=Nat.sub_eq_zero_of_le (Nat.le_trans (show l.x.length≤1000 by omega) (by decide))
    have hp5:(l.x.length+1)*56 - 140737488355328=0:=Nat.sub_eq_zero_of_le (Nat.le_trans (Nat.mul_le_mul_right 56 (show l.x.length+1≤1001 by omega)) (by decide))
    have hp6:l.x.length+1 - 140737488355328=0:=Nat.sub_eq_zero_of_le (Nat.le_trans (show l.x.length+1≤1001 by omega) (by decide))
    have hbx:=(List.getElem?_eq_some_iff.1 h2).1
    have nb:∀ k,(bx=H.length+k)=False:=fun k=>eq_false (by omega)
    have nb':∀ k,(H.length+k=bx)=False:=fun k=>eq_false (by omega)
    have nb0:(H.length=bx)=False:=eq_false (by omega)
    (refine sg (et t2 (et t3 (et t4 t5))) ?_;try exact⟨⟩)
    refine(ka _).x ?_
    (refine sg (et t2 (et t3 (et t4 t5))) ?_;try exact⟨⟩)
    refine drawnU [(3,4),(3,5),(3,6),(3,7),(3,8),(3,9)] (by decide +kernel) ?_
    simp only[go_sem,Nat.reduceEqDiff,Nat.reduceAdd,Nat.reduceSub,Nat.reduceMul,Nat.reduceLT,Nat.reduceLeDiff,Int.reducePow,Int.reduceBEq,Int.reduceBNe,Int.reduceDiv,Int.reduceMod,Int.reduceEq,Int.reduceLT,Int.reduceLE,Int.reduceAdd,Int.reduceSub,Int.reduceMul,Int.reduceNeg,Int.reduceToNat,Int.reduceTDiv,Int.reduceTMod,↓reduceIte,t2,t3,t4,t5,ha _ o,zn,hp3,hp4,hp5,hp6,hfl,Nat.zero_add,Nat.zero_mul,kd,kd0,nb,nb',nb0]
    exact⟨{ l with x:=l.x++[⟨N,N,0,ez00⟩] },sl (H.length+3) 0 2 (l.x.length+1) 7,v1,v2,v3,v4,v5,v6,v7,v8,pm,vw,vh,vp,vc,vd,vda,vf,vt,o,by simp,by first|rfl|(rw[hget_app0];rfl),⟨_,rfl,by first|rfl|(rw[hget_app];rfl)⟩,fun J o0J oJ=>⟨⟨(by show RowOf 7 KyE _ _ (l.x++[⟨N,N,0,ez00⟩]);exact .inr ⟨H.length+3,2,[],true,cs++[kyC ⟨N,N,0,ez00⟩],by rw[List.length_append];rfl,by rw[List.append_nil,List.flatten_append,List.flatten_singleton];exact oJ _ _ (by omega) (by omega) (by first|rfl|(rw[hget_app];rfl)),by rw[List.length_append,List.length_append,h3];rfl,by rw[List.length_append];simp;omega,fun i y hy=>by(by_cases hi:i<l.x.length;(rw[List.getElem?_append_left hi] at hy;rw[List.getElem?_append_left (by omega)];exact h5 i y hy);(have hi2:i=l.x.length:=by(have:=(List.getElem?_eq_some_iff.1 hy).1;simp at this;omega));subst hi2;rw[List.getElem?_append_right (by omega),Nat.sub_self] at hy;simp at hy;subst hy;exact⟨_,by rw[List.getElem?_append_right (by omega),h3,Nat.sub_self];rfl,rfl,rfl⟩)⟩),(h J o0J).y,(h J o0J).ax,(h J o0J).ay,(h J o0J).sx,(h J o0J).sy,(h J o0J).turn,(h J o0J).opac,(h J o0J).remap,(h J o0J).mask⟩,⟨(hs J o0J).w,(hs J o0J).h,(hs J o0J).paths,(hs J o0J).colors,(hs J o0J).width,(hs J o0J).dash,(hs J o0J).frm,(hs J o0J).to⟩⟩,⟨(by show (l.x++[_]).length≤n+1;rw[List.length_append];simp;omega),(by have:=hz.y;exact Nat.le_succ_of_le this),(by have:=hz.ax;exact Nat.le_succ_of_le this),(by have:=hz.ay;exact Nat.le_succ_of_le this),(by have:=hz.sx;exact Nat.le_succ_of_le this),(by have:=hz.sy;exact Nat.le_succ_of_le this),(by have:=hz.turn;exact Nat.le_succ_of_le this),(by have:=hz.opac;exact Nat.le_succ_of_le this),(by have:=hz.remap;exact Nat.le_succ_of_le this),(by have:=hz.mask;exact Nat.le_succ_of_le this),(by have:=hz.w;exact Nat.le_succ_of_le this),(by have:=hz.h;exact Nat.le_succ_of_le this),(by have:=hz.paths;exact Nat.le_succ_of_le this),(fun p hp=>Nat.le_succ_of_le (hz.pts p hp)),(by have:=hz.colors;exact Nat.le_succ_of_le this),(by have:=hz.width;exact Nat.le_succ_of_le this),(by have:=hz.dash;exact Nat.le_succ_of_le this),(by have:=hz.frm;exact Nat.le_succ_of_le this),(by have:=hz.to;exact Nat.le_succ_of_le this)⟩⟩
  ·(refine sg (et t2 (et t3 (et t4 t5))) ?_;try exact⟨⟩)
   refine(ka _).x ?_
   (refine sg (et t2 (et t3 (et t4 (et t5 (et wz1 (et wz2 (et kd kd0))))))) ?_;try exact⟨⟩)
   exact⟨{ l with opac:=[⟨0,N,z - 1,ez00⟩] },v0,v1,v2,v3,v4,v5,v6,sl (H.length+3) 0 0 1 7,v8,pm,vw,vh,vp,vc,vd,vda,vf,vt,o,by simp,by first|rfl|(rw[hget_app0];rfl),⟨_,rfl,by first|rfl|(rw[hget_app];rfl)⟩,fun J o0J oJ=>⟨⟨(h J o0J).x,(h J o0J).y,(h J o0J).ax,(h J o0J).ay,(h J o0J).sx,(h J o0J).sy,(h J o0J).turn,RowOf.one (oJ _ _ (by omega) (by omega) (by first|rfl|(rw[hget_app];rfl))) rfl rfl,(h J o0J).remap,(h J o0J).mask⟩,⟨(hs J o0J).w,(hs J o0J).h,(hs J o0J).paths,(hs J o0J).colors,(hs J o0J).width,(hs J o0J).dash,(hs J o0J).frm,(hs J o0J).to⟩⟩,⟨(by have:=hz.x;exact Nat.le_succ_of_le this),(by have:=hz.y;exact Nat.le_succ_of_le this),(by have:=hz.ax;exact Nat.le_succ_of_le this),(by have:=hz.ay;exact Nat.le_succ_of_le this),(by have:=hz.sx;exact Nat.le_succ_of_le this),(by have:=hz.sy;exact Nat.le_succ_of_le this),(by have:=hz.turn;exact Nat.le_succ_of_le this),(by show [_].length≤n+1;simp),(by have:=hz.remap;exact Nat.le_succ_of_le this),(by have:=hz.mask;exact Nat.le_succ_of_le this),(by have:=hz.w;exact Nat.le_succ_of_le this),(by have:=hz.h;exact Nat.le_succ_of_le this),(by have:=hz.paths;exact Nat.le_succ_of_le this),(fun p hp=>Nat.le_succ_of_le (hz.pts p hp)),(by have:=hz.colors;exact Nat.le_succ_of_le this),(by have:=hz.width;exact Nat.le_succ_of_le this),(by have:=hz.dash;exact Nat.le_succ_of_le this),(by have:=hz.frm;exact Nat.le_succ_of_le this),(by have:=hz.to;exact Nat.le_succ_of_le this)⟩⟩
  ·(refine sg (et t2 (et t3 (et t4 t5))) ?_;try exact⟨⟩)
   refine(ka _).x ?_
   (refine sg (et t2 (et t3 (et t4 (et t5 (et wz1 (et wz2 (et kd kd0))))))) ?_;try exact⟨⟩)
   exact⟨{ l with remap:=[⟨N,0,0,ez00⟩] },v0,v1,v2,v3,v4,v5,v6,v7,sl (H.length+3) 0 0 1 7,pm,vw,vh,vp,vc,vd,vda,vf,vt,o,by simp,by first|rfl|(rw[hget_app0];rfl),⟨_,rfl,by first|rfl|(rw[hget_app];rfl)⟩,fun J o0J oJ=>⟨⟨(h J o0J).x,(h J o0J).y,(h J o0J).ax,(h J o0J).ay,(h J o0J).sx,(h J o0J).sy,(h J o0J).turn,(h J o0J).opac,RowOf.one (oJ _ _ (by omega) (by omega) (by first|rfl|(rw[hget_app];rfl))) rfl rfl,(h J o0J).mask⟩,⟨(hs J o0J).w,(hs J o0J).h,(hs J o0J).paths,(hs J o0J).colors,(hs J o0J).width,(hs J o0J).dash,(hs J o0J).frm,(hs J o0J).to⟩⟩,⟨(by have:=hz.x;exact Nat.le_succ_of_le this),(by have:=hz.y;exact Nat.le_succ_of_le this),(by have:=hz.ax;exact Nat.le_succ_of_le this),(by have:=hz.ay;exact Nat.le_succ_of_le this),(by have:=hz.sx;exact Nat.le_succ_of_le this),(by have:=hz.sy;exact Nat.le_succ_of_le this),(by have:=hz.turn;exact Nat.le_succ_of_le this),(by have:=hz.opac;exact Nat.le_succ_of_le this),(by show [_].length≤n+1;simp),(by have:=hz.mask;exact Nat.le_succ_of_le this),(by have:=hz.w;exact Nat.le_succ_of_le this),(by have:=hz.h;exact Nat.le_succ_of_le this),(by have:=hz.paths;exact Nat.le_succ_of_le this),(fun p hp=>Nat.le_succ_of_le (hz.pts p hp)),(by have:=hz.colors;exact Nat.le_succ_of_le this),(by have:=hz.width;exact Nat.le_succ_of_le this),(by have:=hz.dash;exact Nat.le_succ_of_le this),(by have:=hz.frm;exact Nat.le_succ_of_le this),(by have:=hz.to;exact Nat.le_succ_of_le this)⟩⟩
  ·(refine sg (et t2 (et t3 (et t4 t5))) ?_;try exact⟨⟩)
   refine(ka _).x ?_
   (refine sg (et t2 (et t3 (et t4 (et t5 (et wz1 (et wz2 (et kd (et kd0 (et and1 mk))))))))) ?_;try exact⟨⟩)
   exact⟨{ l with mask:=(z % 2==0,List.replicate m (0,0)) },v0,v1,v2,v3,v4,v5,v6,v7,v8,sl (H.length+3) 0 0 m 2,vw,vh,vp,vc,vd,vda,vf,vt,o,by simp,by first|rfl|(rw[hget_app0];rfl),⟨_,rfl,by first|rfl|(rw[hget_app];rfl)⟩,fun J o0J oJ=>⟨⟨(h J o0J).x,(h J o0J).y,(h J o0J).ax,(h J o0J).ay,(h J o0J).sx,(h J o0J).sy,(h J o0J).turn,(h J o0J).opac,(h J o0J).remap,.inr ⟨H.length+3,0,[],true,by show sl (H.length+3) 0 0 m 2=sl (H.length+3) 0 0 (List.replicate m (((0:Int),(0:Int)):Pt)).length 2;rw[List.length_replicate],by rw[List.append_nil];exact oJ _ _ (by omega) (by omega) (by first|rfl|(rw[hget_app];rfl)),by show (List.replicate m (((0:Int),(0:Int)):Pt)).length≤_;rw[List.length_replicate];omega⟩⟩,⟨(hs J o0J).w,(hs J o0J).h,(hs J o0J).paths,(hs J o0J).colors,(hs J o0J).width,(hs J o0J).dash,(hs J o0J).frm,(hs J o0J).to⟩⟩,⟨(by have:=hz.x;exact Nat.le_succ_of_le this),(by have:=hz.y;exact Nat.le_succ_of_le this),(by have:=hz.ax;exact Nat.le_succ_of_le this),(by have:=hz.ay;exact Nat.le_succ_of_le this),(by have:=hz.sx;exact Nat.le_succ_of_le this),(by have:=hz.sy;exact Nat.le_succ_of_le this),(by have:=hz.turn;exact Nat.le_succ_of_le this),(by have:=hz.opac;exact Nat.le_succ_of_le this),(by have:=hz.remap;exact Nat.le_succ_of_le this),(by show (List.replicate m (((0:Int),(0:Int)):Pt)).length≤n+1;rw[List.length_replicate];omega),(by have:=hz.w;exact Nat.le_succ_of_le this),(by have:=hz.h;exact Nat.le_succ_of_le this),(by have:=hz.paths;exact Nat.le_succ_of_le this),(fun p hp=>Nat.le_succ_of_le (hz.pts p hp)),(by have:=hz.colors;exact Nat.le_succ_of_le this),(by have:=hz.width;exact Nat.le_succ_of_le this),(by have:=hz.dash;exact Nat.le_succ_of_le this),(by have:=hz.frm;exact Nat.le_succ_of_le this),(by have:=hz.to;exact Nat.le_succ_of_le this)⟩⟩
  ·(refine sg (et t2 (et t3 (et t4 t5))) ?_;try exact⟨⟩)
   refine(ka _).x ?_
   (refine sg (et t2 (et t3 (et t4 (et t5 (et wz1 (et wz2 (et kd kd0))))))) ?_;try exact⟨⟩)
   exact⟨{ l with shape:={ l.shape with form:=z - 1 } },v0,v1,v2,v3,v4,v5,v6,v7,v8,pm,vw,vh,vp,vc,vd,vda,vf,vt,o,by simp,by first|rfl|(rw[hget_app0];rfl),⟨_,rfl,by first|rfl|(rw[hget_app];rfl)⟩,fun J o0J oJ=>⟨⟨(h J o0J).x,(h J o0J).y,(h J o0J).ax,(h J o0J).ay,(h J o0J).sx,(h J o0J).sy,(h J o0J).turn,(h J o0J).opac,(h J o0J).remap,(h J o0J).mask⟩,⟨(hs J o0J).w,(hs J o0J).h,(hs J o0J).paths,(hs J o0J).colors,(hs J o0J).width,(hs J o0J).dash,(hs J o0J).frm,(hs J o0J).to⟩⟩,⟨(by have:=hz.x;exact Nat.le_succ_of_le this),(by have:=hz.y;exact Nat.le_succ_of_le this),(by have:=hz.ax;exact Nat.le_succ_of_le this),(by have:=hz.ay;exact Nat.le_succ_of_le this),(by have:=hz.sx;exact Nat.le_succ_of_le this),(by have:=hz.sy;exact Nat.le_succ_of_le this),(by have:=hz.turn;exact Nat.le_succ_of_le this),(by have:=hz.opac;exact Nat.le_succ_of_le this),(by have:=hz.remap;exact Nat.le_succ_of_le this),(by have:=hz.mask;exact Nat.le_succ_of_le this),(by have:=hz.w;exact Nat.le_succ_of_le this),(by have:=hz.h;exact Nat.le_succ_of_le this),(by have:=hz.paths;exact Nat.le_succ_of_le this),(fun p hp=>Nat.le_succ_of_le (hz.pts p hp)),(by have:=hz.colors;exact Nat.le_succ_of_le this),(by have:=hz.width;exact Nat.le_succ_of_le this),(by have:=hz.dash;exact Nat.le_succ_of_le this),(by have:=hz.frm;exact Nat.le_succ_of_le this),(by have:=hz.to;exact Nat.le_succ_of_le this)⟩⟩
  ·(refine sg (et t2 (et t3 (et t4 t5))) ?_;try exact⟨⟩)
   refine(ka _).x ?_
   (refine sg (et t2 (et t3 (et t4 (et t5 (et wz1 (et wz2 (et kd kd0))))))) ?_;try exact⟨⟩)
   exact⟨{ l with shape:={ l.shape with n:=z } },v0,v1,v2,v3,v4,v5,v6,v7,v8,pm,vw,vh,vp,vc,vd,vda,vf,vt,o,by simp,by first|rfl|(rw[hget_app0];rfl),⟨_,rfl,by first|rfl|(rw[hget_app];rfl)⟩,fun J o0J oJ=>⟨⟨(h J o0J).x,(h J o0J).y,(h J o0J).ax,(h J o0J).ay,(h J o0J).sx,(h J o0J).sy,(h J o0J).turn,(h J o0J).opac,(h J o0J).remap,(h J o0J).mask⟩,⟨(hs J o0J).w,(hs J o0J).h,(hs J o0J).paths,(hs J o0J).colors,(hs J o0J).width,(hs J o0J).dash,(hs J o0J).frm,(hs J o0J).to⟩⟩,⟨(by have:=hz.x;exact Nat.le_succ_of_le this),(by have:=hz.y;exact Nat.le_succ_of_le this),(by have:=hz.ax;exact Nat.le_succ_of_le this),(by have:=hz.ay;exact Nat.le_succ_of_le this),(by have:=hz.sx;exact Nat.le_succ_of_le this),(by have:=hz.sy;exact Nat.le_succ_of_le this),(by have:=hz.turn;exact Nat.le_succ_of_le this),(by have:=hz.opac;exact Nat.le_succ_of_le this),(by have:=hz.remap;exact Nat.le_succ_of_le this),(by have:=hz.mask;exact Nat.le_succ_of_le this),(by have:=hz.w;exact Nat.le_succ_of_le this),(by have:=hz.h;exact Nat.le_succ_of_le this),(by have:=hz.paths;exact Nat.le_succ_of_le this),(fun p hp=>Nat.le_succ_of_le (hz.pts p hp)),(by have:=hz.colors;exact Nat.le_succ_of_le this),(by have:=hz.width;exact Nat.le_succ_of_le this),(by have:=hz.dash;exact Nat.le_succ_of_le this),(by have:=hz.frm;exact Nat.le_succ_of_le this),(by have:=hz.to;exact Nat.le_succ_of_le this)⟩⟩
  ·(refine sg (et t2 (et t3 (et t4 t5))) ?_;try exact⟨⟩)
   refine(ka _).x ?_
   (refine sg (et t2 (et t3 (et t4 (et t5 (et wz1 (et wz2 (et kd kd0))))))) ?_;try exact⟨⟩)
   exact⟨{ l with shape:={ l.shape with w:=[⟨N,N,0,ez00⟩,⟨5,0,0,ez00⟩] } },v0,v1,v2,v3,v4,v5,v6,v7,v8,pm,sl (H.length+3) 0 0 2 7,vh,vp,vc,vd,vda,vf,vt,o,by simp,by first|rfl|(rw[hget_app0];rfl),⟨_,rfl,by first|rfl|(rw[hget_app];rfl)⟩,fun J o0J oJ=>⟨⟨(h J o0J).x,(h J o0J).y,(h J o0J).ax,(h J o0J).ay,(h J o0J).sx,(h J o0J).sy,(h J o0J).turn,(h J o0J).opac,(h J o0J).remap,(h J o0J).mask⟩,⟨RowOf.two (c:=kyC ⟨N,N,0,ez00⟩) (c':=kyC ⟨5,0,0,ez00⟩) (oJ _ _ (by omega) (by omega) (by first|rfl|(rw[hget_app];rfl))) rfl rfl rfl rfl,(hs J o0J).h,(hs J o0J).paths,(hs J o0J).colors,(hs J o0J).width,(hs J o0J).dash,(hs J o0J).frm,(hs J o0J).to⟩⟩,⟨(by have:=hz.x;exact Nat.le_succ_of_le this),(by have:=hz.y;exact Nat.le_succ_of_le this),(by have:=hz.ax;exact Nat.le_succ_of_le this),(by have:=hz.ay;exact Nat.le_succ_of_le this),(by have:=hz.sx;exact Nat.le_succ_of_le this),(by have:=hz.sy;exact Nat.le_succ_of_le this),(by have:=hz.turn;exact Nat.le_succ_of_le this),(by have:=hz.opac;exact Nat.le_succ_of_le this),(by have:=hz.remap;exact Nat.le_succ_of_le this),(by have:=hz.mask;exact Nat.le_succ_of_le this),(by show [_,_].length≤n+1;simp;omega),(by have:=hz.h;exact Nat.le_succ_of_le this),(by have:=hz.paths;exact Nat.le_succ_of_le this),(fun p hp=>Nat.le_succ_of_le (hz.pts p hp)),(by have:=hz.colors;exact Nat.le_succ_of_le this),(by have:=hz.width;exact Nat.le_succ_of_le this),(by have:=hz.dash;exact Nat.le_succ_of_le this),(by have:=hz.frm;exact Nat.le_succ_of_le this),(by have:=hz.to;exact Nat.le_succ_of_le this)⟩⟩
  ·(refine sg (et t2 (et t3 (et t4 t5))) ?_;try exact⟨⟩)
   refine(ka _).x ?_
   (refine sg (et t2 (et t3 (et t4 (et t5 (et wz1 (et wz2 (et kd (et kd0 mk)))))))) ?_;try exact⟨⟩)
   exact⟨{ l with shape:={ l.shape with paths:=[⟨0,(false,List.replicate m (0,0)),0,ez00⟩] } },v0,v1,v2,v3,v4,v5,v6,v7,v8,pm,vw,vh,sl (H.length+4) 0 0 1 8,vc,vd,vda,vf,vt,o,by simp,by first|rfl|(rw[hget_app0];rfl),⟨_,rfl,by first|rfl|(rw[hget_app];rfl)⟩,fun J o0J oJ=>⟨⟨(h J o0J).x,(h J o0J).y,(h J o0J).ax,(h J o0J).ay,(h J o0J).sx,(h J o0J).sy,(h J o0J).turn,(h J o0J).opac,(h J o0J).remap,(h J o0J).mask⟩,⟨(hs J o0J).w,(hs J o0J).h,RowOf.one (oJ _ _ (by omega) (by omega) (by first|rfl|(rw[hget_app];rfl))) rfl ⟨sl (H.length+3) 0 0 m 2,rfl,.inr ⟨H.length+3,0,[],true,by show sl (H.length+3) 0 0 m 2=sl (H.length+3) 0 0 (List.replicate m (((0:Int),(0:Int)):Pt)).length 2;rw[List.length_replicate],by rw[List.append_nil];exact oJ _ _ (by omega) (by omega) (by first|rfl|(rw[hget_app];rfl)),by show (List.replicate m (((0:Int),(0:Int)):Pt)).length≤_;rw[List.length_replicate];omega⟩⟩,(hs J o0J).colors,(hs J o0J).width,(hs J o0J).dash,(hs J o0J).frm,(hs J o0J).to⟩⟩,⟨(by have:=hz.x;exact Nat.le_succ_of_le this),(by have:=hz.y;exact Nat.le_succ_of_le this),(by have:=hz.ax;exact Nat.le_succ_of_le this),(by have:=hz.ay;exact Nat.le_succ_of_le this),(by have:=hz.sx;exact Nat.le_succ_of_le this),(by have:=hz.sy;exact Nat.le_succ_of_le this),(by have:=hz.turn;exact Nat.le_succ_of_le this),(by have:=hz.opac;exact Nat.le_succ_of_le this),(by have:=hz.remap;exact Nat.le_succ_of_le this),(by have:=hz.mask;exact Nat.le_succ_of_le this),(by have:=hz.w;exact Nat.le_succ_of_le this),(by have:=hz.h;exact Nat.le_succ_of_le this),(by show [_].length≤n+1;simp),(fun p hp=>by rw[List.mem_singleton.1 hp];show (List.replicate m (((0:Int),(0:Int)):Pt)).length≤n+1;rw[List.length_replicate];omega),(by have:=hz.colors;exact Nat.le_succ_of_le this),(by have:=hz.width;exact Nat.le_succ_of_le this),(by have:=hz.dash;exact Nat.le_succ_of_le this),(by have:=hz.frm;exact Nat.le_succ_of_le this),(by have:=hz.to;exact Nat.le_succ_of_le this)⟩⟩
  ·(refine sg (et t2 (et t3 (et t4 t5))) ?_;try exact⟨⟩)
   refine(ka _).x ?_
   (refine sg (et t2 (et t3 (et t4 (et t5 (et wz1 (et wz2 (et kd kd0))))))) ?_;try exact⟨⟩)
   exact⟨{ l with shape:={ l.shape with rule:=z - 1 } },v0,v1,v2,v3,v4,v5,v6,v7,v8,pm,vw,vh,vp,vc,vd,vda,vf,vt,o,by simp,by first|rfl|(rw[hget_app0];rfl),⟨_,rfl,by first|rfl|(rw[hget_app];rfl)⟩,fun J o0J oJ=>⟨⟨(h J o0J).x,(h J o0J).y,(h J o0J).ax,(h J o0J).ay,(h J o0J).sx,(h J o0J).sy,(h J o0J).turn,(h J o0J).opac,(h J o0J).remap,(h J o0J).mask⟩,⟨(hs J o0J).w,(hs J o0J).h,(hs J o0J).paths,(hs J o0J).colors,(hs J o0J).width,(hs J o0J).dash,(hs J o0J).frm,(hs J o0J).to⟩⟩,⟨(by have:=hz.x;exact Nat.le_succ_of_le this),(by have:=hz.y;exact Nat.le_succ_of_le this),(by have:=hz.ax;exact Nat.le_succ_of_le this),(by have:=hz.ay;exact Nat.le_succ_of_le this),(by have:=hz.sx;exact Nat.le_succ_of_le this),(by have:=hz.sy;exact Nat.le_succ_of_le this),(by have:=hz.turn;exact Nat.le_succ_of_le this),(by have:=hz.opac;exact Nat.le_succ_of_le this),(by have:=hz.remap;exact Nat.le_succ_of_le this),(by have:=hz.mask;exact Nat.le_succ_of_le this),(by have:=hz.w;exact Nat.le_succ_of_le this),(by have:=hz.h;exact Nat.le_succ_of_le this),(by have:=hz.paths;exact Nat.le_succ_of_le this),(fun p hp=>Nat.le_succ_of_le (hz.pts p hp)),(by have:=hz.colors;exact Nat.le_succ_of_le this),(by have:=hz.width;exact Nat.le_succ_of_le this),(by have:=hz.dash;exact Nat.le_succ_of_le this),(by have:=hz.frm;exact Nat.le_succ_of_le this),(by have:=hz.to;exact Nat.le_succ_of_le this)⟩⟩
  ·(refine sg (et t2 (et t3 (et t4 t5))) ?_;try exact⟨⟩)
   refine(ka _).x ?_
   (refine sg (et t2 (et t3 (et t4 (et t5 (et wz1 (et wz2 (et kd kd0))))))) ?_;try exact⟨⟩)
   exact⟨{ l with shape:={ l.shape with paint:=⟨z - 1,c400,c400,(0,0),(0,0),N⟩ } },v0,v1,v2,v3,v4,v5,v6,v7,v8,pm,vw,vh,vp,vc,vd,vda,vf,vt,o,by simp,by first|rfl|(rw[hget_app0];rfl),⟨_,rfl,by first|rfl|(rw[hget_app];rfl)⟩,fun J o0J oJ=>⟨⟨(h J o0J).x,(h J o0J).y,(h J o0J).ax,(h J o0J).ay,(h J o0J).sx,(h J o0J).sy,(h J o0J).turn,(h J o0J).opac,(h J o0J).remap,(h J o0J).mask⟩,⟨(hs J o0J).w,(hs J o0J).h,(hs J o0J).paths,(hs J o0J).colors,(hs J o0J).width,(hs J o0J).dash,(hs J o0J).frm,(hs J o0J).to⟩⟩,⟨(by have:=hz.x;exact Nat.le_succ_of_le this),(by have:=hz.y;exact Nat.le_succ_of_le this),(by have:=hz.ax;exact Nat.le_succ_of_le this),(by have:=hz.ay;exact Nat.le_succ_of_le this),(by have:=hz.sx;exact Nat.le_succ_of_le this),(by have:=hz.sy;exact Nat.le_succ_of_le this),(by have:=hz.turn;exact Nat.le_succ_of_le this),(by have:=hz.opac;exact Nat.le_succ_of_le this),(by have:=hz.remap;exact Nat.le_succ_of_le this),(by have:=hz.mask;exact Nat.le_succ_of_le this),(by have:=hz.w;exact Nat.le_succ_of_le this),(by have:=hz.h;exact Nat.le_succ_of_le this),(by have:=hz.paths;exact Nat.le_succ_of_le this),(fun p hp=>Nat.le_succ_of_le (hz.pts p hp)),(by have:=hz.colors;exact Nat.le_succ_of_le this),(by have:=hz.width;exact Nat.le_succ_of_le this),(by have:=hz.dash;exact Nat.le_succ_of_le this),(by have:=hz.frm;exact Nat.le_succ_of_le this),(by have:=hz.to;exact Nat.le_succ_of_le this)⟩⟩
  ·(refine sg (et t2 (et t3 (et t4 t5))) ?_;try exact⟨⟩)
   refine(ka _).x ?_
   (refine sg (et t2 (et t3 (et t4 (et t5 (et wz1 (et wz2 (et kd kd0))))))) ?_;try exact⟨⟩)
   exact⟨{ l with shape:={ l.shape with colors:=[⟨N,c400,0,ez00⟩,⟨3,c400,0,ez00⟩] } },v0,v1,v2,v3,v4,v5,v6,v7,v8,pm,vw,vh,vp,sl (H.length+3) 0 0 2 10,vd,vda,vf,vt,o,by simp,by first|rfl|(rw[hget_app0];rfl),⟨_,rfl,by first|rfl|(rw[hget_app];rfl)⟩,fun J o0J oJ=>⟨⟨(h J o0J).x,(h J o0J).y,(h J o0J).ax,(h J o0J).ay,(h J o0J).sx,(h J o0J).sy,(h J o0J).turn,(h J o0J).opac,(h J o0J).remap,(h J o0J).mask⟩,⟨(hs J o0J).w,(hs J o0J).h,(hs J o0J).paths,RowOf.two (c:=ckC ⟨N,c400,0,ez00⟩) (c':=ckC ⟨3,c400,0,ez00⟩) (oJ _ _ (by omega) (by omega) (by first|rfl|(rw[hget_app];rfl))) rfl rfl rfl rfl,(hs J o0J).width,(hs J o0J).dash,(hs J o0J).frm,(hs J o0J).to⟩⟩,⟨(by have:=hz.x;exact Nat.le_succ_of_le this),(by have:=hz.y;exact Nat.le_succ_of_le this),(by have:=hz.ax;exact Nat.le_succ_of_le this),(by have:=hz.ay;exact Nat.le_succ_of_le this),(by have:=hz.sx;exact Nat.le_succ_of_le this),(by have:=hz.sy;exact Nat.le_succ_of_le this),(by have:=hz.turn;exact Nat.le_succ_of_le this),(by have:=hz.opac;exact Nat.le_succ_of_le this),(by have:=hz.remap;exact Nat.le_succ_of_le this),(by have:=hz.mask;exact Nat.le_succ_of_le this),(by have:=hz.w;exact Nat.le_succ_of_le this),(by have:=hz.h;exact Nat.le_succ_of_le this),(by have:=hz.paths;exact Nat.le_succ_of_le this),(fun p hp=>Nat.le_succ_of_le (hz.pts p hp)),(by show [_,_].length≤n+1;simp;omega),(by have:=hz.width;exact Nat.le_succ_of_le this),(by have:=hz.dash;exact Nat.le_succ_of_le this),(by have:=hz.frm;exact Nat.le_succ_of_le this),(by have:=hz.to;exact Nat.le_succ_of_le this)⟩⟩
  ·(refine sg (et t2 (et t3 (et t4 t5))) ?_;try exact⟨⟩)
   refine(ka _).x ?_
   (refine sg (et t2 (et t3 (et t4 (et t5 (et wz1 (et wz2 (et kd kd0))))))) ?_;try exact⟨⟩)
   exact⟨{ l with shape:={ l.shape with cap:=z } },v0,v1,v2,v3,v4,v5,v6,v7,v8,pm,vw,vh,vp,vc,vd,vda,vf,vt,o,by simp,by first|rfl|(rw[hget_app0];rfl),⟨_,rfl,by first|rfl|(rw[hget_app];rfl)⟩,fun J o0J oJ=>⟨⟨(h J o0J).x,(h J o0J).y,(h J o0J).ax,(h J o0J).ay,(h J o0J).sx,(h J o0J).sy,(h J o0J).turn,(h J o0J).opac,(h J o0J).remap,(h J o0J).mask⟩,⟨(hs J o0J).w,(hs J o0J).h,(hs J o0J).paths,(hs J o0J).colors,(hs J o0J).width,(hs J o0J).dash,(hs J o0J).frm,(hs J o0J).to⟩⟩,⟨(by have:=hz.x;exact Nat.le_succ_of_le this),(by have:=hz.y;exact Nat.le_succ_of_le this),(by have:=hz.ax;exact Nat.le_succ_of_le this),(by have:=hz.ay;exact Nat.le_succ_of_le this),(by have:=hz.sx;exact Nat.le_succ_of_le this),(by have:=hz.sy;exact Nat.le_succ_of_le this),(by have:=hz.turn;exact Nat.le_succ_of_le this),(by have:=hz.opac;exact Nat.le_succ_of_le this),(by have:=hz.remap;exact Nat.le_succ_of_le this),(by have:=hz.mask;exact Nat.le_succ_of_le this),(by have:=hz.w;exact Nat.le_succ_of_le this),(by have:=hz.h;exact Nat.le_succ_of_le this),(by have:=hz.paths;exact Nat.le_succ_of_le this),(fun p hp=>Nat.le_succ_of_le (hz.pts p hp)),(by have:=hz.colors;exact Nat.le_succ_of_le this),(by have:=hz.width;exact Nat.le_succ_of_le this),(by have:=hz.dash;exact Nat.le_succ_of_le this),(by have:=hz.frm;exact Nat.le_succ_of_le this),(by have:=hz.to;exact Nat.le_succ_of_le this)⟩⟩
  ·(refine sg (et t2 (et t3 (et t4 t5))) ?_;try exact⟨⟩)
   refine(ka _).x ?_
   (refine sg (et t2 (et t3 (et t4 (et t5 (et wz1 (et wz2 (et kd kd0))))))) ?_;try exact⟨⟩)
   exact⟨{ l with shape:={ l.shape with dash:=[N] } },v0,v1,v2,v3,v4,v5,v6,v7,v8,pm,vw,vh,vp,vc,vd,sl (H.length+3) 0 0 1 1,vf,vt,o,by simp,by first|rfl|(rw[hget_app0];rfl),⟨_,rfl,by first|rfl|(rw[hget_app];rfl)⟩,fun J o0J oJ=>⟨⟨(h J o0J).x,(h J o0J).y,(h J o0J).ax,(h J o0J).ay,(h J o0J).sx,(h J o0J).sy,(h J o0J).turn,(h J o0J).opac,(h J o0J).remap,(h J o0J).mask⟩,⟨(hs J o0J).w,(hs J o0J).h,(hs J o0J).paths,(hs J o0J).colors,(hs J o0J).width,RowOf.one (oJ _ _ (by omega) (by omega) (by first|rfl|(rw[hget_app];rfl))) rfl rfl,(hs J o0J).frm,(hs J o0J).to⟩⟩,⟨(by have:=hz.x;exact Nat.le_succ_of_le this),(by have:=hz.y;exact Nat.le_succ_of_le this),(by have:=hz.ax;exact Nat.le_succ_of_le this),(by have:=hz.ay;exact Nat.le_succ_of_le this),(by have:=hz.sx;exact Nat.le_succ_of_le this),(by have:=hz.sy;exact Nat.le_succ_of_le this),(by have:=hz.turn;exact Nat.le_succ_of_le this),(by have:=hz.opac;exact Nat.le_succ_of_le this),(by have:=hz.remap;exact Nat.le_succ_of_le this),(by have:=hz.mask;exact Nat.le_succ_of_le this),(by have:=hz.w;exact Nat.le_succ_of_le this),(by have:=hz.h;exact Nat.le_succ_of_le this),(by have:=hz.paths;exact Nat.le_succ_of_le this),(fun p hp=>Nat.le_succ_of_le (hz.pts p hp)),(by have:=hz.colors;exact Nat.le_succ_of_le this),(by have:=hz.width;exact Nat.le_succ_of_le this),(by show [_].length≤n+1;simp),(by have:=hz.frm;exact Nat.le_succ_of_le this),(by have:=hz.to;exact Nat.le_succ_of_le this)⟩⟩
  ·(refine sg (et t2 (et t3 (et t4 t5))) ?_;try exact⟨⟩)
   refine(ka _).x ?_
   (refine sg (et t2 (et t3 (et t4 (et t5 (et wz1 (et wz2 (et kd kd0))))))) ?_;try exact⟨⟩)
   exact⟨{ l with x:=[] },.slice none 0 0,v1,v2,v3,v4,v5,v6,v7,v8,pm,vw,vh,vp,vc,vd,vda,vf,vt,o,by simp,by first|rfl|(rw[hget_app0];rfl),⟨_,rfl,by first|rfl|(rw[hget_app];rfl)⟩,fun J o0J oJ=>⟨⟨RowOf.none,(h J o0J).y,(h J o0J).ax,(h J o0J).ay,(h J o0J).sx,(h J o0J).sy,(h J o0J).turn,(h J o0J).opac,(h J o0J).remap,(h J o0J).mask⟩,⟨(hs J o0J).w,(hs J o0J).h,(hs J o0J).paths,(hs J o0J).colors,(hs J o0J).width,(hs J o0J).dash,(hs J o0J).frm,(hs J o0J).to⟩⟩,⟨(by show [].length≤n+1;simp),(by have:=hz.y;exact Nat.le_succ_of_le this),(by have:=hz.ax;exact Nat.le_succ_of_le this),(by have:=hz.ay;exact Nat.le_succ_of_le this),(by have:=hz.sx;exact Nat.le_succ_of_le this),(by have:=hz.sy;exact Nat.le_succ_of_le this),(by have:=hz.turn;exact Nat.le_succ_of_le this),(by have:=hz.opac;exact Nat.le_succ_of_le this),(by have:=hz.remap;exact Nat.le_succ_of_le this),(by have:=hz.mask;exact Nat.le_succ_of_le this),(by have:=hz.w;exact Nat.le_succ_of_le this),(by have:=hz.h;exact Nat.le_succ_of_le this),(by have:=hz.paths;exact Nat.le_succ_of_le this),(fun p hp=>Nat.le_succ_of_le (hz.pts p hp)),(by have:=hz.colors;exact Nat.le_succ_of_le this),(by have:=hz.width;exact Nat.le_succ_of_le this),(by have:=hz.dash;exact Nat.le_succ_of_le this),(by have:=hz.frm;exact Nat.le_succ_of_le this),(by have:=hz.to;exact Nat.le_succ_of_le this)⟩⟩
  ·(refine sg (et t2 (et t3 (et t4 t5))) ?_;try exact⟨⟩)
   refine(ka _).x ?_
   (refine sg (et t2 (et t3 (et t4 (et t5 (et wz1 (et wz2 (et kd kd0))))))) ?_;try exact⟨⟩)
   exact⟨{ l with shape:={ l.shape with to:=[⟨0,N,2,⟨N,0,0,0⟩⟩] } },v0,v1,v2,v3,v4,v5,v6,v7,v8,pm,vw,vh,vp,vc,vd,vda,vf,sl (H.length+3) 0 0 1 7,o,by simp,by first|rfl|(rw[hget_app0];rfl),⟨_,rfl,by first|rfl|(rw[hget_app];rfl)⟩,fun J o0J oJ=>⟨⟨(h J o0J).x,(h J o0J).y,(h J o0J).ax,(h J o0J).ay,(h J o0J).sx,(h J o0J).sy,(h J o0J).turn,(h J o0J).opac,(h J o0J).remap,(h J o0J).mask⟩,⟨(hs J o0J).w,(hs J o0J).h,(hs J o0J).paths,(hs J o0J).colors,(hs J o0J).width,(hs J o0J).dash,(hs J o0J).frm,RowOf.one (oJ _ _ (by omega) (by omega) (by first|rfl|(rw[hget_app];rfl))) rfl rfl⟩⟩,⟨(by have:=hz.x;exact Nat.le_succ_of_le this),(by have:=hz.y;exact Nat.le_succ_of_le this),(by have:=hz.ax;exact Nat.le_succ_of_le this),(by have:=hz.ay;exact Nat.le_succ_of_le this),(by have:=hz.sx;exact Nat.le_succ_of_le this),(by have:=hz.sy;exact Nat.le_succ_of_le this),(by have:=hz.turn;exact Nat.le_succ_of_le this),(by have:=hz.opac;exact Nat.le_succ_of_le this),(by have:=hz.remap;exact Nat.le_succ_of_le this),(by have:=hz.mask;exact Nat.le_succ_of_le this),(by have:=hz.w;exact Nat.le_succ_of_le this),(by have:=hz.h;exact Nat.le_succ_of_le this),(by have:=hz.paths;exact Nat.le_succ_of_le this),(fun p hp=>Nat.le_succ_of_le (hz.pts p hp)),(by have:=hz.colors;exact Nat.le_succ_of_le this),(by have:=hz.width;exact Nat.le_succ_of_le this),(by have:=hz.dash;exact Nat.le_succ_of_le this),(by have:=hz.frm;exact Nat.le_succ_of_le this),(by show [_].length≤n+1;simp)⟩⟩
  ·(refine sg (et t2 (et t3 (et t4 t5))) ?_;try exact⟨⟩)
   refine(ka _).x ?_
   (refine sg (et t2 (et t3 (et t4 (et t5 (et wz1 (et wz2 (et kd kd0))))))) ?_;try exact⟨⟩)
   exact⟨l,v0,v1,v2,v3,v4,v5,v6,v7,v8,pm,vw,vh,vp,vc,vd,vda,vf,vt,o,by simp,by first|rfl|(rw[hget_app0];rfl),⟨_,rfl,by first|rfl|(rw[hget_app];rfl)⟩,fun J o0J oJ=>⟨⟨(h J o0J).x,(h J o0J).y,(h J o0J).ax,(h J o0J).ay,(h J o0J).sx,(h J o0J).sy,(h J o0J).turn,(h J o0J).opac,(h J o0J).remap,(h J o0J).mask⟩,⟨(hs J o0J).w,(hs J o0J).h,(hs J o0J).paths,(hs J o0J).colors,(hs J o0J).width,(hs J o0J).dash,(hs J o0J).frm,(hs J o0J).to⟩⟩,⟨(by have:=hz.x;exact Nat.le_succ_of_le this),(by have:=hz.y;exact Nat.le_succ_of_le this),(by have:=hz.ax;exact Nat.le_succ_of_le this),(by have:=hz.ay;exact Nat.le_succ_of_le this),(by have:=hz.sx;exact Nat.le_succ_of_le this),(by have:=hz.sy;exact Nat.le_succ_of_le this),(by have:=hz.turn;exact Nat.le_succ_of_le this),(by have:=hz.opac;exact Nat.le_succ_of_le this),(by have:=hz.remap;exact Nat.le_succ_of_le this),(by have:=hz.mask;exact Nat.le_succ_of_le this),(by have:=hz.w;exact Nat.le_succ_of_le this),(by have:=hz.h;exact Nat.le_succ_of_le this),(by have:=hz.paths;exact Nat.le_succ_of_le this),(fun p hp=>Nat.le_succ_of_le (hz.pts p hp)),(by have:=hz.colors;exact Nat.le_succ_of_le this),(by have:=hz.width;exact Nat.le_succ_of_le this),(by have:=hz.dash;exact Nat.le_succ_of_le this),(by have:=hz.frm;exact Nat.le_succ_of_le this),(by have:=hz.to;exact Nat.le_succ_of_le this)⟩⟩
 rintro T K D ⟨rfl,t2,t4,l',u0,u1,u2,u3,u4,u5,u6,u7,u8,u9,u10,u11,u12,u13,u14,u15,u16,u17,o,hKl,k0,⟨zc,hzc,hzk⟩,hl,hN⟩
 have hz1:zc.drop 50=[]:=List.drop_eq_nil_of_le (by omega)
 have hz2:50 - zc.length=0:=by omega
 have g9:∀ X,(K.set (H.length+2) X)[H.length+2]?=some X:=fun X=>List.getElem?_set_self (by omega)
 have kd2:decide (H.length+2<H.length)=false:=df (by omega)
 (refine sg (et t2 (et t4 (et k0 (et hzk (et hz1 (et hz2 (et g9 kd2))))))) ?_;try exact⟨⟩)
 refine⟨l',_,rfl,fun J o0J hJ=>?_,rfl,hN⟩
 obtain⟨h1,h2⟩:=hl J o0J fun c k h1 h2 e=>hJ c k h1 (by rw[List.getElem?_set_ne (by omega)];exact e)
 exact⟨_,_,_,_,_,_,_,_,_,_,_,_,_,_,_,_,_,_,rfl,h1,h2⟩
end Go.Proofs.YthhbglkokpablaaGreat
/- Documents: a copy that is written; the walk of DocCopies. -/
namespace Go.Proofs.YthhbglkokpablaaGreat
open Go Go.RowKit E
attribute [local irreducible] XRun XOps XCode XCal XLoop XQ SemCall
set_option linter.unusedSimpArgs false
set_option linter.unusedVariables false
theorem kyQ_refl (x:Ky):kyQ x x=true:=by simp[kyQ]
theorem ckQ_refl (x:Ck):ckQ x x=true:=by simp[ckQ]
theorem inQ_refl (x:Int):inQ x x=true:=by simp[inQ]
theorem ptQ_refl (x:Pt):ptQ x x=true:=by simp[ptQ]
theorem plQ_refl (x:PL):plQ x x=true:=by
 unfold plQ;rw[eqG_refl ptQ_refl];simp
theorem pkQ_refl (x:Pk):pkQ x x=true:=by simp[pkQ,ezQ,plQ_refl]
theorem shQ_refl (x:Sh):shQ x x=true:=by
 unfold shQ shP shK
 simp only[eqG_refl pkQ_refl,eqG_refl ckQ_refl,eqG_refl inQ_refl,eqG_refl kyQ_refl]
 simp[pntQ,c4Q]
theorem lyQ_refl (x:Ly):lyQ x x=true:=by
 unfold lyQ lyP;rw[eqG_refl (fun l=>eqG_refl kyQ_refl l),plQ_refl,shQ_refl];simp
theorem dcQ_refl (d:Dc):dcQ d d=true:=by
 unfold dcQ;rw[eqG_refl (fun l=>eqG_refl lyQ_refl l)];simp
/-- The same but for numbers in blocks from n on. -/
def Shp (n:Nat) (K0 K:AH):Prop:=K.length=K0.length∧(∀ b k,b<n→K0[b]?=some k→K[b]?=some k)∧∀ (b:Nat) (k:Blk),K0[b]?=some k→∃ cells:List Value,K[b]?=some ⟨cells,k.gen,k.rw⟩∧cells.length=k.cells.length∧(∀ (i:Nat) a l e,k.cells[i]?=some (Value.slice a l e)→cells[i]?=some (Value.slice a l e))∧∀ (i:Nat) (x:Int),k.cells[i]?=some (Value.int .i64 x)→∃ y:Int,cells[i]?=some (Value.int .i64 y)
theorem Shp.refl (n:Nat) (K:AH):Shp n K K:=⟨rfl,fun _ _ _ h=>h,fun b k h=>⟨k.cells,h,rfl,fun _ _ _ _ h=>h,fun i x h=>⟨x,h⟩⟩⟩
theorem Shp.put {n:Nat} {K0 K:AH} (h:Shp n K0 K) {b g off:Nat} {cs cells:List Value} (hn:n≤b) (hk:K0[b]?=some ⟨cs,g,true⟩) (hK:K[b]?=some ⟨cells,g,true⟩) {x:Int} (hx:cs[off]?=some (.int .i64 x)) (z:Int) :
  Shp n K0 (K.set b ⟨cells.set off (.int .i64 z),g,true⟩):=by
 have hbl:=(List.getElem?_eq_some_iff.1 hK).1
 obtain⟨cells',e1,e2,e3,e4⟩:=h.2.2 b _ hk
 rw[hK] at e1
 cases e1
 have hol:=(List.getElem?_eq_some_iff.1 hx).1
 have e2:cells.length=cs.length:=e2
 refine⟨by rw[List.length_set];exact h.1,fun b' k hb e=>by rw[List.getElem?_set_ne (by omega)];exact h.2.1 b' k hb e,fun b' k e=>?_⟩
 by_cases hb:b=b'
 ·subst hb
  rw[hk] at e;cases e
  refine⟨_,List.getElem?_set_self hbl,by rw[List.length_set];exact e2,fun i a l e hi=>?_,fun i y hi=>?_⟩
  ·by_cases ho:off=i
   ·subst ho
    have hi:cs[off]?=some (.slice a l e):=hi
    rw[hx] at hi;cases hi
   ·rw[List.getElem?_set_ne ho];exact e3 i a l e hi
  ·by_cases ho:off=i
   ·subst ho
    exact⟨z,List.getElem?_set_self (by omega)⟩
   ·rw[List.getElem?_set_ne ho];exact e4 i y hi
 ·rw[List.getElem?_set_ne hb];exact h.2.2 b' k e
/-- A row whose cells at one place are numbers, that may be written. -/
def IntAt (n:Nat) (K:AH) (v:Value) (len s j:Nat):Prop:=(∃ a e,v=.slice a len e)∧∀ i,i<len→∃ b g cs x,v=sl b 0 g len s∧n≤b∧K[b]?=some ⟨cs,g,true⟩∧cs[i*s+j]?=some (.int .i64 x)
theorem IntAt.of {α:Type} {s:Nat} {E:AH→List Value→α→Prop} {n:Nat} {K:AH} {v:Value} {l:List α} (h:Dep n K (fun J=>RowOf s E J v l)) (hw:Wr K v) (j:Nat) (hj:j<s) (hE:∀ K c x,E K c x→∃ y,c[j]?=some (.int .i64 y)):IntAt n K v l.length s j:=by
 refine⟨h.here.form,fun i hi=>?_⟩
 rcases RowOf.high h with ⟨rfl,_⟩|⟨b,g,rest,rw_,cs,hb,rfl,h2,h3,h4,h5⟩
 ·simp at hi
 ·obtain⟨c,e1,e2,e3⟩:=h5 i _ (List.getElem?_eq_getElem hi)
  obtain⟨y,hy⟩:=hE _ _ _ e3.here
  obtain⟨k,w1,w2⟩:=hw b 0 g l.length s rfl
  rw[h2] at w1;cases w1
  have w2:rw_=true:=w2
  subst w2
  have hall:∀ c∈cs,c.length=s:=RowOf.all h3 (P:=fun c x=>Dep n K (fun J=>E J c x)) h5
  refine⟨b,g,_,y,rfl,hb,h2,?_⟩
  have hf:=flatten_get j hall e1 hj
  rw[hy] at hf
  rw[List.getElem?_append_left (by exact(List.getElem?_eq_some_iff.1 hf).1)]
  exact hf
/-- The same where things have changed. -/
theorem IntAt.now {n:Nat} {K0 K:AH} {v:Value} {len s j:Nat} (h:IntAt n K0 v len s j) (hS:Shp n K0 K) {i:Nat} (hi:i<len):∃ b g cells y,v=sl b 0 g len s∧K[b]?=some ⟨cells,g,true⟩∧cells[i*s+j]?=some (.int .i64 y)∧n≤b∧∀ z,Shp n K0 (K.set b ⟨cells.set (i*s+j) (.int .i64 z),g,true⟩):=by
 obtain⟨b,g,cs,x,rfl,h1,h2,h3⟩:=h.2 i hi
 obtain⟨cells,e1,e2,e3,e4⟩:=hS.2.2 b _ h2
 obtain⟨y,hy⟩:=e4 _ _ h3
 exact⟨b,g,cells,y,rfl,e1,hy,h1,fun z=>hS.put h1 h2 e1 h3 z⟩
def PathsAt (n:Nat) (K:AH) (v:Value) (ps:List Pk):Prop:=(∃ a e,v=.slice a ps.length e)∧∀ (i:Nat) x,ps[i]?=some x→∃ b g cs rw_ pv,v=sl b 0 g ps.length 8∧K[b]?=some ⟨cs,g,rw_⟩∧cs[i*8+1+1]?=some pv∧IntAt n K pv x.p.2.length 2 1
theorem PathsAt.of {n:Nat} {K:AH} {v:Value} {ps:List Pk} (h:Dep n K (fun J=>RowOf 8 PkT J v ps)):PathsAt n K v ps:=by
 refine⟨h.here.form,fun i x hx=>?_⟩
 have hil:=(List.getElem?_eq_some_iff.1 hx).1
 rcases RowOf.high h with ⟨rfl,_⟩|⟨b,g,rest,rw_,cs,hb,rfl,h2,h3,h4,h5⟩
 ·simp at hx
 ·obtain⟨c,e1,e2,e3⟩:=h5 i x hx
  obtain⟨pv,hc,_,hw⟩:=e3.here
  have hp:Dep n K (fun J=>RowOf 2 PtE J pv x.p.2):=fun J hJ=>by
   obtain⟨pv',hc',hp,_⟩:=e3 J hJ
   rw[hc] at hc'
   simp only[List.cons.injEq] at hc'
   rw[hc'.2.2.1];exact hp.row
  have hall:∀ c∈cs,c.length=8:=RowOf.all h3 (P:=fun c x=>Dep n K (fun J=>PkT J c x)) h5
  have hf:=flatten_get 2 hall e1 (by omega)
  rw[hc] at hf
  have hf:cs.flatten[i*8+2]?=some pv:=hf
  refine⟨b,g,_,rw_,pv,rfl,h2,?_,IntAt.of hp hw 1 (by omega) fun K c x h=>?_⟩
  ·rw[List.getElem?_append_left (by have:=(List.getElem?_eq_some_iff.1 hf).1;omega)];exact hf
  ·have h:c=[.int .i64 x.1,.int .i64 x.2]:=h
   subst h;exact⟨_,rfl⟩
/-- What of a copy's layer is written. -/
structure LyA (n:Nat) (K:AH) (lv:Value) (m k:Nat) (l:Ly) (bl gl:Nat) (cells:List Value) (v0 pm vp vda:Value):Prop where
 lv:lv=sl bl 0 gl m 50
 hi:n≤bl
 blk:K[bl]?=some ⟨cells,gl,true⟩
 c4:cells[k*50+4]?=some (.int .i64 l.in_)
 c7:cells[k*50+7]?=some v0
 c17:cells[k*50+16+1]?=some pm
 c22:cells[k*50+18+4]?=some vp
 c47:cells[k*50+18+29]?=some vda
 x:IntAt n K v0 l.x.length 7 1
 m:IntAt n K pm l.mask.2.length 2 0
 p:PathsAt n K vp l.shape.paths
 d:IntAt n K vda l.shape.dash.length 1 0
theorem LyA.of {n:Nat} {K:AH} {lv:Value} {c:List Ly} (h:Dep n K (fun J=>RowOf 50 LyT J lv c)) (hw:Wr K lv) {k:Nat} {l:Ly} (hk:c[k]?=some l):∃ bl gl cells v0 pm vp vda,LyA n K lv c.length k l bl gl cells v0 pm vp vda:=by
 rcases RowOf.high h with ⟨rfl,_⟩|⟨b,g,rest,rw_,cs,hb,rfl,h2,h3,h4,h5⟩
 ·simp at hk
 ·obtain⟨c',e1,e2,e3⟩:=h5 k l hk
  obtain⟨v0,v1,v2,v3,v4,v5,v6,v7,v8,pm,vw,vh,vp,vc,vd,vda,vf,vt,hc,_,w0,wm,wda,_⟩:=e3.here
  have hd:Dep n K (fun J=>(LyV J l v0 v1 v2 v3 v4 v5 v6 v7 v8 pm∧ShV J l.shape vw vh vp vc vd vda vf vt)∧RowOf 8 PkT J vp l.shape.paths):=fun J hJ=>by
   obtain⟨v0',v1',v2',v3',v4',v5',v6',v7',v8',pm',vw',vh',vp',vc',vd',vda',vf',vt',hc',hl,_,_,_,hp⟩:=e3 J hJ
   rw[hc] at hc'
   simp only[List.cons.injEq,true_and,and_true] at hc'
   obtain⟨rfl,rfl,rfl,rfl,rfl,rfl,rfl,rfl,rfl,rfl,rfl,rfl,rfl,rfl,rfl,rfl,rfl,rfl⟩:=hc'
   exact⟨hl,hp⟩
  obtain⟨kk,w1,w2⟩:=hw b 0 g c.length 50 rfl
  rw[h2] at w1;cases w1
  have w2:rw_=true:=w2
  subst w2
  have hall:∀ c∈cs,c.length=50:=RowOf.all h3 (P:=fun c x=>Dep n K (fun J=>LyT J c x)) h5
  have hf:∀ j,j<50→(cs.flatten++rest)[k*50+j]?=c'[j]?:=fun j hj=>by
   have hf:=flatten_get j hall e1 hj
   rw[List.getElem?_append_left (by
    have:j<c'.length:=by omega
    rw[List.getElem?_eq_getElem this] at hf
    exact(List.getElem?_eq_some_iff.1 hf).1)]
   exact hf
  subst hc
  refine⟨b,g,_,v0,pm,vp,vda,rfl,hb,h2,hf 4 (by omega),hf 7 (by omega),hf 17 (by omega),hf 22 (by omega),hf 47 (by omega),
   IntAt.of (hd.map fun _ h=>h.1.1.x) w0 1 (by omega) (fun K c x h=>?_),IntAt.of (hd.map fun _ h=>h.1.1.mask.row) wm 0 (by omega) (fun K c x h=>?_),PathsAt.of (hd.map fun _ h=>h.2),IntAt.of (hd.map fun _ h=>h.1.2.dash) wda 0 (by omega) (fun K c x h=>?_)⟩
  ·have h:c=kyC x:=h
   subst h;exact⟨_,rfl⟩
  ·have h:c=[.int .i64 x.1,.int .i64 x.2]:=h
   subst h;exact⟨_,rfl⟩
  ·have h:c=[.int .i64 x]:=h
   subst h;exact⟨_,rfl⟩
theorem CoA.of {n:Nat} {K:AH} {cw:Value} {cs:List (List Ly)} (h:Dep n K (fun J=>RowOf 1 CoT J cw cs)) {i:Nat} {c:List Ly} (hi:cs[i]?=some c):∃ b g cells rw_ lv,cw=sl b 0 g cs.length 1∧K[b]?=some ⟨cells,g,rw_⟩∧cells[i]?=some lv∧Dep n K (fun J=>RowOf 50 LyT J lv c)∧Wr K lv:=by
 rcases RowOf.high h with ⟨rfl,_⟩|⟨b,g,rest,rw_,es,hb,rfl,h2,h3,h4,h5⟩
 ·simp at hi
 ·obtain⟨c',e1,e2,e3⟩:=h5 i c hi
  obtain⟨lv,hc,_,hw⟩:=e3.here
  have hp:Dep n K (fun J=>RowOf 50 LyT J lv c):=fun J hJ=>by
   obtain⟨v',hc',hp,_⟩:=e3 J hJ
   rw[hc] at hc'
   simp only[List.cons.injEq,and_true] at hc'
   rw[hc'];exact hp
  have hall:∀ c∈es,c.length=1:=RowOf.all h3 (P:=fun c x=>Dep n K (fun J=>CoT J c x)) h5
  have hf:=flatten_get 0 hall e1 (by omega)
  rw[hc,Nat.mul_one,Nat.add_zero] at hf
  have hf:es.flatten[i]?=some lv:=hf
  exact⟨b,g,_,rw_,lv,rfl,h2,by rw[List.getElem?_append_left (by exact(List.getElem?_eq_some_iff.1 hf).1)];exact hf,hp,hw⟩
end Go.Proofs.YthhbglkokpablaaGreat
/- Documents: the walks of what turns a document. -/
namespace Go.Proofs.YthhbglkokpablaaGreat
open Go Go.RowKit E
attribute [local irreducible] XRun XOps XCode XCal XLoop XQ SemCall
set_option linter.unusedSimpArgs false
set_option linter.unusedVariables false
/-- A row that doesn't hang on block q. -/
theorem row_apart {α:Type} {s:Nat} {E:AH→List Value→α→Prop} {p:Nat→Prop} {K:AH} {v:Value} {l:List α} (h:∀ J,OlP p K J→RowOf s E J v l) :
  (l=[]∧((∃ e,v=.slice (some ⟨0,0,none⟩) 0 e)∨v=.slice none 0 0)) ∨
  ∃ b g rest rw_,∃ cs:List (List Value),¬ p b∧v=sl b 0 g l.length s∧K[b]?=some ⟨cs.flatten++rest,g,rw_⟩∧cs.length=l.length∧l.length≤9223372036854775807 ∧
   ∀ (i:Nat) x,l[i]?=some x→∃ c,cs[i]?=some c∧c.length=s∧∀ J,OlP p K J→E J c x:=by
 rcases h K (OlP.refl _ _) with h0|⟨b,g,rest,rw_,cs,h1,h2,h3,h4,h5⟩
 ·exact .inl h0
 ·have hb:¬ p b:=fun hbq=>by
   have hl:=(List.getElem?_eq_some_iff.1 h2).1
   rcases h (K.set b ⟨[],g+1,false⟩) (fun c k hc e=>by rw[List.getElem?_set_ne (fun (h:b=c)=>hc (h ▸ hbq))];exact e) with ⟨_,⟨e,h6⟩|h6⟩|⟨b',g',r',w',cs',h6,h7,_⟩
   ·rw[h1] at h6;cases h6
   ·rw[h1] at h6;cases h6
   ·rw[h1] at h6
    obtain⟨rfl,rfl⟩:=sl_inj h6
    rw[List.getElem?_set_self hl] at h7
    simp at h7
  refine .inr ⟨b,g,rest,rw_,cs,hb,h1,h2,h3,h4,fun i x hx=>?_⟩
  obtain⟨c,e1,e2,_⟩:=h5 i x hx
  refine⟨c,e1,e2,fun J hJ=>?_⟩
  rcases h J hJ with ⟨h6,_⟩|⟨b',g',r',w',cs',h6,h7,h8,_,h9⟩
  ·rw[h6] at hx;simp at hx
  ·rw[h1] at h6
   obtain⟨rfl,rfl⟩:=sl_inj h6
   rw[hJ _ _ hb h2] at h7
   have h10:cs.flatten++rest=cs'.flatten++r':=by injection h7 with h7;injection h7
   have h11:=flat_inj (by rw[h3,h8]) (RowOf.all h3 h5) (RowOf.all h8 h9) h10
   subst h11
   obtain⟨c',f1,_,f3⟩:=h9 i x hx
   rw[e1] at f1
   cases f1
   exact f3
theorem asrc_row {α:Type} {s:Nat} {E:AH→List Value→α→Prop} {p:Nat→Prop} {H:AH} {v:Value} {l:List α} (h:∀ J,OlP p H J→RowOf s E J v l):∃ (cs:List (List Value)) (bs:List Nat),cs.length=l.length∧cs.flatten.length=l.length*s∧(∀ (i:Nat) x,l[i]?=some x→∃ c,cs[i]?=some c∧c.length=s∧∀ J,OlP p H J→E J c x)∧(∀ b∈bs,b<H.length)∧∀ J,Old H J→asrc J s v=some (cs.flatten,l.length,bs):=by
 rcases row_apart h with ⟨rfl,⟨e,rfl⟩|rfl⟩|⟨b,g,rest,rw_,cs,_,rfl,h2,h3,h4,h5⟩
 ·exact⟨[],[],rfl,by simp,fun i x hx=>by simp at hx,fun b hb=>by simp at hb,fun J _=>asrc_zs⟩
 ·exact⟨[],[],rfl,by simp,fun i x hx=>by simp at hx,fun b hb=>by simp at hb,fun J _=>asrc_nil⟩
 ·have hfl:=flatten_len (RowOf.all (P:=fun c x=>∀ J,OlP p H J→E J c x) h3 h5)
  rw[h3] at hfl
  by_cases hn:l.length=0
  ·have hl:l=[]:=List.eq_nil_of_length_eq_zero hn
   subst hl
   have hc:cs=[]:=List.eq_nil_of_length_eq_zero (by simpa using h3)
   subst hc
   refine⟨[],[],rfl,by simp,fun i x hx=>by simp at hx,fun b hb=>by simp at hb,fun J oJ=>?_⟩
   show asrc J s (sl b 0 g 0 s)=some ([],0,[])
   rw[asrc_sl,asy_zero]
  ·refine⟨cs,[b],h3,hfl,h5,fun b' hb'=>by rw[List.mem_singleton.1 hb'];exact(List.getElem?_eq_some_iff.1 h2).1,fun J oJ=>?_⟩
   rw[asrc_sl,oJ _ _ h2,asy_some (eq_false hn) (by rw[List.length_append,hfl];omega),List.drop_zero,← hfl,List.take_left]
/-- How great a document is, that was turned k times. -/
structure DcN (k:Nat) (d:Dc):Prop where
 n:d.comps.length≤3+k
 c:∀ c∈d.comps,c.length≤4*2 ^ k∧∀ l∈c,LyN (100+k) l
theorem app_mid {H A B L:AH} (hl:A.length=B.length) {c:Nat} (hc:H.length+A.length≤c):(H++A++L)[c]?=(H++B++L)[c]?:=by
 rw[List.getElem?_append_right (by rw[List.length_append];omega),List.getElem?_append_right (by rw[List.length_append];omega),List.length_append,List.length_append,hl]
theorem ald_el {s:Nat} {cs:List (List Value)} {i:Nat} {c:List Value} (h:∀ c∈cs,c.length=s) (hi:cs[i]?=some c) (g:Nat) (rw_:Bool) (b:Nat):ald (some true) (some s) (some ⟨cs.flatten,g,rw_⟩) b (i*s) g=some (.agg c.toArray,b):=by
 have h1:=flatten_drop h hi
 have hc:=h c (List.mem_of_getElem? hi)
 have hil:=(List.getElem?_eq_some_iff.1 hi).1
 have h2:i*s+s≤cs.flatten.length:=by
  rw[flatten_len h]
  have:(i+1)*s≤cs.length*s:=Nat.mul_le_mul_right s hil
  rw[Nat.add_mul,Nat.one_mul] at this;exact this
 simp only[ald,true_and,h2,if_true]
 rw[h1,← hc,List.take_left]
theorem pow_le4 {k:Nat} (hk:k≤4):2 ^ k≤16:=by
 have:k=0∨k=1∨k=2∨k=3∨k=4:=by omega
 rcases this with rfl|rfl|rfl|rfl|rfl <;> decide
theorem DcN.s {k:Nat} {d:Dc} (h:DcN k d) (hk:k≤4):DcS d:=
 ⟨by have:=h.n;omega,fun c hc=>⟨by have:=(h.c c hc).1;have:=pow_le4 hk;omega,fun l hl=>((h.c c hc).2 l hl).s (by omega)⟩⟩
theorem DcN.up {k:Nat} {d:Dc} (h:DcN k d):DcN (k+1) d:=
 ⟨by have:=h.n;omega,fun c hc=>⟨by have:=(h.c c hc).1;rw[Nat.pow_succ];omega,fun l hl=>((h.c c hc).2 l hl).up (by omega)⟩⟩
theorem DcB.smallN {d:Dc} (h:DcB d):DcN 0 d:=by
 refine⟨by have:=h.n;omega,fun c hc=>?_⟩
 obtain⟨i,hi⟩:=List.getElem?_of_mem hc
 obtain⟨h1,h2,h3⟩:=h.cs i c hi
 refine⟨by omega,fun l hl=>?_⟩
 obtain⟨j,hj⟩:=List.getElem?_of_mem hl
 obtain⟨ah,h4,_⟩:=h1 j l hj
 exact h4.smallN.up (by omega)
theorem DcS.m {d:Dc} (h:DcS d):DcM d:=fun c hc l hl=>((h.c c hc).2 l hl).m
/-- One comp of it another one. -/
theorem DcN.set {k:Nat} {d:Dc} (h:DcN k d) {i:Nat} {ls:List Ly} (h1:ls.length≤4*2 ^ (k+1)) (h2:∀ l∈ls,LyN (100+(k+1)) l):DcN (k+1) { d with comps:=d.comps.set i ls }:=by
 refine⟨by have:=h.n;show (d.comps.set i ls).length≤_;rw[List.length_set];omega,fun c hc=>?_⟩
 rcases List.mem_or_eq_of_mem_set hc with hc|rfl
 ·exact h.up.c c hc
 ·exact⟨h1,h2⟩
set_option maxRecDepth 100000 in
set_option maxHeartbeats 16000000 in
theorem odd_ (k:Nat) (hk:k≤3) (d:Dc) (cv:Value) (a b c N:Int) (p:Nat→Prop) (H:AH) (h:∀ J,OlP p H J→Cos J cv d.comps) (hN:DcN k d) :
  Cal Tryz.prog 22 [dcV d cv,.agg [.int .i64 a,.int .i64 b,.int .i64 c,.int .i64 N].toArray] H fun v' H' W=>W=[]∧(∃ L,H'=H++L)∧∃ d' cw,v'=dcV d' cw∧(∀ J,OlP p H J→(∀ (c:Nat) (k:Blk),H.length≤c→H'[c]?=some k→J[c]?=some k)→Cos J cw d'.comps)∧DcN (k+1) d':=by
 refine adds_of ?_
 have kd:∀ n,decide (H.length+n<H.length)=false:=fun n=>df (by omega)
 have kd0:decide (H.length<H.length)=false:=df (by omega)
 obtain⟨cs0,bs,e1,e2,e3,e4,e5⟩:=asrc_row h
 have hn:=hN.n
 have hp:=pow_le4 (show k≤4 by omega)
 refine XCal.of hm Tryz.func22 rfl (fun xs w=>Tryz.call22 xs w) Tryz.ntmps22 Tryz.results22 rfl ?_
 refine wcode_cut (fun T K D=>D=[]∧T 2=ap H.length 0 0∧T 3=ap (H.length+1) 0 0∧T 4=ap (H.length+2) 0 0∧K=H++[⟨[.int .i64 d.in_,.int .i64 d.out,cv],0,true⟩,⟨[.int .i64 a,.int .i64 b,.int .i64 c,.int .i64 N],0,true⟩,⟨[.int .i64 0,.int .i64 0,.slice none 0 0],0,true⟩]) ?_ ?_
 ·(refine sg (et kd kd0) ?_;try exact⟨⟩)
 rintro T K D ⟨rfl,t2,t3,t4,rfl⟩
 refine wcode_cut (fun T K D=>D=[]∧T 2=ap H.length 0 0∧T 3=ap (H.length+1) 0 0∧T 4=ap (H.length+2) 0 0∧∃ g,K=H++[⟨[.int .i64 d.in_,.int .i64 d.out,sl (H.length+3) 0 g d.comps.length 1],0,true⟩,⟨[.int .i64 a,.int .i64 b,.int .i64 c,.int .i64 N],0,true⟩,⟨[.int .i64 0,.int .i64 0,.slice none 0 0],0,true⟩,⟨cs0.flatten,g,true⟩]) ?_ ?_
 ·obtain⟨va,ve,hv⟩:=(h H (OlP.refl _ _)).form
  have nb:∀ k,H.length+k∉bs:=fun k hb=>by have:=e4 _ hb;omega
  by_cases h0:d.comps.length=0
  ·have hc0:cs0.flatten=[]:=List.eq_nil_of_length_eq_zero (by rw[e2,h0])
   have e5':∀ L,asrc (H++L) 1 cv=some ([],0,bs):=fun L=>by rw[e5 _ (Old.app' _ _),hc0,h0]
   (refine sg (et t2 (et t3 (et t4 (et e5' (et kd (et kd0 Nat.zero_mul)))))) ?_;try exact⟨⟩)
   exact⟨0,by rw[h0,hc0]⟩
  ·have e5':∀ L,asrc (H++L) 1 cv=some (cs0.flatten,d.comps.length,bs):=fun L=>e5 _ (Old.app' _ _)
   have hp3:d.comps.length*24 - 140737488355328=0:=Nat.sub_eq_zero_of_le (Nat.le_trans (Nat.mul_le_mul_right 24 (show d.comps.length≤1000 by omega)) (by decide))
   have hp4:d.comps.length - 140737488355328=0:=Nat.sub_eq_zero_of_le (Nat.le_trans (show d.comps.length≤1000 by omega) (by decide))
   (refine sg (et t2 (et t3 (et t4 (et e5' (et kd (et kd0 (et Nat.zero_mul (et Nat.zero_add (et (eq_false h0) (et hp3 hp4)))))))))) ?_;try exact⟨⟩)
   exact⟨1,rfl⟩
 clear t2 t3 t4
 rintro T K D ⟨rfl,t2,t3,t4,g,rfl⟩
 have o:∀ L,Old H (H++L):=fun L=>Old.app' H L
 have hmod:(a.tmod 9==8)=true∨(a.tmod 9==8)=false:=by cases (a.tmod 9==8) <;> simp
 have hcp:∀ J:AH,OlP p H J→J[H.length+3]?=some ⟨cs0.flatten,g,true⟩→Cos J (sl (H.length+3) 0 g d.comps.length 1) d.comps:=fun J oJ hJ=>
  .inr ⟨H.length+3,g,[],true,cs0,rfl,by rw[List.append_nil];exact hJ,e1,by omega,fun i x hx=>by obtain⟨c,g1,g2,g3⟩:=e3 i x hx;exact⟨c,g1,g2,g3 J oJ⟩⟩
 by_cases hbr:(a.tmod 9==8)=true∨d.comps.length=0
 ·obtain⟨w,hw,ka⟩:=kat_ (IntKind.i64.wrap (a.tdiv 9)) 4 (by omega) (by omega)
  have ka:∀ H,SemCall Tryz.prog 46 [.int .i64 (IntKind.i64.wrap (a.tdiv 9)),.int .i64 4] H (.int .i64 (w:Int)) H []:=ka
  have hl0:(a.tmod 9==8)=false→((d.comps.length:Int)==0)=true:=fun e=>by
   rcases hbr with hb|hb
   ·rw[hb] at e;cases e
   ·exact bt (by omega)
  have hcase:w=0∨w=1∨w=2∨w=3:=by omega
  have hp5:(d.comps.length+1)*24 - 140737488355328=0:=Nat.sub_eq_zero_of_le (Nat.le_trans (Nat.mul_le_mul_right 24 (show d.comps.length+1≤1001 by omega)) (by decide))
  have hp6:d.comps.length+1 - 140737488355328=0:=Nat.sub_eq_zero_of_le (Nat.le_trans (show d.comps.length+1≤1001 by omega) (by decide))
  have fin:∀ (x1 x2:Int),DcN (k+1) ⟨x1,x2,d.comps⟩:=fun x1 x2=>⟨hN.up.n,hN.up.c⟩
  rcases hmod with hm8|hm8
  case' inr=>have hl0:=hl0 hm8
  case' inl=>have hl0:=True.intro
  all_goals
   rcases hcase with rfl|rfl|rfl|rfl
   ·(refine sg (et t2 (et t3 (et t4 (et hm8 hl0)))) ?_;try exact⟨⟩)
    refine(ka _).x ?_
    (refine sg (et t2 (et t3 (et t4 (et kd kd0)))) ?_;try exact⟨⟩)
    exact⟨⟨N,d.out,d.comps⟩,_,rfl,fun J oJ hJ=>hcp J oJ (hJ _ _ (by omega) (by first|rfl|(rw[hget_app];rfl))),fin _ _⟩
   ·(refine sg (et t2 (et t3 (et t4 (et hm8 hl0)))) ?_;try exact⟨⟩)
    refine(ka _).x ?_
    (refine sg (et t2 (et t3 (et t4 (et kd kd0)))) ?_;try exact⟨⟩)
    exact⟨⟨d.in_,N,d.comps⟩,_,rfl,fun J oJ hJ=>hcp J oJ (hJ _ _ (by omega) (by first|rfl|(rw[hget_app];rfl))),fin _ _⟩
   ·(refine sg (et t2 (et t3 (et t4 (et hm8 hl0)))) ?_;try exact⟨⟩)
    refine(ka _).x ?_
    (refine sg (et t2 (et t3 (et t4 (et kd (et kd0 (et e2 (et Nat.mul_one (et hp5 hp6)))))))) ?_;try exact⟨⟩)
    refine⟨⟨d.in_,d.out,d.comps++[[]]⟩,_,rfl,?_,?_⟩
    ·intro J oJ hJ
     show Cos J (sl (H.length+3) 0 (g+1) (d.comps.length+1) 1) (d.comps++[[]])
     have:(d.comps++[[]]).length=d.comps.length+1:=by rw[List.length_append];rfl
     rw[← this]
     refine .inr ⟨H.length+3,g+1,[],true,cs0++[[.slice none 0 0]],rfl,?_,?_,by omega,fun i x hx=>?_⟩
     ·rw[List.append_nil,List.flatten_append,List.flatten_singleton];exact hJ _ _ (by omega) (by first|rfl|(rw[hget_app];rfl))
     ·rw[List.length_append,List.length_append,e1];rfl
     ·by_cases hi:i<d.comps.length
      ·rw[List.getElem?_append_left hi] at hx
       rw[List.getElem?_append_left (by omega)]
       obtain⟨c,g1,g2,g3⟩:=e3 i x hx
       exact⟨c,g1,g2,g3 J oJ⟩
      ·have hi2:i=d.comps.length:=by have hh:=(List.getElem?_eq_some_iff.1 hx).1;rw[List.length_append] at hh;simp at hh;omega
       subst hi2
       rw[List.getElem?_append_right (by omega),Nat.sub_self] at hx
       simp at hx;subst hx
       exact⟨_,by rw[List.getElem?_append_right (by omega),e1,Nat.sub_self];rfl,rfl,_,rfl,RowOf.none⟩
    ·refine⟨by show (d.comps++[[]]).length≤_;rw[List.length_append];simp;omega,fun x hx=>?_⟩
     rcases List.mem_append.1 hx with hx|hx
     ·exact hN.up.c x hx
     ·rw[List.mem_singleton.1 hx];exact⟨by simp,fun l hl=>by cases hl⟩
   ·(refine sg (et t2 (et t3 (et t4 (et hm8 hl0)))) ?_;try exact⟨⟩)
    refine(ka _).x ?_
    (refine sg (et t2 (et t3 (et t4 (et kd kd0)))) ?_;try exact⟨⟩)
    exact⟨⟨d.in_,d.out,[]⟩,_,rfl,fun J _ _=>RowOf.none,⟨by show [].length≤_;simp,fun x hx=>by cases hx⟩⟩
 have hm8:(a.tmod 9==8)=false:=by
  rcases hmod with h|h
  ·exact absurd (.inl h) hbr
  ·exact h
 have h0:¬ d.comps.length=0:=fun e=>hbr (.inr e)
 have hl0:((d.comps.length:Int)==0)=false:=bf (by omega)
 obtain⟨ic,hic,kc⟩:=kat_ b d.comps.length (by omega) (by omega)
 obtain⟨x,hx⟩:∃ x,d.comps[ic]?=some x:=⟨_,List.getElem?_eq_getElem hic⟩
 obtain⟨cc,hcc,hcl,hcx⟩:=e3 ic x hx
 obtain⟨lv,rfl,_⟩:=hcx H (OlP.refl _ _)
 have hlv:∀ J,OlP p H J→Lys J lv x:=fun J oJ=>by
  obtain⟨lv',he,hr⟩:=hcx J oJ
  simp only[List.cons.injEq,and_true] at he
  rw[he];exact hr
 have hxb:=hN.c x (List.mem_of_getElem? hx)
 obtain⟨cs1,bs1,f1,f2,f3,f4,f5⟩:=asrc_row hlv
 have hall0:∀ c∈cs0,c.length=1:=RowOf.all (P:=fun c x=>∀ J,OlP p H J→CoE J c x) e1 e3
 have hall1:∀ c∈cs1,c.length=50:=RowOf.all (P:=fun c x=>∀ J,OlP p H J→LyE J c x) f1 f3
 have hg0:cs0.flatten[ic]?=some lv:=by
  have:=flatten_get (s:=1) 0 hall0 hcc (by omega)
  rw[Nat.mul_one,Nat.add_zero] at this;exact this
 have q0:(0:Int)≤(ic:Int):=by omega
 have q1:(ic:Int)<(d.comps.length:Int):=by omega
 by_cases hq:x.length=0
 ·have hc0:cs1.flatten=[]:=List.eq_nil_of_length_eq_zero (by rw[f2,hq])
  have f5':∀ L,asrc (H++L) 50 lv=some ([],0,bs1):=fun L=>by rw[f5 _ (Old.app' _ _),hc0,hq]
  (refine sg (et t2 (et t3 (et t4 (et hm8 hl0)))) ?_;try exact⟨⟩)
  refine(kc _).x ?_
  (refine sg (et t2 (et t3 (et t4 (et kd (et kd0 (et q0 (et q1 (et Int.toNat_natCast (et Nat.zero_add (et Nat.zero_mul (et Nat.mul_one (et Nat.add_zero (et hg0 f5'))))))))))))) ?_;try exact⟨⟩)
  exact⟨d,_,rfl,fun J oJ hJ=>hcp J oJ (hJ _ _ (by omega) (by first|rfl|(rw[hget_app];rfl))),hN.up⟩
 obtain⟨kk,hkk,kc2⟩:=kat_ c x.length (by omega) (by omega)
 obtain⟨w3,hw3,kc3⟩:=kat_ a 23 (by omega) (by omega)
 have kc3:∀ H,SemCall Tryz.prog 46 [.int .i64 a,.int .i64 23] H (.int .i64 (w3:Int)) H []:=kc3
 obtain⟨l,hl⟩:∃ l,x[kk]?=some l:=⟨_,List.getElem?_eq_getElem hkk⟩
 obtain⟨lc,hlc,hlcl,hlx⟩:=f3 kk l hl
 obtain⟨v0,v1,v2,v3,v4,v5,v6,v7,v8,pm,vw,vh,vp,vc,vd,vda,vf,vt,rfl,_,_⟩:=hlx H (OlP.refl _ _)
 have hLS:∀ J,OlP p H J→LyV J l v0 v1 v2 v3 v4 v5 v6 v7 v8 pm∧ShV J l.shape vw vh vp vc vd vda vf vt:=fun J oJ=>by
  obtain⟨v0',v1',v2',v3',v4',v5',v6',v7',v8',pm',vw',vh',vp',vc',vd',vda',vf',vt',hc',h1,h2⟩:=hlx J oJ
  simp only[List.cons.injEq,true_and,and_true] at hc'
  obtain⟨rfl,rfl,rfl,rfl,rfl,rfl,rfl,rfl,rfl,rfl,rfl,rfl,rfl,rfl,rfl,rfl,rfl,rfl⟩:=hc'
  exact⟨h1,h2⟩
 have f5':∀ L,asrc (H++L) 50 lv=some (cs1.flatten,x.length,bs1):=fun L=>f5 _ (Old.app' _ _)
 have hp3:x.length*608 - 140737488355328=0:=Nat.sub_eq_zero_of_le (Nat.le_trans (Nat.mul_le_mul_right 608 (show x.length≤1000 by omega)) (by decide))
 have hp4:x.length - 140737488355328=0:=Nat.sub_eq_zero_of_le (Nat.le_trans (show x.length≤1000 by omega) (by decide))
 have hp5:(x.length+x.length)*608 - 140737488355328=0:=Nat.sub_eq_zero_of_le (Nat.le_trans (Nat.mul_le_mul_right 608 (show x.length+x.length≤2000 by omega)) (by decide))
 have hp6:x.length+x.length - 140737488355328=0:=Nat.sub_eq_zero_of_le (Nat.le_trans (show x.length+x.length≤2000 by omega) (by decide))
 have p0:(0:Int)≤(kk:Int):=by omega
 have p1:(kk:Int)<(x.length:Int):=by omega
 have hel:=fun g rw_ b=>ald_el hall1 hlc g rw_ b
 have kdk:∀ n,decide (H.length+n<H.length)=false:=kd
 (refine sg (et t2 (et t3 (et t4 (et hm8 hl0)))) ?_;try exact⟨⟩)
 refine(kc _).x ?_
 (refine sg (et t2 (et t3 (et t4 (et kd (et kd0 (et q0 (et q1 (et Int.toNat_natCast (et Nat.zero_add (et Nat.zero_mul (et Nat.mul_one (et Nat.add_zero (et hg0 (et f5' (et (eq_false hq) (et hp3 (et hp4 (bf (show ¬ ((x.length:Nat):Int)=0 by omega))))))))))))))))))) ?_;try exact⟨⟩)
 refine(kc2 _).x ?_
 (refine sg (et t2 (et t3 (et t4 (et kd kd0)))) ?_;try exact⟨⟩)
 refine drawnU [(0,7),(1,7)] (by decide +kernel) ?_
 (refine sg (et t2 (et t3 (et t4 (et kd (et kd0 (et p0 (et p1 (et Int.toNat_natCast (et Nat.zero_add hel))))))))) ?_;try exact⟨⟩)
 have hO5:=o [⟨[.int .i64 d.in_,.int .i64 d.out,sl (H.length+3) 0 g d.comps.length 1],0,true⟩,⟨[.int .i64 a,.int .i64 b,.int .i64 c,.int .i64 N],0,true⟩,⟨[.int .i64 0,.int .i64 0,.slice none 0 0],0,true⟩,⟨cs0.flatten,g,true⟩,⟨cs1.flatten,1,true⟩]
 refine(oddlayer_ (100+k) l v0 v1 v2 v3 v4 v5 v6 v7 v8 pm vw vh vp vc vd vda vf vt a b c N p H _ hO5 (fun J oJ=>(hLS J oJ).1) (fun J oJ=>(hLS J oJ).2) (hxb.2 l (List.mem_of_getElem? hl)) (by omega)).x ?_
 rintro v H1 W1 ⟨rfl,⟨L,rfl⟩,l',cs',rfl,hJ,hcs',hN'⟩
 have hls':∀ y∈x.set kk l',LyN (100+(k+1)) y:=fun y hy=>by
  rcases List.mem_or_eq_of_mem_set hy with hy|rfl
  ·exact(hxb.2 y hy).up (by omega)
  ·exact hN'
 have hall2:∀ c∈cs1.set kk cs',c.length=50:=fun c hc=>by
  rcases List.mem_or_eq_of_mem_set hc with hc|rfl
  ·exact hall1 c hc
  ·exact hcs'
 have hsp:splice cs1.flatten (kk*50) cs'=(cs1.set kk cs').flatten:=by
  have:=flatten_splice (s:=50) (cs:=cs1) (i:=kk) 0 cs' hall1 hlc (by omega)
  rw[Nat.add_zero] at this
  rw[this,splice_def,List.take_zero,List.nil_append,List.drop_eq_nil_of_le (by rw[hcs'];simp),List.append_nil]
 have hfl2:(cs1.set kk cs').flatten.length=x.length*50:=by rw[flatten_len hall2,List.length_set,f1]
 have hast:∀ (J:AH) b',ast J (some ⟨cs1.flatten,1,true⟩) (some cs') (some 50) b' (kk*50) 1=some (J.set b' ⟨(cs1.set kk cs').flatten,1,true⟩,b'):=fun J b'=>by
  rw[ast_some (s:=50) hcs' (by rw[f2];have:=Nat.mul_le_mul_right 50 hkk;omega),hsp]
 have hast0:∀ (J:AH) v b',ast J (some ⟨cs0.flatten,g,true⟩) (some [v]) (some 1) b' ic g=some (J.set b' ⟨(cs0.set ic [v]).flatten,g,true⟩,b'):=fun J v b'=>by
  have:=flatten_splice (s:=1) (cs:=cs0) (i:=ic) 0 [v] hall0 hcc (by simp)
  rw[Nat.mul_one,Nat.add_zero] at this
  rw[ast_some (s:=1) rfl (by rw[e2];omega),this,splice_def]
  rfl
 have row:∀ (J:AH) (gl:Nat) (ls':List Ly) (ds:List (List Value)),OlP p H J→J[H.length+3]?=some ⟨(cs0.set ic [sl (H.length+4) 0 gl ls'.length 50]).flatten,g,true⟩→RowOf 50 LyE J (sl (H.length+4) 0 gl ls'.length 50) ls'→Cos J (sl (H.length+3) 0 g d.comps.length 1) (d.comps.set ic ls'):=fun J gl ls' ds oJ hb hr=>by
  refine .inr ⟨H.length+3,g,[],true,cs0.set ic [sl (H.length+4) 0 gl ls'.length 50],by rw[List.length_set],by rw[List.append_nil];exact hb,by rw[List.length_set,List.length_set,e1],by rw[List.length_set];omega,fun i y hy=>?_⟩
  by_cases hi:ic=i
  ·subst hi
   rw[List.getElem?_set_self (by omega)] at hy
   cases hy
   exact⟨_,List.getElem?_set_self (by omega),rfl,_,rfl,hr⟩
  ·rw[List.getElem?_set_ne hi] at hy
   obtain⟨c,g1,g2,g3⟩:=e3 i y hy
   exact⟨c,by rw[List.getElem?_set_ne hi];exact g1,g2,g3 J oJ⟩
 have one:∀ (J:AH),OlP p H J→LyE J cs' l'→∀ (i:Nat) y,(x.set kk l')[i]?=some y→∃ c,(cs1.set kk cs')[i]?=some c∧c.length=50∧LyE J c y:=fun J oJ hE i y hy=>by
  by_cases hi:kk=i
  ·subst hi
   rw[List.getElem?_set_self (by omega)] at hy
   cases hy
   exact⟨_,List.getElem?_set_self (by omega),hcs',hE⟩
  ·rw[List.getElem?_set_ne hi] at hy
   obtain⟨c,g1,g2,g3⟩:=f3 i y hy
   exact⟨c,by rw[List.getElem?_set_ne hi];exact g1,g2,g3 J oJ⟩
 simp only[go_sem,Nat.reduceEqDiff,Nat.reduceAdd,Nat.reduceSub,Nat.reduceMul,Nat.reduceLT,Nat.reduceLeDiff,Int.reducePow,Int.reduceBEq,Int.reduceBNe,Int.reduceDiv,Int.reduceMod,Int.reduceEq,Int.reduceLT,Int.reduceLE,Int.reduceAdd,Int.reduceSub,Int.reduceMul,Int.reduceNeg,Int.reduceToNat,Int.reduceTDiv,Int.reduceTMod,↓reduceIte,t2,t3,t4,kd,kd0,p0,p1,Int.toNat_natCast,Nat.zero_add,List.append_assoc,hast]
 refine(kc3 _).x ?_
 have hE:∀ (B:AH),B.length=5→∀ J,OlP p H J→(∀ (c:Nat) (k:Blk),H.length≤c→(H++(B++L))[c]?=some k→J[c]?=some k)→LyE J cs' l':=fun B hB J oJ hJJ=>by
  refine hJ J oJ fun c k h1 h2=>hJJ c k (by simp at h1;omega) ?_
  rw[← List.append_assoc,← h2]
  exact app_mid (by rw[hB];rfl) (by rw[hB];simpa using h1)
 by_cases hw22:w3=22
 ·subst hw22
  have htk:(cs1.set kk cs').flatten.take (x.length*50)=(cs1.set kk cs').flatten:=List.take_of_length_le (by omega)
  have hxl:(x.set kk l'++x.set kk l').length=x.length+x.length:=by rw[List.length_append,List.length_set]
  simp only[go_sem,Nat.reduceEqDiff,Nat.reduceAdd,Nat.reduceSub,Nat.reduceMul,Nat.reduceLT,Nat.reduceLeDiff,Int.reducePow,Int.reduceBEq,Int.reduceBNe,Int.reduceDiv,Int.reduceMod,Int.reduceEq,Int.reduceLT,Int.reduceLE,Int.reduceAdd,Int.reduceSub,Int.reduceMul,Int.reduceNeg,Int.reduceToNat,Int.reduceTDiv,Int.reduceTMod,↓reduceIte,t2,t3,t4,kd,kd0,eq_false hq,hfl2,Nat.zero_add,List.drop_zero,Nat.sub_self,htk,hp5,hp6,q0,q1,Int.toNat_natCast,Nat.mul_one,Nat.add_zero,hast0,show ((((22:Nat):Int))==22)=true from rfl]
  have hrow:=fun J=>row J 2 (x.set kk l'++x.set kk l') []
  simp only[hxl] at hrow
  refine⟨⟨d.in_,d.out,d.comps.set ic (x.set kk l'++x.set kk l')⟩,_,rfl,fun J oJ hJJ=>hrow J oJ (hJJ _ _ (by omega) (by first|rfl|(rw[hget_app];rfl))) ?_,hN.set ?_ ?_⟩
  ·have hone:=one J oJ (hE [⟨[.int .i64 d.in_,.int .i64 d.out,sl (H.length+3) 0 g d.comps.length 1],0,true⟩,⟨[.int .i64 a,.int .i64 b,.int .i64 c,.int .i64 N],0,true⟩,⟨[.int .i64 d.in_,.int .i64 d.out,sl (H.length+3) 0 g d.comps.length 1],0,true⟩,⟨(cs0.set ic [sl (H.length+4) 0 2 (x.length+x.length) 50]).flatten,g,true⟩,⟨(cs1.set kk cs').flatten++(cs1.set kk cs').flatten,2,true⟩] rfl J oJ hJJ)
   refine .inr ⟨H.length+4,2,[],true,cs1.set kk cs'++cs1.set kk cs',by rw[hxl],by rw[List.append_nil,List.flatten_append];exact hJJ _ _ (by omega) (by first|rfl|(rw[hget_app];rfl)),by rw[hxl,List.length_append,List.length_set,f1],by omega,fun i y hy=>?_⟩
   by_cases hi:i<x.length
   ·rw[List.getElem?_append_left (by rw[List.length_set];exact hi)] at hy
    rw[List.getElem?_append_left (by rw[List.length_set,f1];exact hi)]
    exact hone i y hy
   ·rw[List.getElem?_append_right (by rw[List.length_set];omega),List.length_set] at hy
    rw[List.getElem?_append_right (by rw[List.length_set,f1];omega),List.length_set,f1]
    exact hone _ y hy
  ·rw[hxl,Nat.pow_succ];omega
  ·intro y hy
   rcases List.mem_append.1 hy with hy|hy <;> exact hls' y hy
 ·(refine sg (et t2 (et t3 (et t4 (et kd (et kd0 (et q0 (et q1 (et Int.toNat_natCast (et Nat.zero_add (et Nat.mul_one (et Nat.add_zero (et hast0 (bf (show ¬ (w3:Int)=22 by omega)))))))))))))) ?_;try exact⟨⟩)
  have hxl:(x.set kk l').length=x.length:=List.length_set ..
  have hrow:=fun J=>row J 1 (x.set kk l') []
  simp only[hxl] at hrow
  refine⟨⟨d.in_,d.out,d.comps.set ic (x.set kk l')⟩,_,rfl,fun J oJ hJJ=>hrow J oJ (hJJ _ _ (by omega) (by first|rfl|(rw[hget_app];rfl))) ?_,hN.set ?_ ?_⟩
  ·have hone:=one J oJ (hE [⟨[.int .i64 d.in_,.int .i64 d.out,sl (H.length+3) 0 g d.comps.length 1],0,true⟩,⟨[.int .i64 a,.int .i64 b,.int .i64 c,.int .i64 N],0,true⟩,⟨[.int .i64 d.in_,.int .i64 d.out,sl (H.length+3) 0 g d.comps.length 1],0,true⟩,⟨(cs0.set ic [sl (H.length+4) 0 1 x.length 50]).flatten,g,true⟩,⟨(cs1.set kk cs').flatten,1,true⟩] rfl J oJ hJJ)
   exact .inr ⟨H.length+4,1,[],true,cs1.set kk cs',by rw[hxl],by rw[List.append_nil];exact hJJ _ _ (by omega) (by first|rfl|(rw[hget_app];rfl)),by rw[hxl,List.length_set,f1],by omega,hone⟩
  ·rw[hxl,Nat.pow_succ];omega
  ·exact hls'
end Go.Proofs.YthhbglkokpablaaGreat
/- Documents: the walks of Odd, of same. -/
namespace Go.Proofs.YthhbglkokpablaaGreat
open Go Go.RowKit E
attribute [local irreducible] XRun XOps XCode XCal XLoop XQ SemCall
set_option linter.unusedSimpArgs false
set_option linter.unusedVariables false
structure Tn where
 what:Int
 comp:Int
 lay:Int
 n:Int
abbrev tnC (t:Tn):List Value:=[.int .i64 t.what,.int .i64 t.comp,.int .i64 t.lay,.int .i64 t.n]
def TnE (_:AH) (c:List Value) (t:Tn):Prop:=c=tnC t
abbrev Tns (K:AH) (v:Value) (l:List Tn):Prop:=RowOf 4 TnE K v l
theorem DcN.four {i:Nat} {d:Dc} (h:DcN i d) (hi:i≤4):DcN 4 d:=by
 have:i=0∨i=1∨i=2∨i=3∨i=4:=by omega
 rcases this with rfl|rfl|rfl|rfl|rfl
 ·exact h.up.up.up.up
 ·exact h.up.up.up
 ·exact h.up.up
 ·exact h.up
 ·exact h
set_option maxHeartbeats 8000000 in
theorem Odd_ (d:Dc) (cv tv:Value) (ts:List Tn) (p0:Nat→Prop) (H:AH) (h:∀ J,OlP p0 H J→Cos J cv d.comps) (hN:DcN 0 d) (ht:Tns H tv ts) :
  Cal Tryz.prog 11 [dcV d cv,tv] H fun v' H' W=>W=[]∧(∃ L,H'=H++L)∧∃ d' cw,v'=dcV d' cw∧(∀ J,OlP p0 H J→(∀ (c:Nat) (k:Blk),H.length≤c→H'[c]?=some k→J[c]?=some k)→Cos J cw d'.comps)∧DcN 4 d':=by
 refine adds_of ?_
 have kd:∀ n,decide (H.length+n<H.length)=false:=fun n=>df (by omega)
 have kd0:decide (H.length<H.length)=false:=df (by omega)
 have htl:=ht.len
 obtain⟨ta,te,htf⟩:=ht.form
 subst htf
 obtain⟨p,hp⟩:∃ p:Nat→Prop,p=fun c=>(p0 c∧c<H.length)∨c=H.length∨c=H.length+1:=⟨_,rfl⟩
 have hpn:∀ c,(c<H.length∧¬ p0 c)∨H.length+2≤c→¬ p c:=fun c hc hh=>by
  rw[hp] at hh
  rcases hh with ⟨h1,h2⟩|hh|hh
  ·rcases hc with hc|hc
   ·exact hc.2 h1
   ·omega
  ·omega
  ·omega
 have hpy:∀ c,¬ p c→c≠H.length∧c≠H.length+1:=fun c hc=>⟨fun e=>hc (by rw[hp];exact .inr (.inl e)),fun e=>hc (by rw[hp];exact .inr (.inr e))⟩
 refine XCal.of hm Tryz.func11 rfl (fun xs w=>Tryz.call11 xs w) Tryz.ntmps11 Tryz.results11 rfl ?_
 (refine sg (et kd kd0) ?_;try exact⟨⟩)
 refine keep (fun r T K D=>D=[]∧∃ (i:Nat) (d':Dc) (cw:Value),i+r=4∧Old H K∧H.length+2≤K.length∧K[H.length]?=some ⟨[.int .i64 d'.in_,.int .i64 d'.out,cw],0,true⟩∧K[H.length+1]?=some ⟨[.int .i64 0,.int .i64 0,.slice none 0 0],0,true⟩∧(∀ J,OlP p K J→Cos J cw d'.comps)∧DcN i d'∧T 1=.slice ta ts.length te∧T 2=ap H.length 0 0∧T 4=ap (H.length+1) 0 0∧T 5=.int .i64 (i:Int)) 4
  ⟨rfl,0,d,cv,by omega,Old.app' _ _,by simp,by rw[hget_app0];rfl,by rw[hget_app];rfl,fun J oJ=>h J (fun c k hc e=>oJ c k (hpn c (.inl ⟨(List.getElem?_eq_some_iff.1 e).1,hc⟩)) (old_get e _)),hN,by(refine sg trivial ?_;try exact⟨⟩),by(refine sg trivial ?_;try exact⟨⟩),by(refine sg trivial ?_;try exact⟨⟩),by(refine sg trivial ?_;try exact⟨⟩) <;> rfl⟩ ?_
 rintro r T K D ⟨rfl,i,d',cw,hir,o,hKl,g0,g1,hC,hD,t1,t2,t4,t5⟩
 have kdK:∀ n,decide (K.length+n<H.length)=false:=fun n=>df (by omega)
 have kdK0:decide (K.length<H.length)=false:=df (by omega)
 by_cases hi:i<ts.length∧i<4
 ·obtain⟨hi1,hi4⟩:=hi
  obtain⟨t,hx⟩:∃ t,ts[i]?=some t:=⟨_,List.getElem?_eq_getElem hi1⟩
  obtain⟨b,g,cells,rw_,c,hve,hb,hc,hcl,hle,hld,hgt⟩:=ht.at hx
  have hc:c=tnC t:=hc
  subst hc
  have kb:=o _ _ hb
  rw[hve] at t1
  have q0:(0:Int)≤(i:Int):=by omega
  have q1:(i:Int)<(ts.length:Int):=by omega
  have q2:(i:Int)<4:=by omega
  have w1:IntKind.i64.wrap ((i:Int)+1)=((i+1:Nat):Int):=by rw[wi (by omega) (by omega)];rfl
  (refine sg (et t1 (et t2 (et t4 (et t5 (et (dt q1) (dt q2)))))) ?_;try exact⟨⟩)
  first|refine drawnF ?_ (by decide +kernel)|refine drawnU [] (by decide +kernel) ?_
  (refine sg (et t1 (et t2 (et t4 (et t5 (et q0 (et q1 (et Int.toNat_natCast (et Nat.zero_add (et g0 (et kb hld)))))))))) ?_;try exact⟨⟩)
  refine(odd_ i (by omega) d' cw t.what t.comp t.lay t.n p K hC hD).x ?_
  rintro v H1 W1 ⟨rfl,⟨L,rfl⟩,d2,cw2,rfl,hC2,hD2⟩
  have gK:=old_get g0 L
  have hlt:H.length<(K++L).length:=by rw[List.length_append];omega
  have hO2:∀ X,Old H ((K++L).set H.length X):=fun X c k e=>by
   have:=(List.getElem?_eq_some_iff.1 e).1
   exact Olx.set0 _ _ _ c k (by omega) (old_get (o _ _ e) L)
  obtain⟨wa,we,hwf⟩:=(hC2 (K++L) (OlP.old (Old.app' K L)) (fun c k _ e=>e)).form
  subst hwf
  (refine sg (et t1 (et t2 (et t4 (et t5 (et gK (et kd0 w1)))))) ?_;try exact⟨⟩)
  refine⟨r - 1,by omega,i+1,d2,_,by omega,hO2 _,by omega,List.getElem?_set_self hlt,Olx.set0 _ _ _ _ _ (by omega) (old_get g1 L),fun J oJ=>?_,hD2,hve.symm,rfl⟩
  refine hC2 J (fun c k hc e=>oJ c k hc (Olx.set0 _ _ _ _ _ (hpy c hc).1 (old_get e L))) fun c k hc e=>oJ c k (hpn c (.inr (by omega))) (Olx.set0 _ _ _ _ _ (by omega) e)
 ·have fin:∀ X J,OlP p0 H J→(∀ (c:Nat) (k:Blk),H.length≤c→(K.set (H.length+1) X)[c]?=some k→J[c]?=some k)→Cos J cw d'.comps:=fun X J oJ hJ=>hC J fun c k hc e=>by
   by_cases hcl:c<H.length
   ·obtain⟨k',hk'⟩:∃ k',H[c]?=some k':=⟨_,List.getElem?_eq_getElem hcl⟩
    have:=o c k' hk'
    rw[e] at this;cases this
    exact oJ c k (fun hh=>hc (by rw[hp];exact .inl ⟨hh,hcl⟩)) hk'
   ·exact hJ c k (by omega) (by rw[List.getElem?_set_ne (fun h=>(hpy c hc).2 h.symm)];exact e)
  have hD4:=hD.four (by omega)
  have g9:∀ X,(K.set (H.length+1) X)[H.length+1]?=some X:=fun X=>List.getElem?_set_self (by omega)
  have kd1:decide (H.length+1<H.length)=false:=df (by omega)
  by_cases h1:i<ts.length
  ·(refine sg (et t1 (et t2 (et t4 (et t5 (et (dt (show (i:Int)<(ts.length:Int) by omega)) (et (df (show ¬ (i:Int)<4 by omega)) (et g0 (et g1 (et g9 kd1))))))))) ?_;try exact⟨⟩)
   exact⟨d',cw,rfl,fin _,hD4⟩
  ·(refine sg (et t1 (et t2 (et t4 (et t5 (et (df (show ¬ (i:Int)<(ts.length:Int) by omega)) (et g0 (et g1 (et g9 kd1)))))))) ?_;try exact⟨⟩)
   exact⟨d',cw,rfl,fin _,hD4⟩
end Go.Proofs.YthhbglkokpablaaGreat
