/- Merged texts: LayG LayH LTell RdBo. -/
import Derived.Test.YthhbglkokpablaaGreatZI
import Derived.Test.YthhbglkokpablaaGreatRows
/- Comps laid open: the walk of the law's open: a document of a tape, some layers of comps plain. -/
namespace Go.Proofs.YthhbglkokpablaaGreat
open Go Go.RowKit E
attribute [local irreducible] XRun XOps XCode XCal XLoop XQ SemCall
set_option linter.unusedSimpArgs false
set_option linter.unusedVariables false
/-- A bool's cells. -/
def BoE (_:AH) (c:List Value) (x:Bool):Prop:=c=[.bool x]
/-- Blocks below n, and block b. -/
def pB (n b:Nat):Nat→Prop:=fun c=>c<n∨c=b
theorem of_dex {n b:Nat} {K:AH} {Φ:AH→Prop} (h:Dex n b K Φ):∀ J,OlP (pB n b) K J→Φ J:=fun J h'=>h J fun c k h1 h2 e=>h' c k (fun x=>x.elim (by omega) h2) e
theorem ElH.put {Q:AH→Prop} {cs:List (List Value)} {l:List Ly} (h:ElH Q cs l) {c:List Value} {x:Ly} (i:Nat) (hc:c.length=50) (hx:∀ J,Q J→LyE J c x):ElH Q (cs.set i c) (l.set i x):=
 ⟨by rw[List.length_set,List.length_set,h.1],fun j y hy=>by
  by_cases hj:i=j
  ·subst hj
   have hl:=(List.getElem?_eq_some_iff.1 hy).1
   rw[List.length_set] at hl
   rw[List.getElem?_set_self hl] at hy
   cases hy
   exact⟨c,List.getElem?_set_self (by rw[h.1];exact hl),hc,hx⟩
  ·rw[List.getElem?_set_ne hj] at hy ⊢
   exact h.2 j y hy⟩
theorem LyE.at0 {J:AH} {c:List Value} {l:Ly} (h:LyE J c l):c[0]?=some (.int .i64 l.kind)∧c[1]?=some (.int .i64 l.parent)∧c[2]?=some (.int .i64 l.comp)∧c[6]?=some (.int .i64 l.start):=by
 obtain⟨_,_,_,_,_,_,_,_,_,_,_,_,_,_,_,_,_,_,rfl,_⟩:=h;exact⟨rfl,rfl,rfl,rfl⟩
theorem LyE.up {J:AH} {c:List Value} {l:Ly} (h:LyE J c l) (n:Int):LyE J (splice c 1 [.int .i64 n]) (upL n l):=by
 obtain⟨v0,v1,v2,v3,v4,v5,v6,v7,v8,v9,v10,v11,v12,v13,v14,v15,v16,v17,rfl,h1,h2⟩:=h
 exact⟨v0,v1,v2,v3,v4,v5,v6,v7,v8,v9,v10,v11,v12,v13,v14,v15,v16,v17,rfl,h1.up n,h2⟩
theorem LyE.mat {J:AH} {c:List Value} {l:Ly} (h:LyE J c l) (n:Int):LyE J (splice c 3 [.int .i64 n]) { l with matte:=n }:=by
 obtain⟨v0,v1,v2,v3,v4,v5,v6,v7,v8,v9,v10,v11,v12,v13,v14,v15,v16,v17,rfl,h1,h2⟩:=h
 exact⟨v0,v1,v2,v3,v4,v5,v6,v7,v8,v9,v10,v11,v12,v13,v14,v15,v16,v17,rfl,h1.like ⟨rfl,rfl,rfl,rfl,rfl,rfl,rfl,rfl,rfl,rfl⟩,h2⟩
/-- A plain layer of a comp. -/
def lyPn (c s:Int):Ly:=⟨1,-1,c,0,-20,40,s,[],[],[],[],[],[],[],[],[],(false,[]),sh00⟩
theorem lyPn_E (c s:Int) (K:AH):LyE K (lyVs (lyPn c s) nl nl nl nl nl nl nl nl nl nl nl nl nl nl nl nl nl nl) (lyPn c s):=
 ⟨_,_,_,_,_,_,_,_,_,_,_,_,_,_,_,_,_,_,rfl,⟨RowOf.none,RowOf.none,RowOf.none,RowOf.none,RowOf.none,RowOf.none,RowOf.none,RowOf.none,RowOf.none,.inl ⟨rfl,.inr rfl⟩⟩,ShV.zero K⟩
theorem lyPn_N (c s:Int):LyN 100 (lyPn c s):=by constructor <;> simp[lyPn,sh00]
theorem LyN.up1 {n:Nat} {l:Ly} (h:LyN n l) (k:Int):LyN n (upL k l):=⟨h.x,h.y,h.ax,h.ay,h.sx,h.sy,h.turn,h.opac,h.remap,h.mask,h.w,h.h,h.paths,h.pts,h.colors,h.width,h.dash,h.frm,h.to⟩
theorem LyN.mat {n:Nat} {l:Ly} (h:LyN n l) (k:Int):LyN n { l with matte:=k }:=⟨h.x,h.y,h.ax,h.ay,h.sx,h.sy,h.turn,h.opac,h.remap,h.mask,h.w,h.h,h.paths,h.pts,h.colors,h.width,h.dash,h.frm,h.to⟩
theorem set_all {P:Ly→Prop} {l:List Ly} {x:Ly} {i:Nat} (h:∀ y∈l,P y) (hx:P x):∀ y∈l.set i x,P y:=fun y hy=>by
 rcases List.mem_or_eq_of_mem_set hy with hy|rfl
 ·exact h y hy
 ·exact hx
theorem xgen {P:Program} {sz n0:Nat} {T:Env} {H:AH} {D:List Nat} {Q:KC} {c:Code} {Φ:AH→Prop} (h:Φ H) (k:∀ H,Φ H→XCode P sz n0 c T H D):XCode P sz n0 c T H D:=k H h
set_option maxHeartbeats 4000000 in
theorem lopen_ (H:AH) {t:Nat} {lv pv:Value} {ls:List Int} {ps:List Bool} (h:Ints H t lv ls) (hp:RowOf 1 BoE H pv ps) :
  Cal Tryz.prog 7 [lv,pv] H fun v H' W=>W=[]∧(∃ L,H'=H++L)∧∃ d cv,v=dcV d cv∧Dep H.length H' (fun J=>Cos J cv d.comps)∧DcN 0 d∧1≤d.comps.length:=by
 refine adds_of ?_
 have kd:∀ n,decide (H.length+n<H.length)=false:=fun n=>df (by omega)
 have kd0:decide (H.length<H.length)=false:=df (by omega)
 obtain⟨pa,pe,hpf⟩:=hp.form
 subst hpf
 have hpl:=hp.len
 refine XCal.of hm Tryz.func7 rfl (fun xs w=>Tryz.call7 xs w) Tryz.ntmps7 Tryz.results7 rfl ?_
 (refine sg (et kd kd0) ?_;try exact⟨⟩)
 refine(kdoc_ _ (h.app _)).x ?_
 rintro v H1 W1 ⟨rfl,⟨L,rfl⟩,d,cv,rfl,hM,hD⟩
 have hN:=hD.smallN
 have h1:=hD.n.1
 have hn3:=hN.n
 rcases hM with ⟨e0,_⟩|⟨b0,g0,cs,hb0,rfl,hk0,hcs,hel⟩
 ·rw[e0] at h1;simp at h1
 have hel:El 1 CoE (H.length+1) b0 (H++[(⟨[.int .i64 0,.int .i64 0,.slice none 0 0],0,true⟩:Blk)]++L) cs d.comps:=⟨hcs,fun i x hx=>by
  obtain⟨c,e1,e2,e3⟩:=hel i x hx
  rw[List.length_append] at e3
  exact⟨c,e1,e2,e3⟩⟩
 rw[List.length_append,List.length_singleton] at hb0
 have oV:Old H (H++[(⟨[.int .i64 0,.int .i64 0,.slice none 0 0],0,true⟩:Blk)]++L):=(Old.app' _ _).trans (Old.app' _ _)
 have gz:(H++[(⟨[.int .i64 0,.int .i64 0,.slice none 0 0],0,true⟩:Blk)]++L)[H.length]?=some ⟨[.int .i64 0,.int .i64 0,.slice none 0 0],0,true⟩:=old_get (by rw[hget_app0];rfl) L
 have lV:H.length+1≤(H++[(⟨[.int .i64 0,.int .i64 0,.slice none 0 0],0,true⟩:Blk)]++L).length:=by simp
 generalize H++[(⟨[.int .i64 0,.int .i64 0,.slice none 0 0],0,true⟩:Blk)]++L=V at *
 have kdV:∀ n,decide (V.length+n<H.length)=false:=fun n=>df (by omega)
 have kdV0:decide (V.length<H.length)=false:=df (by omega)
 have hb0l:=(List.getElem?_eq_some_iff.1 hk0).1
 (refine sg (et kdV (et kdV0 hget_app0)) ?_;try exact⟨⟩)
 refine keep (fun r T K D=>D=[]∧Old H K∧V.length+1≤K.length∧K[H.length]?=some ⟨[.int .i64 0,.int .i64 0,.slice none 0 0],0,true⟩∧K[V.length]?=some ⟨[.int .i64 d.in_,.int .i64 d.out,sl b0 0 g0 d.comps.length 1],0,true⟩∧T 0=lv∧T 1=.slice pa ps.length pe∧T 4=ap H.length 0 0∧T 5=ap V.length 0 0∧T 15=.int .i64 (d.comps.length:Int)∧∃ (c:Nat) (z:Int) (cs:List (List Value)) (l:List (List Ly)),c+r=d.comps.length∧0≤z∧z≤4*(c:Int)∧T 6=.int .i64 z∧T 16=.int .i64 (c:Int)∧l.length=d.comps.length∧K[b0]?=some ⟨cs.flatten,g0,true⟩∧El 1 CoE (H.length+1) b0 K cs l∧DcN 0 { d with comps:=l }) d.comps.length
  ⟨rfl,oV.trans (Old.app' _ _),by simp,old_get gz _,by rw[hget_app0];rfl,by(refine sg trivial ?_;try exact⟨⟩),by(refine sg trivial ?_;try exact⟨⟩),by(refine sg trivial ?_;try exact⟨⟩),by(refine sg trivial ?_;try exact⟨⟩),by(refine sg trivial ?_;try exact⟨⟩),0,0,cs,d.comps,by omega,by omega,by omega,by(refine sg trivial ?_;try exact⟨⟩),by(refine sg trivial ?_;try exact⟨⟩) <;> rfl,rfl,old_get hk0 _,hel.olx (Olx.old (Old.app' _ _)),hN⟩ ?_
 clear hel hk0 hcs gz oV
 rintro r T K D ⟨rfl,oK,lK,gz,gB,t0,t1,t4,t5,t15,c,z,cs,l,hcr,hz0,hz1,t6,t16,hll,hk0,hel,hNl⟩
 have kdK:∀ n,decide (K.length+n<H.length)=false:=fun n=>df (by omega)
 have kdK0:decide (K.length<H.length)=false:=df (by omega)
 by_cases hc:c<d.comps.length
 case neg=>
  have gset:∀ X,(K.set H.length X)[H.length]?=some X:=fun X=>List.getElem?_set_self (by omega)
  (refine sg (et t0 (et t1 (et t4 (et t5 (et t15 (et t16 (et (df (show ¬ (c:Int)<(d.comps.length:Int) by omega)) (et gB (et gz (et gset kd0)))))))))) ?_;try exact⟨⟩)
  have hMk:=(hel.row hb0 hk0).olt (Olx.set0 H.length _ ⟨[.int .i64 d.in_,.int .i64 d.out,sl b0 0 g0 d.comps.length 1],0,true⟩) (Nat.lt_succ_self _)
  rw[hll] at hMk
  exact⟨{ d with comps:=l },_,rfl,(hMk.dep (by omega)).low (by omega),hNl,by show 1≤l.length;omega⟩
 obtain⟨x,hx⟩:∃ x,l[c]?=some x:=⟨_,List.getElem?_eq_getElem (by omega)⟩
 obtain⟨ce,hce,hcl,hcx⟩:=hel.2 c x hx
 obtain⟨lv1,rfl,hL⟩:=hcx K (fun _ _ _ _ e=>e)
 have hLp:∀ J,OlP (pB (H.length+1) b0) K J→Lys J lv1 x:=fun J o=>by obtain⟨_,e,q⟩:=of_dex hcx J o;cases e;exact q
 have hall:=hel.all
 have hc0:cs.flatten[c*1]?=some lv1:=by rw[show c*1=c*1+0 by omega,flatten_get hall hce (j:=0) (by omega)];rfl
 obtain⟨cs1,bs,e1,e2,e3,e4,e5⟩:=asrc_row hLp
 obtain⟨hx1,hx2⟩:=hNl.c x (List.mem_of_getElem? hx)
 have hx4:x.length≤4:=by simpa using hx1
 have q0:(0:Int)≤(c:Int):=by omega
 have q1:(c:Int)<(d.comps.length:Int):=by omega
 have nb:K.length∉bs:=fun hb=>by have:=e4 _ hb;omega
 obtain⟨xa,xe,hxf⟩:=hL.form
 subst hxf
 have hcut:True:=trivial
 (refine sg (et t0 (et t1 (et t4 (et t5 (et t6 (et t15 (et t16 (et (dt q1) (et q0 (et q1 (et Int.toNat_natCast (et Nat.zero_add (et Nat.add_zero (et gB (et (old_get gB) (et hk0 (et (old_get hk0) (et hc0 (et kdK kdK0))))))))))))))))))) ?_;try exact⟨⟩)
 by_cases h0:x.length=0
 ·have hc0:cs1.flatten=[]:=List.eq_nil_of_length_eq_zero (by rw[e2,h0])
  have e5':∀ L,asrc (K++L) 50 (.slice xa x.length xe)=some ([],0,bs):=fun L=>by rw[e5 _ (Old.app' _ _),hc0,h0]
  (refine sg (et e5' (et kdK (et kdK0 Nat.zero_mul))) ?_;try exact⟨⟩)
  refine keep (fun r2 T J D=>D=[]∧T 0=lv∧T 1=.slice pa ps.length pe∧T 4=ap H.length 0 0∧T 5=ap V.length 0 0∧T 15=.int .i64 (d.comps.length:Int)∧T 16=.int .i64 (c:Int)∧T 7=.int .i64 (c:Int)∧T 8=sl K.length 0 0 x.length 50∧T 28=.int .i64 (x.length:Int)∧∃ (k:Nat) (z':Int) (ces:List (List Value)) (ls':List Ly),k+r2=x.length∧0≤z'∧z'≤4*(c:Int)+(k:Int)∧T 6=.int .i64 z'∧T 29=.int .i64 (k:Int)∧J=K++[⟨ces.flatten,0,true⟩]∧ElH (OlP (pB (H.length+1) b0) K) ces ls'∧ls'.length=x.length∧∀ y∈ls',LyN 100 y) x.length
   ⟨rfl,by(refine sg t0 ?_;try exact⟨⟩),by(refine sg t1 ?_;try exact⟨⟩),by(refine sg t4 ?_;try exact⟨⟩),by(refine sg t5 ?_;try exact⟨⟩),by(refine sg t15 ?_;try exact⟨⟩),by(refine sg t16 ?_;try exact⟨⟩),by(refine sg t16 ?_;try exact⟨⟩),by(refine sg h0 ?_;try exact⟨⟩),by(refine sg h0 ?_;try exact⟨⟩) <;> rfl,0,z,cs1,x,by omega,by omega,by omega,by(refine sg t6 ?_;try exact⟨⟩),by(refine sg trivial ?_;try exact⟨⟩) <;> rfl,by rw[hc0],⟨e1,e3⟩,rfl,hx2⟩ ?_
  clear t0 t1 t4 t5 t6 t15 t16
  rintro r2 T2 J D ⟨rfl,t0,t1,t4,t5,t15,t16,t7,t8,t28,k,z',ces,ls',hkr,hz0',hz1',t6,t29,rfl,hE,hl',hN'⟩
  by_cases hk:k<x.length
  case neg=>
   have wc:IntKind.i64.wrap ((c:Int)+1)=((c+1:Nat):Int):=by rw[wi (by omega) (by omega)];rfl
   have db0:decide (b0<H.length)=false:=df (by omega)
   have hb0K:=(List.getElem?_eq_some_iff.1 hk0).1
   have hst4:=fun V=>ast_el (s:=1) (V:=V) (g:=g0) (b:=b0) (i:=c) (cs:=[sl K.length 0 0 x.length 50]) hall (by have:=(List.getElem?_eq_some_iff.1 hce).1;omega) rfl
   (refine sg (et t0 (et t1 (et t4 (et t5 (et t6 (et t7 (et t8 (et t15 (et t16 (et t28 (et t29 (et (df (show ¬ (k:Int)<(x.length:Int) by omega)) (et (old_get gB) (et (old_get hk0) (et q0 (et q1 (et Int.toNat_natCast (et Nat.zero_add (et Nat.add_zero (et hst4 (et db0 wc))))))))))))))))))))) ?_;try exact⟨⟩)
   have oX:Olx b0 K ((K++[(⟨ces.flatten,0,true⟩:Blk)]).set b0 ⟨(cs.set c [sl K.length 0 0 x.length 50]).flatten,g0,true⟩):=fun cc k hc e=>Olx.set0 _ _ _ cc k hc (old_get e _)
   have hbl:b0<(K++[(⟨ces.flatten,0,true⟩:Blk)]).length:=by rw[List.length_append];omega
   have gKl:((K++[(⟨ces.flatten,0,true⟩:Blk)]).set b0 ⟨(cs.set c [sl K.length 0 0 x.length 50]).flatten,g0,true⟩)[K.length]?=some ⟨ces.flatten,0,true⟩:=by rw[List.getElem?_set_ne (by omega),hget_app0];rfl
   refine⟨r - 1,by omega,oK.olx oX (by omega),by omega,oX _ _ (by omega) gz,oX _ _ (by omega) gB,c+1,z',cs.set c [sl K.length 0 0 x.length 50],l.set c ls',by omega,hz0',by omega,rfl,rfl,by rw[List.length_set];exact hll,List.getElem?_set_self hbl,(hel.olx oX).put c rfl (fun J2 hJ2=>⟨_,rfl,.inr ⟨K.length,0,[],true,ces,by rw[hl'],by rw[List.append_nil];exact hJ2 _ _ (by omega) (by omega) gKl,hE.1,by omega,fun i y hy=>?_⟩⟩),⟨?_,fun cc hcc=>?_⟩⟩
   ·obtain⟨c',f1,f2,f3⟩:=hE.2 i y hy
    exact⟨c',f1,f2,f3 J2 fun ci k hc e=>hJ2 ci k (Nat.le_of_not_lt fun x=>hc (.inl x)) (fun x=>hc (.inr x)) (oX _ _ (fun x=>hc (.inr x)) e)⟩
   ·show (l.set c ls').length≤_;rw[List.length_set,hll];exact hn3
   ·rcases List.mem_or_eq_of_mem_set hcc with hcc|rfl
    ·exact hNl.c cc hcc
    ·exact⟨by rw[hl'];exact hx1,hN'⟩
  omega
 ·have e5':∀ L,asrc (K++L) 50 (.slice xa x.length xe)=some (cs1.flatten,x.length,bs):=fun L=>e5 _ (Old.app' _ _)
  have hp3:x.length*608 - 140737488355328=0:=Nat.sub_eq_zero_of_le (Nat.le_trans (Nat.mul_le_mul_right 608 hx4) (by decide))
  have hp4:x.length - 140737488355328=0:=Nat.sub_eq_zero_of_le (Nat.le_trans hx4 (by decide))
  (refine sg (et e5' (et kdK (et kdK0 (et Nat.zero_mul (et Nat.zero_add (et (eq_false h0) (et hp3 hp4))))))) ?_;try exact⟨⟩)
  refine keep (fun r2 T J D=>D=[]∧T 0=lv∧T 1=.slice pa ps.length pe∧T 4=ap H.length 0 0∧T 5=ap V.length 0 0∧T 15=.int .i64 (d.comps.length:Int)∧T 16=.int .i64 (c:Int)∧T 7=.int .i64 (c:Int)∧T 8=sl K.length 0 1 x.length 50∧T 28=.int .i64 (x.length:Int)∧∃ (k:Nat) (z':Int) (ces:List (List Value)) (ls':List Ly),k+r2=x.length∧0≤z'∧z'≤4*(c:Int)+(k:Int)∧T 6=.int .i64 z'∧T 29=.int .i64 (k:Int)∧J=K++[⟨ces.flatten,1,true⟩]∧ElH (OlP (pB (H.length+1) b0) K) ces ls'∧ls'.length=x.length∧∀ y∈ls',LyN 100 y) x.length
   ⟨rfl,by(refine sg t0 ?_;try exact⟨⟩),by(refine sg t1 ?_;try exact⟨⟩),by(refine sg t4 ?_;try exact⟨⟩),by(refine sg t5 ?_;try exact⟨⟩),by(refine sg t15 ?_;try exact⟨⟩),by(refine sg t16 ?_;try exact⟨⟩),by(refine sg t16 ?_;try exact⟨⟩),by(refine sg h0 ?_;try exact⟨⟩),by(refine sg h0 ?_;try exact⟨⟩) <;> rfl,0,z,cs1,x,by omega,by omega,by omega,by(refine sg t6 ?_;try exact⟨⟩),by(refine sg trivial ?_;try exact⟨⟩) <;> rfl,rfl,⟨e1,e3⟩,rfl,hx2⟩ ?_
  clear t0 t1 t4 t5 t6 t15 t16
  rintro r2 T2 J D ⟨rfl,t0,t1,t4,t5,t15,t16,t7,t8,t28,k,z',ces,ls',hkr,hz0',hz1',t6,t29,rfl,hE,hl',hN'⟩
  by_cases hk:k<x.length
  case neg=>
   have wc:IntKind.i64.wrap ((c:Int)+1)=((c+1:Nat):Int):=by rw[wi (by omega) (by omega)];rfl
   have db0:decide (b0<H.length)=false:=df (by omega)
   have hb0K:=(List.getElem?_eq_some_iff.1 hk0).1
   have hst4:=fun V=>ast_el (s:=1) (V:=V) (g:=g0) (b:=b0) (i:=c) (cs:=[sl K.length 0 1 x.length 50]) hall (by have:=(List.getElem?_eq_some_iff.1 hce).1;omega) rfl
   (refine sg (et t0 (et t1 (et t4 (et t5 (et t6 (et t7 (et t8 (et t15 (et t16 (et t28 (et t29 (et (df (show ¬ (k:Int)<(x.length:Int) by omega)) (et (old_get gB) (et (old_get hk0) (et q0 (et q1 (et Int.toNat_natCast (et Nat.zero_add (et Nat.add_zero (et hst4 (et db0 wc))))))))))))))))))))) ?_;try exact⟨⟩)
   have oX:Olx b0 K ((K++[(⟨ces.flatten,1,true⟩:Blk)]).set b0 ⟨(cs.set c [sl K.length 0 1 x.length 50]).flatten,g0,true⟩):=fun cc k hc e=>Olx.set0 _ _ _ cc k hc (old_get e _)
   have hbl:b0<(K++[(⟨ces.flatten,1,true⟩:Blk)]).length:=by rw[List.length_append];omega
   have gKl:((K++[(⟨ces.flatten,1,true⟩:Blk)]).set b0 ⟨(cs.set c [sl K.length 0 1 x.length 50]).flatten,g0,true⟩)[K.length]?=some ⟨ces.flatten,1,true⟩:=by rw[List.getElem?_set_ne (by omega),hget_app0];rfl
   refine⟨r - 1,by omega,oK.olx oX (by omega),by omega,oX _ _ (by omega) gz,oX _ _ (by omega) gB,c+1,z',cs.set c [sl K.length 0 1 x.length 50],l.set c ls',by omega,hz0',by omega,rfl,rfl,by rw[List.length_set];exact hll,List.getElem?_set_self hbl,(hel.olx oX).put c rfl (fun J2 hJ2=>⟨_,rfl,.inr ⟨K.length,1,[],true,ces,by rw[hl'],by rw[List.append_nil];exact hJ2 _ _ (by omega) (by omega) gKl,hE.1,by omega,fun i y hy=>?_⟩⟩),⟨?_,fun cc hcc=>?_⟩⟩
   ·obtain⟨c',f1,f2,f3⟩:=hE.2 i y hy
    exact⟨c',f1,f2,f3 J2 fun ci k hc e=>hJ2 ci k (Nat.le_of_not_lt fun x=>hc (.inl x)) (fun x=>hc (.inr x)) (oX _ _ (fun x=>hc (.inr x)) e)⟩
   ·show (l.set c ls').length≤_;rw[List.length_set,hll];exact hn3
   ·rcases List.mem_or_eq_of_mem_set hcc with hcc|rfl
    ·exact hNl.c cc hcc
    ·exact⟨by rw[hl'];exact hx1,hN'⟩
  obtain⟨r2',rfl⟩:∃ r',r2=r'+1:=⟨r2 - 1,by omega⟩
  have kJ:∀ X:Blk,(K++[X])[K.length]?=some X:=fun X=>by rw[hget_app0];rfl
  have kJs:∀ X Y:Blk,(K++[X]).set K.length Y=K++[Y]:=fun X Y=>by rw[List.set_append_right _ _ (Nat.le_refl _),Nat.sub_self];rfl
  obtain⟨lk,hlk⟩:∃ lk,ls'[k]?=some lk:=⟨_,List.getElem?_eq_getElem (by omega)⟩
  have hall1:=hE.all
  obtain⟨cc,hcc,hccl,hcE⟩:=hE.2 k lk hlk
  obtain⟨c0,c1,c2,c6⟩:=(hcE K (OlP.refl _ _)).at0
  have f0:ces.flatten[k*50]?=some (.int .i64 lk.kind):=by have h00:=flatten_get 0 hall1 hcc (by omega);rwa [Nat.add_zero,c0] at h00
  have f2:ces.flatten[k*50+2]?=some (.int .i64 lk.comp):=by rw[← c2];exact flatten_get 2 hall1 hcc (by omega)
  have f6:ces.flatten[k*50+6]?=some (.int .i64 lk.start):=by rw[← c6];exact flatten_get 6 hall1 hcc (by omega)
  have p0:(0:Int)≤(k:Int):=by omega
  have p1:(k:Int)<(x.length:Int):=by omega
  have wk:IntKind.i64.wrap ((k:Int)+1)=((k+1:Nat):Int):=by rw[wi (by omega) (by omega)];rfl
  have wz:IntKind.i64.wrap (z'+1)=z'+1:=by rw[wi (by omega) (by omega)]
  have hCel:ces.length=x.length:=by rw[hE.1,hl']
  by_cases hkd:lk.kind=1
  case neg=>
   (refine sg (et t0 (et t1 (et t4 (et t5 (et t6 (et t7 (et t8 (et t15 (et t16 (et t28 (et t29 (et (dt p1) (et p0 (et p1 (et Int.toNat_natCast (et Nat.zero_add (et Nat.add_zero (et kJ (et f0 (et (bf hkd) wk)))))))))))))))))))) ?_;try exact⟨⟩)
   exact⟨r2',by omega,k+1,z',ces,ls',by omega,hz0',by omega,rfl,rfl,rfl,hE,hl',hN'⟩
  have hpz:(∃ q:Nat,z'=(q:Int)∧ps[q]?=some true)∨(decide (z'<(ps.length:Int))=false∨∃ q:Nat,z'=(q:Int)∧ps[q]?=some false):=by
   obtain⟨q,rfl⟩:∃ q:Nat,z'=(q:Int):=⟨z'.toNat,by omega⟩
   by_cases hq:q<ps.length
   ·cases hb:ps[q] with
    | true=>exact .inl ⟨q,rfl,by rw[List.getElem?_eq_getElem hq,hb]⟩
    | false=>exact .inr (.inr ⟨q,rfl,by rw[List.getElem?_eq_getElem hq,hb]⟩)
   ·exact .inr (.inl (df (by omega)))
  rcases hpz with ⟨q,rfl,hpq⟩|hpf|⟨q,rfl,hpq⟩
  case inr.inl=>
   (refine sg (et t0 (et t1 (et t4 (et t5 (et t6 (et t7 (et t8 (et t15 (et t16 (et t28 (et t29 (et (dt p1) (et p0 (et p1 (et Int.toNat_natCast (et Nat.zero_add (et Nat.add_zero (et kJ (et f0 (et (bt hkd) (et wk (et hpf wz)))))))))))))))))))))) ?_;try exact⟨⟩)
   exact⟨r2',by omega,k+1,z'+1,ces,ls',by omega,by omega,by omega,rfl,rfl,rfl,hE,hl',hN'⟩
  case inr.inr=>
   obtain⟨bp,gp,cellsp,rwp,cp,hvp,hbp,hcp,hclp,hlep,hldp,hgtp⟩:=hp.at hpq
   unfold BoE at hcp
   subst hcp
   have fp:cellsp[q*1]?=some (.bool false):=hgtp 0 (by omega)
   have hql:=(List.getElem?_eq_some_iff.1 hpq).1
   rw[hvp] at t1
   (refine sg (et t0 (et t1 (et t4 (et t5 (et t6 (et t7 (et t8 (et t15 (et t16 (et t28 (et t29 (et (dt p1) (et p0 (et p1 (et Int.toNat_natCast (et Nat.zero_add (et Nat.add_zero (et kJ (et f0 (et (bt hkd) (et wk (et (dt (show (q:Int)<(ps.length:Int) by omega)) (et (show (0:Int)≤(q:Int) by omega) (et (show (q:Int)<(ps.length:Int) by omega) (et (old_get (oK _ _ hbp)) (et fp wz)))))))))))))))))))))))))) ?_;try exact⟨⟩)
   exact⟨r2',by omega,by rw[hvp],k+1,(q:Int)+1,ces,ls',by omega,by omega,by omega,rfl,rfl,rfl,hE,hl',hN'⟩
  case inl=>
   obtain⟨bp,gp,cellsp,rwp,cp,hvp,hbp,hcp,hclp,hlep,hldp,hgtp⟩:=hp.at hpq
   unfold BoE at hcp
   subst hcp
   have fp:cellsp[q*1]?=some (.bool true):=hgtp 0 (by omega)
   have hql:=(List.getElem?_eq_some_iff.1 hpq).1
   rw[hvp] at t1
   (refine sg (et t0 (et t1 (et t4 (et t5 (et t6 (et t7 (et t8 (et t15 (et t16 (et t28 (et t29 (et (dt p1) (et p0 (et p1 (et Int.toNat_natCast (et Nat.zero_add (et Nat.add_zero (et kJ (et f0 (et (bt hkd) (et wk (et (dt (show (q:Int)<(ps.length:Int) by omega)) (et (show (0:Int)≤(q:Int) by omega) (et (show (q:Int)<(ps.length:Int) by omega) (et (old_get (oK _ _ hbp)) (et fp wz)))))))))))))))))))))))))) ?_;try exact⟨⟩)
   first|refine drawnF ?_ (by decide +kernel)|refine drawnU [] (by decide +kernel) ?_
   have hst:=fun V (cs:List Value) (hc:cs.length=50)=>ast_el (s:=50) (V:=V) (g:=1) (b:=K.length) (i:=k) (cs:=cs) hall1 (by omega) hc
   simp only[go_sem,Nat.reduceEqDiff,Nat.reduceAdd,Nat.reduceSub,Nat.reduceMul,Nat.reduceLT,Nat.reduceLeDiff,Int.reducePow,Int.reduceBEq,Int.reduceBNe,Int.reduceDiv,Int.reduceMod,Int.reduceEq,Int.reduceLT,Int.reduceLE,Int.reduceAdd,Int.reduceSub,Int.reduceMul,Int.reduceNeg,Int.reduceToNat,Int.reduceTDiv,Int.reduceTMod,↓reduceIte,t0,t1,t4,t5,t6,t7,t8,t15,t16,t28,t29,dt p1,p0,p1,Int.toNat_natCast,Nat.zero_add,Nat.add_zero,kJ,kJs,kdK0,f0,f2,f6,bt hkd,wk,wz,hst,List.length_cons,List.length_nil,Nat.reduceAdd]
   refine xgen (Φ:=fun J=>∃ (ces:List (List Value)) (ls':List Ly),J=K++[⟨ces.flatten,1,true⟩]∧ElH (OlP (pB (H.length+1) b0) K) ces ls'∧ls'.length=x.length∧∀ y∈ls',LyN 100 y) ⟨_,_,rfl,hE.put k rfl (fun J _=>lyPn_E lk.comp lk.start J),by rw[List.length_set];exact hl',set_all hN' (lyPn_N _ _)⟩ ?_
   clear hlk hall1 hcc hccl hcE c0 c1 c2 c6 f0 f2 f6 hE hl' hN' hCel hkd hst
   rintro J ⟨ces2,ls2,rfl,hE2,hl2,hN2⟩
   have hall2:=hE2.all
   by_cases hk1:k+1<x.length
   case' pos=>
    obtain⟨ln,hln⟩:∃ ln,ls2[k+1]?=some ln:=⟨_,List.getElem?_eq_getElem (by omega)⟩
    obtain⟨cn,hcn,hcnl,hcnE⟩:=hE2.2 (k+1) ln hln
    have hst2:=fun V v=>ast_at (s:=50) (V:=V) (g:=1) (b:=K.length) (j:=3) v hall2 hcn (by omega)
    (refine sg (et t0 (et t1 (et t4 (et t5 (et t6 (et t7 (et t8 (et t15 (et t16 (et t28 (et t29 (et (dt (show ((k+1:Nat):Int)<(x.length:Int) by omega)) (et (show (0:Int)≤((k+1:Nat):Int) by omega) (et (show ((k+1:Nat):Int)<(x.length:Int) by omega) (et Int.toNat_natCast (et Nat.zero_add (et Nat.add_zero (et kJ (et kJs (et kdK0 (et wk hst2))))))))))))))))))))) ?_;try exact⟨⟩)
   case' neg=>
    (refine sg (et t0 (et t1 (et t4 (et t5 (et t6 (et t7 (et t8 (et t15 (et t16 (et t28 (et t29 (df (show ¬ ((k+1:Nat):Int)<(x.length:Int) by omega))))))))))))) ?_;try exact⟨⟩)
   all_goals
    refine keep (fun r3 T J D=>D=[]∧T 0=lv∧T 1=.slice pa ps.length pe∧T 4=ap H.length 0 0∧T 5=ap V.length 0 0∧T 15=.int .i64 (d.comps.length:Int)∧T 16=.int .i64 (c:Int)∧T 7=.int .i64 (c:Int)∧T 8=sl K.length 0 1 x.length 50∧T 28=.int .i64 (x.length:Int)∧T 6=.int .i64 (q:Int)∧T 29=.int .i64 (k:Int)∧T 9=.int .i64 (k:Int)∧T 75=.int .i64 (x.length:Int)∧∃ (j:Nat) (ces:List (List Value)) (ls':List Ly),j+r3=x.length∧T 76=.int .i64 (j:Int)∧J=K++[⟨ces.flatten,1,true⟩]∧ElH (OlP (pB (H.length+1) b0) K) ces ls'∧ls'.length=x.length∧∀ y∈ls',LyN 100 y) x.length
     ⟨rfl,by(refine sg t0 ?_;try exact⟨⟩),by rw[hvp];(refine sg t1 ?_;try exact⟨⟩),by(refine sg t4 ?_;try exact⟨⟩),by(refine sg t5 ?_;try exact⟨⟩),by(refine sg t15 ?_;try exact⟨⟩),by(refine sg t16 ?_;try exact⟨⟩),by(refine sg t7 ?_;try exact⟨⟩),by(refine sg t8 ?_;try exact⟨⟩),by(refine sg t28 ?_;try exact⟨⟩),by(refine sg t6 ?_;try exact⟨⟩),by(refine sg t29 ?_;try exact⟨⟩),by(refine sg trivial ?_;try exact⟨⟩),by(refine sg trivial ?_;try exact⟨⟩),0,_,_,by omega,by(refine sg trivial ?_;try exact⟨⟩) <;> rfl,rfl,by first|exact hE2.put (k+1) (by simp[hcnl]) (fun J o=>(hcnE J o).mat 0)|exact hE2,by first|exact hl2|(rw[List.length_set];exact hl2),by first|exact hN2|exact set_all hN2 ((hN2 _ (List.mem_of_getElem? hln)).mat 0)⟩ ?_
    clear t0 t1 t4 t5 t6 t7 t8 t15 t16 t28 t29 hE2 hl2 hN2 hall2
    rintro r3 T3 J D ⟨rfl,t0,t1,t4,t5,t15,t16,t7,t8,t28,t6,t29,t9,t75,j,ces,ls',hjr,t76,rfl,hE,hl',hN'⟩
    have hall1:=hE.all
    by_cases hj:j<x.length
    ·obtain⟨r3',rfl⟩:∃ r',r3=r'+1:=⟨r3 - 1,by omega⟩
     obtain⟨lj,hlj⟩:∃ lj,ls'[j]?=some lj:=⟨_,List.getElem?_eq_getElem (by omega)⟩
     obtain⟨cj,hcj,hcjl,hcjE⟩:=hE.2 j lj hlj
     obtain⟨c0,c1,c2,c6⟩:=(hcjE K (OlP.refl _ _)).at0
     have f1:ces.flatten[j*50+1]?=some (.int .i64 lj.parent):=by rw[← c1];exact flatten_get 1 hall1 hcj (by omega)
     have j0:(0:Int)≤(j:Int):=by omega
     have j1:(j:Int)<(x.length:Int):=by omega
     have wj:IntKind.i64.wrap ((j:Int)+1)=((j+1:Nat):Int):=by rw[wi (by omega) (by omega)];rfl
     by_cases hpk:lj.parent=(k:Int)
     ·have hst3:=fun V v=>ast_at (s:=50) (V:=V) (g:=1) (b:=K.length) (j:=1) v hall1 hcj (by omega)
      (refine sg (et t0 (et t1 (et t4 (et t5 (et t6 (et t7 (et t8 (et t9 (et t15 (et t16 (et t28 (et t29 (et t75 (et t76 (et (dt j1) (et j0 (et j1 (et Int.toNat_natCast (et Nat.zero_add (et Nat.add_zero (et kJ (et kJs (et kdK0 (et wj (et hst3 (et f1 (bt hpk))))))))))))))))))))))))))) ?_;try exact⟨⟩)
      exact⟨r3',by omega,j+1,_,_,by omega,rfl,rfl,hE.put j (by simp[hcjl]) (fun J o=>(hcjE J o).up (-1)),by rw[List.length_set];exact hl',set_all hN' ((hN' _ (List.mem_of_getElem? hlj)).up1 (-1))⟩
     ·(refine sg (et t0 (et t1 (et t4 (et t5 (et t6 (et t7 (et t8 (et t9 (et t15 (et t16 (et t28 (et t29 (et t75 (et t76 (et (dt j1) (et j0 (et j1 (et Int.toNat_natCast (et Nat.zero_add (et Nat.add_zero (et kJ (et kJs (et kdK0 (et wj (et f1 (bf hpk)))))))))))))))))))))))))) ?_;try exact⟨⟩)
      exact⟨r3',by omega,j+1,ces,ls',by omega,rfl,rfl,hE,hl',hN'⟩
    obtain⟨lk,hlk⟩:∃ lk,ls'[k]?=some lk:=⟨_,List.getElem?_eq_getElem (by omega)⟩
    obtain⟨cc,hcc,hccl,hcE⟩:=hE.2 k lk hlk
    obtain⟨c0,c1,c2,c6⟩:=(hcE K (OlP.refl _ _)).at0
    have f0:ces.flatten[k*50]?=some (.int .i64 lk.kind):=by have h00:=flatten_get 0 hall1 hcc (by omega);rwa [Nat.add_zero,c0] at h00
    by_cases hkd:lk.kind=1
    ·(refine sg (et t0 (et t1 (et t4 (et t5 (et t6 (et t7 (et t8 (et t9 (et t15 (et t16 (et t28 (et t29 (et t75 (et t76 (et (df (show ¬ (j:Int)<(x.length:Int) by omega)) (et p0 (et p1 (et Int.toNat_natCast (et Nat.zero_add (et Nat.add_zero (et kJ (et f0 (et (bt hkd) (et wk wz)))))))))))))))))))))))) ?_;try exact⟨⟩)
     exact⟨r2',by omega,k+1,(q:Int)+1,ces,ls',by omega,by omega,by omega,rfl,rfl,rfl,hE,hl',hN'⟩
    ·(refine sg (et t0 (et t1 (et t4 (et t5 (et t6 (et t7 (et t8 (et t9 (et t15 (et t16 (et t28 (et t29 (et t75 (et t76 (et (df (show ¬ (j:Int)<(x.length:Int) by omega)) (et p0 (et p1 (et Int.toNat_natCast (et Nat.zero_add (et Nat.add_zero (et kJ (et f0 (et (bf hkd) (et wk wz)))))))))))))))))))))))) ?_;try exact⟨⟩)
     exact⟨r2',by omega,k+1,(q:Int),ces,ls',by omega,by omega,by omega,rfl,rfl,rfl,hE,hl',hN'⟩
end Go.Proofs.YthhbglkokpablaaGreat
/- Comps laid open: the walks of known, tape. -/
namespace Go.Proofs.YthhbglkokpablaaGreat
open Go Go.RowKit E
attribute [local irreducible] XRun XOps XCode XCal XLoop XQ SemCall
set_option linter.unusedSimpArgs false
set_option linter.unusedVariables false
def iL1:Ly:=⟨1,-1,1,0,0,5,1,[],[],[],[],[],[],[],[],[],(false,[]),sh00⟩
def iL2:Ly:=⟨0,-1,0,0,0,9,0,[],[],[],[],[],[],[],[],[],(false,[]),sh00⟩
def iL3:Ly:=⟨0,-1,0,0,1,5,1,[],[],[],[],[],[],[],[],[],(false,[]),sh00⟩
def iLD:Dc:=⟨0,9,[[iL1],[iL2]]⟩
def iLO:Dc:=⟨0,9,[[iL3],[iL2]]⟩
theorem il_may:mayE iLD 0 0=0:=by decide +kernel
theorem il_may1:mayE iLD 1 0=22:=by decide +kernel
theorem il_open:openE iLD 0 0=iLO:=by kernel_rfl
theorem il_one:oneE iLD=some iLO:=by kernel_rfl
theorem il_one2:oneE iLO=none:=by kernel_rfl
theorem il_all:allE iLD=iLO:=by rw[allE_some il_one,allE_none il_one2]
def tapx27 (k i:Int):Int:=(IntKind.i64.wrap (IntKind.i64.wrap (IntKind.i64.wrap (IntKind.i64.wrap (i*i)*7)+IntKind.i64.wrap (k*31))+IntKind.i64.wrap (i*k))).tmod 211
set_option maxHeartbeats 4000000 in
theorem known27_ (H:AH):SemCall Tryz.prog 10 [] H (.bool true) H []:=by
 refine pure_of ?_ rfl
 have kd:∀ n,decide (H.length+n<H.length)=false:=fun n=>df (by omega)
 have kd0:decide (H.length<H.length)=false:=df (by omega)
 have hz:DcS iLD:=⟨by decide,fun c hc=>by
  have:c=[iL1]∨c=[iL2]:=by simpa [iLD] using hc
  rcases this with rfl|rfl
  ·exact⟨by decide,fun l hl=>by rw[List.mem_singleton.1 hl];constructor <;> simp[iL1,sh00]⟩
  ·exact⟨by decide,fun l hl=>by rw[List.mem_singleton.1 hl];constructor <;> simp[iL2,sh00]⟩⟩
 refine XCal.of hm Tryz.func10 rfl (fun xs w=>Tryz.call10 xs w) Tryz.ntmps10 Tryz.results10 rfl ?_
 refine wcode_cut (fun T J D=>D=[]∧J=H) ?_ ?_
 ·(refine sg (et kd kd0) ?_;try exact⟨⟩)
 rintro T J D ⟨rfl,rfl⟩
 refine wcode_cut (fun T K D=>D=[]∧T 1=ap (J.length+3) 0 0∧Old J K∧J.length+4≤K.length∧∃ a e,K[J.length+3]?=some ⟨[.int .i64 0,.int .i64 9,.slice a 2 e],0,true⟩∧Cos K (.slice a 2 e) iLD.comps) ?_ ?_
 ·(refine sg (et kd kd0) ?_;try exact⟨⟩)
  refine⟨Old.app' _ _,by simp,_,_,rfl,.inr ⟨J.length+2,0,[],true,[[sl J.length 0 0 1 50],[sl (J.length+1) 0 0 1 50]],rfl,by rw[hget_app];rfl,rfl,by decide,fun i x hx=>?_⟩⟩
  match i,hx with
  | 0,hx=>
   cases hx
   exact⟨_,rfl,rfl,_,rfl,RowOf.one (c:=lyVs iL1 nl nl nl nl nl nl nl nl nl nl nl nl nl nl nl nl nl nl) (by rw[hget_app0];rfl) rfl ⟨_,_,_,_,_,_,_,_,_,_,_,_,_,_,_,_,_,_,rfl,⟨RowOf.none,RowOf.none,RowOf.none,RowOf.none,RowOf.none,RowOf.none,RowOf.none,RowOf.none,RowOf.none,.inl ⟨rfl,.inr rfl⟩⟩,ShV.zero _⟩⟩
  | 1,hx=>
   cases hx
   exact⟨_,rfl,rfl,_,rfl,RowOf.one (c:=lyVs iL2 nl nl nl nl nl nl nl nl nl nl nl nl nl nl nl nl nl nl) (by rw[hget_app];rfl) rfl ⟨_,_,_,_,_,_,_,_,_,_,_,_,_,_,_,_,_,_,rfl,⟨RowOf.none,RowOf.none,RowOf.none,RowOf.none,RowOf.none,RowOf.none,RowOf.none,RowOf.none,RowOf.none,.inl ⟨rfl,.inr rfl⟩⟩,ShV.zero _⟩⟩
 clear T
 rintro T K D ⟨rfl,t1,oK,lK,a,e,g1,hC⟩
 have kdK:∀ n,decide (K.length+n<J.length)=false:=fun n=>df (by omega)
 have kdK0:decide (K.length<J.length)=false:=df (by omega)
 (refine sg (et t1 g1) ?_;try exact⟨⟩)
 refine(ans_ iLD _ 0 0 K hC hz).x ?_
 rintro v H1 W1 ⟨rfl,⟨L,rfl⟩,a2,x2,rfl,hO⟩
 have hans:ansE iLD 0 0=iLO:=by unfold ansE;rw[if_pos il_may];exact il_open
 rw[hans] at hO ⊢
 rw[il_may]
 have oV:Old K (K++L):=Old.app' _ _
 have lV:=old_len oV
 generalize K++L=V at *
 have kdV:∀ n,decide (V.length+n<J.length)=false:=fun n=>df (by omega)
 have kdV0:decide (V.length<J.length)=false:=df (by omega)
 have gV1:=oV _ _ g1
 obtain⟨b1,g1',cells1,rw1,cc,hve1,hb1,⟨lv,rfl,hL⟩,hcl1,hle1,hld1,hgt1⟩:=hO.at (i:=0) (x:=[iL3]) rfl
 obtain⟨b2,g2',cells2,rw2,cc2,hve2,hb2,⟨v0,v1,v2,v3,v4,v5,v6,v7,v8,v9,v10,v11,v12,v13,v14,v15,v16,v17,rfl,hLV,hSV⟩,hcl2,hle2,hld2,hgt2⟩:=hL.at (i:=0) (x:=iL3) rfl
 have f1:cells1[0]?=some lv:=hgt1 0 (by omega)
 have hve1:Value.slice a2 iLO.comps.length x2=sl b1 0 g1' 2 1:=hve1
 have hve2:lv=sl b2 0 g2' 1 50:=hve2
 subst hve2
 rw[hve1] at hO ⊢
 have f2:cells2[0]?=some (.int .i64 0):=hgt2 0 (by omega)
 simp only[Nat.zero_mul] at hld1 hld2
 have hCV:∀ L,Cos (V++L) (.slice a 2 e) iLD.comps:=fun L=>hC.old CoE.m (oV.app L)
 (refine sg (et kdV (et kdV0 (et hb1 (et f1 (et hb2 (et (old_get hb1) (et (old_get hb2) (et hld2 (et Int.toNat_natCast (et Int.toNat_zero Nat.zero_mul)))))))))) ?_;try exact⟨⟩)
 have e1:(iL3.kind==0)=true:=by decide
 have e2:(iL3.in_==1)=true:=by decide
 have e3:(iL3.out==5)=true:=by decide
 have e4:(iL3.start==1)=true:=by decide
 have hCV2:∀ L,Cos (V++L) (sl b1 0 g1' 2 1) iLO.comps:=fun L=>hO.old CoE.m (Old.app' V L)
 have k2:Value.agg #[.int .i64 0,.int .i64 9,.slice a 2 e]=dcV iLD (.slice a 2 e):=rfl
 have k3:Value.agg #[.int .i64 0,.int .i64 9,sl b1 0 g1' 2 1]=dcV iLO (sl b1 0 g1' 2 1):=rfl
 first|refine drawnF ?_ (by decide +kernel)|refine drawnU [(30,31)] (by decide +kernel) ?_
 (refine sg (et t1 (et kdV (et kdV0 (et (old_get gV1) (et e1 (et e2 (et e3 e4))))))) ?_;try exact⟨⟩)
 refine(may_ iLD _ 1 0 _ (hCV _) hz).x ?_
 rw[il_may1]
 (refine sg (et t1 (et kdV (et kdV0 (old_get gV1)))) ?_;try exact⟨⟩)
 refine(may_ iLD _ 0 0 _ (hCV _) hz).x ?_
 rw[il_may]
 (refine sg (et t1 (et kdV (et kdV0 (old_get gV1)))) ?_;try exact⟨⟩)
 refine(all_ iLD _ _ (hCV _) hz).x ?_
 rintro v H1 W1 ⟨rfl,⟨L,rfl⟩,cw,rfl,hC1⟩
 rw[il_all] at hC1 ⊢
 have hC1:=hC1.here
 obtain⟨xa,xe,hxf⟩:=hC1.form
 subst hxf
 have gX:∀ A B:Blk,(V++[A,B]++L)[V.length]?=some A:=fun A B=>by rw[List.append_assoc,hget_app0];rfl
 (refine sg (et t1 (et kdV (et kdV0 (et (old_get gV1) gX)))) ?_;try exact⟨⟩)
 refine(rdsame_ iLO iLO _ _ _ hC1 ((hCV2 _).old CoE.m (Old.app' _ L))).x ?_
 rw[dcQ_refl]
 (refine sg trivial ?_;try exact⟨⟩)
end Go.Proofs.YthhbglkokpablaaGreat
/- Comps laid open: the walk of InlineTells. -/
namespace Go.Proofs.YthhbglkokpablaaGreat
open Go Go.RowKit E
attribute [local irreducible] XRun XOps XCode XCal XLoop XQ SemCall
set_option linter.unusedSimpArgs false
set_option linter.unusedVariables false
set_option maxHeartbeats 8000000 in
theorem inlinetells (lv pv tv:Value) (ls:List Int) (ps:List Bool) (ts:List Tn) (t:Nat) (H:AH) (h:Ints H t lv ls) (hp:RowOf 1 BoE H pv ps) (ht:Tns H tv ts):SemCall Tryz.prog 4 [lv,pv,tv] H (.bool true) H []:=by
 refine pure_of ?_ rfl
 have kd:∀ n,decide (H.length+n<H.length)=false:=fun n=>df (by omega)
 have kd0:decide (H.length<H.length)=false:=df (by omega)
 have mB:Mono BoE:=fun _ _ _ _ _ e=>e
 refine XCal.of hm Tryz.func4 rfl (fun xs w=>Tryz.call4 xs w) Tryz.ntmps4 Tryz.results4 rfl ?_
 (refine sg (et kd kd0) ?_;try exact⟨⟩)
 refine(lopen_ _ h hp).x ?_
 rintro v H1 W1 ⟨rfl,⟨L,rfl⟩,d,cv,rfl,hD,hN,_⟩
 have hC:=hD.here
 have o1:Old H (H++L):=Old.app' _ _
 have l1:=old_len o1
 have h:=h.app L
 have hp:=hp.old mB o1
 have ht:=ht.old (fun _ _ _ _ _ e=>e) o1
 generalize H++L=V at *
 have kdV:∀ n,decide (V.length+n<H.length)=false:=fun n=>df (by omega)
 have kdV0:decide (V.length<H.length)=false:=df (by omega)
 (refine sg (et kdV kdV0) ?_;try exact⟨⟩)
 refine(same27_ d cv false V hC (hN.s (by omega))).x ?_
 (refine sg (et kdV kdV0) ?_;try exact⟨⟩)
 refine(lopen_ _ h hp).x ?_
 clear hD hC hN
 rintro v H1 W1 ⟨rfl,⟨L2,rfl⟩,d2,cv2,rfl,hD,hN,_⟩
 have hC:=hD.here
 have ht:=ht.old (fun _ _ _ _ _ e=>e) (Old.app' V L2)
 have l2:=old_len (Old.app' V L2)
 generalize V++L2=X at *
 have kdX:∀ n,decide (X.length+n<H.length)=false:=fun n=>df (by omega)
 have kdX0:decide (X.length<H.length)=false:=df (by omega)
 (refine sg (et kdX kdX0) ?_;try exact⟨⟩)
 refine(Odd_ d2 _ tv ts (fun _=>False) _ (fun J oJ=>hC.old CoE.m fun c k e=>oJ c k id e) hN ht).x ?_
 rintro v H1 W1 ⟨rfl,⟨L3,rfl⟩,d3,cw,rfl,hC3,hD3⟩
 have hC3:=hC3 _ (OlP.old (Old.app' _ _)) (fun c k _ e=>e)
 (refine sg (et kdX kdX0) ?_;try exact⟨⟩)
 refine(same27_ d3 _ true _ hC3 (hD3.s (by omega))).x ?_
 (refine sg (et kdX kdX0) ?_;try exact⟨⟩)
 refine(known27_ _).x ?_
 (refine sg (et kdX kdX0) ?_;try exact⟨⟩)
end Go.Proofs.YthhbglkokpablaaGreat
/- Arguments that are rows of turns, of bools. -/
namespace Go.Proofs.YthhbglkokpablaaGreat
open Go Go.RowKit E
set_option linter.unusedSimpArgs false
set_option linter.unusedVariables false
set_option maxRecDepth 100000
section
variable {P:Program} {H:AH}
theorem pa_cons {F:TypeId→List Value→Prop} {f:Go.Field} {fs:List Go.Field} {o k:Nat} {cs:List Value} (hk:P.cellsOf f.type=k) (h:parts F P (f::fs) o cs):∃ c r,cs=c++r∧c.length=k∧F f.type c∧parts F P fs (o+P.cellsOf f.type) r:=by
 obtain⟨_,h1,h2,h3⟩:=h
 rw[hk] at h1 h2 h3
 refine⟨cs.take k,cs.drop k,(List.take_append_drop k cs).symm,by rw[List.length_take];omega,h1,?_⟩
 rw[hk];exact h3
theorem pa_nil {F:TypeId→List Value→Prop} {o:Nat} {cs:List Value} (h:parts F P [] o cs):cs=[]:=h
theorem rd_int {n:Nat} {k:IntKind} {cs:List Value} {t:TypeId} (hu:P.underlying t=some (.int k)) (h:Rd P (n+1) H t cs):∃ a:Int,cs=[.int k a]:=by
 unfold Rd at h;rw[hu] at h
 obtain⟨a,h1,_⟩:=h
 exact⟨a,h1⟩
theorem rd_bool {n:Nat} {cs:List Value} {t:TypeId} (hu:P.underlying t=some .bool) (h:Rd P (n+1) H t cs):∃ a:Bool,cs=[.bool a]:=by
 unfold Rd at h;rw[hu] at h;exact h
theorem el_rows {α:Type} {E:AH→List Value→α→Prop} {Q:α→Prop} {F:List Value→Prop} {s:Nat} (hF:∀ cs,F cs→∃ x,E H cs x∧Q x):∀ {len:Nat} {us:List Value},elems P F s len us→∃ (cs:List (List Value)) (l:List α),us=cs.flatten∧cs.length=len∧l.length=len∧(∀ (i:Nat) x,l[i]?=some x→∃ c,cs[i]?=some c∧c.length=s∧E H c x)∧∀ x∈l,Q x
 | 0,us,h=>⟨[],[],h,rfl,rfl,fun i x hx=>by simp at hx,fun x hx=>by cases hx⟩
 | len+1,us,h=>by
  obtain⟨h1,h2,h3⟩:=h
  obtain⟨cs,l,e1,e2,e3,e4,e5⟩:=el_rows hF h3
  obtain⟨x,ex,qx⟩:=hF _ h1
  refine⟨us.take s::cs,x::l,?_,by simp[e2],by simp[e3],fun i y hy=>?_,fun y hy=>?_⟩
  ·rw[List.flatten_cons,← e1,List.take_append_drop]
  ·cases i with
   | zero=>simp at hy;subst hy;exact⟨_,rfl,by rw[List.length_take];omega,ex⟩
   | succ i=>simp at hy;obtain⟨c,f1,f2,f3⟩:=e4 i y hy;exact⟨c,by simpa using f1,f2,f3⟩
  ·rcases List.mem_cons.1 hy with rfl|hy
   ·exact qx
   ·exact e5 y hy
theorem rd_rows {α:Type} {E:AH→List Value→α→Prop} {Q:α→Prop} {n s:Nat} {u:Value} {t e:TypeId} (hu:P.underlying t=some (.slice e)) (hs:P.cellsOf e=s) (hF:∀ cs,Rd P n H e cs→∃ x,E H cs x∧Q x) (h:Rd P (n+1) H t [u]) :
  ∃ l:List α,RowOf s E H u l∧∀ x∈l,Q x:=by
 unfold Rd at h;rw[hu] at h
 rcases h with h|h|⟨b,len,us,h1,h2,h3,h4,h5⟩
 ·cases h;exact⟨[],RowOf.none,fun x hx=>by cases hx⟩
 ·cases h;exact⟨[],.inl ⟨rfl,.inl ⟨_,rfl⟩⟩,fun x hx=>by cases hx⟩
 ·rw[hs] at h1 h4 h5
  cases h1
  obtain⟨cs,l,e1,e2,e3,e4,e5⟩:=el_rows hF h5
  subst e1
  refine⟨l,.inr ⟨b,0,[],false,cs,by rw[e3],by rw[List.append_nil];exact h2,by rw[e2,e3],by rw[e3];exact h3.1,e4⟩,e5⟩
end
variable {H:AH}
theorem rd_tns {n:Nat} {u:Value} (h:Rd Tryz.prog (n+3) H 56 [u]):∃ l:List Tn,Tns H u l:=by
 obtain⟨l,h1,_⟩:=rd_rows (E:=TnE) (Q:=fun _=>True) (s:=4) Tryz.underlying56 (by kernel_rfl) (fun cs h=>by
  unfold Rd at h;rw[Tryz.underlying75] at h
  obtain⟨c0,r,rfl,l0,h0,h⟩:=pa_cons (k:=1) (by kernel_rfl) h
  obtain⟨c1,r,rfl,l1,h1,h⟩:=pa_cons (k:=1) (by kernel_rfl) h
  obtain⟨c2,r,rfl,l2,h2,h⟩:=pa_cons (k:=1) (by kernel_rfl) h
  obtain⟨c3,r,rfl,l3,h3,h⟩:=pa_cons (k:=1) (by kernel_rfl) h
  obtain rfl:=pa_nil h
  obtain⟨a0,rfl⟩:=rd_int Tryz.underlying3 h0
  obtain⟨a1,rfl⟩:=rd_int Tryz.underlying3 h1
  obtain⟨a2,rfl⟩:=rd_int Tryz.underlying3 h2
  obtain⟨a3,rfl⟩:=rd_int Tryz.underlying2 h3
  exact⟨⟨a0,a1,a2,a3⟩,rfl,trivial⟩) h
 exact⟨l,h1⟩
theorem Tns.ahead {J:AH} {v:Value} {l:List Tn} (h:Tns H v l) (a:Ahead H J):Tns J v l:=RowOf.old h (fun _ _ _ _ _ e=>e) (fun _ _ e=>a.get e)
theorem rd_bos {n:Nat} {u:Value} (h:Rd Tryz.prog (n+2) H 29 [u]):∃ l:List Bool,RowOf 1 BoE H u l:=by
 obtain⟨l,h1,_⟩:=rd_rows (E:=BoE) (Q:=fun _=>True) (s:=1) Tryz.underlying29 (by kernel_rfl) (fun cs h=>by
  obtain⟨a0,rfl⟩:=rd_bool Tryz.underlying4 h
  exact⟨a0,rfl,trivial⟩) h
 exact⟨l,h1⟩
theorem Bos.ahead {J:AH} {v:Value} {l:List Bool} (h:RowOf 1 BoE H v l) (a:Ahead H J):RowOf 1 BoE J v l:=RowOf.old h (fun _ _ _ _ _ e=>e) (fun _ _ e=>a.get e)
theorem RowOf.ahead {J:AH} {v:Value} {l:List Bool} (h:RowOf 1 BoE H v l) (a:Ahead H J):RowOf 1 BoE J v l:=Bos.ahead h a
end Go.Proofs.YthhbglkokpablaaGreat
