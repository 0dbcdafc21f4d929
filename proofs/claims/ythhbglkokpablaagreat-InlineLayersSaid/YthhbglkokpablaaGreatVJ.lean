/- Merged texts: LayG LayH LayR LLays LNum1 LNum RdBo. -/
import Derived.Test.YthhbglkokpablaaGreatVI
import Derived.Test.YthhbglkokpablaaGreatRows
/- Comps laid open: the walk of the law's open: a document of a tape, some layers of comps plain. -/
namespace Go.Proofs.YthhbglkokpablaaGreat
open Go Go.RowKit E
attribute [local irreducible] XRun XOps XCode XCal XLoop XQ SemCall
set_option linter.unusedSimpArgs false
set_option linter.unusedVariables false
/-- A bool's cells. -/
def BoE (_:AH) (c:List Value) (x:Bool):Prop:=c=[.bool x]
/-- Blocks below n, and block b. -/
def pB (n b:Nat):Nat→Prop:=fun c=>c<n∨c=b
theorem of_dex {n b:Nat} {K:AH} {Φ:AH→Prop} (h:Dex n b K Φ):∀ J,OlP (pB n b) K J→Φ J:=fun J h'=>h J fun c k h1 h2 e=>h' c k (fun x=>x.elim (by omega) h2) e
theorem ElH.put {Q:AH→Prop} {cs:List (List Value)} {l:List Ly} (h:ElH Q cs l) {c:List Value} {x:Ly} (i:Nat) (hc:c.length=50) (hx:∀ J,Q J→LyE J c x):ElH Q (cs.set i c) (l.set i x):=
 ⟨by rw[List.length_set,List.length_set,h.1],fun j y hy=>by
  by_cases hj:i=j
  ·subst hj
   have hl:=(List.getElem?_eq_some_iff.1 hy).1
   rw[List.length_set] at hl
   rw[List.getElem?_set_self hl] at hy
   cases hy
   exact⟨c,List.getElem?_set_self (by rw[h.1];exact hl),hc,hx⟩
  ·rw[List.getElem?_set_ne hj] at hy ⊢
   exact h.2 j y hy⟩
theorem LyE.at0 {J:AH} {c:List Value} {l:Ly} (h:LyE J c l):c[0]?=some (.int .i64 l.kind)∧c[1]?=some (.int .i64 l.parent)∧c[2]?=some (.int .i64 l.comp)∧c[6]?=some (.int .i64 l.start):=by
 obtain⟨_,_,_,_,_,_,_,_,_,_,_,_,_,_,_,_,_,_,rfl,_⟩:=h;exact⟨rfl,rfl,rfl,rfl⟩
theorem LyE.up {J:AH} {c:List Value} {l:Ly} (h:LyE J c l) (n:Int):LyE J (splice c 1 [.int .i64 n]) (upL n l):=by
 obtain⟨v0,v1,v2,v3,v4,v5,v6,v7,v8,v9,v10,v11,v12,v13,v14,v15,v16,v17,rfl,h1,h2⟩:=h
 exact⟨v0,v1,v2,v3,v4,v5,v6,v7,v8,v9,v10,v11,v12,v13,v14,v15,v16,v17,rfl,h1.up n,h2⟩
theorem LyE.mat {J:AH} {c:List Value} {l:Ly} (h:LyE J c l) (n:Int):LyE J (splice c 3 [.int .i64 n]) { l with matte:=n }:=by
 obtain⟨v0,v1,v2,v3,v4,v5,v6,v7,v8,v9,v10,v11,v12,v13,v14,v15,v16,v17,rfl,h1,h2⟩:=h
 exact⟨v0,v1,v2,v3,v4,v5,v6,v7,v8,v9,v10,v11,v12,v13,v14,v15,v16,v17,rfl,h1.like ⟨rfl,rfl,rfl,rfl,rfl,rfl,rfl,rfl,rfl,rfl⟩,h2⟩
/-- A plain layer of a comp. -/
def lyPn (c s:Int):Ly:=⟨1,-1,c,0,-20,40,s,[],[],[],[],[],[],[],[],[],(false,[]),sh00⟩
theorem lyPn_E (c s:Int) (K:AH):LyE K (lyVs (lyPn c s) nl nl nl nl nl nl nl nl nl nl nl nl nl nl nl nl nl nl) (lyPn c s):=
 ⟨_,_,_,_,_,_,_,_,_,_,_,_,_,_,_,_,_,_,rfl,⟨RowOf.none,RowOf.none,RowOf.none,RowOf.none,RowOf.none,RowOf.none,RowOf.none,RowOf.none,RowOf.none,.inl ⟨rfl,.inr rfl⟩⟩,ShV.zero K⟩
theorem lyPn_N (c s:Int):LyN 100 (lyPn c s):=by constructor <;> simp[lyPn,sh00]
theorem LyN.up1 {n:Nat} {l:Ly} (h:LyN n l) (k:Int):LyN n (upL k l):=⟨h.x,h.y,h.ax,h.ay,h.sx,h.sy,h.turn,h.opac,h.remap,h.mask,h.w,h.h,h.paths,h.pts,h.colors,h.width,h.dash,h.frm,h.to⟩
theorem LyN.mat {n:Nat} {l:Ly} (h:LyN n l) (k:Int):LyN n { l with matte:=k }:=⟨h.x,h.y,h.ax,h.ay,h.sx,h.sy,h.turn,h.opac,h.remap,h.mask,h.w,h.h,h.paths,h.pts,h.colors,h.width,h.dash,h.frm,h.to⟩
theorem set_all {P:Ly→Prop} {l:List Ly} {x:Ly} {i:Nat} (h:∀ y∈l,P y) (hx:P x):∀ y∈l.set i x,P y:=fun y hy=>by
 rcases List.mem_or_eq_of_mem_set hy with hy|rfl
 ·exact h y hy
 ·exact hx
theorem xgen {P:Program} {sz n0:Nat} {T:Env} {H:AH} {D:List Nat} {Q:KC} {c:Code} {Φ:AH→Prop} (h:Φ H) (k:∀ H,Φ H→XCode P sz n0 c T H D):XCode P sz n0 c T H D:=k H h
set_option maxHeartbeats 4000000 in
theorem lopen_ (H:AH) {t:Nat} {lv pv:Value} {ls:List Int} {ps:List Bool} (h:Ints H t lv ls) (hp:RowOf 1 BoE H pv ps) :
  Cal Tryz.prog 7 [lv,pv] H fun v H' W=>W=[]∧(∃ L,H'=H++L)∧∃ d cv,v=dcV d cv∧Dep H.length H' (fun J=>Cos J cv d.comps)∧DcN 0 d∧1≤d.comps.length:=by
 refine adds_of ?_
 have kd:∀ n,decide (H.length+n<H.length)=false:=fun n=>df (by omega)
 have kd0:decide (H.length<H.length)=false:=df (by omega)
 obtain⟨pa,pe,hpf⟩:=hp.form
 subst hpf
 have hpl:=hp.len
 refine XCal.of hm Tryz.func7 rfl (fun xs w=>Tryz.call7 xs w) Tryz.ntmps7 Tryz.results7 rfl ?_
 (refine sg (et kd kd0) ?_;try exact⟨⟩)
 refine(kdoc_ _ (h.app _)).x ?_
 rintro v H1 W1 ⟨rfl,⟨L,rfl⟩,d,cv,rfl,hM,hD⟩
 have hN:=hD.smallN
 have h1:=hD.n.1
 have hn3:=hN.n
 rcases hM with ⟨e0,_⟩|⟨b0,g0,cs,hb0,rfl,hk0,hcs,hel⟩
 ·rw[e0] at h1;simp at h1
 have hel:El 1 CoE (H.length+1) b0 (H++[(⟨[.int .i64 0,.int .i64 0,.slice none 0 0],0,true⟩:Blk)]++L) cs d.comps:=⟨hcs,fun i x hx=>by
  obtain⟨c,e1,e2,e3⟩:=hel i x hx
  rw[List.length_append] at e3
  exact⟨c,e1,e2,e3⟩⟩
 rw[List.length_append,List.length_singleton] at hb0
 have oV:Old H (H++[(⟨[.int .i64 0,.int .i64 0,.slice none 0 0],0,true⟩:Blk)]++L):=(Old.app' _ _).trans (Old.app' _ _)
 have gz:(H++[(⟨[.int .i64 0,.int .i64 0,.slice none 0 0],0,true⟩:Blk)]++L)[H.length]?=some ⟨[.int .i64 0,.int .i64 0,.slice none 0 0],0,true⟩:=old_get (by rw[hget_app0];rfl) L
 have lV:H.length+1≤(H++[(⟨[.int .i64 0,.int .i64 0,.slice none 0 0],0,true⟩:Blk)]++L).length:=by simp
 generalize H++[(⟨[.int .i64 0,.int .i64 0,.slice none 0 0],0,true⟩:Blk)]++L=V at *
 have kdV:∀ n,decide (V.length+n<H.length)=false:=fun n=>df (by omega)
 have kdV0:decide (V.length<H.length)=false:=df (by omega)
 have hb0l:=(List.getElem?_eq_some_iff.1 hk0).1
 (refine sg (et kdV (et kdV0 hget_app0)) ?_;try exact⟨⟩)
 refine keep (fun r T K D=>D=[]∧Old H K∧V.length+1≤K.length∧K[H.length]?=some ⟨[.int .i64 0,.int .i64 0,.slice none 0 0],0,true⟩∧K[V.length]?=some ⟨[.int .i64 d.in_,.int .i64 d.out,sl b0 0 g0 d.comps.length 1],0,true⟩∧T 0=lv∧T 1=.slice pa ps.length pe∧T 4=ap H.length 0 0∧T 5=ap V.length 0 0∧T 15=.int .i64 (d.comps.length:Int)∧∃ (c:Nat) (z:Int) (cs:List (List Value)) (l:List (List Ly)),c+r=d.comps.length∧0≤z∧z≤4*(c:Int)∧T 6=.int .i64 z∧T 16=.int .i64 (c:Int)∧l.length=d.comps.length∧K[b0]?=some ⟨cs.flatten,g0,true⟩∧El 1 CoE (H.length+1) b0 K cs l∧DcN 0 { d with comps:=l }) d.comps.length
  ⟨rfl,oV.trans (Old.app' _ _),by simp,old_get gz _,by rw[hget_app0];rfl,by(refine sg trivial ?_;try exact⟨⟩),by(refine sg trivial ?_;try exact⟨⟩),by(refine sg trivial ?_;try exact⟨⟩),by(refine sg trivial ?_;try exact⟨⟩),by(refine sg trivial ?_;try exact⟨⟩),0,0,cs,d.comps,by omega,by omega,by omega,by(refine sg trivial ?_;try exact⟨⟩),by(refine sg trivial ?_;try exact⟨⟩) <;> rfl,rfl,old_get hk0 _,hel.olx (Olx.old (Old.app' _ _)),hN⟩ ?_
 clear hel hk0 hcs gz oV
 rintro r T K D ⟨rfl,oK,lK,gz,gB,t0,t1,t4,t5,t15,c,z,cs,l,hcr,hz0,hz1,t6,t16,hll,hk0,hel,hNl⟩
 have kdK:∀ n,decide (K.length+n<H.length)=false:=fun n=>df (by omega)
 have kdK0:decide (K.length<H.length)=false:=df (by omega)
 by_cases hc:c<d.comps.length
 case neg=>
  have gset:∀ X,(K.set H.length X)[H.length]?=some X:=fun X=>List.getElem?_set_self (by omega)
  (refine sg (et t0 (et t1 (et t4 (et t5 (et t15 (et t16 (et (df (show ¬ (c:Int)<(d.comps.length:Int) by omega)) (et gB (et gz (et gset kd0)))))))))) ?_;try exact⟨⟩)
  have hMk:=(hel.row hb0 hk0).olt (Olx.set0 H.length _ ⟨[.int .i64 d.in_,.int .i64 d.out,sl b0 0 g0 d.comps.length 1],0,true⟩) (Nat.lt_succ_self _)
  rw[hll] at hMk
  exact⟨{ d with comps:=l },_,rfl,(hMk.dep (by omega)).low (by omega),hNl,by show 1≤l.length;omega⟩
 obtain⟨x,hx⟩:∃ x,l[c]?=some x:=⟨_,List.getElem?_eq_getElem (by omega)⟩
 obtain⟨ce,hce,hcl,hcx⟩:=hel.2 c x hx
 obtain⟨lv1,rfl,hL⟩:=hcx K (fun _ _ _ _ e=>e)
 have hLp:∀ J,OlP (pB (H.length+1) b0) K J→Lys J lv1 x:=fun J o=>by obtain⟨_,e,q⟩:=of_dex hcx J o;cases e;exact q
 have hall:=hel.all
 have hc0:cs.flatten[c*1]?=some lv1:=by rw[show c*1=c*1+0 by omega,flatten_get hall hce (j:=0) (by omega)];rfl
 obtain⟨cs1,bs,e1,e2,e3,e4,e5⟩:=asrc_row hLp
 obtain⟨hx1,hx2⟩:=hNl.c x (List.mem_of_getElem? hx)
 have hx4:x.length≤4:=by simpa using hx1
 have q0:(0:Int)≤(c:Int):=by omega
 have q1:(c:Int)<(d.comps.length:Int):=by omega
 have nb:K.length∉bs:=fun hb=>by have:=e4 _ hb;omega
 obtain⟨xa,xe,hxf⟩:=hL.form
 subst hxf
 have hcut:True:=trivial
 (refine sg (et t0 (et t1 (et t4 (et t5 (et t6 (et t15 (et t16 (et (dt q1) (et q0 (et q1 (et Int.toNat_natCast (et Nat.zero_add (et Nat.add_zero (et gB (et (old_get gB) (et hk0 (et (old_get hk0) (et hc0 (et kdK kdK0))))))))))))))))))) ?_;try exact⟨⟩)
 by_cases h0:x.length=0
 ·have hc0:cs1.flatten=[]:=List.eq_nil_of_length_eq_zero (by rw[e2,h0])
  have e5':∀ L,asrc (K++L) 50 (.slice xa x.length xe)=some ([],0,bs):=fun L=>by rw[e5 _ (Old.app' _ _),hc0,h0]
  (refine sg (et e5' (et kdK (et kdK0 Nat.zero_mul))) ?_;try exact⟨⟩)
  refine keep (fun r2 T J D=>D=[]∧T 0=lv∧T 1=.slice pa ps.length pe∧T 4=ap H.length 0 0∧T 5=ap V.length 0 0∧T 15=.int .i64 (d.comps.length:Int)∧T 16=.int .i64 (c:Int)∧T 7=.int .i64 (c:Int)∧T 8=sl K.length 0 0 x.length 50∧T 28=.int .i64 (x.length:Int)∧∃ (k:Nat) (z':Int) (ces:List (List Value)) (ls':List Ly),k+r2=x.length∧0≤z'∧z'≤4*(c:Int)+(k:Int)∧T 6=.int .i64 z'∧T 29=.int .i64 (k:Int)∧J=K++[⟨ces.flatten,0,true⟩]∧ElH (OlP (pB (H.length+1) b0) K) ces ls'∧ls'.length=x.length∧∀ y∈ls',LyN 100 y) x.length
   ⟨rfl,by(refine sg t0 ?_;try exact⟨⟩),by(refine sg t1 ?_;try exact⟨⟩),by(refine sg t4 ?_;try exact⟨⟩),by(refine sg t5 ?_;try exact⟨⟩),by(refine sg t15 ?_;try exact⟨⟩),by(refine sg t16 ?_;try exact⟨⟩),by(refine sg t16 ?_;try exact⟨⟩),by(refine sg h0 ?_;try exact⟨⟩),by(refine sg h0 ?_;try exact⟨⟩) <;> rfl,0,z,cs1,x,by omega,by omega,by omega,by(refine sg t6 ?_;try exact⟨⟩),by(refine sg trivial ?_;try exact⟨⟩) <;> rfl,by rw[hc0],⟨e1,e3⟩,rfl,hx2⟩ ?_
  clear t0 t1 t4 t5 t6 t15 t16
  rintro r2 T2 J D ⟨rfl,t0,t1,t4,t5,t15,t16,t7,t8,t28,k,z',ces,ls',hkr,hz0',hz1',t6,t29,rfl,hE,hl',hN'⟩
  by_cases hk:k<x.length
  case neg=>
   have wc:IntKind.i64.wrap ((c:Int)+1)=((c+1:Nat):Int):=by rw[wi (by omega) (by omega)];rfl
   have db0:decide (b0<H.length)=false:=df (by omega)
   have hb0K:=(List.getElem?_eq_some_iff.1 hk0).1
   have hst4:=fun V=>ast_el (s:=1) (V:=V) (g:=g0) (b:=b0) (i:=c) (cs:=[sl K.length 0 0 x.length 50]) hall (by have:=(List.getElem?_eq_some_iff.1 hce).1;omega) rfl
   (refine sg (et t0 (et t1 (et t4 (et t5 (et t6 (et t7 (et t8 (et t15 (et t16 (et t28 (et t29 (et (df (show ¬ (k:Int)<(x.length:Int) by omega)) (et (old_get gB) (et (old_get hk0) (et q0 (et q1 (et Int.toNat_natCast (et Nat.zero_add (et Nat.add_zero (et hst4 (et db0 wc))))))))))))))))))))) ?_;try exact⟨⟩)
   have oX:Olx b0 K ((K++[(⟨ces.flatten,0,true⟩:Blk)]).set b0 ⟨(cs.set c [sl K.length 0 0 x.length 50]).flatten,g0,true⟩):=fun cc k hc e=>Olx.set0 _ _ _ cc k hc (old_get e _)
   have hbl:b0<(K++[(⟨ces.flatten,0,true⟩:Blk)]).length:=by rw[List.length_append];omega
   have gKl:((K++[(⟨ces.flatten,0,true⟩:Blk)]).set b0 ⟨(cs.set c [sl K.length 0 0 x.length 50]).flatten,g0,true⟩)[K.length]?=some ⟨ces.flatten,0,true⟩:=by rw[List.getElem?_set_ne (by omega),hget_app0];rfl
   refine⟨r - 1,by omega,oK.olx oX (by omega),by omega,oX _ _ (by omega) gz,oX _ _ (by omega) gB,c+1,z',cs.set c [sl K.length 0 0 x.length 50],l.set c ls',by omega,hz0',by omega,rfl,rfl,by rw[List.length_set];exact hll,List.getElem?_set_self hbl,(hel.olx oX).put c rfl (fun J2 hJ2=>⟨_,rfl,.inr ⟨K.length,0,[],true,ces,by rw[hl'],by rw[List.append_nil];exact hJ2 _ _ (by omega) (by omega) gKl,hE.1,by omega,fun i y hy=>?_⟩⟩),⟨?_,fun cc hcc=>?_⟩⟩
   ·obtain⟨c',f1,f2,f3⟩:=hE.2 i y hy
    exact⟨c',f1,f2,f3 J2 fun ci k hc e=>hJ2 ci k (Nat.le_of_not_lt fun x=>hc (.inl x)) (fun x=>hc (.inr x)) (oX _ _ (fun x=>hc (.inr x)) e)⟩
   ·show (l.set c ls').length≤_;rw[List.length_set,hll];exact hn3
   ·rcases List.mem_or_eq_of_mem_set hcc with hcc|rfl
    ·exact hNl.c cc hcc
    ·exact⟨by rw[hl'];exact hx1,hN'⟩
  omega
 ·have e5':∀ L,asrc (K++L) 50 (.slice xa x.length xe)=some (cs1.flatten,x.length,bs):=fun L=>e5 _ (Old.app' _ _)
  have hp3:x.length*608 - 140737488355328=0:=Nat.sub_eq_zero_of_le (Nat.le_trans (Nat.mul_le_mul_right 608 hx4) (by decide))
  have hp4:x.length - 140737488355328=0:=Nat.sub_eq_zero_of_le (Nat.le_trans hx4 (by decide))
  (refine sg (et e5' (et kdK (et kdK0 (et Nat.zero_mul (et Nat.zero_add (et (eq_false h0) (et hp3 hp4))))))) ?_;try exact⟨⟩)
  refine keep (fun r2 T J D=>D=[]∧T 0=lv∧T 1=.slice pa ps.length pe∧T 4=ap H.length 0 0∧T 5=ap V.length 0 0∧T 15=.int .i64 (d.comps.length:Int)∧T 16=.int .i64 (c:Int)∧T 7=.int .i64 (c:Int)∧T 8=sl K.length 0 1 x.length 50∧T 28=.int .i64 (x.length:Int)∧∃ (k:Nat) (z':Int) (ces:List (List Value)) (ls':List Ly),k+r2=x.length∧0≤z'∧z'≤4*(c:Int)+(k:Int)∧T 6=.int .i64 z'∧T 29=.int .i64 (k:Int)∧J=K++[⟨ces.flatten,1,true⟩]∧ElH (OlP (pB (H.length+1) b0) K) ces ls'∧ls'.length=x.length∧∀ y∈ls',LyN 100 y) x.length
   ⟨rfl,by(refine sg t0 ?_;try exact⟨⟩),by(refine sg t1 ?_;try exact⟨⟩),by(refine sg t4 ?_;try exact⟨⟩),by(refine sg t5 ?_;try exact⟨⟩),by(refine sg t15 ?_;try exact⟨⟩),by(refine sg t16 ?_;try exact⟨⟩),by(refine sg t16 ?_;try exact⟨⟩),by(refine sg h0 ?_;try exact⟨⟩),by(refine sg h0 ?_;try exact⟨⟩) <;> rfl,0,z,cs1,x,by omega,by omega,by omega,by(refine sg t6 ?_;try exact⟨⟩),by(refine sg trivial ?_;try exact⟨⟩) <;> rfl,rfl,⟨e1,e3⟩,rfl,hx2⟩ ?_
  clear t0 t1 t4 t5 t6 t15 t16
  rintro r2 T2 J D ⟨rfl,t0,t1,t4,t5,t15,t16,t7,t8,t28,k,z',ces,ls',hkr,hz0',hz1',t6,t29,rfl,hE,hl',hN'⟩
  by_cases hk:k<x.length
  case neg=>
   have wc:IntKind.i64.wrap ((c:Int)+1)=((c+1:Nat):Int):=by rw[wi (by omega) (by omega)];rfl
   have db0:decide (b0<H.length)=false:=df (by omega)
   have hb0K:=(List.getElem?_eq_some_iff.1 hk0).1
   have hst4:=fun V=>ast_el (s:=1) (V:=V) (g:=g0) (b:=b0) (i:=c) (cs:=[sl K.length 0 1 x.length 50]) hall (by have:=(List.getElem?_eq_some_iff.1 hce).1;omega) rfl
   (refine sg (et t0 (et t1 (et t4 (et t5 (et t6 (et t7 (et t8 (et t15 (et t16 (et t28 (et t29 (et (df (show ¬ (k:Int)<(x.length:Int) by omega)) (et (old_get gB) (et (old_get hk0) (et q0 (et q1 (et Int.toNat_natCast (et Nat.zero_add (et Nat.add_zero (et hst4 (et db0 wc))))))))))))))))))))) ?_;try exact⟨⟩)
   have oX:Olx b0 K ((K++[(⟨ces.flatten,1,true⟩:Blk)]).set b0 ⟨(cs.set c [sl K.length 0 1 x.length 50]).flatten,g0,true⟩):=fun cc k hc e=>Olx.set0 _ _ _ cc k hc (old_get e _)
   have hbl:b0<(K++[(⟨ces.flatten,1,true⟩:Blk)]).length:=by rw[List.length_append];omega
   have gKl:((K++[(⟨ces.flatten,1,true⟩:Blk)]).set b0 ⟨(cs.set c [sl K.length 0 1 x.length 50]).flatten,g0,true⟩)[K.length]?=some ⟨ces.flatten,1,true⟩:=by rw[List.getElem?_set_ne (by omega),hget_app0];rfl
   refine⟨r - 1,by omega,oK.olx oX (by omega),by omega,oX _ _ (by omega) gz,oX _ _ (by omega) gB,c+1,z',cs.set c [sl K.length 0 1 x.length 50],l.set c ls',by omega,hz0',by omega,rfl,rfl,by rw[List.length_set];exact hll,List.getElem?_set_self hbl,(hel.olx oX).put c rfl (fun J2 hJ2=>⟨_,rfl,.inr ⟨K.length,1,[],true,ces,by rw[hl'],by rw[List.append_nil];exact hJ2 _ _ (by omega) (by omega) gKl,hE.1,by omega,fun i y hy=>?_⟩⟩),⟨?_,fun cc hcc=>?_⟩⟩
   ·obtain⟨c',f1,f2,f3⟩:=hE.2 i y hy
    exact⟨c',f1,f2,f3 J2 fun ci k hc e=>hJ2 ci k (Nat.le_of_not_lt fun x=>hc (.inl x)) (fun x=>hc (.inr x)) (oX _ _ (fun x=>hc (.inr x)) e)⟩
   ·show (l.set c ls').length≤_;rw[List.length_set,hll];exact hn3
   ·rcases List.mem_or_eq_of_mem_set hcc with hcc|rfl
    ·exact hNl.c cc hcc
    ·exact⟨by rw[hl'];exact hx1,hN'⟩
  obtain⟨r2',rfl⟩:∃ r',r2=r'+1:=⟨r2 - 1,by omega⟩
  have kJ:∀ X:Blk,(K++[X])[K.length]?=some X:=fun X=>by rw[hget_app0];rfl
  have kJs:∀ X Y:Blk,(K++[X]).set K.length Y=K++[Y]:=fun X Y=>by rw[List.set_append_right _ _ (Nat.le_refl _),Nat.sub_self];rfl
  obtain⟨lk,hlk⟩:∃ lk,ls'[k]?=some lk:=⟨_,List.getElem?_eq_getElem (by omega)⟩
  have hall1:=hE.all
  obtain⟨cc,hcc,hccl,hcE⟩:=hE.2 k lk hlk
  obtain⟨c0,c1,c2,c6⟩:=(hcE K (OlP.refl _ _)).at0
  have f0:ces.flatten[k*50]?=some (.int .i64 lk.kind):=by have h00:=flatten_get 0 hall1 hcc (by omega);rwa [Nat.add_zero,c0] at h00
  have f2:ces.flatten[k*50+2]?=some (.int .i64 lk.comp):=by rw[← c2];exact flatten_get 2 hall1 hcc (by omega)
  have f6:ces.flatten[k*50+6]?=some (.int .i64 lk.start):=by rw[← c6];exact flatten_get 6 hall1 hcc (by omega)
  have p0:(0:Int)≤(k:Int):=by omega
  have p1:(k:Int)<(x.length:Int):=by omega
  have wk:IntKind.i64.wrap ((k:Int)+1)=((k+1:Nat):Int):=by rw[wi (by omega) (by omega)];rfl
  have wz:IntKind.i64.wrap (z'+1)=z'+1:=by rw[wi (by omega) (by omega)]
  have hCel:ces.length=x.length:=by rw[hE.1,hl']
  by_cases hkd:lk.kind=1
  case neg=>
   (refine sg (et t0 (et t1 (et t4 (et t5 (et t6 (et t7 (et t8 (et t15 (et t16 (et t28 (et t29 (et (dt p1) (et p0 (et p1 (et Int.toNat_natCast (et Nat.zero_add (et Nat.add_zero (et kJ (et f0 (et (bf hkd) wk)))))))))))))))))))) ?_;try exact⟨⟩)
   exact⟨r2',by omega,k+1,z',ces,ls',by omega,hz0',by omega,rfl,rfl,rfl,hE,hl',hN'⟩
  have hpz:(∃ q:Nat,z'=(q:Int)∧ps[q]?=some true)∨(decide (z'<(ps.length:Int))=false∨∃ q:Nat,z'=(q:Int)∧ps[q]?=some false):=by
   obtain⟨q,rfl⟩:∃ q:Nat,z'=(q:Int):=⟨z'.toNat,by omega⟩
   by_cases hq:q<ps.length
   ·cases hb:ps[q] with
    | true=>exact .inl ⟨q,rfl,by rw[List.getElem?_eq_getElem hq,hb]⟩
    | false=>exact .inr (.inr ⟨q,rfl,by rw[List.getElem?_eq_getElem hq,hb]⟩)
   ·exact .inr (.inl (df (by omega)))
  rcases hpz with ⟨q,rfl,hpq⟩|hpf|⟨q,rfl,hpq⟩
  case inr.inl=>
   (refine sg (et t0 (et t1 (et t4 (et t5 (et t6 (et t7 (et t8 (et t15 (et t16 (et t28 (et t29 (et (dt p1) (et p0 (et p1 (et Int.toNat_natCast (et Nat.zero_add (et Nat.add_zero (et kJ (et f0 (et (bt hkd) (et wk (et hpf wz)))))))))))))))))))))) ?_;try exact⟨⟩)
   exact⟨r2',by omega,k+1,z'+1,ces,ls',by omega,by omega,by omega,rfl,rfl,rfl,hE,hl',hN'⟩
  case inr.inr=>
   obtain⟨bp,gp,cellsp,rwp,cp,hvp,hbp,hcp,hclp,hlep,hldp,hgtp⟩:=hp.at hpq
   unfold BoE at hcp
   subst hcp
   have fp:cellsp[q*1]?=some (.bool false):=hgtp 0 (by omega)
   have hql:=(List.getElem?_eq_some_iff.1 hpq).1
   rw[hvp] at t1
   (refine sg (et t0 (et t1 (et t4 (et t5 (et t6 (et t7 (et t8 (et t15 (et t16 (et t28 (et t29 (et (dt p1) (et p0 (et p1 (et Int.toNat_natCast (et Nat.zero_add (et Nat.add_zero (et kJ (et f0 (et (bt hkd) (et wk (et (dt (show (q:Int)<(ps.length:Int) by omega)) (et (show (0:Int)≤(q:Int) by omega) (et (show (q:Int)<(ps.length:Int) by omega) (et (old_get (oK _ _ hbp)) (et fp wz)))))))))))))))))))))))))) ?_;try exact⟨⟩)
   exact⟨r2',by omega,by rw[hvp],k+1,(q:Int)+1,ces,ls',by omega,by omega,by omega,rfl,rfl,rfl,hE,hl',hN'⟩
  case inl=>
   obtain⟨bp,gp,cellsp,rwp,cp,hvp,hbp,hcp,hclp,hlep,hldp,hgtp⟩:=hp.at hpq
   unfold BoE at hcp
   subst hcp
   have fp:cellsp[q*1]?=some (.bool true):=hgtp 0 (by omega)
   have hql:=(List.getElem?_eq_some_iff.1 hpq).1
   rw[hvp] at t1
   (refine sg (et t0 (et t1 (et t4 (et t5 (et t6 (et t7 (et t8 (et t15 (et t16 (et t28 (et t29 (et (dt p1) (et p0 (et p1 (et Int.toNat_natCast (et Nat.zero_add (et Nat.add_zero (et kJ (et f0 (et (bt hkd) (et wk (et (dt (show (q:Int)<(ps.length:Int) by omega)) (et (show (0:Int)≤(q:Int) by omega) (et (show (q:Int)<(ps.length:Int) by omega) (et (old_get (oK _ _ hbp)) (et fp wz)))))))))))))))))))))))))) ?_;try exact⟨⟩)
   first|refine drawnF ?_ (by decide +kernel)|refine drawnU [] (by decide +kernel) ?_
   have hst:=fun V (cs:List Value) (hc:cs.length=50)=>ast_el (s:=50) (V:=V) (g:=1) (b:=K.length) (i:=k) (cs:=cs) hall1 (by omega) hc
   simp only[go_sem,Nat.reduceEqDiff,Nat.reduceAdd,Nat.reduceSub,Nat.reduceMul,Nat.reduceLT,Nat.reduceLeDiff,Int.reducePow,Int.reduceBEq,Int.reduceBNe,Int.reduceDiv,Int.reduceMod,Int.reduceEq,Int.reduceLT,Int.reduceLE,Int.reduceAdd,Int.reduceSub,Int.reduceMul,Int.reduceNeg,Int.reduceToNat,Int.reduceTDiv,Int.reduceTMod,↓reduceIte,t0,t1,t4,t5,t6,t7,t8,t15,t16,t28,t29,dt p1,p0,p1,Int.toNat_natCast,Nat.zero_add,Nat.add_zero,kJ,kJs,kdK0,f0,f2,f6,bt hkd,wk,wz,hst,List.length_cons,List.length_nil,Nat.reduceAdd]
   refine xgen (Φ:=fun J=>∃ (ces:List (List Value)) (ls':List Ly),J=K++[⟨ces.flatten,1,true⟩]∧ElH (OlP (pB (H.length+1) b0) K) ces ls'∧ls'.length=x.length∧∀ y∈ls',LyN 100 y) ⟨_,_,rfl,hE.put k rfl (fun J _=>lyPn_E lk.comp lk.start J),by rw[List.length_set];exact hl',set_all hN' (lyPn_N _ _)⟩ ?_
   clear hlk hall1 hcc hccl hcE c0 c1 c2 c6 f0 f2 f6 hE hl' hN' hCel hkd hst
   rintro J ⟨ces2,ls2,rfl,hE2,hl2,hN2⟩
   have hall2:=hE2.all
   by_cases hk1:k+1<x.length
   case' pos=>
    obtain⟨ln,hln⟩:∃ ln,ls2[k+1]?=some ln:=⟨_,List.getElem?_eq_getElem (by omega)⟩
    obtain⟨cn,hcn,hcnl,hcnE⟩:=hE2.2 (k+1) ln hln
    have hst2:=fun V v=>ast_at (s:=50) (V:=V) (g:=1) (b:=K.length) (j:=3) v hall2 hcn (by omega)
    (refine sg (et t0 (et t1 (et t4 (et t5 (et t6 (et t7 (et t8 (et t15 (et t16 (et t28 (et t29 (et (dt (show ((k+1:Nat):Int)<(x.length:Int) by omega)) (et (show (0:Int)≤((k+1:Nat):Int) by omega) (et (show ((k+1:Nat):Int)<(x.length:Int) by omega) (et Int.toNat_natCast (et Nat.zero_add (et Nat.add_zero (et kJ (et kJs (et kdK0 (et wk hst2))))))))))))))))))))) ?_;try exact⟨⟩)
   case' neg=>
    (refine sg (et t0 (et t1 (et t4 (et t5 (et t6 (et t7 (et t8 (et t15 (et t16 (et t28 (et t29 (df (show ¬ ((k+1:Nat):Int)<(x.length:Int) by omega))))))))))))) ?_;try exact⟨⟩)
   all_goals
    refine keep (fun r3 T J D=>D=[]∧T 0=lv∧T 1=.slice pa ps.length pe∧T 4=ap H.length 0 0∧T 5=ap V.length 0 0∧T 15=.int .i64 (d.comps.length:Int)∧T 16=.int .i64 (c:Int)∧T 7=.int .i64 (c:Int)∧T 8=sl K.length 0 1 x.length 50∧T 28=.int .i64 (x.length:Int)∧T 6=.int .i64 (q:Int)∧T 29=.int .i64 (k:Int)∧T 9=.int .i64 (k:Int)∧T 75=.int .i64 (x.length:Int)∧∃ (j:Nat) (ces:List (List Value)) (ls':List Ly),j+r3=x.length∧T 76=.int .i64 (j:Int)∧J=K++[⟨ces.flatten,1,true⟩]∧ElH (OlP (pB (H.length+1) b0) K) ces ls'∧ls'.length=x.length∧∀ y∈ls',LyN 100 y) x.length
     ⟨rfl,by(refine sg t0 ?_;try exact⟨⟩),by rw[hvp];(refine sg t1 ?_;try exact⟨⟩),by(refine sg t4 ?_;try exact⟨⟩),by(refine sg t5 ?_;try exact⟨⟩),by(refine sg t15 ?_;try exact⟨⟩),by(refine sg t16 ?_;try exact⟨⟩),by(refine sg t7 ?_;try exact⟨⟩),by(refine sg t8 ?_;try exact⟨⟩),by(refine sg t28 ?_;try exact⟨⟩),by(refine sg t6 ?_;try exact⟨⟩),by(refine sg t29 ?_;try exact⟨⟩),by(refine sg trivial ?_;try exact⟨⟩),by(refine sg trivial ?_;try exact⟨⟩),0,_,_,by omega,by(refine sg trivial ?_;try exact⟨⟩) <;> rfl,rfl,by first|exact hE2.put (k+1) (by simp[hcnl]) (fun J o=>(hcnE J o).mat 0)|exact hE2,by first|exact hl2|(rw[List.length_set];exact hl2),by first|exact hN2|exact set_all hN2 ((hN2 _ (List.mem_of_getElem? hln)).mat 0)⟩ ?_
    clear t0 t1 t4 t5 t6 t7 t8 t15 t16 t28 t29 hE2 hl2 hN2 hall2
    rintro r3 T3 J D ⟨rfl,t0,t1,t4,t5,t15,t16,t7,t8,t28,t6,t29,t9,t75,j,ces,ls',hjr,t76,rfl,hE,hl',hN'⟩
    have hall1:=hE.all
    by_cases hj:j<x.length
    ·obtain⟨r3',rfl⟩:∃ r',r3=r'+1:=⟨r3 - 1,by omega⟩
     obtain⟨lj,hlj⟩:∃ lj,ls'[j]?=some lj:=⟨_,List.getElem?_eq_getElem (by omega)⟩
     obtain⟨cj,hcj,hcjl,hcjE⟩:=hE.2 j lj hlj
     obtain⟨c0,c1,c2,c6⟩:=(hcjE K (OlP.refl _ _)).at0
     have f1:ces.flatten[j*50+1]?=some (.int .i64 lj.parent):=by rw[← c1];exact flatten_get 1 hall1 hcj (by omega)
     have j0:(0:Int)≤(j:Int):=by omega
     have j1:(j:Int)<(x.length:Int):=by omega
     have wj:IntKind.i64.wrap ((j:Int)+1)=((j+1:Nat):Int):=by rw[wi (by omega) (by omega)];rfl
     by_cases hpk:lj.parent=(k:Int)
     ·have hst3:=fun V v=>ast_at (s:=50) (V:=V) (g:=1) (b:=K.length) (j:=1) v hall1 hcj (by omega)
      (refine sg (et t0 (et t1 (et t4 (et t5 (et t6 (et t7 (et t8 (et t9 (et t15 (et t16 (et t28 (et t29 (et t75 (et t76 (et (dt j1) (et j0 (et j1 (et Int.toNat_natCast (et Nat.zero_add (et Nat.add_zero (et kJ (et kJs (et kdK0 (et wj (et hst3 (et f1 (bt hpk))))))))))))))))))))))))))) ?_;try exact⟨⟩)
      exact⟨r3',by omega,j+1,_,_,by omega,rfl,rfl,hE.put j (by simp[hcjl]) (fun J o=>(hcjE J o).up (-1)),by rw[List.length_set];exact hl',set_all hN' ((hN' _ (List.mem_of_getElem? hlj)).up1 (-1))⟩
     ·(refine sg (et t0 (et t1 (et t4 (et t5 (et t6 (et t7 (et t8 (et t9 (et t15 (et t16 (et t28 (et t29 (et t75 (et t76 (et (dt j1) (et j0 (et j1 (et Int.toNat_natCast (et Nat.zero_add (et Nat.add_zero (et kJ (et kJs (et kdK0 (et wj (et f1 (bf hpk)))))))))))))))))))))))))) ?_;try exact⟨⟩)
      exact⟨r3',by omega,j+1,ces,ls',by omega,rfl,rfl,hE,hl',hN'⟩
    obtain⟨lk,hlk⟩:∃ lk,ls'[k]?=some lk:=⟨_,List.getElem?_eq_getElem (by omega)⟩
    obtain⟨cc,hcc,hccl,hcE⟩:=hE.2 k lk hlk
    obtain⟨c0,c1,c2,c6⟩:=(hcE K (OlP.refl _ _)).at0
    have f0:ces.flatten[k*50]?=some (.int .i64 lk.kind):=by have h00:=flatten_get 0 hall1 hcc (by omega);rwa [Nat.add_zero,c0] at h00
    by_cases hkd:lk.kind=1
    ·(refine sg (et t0 (et t1 (et t4 (et t5 (et t6 (et t7 (et t8 (et t9 (et t15 (et t16 (et t28 (et t29 (et t75 (et t76 (et (df (show ¬ (j:Int)<(x.length:Int) by omega)) (et p0 (et p1 (et Int.toNat_natCast (et Nat.zero_add (et Nat.add_zero (et kJ (et f0 (et (bt hkd) (et wk wz)))))))))))))))))))))))) ?_;try exact⟨⟩)
     exact⟨r2',by omega,k+1,(q:Int)+1,ces,ls',by omega,by omega,by omega,rfl,rfl,rfl,hE,hl',hN'⟩
    ·(refine sg (et t0 (et t1 (et t4 (et t5 (et t6 (et t7 (et t8 (et t9 (et t15 (et t16 (et t28 (et t29 (et t75 (et t76 (et (df (show ¬ (j:Int)<(x.length:Int) by omega)) (et p0 (et p1 (et Int.toNat_natCast (et Nat.zero_add (et Nat.add_zero (et kJ (et f0 (et (bf hkd) (et wk wz)))))))))))))))))))))))) ?_;try exact⟨⟩)
     exact⟨r2',by omega,k+1,(q:Int),ces,ls',by omega,by omega,by omega,rfl,rfl,rfl,hE,hl',hN'⟩
end Go.Proofs.YthhbglkokpablaaGreat
/- Comps laid open: the walks of known, tape. -/
namespace Go.Proofs.YthhbglkokpablaaGreat
open Go Go.RowKit E
attribute [local irreducible] XRun XOps XCode XCal XLoop XQ SemCall
set_option linter.unusedSimpArgs false
set_option linter.unusedVariables false
def iL1:Ly:=⟨1,-1,1,0,0,5,1,[],[],[],[],[],[],[],[],[],(false,[]),sh00⟩
def iL2:Ly:=⟨0,-1,0,0,0,9,0,[],[],[],[],[],[],[],[],[],(false,[]),sh00⟩
def iL3:Ly:=⟨0,-1,0,0,1,5,1,[],[],[],[],[],[],[],[],[],(false,[]),sh00⟩
def iLD:Dc:=⟨0,9,[[iL1],[iL2]]⟩
def iLO:Dc:=⟨0,9,[[iL3],[iL2]]⟩
theorem il_may:mayE iLD 0 0=0:=by decide +kernel
theorem il_may1:mayE iLD 1 0=22:=by decide +kernel
theorem il_open:openE iLD 0 0=iLO:=by kernel_rfl
theorem il_one:oneE iLD=some iLO:=by kernel_rfl
theorem il_one2:oneE iLO=none:=by kernel_rfl
theorem il_all:allE iLD=iLO:=by rw[allE_some il_one,allE_none il_one2]
def tapx27 (k i:Int):Int:=(IntKind.i64.wrap (IntKind.i64.wrap (IntKind.i64.wrap (IntKind.i64.wrap (i*i)*7)+IntKind.i64.wrap (k*31))+IntKind.i64.wrap (i*k))).tmod 211
set_option maxHeartbeats 4000000 in
theorem tape27_ (k:Int) (H:AH):Cal Tryz.prog 8 [.int .i64 k] H fun v H' W=>W=[]∧(∃ L,H'=H++L)∧∃ ls,Ints H' H'.length v ls:=by
 refine adds_of ?_
 have kd:∀ n,decide (H.length+n<H.length)=false:=fun n=>df (by omega)
 have kd0:decide (H.length<H.length)=false:=df (by omega)
 refine XCal.of hm Tryz.func8 rfl (fun xs w=>Tryz.call8 xs w) Tryz.ntmps8 Tryz.results8 rfl ?_
 (refine sg (et kd kd0) ?_;try exact⟨⟩)
 refine keep (fun r T K D=>D=[]∧∃ (i:Nat) (ls:List Int) (v:Value),i+r=250∧ls.length=i∧Old H K∧H.length≤K.length∧T 0=.int .i64 k∧T 3=v∧T 4=.int .i64 (i:Int)∧MkInts H.length K v ls) 250
  ⟨rfl,0,[],_,by omega,rfl,Old.refl H,by omega,by(refine sg trivial ?_;try exact⟨⟩),by(refine sg trivial ?_;try exact⟨⟩) <;> rfl,by(refine sg trivial ?_;try exact⟨⟩) <;> rfl,.inl ⟨rfl,rfl⟩⟩ ?_
 rintro r T K D ⟨rfl,i,ls,v,hir,hl,o,hKl,t0,t3,t4,hM⟩
 have kdK:∀ n,decide (K.length+n<H.length)=false:=fun n=>df (by omega)
 have kdK0:decide (K.length<H.length)=false:=df (by omega)
 by_cases hi:i<250
 ·have w1:IntKind.i64.wrap ((i:Int)+1)=((i+1:Nat):Int):=by rw[wi (by omega) (by omega)];rfl
  rcases hM with ⟨rfl,rfl⟩|⟨b,g,hb,rfl,hk⟩
  ·(refine sg (et t0 (et t3 (et t4 (et (dt (show (i:Int)<250 by omega)) (et kdK (et kdK0 w1)))))) ?_;try exact⟨⟩)
   exact⟨r - 1,by omega,i+1,[tapx27 k i],_,by omega,by simp at hl;simp[← hl],o.trans (Old.app' _ _),by omega,rfl,rfl,.inr ⟨_,_,by omega,rfl,by rw[hget_app];rfl⟩⟩
  ·have hbl:=(List.getElem?_eq_some_iff.1 hk).1
   have hcl:=intC_len ls
   have hsm:(ls.length+1)*8 - 140737488355328=0:=Nat.sub_eq_zero_of_le (Nat.le_trans (Nat.mul_le_mul_right 8 (show ls.length+1≤250 by omega)) (by decide))
   have hsm2:ls.length+1 - 140737488355328=0:=Nat.sub_eq_zero_of_le (Nat.le_trans (show ls.length+1≤250 by omega) (by decide))
   have db0:decide (b<H.length)=false:=df (by omega)
   have hmul:ls.length*1=(intC ls).length:=by rw[hcl,Nat.mul_one]
   (refine sg (et t0 (et t3 (et t4 (et (dt (show (i:Int)<250 by omega)) (et kdK (et kdK0 (et w1 (et (old_get hk) (et (old_set hk) (et hsm (et hsm2 (et db0 hmul)))))))))))) ?_;try exact⟨⟩)
   refine⟨r - 1,by omega,i+1,ls++[tapx27 k i],_,by omega,by rw[List.length_append,hl];rfl,fun c k' e=>Olx.set1 _ _ _ _ c k' (by have:=(List.getElem?_eq_some_iff.1 e).1;omega) (o c k' e),by omega,rfl,rfl,.inr ⟨b,g+1,hb,by rw[List.length_append];rfl,?_⟩⟩
   rw[← intC_snoc]
   exact old_sget hk _ _
 ·have hi:i=250:=by omega
  (refine sg (et t0 (et t3 (et t4 (et (df (show ¬ (i:Int)<250 by omega)) (et kdK kdK0))))) ?_;try exact⟨⟩)
  rcases hM with ⟨rfl,rfl⟩|⟨b,g,hb,rfl,hk⟩
  ·exact⟨[],.inl ⟨rfl,.inr rfl⟩⟩
  ·have hbl:=(List.getElem?_eq_some_iff.1 hk).1
   exact⟨ls,.inr ⟨b,g,[],true,rfl,by omega,by rw[List.append_nil];exact hk,by omega⟩⟩
set_option maxHeartbeats 4000000 in
theorem known27_ (H:AH):SemCall Tryz.prog 10 [] H (.bool true) H []:=by
 refine pure_of ?_ rfl
 have kd:∀ n,decide (H.length+n<H.length)=false:=fun n=>df (by omega)
 have kd0:decide (H.length<H.length)=false:=df (by omega)
 have hz:DcS iLD:=⟨by decide,fun c hc=>by
  have:c=[iL1]∨c=[iL2]:=by simpa [iLD] using hc
  rcases this with rfl|rfl
  ·exact⟨by decide,fun l hl=>by rw[List.mem_singleton.1 hl];constructor <;> simp[iL1,sh00]⟩
  ·exact⟨by decide,fun l hl=>by rw[List.mem_singleton.1 hl];constructor <;> simp[iL2,sh00]⟩⟩
 refine XCal.of hm Tryz.func10 rfl (fun xs w=>Tryz.call10 xs w) Tryz.ntmps10 Tryz.results10 rfl ?_
 refine wcode_cut (fun T J D=>D=[]∧J=H) ?_ ?_
 ·(refine sg (et kd kd0) ?_;try exact⟨⟩)
 rintro T J D ⟨rfl,rfl⟩
 refine wcode_cut (fun T K D=>D=[]∧T 1=ap (J.length+3) 0 0∧Old J K∧J.length+4≤K.length∧∃ a e,K[J.length+3]?=some ⟨[.int .i64 0,.int .i64 9,.slice a 2 e],0,true⟩∧Cos K (.slice a 2 e) iLD.comps) ?_ ?_
 ·(refine sg (et kd kd0) ?_;try exact⟨⟩)
  refine⟨Old.app' _ _,by simp,_,_,rfl,.inr ⟨J.length+2,0,[],true,[[sl J.length 0 0 1 50],[sl (J.length+1) 0 0 1 50]],rfl,by rw[hget_app];rfl,rfl,by decide,fun i x hx=>?_⟩⟩
  match i,hx with
  | 0,hx=>
   cases hx
   exact⟨_,rfl,rfl,_,rfl,RowOf.one (c:=lyVs iL1 nl nl nl nl nl nl nl nl nl nl nl nl nl nl nl nl nl nl) (by rw[hget_app0];rfl) rfl ⟨_,_,_,_,_,_,_,_,_,_,_,_,_,_,_,_,_,_,rfl,⟨RowOf.none,RowOf.none,RowOf.none,RowOf.none,RowOf.none,RowOf.none,RowOf.none,RowOf.none,RowOf.none,.inl ⟨rfl,.inr rfl⟩⟩,ShV.zero _⟩⟩
  | 1,hx=>
   cases hx
   exact⟨_,rfl,rfl,_,rfl,RowOf.one (c:=lyVs iL2 nl nl nl nl nl nl nl nl nl nl nl nl nl nl nl nl nl nl) (by rw[hget_app];rfl) rfl ⟨_,_,_,_,_,_,_,_,_,_,_,_,_,_,_,_,_,_,rfl,⟨RowOf.none,RowOf.none,RowOf.none,RowOf.none,RowOf.none,RowOf.none,RowOf.none,RowOf.none,RowOf.none,.inl ⟨rfl,.inr rfl⟩⟩,ShV.zero _⟩⟩
 clear T
 rintro T K D ⟨rfl,t1,oK,lK,a,e,g1,hC⟩
 have kdK:∀ n,decide (K.length+n<J.length)=false:=fun n=>df (by omega)
 have kdK0:decide (K.length<J.length)=false:=df (by omega)
 (refine sg (et t1 g1) ?_;try exact⟨⟩)
 refine(ans_ iLD _ 0 0 K hC hz).x ?_
 rintro v H1 W1 ⟨rfl,⟨L,rfl⟩,a2,x2,rfl,hO⟩
 have hans:ansE iLD 0 0=iLO:=by unfold ansE;rw[if_pos il_may];exact il_open
 rw[hans] at hO ⊢
 rw[il_may]
 have oV:Old K (K++L):=Old.app' _ _
 have lV:=old_len oV
 generalize K++L=V at *
 have kdV:∀ n,decide (V.length+n<J.length)=false:=fun n=>df (by omega)
 have kdV0:decide (V.length<J.length)=false:=df (by omega)
 have gV1:=oV _ _ g1
 obtain⟨b1,g1',cells1,rw1,cc,hve1,hb1,⟨lv,rfl,hL⟩,hcl1,hle1,hld1,hgt1⟩:=hO.at (i:=0) (x:=[iL3]) rfl
 obtain⟨b2,g2',cells2,rw2,cc2,hve2,hb2,⟨v0,v1,v2,v3,v4,v5,v6,v7,v8,v9,v10,v11,v12,v13,v14,v15,v16,v17,rfl,hLV,hSV⟩,hcl2,hle2,hld2,hgt2⟩:=hL.at (i:=0) (x:=iL3) rfl
 have f1:cells1[0]?=some lv:=hgt1 0 (by omega)
 have hve1:Value.slice a2 iLO.comps.length x2=sl b1 0 g1' 2 1:=hve1
 have hve2:lv=sl b2 0 g2' 1 50:=hve2
 subst hve2
 rw[hve1] at hO ⊢
 have f2:cells2[0]?=some (.int .i64 0):=hgt2 0 (by omega)
 simp only[Nat.zero_mul] at hld1 hld2
 have hCV:∀ L,Cos (V++L) (.slice a 2 e) iLD.comps:=fun L=>hC.old CoE.m (oV.app L)
 (refine sg (et kdV (et kdV0 (et hb1 (et f1 (et hb2 (et (old_get hb1) (et (old_get hb2) (et hld2 (et Int.toNat_natCast (et Int.toNat_zero Nat.zero_mul)))))))))) ?_;try exact⟨⟩)
 have e1:(iL3.kind==0)=true:=by decide
 have e2:(iL3.in_==1)=true:=by decide
 have e3:(iL3.out==5)=true:=by decide
 have e4:(iL3.start==1)=true:=by decide
 have hCV2:∀ L,Cos (V++L) (sl b1 0 g1' 2 1) iLO.comps:=fun L=>hO.old CoE.m (Old.app' V L)
 have k2:Value.agg #[.int .i64 0,.int .i64 9,.slice a 2 e]=dcV iLD (.slice a 2 e):=rfl
 have k3:Value.agg #[.int .i64 0,.int .i64 9,sl b1 0 g1' 2 1]=dcV iLO (sl b1 0 g1' 2 1):=rfl
 first|refine drawnF ?_ (by decide +kernel)|refine drawnU [(30,31)] (by decide +kernel) ?_
 (refine sg (et t1 (et kdV (et kdV0 (et (old_get gV1) (et e1 (et e2 (et e3 e4))))))) ?_;try exact⟨⟩)
 refine(may_ iLD _ 1 0 _ (hCV _) hz).x ?_
 rw[il_may1]
 (refine sg (et t1 (et kdV (et kdV0 (old_get gV1)))) ?_;try exact⟨⟩)
 refine(may_ iLD _ 0 0 _ (hCV _) hz).x ?_
 rw[il_may]
 (refine sg (et t1 (et kdV (et kdV0 (old_get gV1)))) ?_;try exact⟨⟩)
 refine(all_ iLD _ _ (hCV _) hz).x ?_
 rintro v H1 W1 ⟨rfl,⟨L,rfl⟩,cw,rfl,hC1⟩
 rw[il_all] at hC1 ⊢
 have hC1:=hC1.here
 obtain⟨xa,xe,hxf⟩:=hC1.form
 subst hxf
 have gX:∀ A B:Blk,(V++[A,B]++L)[V.length]?=some A:=fun A B=>by rw[List.append_assoc,hget_app0];rfl
 (refine sg (et t1 (et kdV (et kdV0 (et (old_get gV1) gX)))) ?_;try exact⟨⟩)
 refine(rdsame_ iLO iLO _ _ _ hC1 ((hCV2 _).old CoE.m (Old.app' _ L))).x ?_
 rw[dcQ_refl]
 (refine sg trivial ?_;try exact⟨⟩)
end Go.Proofs.YthhbglkokpablaaGreat
/- Comps laid open: what is laid open is right: the plain law. -/
namespace Go.Proofs.YthhbglkokpablaaGreat
open Go Go.RowKit E
set_option linter.unusedSimpArgs false
set_option linter.unusedVariables false
theorem tree_iff {cs:List (List Ly)} {n k:Nat} {c:List Ly} {l:Ly}:treeB cs n k c l=true↔(l.parent=-1∨0≤l.parent∧l.parent<(c.length:Int))∧ringsB (Ly.parents c) k=false∧(l.matte=0∨¬ k=0∧(c[k - 1]?).elim 0 (·.matte)=0)∧(l.kind=1→0≤l.comp∧l.comp<(cs.length:Int)∧(n:Int)<l.comp):=by
 unfold treeB
 generalize ringsB (Ly.parents c) k=r
 generalize (c[k - 1]?).elim 0 (·.matte)=mt
 have e1:(l.parent != -1)=decide (¬ l.parent=-1):=by by_cases h:l.parent=-1 <;> simp[h]
 have e2:(l.matte != 0)=decide (¬ l.matte=0):=by by_cases h:l.matte=0 <;> simp[h]
 have e3:((k:Int)==0)=decide (k=0):=by by_cases h:k=0 <;> simp[h]
 have e4:(mt != 0)=decide (¬ mt=0):=by by_cases h:mt=0 <;> simp[h]
 have e5:(l.kind==1)=decide (l.kind=1):=by by_cases h:l.kind=1 <;> simp[h]
 rw[e1,e2,e3,e4,e5]
 by_cases p1:l.parent=-1 <;> by_cases p2:0≤l.parent <;> by_cases p3:l.parent<(c.length:Int) <;> by_cases p4:l.matte=0 <;> by_cases p5:k=0 <;> by_cases p6:mt=0 <;> by_cases p7:l.kind=1 <;> cases r <;> simp[p1,p2,p3,p4,p5,p6,p7] <;> omega
theorem no_loop {ps:List Int} (h:∀ p∈ps,p<(ps.length:Int)) (hr:∀ k:Nat,k<ps.length→ringsB ps k=false) {j:Nat} (hj:j<ps.length) {t:Nat} (ht:1≤t):chn ps j t≠j:=fun e=>by
 have hm:∀ i,chn ps j (i*t)=j:=fun i=>by
  induction i with
  | zero=>rw[Nat.zero_mul];rfl
  | succ i ih=>rw[Nat.add_mul,Nat.one_mul,chn_add,ih,e]
 have:0≤chn ps j (ps.length+1):=by
  rcases ilt_ge (chn ps j (ps.length+1)) 0 with hlt|hge
  ·have hle:ps.length+1≤(ps.length+1)*t:=Nat.le_mul_of_pos_right _ (by omega)
   have:=chn_add ps j (ps.length+1) ((ps.length+1)*t - (ps.length+1))
   rw[show ps.length+1+((ps.length+1)*t - (ps.length+1))=(ps.length+1)*t by omega,hm,chn_neg hlt] at this
   omega
  ·exact hge
 obtain⟨k,hk,hR⟩:=(ring_law ps h).1 ⟨j,hj,this⟩
 have:=(ringsB_iff ps k hk).2 hR
 rw[hr k hk] at this;cases this
theorem chn_map {ps qs:List Int} {f:Int→Int} {P:Int→Prop} (hn:∀ a,P a→a<0→f a<0) (hf:∀ a,P a→0≤a→0≤f a∧P ((ps[a.toNat]?).getD (-1))∧(qs[(f a).toNat]?).getD (-1)=f ((ps[a.toNat]?).getD (-1))) {i:Int} (hi:P i):∀ t,P (chn ps i t)∧chn qs (f i) t=f (chn ps i t)
 | 0=>⟨hi,rfl⟩
 | t+1=>by
  obtain⟨h1,h2⟩:=chn_map hn hf hi t
  rw[chn,chn,h2]
  by_cases h0:0≤chn ps i t
  ·obtain⟨g1,g2,g3⟩:=hf _ h1 h0
   rw[if_pos h0,if_pos g1];exact⟨g2,g3⟩
  ·have:=hn _ h1 (by omega)
   rw[if_neg h0,if_neg (by omega)];exact⟨h1,rfl⟩
theorem ring_map {ps qs:List Int} {f:Int→Int} {P:Int→Prop} (hn:∀ a,P a→a<0→f a<0) (hf:∀ a,P a→0≤a→0≤f a∧P ((ps[a.toNat]?).getD (-1))∧(qs[(f a).toNat]?).getD (-1)=f ((ps[a.toNat]?).getD (-1))) (inj:∀ a b,P a→P b→f a=f b→a=b)
  (h:∀ p∈ps,p<(ps.length:Int)) (hr:∀ k:Nat,k<ps.length→ringsB ps k=false) {j i:Nat} (hj:j<ps.length) (hP:P (j:Int)) (hi:(i:Int)=f (j:Int)) (hil:i<qs.length):ringsB qs i=false:=by
 cases e:ringsB qs i with
 | false=>rfl
 | true=>
  obtain⟨m,h1,h2,h3⟩:=(ringsB_iff qs i hil).1 e
  obtain⟨g1,g2⟩:=chn_map hn hf hP m
  rw[hi] at h3
  exact absurd (inj _ _ g1 hP (g2.symm.trans h3)) (no_loop h hr hj h1)
theorem open_lo {cs:List (List Ly)} {ls:List Ly} {k:Nat} {l:Ly} {i:Nat} (h:i<k) (hk:k<ls.length):(openL cs ls k l)[i]?=(ls[i]?).map (outL k (inner cs l).length):=by
 unfold openL
 rw[List.append_assoc,List.getElem?_append_left (by rw[List.length_map,List.length_take];omega),List.getElem?_map,List.getElem?_take_of_lt h]
theorem open_mid {cs:List (List Ly)} {ls:List Ly} {k:Nat} {l:Ly} {i:Nat} (hk:k<ls.length) (h:i<(inner cs l).length):(openL cs ls k l)[k+i]?=((inner cs l)[i]?).map (inL l k):=by
 unfold openL
 rw[List.append_assoc,List.getElem?_append_right (by rw[List.length_map,List.length_take];omega),List.length_map,List.length_take,List.getElem?_append_left (by rw[List.length_map];omega),List.getElem?_map,show k+i - min k ls.length=i by omega]
theorem open_hi {cs:List (List Ly)} {ls:List Ly} {k:Nat} {l:Ly} {i:Nat} (hk:k<ls.length):(openL cs ls k l)[k+(inner cs l).length+i]?=(ls[k+1+i]?).map (outL k (inner cs l).length):=by
 unfold openL
 rw[List.append_assoc,List.getElem?_append_right (by rw[List.length_map,List.length_take];omega),List.length_map,List.length_take,List.getElem?_append_right (by rw[List.length_map];omega),List.getElem?_map,List.length_map,List.getElem?_drop,show k+1+(k+(inner cs l).length+i - min k ls.length - (inner cs l).length)=k+1+i by omega]
theorem open_lenR {cs:List (List Ly)} {ls:List Ly} {k:Nat} {l:Ly} (hk:k<ls.length):(openL cs ls k l).length=ls.length - 1+(inner cs l).length:=by
 unfold openL
 rw[List.length_append,List.length_append,List.length_map,List.length_map,List.length_map,List.length_take,List.length_drop];omega
/-- What is counted: more never makes less. -/
def Mn (F:Int→Ly→Int→Int):Prop:=∀ n n' i i' l,n≤n'→i≤i'→F n l i≤F n' l i'
theorem fold_mn {F:Int→Ly→Int→Int} (hF:Mn F) {r r':List Int} (h:LeL r r') (c n:Nat):∀ (ls:List Ly) (z z':Int),z≤z'→ls.foldl (fun m l=>F m l (innF r c n l)) z≤ls.foldl (fun m l=>F m l (innF r' c n l)) z'
 | [],z,z',hz=>hz
 | l::t,z,z',hz=>fold_mn hF h c n t _ _ (hF _ _ _ _ l hz (innF_le h c n l))
theorem cnt_set {F:Int→Ly→Int→Int} {z:Int} (hF:Mn F):∀ (cs:List (List Ly)) (c i:Nat) (ls ls':List Ly),cs[i]?=some ls →
  ls'.foldl (fun m l=>F m l (innF (cntGo F z (c+i+1) (cs.drop (i+1))) (c+i) (cs.drop (i+1)).length l)) z≤ls.foldl (fun m l=>F m l (innF (cntGo F z (c+i+1) (cs.drop (i+1))) (c+i) (cs.drop (i+1)).length l)) z →
  LeL (cntGo F z c (cs.set i ls')) (cntGo F z c cs)
 | [],c,i,ls,ls',h,_=>by simp at h
 | x::cs,c,0,ls,ls',h,h2=>by
  simp at h;subst h
  simp only[Nat.add_zero,List.drop_succ_cons,List.drop_zero,Nat.zero_add] at h2
  rw[List.set_cons_zero,cntGo_cons,cntGo_cons]
  exact(LeL.refl _).cons h2
 | x::cs,c,i+1,ls,ls',h,h2=>by
  rw[List.drop_succ_cons,show c+(i+1)+1=(c+1)+i+1 by omega,show c+(i+1)=(c+1)+i by omega] at h2
  have h3:=cnt_set hF cs (c+1) i ls ls' (by simpa using h) h2
  rw[List.set_cons_succ,cntGo_cons,cntGo_cons,List.length_set]
  exact h3.cons (fold_mn hF h3 c cs.length x z z (Int.le_refl _))
theorem cnt_at {F:Int→Ly→Int→Int} {z:Int}:∀ (cs:List (List Ly)) (c j:Nat) (ls:List Ly),cs[j]?=some ls→(cntGo F z c cs)[j]?=some (ls.foldl (fun m l=>F m l (innF (cntGo F z (c+j+1) (cs.drop (j+1))) (c+j) (cs.drop (j+1)).length l)) z)
 | [],c,j,ls,h=>by simp at h
 | x::cs,c,0,ls,h=>by simp at h;subst h;rw[cntGo_cons];rfl
 | x::cs,c,j+1,ls,h=>by
  rw[cntGo_cons,List.getElem?_cons_succ,cnt_at cs (c+1) j ls (by simpa using h),List.drop_succ_cons,show c+(j+1)+1=(c+1)+j+1 by omega,show c+(j+1)=(c+1)+j by omega]
theorem cnt_drop {F:Int→Ly→Int→Int} {z:Int}:∀ (cs:List (List Ly)) (c j:Nat),cntGo F z (c+j) (cs.drop j)=(cntGo F z c cs).drop j
 | [],c,j=>by simp[cntGo]
 | x::cs,c,0=>rfl
 | x::cs,c,j+1=>by
  rw[cntGo_cons,List.drop_succ_cons,List.drop_succ_cons,show c+(j+1)=(c+1)+j by omega]
  exact cnt_drop cs (c+1) j
/-- A layer's inner count, by the whole row. -/
def innW (F:Int→Ly→Int→Int) (z:Int) (cs:List (List Ly)) (l:Ly):Int:=if l.kind=1 then ((cntGo F z 0 cs)[l.comp.toNat]?).getD 0 else 0
theorem innF_at {F:Int→Ly→Int→Int} {z:Int} {cs:List (List Ly)} {i:Nat} {l:Ly} (h:l.kind=1→(i:Int)<l.comp∧l.comp<(cs.length:Int)):innF (cntGo F z (0+i+1) (cs.drop (i+1))) (0+i) (cs.drop (i+1)).length l=innW F z cs l:=by
 unfold innF innW
 by_cases hk:l.kind=1
 ·obtain⟨h1,h2⟩:=h hk
  rw[if_pos ⟨hk,by omega,by rw[List.length_drop];omega⟩,if_pos hk,show 0+i+1=0+(i+1) by omega,cnt_drop,List.getElem?_drop,show i+1+(l.comp - (((0+i:Nat):Int)+1)).toNat=l.comp.toNat by omega]
 ·rw[if_neg (fun e=>hk e.1),if_neg hk]
theorem foldl_same {α:Type} {f g:Int→α→Int}:∀ {l:List α} {z:Int},(∀ n,∀ x∈l,f n x=g n x)→l.foldl f z=l.foldl g z
 | [],z,_=>rfl
 | x::t,z,h=>by
  rw[List.foldl_cons,List.foldl_cons,h z x (List.mem_cons_self ..)]
  exact foldl_same fun n y hy=>h n y (List.mem_cons_of_mem _ hy)
/-- What is laid open counts no more. -/
theorem cnt_open {F:Int→Ly→Int→Int} {z:Int} (hF:Mn F) (hk:∀ n x y i,x.kind=y.kind→F n x i=F n y i) {d:Dc} (h:RightD d) {c k:Nat} {ls li:List Ly} {l:Ly} (hc:d.comps[c]?=some ls) (hkl:ls[k]?=some l) (hl:l.kind=1) (hli:d.comps[l.comp.toNat]?=some li)
  (hG:∀ (inn:Ly→Int) z1,z1=(ls.take k).foldl (fun n x=>F n x (inn x)) z→(∀ x,∃ c n,inn x=innF (cntGo F z (c+1) (d.comps.drop (c+1))) c n x)→li.foldl (fun n x=>F n x (innW F z d.comps x)) z1≤F z1 l (li.foldl (fun n x=>F n x (innW F z d.comps x)) z)) :
  LeL (cntGo F z 0 (openD d c k ls l).comps) (cntGo F z 0 d.comps):=by
 obtain⟨n1,n2⟩:=h.nest hc hkl hl
 have hin:inner d.comps l=li:=by unfold inner;rw[hli];rfl
 refine cnt_set hF d.comps 0 c ls _ hc ?_
 have hls:ls=ls.take k++[l]++ls.drop (k+1):=by rw[← take_snoc hkl,List.take_append_drop]
 have gL:innF (cntGo F z (0+c+1) (d.comps.drop (c+1))) (0+c) (d.comps.drop (c+1)).length l=li.foldl (fun n x=>F n x (innW F z d.comps x)) z:=by
  rw[innF_at (fun _=>⟨n1,n2⟩)]
  unfold innW
  rw[if_pos hl,cnt_at _ _ _ _ hli,Option.getD_some]
  refine foldl_same fun n x hx=>?_
  obtain⟨m,hm⟩:=List.getElem?_of_mem hx
  rw[innF_at (fun hk=>h.nest hli hm hk)];rfl
 have hG:=hG (innF (cntGo F z (0+c+1) (d.comps.drop (c+1))) (0+c) (d.comps.drop (c+1)).length) _ rfl (fun x=>⟨c,_,by rw[Nat.zero_add]⟩)
 have e2:∀ z1,(li.map (inL l k)).foldl (fun m x=>F m x (innF (cntGo F z (0+c+1) (d.comps.drop (c+1))) (0+c) (d.comps.drop (c+1)).length x)) z1=li.foldl (fun n x=>F n x (innW F z d.comps x)) z1:=fun z1=>by
  rw[List.foldl_map]
  refine foldl_same fun n x hx=>?_
  obtain⟨m,hm⟩:=List.getElem?_of_mem hx
  rw[innF_at (fun hk=>by have:=h.nest hli hm hk;exact⟨by show (c:Int)<x.comp;omega,this.2⟩),hk n (inL l k x) x _ rfl];rfl
 have e1:∀ (ys:List Ly) (a b z1:Int),(ys.map (outL a b)).foldl (fun m x=>F m x (innF (cntGo F z (0+c+1) (d.comps.drop (c+1))) (0+c) (d.comps.drop (c+1)).length x)) z1=ys.foldl (fun m x=>F m x (innF (cntGo F z (0+c+1) (d.comps.drop (c+1))) (0+c) (d.comps.drop (c+1)).length x)) z1:=fun ys a b z1=>by
  rw[List.foldl_map]
  exact foldl_same fun n x hx=>hk n (outL a b x) x _ rfl
 unfold openL
 rw[List.foldl_append,List.foldl_append,hin,e1,e1,e2]
 conv=>rhs;rw[hls]
 rw[List.foldl_append,List.foldl_append]
 refine fold_mn hF (LeL.refl _) _ _ _ _ _ ?_
 rw[List.foldl_cons,List.foldl_nil,gL]
 exact hG
theorem mn_dep:Mn depF:=fun n n' i i' l h1 h2=>by
 unfold depF mxI
 split <;> split <;> omega
theorem mn_nod:Mn nodF:=fun n n' i i' l h1 h2=>by
 unfold nodF
 have key:∀ a b:Int,a≤b→mnI a 257≤mnI b 257:=fun a b h=>by unfold mnI;split <;> split <;> omega
 refine key _ _ ?_
 split
 ·omega
 ·split <;> omega
theorem dep_in (w:Ly→Int):∀ (li:List Ly) (a b:Int),li.foldl (fun n x=>depF n x (w x)) (mxI a b)≤mxI a (li.foldl (fun n x=>depF n x (w x)) b)
 | [],a,b=>Int.le_refl _
 | x::t,a,b=>by
  rw[List.foldl_cons,List.foldl_cons]
  have e:depF (mxI a b) x (w x)=mxI a (depF b x (w x)):=by
   unfold depF mxI
   by_cases h1:a<b <;> by_cases h2:b<1+w x <;> by_cases h3:a<1+w x <;> simp[h1,h2,h3] <;> omega
  rw[e]
  exact dep_in w t a _
theorem fold_mn' {F:Int→Ly→Int→Int} (hF:Mn F) (w:Ly→Int):∀ (ls:List Ly) (z z':Int),z≤z'→ls.foldl (fun m l=>F m l (w l)) z≤ls.foldl (fun m l=>F m l (w l)) z'
 | [],z,z',hz=>hz
 | l::t,z,z',hz=>fold_mn' hF w t _ _ (hF _ _ _ _ l hz (Int.le_refl _))
theorem nod_in (w:Ly→Int) {a:Int} (ha:0≤a):∀ (li:List Ly) (b:Int),li.foldl (fun n x=>nodF n x (w x)) (a+b)≤a+li.foldl (fun n x=>nodF n x (w x)) b
 | [],b=>Int.le_refl _
 | x::t,b=>by
  rw[List.foldl_cons,List.foldl_cons]
  refine Int.le_trans (fold_mn' mn_nod w t _ (a+nodF b x (w x)) ?_) (nod_in w ha t _)
  unfold nodF mnI
  by_cases h0:x.kind=0
  ·rw[if_pos h0,if_pos h0];split <;> split <;> omega
  ·rw[if_neg h0,if_neg h0]
   by_cases h1:x.kind=1
   ·rw[if_pos h1,if_pos h1];split <;> split <;> omega
   ·rw[if_neg h1,if_neg h1];split <;> split <;> omega
theorem nod_257 (w:Ly→Int):∀ (li:List Ly) (b:Int),b≤257→li.foldl (fun n x=>nodF n x (w x)) b≤257
 | [],b,h=>h
 | x::t,b,h=>nod_257 w t _ (by show nodF b x (w x)≤257;unfold nodF mnI;split <;> omega)
theorem nod_nn (w:Ly→Int) (hw:∀ x,0≤w x):∀ (li:List Ly) (b:Int),0≤b→0≤li.foldl (fun n x=>nodF n x (w x)) b
 | [],b,h=>h
 | x::t,b,h=>nod_nn w hw t _ (by
  have:=hw x
  show 0≤nodF b x (w x)
  unfold nodF mnI
  by_cases h0:x.kind=0
  ·rw[if_pos h0];split <;> omega
  ·rw[if_neg h0]
   by_cases h1:x.kind=1
   ·rw[if_pos h1];split <;> omega
   ·rw[if_neg h1];split <;> omega)
theorem dep_open {d:Dc} (h:RightD d) {c k:Nat} {ls:List Ly} {l:Ly} (hc:d.comps[c]?=some ls) (hk:ls[k]?=some l) (hl:l.kind=1):LeL (cntGo depF 1 0 (openD d c k ls l).comps) (cntGo depF 1 0 d.comps):=by
 obtain⟨n1,n2⟩:=h.nest hc hk hl
 obtain⟨li,hli⟩:∃ li,d.comps[l.comp.toNat]?=some li:=⟨_,List.getElem?_eq_getElem (by omega)⟩
 refine cnt_open mn_dep (fun _ _ _ _ _=>rfl) h hc hk hl hli fun inn z1 _ _=>?_
 have h1:=fold_mn' mn_dep (innW depF 1 d.comps) li z1 (mxI z1 1) (by unfold mxI;split <;> omega)
 have h2:=dep_in (innW depF 1 d.comps) li z1 1
 refine Int.le_trans h1 (Int.le_trans h2 ?_)
 show mxI z1 _≤mxI z1 (1+_)
 unfold mxI
 split <;> split <;> omega
theorem nod_open {d:Dc} (h:RightD d) {c k:Nat} {ls:List Ly} {l:Ly} (hc:d.comps[c]?=some ls) (hk:ls[k]?=some l) (hl:l.kind=1):LeL (cntGo nodF 0 0 (openD d c k ls l).comps) (cntGo nodF 0 0 d.comps):=by
 obtain⟨n1,n2⟩:=h.nest hc hk hl
 obtain⟨li,hli⟩:∃ li,d.comps[l.comp.toNat]?=some li:=⟨_,List.getElem?_eq_getElem (by omega)⟩
 refine cnt_open mn_nod (fun n x y i e=>by unfold nodF;rw[e]) h hc hk hl hli fun inn z1 e1 hw=>?_
 have hw':∀ x,0≤inn x:=fun x=>by
  obtain⟨c,n,e⟩:=hw x
  rw[e]
  exact(innF_b (M:=257) (cntGo_b (cb_nod _) _ _ (Nat.le_refl _)) (by omega) c n x).1
 have z0:0≤z1:=by rw[e1];exact nod_nn inn hw' _ _ (Int.le_refl _)
 have z7:z1≤257:=by rw[e1];exact nod_257 inn _ _ (by omega)
 have h1:=nod_in (innW nodF 0 d.comps) z0 li 0
 have h2:=nod_257 (innW nodF 0 d.comps) li z1 z7
 rw[Int.add_zero] at h1
 have e:∀ S,nodF z1 l S=if 257<z1+(1+S) then 257 else z1+(1+S):=fun S=>by
  unfold nodF mnI
  rw[if_neg (show ¬ l.kind=0 by omega),if_pos hl]
 rw[e]
 split
 ·exact h2
 ·exact Int.le_trans h1 (by show z1+_≤z1+(1+_);omega)
theorem lele_at {a b:List Int} (h:LeL a b) (i:Nat):(a[i]?).getD 0≤(b[i]?).getD 0:=by
 cases ha:a[i]? with
 | none=>
  have:b[i]?=none:=by rw[List.getElem?_eq_none_iff] at ha ⊢;rw[← h.1];exact ha
  rw[this];exact Int.le_refl _
 | some x=>
  have hl:=(List.getElem?_eq_some_iff.1 ha).1
  obtain⟨y,hy⟩:∃ y,b[i]?=some y:=⟨_,List.getElem?_eq_getElem (by rw[← h.1];exact hl)⟩
  rw[hy];exact h.2 i x y ha hy
theorem cos_zero' {cs:List (List Ly)} (h:∀ (n:Nat) c,cs[n]?=some c→∀ (k:Nat) l,c[k]?=some l→layerB l=true∧treeB cs n k c l=true):∀ (m n:Nat),n+m=cs.length→cosE cs n (cs.drop n)=0
 | 0,n,hn=>by rw[List.drop_eq_nil_of_le (by omega)];rfl
 | m+1,n,hn=>by
  obtain⟨c,hc⟩:∃ c,cs[n]?=some c:=⟨_,List.getElem?_eq_getElem (by omega)⟩
  have hz:=lys_zero (cs:=cs) (n:=n) (c:=c) (h n c hc) c.length 0 (by omega)
  rw[List.drop_zero] at hz
  rw[drop_at hc,cosE,hz,if_neg (by omega)]
  exact cos_zero' h m (n+1) (by omega)
theorem RightD.right {d:Dc} (h:RightD d):rightE d=0:=by
 unfold rightE
 have h1:sizeB d.comps=false:=by
  unfold sizeB
  rw[df (by have:=h.n;omega),df (by have:=h.n;omega)]
  simp only[Bool.false_or,List.any_eq_false,decide_eq_true_eq]
  intro c hc
  have:=h.ls c hc;omega
 rw[h1,if_neg (by decide),h.t.1,h.t.2.1,df (by have:=h.t.2.2;omega),if_neg (by decide),if_neg,if_neg (by have:=h.o;omega)]
 have:=cos_zero' h.l d.comps.length 0 (by omega)
 rw[List.drop_zero] at this
 rw[this];decide
theorem layer_cut {x l:Ly} (h:layerB x=true) (hs:shortB (cutL x l)=false):layerB (cutL x l)=true:=by
 unfold shortB at hs
 simp only[Bool.or_eq_false_iff,Bool.not_eq_false',decide_eq_false_iff_not] at hs
 obtain⟨⟨⟨h1,h2⟩,h3⟩,h4⟩:=hs
 unfold layerB at h ⊢
 simp only[Bool.and_eq_true] at h
 obtain⟨⟨⟨⟨g1,g2⟩,g3⟩,g4⟩,g5⟩:=h
 rw[h2,h3,h4,dt (show (cutL x l).in_<(cutL x l).out by omega)]
 simp only[Bool.and_eq_true]
 exact⟨⟨⟨⟨g1,by simp⟩,g3⟩,g4⟩,g5⟩
theorem layerB_up (n:Int) (x:Ly):layerB (upL n x)=layerB x:=rfl
theorem layerB_inL (l:Ly) (k:Int) (x:Ly):layerB (inL l k x)=layerB (cutL x l):=by
 unfold inL;exact layerB_up _ _
theorem bareLB_iff {ls:List Ly} {k:Nat} {l:Ly} (h:bareLB ls k l=true):(∀ x∈ls,¬ x.parent=(k:Int))∧matteAt ls (k+1)=0:=by
 unfold bareLB at h
 simp only[Bool.and_eq_true,Bool.not_eq_true',List.any_eq_false,beq_iff_eq] at h
 exact⟨h.1.2,h.2⟩
theorem mayL_zero {cs:List (List Ly)} {ls:List Ly} {k:Nat} {l:Ly} (h:mayL cs ls k l=0):l.kind=1∧bareLB ls k l=true∧(ls.length:Int) - 1+((inner cs l).length:Int)≤16∧∀ x∈inner cs l,shortB (cutL x l)=false:=by
 unfold mayL at h
 split at h
 ·exact absurd h (by decide)
 split at h
 ·exact absurd h (by decide)
 split at h
 ·exact absurd h (by decide)
 split at h
 ·exact absurd h (by decide)
 rename_i h1 h2 h3 h4
 refine⟨by omega,by simpa using h2,by omega,?_⟩
 simpa using h4
set_option maxHeartbeats 2000000 in
theorem right_open {d:Dc} {c k:Nat} {ls:List Ly} {l:Ly} (hR:rightE d=0) (hc:d.comps[c]?=some ls) (hk:ls[k]?=some l) (hm:mayL d.comps ls k l=0):rightE (openD d c k ls l)=0:=by
 have h:=right_iff hR
 obtain⟨hl,hb,hsz,hsh⟩:=mayL_zero hm
 obtain⟨hnam,hmat⟩:=bareLB_iff hb
 obtain⟨n1,n2⟩:=h.nest hc hk hl
 obtain⟨li,hli⟩:∃ li,d.comps[l.comp.toNat]?=some li:=⟨_,List.getElem?_eq_getElem (by omega)⟩
 have hin:inner d.comps l=li:=by unfold inner;rw[hli];rfl
 have hkl:=(List.getElem?_eq_some_iff.1 hk).1
 have hcl:=(List.getElem?_eq_some_iff.1 hc).1
 have hN:(openL d.comps ls k l).length=ls.length - 1+li.length:=by rw[open_lenR hkl,hin]
 rw[hin] at hsz hsh
 have dO:=dep_open h hc hk hl
 have nO:=nod_open h hc hk hl
 have tls:∀ (j:Nat) x,ls[j]?=some x→layerB x=true∧treeB d.comps c j ls x=true:=fun j x hx=>h.l c ls hc j x hx
 have tli:∀ (j:Nat) x,li[j]?=some x→layerB x=true∧treeB d.comps l.comp.toNat j li x=true:=fun j x hx=>h.l _ li hli j x hx
 have pls:∀ p∈Ly.parents ls,p<((Ly.parents ls).length:Int):=fun p hp=>by
  unfold Ly.parents at hp
  obtain⟨x,hx,rfl⟩:=List.mem_map.1 hp
  obtain⟨j,hj⟩:=List.getElem?_of_mem hx
  have:=(tree_iff.1 (tls j x hj).2).1
  rw[parents_len];omega
 have pli:∀ p∈Ly.parents li,p<((Ly.parents li).length:Int):=fun p hp=>by
  unfold Ly.parents at hp
  obtain⟨x,hx,rfl⟩:=List.mem_map.1 hp
  obtain⟨j,hj⟩:=List.getElem?_of_mem hx
  have:=(tree_iff.1 (tli j x hj).2).1
  rw[parents_len];omega
 have rls:∀ j:Nat,j<(Ly.parents ls).length→ringsB (Ly.parents ls) j=false:=fun j hj=>by
  rw[parents_len] at hj
  exact(tree_iff.1 (tls j _ (List.getElem?_eq_getElem hj)).2).2.1
 have rli:∀ j:Nat,j<(Ly.parents li).length→ringsB (Ly.parents li) j=false:=fun j hj=>by
  rw[parents_len] at hj
  exact(tree_iff.1 (tli j _ (List.getElem?_eq_getElem hj)).2).2.1
 refine RightD.right ⟨?_,?_,h.t,?_,?_⟩
 ·show 1≤(d.comps.set c _).length∧(d.comps.set c _).length≤8
  rw[List.length_set];exact h.n
 ·intro x hx
  rcases List.mem_or_eq_of_mem_set hx with hx|rfl
  ·exact h.ls x hx
  ·rw[hN];omega
 ·intro i c' hi j x hx
  have hi:(d.comps.set c (openL d.comps ls k l))[i]?=some c':=hi
  have tr:treeB (openD d c k ls l).comps i j c' x=treeB d.comps i j c' x:=by unfold treeB openD;simp only[List.length_set]
  rw[tr]
  by_cases e:i=c
  ·subst e
   rw[List.getElem?_set_self hcl] at hi
   cases hi
   clear tr
   obtain⟨f,hf⟩:∃ f:Int→Int,∀ a,f a=if (k:Int)<a then a+(li.length:Int) - 1 else a:=⟨_,fun _=>rfl⟩
   obtain⟨g,hg⟩:∃ g:Int→Int,∀ a,g a=if 0≤a then a+(k:Int) else a:=⟨_,fun _=>rfl⟩
   have fp:∀ a,(k:Int)<a→f a=a+(li.length:Int) - 1:=fun a h=>by rw[hf,if_pos h]
   have fn:∀ a,¬ (k:Int)<a→f a=a:=fun a h=>by rw[hf,if_neg h]
   have gp:∀ a,0≤a→g a=a+(k:Int):=fun a h=>by rw[hg,if_pos h]
   have gn:∀ a,¬ 0≤a→g a=a:=fun a h=>by rw[hg,if_neg h]
   have oP:∀ (j:Nat) x,ls[j]?=some x→(outL k li.length x).parent=f x.parent∧¬ x.parent=(k:Int)∧x.parent<(ls.length:Int)∧-1≤x.parent:=fun j x hx=>by
    have h1:=(tree_iff.1 (tls j x hx).2).1
    have h2:=hnam x (List.mem_of_getElem? hx)
    have hl16:=h.ls ls (List.mem_of_getElem? hc)
    refine⟨?_,h2,by omega,by omega⟩
    show (if (k:Int)<x.parent then wr6 (wr6 (x.parent+(li.length:Int)) - 1) else x.parent)=f x.parent
    by_cases hp:(k:Int)<x.parent
    ·rw[if_pos hp,fp _ hp]
     show IntKind.i64.wrap (IntKind.i64.wrap _ - 1)=_
     rw[wi (n:=x.parent+(li.length:Int)) (by omega) (by omega),wi (by omega) (by omega)]
    ·rw[if_neg hp,fn _ hp]
   have iP:∀ (j:Nat) x,li[j]?=some x→(inL l k x).parent=g x.parent∧x.parent<(li.length:Int)∧-1≤x.parent:=fun j x hx=>by
    have h1:=(tree_iff.1 (tli j x hx).2).1
    have hl16:=h.ls ls (List.mem_of_getElem? hc)
    refine⟨?_,by omega,by omega⟩
    show (if 0≤x.parent then wr6 (x.parent+(k:Int)) else x.parent)=g x.parent
    by_cases hp:0≤x.parent
    ·rw[if_pos hp,gp _ hp]
     show IntKind.i64.wrap _=_
     rw[wi (by omega) (by omega)]
    ·rw[if_neg hp,gn _ hp]
   have hOut:∀ (j:Nat) x,ls[j]?=some x→¬ j=k→(openL d.comps ls k l)[(f j).toNat]?=some (outL k li.length x):=fun j x hx hj=>by
    by_cases hp:k<j
    ·rw[fp _ (by omega),show ((j:Int)+(li.length:Int) - 1).toNat=k+(inner d.comps l).length+(j - k - 1) by rw[hin];omega,open_hi hkl,show k+1+(j - k - 1)=j by omega,hx,hin];rfl
    ·rw[fn _ (by omega),show ((j:Int)).toNat=j by omega,open_lo (by omega) hkl,hx,hin];rfl
   have hIn:∀ (j:Nat) x,li[j]?=some x→(openL d.comps ls k l)[k+j]?=some (inL l k x):=fun j x hx=>by
    rw[open_mid hkl (by rw[hin];exact(List.getElem?_eq_some_iff.1 hx).1),hin,hx];rfl
   have hjl:=(List.getElem?_eq_some_iff.1 hx).1
   have hcase:(∃ (m:Nat) (y:Ly),ls[m]?=some y∧¬ m=k∧(j:Int)=f m)∨(∃ (m:Nat) (y:Ly),li[m]?=some y∧j=k+m):=by
    rw[hN] at hjl
    by_cases h1:j<k
    ·exact .inl ⟨j,_,List.getElem?_eq_getElem (by omega),by omega,by rw[fn _ (by omega)]⟩
    ·by_cases h2:j<k+li.length
     ·exact .inr ⟨j - k,_,List.getElem?_eq_getElem (by omega),by omega⟩
     ·exact .inl ⟨j+1 - li.length,_,List.getElem?_eq_getElem (by omega),by omega,by rw[fp _ (by omega)];omega⟩
   rcases hcase with ⟨m,y,hy,hmk,ej⟩|⟨m,y,hy,rfl⟩
   ·have hml:=(List.getElem?_eq_some_iff.1 hy).1
    have ex:=hOut m y hy hmk
    rw[← ej,show ((j:Int)).toNat=j by omega,hx] at ex
    cases ex
    obtain⟨t1,t2⟩:=tls m y hy
    obtain⟨p1,p2,p3,p4⟩:=oP m y hy
    have t2:=tree_iff.1 t2
    refine⟨(layerB_up _ _).trans t1,tree_iff.2 ⟨?_,?_,?_,t2.2.2.2⟩⟩
    ·rw[p1,hN]
     by_cases hp:(k:Int)<y.parent
     ·rw[fp _ hp];omega
     ·rw[fn _ hp];omega
    ·refine ring_map (ps:=Ly.parents ls) (f:=f) (P:=fun a=>a<(ls.length:Int)∧¬ a=(k:Int)) (fun a ha h0=>by rw[fn a (by omega)];exact h0) (fun a ha h0=>?_) (fun a b ha hb e=>?_) pls rls (j:=m) (by rw[parents_len];exact hml) ⟨by omega,by omega⟩ ej (by rw[parents_len];exact hjl)
     ·have hza:=List.getElem?_eq_getElem (l:=ls) (show a.toNat<ls.length by omega)
      generalize ls[a.toNat]'(by omega)=z at hza
      obtain⟨q1,q2,q3,q4⟩:=oP _ z hza
      have ho:=hOut _ z hza (by omega)
      rw[show ((a.toNat:Nat):Int)=a by omega] at ho
      rw[parents_at hza,parents_at ho,q1]
      refine⟨?_,⟨q3,q2⟩,rfl⟩
      by_cases hp:(k:Int)<a
      ·rw[fp _ hp];omega
      ·rw[fn _ hp];exact h0
     ·obtain⟨a1,a2⟩:=ha
      obtain⟨b1,b2⟩:=hb
      by_cases hp:(k:Int)<a <;> by_cases hq:(k:Int)<b
      ·rw[fp _ hp,fp _ hq] at e;omega
      ·rw[fp _ hp,fn _ hq] at e;omega
      ·rw[fn _ hp,fp _ hq] at e;omega
      ·rw[fn _ hp,fn _ hq] at e;exact e
    ·rcases t2.2.2.1 with hz|⟨hm0,hz⟩
     ·exact .inl hz
     ·by_cases hym:y.matte=0
      ·exact .inl hym
      ·have hmk1:¬ m=k+1:=fun e=>hym (by
        unfold matteAt at hmat
        rw[← e,hy] at hmat;exact hmat)
       have hzm:=List.getElem?_eq_getElem (l:=ls) (show m - 1<ls.length by omega)
       generalize ls[m - 1]'(by omega)=z at hzm
       have ho:=hOut _ z hzm (by omega)
       have ei:(f ((m - 1:Nat):Int)).toNat=j - 1∧¬ j=0:=by
        by_cases hp:k<m
        ·rw[fp _ (by omega)] at ej ⊢;omega
        ·rw[fn _ (by omega)] at ej ⊢;omega
       rw[ei.1] at ho
       rw[hzm] at hz
       rw[ho]
       exact .inr ⟨ei.2,hz⟩
   ·have hml:=(List.getElem?_eq_some_iff.1 hy).1
    have ex:=hIn m y hy
    rw[hx] at ex
    cases ex
    obtain⟨t1,t2⟩:=tli m y hy
    obtain⟨p1,p2,p3⟩:=iP m y hy
    have t2:=tree_iff.1 t2
    refine⟨?_,tree_iff.2 ⟨?_,?_,?_,?_⟩⟩
    ·rw[layerB_inL];exact layer_cut t1 (hsh y (List.mem_of_getElem? hy))
    ·rw[p1,hN]
     by_cases hp:0≤y.parent
     ·rw[gp _ hp];omega
     ·rw[gn _ hp];omega
    ·refine ring_map (ps:=Ly.parents li) (f:=g) (P:=fun a=>a<(li.length:Int)) (fun a ha h0=>by rw[gn a (by omega)];exact h0) (fun a ha h0=>?_) (fun a b ha hb e=>?_) pli rli (j:=m) (by rw[parents_len];exact hml) (show (m:Int)<_ by omega) (by rw[gp _ (by omega)];omega) (by rw[parents_len];exact hjl)
     ·have hza:=List.getElem?_eq_getElem (l:=li) (show a.toNat<li.length by omega)
      generalize li[a.toNat]'(by omega)=z at hza
      obtain⟨q1,q2,q3⟩:=iP _ z hza
      have ho:=hIn _ z hza
      rw[gp _ h0,show (a+(k:Int)).toNat=k+a.toNat by omega,parents_at hza,parents_at ho,q1]
      exact⟨by omega,q2,rfl⟩
     ·by_cases hp:0≤a <;> by_cases hq:0≤b
      ·rw[gp _ hp,gp _ hq] at e;omega
      ·rw[gp _ hp,gn _ hq] at e;omega
      ·rw[gn _ hp,gp _ hq] at e;omega
      ·rw[gn _ hp,gn _ hq] at e;exact e
    ·rcases t2.2.2.1 with hz|⟨hm0,hz⟩
     ·exact .inl hz
     ·have hzm:=List.getElem?_eq_getElem (l:=li) (show m - 1<li.length by omega)
      generalize li[m - 1]'(by omega)=z at hzm
      have ho:=hIn _ z hzm
      rw[hzm] at hz
      rw[show k+m - 1=k+(m - 1) by omega,ho]
      exact .inr ⟨by omega,hz⟩
    ·intro e
     have:=t2.2.2.2 e
     show 0≤y.comp∧y.comp<_∧(i:Int)<y.comp
     omega
  ·rw[List.getElem?_set_ne (Ne.symm e)] at hi
   exact h.l i c' hi j x hx
 ·have h1:=lele_at dO 0
  have h2:=lele_at nO 0
  have h3:=h.o
  unfold deepE nodesE at h3 ⊢
  have e:(openD d c k ls l).comps.length=d.comps.length:=by unfold openD;exact List.length_set
  rw[e]
  split
  ·rename_i hd
   rw[if_pos hd,if_pos hd] at h3
   exact⟨Int.le_trans h1 h3.1,Int.le_trans h2 h3.2⟩
  ·exact⟨by decide,by decide⟩
end Go.Proofs.YthhbglkokpablaaGreat
/- Comps laid open: the walk of InlineLayers. -/
namespace Go.Proofs.YthhbglkokpablaaGreat
open Go Go.RowKit E
attribute [local irreducible] XRun XOps XCode XCal XLoop XQ SemCall
set_option linter.unusedSimpArgs false
set_option linter.unusedVariables false
theorem LyE.at5 {J:AH} {c:List Value} {l:Ly} (h:LyE J c l):c[0]?=some (.int .i64 l.kind)∧c[2]?=some (.int .i64 l.comp)∧c[3]?=some (.int .i64 l.matte)∧c[4]?=some (.int .i64 l.in_)∧c[5]?=some (.int .i64 l.out):=by
 obtain⟨_,_,_,_,_,_,_,_,_,_,_,_,_,_,_,_,_,_,rfl,_⟩:=h;exact⟨rfl,rfl,rfl,rfl,rfl⟩
theorem RowOf.rows {α:Type} {s:Nat} {E:AH→List Value→α→Prop} {K:AH} {v:Value} {l:List α} (h:RowOf s E K v l) (hl:0<l.length):∃ b g cells rw_,v=sl b 0 g l.length s∧K[b]?=some ⟨cells,g,rw_⟩∧∀ (i:Nat) x,l[i]?=some x→∃ c,E K c x∧∀ j,j<s→cells[i*s+j]?=c[j]?:=by
 obtain⟨x,hx⟩:∃ x,l[0]?=some x:=⟨_,List.getElem?_eq_getElem hl⟩
 obtain⟨b,g,cells,rw_,c,h1,h2,_⟩:=h.at hx
 refine⟨b,g,cells,rw_,h1,h2,fun i x hx=>?_⟩
 obtain⟨b',g',cells',rw',c',h1',h2',h3,_,_,_,h4⟩:=h.at hx
 have e:=h1.symm.trans h1'
 unfold sl at e
 cases e
 rw[h2] at h2'
 cases h2'
 exact⟨c',h3,h4⟩
set_option maxHeartbeats 4000000 in
set_option maxRecDepth 100000 in
theorem inlinelayers (lv pv:Value) (ls:List Int) (ps:List Bool) (t:Nat) (cI kI:Int) (H:AH) (h:Ints H t lv ls) (hp:RowOf 1 BoE H pv ps):SemCall Tryz.prog 5 [lv,pv,.int .i64 cI,.int .i64 kI] H (.bool true) H []:=by
 refine pure_of ?_ rfl
 have kd:∀ n,decide (H.length+n<H.length)=false:=fun n=>df (by omega)
 have kd0:decide (H.length<H.length)=false:=df (by omega)
 refine XCal.of hm Tryz.func5 rfl (fun xs w=>Tryz.call5 xs w) Tryz.ntmps5 Tryz.results5 rfl ?_
 (refine sg (et kd kd0) ?_;try exact⟨⟩)
 refine(lopen_ _ h hp).x ?_
 rintro v H1 W1 ⟨rfl,⟨L,rfl⟩,d,cv,rfl,hD,hN,hn1⟩
 have hC:=hD.here
 have hz:=hN.s (by omega)
 have o1:Old H (H++L):=Old.app' _ _
 have l1:=old_len o1
 generalize H++L=V at *
 clear h hp hD
 obtain⟨ca,ce,hcf⟩:=hC.form
 subst hcf
 have hn0:=hz.n
 have wi1:IntKind.i64.wrap ((d.comps.length:Int) - 1)=(d.comps.length:Int) - 1:=wi (by omega) (by omega)
 have kdV:∀ n,decide (V.length+n<H.length)=false:=fun n=>df (by omega)
 have kdV0:decide (V.length<H.length)=false:=df (by omega)
 (refine sg (et kdV (et kdV0 wi1)) ?_;try exact⟨⟩)
 refine(within_ cI 0 ((d.comps.length:Int) - 1) (by omega) (by decide) (by omega) _).x ?_
 obtain⟨w0,w1⟩:=wth_b cI (lo:=0) (hi:=(d.comps.length:Int) - 1) (by omega)
 generalize wth cI 0 ((d.comps.length:Int) - 1)=c2 at *
 obtain⟨m,rfl⟩:∃ m:Nat,c2=m:=⟨c2.toNat,by omega⟩
 have oK:Old V (V++[(⟨[.int .i64 d.in_,.int .i64 d.out,.slice ca d.comps.length ce],0,true⟩:Blk)]):=Old.app' _ _
 have gK:(V++[(⟨[.int .i64 d.in_,.int .i64 d.out,.slice ca d.comps.length ce],0,true⟩:Blk)])[V.length]?=some ⟨[.int .i64 d.in_,.int .i64 d.out,.slice ca d.comps.length ce],0,true⟩:=by rw[hget_app0];rfl
 have lK:(V++[(⟨[.int .i64 d.in_,.int .i64 d.out,.slice ca d.comps.length ce],0,true⟩:Blk)]).length=V.length+1:=by simp
 generalize V++[(⟨[.int .i64 d.in_,.int .i64 d.out,.slice ca d.comps.length ce],0,true⟩:Blk)]=K at *
 have kdK:∀ n,decide (K.length+n<H.length)=false:=fun n=>df (by omega)
 have kdK0:decide (K.length<H.length)=false:=df (by omega)
 have hCK:=hC.old CoE.m oK
 obtain⟨x,hx⟩:∃ x,d.comps[m]?=some x:=⟨_,List.getElem?_eq_getElem (by omega)⟩
 obtain⟨hx1,hx2⟩:=hz.c x (List.mem_of_getElem? hx)
 obtain⟨b1,g1,cells1,rw1,cc,hve1,hb1,⟨lv1,rfl,hL⟩,hcl1,hle1,hld1,hgt1⟩:=hCK.at hx
 obtain⟨la,le,rfl⟩:=hL.form
 have hc0:cells1[m*1]?=some (.slice la x.length le):=hgt1 0 (by omega)
 have gK':=gK
 rw[hve1] at gK'
 have q0:(0:Int)≤(m:Int):=by omega
 have q1:(m:Int)<(d.comps.length:Int):=by omega
 have wx1:IntKind.i64.wrap ((x.length:Int) - 1)=(x.length:Int) - 1:=wi (by omega) (by omega)
 (refine sg (et gK' (et q0 (et q1 (et Int.toNat_natCast (et Nat.zero_add (et Nat.add_zero (et hb1 (et hc0 wx1)))))))) ?_;try exact⟨⟩)
 generalize hM:(if (x.length:Int) - 1<0 then (0:Int) else (x.length:Int) - 1)=mx
 have hM0:0≤mx∧mx≤1000∧(mx<(x.length:Int)∨x.length=0):=by subst hM;split <;> omega
 refine(within_ kI 0 mx hM0.1 (by decide) (by omega) _).x ?_
 obtain⟨w2,w3⟩:=wth_b kI hM0.1
 generalize wth kI 0 mx=k2 at *
 obtain⟨q,rfl⟩:∃ q:Nat,k2=q:=⟨k2.toNat,by omega⟩
 (refine sg gK ?_;try exact⟨⟩)
 refine(ans_ d _ (m:Int) (q:Int) K hCK hz).x ?_
 rintro v H1 W1 ⟨rfl,⟨L,rfl⟩,a1,x1,rfl,hC1⟩
 have oL:Old K (K++L):=Old.app' _ _
 have lL:=old_len oL
 have gL:=oL _ _ gK
 have gL':=oL _ _ gK'
 have hb1:=oL _ _ hb1
 have hL:=RowOf.old hL LyE.m oL
 have hCL:=hCK.old CoE.m oL
 generalize K++L=X at *
 have kdX:∀ n,decide (X.length+n<H.length)=false:=fun n=>df (by omega)
 have kdX0:decide (X.length<H.length)=false:=df (by omega)
 by_cases hme:mayE d m q=0
 case neg=>
  have hae:ansE d m q=⟨0,0,[]⟩:=by unfold ansE;rw[if_neg hme]
  rw[hae] at hC1 ⊢
  have oY:Old X (X++[(⟨[.int .i64 0,.int .i64 0,.slice a1 0 x1],0,true⟩:Blk)]):=Old.app' _ _
  have gY:(X++[(⟨[.int .i64 0,.int .i64 0,.slice a1 0 x1],0,true⟩:Blk)])[X.length]?=some ⟨[.int .i64 0,.int .i64 0,.slice a1 0 x1],0,true⟩:=by rw[hget_app0];rfl
  (refine sg (et kdX (et kdX0 (et kdV (et kdV0 (et (nf hme) (et gY (oY _ _ gL))))))) ?_;try exact⟨⟩)
  refine(may_ d _ (m:Int) (q:Int) _ (hCL.old CoE.m oY) hz).x ?_
  simp only[go_sem,Nat.reduceEqDiff,Nat.reduceAdd,Nat.reduceSub,Nat.reduceMul,Nat.reduceLT,Nat.reduceLeDiff,Int.reducePow,Int.reduceBEq,Int.reduceBNe,Int.reduceDiv,Int.reduceMod,Int.reduceEq,Int.reduceLT,Int.reduceLE,Int.reduceAdd,Int.reduceSub,Int.reduceMul,Int.reduceNeg,Int.reduceToNat,Int.reduceTDiv,Int.reduceTMod,↓reduceIte,kdX,kdX0,kdV,kdV0,bt (rfl:mayE d m q=mayE d m q),beq_self_eq_true]
  refine(known27_ _).x ?_
  (refine sg (et kdX (et kdX0 (et kdV kdV0))) ?_;try exact⟨⟩)
 case pos=>
  obtain⟨m',q',xs,l,li,e1,e2,hO⟩:=may_open hme
  obtain rfl:m'=m:=by omega
  obtain rfl:q'=q:=by omega
  have hR0:rightE d=0:=by
   by_cases h:rightE d=0
   ·exact h
   ·have:=mayE_r (c:=(m':Int)) (k:=(q':Int)) h;rw[hme] at this;exact absurd this.symm h
  have hm0:mayL d.comps xs q' l=0:=by
   have:=mayE_l (d:=d) (c:=(m':Int)) (k:=(q':Int)) hR0 (by unfold atC;rw[if_pos (by omega),Int.toNat_natCast];exact hO.ec) (by unfold atL;rw[if_pos (by omega),Int.toNat_natCast];exact hO.ek)
   rw[Int.toNat_natCast,hme] at this
   exact this.symm
  have hae:ansE d m' q'=openD d m' q' xs l:=by unfold ansE;rw[if_pos hme,Int.toNat_natCast,Int.toNat_natCast,hO.e]
  rw[hae] at hC1 ⊢
  obtain rfl:xs=x:=by have:=hO.ec;rw[hx] at this;cases this;rfl
  obtain⟨w,hw⟩:∃ w,w=openD d m' q' xs l:=⟨_,rfl⟩
  rw[← hw] at hC1 ⊢
  have hwl:w.comps.length=d.comps.length:=by rw[hw];unfold openD;exact List.length_set
  rw[hwl] at hC1 ⊢
  have oY:Old X (X++[(⟨[.int .i64 w.in_,.int .i64 w.out,.slice a1 d.comps.length x1],0,true⟩:Blk)]):=Old.app' _ _
  have gY:(X++[(⟨[.int .i64 w.in_,.int .i64 w.out,.slice a1 d.comps.length x1],0,true⟩:Blk)])[X.length]?=some ⟨[.int .i64 w.in_,.int .i64 w.out,.slice a1 d.comps.length x1],0,true⟩:=by rw[hget_app0];rfl
  have lY:(X++[(⟨[.int .i64 w.in_,.int .i64 w.out,.slice a1 d.comps.length x1],0,true⟩:Blk)]).length=X.length+1:=by simp
  have hxl:q'<xs.length:=(List.getElem?_eq_some_iff.1 hO.ek).1
  (refine sg (et kdX (et kdX0 (et kdV (et kdV0 (nt hme))))) ?_;try exact⟨⟩)
  generalize X++[(⟨[.int .i64 w.in_,.int .i64 w.out,.slice a1 d.comps.length x1],0,true⟩:Blk)]=Y at *
  have hYH:Y.length=X.length+1:=lY
  have kdY:∀ n,decide (Y.length+n<H.length)=false:=fun n=>df (by omega)
  have kdY0:decide (Y.length<H.length)=false:=df (by omega)
  have hCY:=hCL.old CoE.m oY
  have hCw:=hC1.old CoE.m oY
  have gD:=oY _ _ gL
  have hLY:=RowOf.old hL LyE.m oY
  clear hC1 hCL hL gL gL' hb1 gK gK' hCK hC oL lL
  simp only[go_sem,Nat.reduceEqDiff,Nat.reduceAdd,Nat.reduceSub,Nat.reduceMul,Nat.reduceLT,Nat.reduceLeDiff,Int.reducePow,Int.reduceBEq,Int.reduceBNe,Int.reduceDiv,Int.reduceMod,Int.reduceEq,Int.reduceLT,Int.reduceLE,Int.reduceAdd,Int.reduceSub,Int.reduceMul,Int.reduceNeg,Int.reduceToNat,Int.reduceTDiv,Int.reduceTMod,↓reduceIte,kdX,kdX0,kdV,kdV0,gY,gD,bf (show ¬ (xs.length:Int)=0 by omega),nt (rfl:(d.comps.length:Int)=(d.comps.length:Int)),bne_self_eq_false]
  obtain⟨bx,gx,cx,rx,hvx,hbx,hcx⟩:=RowOf.rows hLY (by omega)
  unfold sl at hvx
  injection hvx with i1 _ i3
  subst i1
  subst i3
  obtain⟨bc,gc,cc,rc,hvc,hbc,hcc⟩:=RowOf.rows hCY (by omega)
  unfold sl at hvc
  injection hvc with i1 _ i3
  subst i1
  subst i3
  obtain⟨cl,hcl,hclg⟩:=hcx q' l hO.ek
  obtain⟨f0,f2,f3,f4,f5⟩:=LyE.at5 hcl
  have c2:cx[q'*50+2]?=some (.int .i64 l.comp):=by rw[hclg 2 (by omega)];exact f2
  obtain⟨lc,hlc⟩:∃ lc:Nat,l.comp=(lc:Int):=⟨l.comp.toNat,by have:=hO.cm;omega⟩
  have hcm:=hO.cm
  have hli:=hO.eli
  rw[hlc] at hcm hli c2
  rw[Int.toNat_natCast] at hli
  obtain⟨cli,⟨lv2,rfl,hL2⟩,hclig⟩:=hcc lc li hli
  have c3:cc[lc*1]?=some lv2:=hclig 0 (by omega)
  obtain⟨la2,le2,rfl⟩:=hL2.form
  have hli1:=(hz.c li (List.mem_of_getElem? hli)).1
  first|refine drawnF ?_ (by decide +kernel)|refine drawnU [] (by decide +kernel) ?_
  (refine sg (et kdY (et kdY0 (et gY (et gD (et hbx (et hbc (et c2 (et c3 (et (show (0:Int)≤(q':Int) by omega) (et (show (q':Int)<(xs.length:Int) by omega) (et (show (0:Int)≤(lc:Int) by omega) (et hcm.2 (et Int.toNat_natCast (et Nat.zero_add Nat.add_zero)))))))))))))) ?_;try exact⟨⟩)
  obtain⟨N,hN'⟩:∃ N,N=openL d.comps xs q' l:=⟨_,rfl⟩
  have hin:inner d.comps l=li:=by unfold inner;rw[hO.eli];rfl
  have hNl:N.length=xs.length - 1+li.length:=by rw[hN',open_lenR hxl,hin]
  have hwN:w.comps[m']?=some N:=by
   rw[hw,hN'];unfold openD
   exact List.getElem?_set_self (by omega)
  obtain⟨bw,gw,cw,rw0,hvw,hbw,hcw⟩:=RowOf.rows hCw (by omega)
  unfold sl at hvw
  injection hvw with i1 _ i3
  subst i1
  subst i3
  obtain⟨clw,⟨lvN,rfl,hLN⟩,hclwg⟩:=hcw m' N hwN
  have c4:cw[m'*1]?=some lvN:=hclwg 0 (by omega)
  obtain⟨na,ne,rfl⟩:=hLN.form
  have wn:IntKind.i64.wrap ((xs.length:Int) - 1+(li.length:Int))=(N.length:Int):=by rw[wi (by omega) (by omega)];omega
  simp only[go_sem,Nat.reduceEqDiff,Nat.reduceAdd,Nat.reduceSub,Nat.reduceMul,Nat.reduceLT,Nat.reduceLeDiff,Int.reducePow,Int.reduceBEq,Int.reduceBNe,Int.reduceDiv,Int.reduceMod,Int.reduceEq,Int.reduceLT,Int.reduceLE,Int.reduceAdd,Int.reduceSub,Int.reduceMul,Int.reduceNeg,Int.reduceToNat,Int.reduceTDiv,Int.reduceTMod,↓reduceIte,kdY,kdY0,gY,gD,hbw,c4,show (0:Int)≤(m':Int) by omega,q1,wx1,wn,nt (rfl:(N.length:Int)=(N.length:Int)),bne_self_eq_false,Int.toNat_natCast,Nat.zero_add,Nat.add_zero]
  refine keep (fun r T J D=>D=[]∧J=Y∧T 11=.slice (some ⟨bx,0,gx⟩) xs.length 50∧T 12=.int .i64 (q':Int)∧T 13=ap X.length 0 0∧T 15=.slice la2 li.length le2∧T 16=.slice na N.length ne∧T 102=.int .i64 (xs.length:Int)∧∃ i:Nat,i+r=xs.length∧T 103=.int .i64 (i:Int)) xs.length
   ⟨rfl,rfl,by(refine sg trivial ?_;try exact⟨⟩),by(refine sg trivial ?_;try exact⟨⟩),by(refine sg trivial ?_;try exact⟨⟩),by(refine sg trivial ?_;try exact⟨⟩),by(refine sg trivial ?_;try exact⟨⟩),by(refine sg trivial ?_;try exact⟨⟩),0,by omega,by(refine sg trivial ?_;try exact⟨⟩) <;> rfl⟩ ?_
  rintro r T J D ⟨rfl,rfl,t11,t12,t13,t15,t16,t102,i,hir,t103⟩
  by_cases hi:i<xs.length
  case neg=>
   have hE:rightE w=0:=by rw[hw];exact right_open hR0 hO.ec hO.ek hm0
   have hzw:DcM w:=by rw[hw];exact(hz.open hO).m
   (refine sg (et t11 (et t12 (et t13 (et t15 (et t16 (et t102 (et t103 (et (df (show ¬ (i:Int)<(xs.length:Int) by omega)) gY)))))))) ?_;try exact⟨⟩)
   refine(rright18_ w _ _ hCw hzw).x ?_
   rw[hE]
   (refine sg trivial ?_;try exact⟨⟩)
   refine(known27_ _).x ?_
   (refine sg trivial ?_;try exact⟨⟩)
  case pos=>
   have wi2:IntKind.i64.wrap ((i:Int)+1)=((i+1:Nat):Int):=by rw[wi (by omega) (by omega)];rfl
   have wi3:IntKind.i64.wrap ((i:Int)+(li.length:Int))=(i:Int)+(li.length:Int):=wi (by omega) (by omega)
   have wi4:IntKind.i64.wrap ((i:Int)+(li.length:Int) - 1)=(i:Int)+(li.length:Int) - 1:=wi (by omega) (by omega)
   by_cases hq:i=q'
   ·subst hq
    simp only[go_sem,Nat.reduceEqDiff,Nat.reduceAdd,Nat.reduceSub,Nat.reduceMul,Nat.reduceLT,Nat.reduceLeDiff,Int.reducePow,Int.reduceBEq,Int.reduceBNe,Int.reduceDiv,Int.reduceMod,Int.reduceEq,Int.reduceLT,Int.reduceLE,Int.reduceAdd,Int.reduceSub,Int.reduceMul,Int.reduceNeg,Int.reduceToNat,Int.reduceTDiv,Int.reduceTMod,↓reduceIte,t11,t12,t13,t15,t16,t102,t103,dt (show (i:Int)<(xs.length:Int) by omega),df (show ¬ (i:Int)>(i:Int) by omega),nt (rfl:(i:Int)=(i:Int)),bne_self_eq_false]
    first|refine drawnF ?_ (by decide +kernel)|refine drawnU [] (by decide +kernel) ?_
    simp (maxSteps:=1000000) only [go_sem,Nat.reduceEqDiff,Nat.reduceAdd,Nat.reduceSub,Nat.reduceMul,Nat.reduceLT,Nat.reduceLeDiff,Int.reducePow,Int.reduceBEq,Int.reduceBNe,Int.reduceDiv,Int.reduceMod,Int.reduceEq,Int.reduceLT,Int.reduceLE,Int.reduceAdd,Int.reduceSub,Int.reduceMul,Int.reduceNeg,Int.reduceToNat,Int.reduceTDiv,Int.reduceTMod,↓reduceIte,t11,t12,t13,t15,t16,t102,t103,nt (rfl:(i:Int)=(i:Int)),bne_self_eq_false,wi2]
    exact⟨r - 1,by omega,i+1,by omega,rfl⟩
   ·obtain⟨xi,hxi⟩:∃ xi,xs[i]?=some xi:=⟨_,List.getElem?_eq_getElem hi⟩
    obtain⟨j,y,hj,hye,hgt,hjl⟩:∃ (j:Nat) (y:Ly),N[j]?=some y∧(y.kind=xi.kind∧y.comp=xi.comp∧y.matte=xi.matte∧y.in_=xi.in_∧y.out=xi.out)∧((q'<i∧(i:Int)+(li.length:Int) - 1=(j:Int))∨(¬ q'<i∧j=i))∧j<N.length:=by
     by_cases hlt:q'<i
     ·refine⟨i+li.length - 1,outL q' li.length xi,?_,⟨rfl,rfl,rfl,rfl,rfl⟩,.inl ⟨hlt,by omega⟩,by omega⟩
      rw[hN',show i+li.length - 1=q'+(inner d.comps l).length+(i - q' - 1) by rw[hin];omega,open_hi hxl,show q'+1+(i - q' - 1)=i by omega,hxi,hin];rfl
     ·exact⟨i,outL q' li.length xi,by rw[hN',open_lo (by omega) hxl,hxi,hin];rfl,⟨rfl,rfl,rfl,rfl,rfl⟩,.inr ⟨hlt,rfl⟩,by omega⟩
    obtain⟨bn,gn,cn,rn,hvn,hbn,hcn⟩:=RowOf.rows hLN (by omega)
    rw[hvn] at t16
    obtain⟨ci,hci,hcig⟩:=hcx i xi hxi
    obtain⟨a0,a2,a3,a4,a5⟩:=LyE.at5 hci
    obtain⟨cj,hcj,hcjg⟩:=hcn j y hj
    obtain⟨b0,b2,b3,b4,b5⟩:=LyE.at5 hcj
    have u0:cx[i*50]?=some (.int .i64 xi.kind):=by have h:=hcig 0 (by omega);rwa [Nat.add_zero,a0] at h
    have u2:cx[i*50+2]?=some (.int .i64 xi.comp):=by rw[hcig 2 (by omega)];exact a2
    have u3:cx[i*50+3]?=some (.int .i64 xi.matte):=by rw[hcig 3 (by omega)];exact a3
    have u4:cx[i*50+4]?=some (.int .i64 xi.in_):=by rw[hcig 4 (by omega)];exact a4
    have u5:cx[i*50+5]?=some (.int .i64 xi.out):=by rw[hcig 5 (by omega)];exact a5
    have v0:cn[j*50]?=some (.int .i64 xi.kind):=by have h:=hcjg 0 (by omega);rwa [Nat.add_zero,b0,hye.1] at h
    have v2:cn[j*50+2]?=some (.int .i64 xi.comp):=by rw[hcjg 2 (by omega),b2,hye.2.1]
    have v3:cn[j*50+3]?=some (.int .i64 xi.matte):=by rw[hcjg 3 (by omega),b3,hye.2.2.1]
    have v4:cn[j*50+4]?=some (.int .i64 xi.in_):=by rw[hcjg 4 (by omega),b4,hye.2.2.2.1]
    have v5:cn[j*50+5]?=some (.int .i64 xi.out):=by rw[hcjg 5 (by omega),b5,hye.2.2.2.2]
    have p0:(0:Int)≤(i:Int):=by omega
    have p1:(i:Int)<(xs.length:Int):=by omega
    have p2:(0:Int)≤(j:Int):=by omega
    have p3:(j:Int)<(N.length:Int):=by omega
    have hne:=nf (show ¬ (i:Int)=(q':Int) by omega)
    rcases hgt with ⟨g1,g2⟩|⟨g1,g2⟩
    ·have wi4:IntKind.i64.wrap ((i:Int)+(li.length:Int) - 1)=(j:Int):=wi4.trans g2
     (refine sg (et t11 (et t12 (et t13 (et t15 (et t16 (et t102 (et t103 (et (dt p1) (et (dt (show (i:Int)>(q':Int) by omega)) (et wi3 (et wi4 hne))))))))))) ?_;try exact⟨⟩)
     first|refine drawnF ?_ (by decide +kernel)|refine drawnU [] (by decide +kernel) ?_
     simp (maxSteps:=1000000) only [go_sem,Nat.reduceEqDiff,Nat.reduceAdd,Nat.reduceSub,Nat.reduceMul,Nat.reduceLT,Nat.reduceLeDiff,Int.reducePow,Int.reduceBEq,Int.reduceBNe,Int.reduceDiv,Int.reduceMod,Int.reduceEq,Int.reduceLT,Int.reduceLE,Int.reduceAdd,Int.reduceSub,Int.reduceMul,Int.reduceNeg,Int.reduceToNat,Int.reduceTDiv,Int.reduceTMod,↓reduceIte,t11,t12,t13,t15,t16,t102,t103,p0,p1,p2,p3,hbx,hbn,u0,u2,u3,u4,u5,v0,v2,v3,v4,v5,Int.toNat_natCast,Nat.zero_add,Nat.add_zero,hne,bne_self_eq_false,wi2]
     exact⟨r - 1,by omega,by rw[hvn],i+1,by omega,rfl⟩
    ·have g2:=g2.symm
     subst g2
     (refine sg (et t11 (et t12 (et t13 (et t15 (et t16 (et t102 (et t103 (et (dt p1) (et (df (show ¬ (i:Int)>(q':Int) by omega)) hne))))))))) ?_;try exact⟨⟩)
     first|refine drawnF ?_ (by decide +kernel)|refine drawnU [] (by decide +kernel) ?_
     simp (maxSteps:=1000000) only [go_sem,Nat.reduceEqDiff,Nat.reduceAdd,Nat.reduceSub,Nat.reduceMul,Nat.reduceLT,Nat.reduceLeDiff,Int.reducePow,Int.reduceBEq,Int.reduceBNe,Int.reduceDiv,Int.reduceMod,Int.reduceEq,Int.reduceLT,Int.reduceLE,Int.reduceAdd,Int.reduceSub,Int.reduceMul,Int.reduceNeg,Int.reduceToNat,Int.reduceTDiv,Int.reduceTMod,↓reduceIte,t11,t12,t13,t15,t16,t102,t103,p0,p1,p2,p3,hbx,hbn,u0,u2,u3,u4,u5,v0,v2,v3,v4,v5,Int.toNat_natCast,Nat.zero_add,Nat.add_zero,hne,bne_self_eq_false,wi2]
     exact⟨r - 1,by omega,by rw[hvn],i+1,by omega,rfl⟩
end Go.Proofs.YthhbglkokpablaaGreat
/- Comps laid open: plain layers, the documents made by hand. -/
namespace Go.Proofs.YthhbglkokpablaaGreat
open Go Go.RowKit E
attribute [local irreducible] XRun XOps XCode XCal XLoop XQ SemCall
set_option linter.unusedSimpArgs false
set_option linter.unusedVariables false
theorem bo4 {J:AH} {b g:Nat} {w x y z:Bool} (h:J[b]?=some ⟨[.bool w,.bool x,.bool y,.bool z],g,true⟩):RowOf 1 BoE J (sl b 0 g 4 1) [w,x,y,z]:=
 .inr ⟨b,g,[],true,[[.bool w],[.bool x],[.bool y],[.bool z]],rfl,h,rfl,by simp,fun i u hu=>by
  match i,hu with
  | 0,hu=>cases hu;exact⟨_,rfl,rfl,rfl⟩
  | 1,hu=>cases hu;exact⟨_,rfl,rfl,rfl⟩
  | 2,hu=>cases hu;exact⟨_,rfl,rfl,rfl⟩
  | 3,hu=>cases hu;exact⟨_,rfl,rfl,rfl⟩⟩
/-- A layer without rows. -/
def lyM (k p c m i o s:Int):Ly:=⟨k,p,c,m,i,o,s,[],[],[],[],[],[],[],[],[],(false,[]),sh00⟩
def lyMC (k p c m i o s:Int):List Value:=lyVs (lyM k p c m i o s) nl nl nl nl nl nl nl nl nl nl nl nl nl nl nl nl nl nl
theorem lyM_E (k p c m i o s:Int) (K:AH):LyE K (lyMC k p c m i o s) (lyM k p c m i o s):=
 ⟨_,_,_,_,_,_,_,_,_,_,_,_,_,_,_,_,_,_,rfl,⟨RowOf.none,RowOf.none,RowOf.none,RowOf.none,RowOf.none,RowOf.none,RowOf.none,RowOf.none,RowOf.none,.inl ⟨rfl,.inr rfl⟩⟩,ShV.zero K⟩
theorem lyM_S (k p c m i o s:Int):LyS (lyM k p c m i o s):=by constructor <;> simp[lyM,sh00]
theorem rows_of {s:Nat} {α:Type} {E:AH→List Value→α→Prop} {J:AH} {b g:Nat} {cells:List Value} {cs:List (List Value)} {l:List α} (h:J[b]?=some ⟨cells,g,true⟩) (hc:cells=cs.flatten) (hl:cs.length=l.length) (h9:l.length≤1000) (he:∀ (i:Nat) x,l[i]?=some x→∃ c,cs[i]?=some c∧c.length=s∧E J c x):RowOf s E J (sl b 0 g l.length s) l:=
 .inr ⟨b,g,[],true,cs,rfl,by rw[List.append_nil,← hc];exact h,hl,by omega,he⟩
theorem two_of {s:Nat} {α:Type} {E:AH→List Value→α→Prop} {J:AH} {c0 c1:List Value} {x0 x1:α} (l0:c0.length=s) (l1:c1.length=s) (h0:E J c0 x0) (h1:E J c1 x1):∀ (i:Nat) x,[x0,x1][i]?=some x→∃ c,[c0,c1][i]?=some c∧c.length=s∧E J c x:=fun i x hx=>by
 match i,hx with
 | 0,hx=>cases hx;exact⟨_,rfl,l0,h0⟩
 | 1,hx=>cases hx;exact⟨_,rfl,l1,h1⟩
theorem three_of {s:Nat} {α:Type} {E:AH→List Value→α→Prop} {J:AH} {c0 c1 c2:List Value} {x0 x1 x2:α} (l0:c0.length=s) (l1:c1.length=s) (l2:c2.length=s) (h0:E J c0 x0) (h1:E J c1 x1) (h2:E J c2 x2):∀ (i:Nat) x,[x0,x1,x2][i]?=some x→∃ c,[c0,c1,c2][i]?=some c∧c.length=s∧E J c x:=fun i x hx=>by
 match i,hx with
 | 0,hx=>cases hx;exact⟨_,rfl,l0,h0⟩
 | 1,hx=>cases hx;exact⟨_,rfl,l1,h1⟩
 | 2,hx=>cases hx;exact⟨_,rfl,l2,h2⟩
def lyH (k p c m i o s:Int) (x opac remap:List Ky) (mk:PL):Ly:=⟨k,p,c,m,i,o,s,x,[],[],[],[],[],[],opac,remap,mk,sh00⟩
def lyHC (k p c m i o s:Int) (x opac remap:List Ky) (mk:PL) (vx vo vr vm:Value):List Value:=lyVs (lyH k p c m i o s x opac remap mk) vx nl nl nl nl nl nl vo vr vm nl nl nl nl nl nl nl nl
theorem lyH_E {k p c m i o s:Int} {x opac remap:List Ky} {mk:PL} {vx vo vr vm:Value} {K:AH} (hx:Kys K vx x) (ho:Kys K vo opac) (hr:Kys K vr remap) (hm:Pts K vm mk.2):LyE K (lyHC k p c m i o s x opac remap mk vx vo vr vm) (lyH k p c m i o s x opac remap mk):=
 ⟨_,_,_,_,_,_,_,_,_,_,_,_,_,_,_,_,_,_,rfl,⟨hx,RowOf.none,RowOf.none,RowOf.none,RowOf.none,RowOf.none,RowOf.none,ho,hr,hm⟩,ShV.zero K⟩
theorem lyH_S {k p c m i o s:Int} {x opac remap:List Ky} {mk:PL} (hx:x.length≤1000) (ho:opac.length≤1000) (hr:remap.length≤1000) (hm:mk.2.length≤1000):LyS (lyH k p c m i o s x opac remap mk):=by
 constructor <;> simp[lyH,sh00] <;> assumption
theorem all2 {P:Ly→Prop} {a b:Ly} (h0:P a) (h1:P b):∀ l∈[a,b],P l:=fun l hl=>by
 rcases List.mem_cons.1 hl with rfl|hl
 ·exact h0
 ·rcases List.mem_cons.1 hl with rfl|hl
  ·exact h1
  ·cases hl
theorem all3 {P:Ly→Prop} {a b c:Ly} (h0:P a) (h1:P b) (h2:P c):∀ l∈[a,b,c],P l:=fun l hl=>by
 rcases List.mem_cons.1 hl with rfl|hl
 ·exact h0
 ·exact all2 h1 h2 l hl
theorem four_of {s:Nat} {α:Type} {E:AH→List Value→α→Prop} {J:AH} {c0 c1 c2 c3:List Value} {x0 x1 x2 x3:α} (l0:c0.length=s) (l1:c1.length=s) (l2:c2.length=s) (l3:c3.length=s) (h0:E J c0 x0) (h1:E J c1 x1) (h2:E J c2 x2) (h3:E J c3 x3):∀ (i:Nat) x,[x0,x1,x2,x3][i]?=some x→∃ c,[c0,c1,c2,c3][i]?=some c∧c.length=s∧E J c x:=fun i x hx=>by
 match i,hx with
 | 0,hx=>cases hx;exact⟨_,rfl,l0,h0⟩
 | 1,hx=>cases hx;exact⟨_,rfl,l1,h1⟩
 | 2,hx=>cases hx;exact⟨_,rfl,l2,h2⟩
 | 3,hx=>cases hx;exact⟨_,rfl,l3,h3⟩
theorem all4 {P:Ly→Prop} {a b c d:Ly} (h0:P a) (h1:P b) (h2:P c) (h3:P d):∀ l∈[a,b,c,d],P l:=fun l hl=>by
 rcases List.mem_cons.1 hl with rfl|hl
 ·exact h0
 ·exact all3 h1 h2 h3 l hl
theorem mk4:amake Tryz.prog 32 (.int .i64 4) (.int .i64 4)=some (ptC [(0,0),(0,0),(0,0),(0,0)],2,4):=damkP 4 (by decide)
theorem tslI:(tslice Tryz.prog 3).isSome=false:=by kernel_rfl
theorem app12 {V:AH} {cells:List Value} {b:Nat} (hk:V[b]?=some ⟨cells,0,true⟩) (hl:3*50=cells.length):azappB Tryz.prog V 48 3 (.slice (some ⟨b,0,some 0⟩) 3 50) (.int .i64 12)=some (sl b 0 1 15 50,V.set b ⟨cells++zrep (lyMC 0 0 0 0 0 0 0) 12,1,true⟩,[b],[b]):=
 azappB_make (n:=12) (len:=3) (s:=50) (by_:=608) (e:=47) (by kernel_rfl) (by kernel_rfl) (by kernel_rfl) (by kernel_rfl) (by kernel_rfl) hk (by decide) rfl (by decide) (by decide) (by decide) hl
theorem elh_cons {Q:AH→Prop} {cs:List (List Value)} {l:List Ly} {c:List Value} {x:Ly} (hc:c.length=50) (hx:∀ J,Q J→LyE J c x) (h:ElH Q cs l):ElH Q (c::cs) (x::l):=
 ⟨by rw[List.length_cons,List.length_cons,h.1],fun i y hy=>by
  cases i with
  | zero=>cases hy;exact⟨c,rfl,hc,hx⟩
  | succ i=>exact h.2 i y (by simpa using hy)⟩
theorem elh_rep {Q:AH→Prop} {c:List Value} {x:Ly} (hc:c.length=50) (hx:∀ J,Q J→LyE J c x):∀ n,ElH Q (List.replicate n c) (List.replicate n x)
 | 0=>⟨rfl,fun i y hy=>by simp at hy⟩
 | n+1=>by rw[List.replicate_succ,List.replicate_succ];exact elh_cons hc hx (elh_rep hc hx n)
/-- The key of a hand-made layer. -/
def kyM:Ky:=⟨0,65536,0,⟨0,0,0,0⟩⟩
theorem kyM_row {K:AH} {b g:Nat} (h:K[b]?=some ⟨[.int .i64 0,.int .i64 65536,.int .i64 0,.int .i64 0,.int .i64 0,.int .i64 0,.int .i64 0],g,true⟩):Kys K (sl b 0 g 1 7) [kyM]:=RowOf.one (c:=kyC kyM) h rfl rfl
/-- A document of two comps, at a walk's place. -/
theorem nsame_ (l5 l4:List Ly) {J:AH} {v5 v4:Value} {bc g:Nat} (h5:Lys J v5 l5) (h4:Lys J v4 l4) (hb:J[bc]?=some ⟨[v5,v4],g,true⟩) (s5:∀ l∈l5,LyS l) (s4:∀ l∈l4,LyS l) (n5:l5.length≤1000) (n4:l4.length≤1000) :
  SemCall Tryz.prog 6 [.agg #[.int .i64 0,.int .i64 9,sl bc 0 g 2 1],.bool false] J (.bool true) J []:=
 same27_ ⟨0,9,[l5,l4]⟩ _ false J (rows_of (cs:=[[v5],[v4]]) hb rfl rfl (show 2≤1000 by decide) (two_of rfl rfl ⟨_,rfl,h5⟩ ⟨_,rfl,h4⟩)) ⟨show 2≤1000 by decide,fun c hc=>by
  rcases List.mem_cons.1 hc with rfl|hc
  ·exact⟨n5,s5⟩
  ·rcases List.mem_cons.1 hc with rfl|hc
   ·exact⟨n4,s4⟩
   ·cases hc⟩
end Go.Proofs.YthhbglkokpablaaGreat
/- Comps laid open: the walk of InlineNumbers. -/
namespace Go.Proofs.YthhbglkokpablaaGreat
open Go Go.RowKit E
attribute [local irreducible] XRun XOps XCode XCal XLoop XQ SemCall
set_option linter.unusedSimpArgs false
set_option linter.unusedVariables false
set_option maxRecDepth 100000 in
set_option maxHeartbeats 4000000 in
theorem inlinenumbers (H:AH):SemCall Tryz.prog 3 [] H (.bool true) H []:=by
 refine pure_of ?_ rfl
 refine XCal.of hm Tryz.func3 rfl (fun xs w=>Tryz.call3 xs w) Tryz.ntmps3 Tryz.results3 rfl ?_
 (refine sg trivial ?_;try exact⟨⟩)
 refine keep (fun r T K D=>D=[]∧∃ (i:Nat),i+r=60∧Old H K∧H.length≤K.length∧T 1=.int .i64 (i:Int)) 60
  ⟨rfl,0,by omega,Old.refl H,by omega,by(refine sg trivial ?_;try exact⟨⟩) <;> rfl⟩ ?_
 rintro r T K D ⟨rfl,i,hir,o,hKl,t1⟩
 have kdK:∀ n,decide (K.length+n<H.length)=false:=fun n=>df (by omega)
 have kdK0:decide (K.length<H.length)=false:=df (by omega)
 by_cases hi:i<60
 ·have w1:IntKind.i64.wrap ((i:Int)+1)=((i+1:Nat):Int):=by rw[wi (by omega) (by omega)];rfl
  (refine sg (et t1 (et (dt (show (i:Int)<60 by omega)) (et kdK kdK0))) ?_;try exact⟨⟩)
  refine(tape27_ (i:Int) K).x ?_
  rintro v H1 W1 ⟨rfl,⟨L,rfl⟩,ls,hI⟩
  have lV:=old_len (Old.app' K L)
  have oV:Old H (K++L):=o.trans (Old.app' _ _)
  generalize K++L=V at *
  have kdV:∀ n,decide (V.length+n<H.length)=false:=fun n=>df (by omega)
  have kdV0:decide (V.length<H.length)=false:=df (by omega)
  (refine sg (et t1 (et kdV kdV0)) ?_;try exact⟨⟩)
  refine(lopen_ _ (hI.app _) (bo4 (by rw[hget_app0];rfl))).x ?_
  rintro v H1 W1 ⟨rfl,⟨L2,rfl⟩,d,cv,rfl,hD,hN,_⟩
  have hC:=hD.here
  have oX:Old V (V++[(⟨[.bool true,.bool ((i:Int).tmod 2==0),.bool true,.bool true],0,true⟩:Blk)]++L2):=(Old.app' _ _).trans (Old.app' _ _)
  have lX:=old_len oX
  (refine sg (et t1 (et kdV kdV0)) ?_;try exact⟨⟩)
  refine(same27_ d cv false _ hC (hN.s (by omega))).x ?_
  clear hC hD hN
  generalize V++[(⟨[.bool true,.bool ((i:Int).tmod 2==0),.bool true,.bool true],0,true⟩:Blk)]++L2=X at *
  have kdX:∀ n,decide (X.length+n<H.length)=false:=fun n=>df (by omega)
  have kdX0:decide (X.length<H.length)=false:=df (by omega)
  (refine sg (et t1 (et kdX kdX0)) ?_;try exact⟨⟩)
  refine(tape27_ (i:Int) X).x ?_
  rintro v H1 W1 ⟨rfl,⟨L3,rfl⟩,ls3,hI3⟩
  (refine sg (et t1 (et kdX kdX0)) ?_;try exact⟨⟩)
  refine(kdoc_ _ hI3).x ?_
  rintro v H1 W1 ⟨rfl,⟨L4,rfl⟩,d4,cv4,rfl,hM,hD4⟩
  have hC4:=(hM.dep (by have:=hD4.n;omega)).here
  have o4:Old X (X++L3++L4):=(Old.app' _ _).trans (Old.app' _ _)
  have l4:=old_len o4
  clear hM hI3
  generalize X++L3++L4=Y at *
  have kdY:∀ n,decide (Y.length+n<H.length)=false:=fun n=>df (by omega)
  have kdY0:decide (Y.length<H.length)=false:=df (by omega)
  (refine sg (et t1 (et kdY kdY0)) ?_;try exact⟨⟩)
  refine(same27_ d4 cv4 false _ hC4 (hD4.smallN.s (by omega))).x ?_
  (refine sg (et t1 (et kdY (et kdY0 w1))) ?_;try exact⟨⟩)
  exact⟨r - 1,by omega,i+1,by omega,oV.trans (oX.trans o4),by omega,rfl⟩
 ·(refine sg (et t1 (df (show ¬ (i:Int)<60 by omega))) ?_;try exact⟨⟩)
  clear hi hir t1
  refine keep (fun r T K D=>D=[]∧∃ (m:Nat),m+r=14∧Old H K∧H.length≤K.length∧T 2=.int .i64 (m:Int)) 14
   ⟨rfl,0,by omega,o,hKl,by(refine sg trivial ?_;try exact⟨⟩) <;> rfl⟩ ?_
  clear o hKl kdK kdK0
  rintro r T K D ⟨rfl,m,hmr,o,hKl,t2⟩
  have kdK:∀ n,decide (K.length+n<H.length)=false:=fun n=>df (by omega)
  have kdK0:decide (K.length<H.length)=false:=df (by omega)
  by_cases hm:m<14
  ·have w1:IntKind.i64.wrap ((m:Int)+1)=((m+1:Nat):Int):=by rw[wi (by omega) (by omega)];rfl
   match m,hm with
   | 0,_=>
    (refine sg (et t2 (et kdK kdK0)) ?_;try exact⟨⟩)
    refine(nsame_ [lyM 0 (-1) 0 0 0 9 0,lyH 1 (-1) 1 0 0 9 0 [kyM] [] [] (false,[]),lyM 0 0 0 0 0 9 0] [lyM 0 (-1) 0 0 0 9 0,lyM 0 0 0 0 0 9 0] (rows_of (b:=K.length+2) (g:=0) (cs:=[lyMC 0 (-1) 0 0 0 9 0,lyHC 1 (-1) 1 0 0 9 0 [kyM] [] [] (false,[]) (sl (K.length+3) 0 0 1 7) nl nl nl,lyMC 0 0 0 0 0 9 0]) (l:=[lyM 0 (-1) 0 0 0 9 0,lyH 1 (-1) 1 0 0 9 0 [kyM] [] [] (false,[]),lyM 0 0 0 0 0 9 0]) (by rw[hget_app];rfl) rfl rfl (show 3≤1000 by decide) (three_of rfl rfl rfl (lyM_E _ _ _ _ _ _ _ _) (lyH_E (kyM_row (by rw[hget_app];rfl)) RowOf.none RowOf.none (.inl ⟨rfl,.inr rfl⟩)) (lyM_E _ _ _ _ _ _ _ _))) (rows_of (b:=K.length+1) (g:=0) (cs:=[lyMC 0 (-1) 0 0 0 9 0,lyMC 0 0 0 0 0 9 0]) (l:=[lyM 0 (-1) 0 0 0 9 0,lyM 0 0 0 0 0 9 0]) (by rw[hget_app];rfl) rfl rfl (show 2≤1000 by decide) (two_of rfl rfl (lyM_E _ _ _ _ _ _ _ _) (lyM_E _ _ _ _ _ _ _ _))) (by rw[hget_app];rfl) (all3 (lyM_S _ _ _ _ _ _ _) (lyH_S (by simp) (by simp) (by simp) (by simp)) (lyM_S _ _ _ _ _ _ _)) (all2 (lyM_S _ _ _ _ _ _ _) (lyM_S _ _ _ _ _ _ _)) (by simp) (by simp)).x ?_
    (refine sg (et t2 (et kdK (et kdK0 w1))) ?_;try exact⟨⟩)
    exact⟨r - 1,by omega,1,by omega,o.trans (Old.app' _ _),by omega,rfl⟩
   | 1,_=>
    (refine sg (et t2 (et kdK kdK0)) ?_;try exact⟨⟩)
    refine(nsame_ [lyM 0 (-1) 0 0 0 9 0,lyH 1 (-1) 1 0 0 9 0 [] [kyM] [] (false,[]),lyM 0 0 0 0 0 9 0] [lyM 0 (-1) 0 0 0 9 0,lyM 0 0 0 0 0 9 0] (rows_of (b:=K.length+2) (g:=0) (cs:=[lyMC 0 (-1) 0 0 0 9 0,lyHC 1 (-1) 1 0 0 9 0 [] [kyM] [] (false,[]) nl (sl (K.length+3) 0 0 1 7) nl nl,lyMC 0 0 0 0 0 9 0]) (l:=[lyM 0 (-1) 0 0 0 9 0,lyH 1 (-1) 1 0 0 9 0 [] [kyM] [] (false,[]),lyM 0 0 0 0 0 9 0]) (by rw[hget_app];rfl) rfl rfl (show 3≤1000 by decide) (three_of rfl rfl rfl (lyM_E _ _ _ _ _ _ _ _) (lyH_E RowOf.none (kyM_row (by rw[hget_app];rfl)) RowOf.none (.inl ⟨rfl,.inr rfl⟩)) (lyM_E _ _ _ _ _ _ _ _))) (rows_of (b:=K.length+1) (g:=0) (cs:=[lyMC 0 (-1) 0 0 0 9 0,lyMC 0 0 0 0 0 9 0]) (l:=[lyM 0 (-1) 0 0 0 9 0,lyM 0 0 0 0 0 9 0]) (by rw[hget_app];rfl) rfl rfl (show 2≤1000 by decide) (two_of rfl rfl (lyM_E _ _ _ _ _ _ _ _) (lyM_E _ _ _ _ _ _ _ _))) (by rw[hget_app];rfl) (all3 (lyM_S _ _ _ _ _ _ _) (lyH_S (by simp) (by simp) (by simp) (by simp)) (lyM_S _ _ _ _ _ _ _)) (all2 (lyM_S _ _ _ _ _ _ _) (lyM_S _ _ _ _ _ _ _)) (by simp) (by simp)).x ?_
    (refine sg (et t2 (et kdK (et kdK0 w1))) ?_;try exact⟨⟩)
    exact⟨r - 1,by omega,2,by omega,o.trans (Old.app' _ _),by omega,rfl⟩
   | 2,_=>
    (refine sg (et t2 (et kdK kdK0)) ?_;try exact⟨⟩)
    refine(nsame_ [lyM 0 (-1) 0 0 0 9 0,lyH 1 (-1) 1 0 0 9 0 [] [] [kyM] (false,[]),lyM 0 0 0 0 0 9 0] [lyM 0 (-1) 0 0 0 9 0,lyM 0 0 0 0 0 9 0] (rows_of (b:=K.length+2) (g:=0) (cs:=[lyMC 0 (-1) 0 0 0 9 0,lyHC 1 (-1) 1 0 0 9 0 [] [] [kyM] (false,[]) nl nl (sl (K.length+3) 0 0 1 7) nl,lyMC 0 0 0 0 0 9 0]) (l:=[lyM 0 (-1) 0 0 0 9 0,lyH 1 (-1) 1 0 0 9 0 [] [] [kyM] (false,[]),lyM 0 0 0 0 0 9 0]) (by rw[hget_app];rfl) rfl rfl (show 3≤1000 by decide) (three_of rfl rfl rfl (lyM_E _ _ _ _ _ _ _ _) (lyH_E RowOf.none RowOf.none (kyM_row (by rw[hget_app];rfl)) (.inl ⟨rfl,.inr rfl⟩)) (lyM_E _ _ _ _ _ _ _ _))) (rows_of (b:=K.length+1) (g:=0) (cs:=[lyMC 0 (-1) 0 0 0 9 0,lyMC 0 0 0 0 0 9 0]) (l:=[lyM 0 (-1) 0 0 0 9 0,lyM 0 0 0 0 0 9 0]) (by rw[hget_app];rfl) rfl rfl (show 2≤1000 by decide) (two_of rfl rfl (lyM_E _ _ _ _ _ _ _ _) (lyM_E _ _ _ _ _ _ _ _))) (by rw[hget_app];rfl) (all3 (lyM_S _ _ _ _ _ _ _) (lyH_S (by simp) (by simp) (by simp) (by simp)) (lyM_S _ _ _ _ _ _ _)) (all2 (lyM_S _ _ _ _ _ _ _) (lyM_S _ _ _ _ _ _ _)) (by simp) (by simp)).x ?_
    (refine sg (et t2 (et kdK (et kdK0 w1))) ?_;try exact⟨⟩)
    exact⟨r - 1,by omega,3,by omega,o.trans (Old.app' _ _),by omega,rfl⟩
   | 3,_=>
    (refine sg (et t2 (et kdK kdK0)) ?_;try exact⟨⟩)
    refine(nsame_ [lyM 0 (-1) 0 0 0 9 0,lyM 1 (-1) 1 1 0 9 0,lyM 0 0 0 0 0 9 0] [lyM 0 (-1) 0 0 0 9 0,lyM 0 0 0 0 0 9 0] (rows_of (b:=K.length+2) (g:=0) (cs:=[lyMC 0 (-1) 0 0 0 9 0,lyMC 1 (-1) 1 1 0 9 0,lyMC 0 0 0 0 0 9 0]) (l:=[lyM 0 (-1) 0 0 0 9 0,lyM 1 (-1) 1 1 0 9 0,lyM 0 0 0 0 0 9 0]) (by rw[hget_app];rfl) rfl rfl (show 3≤1000 by decide) (three_of rfl rfl rfl (lyM_E _ _ _ _ _ _ _ _) (lyM_E _ _ _ _ _ _ _ _) (lyM_E _ _ _ _ _ _ _ _))) (rows_of (b:=K.length+1) (g:=0) (cs:=[lyMC 0 (-1) 0 0 0 9 0,lyMC 0 0 0 0 0 9 0]) (l:=[lyM 0 (-1) 0 0 0 9 0,lyM 0 0 0 0 0 9 0]) (by rw[hget_app];rfl) rfl rfl (show 2≤1000 by decide) (two_of rfl rfl (lyM_E _ _ _ _ _ _ _ _) (lyM_E _ _ _ _ _ _ _ _))) (by rw[hget_app];rfl) (all3 (lyM_S _ _ _ _ _ _ _) (lyM_S _ _ _ _ _ _ _) (lyM_S _ _ _ _ _ _ _)) (all2 (lyM_S _ _ _ _ _ _ _) (lyM_S _ _ _ _ _ _ _)) (by simp) (by simp)).x ?_
    (refine sg (et t2 (et kdK (et kdK0 w1))) ?_;try exact⟨⟩)
    exact⟨r - 1,by omega,4,by omega,o.trans (Old.app' _ _),by omega,rfl⟩
   | 4,_=>
    (refine sg (et t2 (et kdK kdK0)) ?_;try exact⟨⟩)
    refine(nsame_ [lyM 0 (-1) 0 0 0 9 0,lyM 1 (-1) 1 0 0 9 0,lyM 0 0 0 1 0 9 0] [lyM 0 (-1) 0 0 0 9 0,lyM 0 0 0 0 0 9 0] (rows_of (b:=K.length+2) (g:=0) (cs:=[lyMC 0 (-1) 0 0 0 9 0,lyMC 1 (-1) 1 0 0 9 0,lyMC 0 0 0 1 0 9 0]) (l:=[lyM 0 (-1) 0 0 0 9 0,lyM 1 (-1) 1 0 0 9 0,lyM 0 0 0 1 0 9 0]) (by rw[hget_app];rfl) rfl rfl (show 3≤1000 by decide) (three_of rfl rfl rfl (lyM_E _ _ _ _ _ _ _ _) (lyM_E _ _ _ _ _ _ _ _) (lyM_E _ _ _ _ _ _ _ _))) (rows_of (b:=K.length+1) (g:=0) (cs:=[lyMC 0 (-1) 0 0 0 9 0,lyMC 0 0 0 0 0 9 0]) (l:=[lyM 0 (-1) 0 0 0 9 0,lyM 0 0 0 0 0 9 0]) (by rw[hget_app];rfl) rfl rfl (show 2≤1000 by decide) (two_of rfl rfl (lyM_E _ _ _ _ _ _ _ _) (lyM_E _ _ _ _ _ _ _ _))) (by rw[hget_app];rfl) (all3 (lyM_S _ _ _ _ _ _ _) (lyM_S _ _ _ _ _ _ _) (lyM_S _ _ _ _ _ _ _)) (all2 (lyM_S _ _ _ _ _ _ _) (lyM_S _ _ _ _ _ _ _)) (by simp) (by simp)).x ?_
    (refine sg (et t2 (et kdK (et kdK0 w1))) ?_;try exact⟨⟩)
    exact⟨r - 1,by omega,5,by omega,o.trans (Old.app' _ _),by omega,rfl⟩
   | 5,_=>
    (refine sg (et t2 (et kdK kdK0)) ?_;try exact⟨⟩)
    refine(nsame_ [lyM 0 (-1) 0 0 0 9 0,lyM 1 (-1) 1 0 0 9 0,lyM 0 1 0 0 0 9 0] [lyM 0 (-1) 0 0 0 9 0,lyM 0 0 0 0 0 9 0] (rows_of (b:=K.length+2) (g:=0) (cs:=[lyMC 0 (-1) 0 0 0 9 0,lyMC 1 (-1) 1 0 0 9 0,lyMC 0 1 0 0 0 9 0]) (l:=[lyM 0 (-1) 0 0 0 9 0,lyM 1 (-1) 1 0 0 9 0,lyM 0 1 0 0 0 9 0]) (by rw[hget_app];rfl) rfl rfl (show 3≤1000 by decide) (three_of rfl rfl rfl (lyM_E _ _ _ _ _ _ _ _) (lyM_E _ _ _ _ _ _ _ _) (lyM_E _ _ _ _ _ _ _ _))) (rows_of (b:=K.length+1) (g:=0) (cs:=[lyMC 0 (-1) 0 0 0 9 0,lyMC 0 0 0 0 0 9 0]) (l:=[lyM 0 (-1) 0 0 0 9 0,lyM 0 0 0 0 0 9 0]) (by rw[hget_app];rfl) rfl rfl (show 2≤1000 by decide) (two_of rfl rfl (lyM_E _ _ _ _ _ _ _ _) (lyM_E _ _ _ _ _ _ _ _))) (by rw[hget_app];rfl) (all3 (lyM_S _ _ _ _ _ _ _) (lyM_S _ _ _ _ _ _ _) (lyM_S _ _ _ _ _ _ _)) (all2 (lyM_S _ _ _ _ _ _ _) (lyM_S _ _ _ _ _ _ _)) (by simp) (by simp)).x ?_
    (refine sg (et t2 (et kdK (et kdK0 w1))) ?_;try exact⟨⟩)
    exact⟨r - 1,by omega,6,by omega,o.trans (Old.app' _ _),by omega,rfl⟩
   | 6,_=>
    (refine sg (et t2 (et kdK kdK0)) ?_;try exact⟨⟩)
    refine(nsame_ [lyM 0 (-1) 0 0 0 9 0,lyM 1 0 1 0 0 9 0,lyM 0 0 0 0 0 9 0] [lyM 0 (-1) 0 0 0 9 0,lyM 0 0 0 0 0 9 0] (rows_of (b:=K.length+2) (g:=0) (cs:=[lyMC 0 (-1) 0 0 0 9 0,lyMC 1 0 1 0 0 9 0,lyMC 0 0 0 0 0 9 0]) (l:=[lyM 0 (-1) 0 0 0 9 0,lyM 1 0 1 0 0 9 0,lyM 0 0 0 0 0 9 0]) (by rw[hget_app];rfl) rfl rfl (show 3≤1000 by decide) (three_of rfl rfl rfl (lyM_E _ _ _ _ _ _ _ _) (lyM_E _ _ _ _ _ _ _ _) (lyM_E _ _ _ _ _ _ _ _))) (rows_of (b:=K.length+1) (g:=0) (cs:=[lyMC 0 (-1) 0 0 0 9 0,lyMC 0 0 0 0 0 9 0]) (l:=[lyM 0 (-1) 0 0 0 9 0,lyM 0 0 0 0 0 9 0]) (by rw[hget_app];rfl) rfl rfl (show 2≤1000 by decide) (two_of rfl rfl (lyM_E _ _ _ _ _ _ _ _) (lyM_E _ _ _ _ _ _ _ _))) (by rw[hget_app];rfl) (all3 (lyM_S _ _ _ _ _ _ _) (lyM_S _ _ _ _ _ _ _) (lyM_S _ _ _ _ _ _ _)) (all2 (lyM_S _ _ _ _ _ _ _) (lyM_S _ _ _ _ _ _ _)) (by simp) (by simp)).x ?_
    (refine sg (et t2 (et kdK (et kdK0 w1))) ?_;try exact⟨⟩)
    exact⟨r - 1,by omega,7,by omega,o.trans (Old.app' _ _),by omega,rfl⟩
   | 7,_=>
    (refine sg (et t2 (et kdK kdK0)) ?_;try exact⟨⟩)
    refine(nsame_ [lyM 0 (-1) 0 0 0 9 0,lyM 1 (-1) 1 0 0 9 20,lyM 0 0 0 0 0 9 0] [lyM 0 (-1) 0 0 0 9 0,lyM 0 0 0 0 0 9 0] (rows_of (b:=K.length+2) (g:=0) (cs:=[lyMC 0 (-1) 0 0 0 9 0,lyMC 1 (-1) 1 0 0 9 20,lyMC 0 0 0 0 0 9 0]) (l:=[lyM 0 (-1) 0 0 0 9 0,lyM 1 (-1) 1 0 0 9 20,lyM 0 0 0 0 0 9 0]) (by rw[hget_app];rfl) rfl rfl (show 3≤1000 by decide) (three_of rfl rfl rfl (lyM_E _ _ _ _ _ _ _ _) (lyM_E _ _ _ _ _ _ _ _) (lyM_E _ _ _ _ _ _ _ _))) (rows_of (b:=K.length+1) (g:=0) (cs:=[lyMC 0 (-1) 0 0 0 9 0,lyMC 0 0 0 0 0 9 0]) (l:=[lyM 0 (-1) 0 0 0 9 0,lyM 0 0 0 0 0 9 0]) (by rw[hget_app];rfl) rfl rfl (show 2≤1000 by decide) (two_of rfl rfl (lyM_E _ _ _ _ _ _ _ _) (lyM_E _ _ _ _ _ _ _ _))) (by rw[hget_app];rfl) (all3 (lyM_S _ _ _ _ _ _ _) (lyM_S _ _ _ _ _ _ _) (lyM_S _ _ _ _ _ _ _)) (all2 (lyM_S _ _ _ _ _ _ _) (lyM_S _ _ _ _ _ _ _)) (by simp) (by simp)).x ?_
    (refine sg (et t2 (et kdK (et kdK0 w1))) ?_;try exact⟨⟩)
    exact⟨r - 1,by omega,8,by omega,o.trans (Old.app' _ _),by omega,rfl⟩
   | 8,_=>
    (refine sg (et t2 (et kdK kdK0)) ?_;try exact⟨⟩)
    refine(nsame_ [lyM 0 (-1) 0 0 0 9 0,lyM 1 (-1) 1 0 1073741819 1073741824 1073741824,lyM 0 0 0 0 0 9 0] [lyM 0 (-1) 0 0 0 9 0,lyM 0 0 0 0 0 9 0] (rows_of (b:=K.length+2) (g:=0) (cs:=[lyMC 0 (-1) 0 0 0 9 0,lyMC 1 (-1) 1 0 1073741819 1073741824 1073741824,lyMC 0 0 0 0 0 9 0]) (l:=[lyM 0 (-1) 0 0 0 9 0,lyM 1 (-1) 1 0 1073741819 1073741824 1073741824,lyM 0 0 0 0 0 9 0]) (by rw[hget_app];rfl) rfl rfl (show 3≤1000 by decide) (three_of rfl rfl rfl (lyM_E _ _ _ _ _ _ _ _) (lyM_E _ _ _ _ _ _ _ _) (lyM_E _ _ _ _ _ _ _ _))) (rows_of (b:=K.length+1) (g:=0) (cs:=[lyMC 0 (-1) 0 0 0 9 0,lyMC 0 0 0 0 0 9 0]) (l:=[lyM 0 (-1) 0 0 0 9 0,lyM 0 0 0 0 0 9 0]) (by rw[hget_app];rfl) rfl rfl (show 2≤1000 by decide) (two_of rfl rfl (lyM_E _ _ _ _ _ _ _ _) (lyM_E _ _ _ _ _ _ _ _))) (by rw[hget_app];rfl) (all3 (lyM_S _ _ _ _ _ _ _) (lyM_S _ _ _ _ _ _ _) (lyM_S _ _ _ _ _ _ _)) (all2 (lyM_S _ _ _ _ _ _ _) (lyM_S _ _ _ _ _ _ _)) (by simp) (by simp)).x ?_
    (refine sg (et t2 (et kdK (et kdK0 w1))) ?_;try exact⟨⟩)
    exact⟨r - 1,by omega,9,by omega,o.trans (Old.app' _ _),by omega,rfl⟩
   | 9,_=>
    (refine sg (et t2 (et kdK (et kdK0 tslI))) ?_;try exact⟨⟩)
    rw[app12]
    rotate_left
    ·rw[hget_app];rfl
    ·rfl
    (refine sg (et kdK kdK0) ?_;try exact⟨⟩)
    refine keep (fun r2 T J D=>D=[]∧T 2=.int .i64 ((9:Nat):Int)∧T 4=sl (K.length+1) 0 0 2 50∧T 5=sl (K.length+2) 0 1 15 50∧∃ (k:Nat) (B0 B3:Blk) (cs:List (List Value)) (l:List Ly),k+r2=15∧T 7=.int .i64 (k:Int)∧J=K++[B0,⟨[lyMC 0 (-1) 0 0 0 9 0,lyMC 0 0 0 0 0 9 0].flatten,0,true⟩,⟨cs.flatten,1,true⟩,B3]∧ElH (fun _=>True) cs l∧l.length=15∧∀ x∈l,LyS x) 12
     ⟨rfl,by(refine sg t2 ?_;try exact⟨⟩),by(refine sg trivial ?_;try exact⟨⟩),by(refine sg trivial ?_;try exact⟨⟩),3,_,_,[lyMC 0 (-1) 0 0 0 9 0,lyMC 1 (-1) 1 0 0 9 0,lyMC 0 0 0 0 0 9 0]++List.replicate 12 (lyMC 0 0 0 0 0 0 0),[lyM 0 (-1) 0 0 0 9 0,lyM 1 (-1) 1 0 0 9 0,lyM 0 0 0 0 0 9 0]++List.replicate 12 (lyM 0 0 0 0 0 0 0),by omega,by(refine sg trivial ?_;try exact⟨⟩) <;> rfl,rfl,
      elh_cons rfl (fun _ _=>lyM_E _ _ _ _ _ _ _ _) (elh_cons rfl (fun _ _=>lyM_E _ _ _ _ _ _ _ _) (elh_cons rfl (fun _ _=>lyM_E _ _ _ _ _ _ _ _) (elh_rep rfl (fun _ _=>lyM_E _ _ _ _ _ _ _ _) 12))),rfl,fun x hx=>by
       rcases List.mem_append.1 hx with hx|hx
       ·exact all3 (lyM_S _ _ _ _ _ _ _) (lyM_S _ _ _ _ _ _ _) (lyM_S _ _ _ _ _ _ _) x hx
       ·rw[List.eq_of_mem_replicate hx];exact lyM_S _ _ _ _ _ _ _⟩ ?_
    clear t2
    rintro r2 T2 J D ⟨rfl,t2,t4,t5,k,B0,B3,cs,l,hkr,t7,rfl,hE,hl,hS⟩
    by_cases hk:k<15
    ·have w7:IntKind.i64.wrap ((k:Int)+1)=((k+1:Nat):Int):=by rw[wi (by omega) (by omega)];rfl
     have hst:=fun V (c:List Value) (hc:c.length=50)=>ast_el (s:=50) (V:=V) (g:=1) (b:=K.length+2) (i:=k) (cs:=c) hE.all (by rw[hE.1];omega) hc
     simp only[go_sem,Nat.reduceEqDiff,Nat.reduceAdd,Nat.reduceSub,Nat.reduceMul,Nat.reduceLT,Nat.reduceLeDiff,Int.reducePow,Int.reduceBEq,Int.reduceBNe,Int.reduceDiv,Int.reduceMod,Int.reduceEq,Int.reduceLT,Int.reduceLE,Int.reduceAdd,Int.reduceSub,Int.reduceMul,Int.reduceNeg,Int.reduceToNat,Int.reduceTDiv,Int.reduceTMod,↓reduceIte,t2,t4,t5,t7,dt (show (k:Int)<15 by omega),show (0:Int)≤(k:Int) by omega,show (k:Int)<15 by omega,Int.toNat_natCast,Nat.zero_add,Nat.add_zero,hst,List.length_cons,List.length_nil,Nat.reduceAdd,kdK,kdK0,w7]
     exact⟨r2 - 1,by omega,k+1,B0,B3,_,_,by omega,rfl,rfl,hE.put k rfl (fun J _=>lyM_E 0 (-1) 0 0 0 9 0 J),by rw[List.length_set];exact hl,set_all hS (lyM_S _ _ _ _ _ _ _)⟩
    ·(refine sg (et t2 (et t4 (et t5 (et t7 (et (df (show ¬ (k:Int)<15 by omega)) (et kdK kdK0)))))) ?_;try exact⟨⟩)
     refine(nsame_ l [lyM 0 (-1) 0 0 0 9 0,lyM 0 0 0 0 0 9 0] (.inr ⟨K.length+2,1,[],true,cs,by rw[hl],by rw[List.append_nil,hget_app];rfl,hE.1,by omega,fun i y hy=>by
       obtain⟨c,e1,e2,e3⟩:=hE.2 i y hy
       exact⟨c,e1,e2,e3 _ trivial⟩⟩) (rows_of (b:=K.length+1) (g:=0) (cs:=[lyMC 0 (-1) 0 0 0 9 0,lyMC 0 0 0 0 0 9 0]) (l:=[lyM 0 (-1) 0 0 0 9 0,lyM 0 0 0 0 0 9 0]) (by rw[hget_app];rfl) rfl rfl (show 2≤1000 by decide) (two_of rfl rfl (lyM_E _ _ _ _ _ _ _ _) (lyM_E _ _ _ _ _ _ _ _))) (by rw[hget_app];rfl) hS (all2 (lyM_S _ _ _ _ _ _ _) (lyM_S _ _ _ _ _ _ _)) (by omega) (by simp)).x ?_
     (refine sg (et t2 (et kdK (et kdK0 w1))) ?_;try exact⟨⟩)
     exact⟨r - 1,by omega,10,by omega,o.trans (Old.app' _ _),by omega,rfl⟩
   | 10,_=>
    (refine sg (et t2 (et kdK kdK0)) ?_;try exact⟨⟩)
    refine(nsame_ [lyM 0 (-1) 0 0 0 9 0,lyM 1 (-1) 1 0 0 9 0,lyM 0 0 0 0 0 9 0,lyM 0 2 0 0 0 9 0] [lyM 0 (-1) 0 0 0 9 0,lyM 0 0 0 0 0 9 0] (rows_of (b:=K.length+2) (g:=1) (cs:=[lyMC 0 (-1) 0 0 0 9 0,lyMC 1 (-1) 1 0 0 9 0,lyMC 0 0 0 0 0 9 0,lyMC 0 2 0 0 0 9 0]) (l:=[lyM 0 (-1) 0 0 0 9 0,lyM 1 (-1) 1 0 0 9 0,lyM 0 0 0 0 0 9 0,lyM 0 2 0 0 0 9 0]) (by rw[hget_app];rfl) rfl rfl (show 4≤1000 by decide) (four_of rfl rfl rfl rfl (lyM_E _ _ _ _ _ _ _ _) (lyM_E _ _ _ _ _ _ _ _) (lyM_E _ _ _ _ _ _ _ _) (lyM_E _ _ _ _ _ _ _ _))) (rows_of (b:=K.length+1) (g:=0) (cs:=[lyMC 0 (-1) 0 0 0 9 0,lyMC 0 0 0 0 0 9 0]) (l:=[lyM 0 (-1) 0 0 0 9 0,lyM 0 0 0 0 0 9 0]) (by rw[hget_app];rfl) rfl rfl (show 2≤1000 by decide) (two_of rfl rfl (lyM_E _ _ _ _ _ _ _ _) (lyM_E _ _ _ _ _ _ _ _))) (by rw[hget_app];rfl) (all4 (lyM_S _ _ _ _ _ _ _) (lyM_S _ _ _ _ _ _ _) (lyM_S _ _ _ _ _ _ _) (lyM_S _ _ _ _ _ _ _)) (all2 (lyM_S _ _ _ _ _ _ _) (lyM_S _ _ _ _ _ _ _)) (by simp) (by simp)).x ?_
    (refine sg (et t2 (et kdK (et kdK0 w1))) ?_;try exact⟨⟩)
    exact⟨r - 1,by omega,11,by omega,o.trans (Old.app' _ _),by omega,rfl⟩
   | 11,_=>
    (refine sg (et t2 (et kdK (et kdK0 mk4))) ?_;try exact⟨⟩)
    refine(nsame_ [lyM 0 (-1) 0 0 0 9 0,lyH 1 (-1) 1 0 0 9 0 [] [] [] (true,[(0,0),(0,0),(0,0),(0,0)]),lyM 0 0 0 0 0 9 0] [lyM 0 (-1) 0 0 0 9 0,lyM 0 0 0 0 0 9 0] (rows_of (b:=K.length+2) (g:=0) (cs:=[lyMC 0 (-1) 0 0 0 9 0,lyHC 1 (-1) 1 0 0 9 0 [] [] [] (true,[(0,0),(0,0),(0,0),(0,0)]) nl nl nl (sl (K.length+4) 0 0 4 2),lyMC 0 0 0 0 0 9 0]) (l:=[lyM 0 (-1) 0 0 0 9 0,lyH 1 (-1) 1 0 0 9 0 [] [] [] (true,[(0,0),(0,0),(0,0),(0,0)]),lyM 0 0 0 0 0 9 0]) (by rw[hget_app];rfl) rfl rfl (show 3≤1000 by decide) (three_of rfl rfl rfl (lyM_E _ _ _ _ _ _ _ _) (lyH_E RowOf.none RowOf.none RowOf.none (.inr ⟨K.length+4,0,[],true,rfl,by rw[hget_app];rfl,by decide⟩)) (lyM_E _ _ _ _ _ _ _ _))) (rows_of (b:=K.length+1) (g:=0) (cs:=[lyMC 0 (-1) 0 0 0 9 0,lyMC 0 0 0 0 0 9 0]) (l:=[lyM 0 (-1) 0 0 0 9 0,lyM 0 0 0 0 0 9 0]) (by rw[hget_app];rfl) rfl rfl (show 2≤1000 by decide) (two_of rfl rfl (lyM_E _ _ _ _ _ _ _ _) (lyM_E _ _ _ _ _ _ _ _))) (by rw[hget_app];rfl) (all3 (lyM_S _ _ _ _ _ _ _) (lyH_S (by simp) (by simp) (by simp) (by simp)) (lyM_S _ _ _ _ _ _ _)) (all2 (lyM_S _ _ _ _ _ _ _) (lyM_S _ _ _ _ _ _ _)) (by simp) (by simp)).x ?_
    (refine sg (et t2 (et kdK (et kdK0 w1))) ?_;try exact⟨⟩)
    exact⟨r - 1,by omega,12,by omega,o.trans (Old.app' _ _),by omega,rfl⟩
   | 12,_=>
    (refine sg (et t2 (et kdK kdK0)) ?_;try exact⟨⟩)
    refine(nsame_ [lyM 0 (-1) 0 0 0 9 0,lyM 1 (-1) 1 0 0 9 0,lyM 0 0 0 0 0 9 0] [] (rows_of (b:=K.length+2) (g:=0) (cs:=[lyMC 0 (-1) 0 0 0 9 0,lyMC 1 (-1) 1 0 0 9 0,lyMC 0 0 0 0 0 9 0]) (l:=[lyM 0 (-1) 0 0 0 9 0,lyM 1 (-1) 1 0 0 9 0,lyM 0 0 0 0 0 9 0]) (by rw[hget_app];rfl) rfl rfl (show 3≤1000 by decide) (three_of rfl rfl rfl (lyM_E _ _ _ _ _ _ _ _) (lyM_E _ _ _ _ _ _ _ _) (lyM_E _ _ _ _ _ _ _ _))) RowOf.none (by rw[hget_app];rfl) (all3 (lyM_S _ _ _ _ _ _ _) (lyM_S _ _ _ _ _ _ _) (lyM_S _ _ _ _ _ _ _)) (fun l hl=>by cases hl) (by simp) (by simp)).x ?_
    (refine sg (et t2 (et kdK (et kdK0 w1))) ?_;try exact⟨⟩)
    exact⟨r - 1,by omega,13,by omega,o.trans (Old.app' _ _),by omega,rfl⟩
   | 13,_=>
    (refine sg (et t2 (et kdK kdK0)) ?_;try exact⟨⟩)
    refine(nsame_ [lyM 0 (-1) 0 0 0 9 0,lyM 1 (-1) 1 0 0 9 0,lyM 0 0 0 0 0 9 0] [lyM 0 (-1) 0 0 0 9 0,lyM 0 0 0 2 0 9 0] (rows_of (b:=K.length+2) (g:=0) (cs:=[lyMC 0 (-1) 0 0 0 9 0,lyMC 1 (-1) 1 0 0 9 0,lyMC 0 0 0 0 0 9 0]) (l:=[lyM 0 (-1) 0 0 0 9 0,lyM 1 (-1) 1 0 0 9 0,lyM 0 0 0 0 0 9 0]) (by rw[hget_app];rfl) rfl rfl (show 3≤1000 by decide) (three_of rfl rfl rfl (lyM_E _ _ _ _ _ _ _ _) (lyM_E _ _ _ _ _ _ _ _) (lyM_E _ _ _ _ _ _ _ _))) (rows_of (b:=K.length+1) (g:=0) (cs:=[lyMC 0 (-1) 0 0 0 9 0,lyMC 0 0 0 2 0 9 0]) (l:=[lyM 0 (-1) 0 0 0 9 0,lyM 0 0 0 2 0 9 0]) (by rw[hget_app];rfl) rfl rfl (show 2≤1000 by decide) (two_of rfl rfl (lyM_E _ _ _ _ _ _ _ _) (lyM_E _ _ _ _ _ _ _ _))) (by rw[hget_app];rfl) (all3 (lyM_S _ _ _ _ _ _ _) (lyM_S _ _ _ _ _ _ _) (lyM_S _ _ _ _ _ _ _)) (all2 (lyM_S _ _ _ _ _ _ _) (lyM_S _ _ _ _ _ _ _)) (by simp) (by simp)).x ?_
    (refine sg (et t2 (et kdK (et kdK0 w1))) ?_;try exact⟨⟩)
    exact⟨r - 1,by omega,14,by omega,o.trans (Old.app' _ _),by omega,rfl⟩
  ·(refine sg (et t2 (df (show ¬ (m:Int)<14 by omega))) ?_;try exact⟨⟩)
   refine(same27_ ⟨0,0,[]⟩ nl true K RowOf.none ⟨by decide,fun c hc=>by cases hc⟩).x ?_
   (refine sg (et kdK kdK0) ?_;try exact⟨⟩)
   refine(known27_ _).x ?_
   (refine sg (et kdK kdK0) ?_;try exact⟨⟩)
end Go.Proofs.YthhbglkokpablaaGreat
/- Arguments that are rows of turns, of bools. -/
namespace Go.Proofs.YthhbglkokpablaaGreat
open Go Go.RowKit E
set_option linter.unusedSimpArgs false
set_option linter.unusedVariables false
set_option maxRecDepth 100000
section
variable {P:Program} {H:AH}
theorem rd_bool {n:Nat} {cs:List Value} {t:TypeId} (hu:P.underlying t=some .bool) (h:Rd P (n+1) H t cs):∃ a:Bool,cs=[.bool a]:=by
 unfold Rd at h;rw[hu] at h;exact h
theorem el_rows {α:Type} {E:AH→List Value→α→Prop} {Q:α→Prop} {F:List Value→Prop} {s:Nat} (hF:∀ cs,F cs→∃ x,E H cs x∧Q x):∀ {len:Nat} {us:List Value},elems P F s len us→∃ (cs:List (List Value)) (l:List α),us=cs.flatten∧cs.length=len∧l.length=len∧(∀ (i:Nat) x,l[i]?=some x→∃ c,cs[i]?=some c∧c.length=s∧E H c x)∧∀ x∈l,Q x
 | 0,us,h=>⟨[],[],h,rfl,rfl,fun i x hx=>by simp at hx,fun x hx=>by cases hx⟩
 | len+1,us,h=>by
  obtain⟨h1,h2,h3⟩:=h
  obtain⟨cs,l,e1,e2,e3,e4,e5⟩:=el_rows hF h3
  obtain⟨x,ex,qx⟩:=hF _ h1
  refine⟨us.take s::cs,x::l,?_,by simp[e2],by simp[e3],fun i y hy=>?_,fun y hy=>?_⟩
  ·rw[List.flatten_cons,← e1,List.take_append_drop]
  ·cases i with
   | zero=>simp at hy;subst hy;exact⟨_,rfl,by rw[List.length_take];omega,ex⟩
   | succ i=>simp at hy;obtain⟨c,f1,f2,f3⟩:=e4 i y hy;exact⟨c,by simpa using f1,f2,f3⟩
  ·rcases List.mem_cons.1 hy with rfl|hy
   ·exact qx
   ·exact e5 y hy
theorem rd_rows {α:Type} {E:AH→List Value→α→Prop} {Q:α→Prop} {n s:Nat} {u:Value} {t e:TypeId} (hu:P.underlying t=some (.slice e)) (hs:P.cellsOf e=s) (hF:∀ cs,Rd P n H e cs→∃ x,E H cs x∧Q x) (h:Rd P (n+1) H t [u]) :
  ∃ l:List α,RowOf s E H u l∧∀ x∈l,Q x:=by
 unfold Rd at h;rw[hu] at h
 rcases h with h|h|⟨b,len,us,h1,h2,h3,h4,h5⟩
 ·cases h;exact⟨[],RowOf.none,fun x hx=>by cases hx⟩
 ·cases h;exact⟨[],.inl ⟨rfl,.inl ⟨_,rfl⟩⟩,fun x hx=>by cases hx⟩
 ·rw[hs] at h1 h4 h5
  cases h1
  obtain⟨cs,l,e1,e2,e3,e4,e5⟩:=el_rows hF h5
  subst e1
  refine⟨l,.inr ⟨b,0,[],false,cs,by rw[e3],by rw[List.append_nil];exact h2,by rw[e2,e3],by rw[e3];exact h3.1,e4⟩,e5⟩
end
variable {H:AH}
theorem Tns.ahead {J:AH} {v:Value} {l:List Tn} (h:Tns H v l) (a:Ahead H J):Tns J v l:=RowOf.old h (fun _ _ _ _ _ e=>e) (fun _ _ e=>a.get e)
theorem rd_bos {n:Nat} {u:Value} (h:Rd Tryz.prog (n+2) H 29 [u]):∃ l:List Bool,RowOf 1 BoE H u l:=by
 obtain⟨l,h1,_⟩:=rd_rows (E:=BoE) (Q:=fun _=>True) (s:=1) Tryz.underlying29 (by kernel_rfl) (fun cs h=>by
  obtain⟨a0,rfl⟩:=rd_bool Tryz.underlying4 h
  exact⟨a0,rfl,trivial⟩) h
 exact⟨l,h1⟩
theorem Bos.ahead {J:AH} {v:Value} {l:List Bool} (h:RowOf 1 BoE H v l) (a:Ahead H J):RowOf 1 BoE J v l:=RowOf.old h (fun _ _ _ _ _ e=>e) (fun _ _ e=>a.get e)
theorem RowOf.ahead {J:AH} {v:Value} {l:List Bool} (h:RowOf 1 BoE H v l) (a:Ahead H J):RowOf 1 BoE J v l:=Bos.ahead h a
end Go.Proofs.YthhbglkokpablaaGreat
