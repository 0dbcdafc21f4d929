/- Merged texts: DocB DocC DocD DocE DocH DocI Flat5. -/
import Derived.Test.YthhbglkokpablaaGreatV8
/- Documents: the walk of what counts something of each comp. -/
namespace Go.Proofs.YthhbglkokpablaaGreat
open Go Go.RowKit E
attribute [local irreducible] XRun XOps XCode XCal XLoop XQ SemCall
set_option linter.unusedSimpArgs false
set_option linter.unusedVariables false
theorem dintC_len (l:List Int):(intC l).length=l.length:=by simp[intC]
theorem dzrep_int:∀ n:Nat,zrep [.int .i64 0] n=intC (List.replicate n 0)
 | 0=>rfl
 | n+1=>by
  rw[List.replicate_succ]
  show _++zrep [.int .i64 0] n=[.int .i64 0]++intC (List.replicate n 0)
  rw[dzrep_int n]
theorem damkI (n:Nat) (h:n≤1000):amake Tryz.prog 27 (.int .i64 (n:Int)) (.int .i64 (n:Int))=some (intC (List.replicate n 0),1,n):=by
 have hb:tby Tryz.prog 3=some 8:=by kernel_rfl
 unfold amake
 (refine sg hb ?_;try exact⟨⟩)
 rw[if_pos (by simp;omega),Int.toNat_natCast,dzrep_int]
theorem dintC_set (l:List Int) (i:Nat) (v:Int):(intC l).set i (.int .i64 v)=intC (l.set i v):=by
 simp only[intC,List.map_set]
theorem dint_ast (H:AH) (l:List Int) {d:Nat} (hd:d<l.length) (v:Int) (b g:Nat):ast H (some ⟨intC l,g,true⟩) (some [.int .i64 v]) (some 1) b d g=some (H.set b ⟨intC (l.set d v),g,true⟩,b):=by
 have:=dintC_len l
 have e:(intC l).set d (.int .i64 v)=(intC l).take d++.int .i64 v::(intC l).drop (d+1):=by rw[List.set_eq_take_append_cons_drop,if_pos (by omega)]
 rw[ast_some (s:=1) rfl (by omega),← dintC_set,e,splice_def]
 simp
theorem dint_get {l:List Int} {i:Nat} {x:Int} (h:l[i]?=some x):(intC l)[i]?=some (.int .i64 x):=by
 unfold intC;rw[List.getElem?_map,h];rfl
def innF (r:List Int) (c n:Nat) (l:Ly):Int:=if l.kind=1∧(c:Int)<l.comp∧l.comp<c+1+(n:Int) then ((r[(l.comp - (c+1)).toNat]?).getD 0) else 0
theorem cntGo_cons (f:Int→Ly→Int→Int) (z:Int) (c:Nat) (ls:List Ly) (rest:List (List Ly)):cntGo f z c (ls::rest)=ls.foldl (fun n l=>f n l (innF (cntGo f z (c+1) rest) c rest.length l)) z::cntGo f z (c+1) rest:=rfl
theorem cntGo_len (f:Int→Ly→Int→Int) (z:Int):∀ (cs:List (List Ly)) (c:Nat),(cntGo f z c cs).length=cs.length
 | [],c=>rfl
 | ls::rest,c=>by rw[cntGo_cons,List.length_cons,List.length_cons,cntGo_len f z rest]
/-- Bounds: of what is counted by a suffix of s comps. -/
structure CB (f:Int→Ly→Int→Int) (z:Int) (X:Nat→Int) (N:Nat):Prop where
 z0:∀ s,s<N→0≤z∧z≤X (s+1)
 step:∀ s n i l,s<N→0≤n→n≤X (s+1)→0≤i→i≤X s→0≤f n l i∧f n l i≤X (s+1)
 up:∀ s,s<N→X s≤X (s+1)
 x0:0≤X 0
 top:∀ s,s≤N→X s≤1000000
theorem CB.mono {f:Int→Ly→Int→Int} {z:Int} {X:Nat→Int} {N:Nat} (h:CB f z X N):∀ (s t:Nat),s+t≤N→X s≤X (s+t)
 | s,0,_=>by rw[Nat.add_zero];exact Int.le_refl _
 | s,t+1,ht=>by have:=h.mono s t (by omega);have:=h.up (s+t) (by omega);rw[← Nat.add_assoc];omega
theorem foldl_b {f:Int→Ly→Int→Int} {hi hi':Int} {inn:Ly→Int} (h:∀ n i l,0≤n→n≤hi→0≤i→i≤hi'→0≤f n l i∧f n l i≤hi) (hinn:∀ l,0≤inn l∧inn l≤hi'):∀ (ls:List Ly) (n:Int),0≤n→n≤hi→0≤ls.foldl (fun n l=>f n l (inn l)) n∧ls.foldl (fun n l=>f n l (inn l)) n≤hi
 | [],n,h0,h1=>⟨h0,h1⟩
 | l::t,n,h0,h1=>by
  have:=h n (inn l) l h0 h1 (hinn l).1 (hinn l).2
  exact foldl_b h hinn t _ this.1 this.2
theorem innF_b {r:List Int} {M:Int} (h:∀ x∈r,0≤x∧x≤M) (hM:0≤M) (c n:Nat) (l:Ly):0≤innF r c n l∧innF r c n l≤M:=by
 unfold innF
 split
 ·cases hg:r[(l.comp - (c+1)).toNat]? with
  | none=>exact⟨Int.le_refl _,hM⟩
  | some x=>exact h x (List.mem_of_getElem? hg)
 ·exact⟨Int.le_refl _,hM⟩
theorem cntGo_b {f:Int→Ly→Int→Int} {z:Int} {X:Nat→Int} {N:Nat} (h:CB f z X N):∀ (cs:List (List Ly)) (c:Nat),cs.length≤N→∀ x∈cntGo f z c cs,0≤x∧x≤X cs.length
 | [],c,_,x,hx=>by cases hx
 | ls::rest,c,hl,x,hx=>by
  rw[List.length_cons] at hl ⊢
  have ih:=cntGo_b h rest (c+1) (by omega)
  rw[cntGo_cons] at hx
  have hX:0≤X rest.length:=by
   have:=h.mono 0 rest.length (by omega);rw[Nat.zero_add] at this;have:=h.x0;omega
  rcases List.mem_cons.1 hx with rfl|hx
  ·have z0:=h.z0 rest.length (by omega)
   exact foldl_b (fun n i l a b c d=>h.step rest.length n i l (by omega) a b c d) (fun l=>innF_b ih hX _ _ l) ls z z0.1 z0.2
  ·have:=ih x hx;have:=h.up rest.length (by omega);omega
set_option maxHeartbeats 4000000 in
theorem counts_ (fid:FuncId) (f:Int→Ly→Int→Int) (z:Int) (X:Nat→Int) (d:Dc) (v:Value) (H:AH) (h:Cos H v d.comps) (hl:d.comps.length≤1000) (hB:CB f z X d.comps.length)
  (hf:∀ (n i:Int) (l:Ly) (K:AH) v0 v1 v2 v3 v4 v5 v6 v7 v8 pm vw vh vp vc vd vda vf vt,0≤n→n≤1000000→0≤i→i≤1000000→SemCall Tryz.prog fid [.int .i64 n,.agg (lyVs l v0 v1 v2 v3 v4 v5 v6 v7 v8 pm vw vh vp vc vd vda vf vt).toArray,.int .i64 i] K (.int .i64 (f n l i)) K []) :
  Cal Tryz.prog 81 [dcV d v,.int .i64 z,.func (.func fid) [].toArray [].toArray] H fun v' H' W=>W=[]∧(∃ L,H'=H++L)∧∃ b,v'=sl b 0 0 d.comps.length 1∧H'[b]?=some ⟨intC (cntGo f z 0 d.comps),0,true⟩:=by
 refine adds_of ?_
 obtain⟨va,ve,hv⟩:=h.form
 subst hv
 have w0:IntKind.i64.wrap ((d.comps.length:Int) - 1)=(d.comps.length:Int) - 1:=wi (by omega) (by omega)
 refine XCal.of hm Tryz.func81 rfl (fun xs w=>Tryz.call81 xs w) Tryz.ntmps81 Tryz.results81 rfl ?_
 (refine sg (et (damkI d.comps.length hl) w0) ?_;try exact⟨⟩)
 have hK0l:H.length+2≤(H++[(⟨[.int .i64 d.in_,.int .i64 d.out,.slice va d.comps.length ve],0,true⟩:Blk),⟨intC (List.replicate d.comps.length 0),0,true⟩]).length:=by simp
 have g0:(H++[(⟨[.int .i64 d.in_,.int .i64 d.out,.slice va d.comps.length ve],0,true⟩:Blk),⟨intC (List.replicate d.comps.length 0),0,true⟩])[H.length]?=some ⟨[.int .i64 d.in_,.int .i64 d.out,.slice va d.comps.length ve],0,true⟩:=by rw[hget_app0];rfl
 have g1:(H++[(⟨[.int .i64 d.in_,.int .i64 d.out,.slice va d.comps.length ve],0,true⟩:Blk),⟨intC (List.replicate d.comps.length 0),0,true⟩])[H.length+1]?=some ⟨intC (List.replicate d.comps.length 0),0,true⟩:=by rw[hget_app];rfl
 have oH:Old H (H++[(⟨[.int .i64 d.in_,.int .i64 d.out,.slice va d.comps.length ve],0,true⟩:Blk),⟨intC (List.replicate d.comps.length 0),0,true⟩]):=Old.app' _ _
 generalize H++[(⟨[.int .i64 d.in_,.int .i64 d.out,.slice va d.comps.length ve],0,true⟩:Blk),⟨intC (List.replicate d.comps.length 0),0,true⟩]=K0 at *
 refine keep (fun r T K D=>D=[]∧r≤d.comps.length∧∃ cur:List Int,cur.length=d.comps.length∧cur.drop r=cntGo f z r (d.comps.drop r)∧Olx (H.length+1) K0 K∧K0.length≤K.length∧K[H.length+1]?=some ⟨intC cur,0,true⟩∧T 1=.int .i64 z∧T 2=.func (.func fid) [].toArray [].toArray∧T 3=ap H.length 0 0∧T 7=sl (H.length+1) 0 0 d.comps.length 1∧T 8=.int .i64 ((r:Int) - 1)) d.comps.length
  ⟨rfl,Nat.le_refl _,List.replicate d.comps.length 0,by simp,by rw[List.drop_eq_nil_of_le (by simp),List.drop_eq_nil_of_le (by omega)];rfl,Olx.refl _ _,by omega,g1,by(refine sg trivial ?_;try exact⟨⟩),by(refine sg trivial ?_;try exact⟨⟩),by(refine sg trivial ?_;try exact⟨⟩),by(refine sg trivial ?_;try exact⟨⟩),by(refine sg trivial ?_;try exact⟨⟩) <;> rfl⟩ ?_
 clear g1
 rintro r T K D ⟨rfl,hrl,cur,hcl,hcur,hold,hKl,hmk,t1,t2,t3,t7,t8⟩
 have kd:∀ n,decide (K.length+n<H.length)=false:=fun n=>df (by omega)
 have kd0:decide (K.length<H.length)=false:=df (by omega)
 have dkm:decide (H.length+1<H.length)=false:=df (by omega)
 by_cases hr0:r=0
 ·subst hr0
  rw[List.drop_zero,List.drop_zero] at hcur
  subst hcur
  (refine sg (et t1 (et t2 (et t3 (et t7 (et t8 (df (show ¬ (0:Int)≤((0:Nat):Int) - 1 by omega))))))) ?_;try exact⟨⟩)
  exact⟨H.length+1,rfl,hmk⟩
 ·obtain⟨c,rfl⟩:∃ c,r=c+1:=⟨r - 1,by omega⟩
  have e8:(((c+1:Nat):Int) - 1)=(c:Int):=by omega
  rw[e8] at t8
  obtain⟨ls,hls⟩:∃ ls,d.comps[c]?=some ls:=⟨_,List.getElem?_eq_getElem (by omega)⟩
  obtain⟨b,g,cells,rw_,cs,hve,hb,⟨w,rfl,hw⟩,hcl1,hle,hld,hgt⟩:=h.at hls
  have hwlen:=hw.len
  obtain⟨wa,we,hwf⟩:=hw.form
  subst hwf
  have hbl:=(List.getElem?_eq_some_iff.1 hb).1
  have kb:=hold _ _ (by omega) (oH _ _ hb)
  have kg:=hold _ _ (by omega) g0
  rw[hve] at kg
  have hg:=hgt 0 (by omega)
  rw[Nat.mul_one,Nat.add_zero] at hg
  have hg:cells[c]?=some (.slice wa ls.length we):=hg
  have q0:∀ n:Nat,(0:Int)≤(n:Int):=fun n=>by omega
  have q1:(c:Int)<(d.comps.length:Int):=by omega
  have w1:IntKind.i64.wrap ((c:Int) - 1)=((c:Nat):Int) - 1:=wi (by omega) (by omega)
  have hrest:(d.comps.drop (c+1)).length=d.comps.length - (c+1):=List.length_drop ..
  have hcb:=cntGo_b hB (d.comps.drop (c+1)) (c+1) (by omega)
  have hXle:=hB.top (d.comps.length - (c+1)) (by omega)
  have hXle1:=hB.top (d.comps.length - (c+1)+1) (by omega)
  have hX0:0≤X (d.comps.length - (c+1)):=by
   have:=hB.mono 0 (d.comps.length - (c+1)) (by omega);rw[Nat.zero_add] at this;have:=hB.x0;omega
  have hz0:=hB.z0 (d.comps.length - (c+1)) (by omega)
  rw[hrest] at hcb
  (refine sg (et t1 (et t2 (et t3 (et t7 (et t8 (et (dt (show (0:Int)≤(c:Int) by omega)) (et kg (et q0 (et q1 (et Int.toNat_natCast (et Nat.zero_add (et Nat.mul_one (et Nat.add_zero (et kb hg)))))))))))))) ?_;try exact⟨⟩)
  refine keep (fun r' T K' D=>D=[]∧∃ (k:Nat) (n:Int),k+r'=ls.length∧Old K K'∧K.length≤K'.length∧0≤n∧n≤X (d.comps.length - (c+1)+1)∧ls.foldl (fun n l=>f n l (innF (cntGo f z (c+1) (d.comps.drop (c+1))) c (d.comps.drop (c+1)).length l)) z=(ls.drop k).foldl (fun n l=>f n l (innF (cntGo f z (c+1) (d.comps.drop (c+1))) c (d.comps.drop (c+1)).length l)) n∧T 1=.int .i64 z∧T 2=.func (.func fid) [].toArray [].toArray∧T 3=ap H.length 0 0∧T 7=sl (H.length+1) 0 0 d.comps.length 1∧T 8=.int .i64 (c:Int)∧T 9=.int .i64 n∧T 31=.slice wa ls.length we∧T 32=.int .i64 (ls.length:Int)∧T 33=.int .i64 (k:Int)) ls.length
   ⟨rfl,0,z,by omega,Old.refl _,by omega,hz0.1,hz0.2,rfl,by(refine sg t1 ?_;try exact⟨⟩),by(refine sg t2 ?_;try exact⟨⟩),by(refine sg t3 ?_;try exact⟨⟩),by(refine sg t7 ?_;try exact⟨⟩),by(refine sg t8 ?_;try exact⟨⟩),by(refine sg trivial ?_;try exact⟨⟩),by(refine sg trivial ?_;try exact⟨⟩),by(refine sg trivial ?_;try exact⟨⟩),by(refine sg trivial ?_;try exact⟨⟩) <;> rfl⟩ ?_
  clear t1 t2 t3 t7 t8 kd kd0
  rintro r' T K' D ⟨rfl,k,n,hkr,hold',hKl',hn0,hn1,hfold,t1,t2,t3,t7,t8,t9,t31,t32,t33⟩
  have kd:∀ n,decide (K'.length+n<H.length)=false:=fun n=>df (by omega)
  have kd0:decide (K'.length<H.length)=false:=df (by omega)
  by_cases hk:k<ls.length
  ·obtain⟨l,hl'⟩:∃ l,ls[k]?=some l:=⟨_,List.getElem?_eq_getElem hk⟩
   obtain⟨b2,g2,cells2,rw2,cs2,hwe,hb2,hLy,hcl2,hle2,hld2,hgt2⟩:=hw.at hl'
   obtain⟨v0,v1,v2,v3,v4,v5,v6,v7,v8,pm,vw,vh,vp,vc,vd,vda,vf,vt,rfl,hLV,hSV⟩:=hLy
   have hbl2:=(List.getElem?_eq_some_iff.1 hb2).1
   have kb2:=hold' _ _ (hold _ _ (by omega) (oH _ _ hb2))
   have kg2:=hold' _ _ kg
   have km2:=hold' _ _ hmk
   rw[drop_at hl',List.foldl_cons] at hfold
   rw[hwe] at t31
   have q2:(k:Int)<(ls.length:Int):=by omega
   have w2:IntKind.i64.wrap ((k:Int)+1)=((k+1:Nat):Int):=by rw[wi (by omega) (by omega)];rfl
   have hib:=innF_b hcb hX0 c (d.comps.drop (c+1)).length l
   have hst:=hB.step (d.comps.length - (c+1)) n (innF (cntGo f z (c+1) (d.comps.drop (c+1))) c (d.comps.drop (c+1)).length l) l (by omega) hn0 hn1 hib.1 hib.2
   have hcall:=fun K=>hf n (innF (cntGo f z (c+1) (d.comps.drop (c+1))) c (d.comps.drop (c+1)).length l) l K v0 v1 v2 v3 v4 v5 v6 v7 v8 pm vw vh vp vc vd vda vf vt hn0 (by omega) hib.1 (by omega)
   have fin:∀ (L:AH) (T':Env),T' 1=.int .i64 z→True:=fun _ _ _=>trivial
   clear fin
   have e1:l.kind=1∧(c:Int)<l.comp∧l.comp<(d.comps.length:Int)→∃ m:Nat,l.comp=(m:Int)∧cur[m]?=some (innF (cntGo f z (c+1) (d.comps.drop (c+1))) c (d.comps.drop (c+1)).length l):=fun ⟨x1,x2,x3⟩=>by
    obtain⟨m,hm'⟩:∃ m:Nat,l.comp=(m:Int):=⟨l.comp.toNat,by omega⟩
    refine⟨m,hm',?_⟩
    have e2:cur[m]?=(cntGo f z (c+1) (d.comps.drop (c+1)))[m - (c+1)]?:=by
     rw[← hcur,List.getElem?_drop];congr 1;omega
    have hlt:m - (c+1)<(cntGo f z (c+1) (d.comps.drop (c+1))).length:=by rw[cntGo_len,hrest];omega
    rw[e2]
    unfold innF
    rw[if_pos ⟨x1,x2,by omega⟩,show (l.comp - ((c:Int)+1)).toNat=m - (c+1) by omega,List.getElem?_eq_getElem hlt];rfl
   have e3:¬ (l.kind=1∧(c:Int)<l.comp∧l.comp<(d.comps.length:Int))→innF (cntGo f z (c+1) (d.comps.drop (c+1))) c (d.comps.drop (c+1)).length l=0:=fun hne=>by
    unfold innF
    rw[if_neg (fun hh=>hne ⟨hh.1,hh.2.1,by omega⟩)]
   generalize innF (cntGo f z (c+1) (d.comps.drop (c+1))) c (d.comps.drop (c+1)).length l=inn at *
   generalize f n l inn=n' at *
   by_cases x1:l.kind=1
   ·by_cases x2:(c:Int)<l.comp
    ·by_cases x3:l.comp<(d.comps.length:Int)
     ·obtain⟨m,hm',hcm⟩:=e1 ⟨x1,x2,x3⟩
      have hcg:=dint_get hcm
      have hmt:l.comp.toNat=m:=by omega
      have x0:0≤l.comp:=by omega
      (refine sg (et t1 (et t2 (et t3 (et t7 (et t8 (et t9 (et t31 (et t32 (et t33 (et (dt q2) (et q0 (et q2 (et Int.toNat_natCast (et Nat.zero_add (et kb2 (et hld2 (et kd (et kd0 (et (bt x1) (et hmt (et x0 (et (dt x2) (et (dt x3) (et x3 (et (old_get kg2) (et (old_get km2) (et Nat.mul_one hcg))))))))))))))))))))))))))) ?_;try exact⟨⟩)
      refine(hcall _).x ?_
      (refine sg (et t1 (et t2 (et t3 (et t7 (et t8 (et t9 (et t31 (et t32 (et t33 (et kd (et kd0 w2))))))))))) ?_;try exact⟨⟩)
      exact⟨r' - 1,by omega,k+1,n',by omega,hold'.app _,by omega,hst.1,hst.2,hfold,rfl,hwe.symm,rfl⟩
     ·have hi0:=e3 (fun hh=>x3 hh.2.2)
      subst hi0
      (refine sg (et t1 (et t2 (et t3 (et t7 (et t8 (et t9 (et t31 (et t32 (et t33 (et (dt q2) (et q0 (et q2 (et Int.toNat_natCast (et Nat.zero_add (et kb2 (et hld2 (et kd (et kd0 (et (bt x1) (et (dt x2) (et (df x3) (old_get kg2)))))))))))))))))))))) ?_;try exact⟨⟩)
      refine(hcall _).x ?_
      (refine sg (et t1 (et t2 (et t3 (et t7 (et t8 (et t9 (et t31 (et t32 (et t33 (et kd (et kd0 w2))))))))))) ?_;try exact⟨⟩)
      exact⟨r' - 1,by omega,k+1,n',by omega,hold'.app _,by omega,hst.1,hst.2,hfold,rfl,hwe.symm,rfl⟩
    ·have hi0:=e3 (fun hh=>x2 hh.2.1)
     subst hi0
     (refine sg (et t1 (et t2 (et t3 (et t7 (et t8 (et t9 (et t31 (et t32 (et t33 (et (dt q2) (et q0 (et q2 (et Int.toNat_natCast (et Nat.zero_add (et kb2 (et hld2 (et kd (et kd0 (et (bt x1) (et (df x2) (old_get kg2))))))))))))))))))))) ?_;try exact⟨⟩)
     refine(hcall _).x ?_
     (refine sg (et t1 (et t2 (et t3 (et t7 (et t8 (et t9 (et t31 (et t32 (et t33 (et kd (et kd0 w2))))))))))) ?_;try exact⟨⟩)
     exact⟨r' - 1,by omega,k+1,n',by omega,hold'.app _,by omega,hst.1,hst.2,hfold,rfl,hwe.symm,rfl⟩
   ·have hi0:=e3 (fun hh=>x1 hh.1)
    subst hi0
    (refine sg (et t1 (et t2 (et t3 (et t7 (et t8 (et t9 (et t31 (et t32 (et t33 (et (dt q2) (et q0 (et q2 (et Int.toNat_natCast (et Nat.zero_add (et kb2 (et hld2 (et kd (et kd0 (et (bf x1) (old_get kg2)))))))))))))))))))) ?_;try exact⟨⟩)
    refine(hcall _).x ?_
    (refine sg (et t1 (et t2 (et t3 (et t7 (et t8 (et t9 (et t31 (et t32 (et t33 (et kd (et kd0 w2))))))))))) ?_;try exact⟨⟩)
    exact⟨r' - 1,by omega,k+1,n',by omega,hold'.app _,by omega,hst.1,hst.2,hfold,rfl,hwe.symm,rfl⟩
  ·rw[List.drop_eq_nil_of_le (show ls.length≤k by omega)] at hfold
   have hfold:ls.foldl (fun n l=>f n l (innF (cntGo f z (c+1) (d.comps.drop (c+1))) c (d.comps.drop (c+1)).length l)) z=n:=hfold
   have km2:=hold' _ _ hmk
   have hia:=dint_ast K' cur (d:=c) (by omega) n (H.length+1) 0
   have hml:=(List.getElem?_eq_some_iff.1 km2).1
   (refine sg (et t1 (et t2 (et t3 (et t7 (et t8 (et t9 (et t31 (et t32 (et t33 (et (df (show ¬ (k:Int)<(ls.length:Int) by omega)) (et q0 (et q1 (et Int.toNat_natCast (et Nat.zero_add (et Nat.mul_one (et km2 (et hia (et dkm w1)))))))))))))))))) ?_;try exact⟨⟩)
   refine⟨c,by omega,by omega,cur.set c n,by simpa using hcl,?_,(hold.trans (Olx.old hold')).trans (Olx.set0 _ _ _),by omega,List.getElem?_set_self hml,rfl⟩
   rw[drop_at hls,cntGo_cons,hfold,← hcur]
   refine List.ext_getElem? fun j=>?_
   rw[List.getElem?_drop]
   cases j with
   | zero=>rw[Nat.add_zero,List.getElem?_set_self (by omega)];rfl
   | succ j=>rw[List.getElem?_set_ne (by omega),List.getElem?_cons_succ,List.getElem?_drop];congr 1;omega
end Go.Proofs.YthhbglkokpablaaGreat
/- Documents: the walk of what judges a document. -/
namespace Go.Proofs.YthhbglkokpablaaGreat
open Go Go.RowKit E
attribute [local irreducible] XRun XOps XCode XCal XLoop XQ SemCall
set_option linter.unusedSimpArgs false
set_option linter.unusedVariables false
theorem deep1_ (n i:Int) (l:Ly) (K:AH) (v0 v1 v2 v3 v4 v5 v6 v7 v8 pm vw vh vp vc vd vda vf vt:Value) (h0:0≤n) (h1:n≤1000000) (h2:0≤i) (h3:i≤1000000):SemCall Tryz.prog 82 [.int .i64 n,.agg (lyVs l v0 v1 v2 v3 v4 v5 v6 v7 v8 pm vw vh vp vc vd vda vf vt).toArray,.int .i64 i] K (.int .i64 (depF n l i)) K []:=by
 refine pure_of ?_ rfl
 have w1:IntKind.i64.wrap (1+i)=1+i:=wi (by omega) (by omega)
 refine XCal.of hm Tryz.func82 rfl (fun xs w=>Tryz.call82 xs w) Tryz.ntmps82 Tryz.results82 rfl ?_
 (refine sg w1 ?_;try exact⟨⟩)
 rfl
theorem nodes1_ (n i:Int) (l:Ly) (K:AH) (v0 v1 v2 v3 v4 v5 v6 v7 v8 pm vw vh vp vc vd vda vf vt:Value) (h0:0≤n) (h1:n≤1000000) (h2:0≤i) (h3:i≤1000000):SemCall Tryz.prog 83 [.int .i64 n,.agg (lyVs l v0 v1 v2 v3 v4 v5 v6 v7 v8 pm vw vh vp vc vd vda vf vt).toArray,.int .i64 i] K (.int .i64 (nodF n l i)) K []:=by
 refine pure_of ?_ rfl
 have w1:IntKind.i64.wrap (1+i)=1+i:=wi (by omega) (by omega)
 have w2:IntKind.i64.wrap (n+(1+i))=n+(1+i):=wi (by omega) (by omega)
 have w3:IntKind.i64.wrap (n+2)=n+2:=wi (by omega) (by omega)
 unfold nodF
 by_cases k0:l.kind=0
 ·rw[if_pos k0]
  refine XCal.of hm Tryz.func83 rfl (fun xs w=>Tryz.call83 xs w) Tryz.ntmps83 Tryz.results83 rfl ?_
  (refine sg (et w1 (et w2 (et w3 (bt k0)))) ?_;try exact⟨⟩)
  rfl
 ·rw[if_neg k0]
  by_cases k1:l.kind=1
  ·rw[if_pos k1]
   refine XCal.of hm Tryz.func83 rfl (fun xs w=>Tryz.call83 xs w) Tryz.ntmps83 Tryz.results83 rfl ?_
   (refine sg (et w1 (et w2 (et w3 (et (bf k0) (bt k1))))) ?_;try exact⟨⟩)
   rfl
  ·rw[if_neg k1]
   refine XCal.of hm Tryz.func83 rfl (fun xs w=>Tryz.call83 xs w) Tryz.ntmps83 Tryz.results83 rfl ?_
   (refine sg (et w1 (et w2 (et w3 (et (bf k0) (bf k1))))) ?_;try exact⟨⟩)
   rfl
theorem cb_dep (N:Nat) (h:N≤1000):CB depF 1 (fun s=>(s:Int)) N:=
 ⟨fun s _=>⟨by omega,by show (1:Int)≤((s+1:Nat):Int);omega⟩,fun s n i l _ a b c d=>by
  have b:n≤((s+1:Nat):Int):=b
  have d:i≤(s:Int):=d
  unfold depF mxI
  split
  ·exact⟨by omega,by show 1+i≤((s+1:Nat):Int);omega⟩
  ·exact⟨a,b⟩,fun s _=>by show (s:Int)≤((s+1:Nat):Int);omega,Int.le_refl _,fun s hs=>by show (s:Int)≤1000000;omega⟩
theorem cb_nod (N:Nat):CB nodF 0 (fun _=>257) N:=
 ⟨fun s _=>⟨by omega,by omega⟩,fun s n i l _ a b c d=>by
  unfold nodF mnI
  have key:∀ x:Int,0≤x→0≤(if 257<x then 257 else x)∧(if 257<x then 257 else x)≤257:=fun x hx=>by split <;> omega
  apply key
  split
  ·omega
  ·split <;> omega,fun s _=>Int.le_refl _,by omega,fun s hs=>by omega⟩
theorem deep_ (d:Dc) (v:Value) (c:Int) (H:AH) (h:Cos H v d.comps) (hl:d.comps.length≤1000):SemCall Tryz.prog 54 [dcV d v,.int .i64 c] H (.int .i64 (deepE d.comps c)) H []:=by
 refine pure_of ?_ rfl
 obtain⟨va,ve,hv⟩:=h.form
 subst hv
 have th:=fun H=>dthere_ c (d.comps.length:Int) H
 unfold deepE
 cases ht:(decide (0≤c)&&decide (c<(d.comps.length:Int))) with
 | false=>
  rw[ht] at th
  rw[if_neg (by decide)]
  refine XCal.of hm Tryz.func54 rfl (fun xs w=>Tryz.call54 xs w) Tryz.ntmps54 Tryz.results54 rfl ?_
  (refine sg trivial ?_;try exact⟨⟩)
  repeat ((first|refine(th _).x ?_|refine drawnF ?_ (by decide +kernel));(refine sg trivial ?_;try exact⟨⟩))
 | true=>
  rw[ht] at th
  rw[if_pos rfl]
  simp only[Bool.and_eq_true,decide_eq_true_eq] at ht
  obtain⟨m,rfl⟩:∃ m:Nat,c=(m:Int):=⟨c.toNat,by omega⟩
  refine XCal.of hm Tryz.func54 rfl (fun xs w=>Tryz.call54 xs w) Tryz.ntmps54 Tryz.results54 rfl ?_
  (refine sg trivial ?_;try exact⟨⟩)
  repeat ((first|refine(th _).x ?_|refine drawnF ?_ (by decide +kernel));(refine sg trivial ?_;try exact⟨⟩))
  refine(counts_ _ depF 1 _ d _ _ (h.old CoE.m (Old.app' _ _)) hl (cb_dep _ hl) (fun n i l K v0 v1 v2 v3 v4 v5 v6 v7 v8 pm vw vh vp vc vd vda vf vt a b c d=>deep1_ n i l K v0 v1 v2 v3 v4 v5 v6 v7 v8 pm vw vh vp vc vd vda vf vt a b c d)).x ?_
  rintro v' H1 W1 ⟨rfl,⟨L,rfl⟩,b,rfl,hb⟩
  obtain⟨x,hx⟩:∃ x,(cntGo depF 1 0 d.comps)[m]?=some x:=⟨_,List.getElem?_eq_getElem (by rw[cntGo_len];omega)⟩
  rw[Int.toNat_natCast,hx]
  (refine sg (et (show (0:Int)≤(m:Int) by omega) (et ht.2 (et Int.toNat_natCast (et Nat.zero_add (et Nat.mul_one (et hb (dint_get hx))))))) ?_;try exact⟨⟩)
  rfl
theorem nodes_ (d:Dc) (v:Value) (c:Int) (H:AH) (h:Cos H v d.comps) (hl:d.comps.length≤1000):SemCall Tryz.prog 55 [dcV d v,.int .i64 c] H (.int .i64 (nodesE d.comps c)) H []:=by
 refine pure_of ?_ rfl
 obtain⟨va,ve,hv⟩:=h.form
 subst hv
 have th:=fun H=>dthere_ c (d.comps.length:Int) H
 unfold nodesE
 cases ht:(decide (0≤c)&&decide (c<(d.comps.length:Int))) with
 | false=>
  rw[ht] at th
  rw[if_neg (by decide)]
  refine XCal.of hm Tryz.func55 rfl (fun xs w=>Tryz.call55 xs w) Tryz.ntmps55 Tryz.results55 rfl ?_
  (refine sg trivial ?_;try exact⟨⟩)
  repeat ((first|refine(th _).x ?_|refine drawnF ?_ (by decide +kernel));(refine sg trivial ?_;try exact⟨⟩))
 | true=>
  rw[ht] at th
  rw[if_pos rfl]
  simp only[Bool.and_eq_true,decide_eq_true_eq] at ht
  obtain⟨m,rfl⟩:∃ m:Nat,c=(m:Int):=⟨c.toNat,by omega⟩
  refine XCal.of hm Tryz.func55 rfl (fun xs w=>Tryz.call55 xs w) Tryz.ntmps55 Tryz.results55 rfl ?_
  (refine sg trivial ?_;try exact⟨⟩)
  repeat ((first|refine(th _).x ?_|refine drawnF ?_ (by decide +kernel));(refine sg trivial ?_;try exact⟨⟩))
  refine(counts_ _ nodF 0 _ d _ _ (h.old CoE.m (Old.app' _ _)) hl (cb_nod _) (fun n i l K v0 v1 v2 v3 v4 v5 v6 v7 v8 pm vw vh vp vc vd vda vf vt a b c d=>nodes1_ n i l K v0 v1 v2 v3 v4 v5 v6 v7 v8 pm vw vh vp vc vd vda vf vt a b c d)).x ?_
  rintro v' H1 W1 ⟨rfl,⟨L,rfl⟩,b,rfl,hb⟩
  obtain⟨x,hx⟩:∃ x,(cntGo nodF 0 0 d.comps)[m]?=some x:=⟨_,List.getElem?_eq_getElem (by rw[cntGo_len];omega)⟩
  rw[Int.toNat_natCast,hx]
  (refine sg (et (show (0:Int)≤(m:Int) by omega) (et ht.2 (et Int.toNat_natCast (et Nat.zero_add (et Nat.mul_one (et hb (dint_get hx))))))) ?_;try exact⟨⟩)
  rfl
def manyB (c:List Ly):Bool:=decide (16<(c.length:Int))
theorem right1_ (c:List Ly) (v:Value) (H:AH) (h:Lys H v c):SemCall Tryz.prog 51 [.agg [v].toArray] H (.bool (manyB c)) H []:=by
 refine pure_of ?_ rfl
 obtain⟨va,ve,hv⟩:=h.form
 subst hv
 unfold manyB
 refine XCal.of hm Tryz.func51 rfl (fun xs w=>Tryz.call51 xs w) Tryz.ntmps51 Tryz.results51 rfl ?_
 (refine sg trivial ?_;try exact⟨⟩)
theorem cIndex_ (l:List (List Ly)) (v:Value) (H:AH) (h:Cos H v l):SemCall Tryz.prog 77 [v,.func (.func 51) [].toArray [].toArray] H (.int .i64 (idxG manyB l 0)) H []:=by
 refine pure_of ?_ rfl
 have hlen:=h.len
 obtain⟨va,ve,hv⟩:=h.form
 subst hv
 refine XCal.of hm Tryz.func77 rfl (fun xs w=>Tryz.call77 xs w) Tryz.ntmps77 Tryz.results77 rfl ?_
 (refine sg trivial ?_;try exact⟨⟩)
 refine keep (fun k T H' D=>H=H'∧D=[]∧T 0=.slice va l.length ve∧T 1=.func (.func 51) [].toArray [].toArray∧T 7=.int .i64 (l.length:Int)∧∃ i:Nat,i+k=l.length∧T 8=.int .i64 (i:Int)∧idxG manyB (l.drop i) i=idxG manyB l 0) l.length ⟨rfl,rfl,rfl,rfl,rfl,0,by omega,rfl,rfl⟩ ?_
 rintro k T H' D ⟨rfl,rfl,h0,h1,h7,i,hi,h8,hr⟩
 by_cases hk:i<l.length
 ·obtain⟨x,hx⟩:∃ x,l[i]?=some x:=⟨_,List.getElem?_eq_getElem hk⟩
  obtain⟨b,g,cells,rw_,c,hve,hb,⟨kv,hc,hkv⟩,hcl,hle,hld,hgt⟩:=h.at hx
  subst hc
  rw[hve] at h0
  rw[drop_at hx,idxG] at hr
  have w1:IntKind.i64.wrap ((i:Int)+1)=((i+1:Nat):Int):=by rw[wi (by omega) (by omega)];rfl
  have c1:=right1_ x kv H hkv
  cases hd:manyB x with
  | true=>
   rw[hd] at c1
   rw[if_pos hd] at hr
   (refine sg (et h0 (et h1 (et h7 (et h8 (et (dt (show (i:Int)<(l.length:Int) by omega)) (et hb (et (show (0:Int)≤(i:Int) by omega) (et (show (i:Int)<(l.length:Int) by omega) (et Int.toNat_natCast (et Nat.zero_add hld)))))))))) ?_;try exact⟨⟩)
   refine c1.x ?_
   (refine sg (et h0 (et h1 (et h7 h8))) ?_;try exact⟨⟩)
   rw[← hr]
  | false=>
   rw[hd] at c1
   rw[if_neg (by rw[hd];decide)] at hr
   (refine sg (et h0 (et h1 (et h7 (et h8 (et (dt (show (i:Int)<(l.length:Int) by omega)) (et hb (et (show (0:Int)≤(i:Int) by omega) (et (show (i:Int)<(l.length:Int) by omega) (et Int.toNat_natCast (et Nat.zero_add hld)))))))))) ?_;try exact⟨⟩)
   refine c1.x ?_
   simp only[go_sem,Nat.reduceEqDiff,Nat.reduceAdd,Nat.reduceSub,Nat.reduceMul,Nat.reduceLT,Nat.reduceLeDiff,Int.reducePow,Int.reduceBEq,Int.reduceBNe,Int.reduceDiv,Int.reduceMod,Int.reduceEq,Int.reduceLT,Int.reduceLE,Int.reduceAdd,Int.reduceSub,Int.reduceMul,Int.reduceNeg,Int.reduceToNat,Int.reduceTDiv,Int.reduceTMod,↓reduceIte,h0,h1,h7,h8,w1]
   exact⟨k - 1,by omega,hve.symm,i+1,by omega,rfl,hr⟩
 ·rw[List.drop_eq_nil_of_le (by omega)] at hr
  simp only[go_sem,Nat.reduceEqDiff,Nat.reduceAdd,Nat.reduceSub,Nat.reduceMul,Nat.reduceLT,Nat.reduceLeDiff,Int.reducePow,Int.reduceBEq,Int.reduceBNe,Int.reduceDiv,Int.reduceMod,Int.reduceEq,Int.reduceLT,Int.reduceLE,Int.reduceAdd,Int.reduceSub,Int.reduceMul,Int.reduceNeg,Int.reduceToNat,Int.reduceTDiv,Int.reduceTMod,↓reduceIte,h0,h1,h7,h8,df (show ¬ (i:Int)<(l.length:Int) by omega)]
  rw[← hr];rfl
theorem cContains_ (l:List (List Ly)) (v:Value) (H:AH) (h:Cos H v l):SemCall Tryz.prog 50 [v,.func (.func 51) [].toArray [].toArray] H (.bool (l.any manyB)) H []:=by
 refine pure_of ?_ rfl
 refine XCal.of hm Tryz.func50 rfl (fun xs w=>Tryz.call50 xs w) Tryz.ntmps50 Tryz.results50 rfl ?_
 simp only[go_sem,Nat.reduceEqDiff,Nat.reduceAdd,Nat.reduceSub,Nat.reduceMul,Nat.reduceLT,Nat.reduceLeDiff,Int.reducePow,Int.reduceBEq,Int.reduceBNe,Int.reduceDiv,Int.reduceMod,Int.reduceEq,Int.reduceLT,Int.reduceLE,Int.reduceAdd,Int.reduceSub,Int.reduceMul,Int.reduceNeg,Int.reduceToNat,Int.reduceTDiv,Int.reduceTMod,↓reduceIte]
 repeat ((first|refine(cIndex_ l v _ h).x ?_|refine drawnF ?_ (by decide +kernel));simp only[go_sem,Nat.reduceEqDiff,Nat.reduceAdd,Nat.reduceSub,Nat.reduceMul,Nat.reduceLT,Nat.reduceLeDiff,Int.reducePow,Int.reduceBEq,Int.reduceBNe,Int.reduceDiv,Int.reduceMod,Int.reduceEq,Int.reduceLT,Int.reduceLE,Int.reduceAdd,Int.reduceSub,Int.reduceMul,Int.reduceNeg,Int.reduceToNat,Int.reduceTDiv,Int.reduceTMod,↓reduceIte,idxG_ge])
set_option maxHeartbeats 4000000 in
theorem dright_ (d:Dc) (v:Value) (H:AH) (h:Cos H v d.comps):SemCall Tryz.prog 26 [dcV d v] H (.int .i64 (rightE d)) H []:=by
 refine pure_of ?_ rfl
 have hlen:=h.len
 obtain⟨va,ve,hv⟩:=h.form
 subst hv
 have cc:=fun L=>cContains_ d.comps _ (H++L) (h.old CoE.m (Old.app' H L))
 have cl:=fun L=>layers_ d _ (H++L) (h.old CoE.m (Old.app' H L))
 have tk:=fun t H=>tick_ t H
 obtain⟨q,hq⟩:∃ q,rightE d=q:=⟨_,rfl⟩
 rw[hq]
 unfold rightE sizeB at hq
 have hm:(d.comps.any fun c=>decide (16<(c.length:Int)))=d.comps.any manyB:=rfl
 rw[hm] at hq
 clear hm
 refine XCal.of hm Tryz.func26 rfl (fun xs w=>Tryz.call26 xs w) Tryz.ntmps26 Tryz.results26 rfl ?_
 (refine sg trivial ?_;try exact⟨⟩)
 repeat ((first|refine(cc _).x ?_|refine drawnF ?_ (by decide +kernel));(refine sg trivial ?_;try exact⟨⟩))
 cases h1:decide ((d.comps.length:Int)<1) with
 | true=>
  rw[h1,Bool.true_or,Bool.true_or,if_pos rfl] at hq
  (refine sg h1 ?_;try exact⟨⟩)
  rw[hq]
 | false=>
  cases h2:decide (8<(d.comps.length:Int)) with
  | true=>
   rw[h1,h2,Bool.false_or,Bool.true_or,if_pos rfl] at hq
   (refine sg (et h1 h2) ?_;try exact⟨⟩)
   rw[hq]
  | false=>
   rw[h1,h2,Bool.false_or,Bool.false_or] at hq
   cases h3:d.comps.any manyB with
   | true=>
    rw[h3,if_pos rfl] at hq
    (refine sg (et h1 (et h2 h3)) ?_;try exact⟨⟩)
    rw[hq]
   | false=>
    rw[h3,if_neg (by decide)] at hq
    have hl:d.comps.length≤1000:=by simp at h2;omega
    have cd:=fun L=>deep_ d _ 0 (H++L) (h.old CoE.m (Old.app' H L)) hl
    have cn:=fun L=>nodes_ d _ 0 (H++L) (h.old CoE.m (Old.app' H L)) hl
    (refine sg (et h1 (et h2 h3)) ?_;try exact⟨⟩)
    cases t1:tickB d.in_ with
    | false=>
     rw[t1,Bool.not_false,Bool.true_or,Bool.true_or,if_pos rfl] at hq
     repeat ((first|refine(tk _ _).x ?_|refine drawnF ?_ (by decide +kernel));(refine sg t1 ?_;try exact⟨⟩))
     rw[hq]
    | true=>
     cases t2:tickB d.out with
     | false=>
      rw[t1,t2,Bool.not_true,Bool.not_false,Bool.false_or,Bool.true_or,if_pos rfl] at hq
      repeat ((first|refine(tk _ _).x ?_|refine drawnF ?_ (by decide +kernel));(refine sg (et t1 t2) ?_;try exact⟨⟩))
      rw[hq]
     | true=>
      cases t3:decide (d.out≤d.in_) with
      | true=>
       rw[t1,t2,t3,Bool.not_true,Bool.or_true,if_pos rfl] at hq
       repeat ((first|refine(tk _ _).x ?_|refine drawnF ?_ (by decide +kernel));(refine sg (et t1 (et t2 t3)) ?_;try exact⟨⟩))
       rw[hq]
      | false=>
       rw[t1,t2,t3,Bool.not_true,Bool.or_self,Bool.or_self,if_neg (by decide)] at hq
       repeat ((first|refine(tk _ _).x ?_|refine(cl _).x ?_|refine drawnF ?_ (by decide +kernel));(refine sg (et t1 (et t2 t3)) ?_;try exact⟨⟩))
       by_cases he:cosE d.comps 0 d.comps=0
       ·rw[if_neg (fun hh=>hh he)] at hq
        (refine sg (nt he) ?_;try exact⟨⟩)
        by_cases e1:4<deepE d.comps 0
        ·rw[if_pos (.inl e1)] at hq
         repeat ((first|refine(cd _).x ?_|refine(cn _).x ?_|refine drawnF ?_ (by decide +kernel));(refine sg (dt e1) ?_;try exact⟨⟩))
         rw[hq]
        ·by_cases e2:256<nodesE d.comps 0
         ·rw[if_pos (.inr e2)] at hq
          repeat ((first|refine(cd _).x ?_|refine(cn _).x ?_|refine drawnF ?_ (by decide +kernel));(refine sg (et (df e1) (dt e2)) ?_;try exact⟨⟩))
          rw[hq]
         ·rw[if_neg (by omega)] at hq
          repeat ((first|refine(cd _).x ?_|refine(cn _).x ?_|refine drawnF ?_ (by decide +kernel));(refine sg (et (df e1) (df e2)) ?_;try exact⟨⟩))
          rw[hq]
       ·rw[if_pos he] at hq
        (refine sg (nf he) ?_;try exact⟨⟩)
        rw[hq]
end Go.Proofs.YthhbglkokpablaaGreat
/- Documents: the walks of what compares documents. -/
namespace Go.Proofs.YthhbglkokpablaaGreat
open Go Go.RowKit E
attribute [local irreducible] XRun XOps XCode XCal XLoop XQ SemCall
set_option linter.unusedSimpArgs false
set_option linter.unusedVariables false
def lyP (x y:Ly):Bool:=(x.kind==y.kind)&&(x.parent==y.parent)&&(x.comp==y.comp)&&(x.matte==y.matte)&&(x.in_==y.in_)&&(x.out==y.out)&&(x.start==y.start)
def lyQ (x y:Ly):Bool:=lyP x y&&eqG (eqG kyQ) x.keys y.keys&&plQ x.mask y.mask&&shQ x.shape y.shape
def dcQ (x y:Dc):Bool:=(x.in_==y.in_)&&(x.out==y.out)&&eqG (eqG lyQ) x.comps y.comps
end Go.Proofs.YthhbglkokpablaaGreat
/- Documents: the walk of some runs. -/
namespace Go.Proofs.YthhbglkokpablaaGreat
open Go Go.RowKit E
attribute [local irreducible] XRun XOps XCode XCal XLoop XQ SemCall
set_option linter.unusedSimpArgs false
set_option linter.unusedVariables false
theorem RowOf.one {α:Type} {s:Nat} {E:AH→List Value→α→Prop} {K:AH} {b g:Nat} {rw_:Bool} {c:List Value} {x:α} (hb:K[b]?=some ⟨c,g,rw_⟩) (hc:c.length=s) (hE:E K c x):RowOf s E K (sl b 0 g 1 s) [x]:=
 .inr ⟨b,g,[],rw_,[c],rfl,by simpa using hb,rfl,by simp,fun i y hy=>by
  cases i with
  | zero=>simp at hy;subst hy;exact⟨c,rfl,hc,hE⟩
  | succ i=>simp at hy⟩
/-- A layer that is nothing but its parent and its end. -/
def lyD (p o:Int):Ly:=⟨0,p,0,0,0,o,0,[],[],[],[],[],[],[],[],[],(false,[]),sh00⟩
end Go.Proofs.YthhbglkokpablaaGreat
/- Documents of a tape: the walks of eases, ways, colours, paints. -/
namespace Go.Proofs.YthhbglkokpablaaGreat
open Go Go.RowKit E
attribute [local irreducible] XRun XOps XCode XCal XLoop XQ SemCall
set_option linter.unusedSimpArgs false
set_option linter.unusedVariables false
theorem kease_ (H:AH) {tb g:Nat} {lv:Value} {ls:List Int} (h:TapeAt H tb g lv ls) :
  Cal Tryz.prog 91 [ap tb 0 g] H fun v H' W'=>∃ r:Ez × Int,(easeB r.1=true∧0≤r.2∧r.2≤ls.length)∧v=ezV r.1∧H'=H.set tb (tblk lv g r.2)∧W'=[tb]:=by
 have htb:=h.lt
 have hi0:=h.1
 have hb:=(h.2).choose_spec.2.2
 refine none_of _ _ tb _ htb ?_ (fun r _=>rfl) (fun r _=>tape_ren hi0 _ _ _)
 refine XCal.of hm Tryz.func91 rfl (fun xs w=>Tryz.call91 xs w) Tryz.ntmps91 Tryz.results91 rfl ?_
 (refine sg trivial ?_;try exact⟨⟩)
 refine(next_ 65537 (by omega) _ (h.app _)).x ?_
 rintro v H1 W1 ⟨⟨x1,a1⟩,⟨b1,b2,a0,a2⟩,rfl,rfl,rfl⟩
 (refine sg (et (decide_eq_true htb) (et (old_set hb) (et (old_sset hb) (old_sget hb)))) ?_;try exact⟨⟩)
 refine(number_ (-1) 1 (by omega) (by omega) (by omega) _ ((tape_set h ⟨a0,a2⟩).app _)).x ?_
 rintro v H1 W1 ⟨⟨y1,c1⟩,⟨d1,d2,c0,c2⟩,rfl,rfl,rfl⟩
 (refine sg (et (decide_eq_true htb) (et (old_set hb) (et (old_sset hb) (old_sget hb)))) ?_;try exact⟨⟩)
 refine(next_ 65537 (by omega) _ ((tape_set h ⟨c0,c2⟩).app _)).x ?_
 rintro v H1 W1 ⟨⟨x2,e1⟩,⟨f1,f2,e0,e2⟩,rfl,rfl,rfl⟩
 (refine sg (et (decide_eq_true htb) (et (old_set hb) (et (old_sset hb) (old_sget hb)))) ?_;try exact⟨⟩)
 refine(number_ 0 2 (by omega) (by omega) (by omega) _ ((tape_set h ⟨e0,e2⟩).app _)).x ?_
 rintro v H1 W1 ⟨⟨y2,g1⟩,⟨i1,i2,g0,g2⟩,rfl,rfl,rfl⟩
 (refine sg (et (decide_eq_true htb) (et (old_set hb) (et (old_sset hb) (old_sget hb)))) ?_;try exact⟨⟩)
 have b1:0≤x1:=b1
 have b2:x1<65537:=b2
 have d1 : -1*65536≤y1:=d1
 have d2:y1<1*65536+65536:=d2
 have f1:0≤x2:=f1
 have f2:x2<65537:=f2
 have i1:0*65536≤y2:=i1
 have i2:y2<2*65536+65536:=i2
 refine⟨fun x=>by simp,(⟨x1,y1,x2,y2⟩,g1),⟨?_,g0,g2⟩,rfl,rfl⟩
 unfold easeB
 simp only
 rw[dt (show 0≤x1 by omega),dt (show x1≤65536 by omega),dt (show 0≤x2 by omega),dt (show x2≤65536 by omega),dt (show -131072≤y1 by omega),dt (show y1≤196608 by omega),dt (show -131072≤y2 by omega),dt (show y2≤196608 by omega)];rfl
theorem khow_ (H:AH) {tb g:Nat} {lv:Value} {ls:List Int} (h:TapeAt H tb g lv ls) :
  Cal Tryz.prog 67 [ap tb 0 g] H fun v H' W'=>∃ r:(Int × Ez) × Int,(howB r.1.1 r.1.2=true∧0≤r.2∧r.2≤ls.length)∧v=.tuple [.int .i64 r.1.1,ezV r.1.2].toArray∧H'=H.set tb (tblk lv g r.2)∧W'=[tb]:=by
 have htb:=h.lt
 have hi0:=h.1
 have hb:=(h.2).choose_spec.2.2
 refine none_of _ _ tb _ htb ?_ (fun r _=>rfl) (fun r _=>tape_ren hi0 _ _ _)
 refine XCal.of hm Tryz.func67 rfl (fun xs w=>Tryz.call67 xs w) Tryz.ntmps67 Tryz.results67 rfl ?_
 (refine sg trivial ?_;try exact⟨⟩)
 refine(next_ 4 (by omega) _ (h.app _)).x ?_
 rintro v H1 W1 ⟨⟨q,a1⟩,⟨b1,b2,a0,a2⟩,rfl,rfl,rfl⟩
 by_cases q0:q=0
 ·(refine sg (et (bt q0) (et (decide_eq_true htb) (et (old_set hb) (et (old_sset hb) (old_sget hb))))) ?_;try exact⟨⟩)
  exact⟨SameW.rfl',((0,ez00),a1),⟨rfl,a0,a2⟩,rfl,rfl⟩
 ·by_cases q1:q=1
  ·(refine sg (et (bf q0) (et (bt q1) (et (decide_eq_true htb) (et (old_set hb) (et (old_sset hb) (old_sget hb)))))) ?_;try exact⟨⟩)
   refine(kease_ _ ((tape_set h ⟨a0,a2⟩).app _)).x ?_
   rintro v H1 W1 ⟨⟨e,c1⟩,⟨he,c0,c2⟩,rfl,rfl,rfl⟩
   (refine sg (et (decide_eq_true htb) (et (old_set hb) (et (old_sset hb) (old_sget hb)))) ?_;try exact⟨⟩)
   exact⟨fun x=>by simp,((2,e),c1),⟨he,c0,c2⟩,rfl,rfl⟩
  ·(refine sg (et (bf q0) (et (bf q1) (et (decide_eq_true htb) (et (old_set hb) (et (old_sset hb) (old_sget hb)))))) ?_;try exact⟨⟩)
   exact⟨SameW.rfl',((1,ez00),a1),⟨rfl,a0,a2⟩,rfl,rfl⟩
theorem kcolor_ (H:AH) {tb g:Nat} {lv:Value} {ls:List Int} (h:TapeAt H tb g lv ls) :
  Cal Tryz.prog 70 [ap tb 0 g] H fun v H' W'=>∃ r:C4 × Int,(True∧0≤r.2∧r.2≤ls.length)∧v=.agg (c4C r.1).toArray∧H'=H.set tb (tblk lv g r.2)∧W'=[tb]:=by
 have htb:=h.lt
 have hi0:=h.1
 have hb:=(h.2).choose_spec.2.2
 refine none_of _ _ tb _ htb ?_ (fun r _=>rfl) (fun r _=>tape_ren hi0 _ _ _)
 refine XCal.of hm Tryz.func70 rfl (fun xs w=>Tryz.call70 xs w) Tryz.ntmps70 Tryz.results70 rfl ?_
 (refine sg trivial ?_;try exact⟨⟩)
 refine(next_ 256 (by omega) _ (h.app _)).x ?_
 rintro v H1 W1 ⟨⟨x1,a1⟩,⟨b1,b2,a0,a2⟩,rfl,rfl,rfl⟩
 (refine sg (et (decide_eq_true htb) (et (old_set hb) (et (old_sset hb) (old_sget hb)))) ?_;try exact⟨⟩)
 refine(next_ 256 (by omega) _ ((tape_set h ⟨a0,a2⟩).app _)).x ?_
 rintro v H1 W1 ⟨⟨x2,c1⟩,⟨d1,d2,c0,c2⟩,rfl,rfl,rfl⟩
 (refine sg (et (decide_eq_true htb) (et (old_set hb) (et (old_sset hb) (old_sget hb)))) ?_;try exact⟨⟩)
 refine(next_ 256 (by omega) _ ((tape_set h ⟨c0,c2⟩).app _)).x ?_
 rintro v H1 W1 ⟨⟨x3,e1⟩,⟨f1,f2,e0,e2⟩,rfl,rfl,rfl⟩
 (refine sg (et (decide_eq_true htb) (et (old_set hb) (et (old_sset hb) (old_sget hb)))) ?_;try exact⟨⟩)
 refine(next_ 256 (by omega) _ ((tape_set h ⟨e0,e2⟩).app _)).x ?_
 rintro v H1 W1 ⟨⟨x4,g1⟩,⟨i1,i2,g0,g2⟩,rfl,rfl,rfl⟩
 (refine sg (et (decide_eq_true htb) (et (old_set hb) (et (old_sset hb) (old_sget hb)))) ?_;try exact⟨⟩)
 refine(next_ 4 (by omega) _ ((tape_set h ⟨g0,g2⟩).app _)).x ?_
 rintro v H1 W1 ⟨⟨q,j1⟩,⟨k1,k2,j0,j2⟩,rfl,rfl,rfl⟩
 have k1:0≤q:=k1
 have k2:q<4:=k2
 obtain rfl|rfl|rfl|rfl:q=0∨q=1∨q=2∨q=3:=by omega
 ·simp only[go_sem,Nat.reduceEqDiff,Nat.reduceAdd,Nat.reduceSub,Nat.reduceMul,Nat.reduceLT,Nat.reduceLeDiff,Int.reducePow,Int.reduceBEq,Int.reduceBNe,Int.reduceDiv,Int.reduceMod,Int.reduceEq,Int.reduceLT,Int.reduceLE,Int.reduceAdd,Int.reduceSub,Int.reduceMul,Int.reduceNeg,Int.reduceToNat,Int.reduceTDiv,Int.reduceTMod,↓reduceIte,decide_eq_true htb,old_set hb,old_sset hb,old_sget hb,Int.reduceToNat]
  exact⟨fun x=>by simp,(⟨IntKind.u8.wrap x1,IntKind.u8.wrap x2,IntKind.u8.wrap x3,255⟩,j1),⟨j0,j2⟩,rfl,rfl⟩
 ·simp only[go_sem,Nat.reduceEqDiff,Nat.reduceAdd,Nat.reduceSub,Nat.reduceMul,Nat.reduceLT,Nat.reduceLeDiff,Int.reducePow,Int.reduceBEq,Int.reduceBNe,Int.reduceDiv,Int.reduceMod,Int.reduceEq,Int.reduceLT,Int.reduceLE,Int.reduceAdd,Int.reduceSub,Int.reduceMul,Int.reduceNeg,Int.reduceToNat,Int.reduceTDiv,Int.reduceTMod,↓reduceIte,decide_eq_true htb,old_set hb,old_sset hb,old_sget hb,Int.reduceToNat]
  exact⟨fun x=>by simp,(⟨IntKind.u8.wrap x1,IntKind.u8.wrap x2,IntKind.u8.wrap x3,255⟩,j1),⟨j0,j2⟩,rfl,rfl⟩
 ·simp only[go_sem,Nat.reduceEqDiff,Nat.reduceAdd,Nat.reduceSub,Nat.reduceMul,Nat.reduceLT,Nat.reduceLeDiff,Int.reducePow,Int.reduceBEq,Int.reduceBNe,Int.reduceDiv,Int.reduceMod,Int.reduceEq,Int.reduceLT,Int.reduceLE,Int.reduceAdd,Int.reduceSub,Int.reduceMul,Int.reduceNeg,Int.reduceToNat,Int.reduceTDiv,Int.reduceTMod,↓reduceIte,decide_eq_true htb,old_set hb,old_sset hb,old_sget hb,Int.reduceToNat]
  exact⟨fun x=>by simp,(⟨IntKind.u8.wrap x1,IntKind.u8.wrap x2,IntKind.u8.wrap x3,128⟩,j1),⟨j0,j2⟩,rfl,rfl⟩
 ·simp only[go_sem,Nat.reduceEqDiff,Nat.reduceAdd,Nat.reduceSub,Nat.reduceMul,Nat.reduceLT,Nat.reduceLeDiff,Int.reducePow,Int.reduceBEq,Int.reduceBNe,Int.reduceDiv,Int.reduceMod,Int.reduceEq,Int.reduceLT,Int.reduceLE,Int.reduceAdd,Int.reduceSub,Int.reduceMul,Int.reduceNeg,Int.reduceToNat,Int.reduceTDiv,Int.reduceTMod,↓reduceIte,decide_eq_true htb,old_set hb,old_sset hb,old_sget hb,Int.reduceToNat]
  exact⟨fun x=>by simp,(⟨IntKind.u8.wrap x1,IntKind.u8.wrap x2,IntKind.u8.wrap x3,IntKind.u8.wrap x4⟩,j1),⟨j0,j2⟩,rfl,rfl⟩
theorem near_sm {x:Int} (h : -67108864≤x∧x≤67108864):nearB x=true:=by unfold nearB;rw[dt h.1,dt h.2];rfl
theorem kpaint_ (H:AH) {tb g:Nat} {lv:Value} {ls:List Int} (h:TapeAt H tb g lv ls) :
  Cal Tryz.prog 69 [ap tb 0 g] H fun v H' W'=>∃ r:Pnt × Int,(paintB r.1=true∧0≤r.2∧r.2≤ls.length)∧v=pntV r.1∧H'=H.set tb (tblk lv g r.2)∧W'=[tb]:=by
 have htb:=h.lt
 have hi0:=h.1
 have hb:=(h.2).choose_spec.2.2
 refine none_of _ _ tb _ htb ?_ (fun r _=>rfl) (fun r _=>tape_ren hi0 _ _ _)
 refine XCal.of hm Tryz.func69 rfl (fun xs w=>Tryz.call69 xs w) Tryz.ntmps69 Tryz.results69 rfl ?_
 (refine sg trivial ?_;try exact⟨⟩)
 refine(next_ 3 (by omega) _ (h.app _)).x ?_
 rintro v H1 W1 ⟨⟨kd,a1⟩,⟨b1,b2,a0,a2⟩,rfl,rfl,rfl⟩
 have b1:0≤kd:=b1
 have b2:kd<3:=b2
 (refine sg (et (decide_eq_true htb) (et (old_set hb) (et (old_sset hb) (old_sget hb)))) ?_;try exact⟨⟩)
 refine(kcolor_ _ ((tape_set h ⟨a0,a2⟩).app _)).x ?_
 rintro v H1 W1 ⟨⟨ca,c1⟩,⟨_,c0,c2⟩,rfl,rfl,rfl⟩
 (refine sg (et (decide_eq_true htb) (et (old_set hb) (et (old_sset hb) (old_sget hb)))) ?_;try exact⟨⟩)
 refine(kcolor_ _ ((tape_set h ⟨c0,c2⟩).app _)).x ?_
 rintro v H1 W1 ⟨⟨cb,e1⟩,⟨_,e0,e2⟩,rfl,rfl,rfl⟩
 by_cases k0:kd=0
 ·(refine sg (et (decide_eq_true htb) (et (old_set hb) (et (old_sset hb) (et (old_sget hb) (nt k0))))) ?_;try exact⟨⟩)
  refine⟨fun x=>by simp,(⟨kd,ca,cb,(0,0),(0,0),0⟩,e1),⟨?_,e0,e2⟩,rfl,rfl⟩
  unfold paintB
  simp only
  rw[dt (show 0≤kd by omega),dt (show kd≤2 by omega)];rfl
 ·(refine sg (et (decide_eq_true htb) (et (old_set hb) (et (old_sset hb) (et (old_sget hb) (nf k0))))) ?_;try exact⟨⟩)
  refine(point_ (-4) 12 (by omega) (by omega) (by omega) _ ((tape_set h ⟨e0,e2⟩).app _)).x ?_
  rintro v H1 W1 ⟨⟨p,f1⟩,⟨i1,i2,f0,f2⟩,rfl,rfl,rfl⟩
  (refine sg (et (decide_eq_true htb) (et (old_set hb) (et (old_sset hb) (old_sget hb)))) ?_;try exact⟨⟩)
  refine(point_ (-4) 12 (by omega) (by omega) (by omega) _ ((tape_set h ⟨f0,f2⟩).app _)).x ?_
  rintro v H1 W1 ⟨⟨q,j1⟩,⟨l1,l2,j0,j2⟩,rfl,rfl,rfl⟩
  (refine sg (et (decide_eq_true htb) (et (old_set hb) (et (old_sset hb) (old_sget hb)))) ?_;try exact⟨⟩)
  refine(number_ 0 12 (by omega) (by omega) (by omega) _ ((tape_set h ⟨j0,j2⟩).app _)).x ?_
  rintro v H1 W1 ⟨⟨rr,m1⟩,⟨n1,n2,m0,m2⟩,rfl,rfl,rfl⟩
  (refine sg (et (decide_eq_true htb) (et (old_set hb) (et (old_sset hb) (old_sget hb)))) ?_;try exact⟨⟩)
  refine⟨fun x=>by simp,(⟨kd,ca,cb,p,q,rr⟩,m1),⟨?_,m0,m2⟩,rfl,rfl⟩
  have i1 : -4*65536≤p.1∧p.1<12*65536+65536:=i1
  have i2 : -4*65536≤p.2∧p.2<12*65536+65536:=i2
  have l1 : -4*65536≤q.1∧q.1<12*65536+65536:=l1
  have l2 : -4*65536≤q.2∧q.2<12*65536+65536:=l2
  have n1:0*65536≤rr:=n1
  have n2:rr<12*65536+65536:=n2
  unfold paintB
  simp only
  rw[dt (show 0≤kd by omega),dt (show kd≤2 by omega),near_sm (by omega),near_sm (by omega),near_sm (by omega),near_sm (by omega),near_sm (by omega)];rfl
end Go.Proofs.YthhbglkokpablaaGreat
/- Documents of a tape: the walk of keys. -/
namespace Go.Proofs.YthhbglkokpablaaGreat
open Go Go.RowKit E
attribute [local irreducible] XRun XOps XCode XCal XLoop XQ SemCall
set_option linter.unusedSimpArgs false
set_option linter.unusedVariables false
theorem keysGo_snoc {k : Ky} (ht : tickB k.t = true) (hh : howB k.how k.e = true) (hv : nearB k.v = true) : ∀ {l : List Ky} {f : Bool} {a : Int}, keysGo f a l = true → (∀ x ∈ l, x.t < k.t) → (f = true ∨ a < k.t) → keysGo f a (l ++ [k]) = true
  | [], f, a, _, _, h => by
    show (kstB f a k.t k.how k.e && nearB k.v && true) = true
    unfold kstB
    have : (f || decide (a < k.t)) = true := by rcases h with h | h; · rw [h]; rfl
                                                · rw [dt h, Bool.or_true]
    rw [ht, hh, hv, this]; rfl
  | x :: t, f, a, h, hl, _ => by
    rw[List.cons_append,keysGo]
    simp only[keysGo,Bool.and_eq_true] at h
    rw[h.1.1,h.1.2,keysGo_snoc ht hh hv h.2 (fun y hy=>hl y (by simp[hy])) (.inr (hl x (by simp)))];rfl
theorem tick_sm {t:Int} (h : -1073741824≤t∧t≤1073741824):tickB t=true:=by unfold tickB;rw[dt h.1,dt h.2];rfl
/-- Rows of keys that a tape makes. -/
structure KW (l:List Ky) (n:Nat):Prop where
 go:keysGo true 0 l=true
 len:l.length≤n
 low:∀ x∈l,x.t<60
theorem KW.keys {l:List Ky} {n:Nat} (h:KW l n) (hn:n≤32):keysB l=true:=by
 unfold keysB;rw[h.go,dt (show (l.length:Int)≤32 by have:=h.len;omega)];rfl
theorem Ints.olx {H J:AH} {t:Nat} {lv:Value} {ls:List Int} (h:Ints H t lv ls) (o:Olx t H J):Ints J t lv ls:=by
 rcases h with h|⟨b,g,rest,rw_,h1,h2,h3,h4⟩
 ·exact .inl h
 ·exact .inr ⟨b,g,rest,rw_,h1,h2,o _ _ h2 h3,h4⟩
/-- What a tape's walk leaves: old blocks stand, but for the tape's own; things may have been added. -/
structure TpS (H K:AH) (tb g:Nat) (lv:Value) (ls:List Int):Prop where
 base:TapeAt H tb g lv ls
 old:Olx tb H K
 len:H.length≤K.length
 tape:TapeAt K tb g lv ls
theorem TpS.refl {H:AH} {tb g:Nat} {lv:Value} {ls:List Int} (h:TapeAt H tb g lv ls):TpS H H tb g lv ls:=⟨h,Olx.refl _ _,Nat.le_refl _,h⟩
theorem TpS.lt {H K:AH} {tb g:Nat} {lv:Value} {ls:List Int} (h:TpS H K tb g lv ls):tb<H.length:=h.base.lt
theorem TpS.step {H K:AH} {tb g:Nat} {lv:Value} {ls:List Int} (h:TpS H K tb g lv ls) {a:Int} (h1:0≤a) (h2:a≤ls.length):TpS H (K.set tb (tblk lv g a)) tb g lv ls:=
 ⟨h.base,h.old.trans (Olx.set0 _ _ _),by have:=h.len;simpa using this,h.tape.set h1 h2⟩
theorem TpS.app {H K:AH} {tb g:Nat} {lv:Value} {ls:List Int} (h:TpS H K tb g lv ls) (L:AH):TpS H (K++L) tb g lv ls:=
 ⟨h.base,h.old.app L,by have:=h.len;rw[List.length_append];omega,h.tape.app L⟩
theorem TpS.trans {H K J:AH} {tb g:Nat} {lv:Value} {ls:List Int} (h:TpS H K tb g lv ls) (h':TpS K J tb g lv ls):TpS H J tb g lv ls:=
 ⟨h.base,h.old.trans h'.old,Nat.le_trans h.len h'.len,h'.tape⟩
theorem TpS.bo {H K J:AH} {tb g bo:Nat} {lv:Value} {ls:List Int} (h:TpS H K tb g lv ls) (hb:H.length≤bo) (o:Olx bo K J) (hl:K.length≤J.length):TpS H J tb g lv ls:=by
  have ho:=h.old.bo hb o
  obtain⟨_,a,h2,h3,h4⟩:=h.tape
  exact ⟨h.base, ho, Nat.le_trans h.len hl, Ints.olx h.base.1 ho, a, h2, h3, o _ _ (by have := h.lt; omega) h4⟩
set_option maxHeartbeats 4000000 in
theorem kkeys_ (lo hi : Int) (h0 : -1000 ≤ lo) (h1 : lo ≤ hi) (h2 : hi ≤ 1000) (H : AH) {tb g : Nat} {lv : Value} {ls : List Int} (h : TapeAt H tb g lv ls) :
    Cal Tryz.prog 44 [ap tb 0 g, .int .i64 lo, .int .i64 hi] H fun v H' W => SameW W [tb] ∧ TpS H H' tb g lv ls ∧ ∃ l, MkRow 7 KyE H.length H' v l ∧ KW l 3 := by
  have htb := h.lt
  have dtb:decide (tb<H.length)=true:=dt htb
  have hT:=TpS.refl h
  refine of_x ?_
  refine XCal.of hm Tryz.func44 rfl (fun xs w=>Tryz.call44 xs w) Tryz.ntmps44 Tryz.results44 rfl ?_
  (refine sg trivial ?_;try exact⟨⟩)
  refine(next_ 6 (by omega) _ h).x ?_
  rintro v H1 W1 ⟨⟨A0,a1⟩,⟨A1,A2,a0,a2⟩,rfl,rfl,rfl⟩
  have A1:0≤A0:=A1
  have A2:A0<6:=A2
  have hT:=hT.step (a:=a1) a0 a2
  generalize H.set tb (tblk lv g a1)=K0 at *
  (refine sg dtb ?_;try exact⟨⟩)
  refine(next_ 4 (by omega) _ hT.tape).x ?_
  rintro v H1 W1 ⟨⟨q,b1⟩,⟨q0,q1,b0,b2⟩,rfl,rfl,rfl⟩
  have q0:0≤q:=q0
  have q1:q<4:=q1
  have hT:=hT.step (a:=b1) b0 b2
  generalize K0.set tb (tblk lv g b1)=K0' at *
  obtain⟨nq,rfl⟩:∃ n:Nat,q=(n:Int):=⟨q.toNat,by omega⟩
  (refine sg dtb ?_;try exact⟨⟩)
  refine keep (fun k T K D=>SameW D [tb]∧T 0=ap tb 0 g∧T 1=.int .i64 lo∧T 2=.int .i64 hi∧T 9=.int .i64 (k:Int)∧TpS H K tb g lv ls∧∃ (l:List Ky) (A:Int),T 8=.int .i64 A∧l.length+k=nq∧MkRow 7 KyE H.length K (T 7) l∧keysGo true 0 l=true∧(∀ x∈l,x.t<A)∧0≤A∧A≤5+8*(l.length:Int)) nq
    ⟨fun x=>by simp,by(refine sg trivial ?_;try exact⟨⟩),by(refine sg trivial ?_;try exact⟨⟩),by(refine sg trivial ?_;try exact⟨⟩),by(refine sg trivial ?_;try exact⟨⟩),hT,[],A0,by(refine sg trivial ?_;try exact⟨⟩),by simp,.inl ⟨rfl,by(refine sg trivial ?_;try exact⟨⟩) <;> rfl⟩,rfl,(fun x hx=>by cases hx),A1,by simp;omega⟩ ?_
  clear hT
  rintro k T K D ⟨hD,t0,t1,t2,t9,hT,l,A,t8,hlk,hM,hgo,hlow,hA0,hA1⟩
  by_cases hk:0<k
  · have w1:IntKind.i64.wrap ((k:Int) - 1)=((k - 1:Nat):Int):=by rw[wi (by omega) (by omega)];omega
    generalize ht7:T 7=v7 at *
    (refine sg (et t0 (et t1 (et t2 (et t8 (et t9 (dt (show (0:Int)<(k:Int) by omega))))))) ?_;try exact⟨⟩)
    refine(number_ lo hi h1 (by omega) (by omega) _ hT.tape).x ?_
    rintro v H1 W1 ⟨⟨nn,c1⟩,⟨n0,n1,c0,c2⟩,rfl,rfl,rfl⟩
    have n0:lo*65536≤nn:=n0
    have n1:nn<hi*65536+65536:=n1
    have hM:=hM.olt (Olx.set0 tb K (tblk lv g c1)) htb
    have hT:=hT.step (a:=c1) c0 c2
    generalize K.set tb (tblk lv g c1)=K1 at *
    have kd:∀ n,decide (K1.length+n<H.length)=false:=fun n=>df (by have:=hT.len;omega)
    have kd0:decide (K1.length<H.length)=false:=df (by have:=hT.len;omega)
    (refine sg (et t0 (et t1 (et t2 (et t8 (et t9 (et dtb (et kd kd0))))))) ?_;try exact⟨⟩)
    refine(khow_ _ (hT.tape.app _)).x ?_
    rintro v H1 W1 ⟨⟨⟨hw,e⟩,d1⟩,⟨hh,d0,d2⟩,rfl,rfl,rfl⟩
    have hh:howB hw e=true:=hh
    rw[old_set (hT.tape.2).choose_spec.2.2]
    have hM:=hM.olt (Olx.set0 tb K1 (tblk lv g d1)) htb
    have hT:=hT.step (a:=d1) d0 d2
    have hl2:K1.length=(K1.set tb (tblk lv g d1)).length:=by simp
    rw[hl2] at kd kd0 ⊢
    generalize K1.set tb (tblk lv g d1)=K2 at *
    clear hl2
    have hnew:keysGo true 0 (l++[⟨A,nn,hw,e⟩])=true:=keysGo_snoc (tick_sm (by simp only;omega)) hh (near_sm (by simp only;omega)) hgo hlow (.inl rfl)
    have hll:((l++[(⟨A,nn,hw,e⟩:Ky)]).length:Int)=l.length+1:=by simp
    have w2:IntKind.i64.wrap (A+1)=A+1:=wi (by omega) (by omega)
    have hD1:SameW (D++[tb]++[tb]) [tb]:=snoc (snoc hD)
    rcases hM with ⟨rfl,rfl⟩|⟨bo,go,cs,hbo,rfl,hkb,hcs,hel⟩
    · (refine sg (et t0 (et t1 (et t2 (et t8 (et t9 (et dtb (et kd (et kd0 ht7)))))))) ?_;try exact⟨⟩)
      have hT3:=hT.app [⟨kyC ⟨A,nn,hw,e⟩,0,true⟩,⟨kyC ⟨A,nn,hw,e⟩,0,true⟩,⟨kyC ⟨A,nn,hw,e⟩,0,true⟩]
      have hM3:MkRow 7 KyE H.length (K2++[⟨kyC ⟨A,nn,hw,e⟩,0,true⟩,⟨kyC ⟨A,nn,hw,e⟩,0,true⟩,⟨kyC ⟨A,nn,hw,e⟩,0,true⟩]) (sl (K2.length+2) 0 0 1 7) [⟨A,nn,hw,e⟩]:=
        MkRow.first (c:=kyC ⟨A,nn,hw,e⟩) (fun J _=>rfl) rfl (by rw[hget_app];rfl) (by have:=hT.len;omega)
      refine(next_ 8 (by omega) _ hT3.tape).x ?_
      rintro v H1 W1 ⟨⟨x,f1⟩,⟨x0,x1,f0,f2⟩,rfl,rfl,rfl⟩
      have x0:0≤x:=x0
      have x1:x<8:=x1
      have hT3:=hT3.step (a:=f1) f0 f2
      have hM3:=hM3.olt (Olx.set0 tb _ (tblk lv g f1)) htb
      have w3:IntKind.i64.wrap (A+1+x)=A+1+x:=wi (by simp at hA1;omega) (by simp at hA1;omega)
      (refine sg (et t0 (et t1 (et t2 (et t8 (et t9 (et dtb (et kd (et kd0 (et w1 (et w2 w3)))))))))) ?_;try exact⟨⟩)
      exact⟨k - 1,by omega,snoc hD1,rfl,hT3,[⟨A,nn,hw,e⟩],A+1+x,rfl,by simp at hlk ⊢;omega,hM3,hnew,(fun y hy=>by rw[List.mem_singleton.1 hy];show A<_;omega),by omega,by simp at hA1 ⊢;omega⟩
    · have hlb:=(List.getElem?_eq_some_iff.1 hkb).1
      have hfl:=flatten_len (RowOf.all hcs hel)
      rw[hcs] at hfl
      have db0:decide (bo<H.length)=false:=df (by omega)
      have hsm:(l.length+1)*56 - 140737488355328=0:=Nat.sub_eq_zero_of_le (Nat.le_trans (Nat.mul_le_mul_right 56 (show l.length+1≤11 by omega)) (by decide))
      have hsm2:l.length+1 - 140737488355328=0:=Nat.sub_eq_zero_of_le (Nat.le_trans (show l.length+1≤11 by omega) (by decide))
      (refine sg (et t0 (et t1 (et t2 (et t8 (et t9 (et dtb (et kd (et kd0 (et ht7 (et (old_get hkb) (et (old_set hkb) (et hfl (et hsm (et hsm2 db0)))))))))))))) ?_;try exact⟨⟩)
      have hT3:=(hT.bo hbo (Olx.set1 bo K2 [⟨kyC ⟨A,nn,hw,e⟩,0,true⟩,⟨kyC ⟨A,nn,hw,e⟩,0,true⟩] ⟨cs.flatten++kyC ⟨A,nn,hw,e⟩,go+1,true⟩) (by simp))
      have hM3:=MkRow.next (E:=KyE) (n0:=H.length) (K:=K2) (J:=K2.set bo ⟨cs.flatten++kyC ⟨A,nn,hw,e⟩,go+1,true⟩++[⟨kyC ⟨A,nn,hw,e⟩,0,true⟩,⟨kyC ⟨A,nn,hw,e⟩,0,true⟩]) (g':=go+1) (x:=⟨A,nn,hw,e⟩) (c:=kyC ⟨A,nn,hw,e⟩) hbo hcs hel (Olx.set1 _ _ _ _) (fun J _=>rfl) rfl (old_sget hkb _ _)
      refine(next_ 8 (by omega) _ hT3.tape).x ?_
      rintro v H1 W1 ⟨⟨x,f1⟩,⟨x0,x1,f0,f2⟩,rfl,rfl,rfl⟩
      have x0:0≤x:=x0
      have x1:x<8:=x1
      have hT3:=hT3.step (a:=f1) f0 f2
      have hM3:=hM3.olt (Olx.set0 tb _ (tblk lv g f1)) htb
      have w3:IntKind.i64.wrap (A+1+x)=A+1+x:=wi (by omega) (by omega)
      (refine sg (et t0 (et t1 (et t2 (et t8 (et t9 (et dtb (et kd (et kd0 (et db0 (et w1 (et w2 w3))))))))))) ?_;try exact⟨⟩)
      exact⟨k - 1,by omega,snoc hD1,rfl,hT3,l++[⟨A,nn,hw,e⟩],A+1+x,rfl,by rw[List.length_append];show l.length+1+_=nq;omega,hM3,hnew,(fun y hy=>by
        rcases List.mem_append.1 hy with hy|hy
        · have:=hlow y hy;omega
        · rw[List.mem_singleton.1 hy];show A<_;omega),by omega,by omega⟩
  · have hk0:k=0:=by omega
    subst hk0
    (refine sg (et t0 (et t1 (et t2 (et t8 (et t9 (df (show ¬ (0:Int)<((0:Nat):Int) by omega))))))) ?_;try exact⟨⟩)
    exact⟨hD,hT,l,hM,hgo,by omega,fun y hy=>by have:=hlow y hy;omega⟩
end Go.Proofs.YthhbglkokpablaaGreat
/- Chapter 8: the walk of the law on how many places there are. -/
namespace Go.Proofs.YthhbglkokpablaaGreat
open Go Go.RowKit E
attribute [local irreducible] XRun XOps XCode XCal XLoop XQ SemCall
set_option linter.unusedSimpArgs false
set_option linter.unusedVariables false
theorem nearB_of {x:Int} (h : -131072≤x∧x<983040):nearB x=true:=by unfold nearB;rw[dt (show -67108864≤x by omega),dt (show x≤67108864 by omega)];rfl
theorem nrp_of {p:Pt} (h:Bp p):nrp p=true:=by unfold nrp;rw[nearB_of h.1,nearB_of h.2];rfl
theorem right_of (c:Bool) {l:List Pt} {parts:Nat} (hl:l.length=3*parts+1) (hB:∀ p∈l,Bp p) (h1:1≤parts) (h2:parts≤32):rightB c l=true:=by
 unfold rightB
 rw[if_neg (by omega),dt (show (4:Int)≤(l.length:Int) by omega),dt (show (l.length:Int)≤97 by omega),List.all_eq_true.2 (fun p hp=>nrp_of (hB p hp)),Int.tmod_eq_emod_of_nonneg (by omega),bt (show (l.length:Int) % 3=1 by omega)];rfl
theorem newTape {H:AH} {t:Nat} {lv:Value} {ls:List Int} (h:Ints H t lv ls) (L L':AH) (n:Nat) (hn:n=H.length+L.length):TapeAt (H++(L++(tblk lv 0 0::L'))) n 0 lv ls:=by
 subst hn
 refine⟨(h.to (by omega)).app _,0,by omega,by omega,?_⟩
 rw[hget_app,List.getElem?_append_right (by omega),Nat.sub_self];rfl
end Go.Proofs.YthhbglkokpablaaGreat
