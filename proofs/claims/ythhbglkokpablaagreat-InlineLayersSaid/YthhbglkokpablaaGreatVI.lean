/- Merged texts: Lay7 LayC LayD LayE LayF. -/
import Derived.Test.YthhbglkokpablaaGreatVH
/- Comps laid open: the walk of the document's answer's Open. -/
namespace Go.Proofs.YthhbglkokpablaaGreat
open Go Go.RowKit E
attribute [local irreducible] XRun XOps XCode XCal XLoop XQ SemCall
set_option linter.unusedSimpArgs false
set_option linter.unusedVariables false
set_option maxRecDepth 100000 in
set_option maxHeartbeats 8000000 in
theorem ropen_ (d:Dc) (cv:Value) (c k:Int) (p:Nat→Prop) (H:AH) (hP:∀ J,OlP p H J→Cos J cv d.comps) (hz:DcS d) :
  Cal Tryz.prog 16 [dcV d cv,.int .i64 c,.int .i64 k] H fun v H' W=>W=[]∧(∃ L,H'=H++L)∧((¬ mayE d c k=0∧v=.tuple #[dcV ⟨0,0,[]⟩ (.slice none 0 0),.int .i64 (mayE d c k)])∨(mayE d c k=0∧∃ cw,v=.tuple #[dcV (openE d c.toNat k.toNat) cw,.int .i64 0]∧∀ J,OlP p H J→(∀ (c:Nat) (k:Blk),H.length≤c→H'[c]?=some k→J[c]?=some k)→Cos J cw (openE d c.toNat k.toNat).comps)):=by
 refine adds_of ?_
 have kd:∀ n,decide (H.length+n<H.length)=false:=fun n=>df (by omega)
 have kd0:decide (H.length<H.length)=false:=df (by omega)
 have h:=hP H (OlP.refl _ _)
 have hln:=h.len
 have hn0:=hz.n
 obtain⟨ca,ce,hcf⟩:=h.form
 subst hcf
 refine XCal.of hm Tryz.func16 rfl (fun xs w=>Tryz.call16 xs w) Tryz.ntmps16 Tryz.results16 rfl ?_
 (refine sg (et kd kd0) ?_;try exact⟨⟩)
 have c1:=fun L=>rmay_ d _ c k (H++L) (h.old CoE.m (Old.app' _ L)) hz
 refine(c1 _).x ?_
 by_cases h0:mayE d c k=0
 case neg=>
  (refine sg (et kd (et kd0 (nf h0))) ?_;try exact⟨⟩)
  exact .inl h0
 obtain⟨i,j,ls,l,li,rfl,rfl,ho⟩:=may_open h0
 obtain⟨cs0,bs0,f1,f2,f3,f4,f5⟩:=asrc_row hP
 obtain⟨b1,g1,cells1,rw1,cc,hve1,hb1,hcl1,hld1,hgt1,hE1⟩:=row_at hP ho.ec
 obtain⟨lv,rfl,hL⟩:=hE1 H (OlP.refl _ _)
 have hLp:∀ J,OlP p H J→Lys J lv ls:=fun J o=>by obtain⟨_,e,q⟩:=hE1 J o;cases e;exact q
 have hc0:cells1[i*1]?=some lv:=hgt1 0 (by omega)
 obtain⟨hs1,hs2⟩:=hz.c ls (List.mem_of_getElem? ho.ec)
 obtain⟨la,le,rfl⟩:=hL.form
 obtain⟨b2,g2,cells2,rw2,c2,hve2,hb2,hcl2,hld2,hgt2,hE2⟩:=row_at hLp ho.ek
 obtain⟨v0,v1,v2,v3,v4,v5,v6,v7,v8,v9,v10,v11,v12,v13,v14,v15,v16,v17,rfl,hLV,hSV⟩:=hE2 H (OlP.refl _ _)
 obtain⟨b3,g3,cells3,rw3,cc3,hve3,hb3,hcl3,hld3,hgt3,hE3⟩:=row_at hP ho.eli
 obtain⟨lv3,rfl,hL3⟩:=hE3 H (OlP.refl _ _)
 have hLp3:∀ J,OlP p H J→Lys J lv3 li:=fun J o=>by obtain⟨_,e,q⟩:=hE3 J o;cases e;exact q
 have hc3:cells3[l.comp.toNat*1]?=some lv3:=hgt3 0 (by omega)
 obtain⟨hi1,hi2⟩:=hz.c li (List.mem_of_getElem? ho.eli)
 obtain⟨ia,ie,rfl⟩:=hL3.form
 have hcm:cells2[j*50+2]?=some (.int .i64 l.comp):=hgt2 2 (by omega)
 rw[hve1] at hve3
 obtain⟨rfl,rfl⟩:=sl_inj hve3
 rw[hb1] at hb3
 cases hb3
 have hil:=(List.getElem?_eq_some_iff.1 ho.ec).1
 have hjl:=(List.getElem?_eq_some_iff.1 ho.ek).1
 have q0:(0:Int)≤(i:Int):=by omega
 have q1:(i:Int)<(d.comps.length:Int):=by omega
 have p0:(0:Int)≤(j:Int):=by omega
 have p1:(j:Int)<(ls.length:Int):=by omega
 have m0:(0:Int)≤l.comp:=by have:=ho.cm;omega
 have m1:l.comp<(d.comps.length:Int):=ho.cm.2
 have g0:∀ L,(H++(⟨[.int .i64 d.in_,.int .i64 d.out,.slice ca d.comps.length ce],0,true⟩:Blk)::L)[H.length]?=some ⟨[.int .i64 d.in_,.int .i64 d.out,.slice ca d.comps.length ce],0,true⟩:=fun L=>by rw[hget_app0];rfl
 rw[hve1] at g0 ⊢
 have gb1:∀ L,(H++L)[b1]?=some ⟨cells1,g1,rw1⟩:=fun L=>old_get hb1 L
 have gb2:∀ L,(H++L)[b2]?=some ⟨cells2,g2,rw2⟩:=fun L=>old_get hb2 L
 rw[hve2] at hc0
 (refine sg (et kd (et kd0 (et (nt h0) (et g0 (et q0 (et q1 (et p0 (et p1 (et m0 (et m1 (et Int.toNat_natCast (et Nat.zero_add (et Nat.add_zero (et gb1 (et hc0 (et hc3 (et gb2 hcm))))))))))))))))) ?_;try exact⟨⟩)
 first|refine drawnF ?_ (by decide +kernel)|refine drawnU [] (by decide +kernel) ?_
 (refine sg (et kd (et kd0 (et (nt h0) (et g0 (et q0 (et q1 (et p0 (et p1 (et m0 (et m1 (et Int.toNat_natCast (et Nat.zero_add (et Nat.add_zero (et gb1 (et hc0 (et hc3 (et gb2 hcm))))))))))))))))) ?_;try exact⟨⟩)
 have oB:Old H (H++[(⟨[.int .i64 d.in_,.int .i64 d.out,sl b1 0 g1 d.comps.length 1],0,true⟩:Blk),⟨[.int .i64 0,.int .i64 0,.slice none 0 0],0,true⟩]):=Old.app' _ _
 have gB0:(H++[(⟨[.int .i64 d.in_,.int .i64 d.out,sl b1 0 g1 d.comps.length 1],0,true⟩:Blk),⟨[.int .i64 0,.int .i64 0,.slice none 0 0],0,true⟩])[H.length]?=some ⟨[.int .i64 d.in_,.int .i64 d.out,sl b1 0 g1 d.comps.length 1],0,true⟩:=by rw[hget_app0];rfl
 have gB1:(H++[(⟨[.int .i64 d.in_,.int .i64 d.out,sl b1 0 g1 d.comps.length 1],0,true⟩:Blk),⟨[.int .i64 0,.int .i64 0,.slice none 0 0],0,true⟩])[H.length+1]?=some ⟨[.int .i64 0,.int .i64 0,.slice none 0 0],0,true⟩:=by rw[hget_app];rfl
 have lB:(H++[(⟨[.int .i64 d.in_,.int .i64 d.out,sl b1 0 g1 d.comps.length 1],0,true⟩:Blk),⟨[.int .i64 0,.int .i64 0,.slice none 0 0],0,true⟩]).length=H.length+2:=by simp
 generalize (H++[(⟨[.int .i64 d.in_,.int .i64 d.out,sl b1 0 g1 d.comps.length 1],0,true⟩:Blk),⟨[.int .i64 0,.int .i64 0,.slice none 0 0],0,true⟩])=B at *
 have hAl:(li.map (inL l (j:Int))).length=li.length:=List.length_map ..
 have hOl:∀ m,(opF j (li.map (inL l (j:Int))) (outL (j:Int) li.length) 0 (ls.take m)).length≤2000:=fun m=>by
  have h1:=opF_len (k:=j) (A:=li.map (inL l (j:Int))) (f:=outL (j:Int) li.length) (l:=ls.take m) 0
  rw[hAl,List.length_take] at h1
  omega
 refine keep (fun r T K D=>D=[]∧Old B K∧B.length≤K.length∧∃ (m:Nat) (ov:Value),m+r=ls.length∧MkL (OlP p H) (H.length+2) K ov (opF j (li.map (inL l (j:Int))) (outL (j:Int) li.length) 0 (ls.take m))∧T 1=.int .i64 (i:Int)∧T 2=.int .i64 (j:Int)∧T 3=ap H.length 0 0∧T 6=ap (H.length+1) 0 0∧T 9=sl b2 0 g2 ls.length 50∧T 10=.slice ia li.length ie∧T 11=ov∧T 42=sl b2 0 g2 ls.length 50∧T 43=.int .i64 (ls.length:Int)∧T 44=.int .i64 (m:Int)) ls.length
  ⟨rfl,Old.refl _,Nat.le_refl _,0,_,by omega,.inl ⟨rfl,rfl⟩,by(refine sg trivial ?_;try exact⟨⟩),by(refine sg trivial ?_;try exact⟨⟩),by(refine sg trivial ?_;try exact⟨⟩),by(refine sg trivial ?_;try exact⟨⟩),by(refine sg trivial ?_;try exact⟨⟩),by(refine sg trivial ?_;try exact⟨⟩),by(refine sg trivial ?_;try exact⟨⟩),by(refine sg trivial ?_;try exact⟨⟩),by(refine sg trivial ?_;try exact⟨⟩),by(refine sg trivial ?_;try exact⟨⟩) <;> rfl⟩ ?_
 rintro r T K D ⟨rfl,oK,lK,m,ov,hmr,hM,t1,t2,t3,t6,t9,t10,t11,t42,t43,t44⟩
 have kdK:∀ n,decide (K.length+n<H.length)=false:=fun n=>df (by omega)
 have kdK0:decide (K.length<H.length)=false:=df (by omega)
 by_cases hm0:m<ls.length
 ·obtain⟨x,hx⟩:∃ x,ls[m]?=some x:=⟨_,List.getElem?_eq_getElem hm0⟩
  obtain⟨b6,g6,cells6,rw6,c6,hve6,hb6,hcl6,hld6,hgt6,hE6⟩:=row_at hLp hx
  obtain⟨w0,w1,w2,w3,w4,w5,w6,w7,w8,w9,w10,w11,w12,w13,w14,w15,w16,w17,rfl,_,_⟩:=hE6 H (OlP.refl _ _)
  have hxA:∀ J,OlP p H J→LyV J x w0 w1 w2 w3 w4 w5 w6 w7 w8 w9∧ShV J x.shape w10 w11 w12 w13 w14 w15 w16 w17:=fun J o=>by obtain⟨_,_,_,_,_,_,_,_,_,_,_,_,_,_,_,_,_,_,e,q⟩:=hE6 J o;cases e;exact q
  rw[hve2] at hve6
  obtain⟨rfl,rfl⟩:=sl_inj hve6
  rw[hb2] at hb6
  cases hb6
  have gk:=oK _ _ (oB _ _ hb2)
  have n0:(0:Int)≤(m:Int):=by omega
  have n1:(m:Int)<(ls.length:Int):=by omega
  have wm:IntKind.i64.wrap ((m:Int)+1)=((m+1:Nat):Int):=by rw[wi (by omega) (by omega)];rfl
  have hsn:=opF_snoc (k:=j) (A:=li.map (inL l (j:Int))) (f:=outL (j:Int) li.length) hx
  by_cases hmj:m=j
  ·obtain⟨OUTP,hOUTP⟩:∃ o,o=opF j (li.map (inL l (j:Int))) (outL (j:Int) li.length) 0 (ls.take m):=⟨_,rfl⟩
   have hol:=hOl m
   rw[if_pos hmj] at hsn
   rw[← hOUTP] at hsn hM hol
   subst hmj
   have hx':x=l:=by have:=ho.ek;rw[hx] at this;cases this;rfl
   subst hx'
   simp only[go_sem,Nat.reduceEqDiff,Nat.reduceAdd,Nat.reduceSub,Nat.reduceMul,Nat.reduceLT,Nat.reduceLeDiff,Int.reducePow,Int.reduceBEq,Int.reduceBNe,Int.reduceDiv,Int.reduceMod,Int.reduceEq,Int.reduceLT,Int.reduceLE,Int.reduceAdd,Int.reduceSub,Int.reduceMul,Int.reduceNeg,Int.reduceToNat,Int.reduceTDiv,Int.reduceTMod,↓reduceIte,t1,t2,t3,t6,t9,t10,t11,t42,t43,t44,dt n1,n0,n1,Int.toNat_natCast,Nat.zero_add,gk,hld6,kdK,kdK0,beq_self_eq_true]
   refine keep (fun r T V D=>D=[]∧Old B V∧B.length≤V.length∧∃ (q:Nat) (ov:Value),q+r=li.length∧MkL (OlP p H) (H.length+2) V ov (OUTP++(li.take q).map (inL x (m:Int)))∧T 1=.int .i64 (i:Int)∧T 2=.int .i64 (m:Int)∧T 3=ap H.length 0 0∧T 6=ap (H.length+1) 0 0∧T 9=sl b2 0 g2 ls.length 50∧T 10=.slice ia li.length ie∧T 11=ov∧T 42=sl b2 0 g2 ls.length 50∧T 43=.int .i64 (ls.length:Int)∧T 44=.int .i64 (m:Int)∧T 52=.slice ia li.length ie∧T 53=.int .i64 (li.length:Int)∧T 54=.int .i64 (q:Int)) li.length
    ⟨rfl,oK.app _,Nat.le_trans lK (by simp),0,_,by omega,by simpa using hM.old (Old.app' _ _),by(refine sg t1 ?_;try exact⟨⟩),by(refine sg t2 ?_;try exact⟨⟩),by(refine sg t3 ?_;try exact⟨⟩),by(refine sg t6 ?_;try exact⟨⟩),by(refine sg t9 ?_;try exact⟨⟩),by(refine sg t10 ?_;try exact⟨⟩),by(refine sg t11 ?_;try exact⟨⟩),by(refine sg t42 ?_;try exact⟨⟩),by(refine sg t43 ?_;try exact⟨⟩),by(refine sg t44 ?_;try exact⟨⟩),by(refine sg trivial ?_;try exact⟨⟩),by(refine sg trivial ?_;try exact⟨⟩),by(refine sg trivial ?_;try exact⟨⟩) <;> rfl⟩ ?_
   clear t1 t2 t3 t6 t9 t10 t11 t42 t43 t44 hM
   rintro r2 T2 V D ⟨rfl,oBV,lBV,q,ov2,hqr,hM2,s1,s2,s3,s6,s9,s10,s11,s42,s43,s44,s52,s53,s54⟩
   have kdV:∀ n,decide (V.length+n<H.length)=false:=fun n=>df (by omega)
   have kdV0:decide (V.length<H.length)=false:=df (by omega)
   by_cases hq:q<li.length
   ·obtain⟨y,hy⟩:∃ y,li[q]?=some y:=⟨_,List.getElem?_eq_getElem hq⟩
    obtain⟨b8,g8,cells8,rw8,c8,hve8,hb8,hcl8,hld8,hgt8,hE8⟩:=row_at hLp3 hy
    obtain⟨z0,z1,z2,z3,z4,z5,z6,z7,z8,z9,z10,z11,z12,z13,z14,z15,z16,z17,rfl,_,_⟩:=hE8 H (OlP.refl _ _)
    have hyA:∀ J,OlP p H J→LyV J y z0 z1 z2 z3 z4 z5 z6 z7 z8 z9∧ShV J y.shape z10 z11 z12 z13 z14 z15 z16 z17:=fun J o=>by obtain⟨_,_,_,_,_,_,_,_,_,_,_,_,_,_,_,_,_,_,e,q⟩:=hE8 J o;cases e;exact q
    rw[hve8] at s52
    have gk8:=oBV _ _ (oB _ _ hb8)
    have gkl:=oBV _ _ (oB _ _ hb2)
    have u0:(0:Int)≤(q:Int):=by omega
    have u1:(q:Int)<(li.length:Int):=by omega
    have wq:IntKind.i64.wrap ((q:Int)+1)=((q+1:Nat):Int):=by rw[wi (by omega) (by omega)];rfl
    have hil2:(OUTP++(li.take q).map (inL x (m:Int))).length≤3000:=by rw[List.length_append,List.length_map,List.length_take];omega
    have hsn2:OUTP++(li.take (q+1)).map (inL x (m:Int))=(OUTP++(li.take q).map (inL x (m:Int)))++[inL x (m:Int) y]:=by rw[take_snoc hy,List.map_append,← List.append_assoc];rfl
    obtain⟨IQ,hIQ⟩:∃ o,o=OUTP++(li.take q).map (inL x (m:Int)):=⟨_,rfl⟩
    rw[← hIQ] at hM2 hil2 hsn2
    (refine sg (et s1 (et s2 (et s3 (et s6 (et s9 (et s10 (et s42 (et s43 (et s44 (et s11 (et s52 (et s53 (et s54 (et (dt u1) (et u0 (et u1 (et Int.toNat_natCast (et Nat.zero_add (et gk8 (et hld8 (et kdV kdV0))))))))))))))))))))) ?_;try exact⟨⟩)
    first|refine drawnF ?_ (by decide +kernel)|refine drawnU [(5,6)] (by decide +kernel) ?_
    (refine sg (et s1 (et s2 (et s3 (et s6 (et s9 (et s10 (et s42 (et s43 (et s44 (et s11 (et s52 (et s53 (et s54 (et n0 (et n1 (et Int.toNat_natCast (et Nat.zero_add (et (old_get gkl) (et hld6 (et kdV kdV0)))))))))))))))))))) ?_;try exact⟨⟩)
    refine(rinside_ y x z0 z1 z2 z3 z4 z5 z6 z7 z8 z9 z10 z11 z12 z13 z14 z15 z16 z17 w0 w1 w2 w3 w4 w5 w6 w7 w8 w9 w10 w11 w12 w13 w14 w15 w16 w17 _).x ?_
    rintro v H1 W1 ⟨rfl,⟨L,rfl⟩,rfl⟩
    have oUV:Old V (V++[(⟨lyVs y z0 z1 z2 z3 z4 z5 z6 z7 z8 z9 z10 z11 z12 z13 z14 z15 z16 z17,0,true⟩:Blk)]++L):=(Old.app' _ _).app _
    have lUV:V.length≤(V++[(⟨lyVs y z0 z1 z2 z3 z4 z5 z6 z7 z8 z9 z10 z11 z12 z13 z14 z15 z16 z17,0,true⟩:Blk)]++L).length:=by rw[List.length_append,List.length_append];omega
    generalize V++[(⟨lyVs y z0 z1 z2 z3 z4 z5 z6 z7 z8 z9 z10 z11 z12 z13 z14 z15 z16 z17,0,true⟩:Blk)]++L=U at *
    have kdU:∀ n,decide (U.length+n<H.length)=false:=fun n=>df (by omega)
    have kdU0:decide (U.length<H.length)=false:=df (by omega)
    (refine sg (et kdU kdU0) ?_;try exact⟨⟩)
    by_cases hpar:0≤(cutL y x).parent
    ·have e:inL x (m:Int) y=(upL (wr6 ((cutL y x).parent+(m:Int))) (cutL y x)):=by unfold inL;rw[if_pos (show 0≤y.parent from hpar)];rfl
     rw[e] at hsn2
     have hxE:∀ J',OlP p H J'→LyE J' (lyVs (upL (wr6 ((cutL y x).parent+(m:Int))) (cutL y x)) z0 z1 z2 z3 z4 z5 z6 z7 z8 z9 z10 z11 z12 z13 z14 z15 z16 z17) (upL (wr6 ((cutL y x).parent+(m:Int))) (cutL y x)):=fun J' o'=>⟨_,_,_,_,_,_,_,_,_,_,_,_,_,_,_,_,_,_,rfl,((hyA J' o').1.cut x).up _,(hyA J' o').2⟩
     rcases hM2 with ⟨htn,rfl⟩|⟨bo,go,ces,hbo,rfl,hkb,hE⟩
     ·(refine sg (et s1 (et s2 (et s3 (et s6 (et s9 (et s10 (et s42 (et s43 (et s44 (et s11 (et s52 (et s53 (et s54 (et kdU (et kdU0 (et kdV (et kdV0 (et (dt hpar) wq)))))))))))))))))) ?_;try exact⟨⟩)
      refine⟨r2 - 1,by omega,(oBV.trans oUV).app _,by omega,q+1,_,by omega,?_,rfl,hve8.symm,rfl⟩
      rw[hsn2,htn]
      exact MkL.first (c:=lyVs (upL (wr6 ((cutL y x).parent+(m:Int))) (cutL y x)) z0 z1 z2 z3 z4 z5 z6 z7 z8 z9 z10 z11 z12 z13 z14 z15 z16 z17) (by omega) (by rw[hget_app];rfl) rfl hxE
     ·have hkb':=oUV _ _ hkb
      have hkl:=(List.getElem?_eq_some_iff.1 hkb').1
      have hfl:=flatten_len hE.all
      rw[hE.1] at hfl
      have db0:decide (bo<H.length)=false:=df (by omega)
      have hsm:(IQ.length+1)*608 - 140737488355328=0:=Nat.sub_eq_zero_of_le (Nat.le_trans (Nat.mul_le_mul_right 608 (show IQ.length+1≤3001 by omega)) (by omega))
      have hsm2:IQ.length+1 - 140737488355328=0:=Nat.sub_eq_zero_of_le (Nat.le_trans (show IQ.length+1≤3001 by omega) (by omega))
      (refine sg (et s1 (et s2 (et s3 (et s6 (et s9 (et s10 (et s42 (et s43 (et s44 (et s11 (et s52 (et s53 (et s54 (et kdU (et kdU0 (et kdV (et kdV0 (et (dt hpar) (et wq (et (old_get hkb') (et (old_set hkb') (et hfl (et hsm (et hsm2 db0)))))))))))))))))))))))) ?_;try exact⟨⟩)
      refine⟨r2 - 1,by omega,(oBV.trans oUV).olx (Olx.set1 _ _ _ _) (by omega),by omega,q+1,_,by omega,?_,rfl,hve8.symm,rfl⟩
      rw[hsn2]
      exact MkL.next (c:=lyVs (upL (wr6 ((cutL y x).parent+(m:Int))) (cutL y x)) z0 z1 z2 z3 z4 z5 z6 z7 z8 z9 z10 z11 z12 z13 z14 z15 z16 z17) hbo hE rfl hxE (old_sget hkb' _ _)
    ·have e:inL x (m:Int) y=(cutL y x):=by unfold inL;rw[if_neg (show ¬ 0≤y.parent from hpar)];rfl
     rw[e] at hsn2
     have hxE:∀ J',OlP p H J'→LyE J' (lyVs (cutL y x) z0 z1 z2 z3 z4 z5 z6 z7 z8 z9 z10 z11 z12 z13 z14 z15 z16 z17) (cutL y x):=fun J' o'=>⟨_,_,_,_,_,_,_,_,_,_,_,_,_,_,_,_,_,_,rfl,(hyA J' o').1.cut x,(hyA J' o').2⟩
     rcases hM2 with ⟨htn,rfl⟩|⟨bo,go,ces,hbo,rfl,hkb,hE⟩
     ·(refine sg (et s1 (et s2 (et s3 (et s6 (et s9 (et s10 (et s42 (et s43 (et s44 (et s11 (et s52 (et s53 (et s54 (et kdU (et kdU0 (et kdV (et kdV0 (et (df hpar) wq)))))))))))))))))) ?_;try exact⟨⟩)
      refine⟨r2 - 1,by omega,(oBV.trans oUV).app _,by omega,q+1,_,by omega,?_,rfl,hve8.symm,rfl⟩
      rw[hsn2,htn]
      exact MkL.first (c:=lyVs (cutL y x) z0 z1 z2 z3 z4 z5 z6 z7 z8 z9 z10 z11 z12 z13 z14 z15 z16 z17) (by omega) (by rw[hget_app];rfl) rfl hxE
     ·have hkb':=oUV _ _ hkb
      have hkl:=(List.getElem?_eq_some_iff.1 hkb').1
      have hfl:=flatten_len hE.all
      rw[hE.1] at hfl
      have db0:decide (bo<H.length)=false:=df (by omega)
      have hsm:(IQ.length+1)*608 - 140737488355328=0:=Nat.sub_eq_zero_of_le (Nat.le_trans (Nat.mul_le_mul_right 608 (show IQ.length+1≤3001 by omega)) (by omega))
      have hsm2:IQ.length+1 - 140737488355328=0:=Nat.sub_eq_zero_of_le (Nat.le_trans (show IQ.length+1≤3001 by omega) (by omega))
      (refine sg (et s1 (et s2 (et s3 (et s6 (et s9 (et s10 (et s42 (et s43 (et s44 (et s11 (et s52 (et s53 (et s54 (et kdU (et kdU0 (et kdV (et kdV0 (et (df hpar) (et wq (et (old_get hkb') (et (old_set hkb') (et hfl (et hsm (et hsm2 db0)))))))))))))))))))))))) ?_;try exact⟨⟩)
      refine⟨r2 - 1,by omega,(oBV.trans oUV).olx (Olx.set1 _ _ _ _) (by omega),by omega,q+1,_,by omega,?_,rfl,hve8.symm,rfl⟩
      rw[hsn2]
      exact MkL.next (c:=lyVs (cutL y x) z0 z1 z2 z3 z4 z5 z6 z7 z8 z9 z10 z11 z12 z13 z14 z15 z16 z17) hbo hE rfl hxE (old_sget hkb' _ _)
   ·have hq:q=li.length:=by omega
    rw[show li.take q=li by rw[hq,List.take_length]] at hM2
    (refine sg (et s1 (et s2 (et s3 (et s6 (et s9 (et s10 (et s42 (et s43 (et s44 (et s11 (et s52 (et s53 (et s54 (et (df (show ¬ (q:Int)<(li.length:Int) by omega)) wm)))))))))))))) ?_;try exact⟨⟩)
    exact⟨r - 1,by omega,oBV,by omega,m+1,_,by omega,by rw[hsn];exact hM2,rfl,rfl⟩
  rw[if_neg hmj] at hsn
  have hol:=hOl m
  (refine sg (et t1 (et t2 (et t3 (et t6 (et t9 (et t10 (et t11 (et t42 (et t43 (et t44 (et (dt n1) (et n0 (et n1 (et Int.toNat_natCast (et Nat.zero_add (et gk (et hld6 (et kdK (et kdK0 (bf (show ¬ (m:Int)=(j:Int) by omega))))))))))))))))))))) ?_;try exact⟨⟩)
  have oU0:Old K (K++[(⟨lyVs x w0 w1 w2 w3 w4 w5 w6 w7 w8 w9 w10 w11 w12 w13 w14 w15 w16 w17,0,true⟩:Blk)]):=Old.app' _ _
  by_cases hpar:(j:Int)<x.parent
  ·have e:outL (j:Int) li.length x=upL (wr6 (wr6 (x.parent+(li.length:Int)) - 1)) x:=by unfold outL;rw[if_pos hpar]
   rw[e] at hsn
   have hxE:∀ J',OlP p H J'→LyE J' (lyVs (upL (wr6 (wr6 (x.parent+(li.length:Int)) - 1)) x) w0 w1 w2 w3 w4 w5 w6 w7 w8 w9 w10 w11 w12 w13 w14 w15 w16 w17) (upL (wr6 (wr6 (x.parent+(li.length:Int)) - 1)) x):=fun J' o'=>⟨_,_,_,_,_,_,_,_,_,_,_,_,_,_,_,_,_,_,rfl,(hxA J' o').1.up _,(hxA J' o').2⟩
   rcases hM with ⟨htn,rfl⟩|⟨bo,go,ces,hbo,rfl,hkb,hE⟩
   ·(refine sg (et t1 (et t2 (et t3 (et t6 (et t9 (et t10 (et t42 (et t43 (et t44 (et t11 (et kdK (et kdK0 (et (dt hpar) wm))))))))))))) ?_;try exact⟨⟩)
    refine⟨r - 1,by omega,oK.app _,by omega,m+1,_,by omega,?_,rfl,rfl⟩
    rw[hsn,htn]
    exact MkL.first (c:=lyVs (upL (wr6 (wr6 (x.parent+(li.length:Int)) - 1)) x) w0 w1 w2 w3 w4 w5 w6 w7 w8 w9 w10 w11 w12 w13 w14 w15 w16 w17) (by omega) (by rw[hget_app];rfl) rfl hxE
   ·have hkl:=(List.getElem?_eq_some_iff.1 hkb).1
    have hfl:=flatten_len hE.all
    rw[hE.1] at hfl
    have db0:decide (bo<H.length)=false:=df (by omega)
    have hsm:((opF j (li.map (inL l (j:Int))) (outL (j:Int) li.length) 0 (ls.take m)).length+1)*608 - 140737488355328=0:=Nat.sub_eq_zero_of_le (Nat.le_trans (Nat.mul_le_mul_right 608 (show (opF j (li.map (inL l (j:Int))) (outL (j:Int) li.length) 0 (ls.take m)).length+1≤2001 by omega)) (by omega))
    have hsm2:(opF j (li.map (inL l (j:Int))) (outL (j:Int) li.length) 0 (ls.take m)).length+1 - 140737488355328=0:=Nat.sub_eq_zero_of_le (Nat.le_trans (show (opF j (li.map (inL l (j:Int))) (outL (j:Int) li.length) 0 (ls.take m)).length+1≤2001 by omega) (by omega))
    (refine sg (et t1 (et t2 (et t3 (et t6 (et t9 (et t10 (et t42 (et t43 (et t44 (et t11 (et kdK (et kdK0 (et (dt hpar) (et wm (et (old_get hkb) (et (old_set hkb) (et hfl (et hsm (et hsm2 db0))))))))))))))))))) ?_;try exact⟨⟩)
    refine⟨r - 1,by omega,oK.olx (Olx.set1 _ _ _ _) (by omega),by omega,m+1,_,by omega,?_,rfl,rfl⟩
    rw[hsn]
    exact MkL.next (c:=lyVs (upL (wr6 (wr6 (x.parent+(li.length:Int)) - 1)) x) w0 w1 w2 w3 w4 w5 w6 w7 w8 w9 w10 w11 w12 w13 w14 w15 w16 w17) hbo hE rfl hxE (old_sget hkb _ _)
  ·have e:outL (j:Int) li.length x=x:=by unfold outL;rw[if_neg hpar];rfl
   rw[e] at hsn
   have hxE:∀ J',OlP p H J'→LyE J' (lyVs x w0 w1 w2 w3 w4 w5 w6 w7 w8 w9 w10 w11 w12 w13 w14 w15 w16 w17) (x):=fun J' o'=>⟨_,_,_,_,_,_,_,_,_,_,_,_,_,_,_,_,_,_,rfl,(hxA J' o').1,(hxA J' o').2⟩
   rcases hM with ⟨htn,rfl⟩|⟨bo,go,ces,hbo,rfl,hkb,hE⟩
   ·(refine sg (et t1 (et t2 (et t3 (et t6 (et t9 (et t10 (et t42 (et t43 (et t44 (et t11 (et kdK (et kdK0 (et (df hpar) wm))))))))))))) ?_;try exact⟨⟩)
    refine⟨r - 1,by omega,oK.app _,by omega,m+1,_,by omega,?_,rfl,rfl⟩
    rw[hsn,htn]
    exact MkL.first (c:=lyVs x w0 w1 w2 w3 w4 w5 w6 w7 w8 w9 w10 w11 w12 w13 w14 w15 w16 w17) (by omega) (by rw[hget_app];rfl) rfl hxE
   ·have hkl:=(List.getElem?_eq_some_iff.1 hkb).1
    have hfl:=flatten_len hE.all
    rw[hE.1] at hfl
    have db0:decide (bo<H.length)=false:=df (by omega)
    have hsm:((opF j (li.map (inL l (j:Int))) (outL (j:Int) li.length) 0 (ls.take m)).length+1)*608 - 140737488355328=0:=Nat.sub_eq_zero_of_le (Nat.le_trans (Nat.mul_le_mul_right 608 (show (opF j (li.map (inL l (j:Int))) (outL (j:Int) li.length) 0 (ls.take m)).length+1≤2001 by omega)) (by omega))
    have hsm2:(opF j (li.map (inL l (j:Int))) (outL (j:Int) li.length) 0 (ls.take m)).length+1 - 140737488355328=0:=Nat.sub_eq_zero_of_le (Nat.le_trans (show (opF j (li.map (inL l (j:Int))) (outL (j:Int) li.length) 0 (ls.take m)).length+1≤2001 by omega) (by omega))
    (refine sg (et t1 (et t2 (et t3 (et t6 (et t9 (et t10 (et t42 (et t43 (et t44 (et t11 (et kdK (et kdK0 (et (df hpar) (et wm (et (old_get hkb) (et (old_set hkb) (et hfl (et hsm (et hsm2 db0))))))))))))))))))) ?_;try exact⟨⟩)
    refine⟨r - 1,by omega,oK.olx (Olx.set1 _ _ _ _) (by omega),by omega,m+1,_,by omega,?_,rfl,rfl⟩
    rw[hsn]
    exact MkL.next (c:=lyVs x w0 w1 w2 w3 w4 w5 w6 w7 w8 w9 w10 w11 w12 w13 w14 w15 w16 w17) hbo hE rfl hxE (old_sget hkb _ _)
 have hml:m=ls.length:=by omega
 rw[show ls.take m=ls by rw[hml,List.take_length]] at hM
 have hop:opF j (li.map (inL l (j:Int))) (outL (j:Int) li.length) 0 ls=openL d.comps ls j l:=by rw[ho.openL,opF_all ho.ek]
 rw[hop] at hM
 have hol:(openL d.comps ls j l).length≤1000:=by rw[open_len ho];have:=ho.n;omega
 obtain⟨oa,oe,hof⟩:=hM.form
 subst hof
 have oBK:=oB.trans oK
 have e5:∀ L,asrc (K++L) 1 (sl b1 0 g1 d.comps.length 1)=some (cs0.flatten,d.comps.length,bs0):=fun L=>by rw[← hve1];exact f5 _ (oBK.app _)
 have gk0:=oK _ _ gB0
 have gk1:=oK _ _ gB1
 have hp3:d.comps.length*24 - 140737488355328=0:=Nat.sub_eq_zero_of_le (Nat.le_trans (Nat.mul_le_mul_right 24 (show d.comps.length≤1000 by omega)) (by omega))
 have hp4:d.comps.length - 140737488355328=0:=Nat.sub_eq_zero_of_le (Nat.le_trans (show d.comps.length≤1000 by omega) (by omega))
 have hall1:∀ c∈cs0,c.length=1:=RowOf.all (P:=fun c x=>∀ J,OlP p H J→CoE J c x) f1 f3
 have gset:∀ L X,((K++L).set (H.length+1) X)[H.length+1]?=some X:=fun L X=>List.getElem?_set_self (by rw[List.length_append];omega)
 have kd1:decide (H.length+1<H.length)=false:=df (by omega)
 have hst:=fun V b=>ast_el (s:=1) (V:=V) (g:=1) (b:=b) (i:=i) (cs:=[.slice oa (openL d.comps ls j l).length oe]) hall1 (by omega) rfl
 (refine sg (et t1 (et t2 (et t3 (et t6 (et t9 (et t10 (et t11 (et t42 (et t43 (et t44 (et (df (show ¬ (m:Int)<(ls.length:Int) by omega)) (et kdK (et kdK0 (et gk0 (et (old_get gk0) (et e5 (et Nat.zero_mul (et (eq_false (show ¬ d.comps.length=0 by omega)) (et hp3 (et hp4 (et q0 (et q1 (et Int.toNat_natCast (et Nat.zero_add (et hst (et (old_get gk1) (et gset kd1))))))))))))))))))))))))))) ?_;try exact⟨⟩)
 rw[ho.e]
 refine .inr ⟨h0,sl (K.length+1) 0 1 d.comps.length 1,rfl,fun J' oJ' hJ'=>?_⟩
 have hKJ:∀ (b:Nat) (k:Blk),H.length≤b→b≠H.length+1→K[b]?=some k→J'[b]?=some k:=fun b k b0 b1 e=>hJ' b k b0 (Olx.set0 _ _ _ _ _ b1 (old_get e _))
 show Cos _ (sl (K.length+1) 0 1 d.comps.length 1) (d.comps.set i (openL d.comps ls j l))
 refine .inr ⟨K.length+1,1,[],true,cs0.set i [.slice oa (openL d.comps ls j l).length oe],by rw[List.length_set],?_,by rw[List.length_set,List.length_set,f1],by rw[List.length_set];omega,fun n x hx=>?_⟩
 ·rw[List.append_nil]
  exact hJ' _ _ (by omega) (Olx.set0 _ _ _ _ _ (by omega) (by rw[hget_app];rfl))
 ·by_cases hn:i=n
  ·subst hn
   rw[List.getElem?_set_self hil] at hx
   cases hx
   refine⟨_,List.getElem?_set_self (by omega),rfl,_,rfl,MkL.row (n1:=H.length+2) ?_ oJ' hol⟩
   rcases hM with hM|⟨b,g,cs,k1,k2,k3,k4⟩
   ·exact .inl hM
   ·exact .inr ⟨b,g,cs,k1,k2,hKJ _ _ (by omega) (by omega) k3,k4⟩
  ·rw[List.getElem?_set_ne hn] at hx ⊢
   obtain⟨c,g1,g2,g3⟩:=f3 n x hx
   exact⟨c,g1,g2,g3 _ oJ'⟩
end Go.Proofs.YthhbglkokpablaaGreat
/- Comps laid open: the walks of one, All. -/
namespace Go.Proofs.YthhbglkokpablaaGreat
open Go Go.RowKit E
attribute [local irreducible] XRun XOps XCode XCal XLoop XQ SemCall
set_option linter.unusedSimpArgs false
set_option linter.unusedVariables false
theorem one_meas {d e:Dc} (h:oneE d=some e):meas e<meas d:=by
 obtain⟨c,k,ls,l,li,ho,rfl,_⟩:=oneE_some h
 exact open_meas ho
theorem allF_more:∀ (n m:Nat) (e:Dc),meas e<n→meas e<m→allF n e=allF m e
 | 0,m,e,h,_=>absurd h (by omega)
 | n+1,0,e,_,h=>absurd h (by omega)
 | n+1,m+1,e,h1,h2=>by
  rw[allF,allF]
  cases ho:oneE e with
  | none=>rfl
  | some e'=>
   have:=one_meas ho
   exact allF_more n m e' (by omega) (by omega)
theorem allE_none {d:Dc} (h:oneE d=none):allE d=d:=by unfold allE;rw[allF,h]
theorem allE_some {d e:Dc} (h:oneE d=some e):allE d=allE e:=by
 have:=one_meas h
 unfold allE
 rw[allF,h]
 exact allF_more _ _ e this (by omega)
set_option maxHeartbeats 8000000 in
theorem one_ (d:Dc) (cv:Value) (H:AH) (h:Cos H cv d.comps) (hz:DcS d) :
  Cal Tryz.prog 42 [dcV d cv] H fun v H' W=>W=[]∧(∃ L,H'=H++L)∧((oneE d=none∧v=.tuple #[dcV d cv,.bool false])∨(∃ e cw,oneE d=some e∧v=.tuple #[dcV e cw,.bool true]∧Dep H.length H' (fun J=>Cos J cw e.comps))):=by
 refine adds_of ?_
 have kd:∀ n,decide (H.length+n<H.length)=false:=fun n=>df (by omega)
 have kd0:decide (H.length<H.length)=false:=df (by omega)
 have hln:=h.len
 have hn0:=hz.n
 obtain⟨ca,ce,hcf⟩:=h.form
 subst hcf
 have g0:∀ L,(H++(⟨[.int .i64 d.in_,.int .i64 d.out,.slice ca d.comps.length ce],0,true⟩:Blk)::L)[H.length]?=some ⟨[.int .i64 d.in_,.int .i64 d.out,.slice ca d.comps.length ce],0,true⟩:=fun L=>by rw[hget_app0];rfl
 have kd1:decide (H.length+1<H.length)=false:=df (by omega)
 refine XCal.of hm Tryz.func42 rfl (fun xs w=>Tryz.call42 xs w) Tryz.ntmps42 Tryz.results42 rfl ?_
 (refine sg (et kd kd0) ?_;try exact⟨⟩)
 refine keep (fun r T K D=>D=[]∧Old H K∧H.length+2≤K.length∧K[H.length]?=some ⟨[.int .i64 d.in_,.int .i64 d.out,.slice ca d.comps.length ce],0,true⟩∧K[H.length+1]?=some ⟨[.int .i64 0,.int .i64 0,.slice none 0 0],0,true⟩∧∃ (m:Nat),m+r=d.comps.length∧oneE d=firstL (oneC d) m r∧T 1=ap H.length 0 0∧T 2=ap (H.length+1) 0 0∧T 10=.slice ca d.comps.length ce∧T 11=.int .i64 (d.comps.length:Int)∧T 12=.int .i64 (m:Int)) d.comps.length
  ⟨rfl,Old.app' _ _,by simp,g0 _,by rw[hget_app];rfl,0,by omega,rfl,by(refine sg trivial ?_;try exact⟨⟩),by(refine sg trivial ?_;try exact⟨⟩),by(refine sg trivial ?_;try exact⟨⟩),by(refine sg trivial ?_;try exact⟨⟩),by(refine sg trivial ?_;try exact⟨⟩) <;> rfl⟩ ?_
 rintro r T K D ⟨rfl,oK,lK,gK0,gK1,m,hmr,hF,t1,t2,t10,t11,t12⟩
 have kdK:∀ n,decide (K.length+n<H.length)=false:=fun n=>df (by omega)
 have kdK0:decide (K.length<H.length)=false:=df (by omega)
 by_cases hm0:m<d.comps.length
 ·obtain⟨r',rfl⟩:∃ r',r=r'+1:=⟨r - 1,by omega⟩
  rw[firstL] at hF
  obtain⟨ls,hx⟩:∃ ls,d.comps[m]?=some ls:=⟨_,List.getElem?_eq_getElem hm0⟩
  obtain⟨b1,g1,cells1,rw1,cc,hve1,hb1,⟨lv,rfl,hL⟩,hcl1,hle1,hld1,hgt1⟩:=h.at hx
  obtain⟨la,le,rfl⟩:=hL.form
  have hls:=(hz.c ls (List.mem_of_getElem? hx)).1
  have hN:layN d m=ls.length:=by unfold layN;rw[hx];rfl
  have gkb:=oK _ _ hb1
  have q0:(0:Int)≤(m:Int):=by omega
  have q1:(m:Int)<(d.comps.length:Int):=by omega
  have wm:IntKind.i64.wrap ((m:Int)+1)=((m+1:Nat):Int):=by rw[wi (by omega) (by omega)];rfl
  have t10':=t10
  rw[hve1] at t10'
  (refine sg (et t1 (et t2 (et t10' (et t11 (et t12 (et (dt q1) (et q0 (et q1 (et Int.toNat_natCast (et Nat.zero_add (et gkb (et hld1 (et kdK kdK0))))))))))))) ?_;try exact⟨⟩)
  refine keep (fun r2 T J D=>D=[]∧Old H J∧H.length+2≤J.length∧J[H.length]?=some ⟨[.int .i64 d.in_,.int .i64 d.out,.slice ca d.comps.length ce],0,true⟩∧J[H.length+1]?=some ⟨[.int .i64 0,.int .i64 0,.slice none 0 0],0,true⟩∧∃ (q:Nat),q+r2=ls.length∧oneC d m=firstL (oneL d m) q r2∧T 1=ap H.length 0 0∧T 2=ap (H.length+1) 0 0∧T 10=.slice ca d.comps.length ce∧T 11=.int .i64 (d.comps.length:Int)∧T 12=.int .i64 (m:Int)∧T 4=.int .i64 (m:Int)∧T 19=.int .i64 (ls.length:Int)∧T 20=.int .i64 (q:Int)) ls.length
   ⟨rfl,oK.app _,by rw[List.length_append];omega,old_get gK0 _,old_get gK1 _,0,by omega,by unfold oneC;rw[hN],by(refine sg t1 ?_;try exact⟨⟩),by(refine sg t2 ?_;try exact⟨⟩),by(refine sg t10 ?_;try exact⟨⟩),by(refine sg t11 ?_;try exact⟨⟩),by(refine sg t12 ?_;try exact⟨⟩),by(refine sg trivial ?_;try exact⟨⟩),by(refine sg trivial ?_;try exact⟨⟩),by(refine sg trivial ?_;try exact⟨⟩) <;> rfl⟩ ?_
  clear t1 t2 t10 t11 t12 t10'
  rintro r2 T2 J D ⟨rfl,oJ,lJ,gJ0,gJ1,q,hqr,hF2,t1,t2,t10,t11,t12,t4,t19,t20⟩
  have kdJ:∀ n,decide (J.length+n<H.length)=false:=fun n=>df (by omega)
  have kdJ0:decide (J.length<H.length)=false:=df (by omega)
  by_cases hq:q<ls.length
  ·obtain⟨r2',rfl⟩:∃ r',r2=r'+1:=⟨r2 - 1,by omega⟩
   rw[firstL] at hF2
   have u1:(q:Int)<(ls.length:Int):=by omega
   have wq:IntKind.i64.wrap ((q:Int)+1)=((q+1:Nat):Int):=by rw[wi (by omega) (by omega)];rfl
   (refine sg (et t1 (et t2 (et t10 (et t11 (et t12 (et t4 (et t19 (et t20 (et (dt u1) gJ0))))))))) ?_;try exact⟨⟩)
   refine(open_ d _ (m:Int) (q:Int) J (h.old CoE.m oJ) hz).x ?_
   rintro v H1 W1 ⟨rfl,⟨L,rfl⟩,hv⟩
   have kdL:∀ n,decide ((J++L).length+n<H.length)=false:=fun n=>df (by rw[List.length_append];omega)
   have kdL0:decide ((J++L).length<H.length)=false:=df (by rw[List.length_append];omega)
   have oJL:Old J (J++L):=Old.app' _ _
   have lJL:J.length≤(J++L).length:=by rw[List.length_append];omega
   have hv:((¬ mayE d (m:Int) (q:Int)=0∧v=.tuple #[dcV ⟨0,0,[]⟩ (.slice none 0 0),.int .i64 (mayE d (m:Int) (q:Int))])∨(mayE d (m:Int) (q:Int)=0∧∃ cw,v=.tuple #[dcV (openE d m q) cw,.int .i64 0]∧Dep J.length (J++L) (fun J=>Cos J cw (openE d m q).comps))):=hv
   generalize J++L=V at *
   rcases hv with ⟨h0,rfl⟩|⟨h0,cw,rfl,hC⟩
   ·have hn:oneL d m q=none:=by unfold oneL;rw[if_neg h0]
    rw[hn] at hF2
    (refine sg (et t1 (et t2 (et t10 (et t11 (et t12 (et t4 (et t19 (et t20 (et kdL (et kdL0 (et kdJ (et kdJ0 (et (bf h0) wq))))))))))))) ?_;try exact⟨⟩)
    exact⟨r2',by omega,(oJ.trans oJL).app _,by omega,old_get (oJL _ _ gJ0) _,old_get (oJL _ _ gJ1) _,q+1,by omega,hF2,rfl⟩
   ·have hn:oneL d m q=some (openE d m q):=by unfold oneL;rw[if_pos h0]
    rw[hn] at hF2
    rw[hF2] at hF
    obtain⟨wa,we,hwf⟩:=hC.here.form
    subst hwf
    have gL1:=oJL _ _ gJ1
    have gset:∀ L X,((V++L).set (H.length+1) X)[H.length+1]?=some X:=fun L X=>List.getElem?_set_self (by rw[List.length_append];omega)
    simp only[go_sem,Nat.reduceEqDiff,Nat.reduceAdd,Nat.reduceSub,Nat.reduceMul,Nat.reduceLT,Nat.reduceLeDiff,Int.reducePow,Int.reduceBEq,Int.reduceBNe,Int.reduceDiv,Int.reduceMod,Int.reduceEq,Int.reduceLT,Int.reduceLE,Int.reduceAdd,Int.reduceSub,Int.reduceMul,Int.reduceNeg,Int.reduceToNat,Int.reduceTDiv,Int.reduceTMod,↓reduceIte,t1,t2,t10,t11,t12,t4,t19,t20,kdL,kdL0,kdJ,kdJ0,beq_self_eq_true,old_get gL1,gset,kd1]
    refine .inr ⟨_,_,hF,rfl,?_⟩
    exact((hC.old (Old.app' V _)).olx (Olx.set0 _ _ _) (by omega)).low (by omega)
  ·have hq:q=ls.length:=by omega
   have hr2:r2=0:=by omega
   subst hr2
   rw[firstL] at hF2
   rw[hF2] at hF
   (refine sg (et t1 (et t2 (et t10 (et t11 (et t12 (et t4 (et t19 (et t20 (et (df (show ¬ (q:Int)<(ls.length:Int) by omega)) wm))))))))) ?_;try exact⟨⟩)
   exact⟨r',by omega,oJ,lJ,gJ0,gJ1,m+1,by omega,hF,rfl⟩
 ·have hr0:r=0:=by omega
  subst hr0
  rw[firstL] at hF
  have gset:∀ L X,((K++L).set (H.length+1) X)[H.length+1]?=some X:=fun L X=>List.getElem?_set_self (by rw[List.length_append];omega)
  have gset':∀ X,(K.set (H.length+1) X)[H.length+1]?=some X:=fun X=>List.getElem?_set_self (by omega)
  (refine sg (et t1 (et t2 (et t10 (et t11 (et t12 (et (df (show ¬ (m:Int)<(d.comps.length:Int) by omega)) (et gK0 (et gK1 (et gset' kd1))))))))) ?_;try exact⟨⟩)
  exact .inl hF
end Go.Proofs.YthhbglkokpablaaGreat
/- Comps laid open: the walk of All. -/
namespace Go.Proofs.YthhbglkokpablaaGreat
open Go Go.RowKit E
attribute [local irreducible] XRun XOps XCode XCal XLoop XQ SemCall
set_option linter.unusedSimpArgs false
set_option linter.unusedVariables false
theorem MkI.cos {n0:Nat} {K:AH} {v:Value} {l:List (List Ly)} (h:MkI n0 K v l) (hl:l.length≤1000) (hc:∀ x∈l,x.length≤1000):Dep n0 K (fun J=>Cos J v l):=fun J hJ=>by
 rcases h with ⟨rfl,rfl⟩|⟨b,g,cs,h0,rfl,h2,h3,lo,hi,h4⟩
 ·exact RowOf.none
 ·refine .inr ⟨b,g,[],true,cs,rfl,by rw[List.append_nil];exact hJ _ _ h0 h2,h3,by omega,fun i x hx=>?_⟩
  obtain⟨⟨c,g1,g2⟩,z1,z2,z3,z4⟩:=h4 i x hx
  refine⟨c,g1,?_,(g2.mono fun b k b1 b2 e=>hJ b k (by omega) e).row (hc x (List.mem_of_getElem? hx))⟩
  obtain⟨v,e,_⟩:=g2;rw[e];rfl
set_option maxHeartbeats 8000000 in
theorem all_ (d:Dc) (cv:Value) (H:AH) (h:Cos H cv d.comps) (hz:DcS d) :
  Cal Tryz.prog 18 [dcV d cv] H fun v H' W=>W=[]∧(∃ L,H'=H++L)∧∃ cw,v=dcV (allE d) cw∧Dep H.length H' (fun J=>Cos J cw (allE d).comps):=by
 refine adds_of ?_
 have kd:∀ n,decide (H.length+n<H.length)=false:=fun n=>df (by omega)
 have kd0:decide (H.length<H.length)=false:=df (by omega)
 have kd1:decide (H.length+1<H.length)=false:=df (by omega)
 obtain⟨ca,ce,hcf⟩:=h.form
 subst hcf
 refine XCal.of hm Tryz.func18 rfl (fun xs w=>Tryz.call18 xs w) Tryz.ntmps18 Tryz.results18 rfl ?_
 (refine sg (et kd kd0) ?_;try exact⟨⟩)
 have oG:Old H (H++[(⟨[.int .i64 d.in_,.int .i64 d.out,.slice ca d.comps.length ce],0,true⟩:Blk),⟨[.int .i64 0,.int .i64 0,.slice none 0 0],0,true⟩]):=Old.app' _ _
 have gG0:(H++[(⟨[.int .i64 d.in_,.int .i64 d.out,.slice ca d.comps.length ce],0,true⟩:Blk),⟨[.int .i64 0,.int .i64 0,.slice none 0 0],0,true⟩])[H.length]?=some ⟨[.int .i64 d.in_,.int .i64 d.out,.slice ca d.comps.length ce],0,true⟩:=by rw[hget_app0];rfl
 have gG1:(H++[(⟨[.int .i64 d.in_,.int .i64 d.out,.slice ca d.comps.length ce],0,true⟩:Blk),⟨[.int .i64 0,.int .i64 0,.slice none 0 0],0,true⟩])[H.length+1]?=some ⟨[.int .i64 0,.int .i64 0,.slice none 0 0],0,true⟩:=by rw[hget_app];rfl
 have lG:(H++[(⟨[.int .i64 d.in_,.int .i64 d.out,.slice ca d.comps.length ce],0,true⟩:Blk),⟨[.int .i64 0,.int .i64 0,.slice none 0 0],0,true⟩]).length=H.length+2:=by simp
 generalize H++[(⟨[.int .i64 d.in_,.int .i64 d.out,.slice ca d.comps.length ce],0,true⟩:Blk),⟨[.int .i64 0,.int .i64 0,.slice none 0 0],0,true⟩]=G at *
 refine(copy2_ d _ G (h.old CoE.m oG) hz).x ?_
 rintro v V1 W1 ⟨rfl,⟨L1,rfl⟩,cw1,rfl,hM1⟩
 have hD1:=hM1.cos hz.n (fun x hx=>(hz.c x hx).1)
 have oV1:Old G (G++L1):=Old.app' _ _
 have lV1:G.length≤(G++L1).length:=by rw[List.length_append];omega
 clear hM1
 generalize G++L1=V1 at *
 obtain⟨wa,we,hwf⟩:=hD1.here.form
 subst hwf
 have gs:∀ X,(V1.set H.length X)[H.length]?=some X:=fun X=>List.getElem?_set_self (by omega)
 (refine sg (et kd (et kd0 (et (oV1 _ _ gG0) gs))) ?_;try exact⟨⟩)
 refine keep (fun r T K D=>D=[]∧H.length+2≤K.length∧∃ (e:Dc) (cw:Value),meas e+1≤r∧DcS e∧allE d=allE e∧K[H.length]?=some ⟨[.int .i64 e.in_,.int .i64 e.out,cw],0,true⟩∧K[H.length+1]?=some ⟨[.int .i64 0,.int .i64 0,.slice none 0 0],0,true⟩∧Dep (H.length+2) K (fun J=>Cos J cw e.comps)∧T 1=ap H.length 0 0∧T 2=ap (H.length+1) 0 0) (meas d+1)
  ⟨rfl,by rw[List.length_set];omega,d,_,Nat.le_refl _,hz,rfl,gs _,by rw[List.getElem?_set_ne (by omega)];exact oV1 _ _ gG1,(hD1.olx (Olx.set0 _ _ _) (by omega)).low (by omega),by(refine sg trivial ?_;try exact⟨⟩),by(refine sg trivial ?_;try exact⟨⟩)⟩ ?_
 rintro r T K D ⟨rfl,lK,e,cw,hr,hzs,hA,g0,g1,hD,t1,t2⟩
 have kdK:∀ n,decide (K.length+n<H.length)=false:=fun n=>df (by omega)
 have kdK0:decide (K.length<H.length)=false:=df (by omega)
 obtain⟨wa,we,hwf⟩:=hD.here.form
 subst hwf
 (refine sg (et t1 (et t2 g0)) ?_;try exact⟨⟩)
 refine(one_ e _ K hD.here hzs).x ?_
 rintro v H1 W1 ⟨rfl,⟨L,rfl⟩,hv⟩
 have oJL:Old K (K++L):=Old.app' _ _
 have lJL:K.length≤(K++L).length:=by rw[List.length_append];omega
 generalize K++L=V at *
 have kdL:∀ n,decide (V.length+n<H.length)=false:=fun n=>df (by omega)
 have kdL0:decide (V.length<H.length)=false:=df (by omega)
 have gV0:=oJL _ _ g0
 have gV1:=oJL _ _ g1
 rcases hv with ⟨hn,rfl⟩|⟨e',cw',hn,rfl,hC⟩
 ·have gset:∀ L X,((V++L).set (H.length+1) X)[H.length+1]?=some X:=fun L X=>List.getElem?_set_self (by rw[List.length_append];omega)
  (refine sg (et t1 (et t2 (et kdL (et kdL0 (et kdK (et kdK0 (et Bool.not_false (et (old_get gV0) (et (old_get gV1) (et gset kd1)))))))))) ?_;try exact⟨⟩)
  refine⟨_,by rw[hA,allE_none hn],?_⟩
  rw[hA,allE_none hn]
  exact(((hD.old oJL).old (Old.app' V _)).olx (Olx.set0 _ _ _) (by omega)).low (by omega)
 ·obtain⟨ea,ee,hef⟩:=hC.here.form
  subst hef
  have gset0:∀ L X,((V++L).set H.length X)[H.length]?=some X:=fun L X=>List.getElem?_set_self (by rw[List.length_append];omega)
  have hm:=one_meas hn
  (refine sg (et t1 (et t2 (et kdL (et kdL0 (et kdK (et kdK0 (et Bool.not_true (et (old_get gV0) (et gset0 kd0))))))))) ?_;try exact⟨⟩)
  refine⟨r - 1,by omega,by omega,e',_,by omega,(oneE_S hzs hn).1,by rw[hA,allE_some hn],rfl,by rw[List.getElem?_set_ne (by omega)];exact old_get gV1 _,((hC.old (Old.app' V _)).olx (Olx.set0 _ _ _) (by omega)).low (by omega)⟩
end Go.Proofs.YthhbglkokpablaaGreat
/- Comps laid open: the walk of the document's answer's All. -/
namespace Go.Proofs.YthhbglkokpablaaGreat
open Go Go.RowKit E
attribute [local irreducible] XRun XOps XCode XCal XLoop XQ SemCall
set_option linter.unusedSimpArgs false
set_option linter.unusedVariables false
theorem openE_len (d:Dc) (c k:Nat):(openE d c k).comps.length=d.comps.length:=by
 unfold openE
 split
 ·rfl
 ·split
  ·rfl
  ·show (d.comps.set _ _).length=_;rw[List.length_set]
/-- All but the two boxes. -/
def p2 (n:Nat):Nat→Prop:=fun c=>c=n∨c=n+1
/-- What the walk of All has at a time: nothing found yet; the first that may be laid open. -/
def RaF (H K:AH) (e:Dc):Prop:=∃ cw,K[H.length]?=some ⟨[.int .i64 e.in_,.int .i64 e.out,cw],0,true⟩∧∀ J,OlP (p2 H.length) K J→Cos J cw e.comps
def RaT (H K:AH) (e:Dc):Prop:=∃ e2,oneE e=some e2∧e2.comps.length=e.comps.length∧RaF H K e2
theorem RaF.old {H K V:AH} {e:Dc} (h:RaF H K e) (o:Old K V):RaF H V e:=by
 obtain⟨cw,h1,h2⟩:=h
 exact⟨cw,o _ _ h1,fun J oJ=>h2 J fun c k hc e=>oJ c k hc (o c k e)⟩
theorem RaT.old {H K V:AH} {e:Dc} (h:RaT H K e) (o:Old K V):RaT H V e:=by
 obtain⟨e2,h1,h2,h3⟩:=h
 exact⟨e2,h1,h2,h3.old o⟩
set_option maxRecDepth 100000 in
set_option maxHeartbeats 8000000 in
theorem rall_ (d:Dc) (cv:Value) (H:AH) (h:Cos H cv d.comps) (hz:DcS d) :
  Cal Tryz.prog 19 [dcV d cv] H fun v H' W=>W=[]∧(∃ L,H'=H++L)∧∃ cw,v=dcV (allE d) cw∧Cos H' cw (allE d).comps:=by
 refine adds_of ?_
 have kd:∀ n,decide (H.length+n<H.length)=false:=fun n=>df (by omega)
 have kd0:decide (H.length<H.length)=false:=df (by omega)
 have kd1:decide (H.length+1<H.length)=false:=df (by omega)
 obtain⟨ca,ce,hcf⟩:=h.form
 subst hcf
 refine XCal.of hm Tryz.func19 rfl (fun xs w=>Tryz.call19 xs w) Tryz.ntmps19 Tryz.results19 rfl ?_
 (refine sg (et kd kd0) ?_;try exact⟨⟩)
 refine keep (fun r T K D=>D=[]∧Old H K∧H.length+2≤K.length∧∃ (e:Dc),meas e+1≤r∧DcS e∧allE d=allE e∧K[H.length+1]?=some ⟨[.int .i64 0,.int .i64 0,.slice none 0 0],0,true⟩∧RaF H K e∧T 1=ap H.length 0 0∧T 2=ap (H.length+1) 0 0) (meas d+1)
  ⟨rfl,Old.app' _ _,by simp,d,Nat.le_refl _,hz,rfl,by rw[hget_app];rfl,⟨_,by rw[hget_app0];rfl,fun J oJ=>h.old CoE.m fun c k e=>oJ c k (fun hc=>by have:=(List.getElem?_eq_some_iff.1 e).1;rcases hc with hc|hc <;> omega) (old_get e _)⟩,by(refine sg trivial ?_;try exact⟨⟩),by(refine sg trivial ?_;try exact⟨⟩)⟩ ?_
 rintro r T K D ⟨rfl,oK,lK,e,hr,hzs,hA,g1,hF,t1,t2⟩
 have hn0:=hzs.n
 (refine sg (et t1 t2) ?_;try exact⟨⟩)
 refine keep (fun r2 T V D=>D=[]∧Old H V∧H.length+2≤V.length∧V[H.length+1]?=some ⟨[.int .i64 0,.int .i64 0,.slice none 0 0],0,true⟩∧T 1=ap H.length 0 0∧T 2=ap (H.length+1) 0 0∧∃ (m:Nat),m≤e.comps.length+1∧T 4=.int .i64 (m:Int)∧((∃ N,m+N=e.comps.length∧N≤r2∧oneE e=firstL (oneC e) m N∧RaF H V e∧T 3=.bool false)∨(RaT H V e∧T 3=.bool true))) e.comps.length
  ⟨rfl,oK,lK,g1,by(refine sg t1 ?_;try exact⟨⟩),by(refine sg t2 ?_;try exact⟨⟩),0,by omega,by(refine sg trivial ?_;try exact⟨⟩) <;> rfl,.inl ⟨_,by omega,Nat.le_refl _,rfl,hF,by(refine sg trivial ?_;try exact⟨⟩)⟩⟩ ?_
 clear hF g1 oK lK t1 t2
 rintro r2 T2 V D ⟨rfl,oV,lV,g1,t1,t2,m,hmn,t4,hS⟩
 have kdV:∀ n,decide (V.length+n<H.length)=false:=fun n=>df (by omega)
 have kdV0:decide (V.length<H.length)=false:=df (by omega)
 rcases hS with ⟨N,hmN,hNr,hO,hF,t3⟩|⟨hT,t3⟩
 case inr=>
  obtain⟨e2,h1,h2,cw2,h3,h4⟩:=hT
  obtain⟨wa,we,hwf⟩:=(h4 V (OlP.refl _ _)).form
  subst hwf
  have hm:=one_meas h1
  rcases (show decide ((m:Int)<(e2.comps.length:Int))=true∨decide ((m:Int)<(e2.comps.length:Int))=false by cases decide ((m:Int)<(e2.comps.length:Int)) <;> simp) with hd|hd
  all_goals
   (refine sg (et t1 (et t2 (et t3 (et t4 (et h3 (et hd Bool.not_true)))))) ?_;try exact⟨⟩)
   exact⟨r - 1,by omega,oV,lV,e2,by omega,(oneE_S hzs h1).1,by rw[hA,allE_some h1],g1,⟨_,h3,h4⟩⟩
 obtain⟨cw,h3,h4⟩:=hF
 have hC:=h4 V (OlP.refl _ _)
 obtain⟨wa,we,hwf⟩:=hC.form
 subst hwf
 by_cases hm0:m<e.comps.length
 ·obtain⟨N',rfl⟩:∃ N',N=N'+1:=⟨N - 1,by omega⟩
  rw[firstL] at hO
  obtain⟨ls,hx⟩:∃ ls,e.comps[m]?=some ls:=⟨_,List.getElem?_eq_getElem hm0⟩
  have hls:=(hzs.c ls (List.mem_of_getElem? hx)).1
  have hN:layN e m=ls.length:=by unfold layN;rw[hx];rfl
  have q0:(0:Int)≤(m:Int):=by omega
  have q1:(m:Int)<(e.comps.length:Int):=by omega
  have wm:IntKind.i64.wrap ((m:Int)+1)=((m+1:Nat):Int):=by rw[wi (by omega) (by omega)];rfl
  (refine sg (et t1 (et t2 (et t3 (et t4 (et h3 (et (dt q1) Bool.not_false)))))) ?_;try exact⟨⟩)
  refine keep (fun r3 T J D=>D=[]∧Old H J∧H.length+2≤J.length∧J[H.length+1]?=some ⟨[.int .i64 0,.int .i64 0,.slice none 0 0],0,true⟩∧T 1=ap H.length 0 0∧T 2=ap (H.length+1) 0 0∧T 4=.int .i64 (m:Int)∧∃ (q:Nat),q≤ls.length+1∧T 5=.int .i64 (q:Int)∧((∃ N2,q+N2=ls.length∧N2≤r3∧oneC e m=firstL (oneL e m) q N2∧RaF H J e∧T 3=.bool false)∨(RaT H J e∧T 3=.bool true))) ls.length
   ⟨rfl,oV,lV,g1,by(refine sg t1 ?_;try exact⟨⟩),by(refine sg t2 ?_;try exact⟨⟩),by(refine sg t4 ?_;try exact⟨⟩),0,by omega,by(refine sg trivial ?_;try exact⟨⟩) <;> rfl,.inl ⟨_,by omega,Nat.le_refl _,by unfold oneC;rw[hN],⟨_,h3,h4⟩,by(refine sg t3 ?_;try exact⟨⟩)⟩⟩ ?_
  clear t1 t2 t3 t4 h3 h4 hC g1 oV lV
  rintro r3 T3 J D ⟨rfl,oJ,lJ,g1,t1,t2,t4,q,hql,t5,hS⟩
  have kdJ:∀ n,decide (J.length+n<H.length)=false:=fun n=>df (by omega)
  have kdJ0:decide (J.length<H.length)=false:=df (by omega)
  rcases hS with ⟨N2,hqN,hNr2,hO2,hF,t3⟩|⟨hT,t3⟩
  case inr=>
   have hT':=hT
   obtain⟨e2,h1,h2,cw2,h3,h4⟩:=hT
   have hC2:=h4 J (OlP.refl _ _)
   obtain⟨ls2,hx2⟩:∃ ls2,e2.comps[m]?=some ls2:=⟨_,List.getElem?_eq_getElem (by omega)⟩
   obtain⟨b1,g1',cells1,rw1,cc,hve1,hb1,⟨lv,rfl,hL⟩,hcl1,hle1,hld1,hgt1⟩:=hC2.at hx2
   obtain⟨la,le,rfl⟩:=hL.form
   have hc0:cells1[m*1]?=some (.slice la ls2.length le):=hgt1 0 (by omega)
   have q1':(m:Int)<(e2.comps.length:Int):=by omega
   rw[hve1] at h3
   rcases (show decide ((q:Int)<(ls2.length:Int))=true∨decide ((q:Int)<(ls2.length:Int))=false by cases decide ((q:Int)<(ls2.length:Int)) <;> simp) with hd|hd
   all_goals
    (refine sg (et t1 (et t2 (et t3 (et t4 (et t5 (et h3 (et q0 (et q1' (et Int.toNat_natCast (et Nat.zero_add (et Nat.add_zero (et hb1 (et hc0 (et hd (et Bool.not_true wm))))))))))))))) ?_;try exact⟨⟩)
    exact⟨r2 - 1,by omega,oJ,lJ,g1,m+1,by omega,rfl,.inr hT'⟩
  obtain⟨cw,h3,h4⟩:=hF
  have hC:=h4 J (OlP.refl _ _)
  obtain⟨b1,g1',cells1,rw1,cc,hve1,hb1,⟨lv,rfl,hL⟩,hcl1,hle1,hld1,hgt1⟩:=hC.at hx
  obtain⟨la,le,rfl⟩:=hL.form
  have hc0:cells1[m*1]?=some (.slice la ls.length le):=hgt1 0 (by omega)
  have h3':=h3
  rw[hve1] at h3'
  by_cases hq:q<ls.length
  ·obtain⟨N2',rfl⟩:∃ N',N2=N'+1:=⟨N2 - 1,by omega⟩
   rw[firstL] at hO2
   have u1:(q:Int)<(ls.length:Int):=by omega
   have wq:IntKind.i64.wrap ((q:Int)+1)=((q+1:Nat):Int):=by rw[wi (by omega) (by omega)];rfl
   (refine sg (et t1 (et t2 (et t3 (et t4 (et t5 (et h3' (et q0 (et q1 (et Int.toNat_natCast (et Nat.zero_add (et Nat.add_zero (et hb1 (et hc0 (et (dt u1) Bool.not_false)))))))))))))) ?_;try exact⟨⟩)
   rw[← hve1]
   refine(ropen_ e _ (m:Int) (q:Int) (p2 H.length) J (by rw[hve1] at h4 ⊢;exact h4) hzs).x ?_
   rintro v H1 W1 ⟨rfl,⟨L,rfl⟩,hv⟩
   have lL:J.length≤(J++L).length:=by rw[List.length_append];omega
   have oL:Old J (J++L):=Old.app' _ _
   have kdL:∀ n,decide ((J++L).length+n<H.length)=false:=fun n=>df (by omega)
   have kdL0:decide ((J++L).length<H.length)=false:=df (by omega)
   generalize J++L=V1 at *
   have gV1:=oL _ _ h3
   have gV2:=oL _ _ g1
   rcases hv with ⟨hn,rfl⟩|⟨h0,cw2,rfl,hC2⟩
   ·have hon:oneL e m q=none:=by unfold oneL;rw[if_neg hn]
    rw[hon] at hO2
    (refine sg (et t1 (et t2 (et t3 (et t4 (et t5 (et kdL (et kdL0 (et (bf hn) wq)))))))) ?_;try exact⟨⟩)
    exact⟨r3 - 1,by omega,(oJ.trans oL).app _,by omega,old_get gV2 _,q+1,by omega,rfl,.inl ⟨N2',by omega,by omega,hO2,RaF.old ⟨_,h3,h4⟩ (oL.app _)⟩⟩
   ·have hon:oneL e m q=some (openE e m q):=by unfold oneL;rw[if_pos h0]
    rw[hon] at hO2
    rw[hO2] at hO
    have hln2:(openE e (m:Int).toNat (q:Int).toNat).comps.length=e.comps.length:=openE_len _ _ _
    obtain⟨xa,xe,hxf⟩:=(hC2 V1 (OlP.old oL) (fun c k _ e=>e)).form
    subst hxf
    have gset:∀ L X,((V1++L).set H.length X)[H.length]?=some X:=fun L X=>List.getElem?_set_self (by rw[List.length_append];omega)
    (refine sg (et t1 (et t2 (et t3 (et t4 (et t5 (et kdL (et kdL0 (et kd0 (et (bt h0) (et wq (old_get gV1))))))))))) ?_;try exact⟨⟩)
    refine⟨r3 - 1,by omega,((oJ.trans oL).app _).olx (Olx.set0 _ _ _) (Nat.le_refl _),by omega,by rw[List.getElem?_set_ne (by omega)];exact old_get gV2 _,q+1,by omega,rfl,.inr ⟨_,hO,openE_len _ _ _,_,gset _ _,fun J2 oJ2=>hC2 J2 (fun c k hc ek=>oJ2 c k hc ?_) (fun c k hc ek=>oJ2 c k ?_ ?_)⟩⟩
    ·rw[List.getElem?_set_ne (fun hcc=>hc (.inl hcc.symm))];exact old_get (oL c k ek) _
    ·intro hcc;rcases hcc with hcc|hcc <;> omega
    ·rw[List.getElem?_set_ne (by omega)];exact old_get ek _
  ·have hr2:N2=0:=by omega
   subst hr2
   rw[firstL] at hO2
   rw[hO2] at hO
   (refine sg (et t1 (et t2 (et t3 (et t4 (et t5 (et h3' (et q0 (et q1 (et Int.toNat_natCast (et Nat.zero_add (et Nat.add_zero (et hb1 (et hc0 (et (df (show ¬ (q:Int)<(ls.length:Int) by omega)) wm)))))))))))))) ?_;try exact⟨⟩)
   exact⟨r2 - 1,by omega,oJ,lJ,g1,m+1,by omega,rfl,.inl ⟨N',by omega,by omega,hO,(⟨_,h3,h4⟩:RaF H J e)⟩⟩
 ·have hN0:N=0:=by omega
  subst hN0
  rw[firstL] at hO
  have gset:∀ X,(V.set (H.length+1) X)[H.length+1]?=some X:=fun X=>List.getElem?_set_self (by omega)
  (refine sg (et t1 (et t2 (et t3 (et t4 (et h3 (et g1 (et (df (show ¬ (m:Int)<(e.comps.length:Int) by omega)) (et Bool.not_false (et gset kd1))))))))) ?_;try exact⟨⟩)
  refine⟨_,by rw[hA,allE_none hO],?_⟩
  rw[hA,allE_none hO]
  exact h4 _ fun c k hc ek=>by rw[List.getElem?_set_ne (fun hcc=>hc (.inr hcc.symm))];exact ek
end Go.Proofs.YthhbglkokpablaaGreat
/- Comps laid open: the walk of the law's same. -/
namespace Go.Proofs.YthhbglkokpablaaGreat
open Go Go.RowKit E
attribute [local irreducible] XRun XOps XCode XCal XLoop XQ SemCall
set_option linter.unusedSimpArgs false
set_option linter.unusedVariables false
/-- What Open answers with: the document laid open, or none. -/
def ansE (d:Dc) (c k:Int):Dc:=if mayE d c k=0 then openE d c.toNat k.toNat else ⟨0,0,[]⟩
theorem old_len {H K:AH} (o:Old H K):H.length≤K.length:=by
 rcases Nat.eq_zero_or_pos H.length with h|h
 ·omega
 ·have:=(List.getElem?_eq_some_iff.1 (o (H.length - 1) H[H.length - 1] (List.getElem?_eq_getElem (by omega)))).1;omega
theorem ans_ (d:Dc) (cv:Value) (c k:Int) (H:AH) (h:Cos H cv d.comps) (hz:DcS d) :
  Cal Tryz.prog 13 [dcV d cv,.int .i64 c,.int .i64 k] H fun v H' W=>W=[]∧(∃ L,H'=H++L)∧∃ a e,v=.tuple #[dcV (ansE d c k) (.slice a (ansE d c k).comps.length e),.int .i64 (mayE d c k)]∧Cos H' (.slice a (ansE d c k).comps.length e) (ansE d c k).comps:=by
 refine(open_ d cv c k H h hz).mono ?_
 rintro v H1 W1 ⟨rfl,hL,hv⟩
 rcases hv with ⟨h0,rfl⟩|⟨h0,cw,rfl,hD⟩
 ·exact⟨rfl,hL,none,0,by unfold ansE;rw[if_neg h0];rfl,by unfold ansE;rw[if_neg h0];exact RowOf.none⟩
 ·have hC:=hD.here
  obtain⟨a,e,hf⟩:=hC.form
  subst hf
  exact⟨rfl,hL,a,e,by unfold ansE;rw[if_pos h0,h0],by unfold ansE;rw[if_pos h0];exact hC⟩
theorem rans_ (d:Dc) (cv:Value) (c k:Int) (H:AH) (h:Cos H cv d.comps) (hz:DcS d) :
  Cal Tryz.prog 16 [dcV d cv,.int .i64 c,.int .i64 k] H fun v H' W=>W=[]∧(∃ L,H'=H++L)∧∃ a e,v=.tuple #[dcV (ansE d c k) (.slice a (ansE d c k).comps.length e),.int .i64 (mayE d c k)]∧Cos H' (.slice a (ansE d c k).comps.length e) (ansE d c k).comps:=by
 refine(ropen_ d cv c k (fun _=>False) H (fun J o=>h.old CoE.m fun c k e=>o c k id e) hz).mono ?_
 rintro v H1 W1 ⟨rfl,⟨L,rfl⟩,hv⟩
 rcases hv with ⟨h0,rfl⟩|⟨h0,cw,rfl,hD⟩
 ·exact⟨rfl,⟨L,rfl⟩,none,0,by unfold ansE;rw[if_neg h0];rfl,by unfold ansE;rw[if_neg h0];exact RowOf.none⟩
 ·have hC:=hD (H++L) (OlP.old (Old.app' _ _)) (fun c k _ e=>e)
  obtain⟨a,e,hf⟩:=hC.form
  subst hf
  exact⟨rfl,⟨L,rfl⟩,a,e,by unfold ansE;rw[if_pos h0,h0],by unfold ansE;rw[if_pos h0];exact hC⟩
theorem same27_ (d:Dc) (cv:Value) (raw:Bool) (H:AH) (h:Cos H cv d.comps) (hz:DcS d):SemCall Tryz.prog 6 [dcV d cv,.bool raw] H (.bool true) H []:=by
 refine pure_of ?_ rfl
 obtain⟨ca,ce,hcf⟩:=h.form
 subst hcf
 have hn0:=hz.n
 have kd:∀ n,decide (H.length+n<H.length)=false:=fun n=>df (by omega)
 have kd0:decide (H.length<H.length)=false:=df (by omega)
 refine XCal.of hm Tryz.func6 rfl (fun xs w=>Tryz.call6 xs w) Tryz.ntmps6 Tryz.results6 rfl ?_
 (refine sg (et kd kd0) ?_;try exact⟨⟩)
 refine keep (fun r T K D=>D=[]∧Old H K∧H.length+1≤K.length∧K[H.length]?=some ⟨[.int .i64 d.in_,.int .i64 d.out,.slice ca d.comps.length ce],0,true⟩∧T 1=.bool raw∧T 2=ap H.length 0 0∧∃ i:Int,i+(r:Int)=10∧-1≤i∧T 5=.int .i64 i) 11
  ⟨rfl,Old.app' _ _,by simp,by rw[hget_app0];rfl,by(refine sg trivial ?_;try exact⟨⟩),by(refine sg trivial ?_;try exact⟨⟩),-1,by omega,by omega,by(refine sg trivial ?_;try exact⟨⟩)⟩ ?_
 rintro r T K D ⟨rfl,oK,lK,g0,t1,t2,i,hir,hi0,t5⟩
 have kdK:∀ n,decide (K.length+n<H.length)=false:=fun n=>df (by omega)
 have kdK0:decide (K.length<H.length)=false:=df (by omega)
 by_cases hm:i≤(d.comps.length:Int)∧i<9
 case neg=>
  have hg:(decide (i≤(d.comps.length:Int))=true∧decide (i<9)=false)∨decide (i≤(d.comps.length:Int))=false:=by
   by_cases hc:i≤(d.comps.length:Int)
   ·exact .inl ⟨dt hc,df (by omega)⟩
   ·exact .inr (df hc)
  cases raw with
  | true=>
   rcases hg with ⟨e1,e2⟩|e1
   ·(refine sg (et t1 (et t2 (et t5 (et g0 (et kdK (et kdK0 (et e1 e2))))))) ?_;try exact⟨⟩)
    first|refine drawnF ?_ (by decide +kernel)|refine drawnU [(3,4)] (by decide +kernel) ?_
    (refine sg (et t1 (et t2 (et t5 (et g0 (et kdK (et kdK0 (et e1 e2))))))) ?_;try exact⟨⟩)
   ·(refine sg (et t1 (et t2 (et t5 (et g0 (et kdK (et kdK0 e1)))))) ?_;try exact⟨⟩)
    first|refine drawnF ?_ (by decide +kernel)|refine drawnU [(3,4)] (by decide +kernel) ?_
    (refine sg (et t1 (et t2 (et t5 (et g0 (et kdK (et kdK0 e1)))))) ?_;try exact⟨⟩)
  | false=>
   rcases hg with ⟨e1,e2⟩|e1
   all_goals
    first|(refine sg (et t1 (et t2 (et t5 (et g0 (et kdK (et kdK0 (et e1 e2))))))) ?_;try exact⟨⟩)|(refine sg (et t1 (et t2 (et t5 (et g0 (et kdK (et kdK0 e1)))))) ?_;try exact⟨⟩)
    first|refine drawnF ?_ (by decide +kernel)|refine drawnU [(3,4)] (by decide +kernel) ?_
    (refine sg (et t1 (et t2 (et t5 (et g0 (et kdK kdK0))))) ?_;try exact⟨⟩)
    refine(all_ d _ _ (h.old CoE.m oK) hz).x ?_
    rintro v H1 W1 ⟨rfl,⟨L,rfl⟩,cw,rfl,hC1⟩
    have hC1:=hC1.here
    obtain⟨xa,xe,hxf⟩:=hC1.form
    subst hxf
    have o1:Old K (K++L):=Old.app' _ _
    generalize K++L=V at *
    (refine sg (et t1 (et t2 (et t5 (o1 _ _ g0)))) ?_;try exact⟨⟩)
    refine(rall_ d _ _ (h.old CoE.m (oK.trans o1)) hz).x ?_
    rintro v H1 W1 ⟨rfl,⟨L,rfl⟩,cw,rfl,hC2⟩
    obtain⟨ya,ye,hyf⟩:=hC2.form
    subst hyf
    (refine sg trivial ?_;try exact⟨⟩)
    refine(rdsame_ (allE d) (allE d) _ _ _ (hC1.old CoE.m (Old.app' _ _)) hC2).x ?_
    rw[dcQ_refl]
    (refine sg trivial ?_;try exact⟨⟩)
 have wi1:IntKind.i64.wrap (i+1)=i+1:=by rw[wi (by omega) (by omega)]
 have e1:=dt hm.1
 have e2:=dt hm.2
 by_cases hc:(0:Int)≤i∧i<(d.comps.length:Int)
 case pos=>
  obtain⟨m,hmi⟩:∃ m:Nat,i=(m:Int):=⟨i.toNat,by omega⟩
  have hmt:i.toNat=m:=by omega
  obtain⟨ls,hx⟩:∃ ls,d.comps[m]?=some ls:=⟨_,List.getElem?_eq_getElem (by omega)⟩
  have hls:=(hz.c ls (List.mem_of_getElem? hx)).1
  obtain⟨b1,g1,cells1,rw1,cc,hve1,hb1,⟨lv,rfl,hL⟩,hcl1,hle1,hld1,hgt1⟩:=(h.old CoE.m oK).at hx
  obtain⟨la,le,rfl⟩:=hL.form
  have hc0:cells1[m*1]?=some (.slice la ls.length le):=hgt1 0 (by omega)
  have h3':=g0
  rw[hve1] at h3'
  have q0:(0:Int)≤i:=by omega
  have q1:i<(d.comps.length:Int):=by omega
  (refine sg (et t1 (et t2 (et t5 (et h3' (et e1 (et e2 (et (dt (show i≥0 by omega)) (et (dt q1) (et q0 (et q1 (et hmt (et Nat.zero_add (et Nat.add_zero (et hb1 hc0)))))))))))))) ?_;try exact⟨⟩)
  refine keep (fun r2 T J D=>D=[]∧Old K J∧T 1=.bool raw∧T 2=ap H.length 0 0∧T 5=.int .i64 i∧∃ j:Int,j+(r2:Int)=(ls.length:Int)+1∧-1≤j∧T 6=.int .i64 (ls.length:Int)∧T 7=.int .i64 j) (ls.length+2)
   ⟨rfl,Old.refl _,by(refine sg t1 ?_;try exact⟨⟩),by(refine sg t2 ?_;try exact⟨⟩),by(refine sg t5 ?_;try exact⟨⟩),-1,by omega,by omega,by(refine sg trivial ?_;try exact⟨⟩) <;> rfl,by(refine sg trivial ?_;try exact⟨⟩)⟩ ?_
  clear t1 t2 t5
  rintro r2 T2 J D ⟨rfl,oJ,t1,t2,t5,j,hjr,hj0,t6,t7⟩
  have oHJ:=oK.trans oJ
  have gJ0:=oJ _ _ g0
  have lJ:K.length≤J.length:=old_len oJ
  have kdJ:∀ n,decide (J.length+n<H.length)=false:=fun n=>df (by omega)
  have kdJ0:decide (J.length<H.length)=false:=df (by omega)
  by_cases hjn:j≤(ls.length:Int)
  case neg=>
   (refine sg (et t1 (et t2 (et t5 (et t6 (et t7 (et (df hjn) wi1)))))) ?_;try exact⟨⟩)
   exact⟨r - 1,by omega,oHJ,by omega,gJ0,i+1,by omega,by omega,rfl⟩
  obtain⟨r2',rfl⟩:∃ r',r2=r'+1:=⟨r2 - 1,by omega⟩
  have wj1:IntKind.i64.wrap (j+1)=j+1:=by rw[wi (by omega) (by omega)]
  (refine sg (et t1 (et t2 (et t5 (et t6 (et t7 (et gJ0 (dt hjn))))))) ?_;try exact⟨⟩)
  refine(ans_ d _ i j J (h.old CoE.m oHJ) hz).x ?_
  rintro v H1 W1 ⟨rfl,⟨L,rfl⟩,a1,x1,rfl,hC1⟩
  have oL:Old J (J++L):=Old.app' _ _
  have lL:J.length≤(J++L).length:=old_len oL
  generalize J++L=V at *
  have gV0:=oL _ _ gJ0
  have kdV:∀ n,decide (V.length+n<H.length)=false:=fun n=>df (by omega)
  have kdV0:decide (V.length<H.length)=false:=df (by omega)
  (refine sg (et kdV kdV0) ?_;try exact⟨⟩)
  have oV2:Old V (V++[(⟨[.int .i64 (ansE d i j).in_,.int .i64 (ansE d i j).out,.slice a1 (ansE d i j).comps.length x1],0,true⟩:Blk)]):=Old.app' _ _
  have gV2:(V++[(⟨[.int .i64 (ansE d i j).in_,.int .i64 (ansE d i j).out,.slice a1 (ansE d i j).comps.length x1],0,true⟩:Blk)])[V.length]?=some ⟨[.int .i64 (ansE d i j).in_,.int .i64 (ansE d i j).out,.slice a1 (ansE d i j).comps.length x1],0,true⟩:=by rw[hget_app0];rfl
  have lV2:(V++[(⟨[.int .i64 (ansE d i j).in_,.int .i64 (ansE d i j).out,.slice a1 (ansE d i j).comps.length x1],0,true⟩:Blk)]).length=V.length+1:=by simp
  generalize V++[(⟨[.int .i64 (ansE d i j).in_,.int .i64 (ansE d i j).out,.slice a1 (ansE d i j).comps.length x1],0,true⟩:Blk)]=X at *
  have gX0:=oV2 _ _ gV0
  (refine sg (et t2 (et t5 (et t7 gX0))) ?_;try exact⟨⟩)
  refine(rans_ d _ i j X (h.old CoE.m ((oHJ.trans oL).trans oV2)) hz).x ?_
  rintro v H1 W1 ⟨rfl,⟨L2,rfl⟩,a2,x2,rfl,hC2⟩
  have oL2:Old X (X++L2):=Old.app' _ _
  have lL2:X.length≤(X++L2).length:=old_len oL2
  generalize X++L2=Y at *
  have gY0:=oL2 _ _ (oV2 _ _ gV0)
  have gY2:=oL2 _ _ gV2
  have kdY:∀ n,decide (Y.length+n<H.length)=false:=fun n=>df (by omega)
  have kdY0:decide (Y.length<H.length)=false:=df (by omega)
  have hC1':∀ L,Cos (Y++L) (.slice a1 (ansE d i j).comps.length x1) (ansE d i j).comps:=fun L=>hC1.old CoE.m ((oV2.trans oL2).app L)
  have hC2':∀ L,Cos (Y++L) (.slice a2 (ansE d i j).comps.length x2) (ansE d i j).comps:=fun L=>hC2.old CoE.m (Old.app' Y L)
  have hd':∀ L,Cos (Y++L) (.slice ca d.comps.length ce) d.comps:=fun L=>h.old CoE.m ((((oHJ.trans oL).trans oV2).trans oL2).app L)
  simp only[go_sem,Nat.reduceEqDiff,Nat.reduceAdd,Nat.reduceSub,Nat.reduceMul,Nat.reduceLT,Nat.reduceLeDiff,Int.reducePow,Int.reduceBEq,Int.reduceBNe,Int.reduceDiv,Int.reduceMod,Int.reduceEq,Int.reduceLT,Int.reduceLE,Int.reduceAdd,Int.reduceSub,Int.reduceMul,Int.reduceNeg,Int.reduceToNat,Int.reduceTDiv,Int.reduceTMod,↓reduceIte,t2,t5,t7,kdY,kdY0,nt (rfl:mayE d i j=mayE d i j),bne_self_eq_false,old_get gY0]
  refine(may_ d _ i j _ (hd' _) hz).x ?_
  simp only[go_sem,Nat.reduceEqDiff,Nat.reduceAdd,Nat.reduceSub,Nat.reduceMul,Nat.reduceLT,Nat.reduceLeDiff,Int.reducePow,Int.reduceBEq,Int.reduceBNe,Int.reduceDiv,Int.reduceMod,Int.reduceEq,Int.reduceLT,Int.reduceLE,Int.reduceAdd,Int.reduceSub,Int.reduceMul,Int.reduceNeg,Int.reduceToNat,Int.reduceTDiv,Int.reduceTMod,↓reduceIte,kdY,kdY0,nt (rfl:mayE d i j=mayE d i j),bne_self_eq_false,old_get gY2]
  refine(rdsame_ (ansE d i j) (ansE d i j) _ _ _ (hC1' _) (hC2' _)).x ?_
  rw[dcQ_refl]
  (refine sg (et t1 (et t2 (et t5 (et t6 (et t7 (et wj1 (et Bool.not_true (et kdY (et kdY0 (et kdV kdV0)))))))))) ?_;try exact⟨⟩)
  exact⟨r2',by omega,(((oJ.trans oL).trans oV2).trans oL2).app _,j+1,by omega,by omega,rfl⟩
 case neg=>
  have hg:(decide (i≥0)=true∧decide (i<(d.comps.length:Int))=false)∨decide (i≥0)=false:=by
   by_cases hc:i≥0
   ·exact .inl ⟨dt hc,df (by omega)⟩
   ·exact .inr (df hc)
  rcases hg with ⟨e3,e4⟩|e3
  all_goals
   first|(refine sg (et t1 (et t2 (et t5 (et g0 (et e1 (et e2 (et e3 e4))))))) ?_;try exact⟨⟩)|(refine sg (et t1 (et t2 (et t5 (et g0 (et e1 (et e2 e3)))))) ?_;try exact⟨⟩)
   refine keep (fun r2 T J D=>D=[]∧Old K J∧T 1=.bool raw∧T 2=ap H.length 0 0∧T 5=.int .i64 i∧∃ j:Int,j+(r2:Int)=(0:Int)+1∧-1≤j∧T 6=.int .i64 (0:Int)∧T 7=.int .i64 j) ((0:Nat)+2)
    ⟨rfl,Old.refl _,by(refine sg t1 ?_;try exact⟨⟩),by(refine sg t2 ?_;try exact⟨⟩),by(refine sg t5 ?_;try exact⟨⟩),-1,by omega,by omega,by(refine sg trivial ?_;try exact⟨⟩) <;> rfl,by(refine sg trivial ?_;try exact⟨⟩)⟩ ?_
   clear t1 t2 t5
   rintro r2 T2 J D ⟨rfl,oJ,t1,t2,t5,j,hjr,hj0,t6,t7⟩
   have oHJ:=oK.trans oJ
   have gJ0:=oJ _ _ g0
   have lJ:K.length≤J.length:=old_len oJ
   have kdJ:∀ n,decide (J.length+n<H.length)=false:=fun n=>df (by omega)
   have kdJ0:decide (J.length<H.length)=false:=df (by omega)
   by_cases hjn:j≤(0:Int)
   case neg=>
    (refine sg (et t1 (et t2 (et t5 (et t6 (et t7 (et (df hjn) wi1)))))) ?_;try exact⟨⟩)
    exact⟨r - 1,by omega,oHJ,by omega,gJ0,i+1,by omega,by omega,rfl⟩
   obtain⟨r2',rfl⟩:∃ r',r2=r'+1:=⟨r2 - 1,by omega⟩
   have wj1:IntKind.i64.wrap (j+1)=j+1:=by rw[wi (by omega) (by omega)]
   (refine sg (et t1 (et t2 (et t5 (et t6 (et t7 (et gJ0 (dt hjn))))))) ?_;try exact⟨⟩)
   refine(ans_ d _ i j J (h.old CoE.m oHJ) hz).x ?_
   rintro v H1 W1 ⟨rfl,⟨L,rfl⟩,a1,x1,rfl,hC1⟩
   have oL:Old J (J++L):=Old.app' _ _
   have lL:J.length≤(J++L).length:=old_len oL
   generalize J++L=V at *
   have gV0:=oL _ _ gJ0
   have kdV:∀ n,decide (V.length+n<H.length)=false:=fun n=>df (by omega)
   have kdV0:decide (V.length<H.length)=false:=df (by omega)
   (refine sg (et kdV kdV0) ?_;try exact⟨⟩)
   have oV2:Old V (V++[(⟨[.int .i64 (ansE d i j).in_,.int .i64 (ansE d i j).out,.slice a1 (ansE d i j).comps.length x1],0,true⟩:Blk)]):=Old.app' _ _
   have gV2:(V++[(⟨[.int .i64 (ansE d i j).in_,.int .i64 (ansE d i j).out,.slice a1 (ansE d i j).comps.length x1],0,true⟩:Blk)])[V.length]?=some ⟨[.int .i64 (ansE d i j).in_,.int .i64 (ansE d i j).out,.slice a1 (ansE d i j).comps.length x1],0,true⟩:=by rw[hget_app0];rfl
   have lV2:(V++[(⟨[.int .i64 (ansE d i j).in_,.int .i64 (ansE d i j).out,.slice a1 (ansE d i j).comps.length x1],0,true⟩:Blk)]).length=V.length+1:=by simp
   generalize V++[(⟨[.int .i64 (ansE d i j).in_,.int .i64 (ansE d i j).out,.slice a1 (ansE d i j).comps.length x1],0,true⟩:Blk)]=X at *
   have gX0:=oV2 _ _ gV0
   (refine sg (et t2 (et t5 (et t7 gX0))) ?_;try exact⟨⟩)
   refine(rans_ d _ i j X (h.old CoE.m ((oHJ.trans oL).trans oV2)) hz).x ?_
   rintro v H1 W1 ⟨rfl,⟨L2,rfl⟩,a2,x2,rfl,hC2⟩
   have oL2:Old X (X++L2):=Old.app' _ _
   have lL2:X.length≤(X++L2).length:=old_len oL2
   generalize X++L2=Y at *
   have gY0:=oL2 _ _ (oV2 _ _ gV0)
   have gY2:=oL2 _ _ gV2
   have kdY:∀ n,decide (Y.length+n<H.length)=false:=fun n=>df (by omega)
   have kdY0:decide (Y.length<H.length)=false:=df (by omega)
   have hC1':∀ L,Cos (Y++L) (.slice a1 (ansE d i j).comps.length x1) (ansE d i j).comps:=fun L=>hC1.old CoE.m ((oV2.trans oL2).app L)
   have hC2':∀ L,Cos (Y++L) (.slice a2 (ansE d i j).comps.length x2) (ansE d i j).comps:=fun L=>hC2.old CoE.m (Old.app' Y L)
   have hd':∀ L,Cos (Y++L) (.slice ca d.comps.length ce) d.comps:=fun L=>h.old CoE.m ((((oHJ.trans oL).trans oV2).trans oL2).app L)
   simp only[go_sem,Nat.reduceEqDiff,Nat.reduceAdd,Nat.reduceSub,Nat.reduceMul,Nat.reduceLT,Nat.reduceLeDiff,Int.reducePow,Int.reduceBEq,Int.reduceBNe,Int.reduceDiv,Int.reduceMod,Int.reduceEq,Int.reduceLT,Int.reduceLE,Int.reduceAdd,Int.reduceSub,Int.reduceMul,Int.reduceNeg,Int.reduceToNat,Int.reduceTDiv,Int.reduceTMod,↓reduceIte,t2,t5,t7,kdY,kdY0,nt (rfl:mayE d i j=mayE d i j),bne_self_eq_false,old_get gY0]
   refine(may_ d _ i j _ (hd' _) hz).x ?_
   simp only[go_sem,Nat.reduceEqDiff,Nat.reduceAdd,Nat.reduceSub,Nat.reduceMul,Nat.reduceLT,Nat.reduceLeDiff,Int.reducePow,Int.reduceBEq,Int.reduceBNe,Int.reduceDiv,Int.reduceMod,Int.reduceEq,Int.reduceLT,Int.reduceLE,Int.reduceAdd,Int.reduceSub,Int.reduceMul,Int.reduceNeg,Int.reduceToNat,Int.reduceTDiv,Int.reduceTMod,↓reduceIte,kdY,kdY0,nt (rfl:mayE d i j=mayE d i j),bne_self_eq_false,old_get gY2]
   refine(rdsame_ (ansE d i j) (ansE d i j) _ _ _ (hC1' _) (hC2' _)).x ?_
   rw[dcQ_refl]
   (refine sg (et t1 (et t2 (et t5 (et t6 (et t7 (et wj1 (et Bool.not_true (et kdY (et kdY0 (et kdV kdV0)))))))))) ?_;try exact⟨⟩)
   exact⟨r2',by omega,(((oJ.trans oL).trans oV2).trans oL2).app _,j+1,by omega,by omega,rfl⟩
end Go.Proofs.YthhbglkokpablaaGreat
