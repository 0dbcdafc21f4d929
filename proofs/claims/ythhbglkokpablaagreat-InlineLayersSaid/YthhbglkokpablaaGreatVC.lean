/- Merged texts: DocL DocM DocF DocG DocN DocO Frm DocP DocQ DocR DocS DocT DocU. -/
import Derived.Test.YthhbglkokpablaaGreatVB
/- Documents of a tape: the walk of the document. -/
namespace Go.Proofs.YthhbglkokpablaaGreat
open Go Go.RowKit E
attribute [local irreducible] XRun XOps XCode XCal XLoop XQ SemCall
set_option linter.unusedSimpArgs false
set_option linter.unusedVariables false
/-- The layers of a comp that a tape makes. -/
def LsB (c m:Int) (ls:List Ly):Prop:=∀ (i:Nat) l,ls[i]?=some l→∃ ah:Bool,LyB (i:Int) c m ah l∧(ah=false→¬ i=0∧∃ p,ls[i - 1]?=some p∧p.matte=0)
theorem LsB.nil (c m:Int):LsB c m []:=fun i l h=>by simp at h
theorem LsB.snoc {c m:Int} {ls:List Ly} (h:LsB c m ls) {l:Ly} {ah:Bool} (hl:LyB (ls.length:Int) c m ah l) (ha:ah=false→¬ ls.length=0∧∃ p,ls[ls.length - 1]?=some p∧p.matte=0):LsB c m (ls++[l]):=fun i x hx=>by
 by_cases hi:i<ls.length
 ·rw[List.getElem?_append_left hi] at hx
  obtain⟨a,h1,h2⟩:=h i x hx
  exact⟨a,h1,fun e=>⟨(h2 e).1,by rw[List.getElem?_append_left (by omega)];exact(h2 e).2⟩⟩
 ·have hi2:i=ls.length:=by have:=(List.getElem?_eq_some_iff.1 hx).1;simp at this;omega
  subst hi2
  rw[List.getElem?_append_right (by omega),Nat.sub_self] at hx
  simp at hx;subst hx
  exact⟨ah,hl,fun e=>⟨(ha e).1,by rw[List.getElem?_append_left (by have:=(ha e).1;omega)];exact(ha e).2⟩⟩
/-- The comps that a tape makes. -/
def CsB (m:Int) (cs:List (List Ly)):Prop:=∀ (i:Nat) ls,cs[i]?=some ls→LsB (i:Int) m ls∧1≤ls.length∧ls.length≤4
theorem CsB.nil (m:Int):CsB m []:=fun i l h=>by simp at h
theorem CsB.snoc {m:Int} {cs:List (List Ly)} (h:CsB m cs) {ls:List Ly} (hl:LsB (cs.length:Int) m ls) (h1:1≤ls.length) (h2:ls.length≤4):CsB m (cs++[ls]):=fun i x hx=>by
 by_cases hi:i<cs.length
 ·rw[List.getElem?_append_left hi] at hx;exact h i x hx
 ·have hi2:i=cs.length:=by have:=(List.getElem?_eq_some_iff.1 hx).1;simp at this;omega
  subst hi2
  rw[List.getElem?_append_right (by omega),Nat.sub_self] at hx
  simp at hx;subst hx
  exact⟨hl,h1,h2⟩
/-- A document that a tape makes. -/
structure DcB (d:Dc):Prop where
 t : -1≤d.in_∧d.in_<d.out∧d.out≤30
 cs:CsB (d.comps.length:Int) d.comps
 n:1≤d.comps.length∧d.comps.length≤3
theorem filt_nil {W:List Nat} {tb n:Nat} (h':SameW W [tb]) (hn:n≤tb):W.filter (fun b=>decide (b<n))=[]:=by
 rw[List.filter_eq_nil_iff]
 intro b hb
 have:=(h' b).1 hb
 simp at this
 simp;omega
set_option maxHeartbeats 8000000 in
theorem kdoc_ (H:AH) {t:Nat} {lv:Value} {ls:List Int} (h:Ints H t lv ls) :
  Cal Tryz.prog 9 [lv] H fun v H' W=>W=[]∧(∃ L,H'=H++L)∧∃ d cv,v=dcV d cv∧MkRow 1 CoE H.length H' cv d.comps∧DcB d:=by
 refine adds_of ?_
 have hcl:=h.cellsL
 refine XCal.of hm Tryz.func9 rfl (fun xs w=>Tryz.call9 xs w) Tryz.ntmps9 Tryz.results9 rfl ?_
 (refine sg hcl ?_;try exact⟨⟩)
 have hT0:TapeAt (H++[⟨[.int .i64 0,.int .i64 0,nl],0,true⟩,tblk lv 0 0]) (H.length+1) 0 lv ls:=newTape h [⟨[.int .i64 0,.int .i64 0,nl],0,true⟩] [] (H.length+1) rfl
 refine(next_ 4 (by omega) _ hT0).x ?_
 rintro v H1 W1 ⟨⟨x,a1⟩,⟨x0,x1,a0,a2⟩,rfl,rfl,rfl⟩
 have x0:0≤x:=x0
 have x1:x<4:=x1
 have kdt:decide (H.length+1<H.length)=false:=df (by omega)
 have w1:IntKind.i64.wrap (x - 1)=x - 1:=wi (by omega) (by omega)
 have hB:=TpS.refl hT0
 have hz:(H++[(⟨[.int .i64 0,.int .i64 0,nl],0,true⟩:Blk),tblk lv 0 0])[H.length]?=some ⟨[.int .i64 0,.int .i64 0,nl],0,true⟩:=by rw[hget_app0];rfl
 have hlB:(H++[(⟨[.int .i64 0,.int .i64 0,nl],0,true⟩:Blk),tblk lv 0 0]).length=H.length+2:=by simp
 generalize H++[(⟨[.int .i64 0,.int .i64 0,nl],0,true⟩:Blk),tblk lv 0 0]=B at *
 have hT:=hB.step (a:=a1) a0 a2
 have hl1:B.length=(B.set (H.length+1) (tblk lv 0 a1)).length:=by simp
 have hz:=(Olx.set0 (H.length+1) B (tblk lv 0 a1)) _ _ (by omega) hz
 generalize B.set (H.length+1) (tblk lv 0 a1)=K1 at *
 (refine sg (et kdt w1) ?_;try exact⟨⟩)
 refine drawnU [(0,4),(1,4),(2,4)] (by decide +kernel) ?_
 have w2:IntKind.i64.wrap (x - 1+1)=x:=by rw[wi (by omega) (by omega)];omega
 (refine sg w2 ?_;try exact⟨⟩)
 refine(next_ 20 (by omega) _ (hT.tape.app _)).x ?_
 rintro v H1 W1 ⟨⟨y,b1⟩,⟨y0,y1,b0,b2⟩,rfl,rfl,rfl⟩
 have y0:0≤y:=y0
 have y1:y<20:=y1
 rw[old_set (hT.tape.2).choose_spec.2.2]
 have hz:=(Olx.set0 (H.length+1) K1 (tblk lv 0 b1)) _ _ (by omega) hz
 have hT:=hT.step (a:=b1) b0 b2
 have hl2:K1.length=(K1.set (H.length+1) (tblk lv 0 b1)).length:=by simp
 generalize K1.set (H.length+1) (tblk lv 0 b1)=K2 at *
 have w3:IntKind.i64.wrap (x+y)=x+y:=wi (by omega) (by omega)
 have hK2:K2.length=H.length+2:=by omega
 have kd2:decide (K2.length<H.length)=false:=df (by omega)
 have kd1:decide (K1.length<H.length)=false:=df (by omega)
 have hneq:(H.length+1=K2.length)=False:=eq_false (by omega)
 (refine sg (et kdt (et w2 (et w3 (et hl2 (et kd2 hneq))))) ?_;try exact⟨⟩)
 have hT:=hT.app [⟨[.int .i64 (x - 1),.int .i64 (x+y),nl],0,true⟩]
 have hz:=old_get hz [⟨[.int .i64 (x - 1),.int .i64 (x+y),nl],0,true⟩]
 have hd:(K2++[(⟨[.int .i64 (x - 1),.int .i64 (x+y),nl],0,true⟩:Blk)])[H.length+2]?=some ⟨[.int .i64 (x - 1),.int .i64 (x+y),nl],0,true⟩:=by rw[← hK2,hget_app0];rfl
 generalize K2++[(⟨[.int .i64 (x - 1),.int .i64 (x+y),nl],0,true⟩:Blk)]=K3 at *
 refine(next_ 3 (by omega) _ hT.tape).x ?_
 rintro v H1 W1 ⟨⟨z,c1⟩,⟨z0,z1,c0,c2⟩,rfl,rfl,rfl⟩
 have z0:0≤z:=z0
 have z1:z<3:=z1
 have hz:=(Olx.set0 (H.length+1) K3 (tblk lv 0 c1)) _ _ (by omega) hz
 have hd:=(Olx.set0 (H.length+1) K3 (tblk lv 0 c1)) _ _ (by omega) hd
 have hT:=hT.step (a:=c1) c0 c2
 generalize K3.set (H.length+1) (tblk lv 0 c1)=K4 at *
 obtain⟨M,hM1,hM3,w5⟩:∃ n:Nat,1≤n∧n≤3∧IntKind.i64.wrap (1+z)=(n:Int):=⟨(1+z).toNat,by omega,by omega,by rw[wi (by omega) (by omega)];omega⟩
 (refine sg (et kdt w5) ?_;try exact⟨⟩)
 refine keep (fun r T K D=>D=[]∧∃ (i:Nat) (cs:List (List Ly)) (cv:Value),i+r=M∧cs.length=i∧CsB (M:Int) cs∧TpS B K (H.length+1) 0 lv ls∧K[H.length]?=some ⟨[.int .i64 0,.int .i64 0,nl],0,true⟩∧K[H.length+2]?=some ⟨[.int .i64 (x - 1),.int .i64 (x+y),cv],0,true⟩∧MkRow 1 CoE (H.length+3) K cv cs∧T 2=ap H.length 0 0∧T 3=ap (H.length+1) 0 0∧T 4=ap (H.length+2) 0 0∧T 5=.int .i64 (M:Int)∧T 6=.int .i64 (i:Int)) M
  ⟨by(refine sg (et kd1 kd2) ?_;try exact⟨⟩),0,[],nl,by omega,rfl,CsB.nil _,hT,hz,hd,.inl ⟨rfl,rfl⟩,by(refine sg trivial ?_;try exact⟨⟩),by(refine sg trivial ?_;try exact⟨⟩),by(refine sg (et hl2 hK2) ?_;try exact⟨⟩),by(refine sg trivial ?_;try exact⟨⟩),by(refine sg trivial ?_;try exact⟨⟩) <;> rfl⟩ ?_
 clear hT hz hd w1 w2 w3 w5
 rintro r T K D ⟨rfl,i,cs,cv,hir,hcl',hcs,hT,hz,hd,hM,t2,t3,t4,t5,t6⟩
 have hK3:=(List.getElem?_eq_some_iff.1 hd).1
 have kdd:decide (H.length+2<H.length)=false:=df (by omega)
 have kdz:decide (H.length<H.length)=false:=df (by omega)
 by_cases hi:i<M
 ·have wi1:IntKind.i64.wrap ((i:Int)+1)=((i+1:Nat):Int):=by rw[wi (by omega) (by omega)];rfl
  (refine sg (et t2 (et t3 (et t4 (et t5 (et t6 (dt (show (i:Int)<(M:Int) by omega))))))) ?_;try exact⟨⟩)
  refine(next_ 4 (by omega) _ (hT.tape.app _)).x ?_
  rintro v H1 W1 ⟨⟨u,d1⟩,⟨u0,u1,d0,d2⟩,rfl,rfl,rfl⟩
  have u0:0≤u:=u0
  have u1:u<4:=u1
  obtain⟨N,hN1,hN4,w6⟩:∃ n:Nat,1≤n∧n≤4∧IntKind.i64.wrap (1+u)=(n:Int):=⟨(1+u).toNat,by omega,by omega,by rw[wi (by omega) (by omega)];omega⟩
  have hTi:=((TpS.refl hT.tape).app [⟨[nl],0,true⟩]).step (a:=d1) d0 d2
  have hs:((K++[(⟨[nl],0,true⟩:Blk)]).set (H.length+1) (tblk lv 0 d1))[K.length]?=some ⟨[nl],0,true⟩:=by rw[List.getElem?_set_ne (by omega),hget_app0];rfl
  generalize (K++[(⟨[nl],0,true⟩:Blk)]).set (H.length+1) (tblk lv 0 d1)=K5 at *
  have kdK:decide (K.length<H.length)=false:=df (by omega)
  (refine sg (et t2 (et t3 (et t4 (et t5 (et t6 (et kdt w6)))))) ?_;try exact⟨⟩)
  refine keep (fun r2 T' K' D=>D=[]∧∃ (j:Nat) (l:List Ly) (vl:Value) (ah:Bool),j+r2=N∧l.length=j∧LsB (i:Int) (M:Int) l∧(ah=false→¬ j=0∧∃ p,l[j - 1]?=some p∧p.matte=0)∧TpS K K' (H.length+1) 0 lv ls∧K'[K.length]?=some ⟨[vl],0,true⟩∧MkRow 50 LyE (K.length+1) K' vl l∧T' 2=ap H.length 0 0∧T' 3=ap (H.length+1) 0 0∧T' 4=ap (H.length+2) 0 0∧T' 5=.int .i64 (M:Int)∧T' 6=.int .i64 (i:Int)∧T' 7=ap K.length 0 0∧T' 8=.int .i64 (N:Int)∧T' 9=.bool ah∧T' 10=.int .i64 (j:Int)) N
   ⟨rfl,0,[],nl,true,by omega,rfl,LsB.nil _ _,(fun h=>by cases h),hTi,hs,.inl ⟨rfl,rfl⟩,by(refine sg t2 ?_;try exact⟨⟩),by(refine sg t3 ?_;try exact⟨⟩),by(refine sg t4 ?_;try exact⟨⟩),by(refine sg t5 ?_;try exact⟨⟩),by(refine sg t6 ?_;try exact⟨⟩),by(refine sg trivial ?_;try exact⟨⟩),by(refine sg trivial ?_;try exact⟨⟩),by(refine sg trivial ?_;try exact⟨⟩),by(refine sg trivial ?_;try exact⟨⟩) <;> rfl⟩ ?_
  clear hTi hs w6
  rintro r2 T' K' D ⟨rfl,j,l,vl,ah,hjr,hll,hlB,hah,hTi,hs,hMl,s2,s3,s4,s5,s6,s7,s8,s9,s10⟩
  by_cases hj:j<N
  ·have wj1:IntKind.i64.wrap ((j:Int)+1)=((j+1:Nat):Int):=by rw[wi (by omega) (by omega)];rfl
   (refine sg (et s2 (et s3 (et s4 (et s5 (et s6 (et s7 (et s8 (et s9 (et s10 (dt (show (j:Int)<(N:Int) by omega))))))))))) ?_;try exact⟨⟩)
   refine(klayer_ (j:Int) (N:Int) (i:Int) (M:Int) ah (by omega) (by omega) (by omega) (by omega) (by omega) _ hTi.tape).x ?_
   rintro v V1 W1 ⟨hW,hT1,y1,xs,rfl,hr,hB1⟩
   have hfil:=filt_nil hW (show H.length≤H.length+1 by omega)
   have g7:=hT1.old _ _ (by omega) hs
   have hV:=hT1.len
   have hK':=hTi.len
   have kdv:∀ n,decide (V1.length+n<H.length)=false:=fun n=>df (by omega)
   have kdv0:decide (V1.length<H.length)=false:=df (by omega)
   have hsl:=(List.getElem?_eq_some_iff.1 hs).1
   have hT2:=hTi.trans hT1
   have hls':=hlB.snoc (l:=y1) (ah:=ah) (by rw[hll];exact hB1) (by rw[hll];exact hah)
   have hah':(y1.matte != 0)=false→¬ j+1=0∧∃ p,(l++[y1])[j+1 - 1]?=some p∧p.matte=0:=fun e=>⟨by omega,y1,by rw[Nat.add_sub_cancel,← hll];simp,by simpa using e⟩
   have hll':(l++[y1]).length=j+1:=by rw[List.length_append,hll];rfl
   have hr':Dep K'.length V1 (fun J=>LyE J (lvC y1 xs) y1):=hr.map fun _ r=>⟨_,_,_,_,_,_,_,_,_,_,_,_,_,_,_,_,_,_,rfl,r.1,r.2⟩
   rcases hMl with ⟨rfl,rfl⟩|⟨bo,go,ces,hbo,rfl,hkb,hces,hel⟩
   ·have hT3:=(hT2.app [⟨lvC y1 xs,0,true⟩,⟨lvC y1 xs,0,true⟩,⟨lvC y1 xs,0,true⟩]).bo (bo:=K.length) (Nat.le_refl _) (Olx.set0 K.length _ ⟨[sl (V1.length+2) 0 0 1 50],0,true⟩) (by simp)
    have hs3:((V1++[(⟨lvC y1 xs,0,true⟩:Blk),⟨lvC y1 xs,0,true⟩,⟨lvC y1 xs,0,true⟩]).set K.length ⟨[sl (V1.length+2) 0 0 1 50],0,true⟩)[K.length]?=some ⟨[sl (V1.length+2) 0 0 1 50],0,true⟩:=List.getElem?_set_self (by rw[List.length_append];omega)
    have hM3:MkRow 50 LyE (K.length+1) (V1++[⟨lvC y1 xs,0,true⟩,⟨lvC y1 xs,0,true⟩,⟨lvC y1 xs,0,true⟩]) (sl (V1.length+2) 0 0 1 50) [y1]:=
     MkRow.first (c:=lvC y1 xs) ((hr'.dex (b:=V1.length+2) (n0:=K.length+1) (by omega) (.inr (by omega))).olx (Olx.old (Old.app' V1 _))) rfl (by rw[hget_app];rfl) (by omega)
    have hM4:=hM3.olt (Olx.set0 K.length _ ⟨[sl (V1.length+2) 0 0 1 50],0,true⟩) (Nat.lt_succ_self _)
    (refine sg (et s2 (et s3 (et s4 (et s5 (et s6 (et s7 (et s8 (et s9 (et s10 (et g7 (et (old_get g7) (et hfil (et kdv (et kdv0 (et kdK wj1))))))))))))))) ?_;try exact⟨⟩)
    exact⟨r2 - 1,by omega,j+1,[y1],_,(y1.matte != 0),by omega,hll',hls',hah',hT3,hs3,hM4,rfl,rfl⟩
   ·have hkl:=(List.getElem?_eq_some_iff.1 hkb).1
    have hkv:=hT1.old _ _ (by omega) hkb
    have hel':∀ (i:Nat) (x:Ly),l[i]?=some x→∃ c,ces[i]?=some c∧c.length=50∧Dex (K.length+1) bo V1 (fun J=>LyE J c x):=fun i x hx=>by obtain⟨c,e1,e2,e3⟩:=hel i x hx;exact⟨c,e1,e2,e3.olt hT1.old (by omega)⟩
    have hfl:=flatten_len (RowOf.all hces hel)
    rw[hces] at hfl
    have db0:decide (bo<H.length)=false:=df (by omega)
    have hsm:(l.length+1)*608 - 140737488355328=0:=Nat.sub_eq_zero_of_le (Nat.le_trans (Nat.mul_le_mul_right 608 (show l.length+1≤11 by omega)) (by decide))
    have hsm2:l.length+1 - 140737488355328=0:=Nat.sub_eq_zero_of_le (Nat.le_trans (show l.length+1≤11 by omega) (by decide))
    have f1:∀ P L,(V1.set bo P++L)[K.length]?=V1[K.length]?:=fun P L=>by rw[old_get (by rw[List.getElem?_set_ne (by omega)];exact g7) L,g7]
    have hT3:=(hT2.bo (bo:=bo) (by omega) (Olx.set1 bo V1 [⟨lvC y1 xs,0,true⟩,⟨lvC y1 xs,0,true⟩] ⟨ces.flatten++lvC y1 xs,go+1,true⟩) (by simp)).bo (bo:=K.length) (Nat.le_refl _) (Olx.set0 K.length _ ⟨[sl bo 0 (go+1) (l.length+1) 50],0,true⟩) (by simp)
    have hs3:((V1.set bo ⟨ces.flatten++lvC y1 xs,go+1,true⟩++[(⟨lvC y1 xs,0,true⟩:Blk),⟨lvC y1 xs,0,true⟩]).set K.length ⟨[sl bo 0 (go+1) (l.length+1) 50],0,true⟩)[K.length]?=some ⟨[sl bo 0 (go+1) (l.length+1) 50],0,true⟩:=List.getElem?_set_self (by rw[List.length_append,List.length_set];omega)
    have hM3:=MkRow.next (E:=LyE) (n0:=K.length+1) (K:=V1) (J:=V1.set bo ⟨ces.flatten++lvC y1 xs,go+1,true⟩++[⟨lvC y1 xs,0,true⟩,⟨lvC y1 xs,0,true⟩]) (g':=go+1) hbo hces hel' (Olx.set1 _ _ _ _) ((hr'.dex (b:=bo) (n0:=K.length+1) (by omega) (.inl hkl)).olx (Olx.set1 _ _ _ _)) rfl (old_sget hkv _ _)
    have hM4:=hM3.olt (Olx.set0 K.length _ ⟨[sl bo 0 (go+1) (l.length+1) 50],0,true⟩) (Nat.lt_succ_self _)
    (refine sg (et s2 (et s3 (et s4 (et s5 (et s6 (et s7 (et s8 (et s9 (et s10 (et f1 (et g7 (et (old_get g7) (et (old_get hkv) (et (old_set hkv) (et hfl (et hsm (et hsm2 (et db0 (et hfil (et kdv (et kdv0 (et kdK wj1)))))))))))))))))))))) ?_;try exact⟨⟩)
    exact⟨r2 - 1,by omega,j+1,l++[y1],_,(y1.matte != 0),by omega,hll',hls',hah',hT3,hs3,hM4,rfl,rfl⟩
  ·have hjN:j=N:=by omega
   have hTB:=hT.trans hTi
   have hK':=hTi.len
   have hsl:=(List.getElem?_eq_some_iff.1 hs).1
   have g2:=hTi.old _ _ (by omega) hd
   have gz:=hTi.old _ _ (by omega) hz
   have hcs':=hcs.snoc (ls:=l) (by rw[hcl'];exact hlB) (by omega) (by omega)
   have hcl2:(cs++[l]).length=i+1:=by rw[List.length_append,hcl'];rfl
   have kdv:∀ n,decide (K'.length+n<H.length)=false:=fun n=>df (by omega)
   have kdv0:decide (K'.length<H.length)=false:=df (by omega)
   have hD:=hMl.dep (by omega)
   obtain⟨va,ve,rfl⟩:=hMl.form
   have hr':Dep (K.length+1) K' (fun J=>CoE J [.slice va l.length ve] l):=hD.map fun _ r=>⟨_,rfl,r⟩
   rcases hM with ⟨rfl,rfl⟩|⟨bo,go,ces,hbo,rfl,hkb,hces,hel⟩
   ·have hT3:=(hTB.app [⟨[.slice va l.length ve],0,true⟩,⟨[.slice va l.length ve],0,true⟩]).bo (bo:=H.length+2) (by omega) (Olx.set0 (H.length+2) _ ⟨[.int .i64 (x - 1),.int .i64 (x+y),sl (K'.length+1) 0 0 1 1],0,true⟩) (by simp)
    have hd3:((K'++[(⟨[.slice va l.length ve],0,true⟩:Blk),⟨[.slice va l.length ve],0,true⟩]).set (H.length+2) ⟨[.int .i64 (x - 1),.int .i64 (x+y),sl (K'.length+1) 0 0 1 1],0,true⟩)[H.length+2]?=some ⟨[.int .i64 (x - 1),.int .i64 (x+y),sl (K'.length+1) 0 0 1 1],0,true⟩:=List.getElem?_set_self (by rw[List.length_append];omega)
    have hz3:((K'++[(⟨[.slice va l.length ve],0,true⟩:Blk),⟨[.slice va l.length ve],0,true⟩]).set (H.length+2) ⟨[.int .i64 (x - 1),.int .i64 (x+y),sl (K'.length+1) 0 0 1 1],0,true⟩)[H.length]?=some ⟨[.int .i64 0,.int .i64 0,nl],0,true⟩:=by rw[List.getElem?_set_ne (by omega)];exact old_get gz _
    have hM3:MkRow 1 CoE (H.length+3) (K'++[⟨[.slice va l.length ve],0,true⟩,⟨[.slice va l.length ve],0,true⟩]) (sl (K'.length+1) 0 0 1 1) [l]:=
     MkRow.first (c:=[.slice va l.length ve]) ((hr'.dex (b:=K'.length+1) (n0:=H.length+3) (by omega) (.inr (by omega))).olx (Olx.old (Old.app' K' _))) rfl (by rw[hget_app];rfl) (by omega)
    have hM4:=hM3.olt (Olx.set0 (H.length+2) _ ⟨[.int .i64 (x - 1),.int .i64 (x+y),sl (K'.length+1) 0 0 1 1],0,true⟩) (Nat.lt_succ_self _)
    (refine sg (et s2 (et s3 (et s4 (et s5 (et s6 (et s7 (et s8 (et s9 (et s10 (et (df (show ¬ (j:Int)<(N:Int) by omega)) (et hs (et (old_get hs) (et g2 (et (old_get g2) (et kdv (et kdv0 (et kdd (et kdK wi1)))))))))))))))))) ?_;try exact⟨⟩)
    exact⟨r - 1,by omega,i+1,[l],_,by omega,hcl2,hcs',hT3,hz3,hd3,hM4,rfl⟩
   ·have hkl:=(List.getElem?_eq_some_iff.1 hkb).1
    have hkv:=hTi.old _ _ (by omega) hkb
    have hel':∀ (i:Nat) (x:List Ly),cs[i]?=some x→∃ c,ces[i]?=some c∧c.length=1∧Dex (H.length+3) bo K' (fun J=>CoE J c x):=fun i x hx=>by obtain⟨c,e1,e2,e3⟩:=hel i x hx;exact⟨c,e1,e2,e3.olt hTi.old (by omega)⟩
    have hfl:=flatten_len (RowOf.all hces hel)
    rw[hces] at hfl
    have db0:decide (bo<H.length)=false:=df (by omega)
    have hsm:(cs.length+1)*24 - 140737488355328=0:=Nat.sub_eq_zero_of_le (Nat.le_trans (Nat.mul_le_mul_right 24 (show cs.length+1≤11 by omega)) (by decide))
    have hsm2:cs.length+1 - 140737488355328=0:=Nat.sub_eq_zero_of_le (Nat.le_trans (show cs.length+1≤11 by omega) (by decide))
    have f1:∀ P L,(K'.set bo P++L)[H.length+2]?=K'[H.length+2]?:=fun P L=>by rw[old_get (by rw[List.getElem?_set_ne (by omega)];exact g2) L,g2]
    have hT3:=(hTB.bo (bo:=bo) (by omega) (Olx.set1 bo K' [⟨[.slice va l.length ve],0,true⟩] ⟨ces.flatten++[.slice va l.length ve],go+1,true⟩) (by simp)).bo (bo:=H.length+2) (by omega) (Olx.set0 (H.length+2) _ ⟨[.int .i64 (x - 1),.int .i64 (x+y),sl bo 0 (go+1) (cs.length+1) 1],0,true⟩) (by simp)
    have hd3:((K'.set bo ⟨ces.flatten++[.slice va l.length ve],go+1,true⟩++[(⟨[.slice va l.length ve],0,true⟩:Blk)]).set (H.length+2) ⟨[.int .i64 (x - 1),.int .i64 (x+y),sl bo 0 (go+1) (cs.length+1) 1],0,true⟩)[H.length+2]?=some ⟨[.int .i64 (x - 1),.int .i64 (x+y),sl bo 0 (go+1) (cs.length+1) 1],0,true⟩:=List.getElem?_set_self (by rw[List.length_append,List.length_set];omega)
    have hz3:((K'.set bo ⟨ces.flatten++[.slice va l.length ve],go+1,true⟩++[(⟨[.slice va l.length ve],0,true⟩:Blk)]).set (H.length+2) ⟨[.int .i64 (x - 1),.int .i64 (x+y),sl bo 0 (go+1) (cs.length+1) 1],0,true⟩)[H.length]?=some ⟨[.int .i64 0,.int .i64 0,nl],0,true⟩:=by rw[List.getElem?_set_ne (by omega)];exact old_get (by rw[List.getElem?_set_ne (by omega)];exact gz) _
    have hM3:=MkRow.next (E:=CoE) (n0:=H.length+3) (K:=K') (J:=K'.set bo ⟨ces.flatten++[.slice va l.length ve],go+1,true⟩++[⟨[.slice va l.length ve],0,true⟩]) (g':=go+1) hbo hces hel' (Olx.set1 _ _ _ _) ((hr'.dex (b:=bo) (n0:=H.length+3) (by omega) (.inl (by omega))).olx (Olx.set1 _ _ _ _)) rfl (old_sget hkv _ _)
    have hM4:=hM3.olt (Olx.set0 (H.length+2) _ ⟨[.int .i64 (x - 1),.int .i64 (x+y),sl bo 0 (go+1) (cs.length+1) 1],0,true⟩) (Nat.lt_succ_self _)
    (refine sg (et s2 (et s3 (et s4 (et s5 (et s6 (et s7 (et s8 (et s9 (et s10 (et (df (show ¬ (j:Int)<(N:Int) by omega)) (et hs (et (old_get hs) (et f1 (et g2 (et (old_get g2) (et (old_get hkv) (et (old_set hkv) (et hfl (et hsm (et hsm2 (et db0 (et kdv (et kdv0 (et kdd (et kdK wi1))))))))))))))))))))))))) ?_;try exact⟨⟩)
    exact⟨r - 1,by omega,i+1,cs++[l],_,by omega,hcl2,hcs',hT3,hz3,hd3,hM4,rfl⟩
 ·have hiM:i=M:=by omega
  have g9:∀ X,(K.set H.length X)[H.length]?=some X:=fun X=>List.getElem?_set_self (by omega)
  have hM':=fun X=>hM.olt (Olx.set0 H.length K X) (by omega)
  (refine sg (et t2 (et t3 (et t4 (et t5 (et t6 (et (df (show ¬ (i:Int)<(M:Int) by omega)) (et hd (et hz (et g9 kdz))))))))) ?_;try exact⟨⟩)
  exact⟨⟨x - 1,x+y,cs⟩,cv,rfl,(hM' _).low (by omega),⟨⟨by show -1≤x - 1;omega,by show x - 1<x+y;omega,by show x+y≤30;omega⟩,by show CsB (cs.length:Int) cs;rw[hcl',hiM];exact hcs,by show 1≤cs.length;omega,by show cs.length≤3;omega⟩⟩
end Go.Proofs.YthhbglkokpablaaGreat
/- Documents of a tape are right: the plain law. -/
namespace Go.Proofs.YthhbglkokpablaaGreat
open Go Go.RowKit E
set_option linter.unusedSimpArgs false
set_option linter.unusedVariables false
theorem lys_zero {cs:List (List Ly)} {n:Nat} {c:List Ly} (h:∀ (i:Nat) l,c[i]?=some l→layerB l=true∧treeB cs n i c l=true):∀ (m k:Nat),k+m=c.length→lysE cs n c k (c.drop k)=0
 | 0,k,hk=>by rw[List.drop_eq_nil_of_le (by omega)];rfl
 | m+1,k,hk=>by
  obtain⟨l,hl⟩:∃ l,c[k]?=some l:=⟨_,List.getElem?_eq_getElem (by omega)⟩
  have:=h k l hl
  rw[drop_at hl,lysE,this.1,this.2,if_neg (by decide),if_neg (by decide)]
  exact lys_zero h m (k+1) (by omega)
def nb:Nat→Int
 | 0=>0
 | n+1=>4*(2+nb n)
end Go.Proofs.YthhbglkokpablaaGreat
/- Documents: the plain law on parents that lead on without end. -/
namespace Go.Proofs.YthhbglkokpablaaGreat
open Go Go.RowKit E
set_option linter.unusedSimpArgs false
set_option linter.unusedVariables false
def lyDs (ps:List Int):List Ly:=ps.map fun p=>lyD p 1
end Go.Proofs.YthhbglkokpablaaGreat
/- Documents: the walk of the law on parents. -/
namespace Go.Proofs.YthhbglkokpablaaGreat
open Go Go.RowKit E
attribute [local irreducible] XRun XOps XCode XCal XLoop XQ SemCall
set_option linter.unusedSimpArgs false
set_option linter.unusedVariables false
abbrev ns:Value:=.slice none 0 0
abbrev lyDC (p o:Int):List Value:=lyVs (lyD p o) ns ns ns ns ns ns ns ns ns ns ns ns ns ns ns ns ns ns
end Go.Proofs.YthhbglkokpablaaGreat
/- Documents: the walk of DocMade. -/
namespace Go.Proofs.YthhbglkokpablaaGreat
open Go Go.RowKit E
attribute [local irreducible] XRun XOps XCode XCal XLoop XQ SemCall
set_option linter.unusedSimpArgs false
set_option linter.unusedVariables false
end Go.Proofs.YthhbglkokpablaaGreat
/- Rows that hang on new blocks alone lie in new blocks. -/
namespace Go.Proofs.YthhbglkokpablaaGreat
open Go Go.RowKit E
set_option linter.unusedSimpArgs false
set_option linter.unusedVariables false
theorem flat_inj {s:Nat}:∀ {cs ds:List (List Value)} {r q:List Value},cs.length=ds.length→(∀ c∈cs,c.length=s)→(∀ c∈ds,c.length=s)→cs.flatten++r=ds.flatten++q→cs=ds
 | [],[],r,q,_,_,_,_=>rfl
 | c::cs,d::ds,r,q,hl,hc,hd,he=>by
  rw[List.flatten_cons,List.flatten_cons,List.append_assoc,List.append_assoc] at he
  have h1:=List.append_inj he (by rw[hc c (by simp),hd d (by simp)])
  rw[h1.1,flat_inj (by simpa using hl) (fun x hx=>hc x (by simp[hx])) (fun x hx=>hd x (by simp[hx])) h1.2]
 | [],d::ds,r,q,hl,_,_,_=>by simp at hl
 | c::cs,[],r,q,hl,_,_,_=>by simp at hl
theorem sl_inj {b b' g g' len len' e e':Nat} (h:sl b 0 g len e=sl b' 0 g' len' e'):b=b'∧g=g':=by
 injection h with h1 h2 h3
 injection h1 with h1
 injection h1 with h1 h4 h5
 injection h5 with h5
 exact⟨h1,h5⟩
/-- A row in blocks from n on, or none. -/
def HiRow {α:Type} (s:Nat) (E:AH→List Value→α→Prop) (n:Nat) (K:AH) (v:Value) (l:List α):Prop:=
 (l=[]∧((∃ e,v=.slice (some ⟨0,0,none⟩) 0 e)∨v=.slice none 0 0)) ∨
 ∃ b g rest rw_,∃ cs:List (List Value),n≤b∧v=sl b 0 g l.length s∧K[b]?=some ⟨cs.flatten++rest,g,rw_⟩∧cs.length=l.length∧l.length≤9223372036854775807 ∧
  ∀ (i:Nat) x,l[i]?=some x→∃ c,cs[i]?=some c∧c.length=s∧Dep n K (fun J=>E J c x)
theorem RowOf.high {α:Type} {s:Nat} {E:AH→List Value→α→Prop} {n:Nat} {K:AH} {v:Value} {l:List α} (h:Dep n K (fun J=>RowOf s E J v l)):HiRow s E n K v l:=by
 rcases h.here with h0|⟨b,g,rest,rw_,cs,h1,h2,h3,h4,h5⟩
 ·exact .inl h0
 ·have hb:n≤b:=by
   rcases Nat.lt_or_ge b n with hb|hb
   ·have hl:=(List.getElem?_eq_some_iff.1 h2).1
    have hJ:=h (K.set b ⟨[],g+1,false⟩) (fun c k hc e=>by rw[List.getElem?_set_ne (by omega)];exact e)
    rcases hJ with ⟨_,⟨e,h6⟩|h6⟩|⟨b',g',r',w',cs',h6,h7,_⟩
    ·rw[h1] at h6;cases h6
    ·rw[h1] at h6;cases h6
    ·rw[h1] at h6
     obtain⟨rfl,rfl⟩:=sl_inj h6
     rw[List.getElem?_set_self hl] at h7
     simp at h7
   ·exact hb
  refine .inr ⟨b,g,rest,rw_,cs,hb,h1,h2,h3,h4,fun i x hx=>?_⟩
  obtain⟨c,e1,e2,_⟩:=h5 i x hx
  refine⟨c,e1,e2,fun J hJ=>?_⟩
  rcases h J hJ with ⟨h6,_⟩|⟨b',g',r',w',cs',h6,h7,h8,_,h9⟩
  ·rw[h6] at hx;simp at hx
  ·rw[h1] at h6
   obtain⟨rfl,rfl⟩:=sl_inj h6
   rw[hJ _ _ hb h2] at h7
   have h10:cs.flatten++rest=cs'.flatten++r':=by injection h7 with h7;injection h7
   have h11:=flat_inj (by rw[h3,h8]) (RowOf.all h3 h5) (RowOf.all h8 h9) h10
   subst h11
   obtain⟨c',f1,_,f3⟩:=h9 i x hx
   rw[e1] at f1
   cases f1
   exact f3
end Go.Proofs.YthhbglkokpablaaGreat
/- A call in a bigger heap: what lies beside is no matter. -/
namespace Go.Proofs.YthhbglkokpablaaGreat.E
open Go Go.RowKit
set_option linter.unusedSimpArgs false
set_option linter.unusedVariables false
/-- A value whose blocks are renumbered. -/
def mapV (φ:Nat→Nat):Value→Value
 | .pointer (some ⟨b,off,some g⟩)=>.pointer (some ⟨φ b,off,some g⟩)
 | .slice (some ⟨b,off,some g⟩) len e=>.slice (some ⟨φ b,off,some g⟩) len e
 | .func f xs zs=>.func f (xs.attach.map fun x=>mapV φ x.1) (zs.attach.map fun x=>mapV φ x.1)
 | .agg xs=>.agg (xs.attach.map fun x=>mapV φ x.1)
 | .tuple xs=>.tuple (xs.attach.map fun x=>mapV φ x.1)
 | v=>v
termination_by v=>SizeOf.sizeOf v
decreasing_by all_goals (have:=Array.sizeOf_lt_of_mem x.2;simp;omega)
theorem mapV_one (φ:Nat→Nat) (v:Value):one (mapV φ v)=one v:=by
 unfold mapV;split <;> rfl
theorem VR.map {φ:Nat→Nat} {M M':Mp} (h:∀ b g x,M b g=some x→M' (φ b) g=some x) {v v':Value} (r:VR M v v'):VR M' (mapV φ v) v':=by
 induction r with
 | bool b=>unfold mapV;exact .bool b
 | int k n=>unfold mapV;exact .int k n
 | str s=>unfold mapV;exact .str s
 | nilp=>unfold mapV;exact .nilp
 | ptr e=>unfold mapV;exact .ptr (h _ _ _ e)
 | nils=>unfold mapV;exact .nils
 | zs=>unfold mapV;exact .zs
 | ze e=>unfold mapV;exact .ze (h _ _ _ e)
 | sl e a b=>unfold mapV;exact .sl (h _ _ _ e) a b
 | nilf=>unfold mapV;exact .nilf
 | nili=>unfold mapV;exact .nili
 | fn a _ b _ ih ih'=>
  unfold mapV
  exact .fn (by simpa using a) (fun i h1 h2=>by simpa using ih i (by simpa using h1) h2) (by simpa using b) (fun i h1 h2=>by simpa using ih' i (by simpa using h1) h2)
 | agg a o _ ih=>
  unfold mapV
  exact .agg (by simpa using a) (fun i h1=>by simpa [mapV_one] using o i (by simpa using h1)) (fun i h1 h2=>by simpa using ih i (by simpa using h1) h2)
 | tup a _ ih=>
  unfold mapV
  exact .tup (by simpa using a) (fun i h1 h2=>by simpa using ih i (by simpa using h1) h2)
/-- A map of blocks, of these alone. -/
def onlyM (S:Nat→Bool) (M:Mp):Mp:=fun b g=>if S b then M b g else none
/-- A value that leads to these blocks alone. -/
def Leads (S:Nat→Bool) (v:Value):Prop:=∀ (M:Mp) (v':Value),VR M v v'→VR (onlyM S M) v v'
def mapB (φ:Nat→Nat) (k:Blk):Blk:=⟨k.cells.map (mapV φ),k.gen,k.rw⟩
/-- Blocks from n on, moved by d. -/
def mov (n d b:Nat):Nat:=if b<n then b else b+d
theorem SemCall.frame {P:Program} {f:FuncId} {args:List Value} {H L G:AH} {v:Value} (S:Nat→Bool) (h:SemCall P f args H v (H++L) []) (hS:∀ b,S b=true→b<H.length)
  (ha:∀ a∈args,Leads S a) (hc:∀ b k,S b=true→H[b]?=some k→∀ c∈k.cells,Leads S c) (d:Nat) (hG:G.length=H.length+d)
  (hsub:∀ b k,S b=true→H[b]?=some k→∃ k',G[b]?=some k'∧k'.gen=k.gen∧k'.rw=k.rw∧∃ r,k'.cells=k.cells++r) :
  SemCall P f args G (mapV (mov H.length d) v) (G++L.map (mapB (mov H.length d))) []:=by
 refine⟨⟨h.1.1,by simp,fun b hb _=>List.getElem?_append_left hb⟩,fun N0 M w args' p hv=>?_⟩
 have hO:∀ {b g x},onlyM S M b g=some x→S b=true∧M b g=some x:=fun {b g x} e=>by
  unfold onlyM at e
  by_cases hb:S b=true
  ·rw[if_pos hb] at e;exact⟨hb,e⟩
  ·rw[if_neg hb] at e;cases e
 have p0:Pre N0 H none (onlyM S M) w:=by
  refine⟨fun e=>hS _ (hO e).1,⟨fun e=>p.hp.lt (hO e).2,fun e=>p.hp.own (hO e).2,fun e e'=>p.hp.inj (hO e).2 (hO e').2,fun e e'=>p.hp.hom (hO e).2 (hO e').2⟩,p.low,?_⟩
  intro b k _ hk ⟨g,x,hm⟩
  have hb:=(hO hm).1
  have hbl:=hS b hb
  obtain⟨k',hk',hg,hrw,r,hcells⟩:=hsub b k hb hk
  obtain⟨c,o,n,h1,h2,h3,h4⟩:=p.cont (b:=b) (k:=k') trivial hk' ⟨g,x,(hO hm).2⟩
  have e1:∀ g,onlyM S M b g=M b g:=fun g=>by unfold onlyM;rw[if_pos hb]
  rw[hg] at h1 h2
  refine⟨c,o,n,by rw[e1];exact h1,fun g hg=>by rw[e1];exact h2 g hg,fun i u hu=>?_,fun e=>h4 (by rw[hrw];exact e)⟩
  obtain⟨o1,v',h5,h6⟩:=h3 i u (by rw[hcells,List.getElem?_append_left (List.getElem?_eq_some_iff.1 hu).1];exact hu)
  exact⟨o1,v',h5,hc b k hb hk u (List.mem_of_getElem? hu) M v' h6⟩
 have hv0:VRs (onlyM S M) args args'.toList:=⟨hv.1,fun i a a' h1 h2=>ha a (List.mem_of_getElem? h1) M a' (hv.2 i a a' h1 h2)⟩
 refine(h.2 N0 (onlyM S M) w args' p0 hv0).mono (fun e w' ⟨v',M',he,hr,q⟩=>?_)
 have lo:∀ b g x,b<H.length→M' b g=some x→M b g=some x:=fun b g x hb e=>by
  rw[q.keep b g hb (by simp)] at e;exact(hO e).2
 have fr:∀ {b g c o n},H.length≤b→M' b g=some (c,o,n)→w.heap.size≤c:=fun {b g c o n} hb e=>by
  rcases q.fresh e with h|⟨g',h⟩
  ·exact h
  ·have:=hS _ (hO h).1;omega
 obtain⟨M2,hM2⟩:∃ M2:Mp,∀ b g,M2 b g=if b<G.length then M b g else M' (b - d) g:=⟨_,fun _ _=>rfl⟩
 have m1:∀ b g,b<G.length→M2 b g=M b g:=fun b g hb=>by rw[hM2,if_pos hb]
 have m2:∀ b g,¬ b<G.length→M2 b g=M' (b - d) g:=fun b g hb=>by rw[hM2,if_neg hb]
 have hφ:∀ b g x,M' b g=some x→M2 (mov H.length d b) g=some x:=fun b g x e=>by
  unfold mov
  by_cases hb:b<H.length
  ·rw[if_pos hb,m1 _ _ (by omega)];exact lo b g x hb e
  ·rw[if_neg hb,m2 _ _ (by omega),Nat.add_sub_cancel];exact e
 refine⟨v',M2,he,VR.map hφ hr,?_⟩
 exact {
  le:=by simp
  same:=fun b hb _=>List.getElem?_append_left hb
  ext:=fun b g x e=>by rw[m1 b g (p.dom e)];exact e
  keep:=fun b g hb _=>m1 b g hb
  dom:=fun {b g x} e=>by
   by_cases hb:b<G.length
   ·rw[List.length_append];omega
   ·rw[m2 _ _ hb] at e
    have:=q.dom e
    rw[List.length_append] at this
    rw[List.length_append,List.length_map];omega
  absent:=fun b hb hn g=>by rw[m1 b g hb];exact hn g
  fresh:=fun {b g c o n} e=>by
   by_cases hb:b<G.length
   ·rw[m1 _ _ hb] at e;exact .inr ⟨g,e⟩
   ·rw[m2 _ _ hb] at e;exact .inl (fr (by omega) e)
  frame:=fun c hc _=>q.frame c hc (fun b hb=>by cases hb)
  wown:=fun b hb=>by cases hb
  hp:=by
   have fz:∀ c,c<w.heap.size→w'.heap[c]?=w.heap[c]?:=fun c hc=>q.frame c hc (fun b hb=>by cases hb)
   refine⟨fun {b g c o n} e=>?_,fun {b g c o n} e hN=>?_,fun {b g c o n b' g' o' n'} e e' hN=>?_,fun {b g c o n g' c' o' n'} e e' hN=>?_⟩
   ·by_cases hb:b<G.length
    ·rw[m1 _ _ hb] at e;exact Nat.lt_of_lt_of_le (p.hp.lt e) q.size
    ·rw[m2 _ _ hb] at e;exact q.hp.lt e
   ·by_cases hb:b<G.length
    ·rw[m1 _ _ hb] at e
     have hl:=p.hp.lt e
     obtain⟨h1,h2⟩:=p.hp.own e hN
     have hf:=fz c hl
     exact⟨by rw[hf];exact h1,fun i hi=>by rw[frozen_keep hf];exact h2 i hi⟩
    ·rw[m2 _ _ hb] at e;exact q.hp.own e hN
   ·by_cases hb:b<G.length
    ·rw[m1 _ _ hb] at e
     by_cases hb':b'<G.length
     ·rw[m1 _ _ hb'] at e';exact p.hp.inj e e' hN
     ·rw[m2 _ _ hb'] at e'
      have:=fr (by omega) e'
      have:=p.hp.lt e
      omega
    ·rw[m2 _ _ hb] at e
     by_cases hb':b'<G.length
     ·rw[m1 _ _ hb'] at e'
      have:=fr (by omega) e
      have:=p.hp.lt e'
      omega
     ·rw[m2 _ _ hb'] at e'
      have:=q.hp.inj e e' hN
      omega
   ·by_cases hb:b<G.length
    ·rw[m1 _ _ hb] at e e';exact p.hp.hom e e' hN
    ·rw[m2 _ _ hb] at e e';exact q.hp.hom e e' hN
  cont:=fun {b k} hb hk ⟨g,x,hm⟩=>by
   have hb:G.length≤b:=hb.resolve_left (by simp)
   have hnb:¬ b<G.length:=by omega
   rw[List.getElem?_append_right hb,List.getElem?_map] at hk
   cases hk0:L[b - G.length]? with
   | none=>rw[hk0] at hk;cases hk
   | some k0=>
    rw[hk0] at hk
    simp at hk
    subst hk
    have hkk:(H++L)[b - d]?=some k0:=by
     rw[List.getElem?_append_right (by omega),show b - d - H.length=b - G.length by omega];exact hk0
    rw[m2 _ _ hnb] at hm
    obtain⟨c,o,n,h1,h2,h3,h4⟩:=q.cont (.inr (by omega)) hkk ⟨g,x,hm⟩
    refine⟨c,o,n,by rw[m2 _ _ hnb];exact h1,fun g hg=>by rw[m2 _ _ hnb];exact h2 g hg,fun i u hu=>?_,h4⟩
    have hu:(k0.cells.map (mapV (mov H.length d)))[i]?=some u:=hu
    rw[List.getElem?_map] at hu
    cases hu0:k0.cells[i]? with
    | none=>rw[hu0] at hu;cases hu
    | some u0=>
     rw[hu0] at hu
     simp at hu
     subst hu
     obtain⟨o1,v'',h5,h6⟩:=h3 i u0 hu0
     exact⟨by rw[mapV_one];exact o1,v'',h5,VR.map hφ h6⟩
  size:=q.size
  os:=q.os
  tape:=q.tape
  output:=q.output }
end Go.Proofs.YthhbglkokpablaaGreat.E
/- What lies in new blocks, in a bigger heap. -/
namespace Go.Proofs.YthhbglkokpablaaGreat
open Go Go.RowKit E
set_option linter.unusedSimpArgs false
set_option linter.unusedVariables false
/-- Blocks from n on, moved by d. -/
def Moved (n d:Nat) (K J:AH):Prop:=∀ (b:Nat) (k:Blk),n≤b→K[b]?=some k→J[b+d]?=some (mapB (mov n d) k)
def Shf {α:Type} (E:AH→List Value→α→Prop):Prop:=∀ (n d:Nat) (K J:AH) (c:List Value) (x:α),Moved n d K J→Dep n K (fun K=>E K c x)→Dep (n+d) J (fun J=>E J (c.map (mapV (mov n d))) x)
end Go.Proofs.YthhbglkokpablaaGreat
/- Two calls make the same document. -/
namespace Go.Proofs.YthhbglkokpablaaGreat
open Go Go.RowKit E
set_option linter.unusedSimpArgs false
set_option linter.unusedVariables false
end Go.Proofs.YthhbglkokpablaaGreat
/- Documents: the walk of slices.Clone. -/
namespace Go.Proofs.YthhbglkokpablaaGreat
open Go Go.RowKit E
attribute [local irreducible] XRun XOps XCode XCal XLoop XQ SemCall
set_option linter.unusedSimpArgs false
set_option linter.unusedVariables false
@[go_sem] theorem abin_slnil {P:Program} {t:TypeId} {a:Option Addr} {l e:Nat}:abin P .eql t (.slice a l e) (.slice none 0 0)=if tslc P t=true then some (.bool a.isNone) else none:=(rfl)
@[go_sem] theorem asrc_zs {H:AH} {s e:Nat}:asrc H s (.slice (some ⟨0,0,none⟩) 0 e)=some ([],0,[]):=(rfl)
/-- A row in a new block of its own. -/
def ClRow {α:Type} (s:Nat) (E:AH→List Value→α→Prop) (H H':AH) (v:Value) (l:List α):Prop:=
 (l=[]∧v=.slice none 0 0) ∨
 ∃ b g,∃ cs:List (List Value),H.length≤b∧v=sl b 0 g l.length s∧H'[b]?=some ⟨cs.flatten,g,true⟩∧cs.length=l.length ∧
  ∀ (i:Nat) x,l[i]?=some x→∃ c,cs[i]?=some c∧c.length=s∧E H c x
theorem clKy_ {α:Type} {E:AH→List Value→α→Prop} (l:List α) (v:Value) (hl:l.length≤1000) (H:AH) (h:RowOf 7 E H v l):Cal Tryz.prog 72 [v] H fun v' H' W=>W=[]∧(∃ L,H'=H++L)∧ClRow 7 E H H' v' l:=by
 refine adds_of ?_
 have hts:tslc Tryz.prog 31=true:=by kernel_rfl
 have kd:∀ n,decide (H.length+n<H.length)=false:=fun n=>df (by omega)
 have kd0:decide (H.length<H.length)=false:=df (by omega)
 rcases h with ⟨rfl,⟨e,rfl⟩|rfl⟩|⟨b,g,rest,rw_,cs,rfl,h2,h3,h4,h5⟩
 ·refine XCal.of hm Tryz.func72 rfl (fun xs w=>Tryz.call72 xs w) Tryz.ntmps72 Tryz.results72 rfl ?_
  simp only[go_sem,Nat.reduceEqDiff,Nat.reduceAdd,Nat.reduceSub,Nat.reduceMul,Nat.reduceLT,Nat.reduceLeDiff,Int.reducePow,Int.reduceBEq,Int.reduceBNe,Int.reduceDiv,Int.reduceMod,Int.reduceEq,Int.reduceLT,Int.reduceLE,Int.reduceAdd,Int.reduceSub,Int.reduceMul,Int.reduceNeg,Int.reduceToNat,Int.reduceTDiv,Int.reduceTMod,↓reduceIte,kd,kd0,hts,Option.isNone_some,Option.isNone_none]
  exact .inr ⟨H.length,0,[],Nat.le_refl _,rfl,by rw[hget_app0];rfl,rfl,fun i x hx=>by simp at hx⟩
 ·refine XCal.of hm Tryz.func72 rfl (fun xs w=>Tryz.call72 xs w) Tryz.ntmps72 Tryz.results72 rfl ?_
  simp only[go_sem,Nat.reduceEqDiff,Nat.reduceAdd,Nat.reduceSub,Nat.reduceMul,Nat.reduceLT,Nat.reduceLeDiff,Int.reducePow,Int.reduceBEq,Int.reduceBNe,Int.reduceDiv,Int.reduceMod,Int.reduceEq,Int.reduceLT,Int.reduceLE,Int.reduceAdd,Int.reduceSub,Int.reduceMul,Int.reduceNeg,Int.reduceToNat,Int.reduceTDiv,Int.reduceTMod,↓reduceIte,kd,kd0,hts,Option.isNone_some,Option.isNone_none]
  exact .inl ⟨rfl,rfl⟩
 ·have hfl:=flatten_len (RowOf.all h3 h5)
  rw[h3] at hfl
  by_cases hn:l.length=0
  ·rw[hn]
   have hc0:cs=[]:=List.eq_nil_of_length_eq_zero (by omega)
   refine XCal.of hm Tryz.func72 rfl (fun xs w=>Tryz.call72 xs w) Tryz.ntmps72 Tryz.results72 rfl ?_
   simp only[go_sem,Nat.reduceEqDiff,Nat.reduceAdd,Nat.reduceSub,Nat.reduceMul,Nat.reduceLT,Nat.reduceLeDiff,Int.reducePow,Int.reduceBEq,Int.reduceBNe,Int.reduceDiv,Int.reduceMod,Int.reduceEq,Int.reduceLT,Int.reduceLE,Int.reduceAdd,Int.reduceSub,Int.reduceMul,Int.reduceNeg,Int.reduceToNat,Int.reduceTDiv,Int.reduceTMod,↓reduceIte,kd,kd0,hts,Option.isNone_some,Option.isNone_none,old_get h2]
   exact .inr ⟨H.length,0,[],Nat.le_refl _,by rw[hn],by rw[hget_app0];rfl,by rw[hn];rfl,fun i x hx=>by have:=(List.getElem?_eq_some_iff.1 hx).1;omega⟩
  ·have zn:(l.length=0)=False:=eq_false hn
   have hz1:0+l.length*7 - (cs.flatten++rest).length=0:=by rw[List.length_append,hfl];omega
   have ht1:((cs.flatten++rest).drop 0).take (l.length*7)=cs.flatten:=by rw[List.drop_zero,← hfl,List.take_left]
   have ht2:(cs.flatten++rest).take (l.length*7)=cs.flatten:=by rw[← hfl,List.take_left]
   have hp1:(0+l.length)*56 - 140737488355328=0:=Nat.sub_eq_zero_of_le (Nat.le_trans (Nat.mul_le_mul_right 56 (show 0+l.length≤1000 by omega)) (by decide))
   have hp2:0+l.length - 140737488355328=0:=Nat.sub_eq_zero_of_le (Nat.le_trans (show 0+l.length≤1000 by omega) (by decide))
   have hp3:l.length*56 - 140737488355328=0:=by rw[Nat.zero_add] at hp1;exact hp1
   have hp4:l.length - 140737488355328=0:=by rw[Nat.zero_add] at hp2;exact hp2
   refine XCal.of hm Tryz.func72 rfl (fun xs w=>Tryz.call72 xs w) Tryz.ntmps72 Tryz.results72 rfl ?_
   simp only[go_sem,Nat.reduceEqDiff,Nat.reduceAdd,Nat.reduceSub,Nat.reduceMul,Nat.reduceLT,Nat.reduceLeDiff,Int.reducePow,Int.reduceBEq,Int.reduceBNe,Int.reduceDiv,Int.reduceMod,Int.reduceEq,Int.reduceLT,Int.reduceLE,Int.reduceAdd,Int.reduceSub,Int.reduceMul,Int.reduceNeg,Int.reduceToNat,Int.reduceTDiv,Int.reduceTMod,↓reduceIte,kd,kd0,hts,Option.isNone_some,Option.isNone_none,old_get h2]
   rw[asy_some zn hz1]
   (refine sg (et ht1 (et ht2 (et zn (et hp1 (et hp2 (et hp3 (et hp4 (et Nat.zero_add (et kd kd0))))))))) ?_;try exact⟨⟩)
   exact .inr ⟨H.length,1,cs,Nat.le_refl _,rfl,by rw[hget_app0];rfl,h3,h5⟩
theorem clPk_ {α:Type} {E:AH→List Value→α→Prop} (l:List α) (v:Value) (hl:l.length≤1000) (H:AH) (h:RowOf 8 E H v l):Cal Tryz.prog 74 [v] H fun v' H' W=>W=[]∧(∃ L,H'=H++L)∧ClRow 8 E H H' v' l:=by
 refine adds_of ?_
 have hts:tslc Tryz.prog 35=true:=by kernel_rfl
 have kd:∀ n,decide (H.length+n<H.length)=false:=fun n=>df (by omega)
 have kd0:decide (H.length<H.length)=false:=df (by omega)
 rcases h with ⟨rfl,⟨e,rfl⟩|rfl⟩|⟨b,g,rest,rw_,cs,rfl,h2,h3,h4,h5⟩
 ·refine XCal.of hm Tryz.func74 rfl (fun xs w=>Tryz.call74 xs w) Tryz.ntmps74 Tryz.results74 rfl ?_
  simp only[go_sem,Nat.reduceEqDiff,Nat.reduceAdd,Nat.reduceSub,Nat.reduceMul,Nat.reduceLT,Nat.reduceLeDiff,Int.reducePow,Int.reduceBEq,Int.reduceBNe,Int.reduceDiv,Int.reduceMod,Int.reduceEq,Int.reduceLT,Int.reduceLE,Int.reduceAdd,Int.reduceSub,Int.reduceMul,Int.reduceNeg,Int.reduceToNat,Int.reduceTDiv,Int.reduceTMod,↓reduceIte,kd,kd0,hts,Option.isNone_some,Option.isNone_none]
  exact .inr ⟨H.length,0,[],Nat.le_refl _,rfl,by rw[hget_app0];rfl,rfl,fun i x hx=>by simp at hx⟩
 ·refine XCal.of hm Tryz.func74 rfl (fun xs w=>Tryz.call74 xs w) Tryz.ntmps74 Tryz.results74 rfl ?_
  simp only[go_sem,Nat.reduceEqDiff,Nat.reduceAdd,Nat.reduceSub,Nat.reduceMul,Nat.reduceLT,Nat.reduceLeDiff,Int.reducePow,Int.reduceBEq,Int.reduceBNe,Int.reduceDiv,Int.reduceMod,Int.reduceEq,Int.reduceLT,Int.reduceLE,Int.reduceAdd,Int.reduceSub,Int.reduceMul,Int.reduceNeg,Int.reduceToNat,Int.reduceTDiv,Int.reduceTMod,↓reduceIte,kd,kd0,hts,Option.isNone_some,Option.isNone_none]
  exact .inl ⟨rfl,rfl⟩
 ·have hfl:=flatten_len (RowOf.all h3 h5)
  rw[h3] at hfl
  by_cases hn:l.length=0
  ·rw[hn]
   have hc0:cs=[]:=List.eq_nil_of_length_eq_zero (by omega)
   refine XCal.of hm Tryz.func74 rfl (fun xs w=>Tryz.call74 xs w) Tryz.ntmps74 Tryz.results74 rfl ?_
   simp only[go_sem,Nat.reduceEqDiff,Nat.reduceAdd,Nat.reduceSub,Nat.reduceMul,Nat.reduceLT,Nat.reduceLeDiff,Int.reducePow,Int.reduceBEq,Int.reduceBNe,Int.reduceDiv,Int.reduceMod,Int.reduceEq,Int.reduceLT,Int.reduceLE,Int.reduceAdd,Int.reduceSub,Int.reduceMul,Int.reduceNeg,Int.reduceToNat,Int.reduceTDiv,Int.reduceTMod,↓reduceIte,kd,kd0,hts,Option.isNone_some,Option.isNone_none,old_get h2]
   exact .inr ⟨H.length,0,[],Nat.le_refl _,by rw[hn],by rw[hget_app0];rfl,by rw[hn];rfl,fun i x hx=>by have:=(List.getElem?_eq_some_iff.1 hx).1;omega⟩
  ·have zn:(l.length=0)=False:=eq_false hn
   have hz1:0+l.length*8 - (cs.flatten++rest).length=0:=by rw[List.length_append,hfl];omega
   have ht1:((cs.flatten++rest).drop 0).take (l.length*8)=cs.flatten:=by rw[List.drop_zero,← hfl,List.take_left]
   have ht2:(cs.flatten++rest).take (l.length*8)=cs.flatten:=by rw[← hfl,List.take_left]
   have hp1:(0+l.length)*80 - 140737488355328=0:=Nat.sub_eq_zero_of_le (Nat.le_trans (Nat.mul_le_mul_right 80 (show 0+l.length≤1000 by omega)) (by decide))
   have hp2:0+l.length - 140737488355328=0:=Nat.sub_eq_zero_of_le (Nat.le_trans (show 0+l.length≤1000 by omega) (by decide))
   have hp3:l.length*80 - 140737488355328=0:=by rw[Nat.zero_add] at hp1;exact hp1
   have hp4:l.length - 140737488355328=0:=by rw[Nat.zero_add] at hp2;exact hp2
   refine XCal.of hm Tryz.func74 rfl (fun xs w=>Tryz.call74 xs w) Tryz.ntmps74 Tryz.results74 rfl ?_
   simp only[go_sem,Nat.reduceEqDiff,Nat.reduceAdd,Nat.reduceSub,Nat.reduceMul,Nat.reduceLT,Nat.reduceLeDiff,Int.reducePow,Int.reduceBEq,Int.reduceBNe,Int.reduceDiv,Int.reduceMod,Int.reduceEq,Int.reduceLT,Int.reduceLE,Int.reduceAdd,Int.reduceSub,Int.reduceMul,Int.reduceNeg,Int.reduceToNat,Int.reduceTDiv,Int.reduceTMod,↓reduceIte,kd,kd0,hts,Option.isNone_some,Option.isNone_none,old_get h2]
   rw[asy_some zn hz1]
   (refine sg (et ht1 (et ht2 (et zn (et hp1 (et hp2 (et hp3 (et hp4 (et Nat.zero_add (et kd kd0))))))))) ?_;try exact⟨⟩)
   exact .inr ⟨H.length,1,cs,Nat.le_refl _,rfl,by rw[hget_app0];rfl,h3,h5⟩
theorem clCk_ {α:Type} {E:AH→List Value→α→Prop} (l:List α) (v:Value) (hl:l.length≤1000) (H:AH) (h:RowOf 10 E H v l):Cal Tryz.prog 75 [v] H fun v' H' W=>W=[]∧(∃ L,H'=H++L)∧ClRow 10 E H H' v' l:=by
 refine adds_of ?_
 have hts:tslc Tryz.prog 42=true:=by kernel_rfl
 have kd:∀ n,decide (H.length+n<H.length)=false:=fun n=>df (by omega)
 have kd0:decide (H.length<H.length)=false:=df (by omega)
 rcases h with ⟨rfl,⟨e,rfl⟩|rfl⟩|⟨b,g,rest,rw_,cs,rfl,h2,h3,h4,h5⟩
 ·refine XCal.of hm Tryz.func75 rfl (fun xs w=>Tryz.call75 xs w) Tryz.ntmps75 Tryz.results75 rfl ?_
  simp only[go_sem,Nat.reduceEqDiff,Nat.reduceAdd,Nat.reduceSub,Nat.reduceMul,Nat.reduceLT,Nat.reduceLeDiff,Int.reducePow,Int.reduceBEq,Int.reduceBNe,Int.reduceDiv,Int.reduceMod,Int.reduceEq,Int.reduceLT,Int.reduceLE,Int.reduceAdd,Int.reduceSub,Int.reduceMul,Int.reduceNeg,Int.reduceToNat,Int.reduceTDiv,Int.reduceTMod,↓reduceIte,kd,kd0,hts,Option.isNone_some,Option.isNone_none]
  exact .inr ⟨H.length,0,[],Nat.le_refl _,rfl,by rw[hget_app0];rfl,rfl,fun i x hx=>by simp at hx⟩
 ·refine XCal.of hm Tryz.func75 rfl (fun xs w=>Tryz.call75 xs w) Tryz.ntmps75 Tryz.results75 rfl ?_
  simp only[go_sem,Nat.reduceEqDiff,Nat.reduceAdd,Nat.reduceSub,Nat.reduceMul,Nat.reduceLT,Nat.reduceLeDiff,Int.reducePow,Int.reduceBEq,Int.reduceBNe,Int.reduceDiv,Int.reduceMod,Int.reduceEq,Int.reduceLT,Int.reduceLE,Int.reduceAdd,Int.reduceSub,Int.reduceMul,Int.reduceNeg,Int.reduceToNat,Int.reduceTDiv,Int.reduceTMod,↓reduceIte,kd,kd0,hts,Option.isNone_some,Option.isNone_none]
  exact .inl ⟨rfl,rfl⟩
 ·have hfl:=flatten_len (RowOf.all h3 h5)
  rw[h3] at hfl
  by_cases hn:l.length=0
  ·rw[hn]
   have hc0:cs=[]:=List.eq_nil_of_length_eq_zero (by omega)
   refine XCal.of hm Tryz.func75 rfl (fun xs w=>Tryz.call75 xs w) Tryz.ntmps75 Tryz.results75 rfl ?_
   simp only[go_sem,Nat.reduceEqDiff,Nat.reduceAdd,Nat.reduceSub,Nat.reduceMul,Nat.reduceLT,Nat.reduceLeDiff,Int.reducePow,Int.reduceBEq,Int.reduceBNe,Int.reduceDiv,Int.reduceMod,Int.reduceEq,Int.reduceLT,Int.reduceLE,Int.reduceAdd,Int.reduceSub,Int.reduceMul,Int.reduceNeg,Int.reduceToNat,Int.reduceTDiv,Int.reduceTMod,↓reduceIte,kd,kd0,hts,Option.isNone_some,Option.isNone_none,old_get h2]
   exact .inr ⟨H.length,0,[],Nat.le_refl _,by rw[hn],by rw[hget_app0];rfl,by rw[hn];rfl,fun i x hx=>by have:=(List.getElem?_eq_some_iff.1 hx).1;omega⟩
  ·have zn:(l.length=0)=False:=eq_false hn
   have hz1:0+l.length*10 - (cs.flatten++rest).length=0:=by rw[List.length_append,hfl];omega
   have ht1:((cs.flatten++rest).drop 0).take (l.length*10)=cs.flatten:=by rw[List.drop_zero,← hfl,List.take_left]
   have ht2:(cs.flatten++rest).take (l.length*10)=cs.flatten:=by rw[← hfl,List.take_left]
   have hp1:(0+l.length)*56 - 140737488355328=0:=Nat.sub_eq_zero_of_le (Nat.le_trans (Nat.mul_le_mul_right 56 (show 0+l.length≤1000 by omega)) (by decide))
   have hp2:0+l.length - 140737488355328=0:=Nat.sub_eq_zero_of_le (Nat.le_trans (show 0+l.length≤1000 by omega) (by decide))
   have hp3:l.length*56 - 140737488355328=0:=by rw[Nat.zero_add] at hp1;exact hp1
   have hp4:l.length - 140737488355328=0:=by rw[Nat.zero_add] at hp2;exact hp2
   refine XCal.of hm Tryz.func75 rfl (fun xs w=>Tryz.call75 xs w) Tryz.ntmps75 Tryz.results75 rfl ?_
   simp only[go_sem,Nat.reduceEqDiff,Nat.reduceAdd,Nat.reduceSub,Nat.reduceMul,Nat.reduceLT,Nat.reduceLeDiff,Int.reducePow,Int.reduceBEq,Int.reduceBNe,Int.reduceDiv,Int.reduceMod,Int.reduceEq,Int.reduceLT,Int.reduceLE,Int.reduceAdd,Int.reduceSub,Int.reduceMul,Int.reduceNeg,Int.reduceToNat,Int.reduceTDiv,Int.reduceTMod,↓reduceIte,kd,kd0,hts,Option.isNone_some,Option.isNone_none,old_get h2]
   rw[asy_some zn hz1]
   (refine sg (et ht1 (et ht2 (et zn (et hp1 (et hp2 (et hp3 (et hp4 (et Nat.zero_add (et kd kd0))))))))) ?_;try exact⟨⟩)
   exact .inr ⟨H.length,1,cs,Nat.le_refl _,rfl,by rw[hget_app0];rfl,h3,h5⟩
theorem clIn_ {α:Type} {E:AH→List Value→α→Prop} (l:List α) (v:Value) (hl:l.length≤1000) (H:AH) (h:RowOf 1 E H v l):Cal Tryz.prog 76 [v] H fun v' H' W=>W=[]∧(∃ L,H'=H++L)∧ClRow 1 E H H' v' l:=by
 refine adds_of ?_
 have hts:tslc Tryz.prog 43=true:=by kernel_rfl
 have kd:∀ n,decide (H.length+n<H.length)=false:=fun n=>df (by omega)
 have kd0:decide (H.length<H.length)=false:=df (by omega)
 rcases h with ⟨rfl,⟨e,rfl⟩|rfl⟩|⟨b,g,rest,rw_,cs,rfl,h2,h3,h4,h5⟩
 ·refine XCal.of hm Tryz.func76 rfl (fun xs w=>Tryz.call76 xs w) Tryz.ntmps76 Tryz.results76 rfl ?_
  simp only[go_sem,Nat.reduceEqDiff,Nat.reduceAdd,Nat.reduceSub,Nat.reduceMul,Nat.reduceLT,Nat.reduceLeDiff,Int.reducePow,Int.reduceBEq,Int.reduceBNe,Int.reduceDiv,Int.reduceMod,Int.reduceEq,Int.reduceLT,Int.reduceLE,Int.reduceAdd,Int.reduceSub,Int.reduceMul,Int.reduceNeg,Int.reduceToNat,Int.reduceTDiv,Int.reduceTMod,↓reduceIte,kd,kd0,hts,Option.isNone_some,Option.isNone_none]
  exact .inr ⟨H.length,0,[],Nat.le_refl _,rfl,by rw[hget_app0];rfl,rfl,fun i x hx=>by simp at hx⟩
 ·refine XCal.of hm Tryz.func76 rfl (fun xs w=>Tryz.call76 xs w) Tryz.ntmps76 Tryz.results76 rfl ?_
  simp only[go_sem,Nat.reduceEqDiff,Nat.reduceAdd,Nat.reduceSub,Nat.reduceMul,Nat.reduceLT,Nat.reduceLeDiff,Int.reducePow,Int.reduceBEq,Int.reduceBNe,Int.reduceDiv,Int.reduceMod,Int.reduceEq,Int.reduceLT,Int.reduceLE,Int.reduceAdd,Int.reduceSub,Int.reduceMul,Int.reduceNeg,Int.reduceToNat,Int.reduceTDiv,Int.reduceTMod,↓reduceIte,kd,kd0,hts,Option.isNone_some,Option.isNone_none]
  exact .inl ⟨rfl,rfl⟩
 ·have hfl:=flatten_len (RowOf.all h3 h5)
  rw[h3] at hfl
  by_cases hn:l.length=0
  ·rw[hn]
   have hc0:cs=[]:=List.eq_nil_of_length_eq_zero (by omega)
   refine XCal.of hm Tryz.func76 rfl (fun xs w=>Tryz.call76 xs w) Tryz.ntmps76 Tryz.results76 rfl ?_
   simp only[go_sem,Nat.reduceEqDiff,Nat.reduceAdd,Nat.reduceSub,Nat.reduceMul,Nat.reduceLT,Nat.reduceLeDiff,Int.reducePow,Int.reduceBEq,Int.reduceBNe,Int.reduceDiv,Int.reduceMod,Int.reduceEq,Int.reduceLT,Int.reduceLE,Int.reduceAdd,Int.reduceSub,Int.reduceMul,Int.reduceNeg,Int.reduceToNat,Int.reduceTDiv,Int.reduceTMod,↓reduceIte,kd,kd0,hts,Option.isNone_some,Option.isNone_none,old_get h2]
   exact .inr ⟨H.length,0,[],Nat.le_refl _,by rw[hn],by rw[hget_app0];rfl,by rw[hn];rfl,fun i x hx=>by have:=(List.getElem?_eq_some_iff.1 hx).1;omega⟩
  ·have zn:(l.length=0)=False:=eq_false hn
   have hz1:0+l.length*1 - (cs.flatten++rest).length=0:=by rw[List.length_append,hfl];omega
   have ht1:((cs.flatten++rest).drop 0).take (l.length*1)=cs.flatten:=by rw[List.drop_zero,← hfl,List.take_left]
   have ht2:(cs.flatten++rest).take (l.length*1)=cs.flatten:=by rw[← hfl,List.take_left]
   have hp1:(0+l.length)*8 - 140737488355328=0:=Nat.sub_eq_zero_of_le (Nat.le_trans (Nat.mul_le_mul_right 8 (show 0+l.length≤1000 by omega)) (by decide))
   have hp2:0+l.length - 140737488355328=0:=Nat.sub_eq_zero_of_le (Nat.le_trans (show 0+l.length≤1000 by omega) (by decide))
   have hp3:l.length*8 - 140737488355328=0:=by rw[Nat.zero_add] at hp1;exact hp1
   have hp4:l.length - 140737488355328=0:=by rw[Nat.zero_add] at hp2;exact hp2
   refine XCal.of hm Tryz.func76 rfl (fun xs w=>Tryz.call76 xs w) Tryz.ntmps76 Tryz.results76 rfl ?_
   simp only[go_sem,Nat.reduceEqDiff,Nat.reduceAdd,Nat.reduceSub,Nat.reduceMul,Nat.reduceLT,Nat.reduceLeDiff,Int.reducePow,Int.reduceBEq,Int.reduceBNe,Int.reduceDiv,Int.reduceMod,Int.reduceEq,Int.reduceLT,Int.reduceLE,Int.reduceAdd,Int.reduceSub,Int.reduceMul,Int.reduceNeg,Int.reduceToNat,Int.reduceTDiv,Int.reduceTMod,↓reduceIte,kd,kd0,hts,Option.isNone_some,Option.isNone_none,old_get h2]
   rw[asy_some zn hz1]
   (refine sg (et ht1 (et ht2 (et zn (et hp1 (et hp2 (et hp3 (et hp4 (et Nat.zero_add (et kd kd0))))))))) ?_;try exact⟨⟩)
   exact .inr ⟨H.length,1,cs,Nat.le_refl _,rfl,by rw[hget_app0];rfl,h3,h5⟩
end Go.Proofs.YthhbglkokpablaaGreat
/- Documents: the walk of a path's copy. -/
namespace Go.Proofs.YthhbglkokpablaaGreat
open Go Go.RowKit E
attribute [local irreducible] XRun XOps XCode XCal XLoop XQ SemCall
set_option linter.unusedSimpArgs false
set_option linter.unusedVariables false
/-- Points in a new block of their own. -/
def ClPts (H H':AH) (v:Value) (l:List Pt):Prop:=
 (l=[]∧v=.slice none 0 0)∨∃ b g,H.length≤b∧v=sl b 0 g l.length 2∧H'[b]?=some ⟨ptC l,g,true⟩
theorem clPt_ (l:List Pt) (v:Value) (hl:l.length≤1000) (H:AH) (h:Pts H v l):Cal Tryz.prog 92 [v] H fun v' H' W=>W=[]∧(∃ L,H'=H++L)∧ClPts H H' v' l:=by
 refine adds_of ?_
 have hts:tslc Tryz.prog 32=true:=by kernel_rfl
 have kd:∀ n,decide (H.length+n<H.length)=false:=fun n=>df (by omega)
 have kd0:decide (H.length<H.length)=false:=df (by omega)
 rcases h with ⟨rfl,⟨e,rfl⟩|rfl⟩|⟨b,g,rest,rw_,rfl,h2,h4⟩
 ·refine XCal.of hm Tryz.func92 rfl (fun xs w=>Tryz.call92 xs w) Tryz.ntmps92 Tryz.results92 rfl ?_
  simp only[go_sem,Nat.reduceEqDiff,Nat.reduceAdd,Nat.reduceSub,Nat.reduceMul,Nat.reduceLT,Nat.reduceLeDiff,Int.reducePow,Int.reduceBEq,Int.reduceBNe,Int.reduceDiv,Int.reduceMod,Int.reduceEq,Int.reduceLT,Int.reduceLE,Int.reduceAdd,Int.reduceSub,Int.reduceMul,Int.reduceNeg,Int.reduceToNat,Int.reduceTDiv,Int.reduceTMod,↓reduceIte,kd,kd0,hts,Option.isNone_some,Option.isNone_none]
  exact .inr ⟨H.length,0,Nat.le_refl _,rfl,by rw[hget_app0];rfl⟩
 ·refine XCal.of hm Tryz.func92 rfl (fun xs w=>Tryz.call92 xs w) Tryz.ntmps92 Tryz.results92 rfl ?_
  simp only[go_sem,Nat.reduceEqDiff,Nat.reduceAdd,Nat.reduceSub,Nat.reduceMul,Nat.reduceLT,Nat.reduceLeDiff,Int.reducePow,Int.reduceBEq,Int.reduceBNe,Int.reduceDiv,Int.reduceMod,Int.reduceEq,Int.reduceLT,Int.reduceLE,Int.reduceAdd,Int.reduceSub,Int.reduceMul,Int.reduceNeg,Int.reduceToNat,Int.reduceTDiv,Int.reduceTMod,↓reduceIte,kd,kd0,hts,Option.isNone_some,Option.isNone_none]
  exact .inl ⟨rfl,rfl⟩
 ·have hfl:=ptC_len l
  by_cases hn:l.length=0
  ·rw[hn]
   have hc0:l=[]:=List.eq_nil_of_length_eq_zero hn
   refine XCal.of hm Tryz.func92 rfl (fun xs w=>Tryz.call92 xs w) Tryz.ntmps92 Tryz.results92 rfl ?_
   simp only[go_sem,Nat.reduceEqDiff,Nat.reduceAdd,Nat.reduceSub,Nat.reduceMul,Nat.reduceLT,Nat.reduceLeDiff,Int.reducePow,Int.reduceBEq,Int.reduceBNe,Int.reduceDiv,Int.reduceMod,Int.reduceEq,Int.reduceLT,Int.reduceLE,Int.reduceAdd,Int.reduceSub,Int.reduceMul,Int.reduceNeg,Int.reduceToNat,Int.reduceTDiv,Int.reduceTMod,↓reduceIte,kd,kd0,hts,Option.isNone_some,Option.isNone_none,old_get h2]
   exact .inr ⟨H.length,0,Nat.le_refl _,by rw[hn],by rw[hget_app0,hc0];rfl⟩
  ·have zn:(l.length=0)=False:=eq_false hn
   have hz1:0+l.length*2 - (ptC l++rest).length=0:=by rw[List.length_append,hfl];omega
   have ht1:((ptC l++rest).drop 0).take (l.length*2)=ptC l:=by rw[List.drop_zero,← hfl,List.take_left]
   have ht2:(ptC l++rest).take (l.length*2)=ptC l:=by rw[← hfl,List.take_left]
   have hp1:(0+l.length)*16 - 140737488355328=0:=Nat.sub_eq_zero_of_le (Nat.le_trans (Nat.mul_le_mul_right 16 (show 0+l.length≤1000 by omega)) (by decide))
   have hp2:0+l.length - 140737488355328=0:=Nat.sub_eq_zero_of_le (Nat.le_trans (show 0+l.length≤1000 by omega) (by decide))
   have hp3:l.length*16 - 140737488355328=0:=by rw[Nat.zero_add] at hp1;exact hp1
   have hp4:l.length - 140737488355328=0:=by rw[Nat.zero_add] at hp2;exact hp2
   refine XCal.of hm Tryz.func92 rfl (fun xs w=>Tryz.call92 xs w) Tryz.ntmps92 Tryz.results92 rfl ?_
   simp only[go_sem,Nat.reduceEqDiff,Nat.reduceAdd,Nat.reduceSub,Nat.reduceMul,Nat.reduceLT,Nat.reduceLeDiff,Int.reducePow,Int.reduceBEq,Int.reduceBNe,Int.reduceDiv,Int.reduceMod,Int.reduceEq,Int.reduceLT,Int.reduceLE,Int.reduceAdd,Int.reduceSub,Int.reduceMul,Int.reduceNeg,Int.reduceToNat,Int.reduceTDiv,Int.reduceTMod,↓reduceIte,kd,kd0,hts,Option.isNone_some,Option.isNone_none,old_get h2]
   rw[asy_some zn hz1]
   (refine sg (et ht1 (et ht2 (et zn (et hp1 (et hp2 (et hp3 (et hp4 (et Nat.zero_add (et kd kd0))))))))) ?_;try exact⟨⟩)
   exact .inr ⟨H.length,1,Nat.le_refl _,rfl,by rw[hget_app0];rfl⟩
theorem ownPath_ (cl:Bool) (l:List Pt) (v:Value) (hl:l.length≤1000) (H:AH) (h:Pts H v l):Cal Tryz.prog 73 [.agg [.bool cl,v].toArray] H fun v' H' W=>W=[]∧(∃ L,H'=H++L)∧∃ pv,v'=.agg [.bool cl,pv].toArray∧ClPts H H' pv l:=by
 refine adds_of ?_
 have kd:∀ n,decide (H.length+n<H.length)=false:=fun n=>df (by omega)
 have kd0:decide (H.length<H.length)=false:=df (by omega)
 obtain⟨a,e,hv⟩:=h.form
 refine XCal.of hm Tryz.func73 rfl (fun xs w=>Tryz.call73 xs w) Tryz.ntmps73 Tryz.results73 rfl ?_
 subst hv
 (refine sg (et kd kd0) ?_;try exact⟨⟩)
 first|refine drawnF ?_ (by decide +kernel)|refine drawnU [(0,4),(1,4)] (by decide +kernel) ?_
 (refine sg (et kd kd0) ?_;try exact⟨⟩)
 refine(clPt_ l _ hl _ (h.app _)).x ?_
 rintro v H1 W1 ⟨rfl,⟨L,rfl⟩,hP⟩
 have hlen:(H++[(⟨[.bool cl,.slice a l.length e],0,true⟩:Blk),⟨[.bool false,.slice none 0 0],0,true⟩]).length=H.length+2:=by simp
 have g1:(H++[(⟨[.bool cl,.slice a l.length e],0,true⟩:Blk),⟨[.bool false,.slice none 0 0],0,true⟩]++L)[H.length+1]?=some ⟨[.bool false,.slice none 0 0],0,true⟩:=old_get (by rw[hget_app];rfl) L
 generalize H++[(⟨[.bool cl,.slice a l.length e],0,true⟩:Blk),⟨[.bool false,.slice none 0 0],0,true⟩]=K at *
 have g9:∀ X,((K++L).set (H.length+1) X)[H.length+1]?=some X:=fun X=>List.getElem?_set_self (by rw[List.length_append];omega)
 have hP':∀ X,ClPts H ((K++L).set (H.length+1) X) v l:=fun X=>by
  rcases hP with hP|⟨b,g,h1,h2,h3⟩
  ·exact .inl hP
  ·exact .inr ⟨b,g,by omega,h2,by rw[List.getElem?_set_ne (by omega)];exact h3⟩
 obtain⟨va,ve,rfl⟩:∃ a e,v=.slice a l.length e:=by
  rcases hP with ⟨rfl,rfl⟩|⟨b,g,_,rfl,_⟩ <;> exact⟨_,_,rfl⟩
 (refine sg (et kd (et kd0 (et g1 g9))) ?_;try exact⟨⟩)
 exact⟨_,rfl,hP' _⟩
end Go.Proofs.YthhbglkokpablaaGreat
/- Documents: the walk of a layer's copy. -/
namespace Go.Proofs.YthhbglkokpablaaGreat
open Go Go.RowKit E
attribute [local irreducible] XRun XOps XCode XCal XLoop XQ SemCall
set_option linter.unusedSimpArgs false
set_option linter.unusedVariables false
theorem flatten_splice {s:Nat}:∀ {cs:List (List Value)} {i:Nat} {c:List Value} (j:Nat) (vs:List Value),(∀ c∈cs,c.length=s)→cs[i]?=some c→j+vs.length≤s→splice cs.flatten (i*s+j) vs=(cs.set i (splice c j vs)).flatten
 | [],i,c,j,vs,_,hi,_=>by simp at hi
 | d::cs,0,c,j,vs,h,hi,hj=>by
  simp at hi;subst hi
  have hd:=h d (by simp)
  rw[Nat.zero_mul,Nat.zero_add,List.set_cons_zero,List.flatten_cons,List.flatten_cons,splice_def,splice_def,List.take_append_of_le_length (by omega),List.drop_append_of_le_length (by omega)]
  simp
 | d::cs,i+1,c,j,vs,h,hi,hj=>by
  have hd:=h d (by simp)
  have ih:=flatten_splice (s:=s) (cs:=cs) (i:=i) (c:=c) j vs (fun d hd=>h d (by simp[hd])) (by simpa using hi) hj
  have e1:(i+1)*s+j=d.length+(i*s+j):=by rw[Nat.add_mul,hd];omega
  have e2:(i+1)*s+j+vs.length=d.length+(i*s+j+vs.length):=by rw[Nat.add_mul,hd];omega
  rw[List.flatten_cons,List.set_cons_succ,List.flatten_cons,← ih,splice_def,splice_def,e2,e1,List.take_length_add_append,List.drop_length_add_append,List.append_assoc,List.append_assoc,List.append_assoc]
theorem ClRow.dep {α:Type} {s:Nat} {E:AH→List Value→α→Prop} {H H':AH} {v:Value} {l:List α} (hE:∀ K J c x,E K c x→E J c x) (h:ClRow s E H H' v l) (hl:l.length≤9223372036854775807):Dep H.length H' (fun J=>RowOf s E J v l):=by
 rcases h with ⟨rfl,rfl⟩|⟨b,g,cs,h0,rfl,h2,h3,h4⟩
 ·exact fun J _=>RowOf.none
 ·exact fun J hJ=>.inr ⟨b,g,[],true,cs,rfl,by rw[List.append_nil];exact hJ _ _ h0 h2,h3,hl,fun i x hx=>by obtain⟨c,e1,e2,e3⟩:=h4 i x hx;exact⟨c,e1,e2,hE _ _ _ _ e3⟩⟩
theorem ClRow.form {α:Type} {s:Nat} {E:AH→List Value→α→Prop} {H H':AH} {v:Value} {l:List α} (h:ClRow s E H H' v l):∃ a e,v=.slice a l.length e:=by
 rcases h with ⟨rfl,rfl⟩|⟨b,g,cs,h0,rfl,_⟩
 ·exact⟨_,_,rfl⟩
 ·exact⟨_,_,rfl⟩
theorem ClPts.dep {H H':AH} {v:Value} {l:List Pt} (h:ClPts H H' v l) (hl:l.length≤9223372036854775807):Dep H.length H' (fun J=>Pts J v l):=by
 rcases h with ⟨rfl,rfl⟩|⟨b,g,h0,rfl,h2⟩
 ·exact fun J _=>.inl ⟨rfl,.inr rfl⟩
 ·exact fun J hJ=>.inr ⟨b,g,[],true,rfl,by rw[List.append_nil];exact hJ _ _ h0 h2,hl⟩
theorem ClPts.form {H H':AH} {v:Value} {l:List Pt} (h:ClPts H H' v l):∃ a e,v=.slice a l.length e:=by
 rcases h with ⟨rfl,rfl⟩|⟨b,g,h0,rfl,_⟩
 ·exact⟨_,_,rfl⟩
 ·exact⟨_,_,rfl⟩
/-- A slice whose block may be written. -/
def Wr (K:AH) (v:Value):Prop:=∀ b off g len e,v=.slice (some ⟨b,off,some g⟩) len e→∃ k:Blk,K[b]?=some k∧k.rw=true
theorem Wr.old {K J:AH} {v:Value} (h:Wr K v) (o:Old K J):Wr J v:=fun b off g len e hv=>by
 obtain⟨k,h1,h2⟩:=h b off g len e hv;exact⟨k,o _ _ h1,h2⟩
theorem Wr.nil (K:AH) (l e:Nat):Wr K (.slice none l e):=fun b off g len e hv=>by cases hv
theorem Wr.sl {K:AH} {b g len e:Nat} {cs:List Value} (h:K[b]?=some ⟨cs,g,true⟩):Wr K (sl b 0 g len e):=fun b' off g' len' e' hv=>by
 injection hv with h1 _ _
 injection h1 with h1
 injection h1 with h1 _ _
 subst h1
 exact⟨_,h,rfl⟩
theorem ClRow.wr {α:Type} {s:Nat} {E:AH→List Value→α→Prop} {H H':AH} {v:Value} {l:List α} (h:ClRow s E H H' v l):Dep H.length H' (fun J=>Wr J v):=by
 rcases h with ⟨_,rfl⟩|⟨b,g,cs,h0,rfl,h2,_⟩
 ·exact fun J _=>Wr.nil _ _ _
 ·exact fun J hJ=>Wr.sl (hJ _ _ h0 h2)
theorem ClPts.wr {H H':AH} {v:Value} {l:List Pt} (h:ClPts H H' v l):Dep H.length H' (fun J=>Wr J v):=by
 rcases h with ⟨_,rfl⟩|⟨b,g,h0,rfl,h2⟩
 ·exact fun J _=>Wr.nil _ _ _
 ·exact fun J hJ=>Wr.sl (hJ _ _ h0 h2)
theorem MkRow.wr {α:Type} {s:Nat} {E:AH→List Value→α→Prop} {n0:Nat} {K:AH} {v:Value} {l:List α} (h:MkRow s E n0 K v l):Dep n0 K (fun J=>Wr J v):=by
 rcases h with ⟨_,rfl⟩|⟨b,g,cs,h0,rfl,h2,_⟩
 ·exact fun J _=>Wr.nil _ _ _
 ·exact fun J hJ=>Wr.sl (hJ _ _ h0 h2)
def PkT (K:AH) (c:List Value) (x:Pk):Prop:=∃ pv,c=[.int .i64 x.t,.bool x.p.1,pv,.int .i64 x.how,.int .i64 x.e.x1,.int .i64 x.e.y1,.int .i64 x.e.x2,.int .i64 x.e.y2]∧Pts K pv x.p.2∧Wr K pv
/-- A layer with rows that may be written. -/
def LyT (K:AH) (c:List Value) (l:Ly):Prop:=∃ v0 v1 v2 v3 v4 v5 v6 v7 v8 pm vw vh vp vc vd vda vf vt,c=lyVs l v0 v1 v2 v3 v4 v5 v6 v7 v8 pm vw vh vp vc vd vda vf vt∧(LyV K l v0 v1 v2 v3 v4 v5 v6 v7 v8 pm∧ShV K l.shape vw vh vp vc vd vda vf vt)∧Wr K v0∧Wr K pm∧Wr K vda∧RowOf 8 PkT K vp l.shape.paths
theorem LyT.e {K:AH} {c:List Value} {l:Ly} (h:LyT K c l):LyE K c l:=by
 obtain⟨v0,v1,v2,v3,v4,v5,v6,v7,v8,pm,vw,vh,vp,vc,vd,vda,vf,vt,h1,h2,_⟩:=h
 exact⟨v0,v1,v2,v3,v4,v5,v6,v7,v8,pm,vw,vh,vp,vc,vd,vda,vf,vt,h1,h2.1,h2.2⟩
theorem RowOf.sub {α:Type} {s:Nat} {E F:AH→List Value→α→Prop} {K:AH} {v:Value} {l:List α} (h:RowOf s E K v l) (m:∀ c x,E K c x→F K c x):RowOf s F K v l:=by
 rcases h with h|⟨b,g,rest,rw_,cs,h1,h2,h3,h4,h5⟩
 ·exact .inl h
 ·exact .inr ⟨b,g,rest,rw_,cs,h1,h2,h3,h4,fun i x hx=>by obtain⟨c,e1,e2,e3⟩:=h5 i x hx;exact⟨c,e1,e2,m _ _ e3⟩⟩
def CoT (K:AH) (c:List Value) (l:List Ly):Prop:=∃ v,c=[v]∧RowOf 50 LyT K v l∧Wr K v
theorem CoT.e {K:AH} {c:List Value} {l:List Ly} (h:CoT K c l):CoE K c l:=by
 obtain⟨v,h1,h2,_⟩:=h
 exact⟨v,h1,h2.sub fun _ _=>LyT.e⟩
/-- A layer whose rows are no longer than so. -/
structure LyS (l:Ly):Prop where
 x:l.x.length≤1000
 y:l.y.length≤1000
 ax:l.ax.length≤1000
 ay:l.ay.length≤1000
 sx:l.sx.length≤1000
 sy:l.sy.length≤1000
 turn:l.turn.length≤1000
 opac:l.opac.length≤1000
 remap:l.remap.length≤1000
 mask:l.mask.2.length≤1000
 w:l.shape.w.length≤1000
 h:l.shape.h.length≤1000
 paths:l.shape.paths.length≤1000
 pts:∀ p∈l.shape.paths,p.p.2.length≤1000
 colors:l.shape.colors.length≤1000
 width:l.shape.width.length≤1000
 dash:l.shape.dash.length≤1000
 frm:l.shape.frm.length≤1000
 to:l.shape.to.length≤1000
def ownF (l:Ly):Nat→List Ky
 | 0=>l.x
 | 1=>l.y
 | 2=>l.ax
 | 3=>l.ay
 | 4=>l.sx
 | 5=>l.sy
 | 6=>l.turn
 | 7=>l.opac
 | 8=>l.remap
 | 9=>l.shape.w
 | 10=>l.shape.h
 | 11=>l.shape.width
 | 12=>l.shape.frm
 | _=>l.shape.to
abbrev ownC (l:Ly) (g:Nat→Value) (pm vp vc vda:Value):List Value:=lyVs l (g 0) (g 1) (g 2) (g 3) (g 4) (g 5) (g 6) (g 7) (g 8) pm (g 9) (g 10) vp vc (g 11) vda (g 12) (g 13)
abbrev ownP (n:Nat):List Value:=[ap n 7 0,ap n 8 0,ap n 9 0,ap n 10 0,ap n 11 0,ap n 12 0,ap n 13 0,ap n 14 0,ap n 15 0,ap n 20 0,ap n 21 0,ap n 41 0,ap n 48 0,ap n 49 0]
def ownG (v0 v1 v2 v3 v4 v5 v6 v7 v8 vw vh vd vf vt:Value):Nat→Value
 | 0=>v0
 | 1=>v1
 | 2=>v2
 | 3=>v3
 | 4=>v4
 | 5=>v5
 | 6=>v6
 | 7=>v7
 | 8=>v8
 | 9=>vw
 | 10=>vh
 | 11=>vd
 | 12=>vf
 | _=>vt
abbrev ownS (g:Nat→Value) (i:Nat) (v:Value):Nat→Value:=fun j=>if j=i then v else g j
theorem ownF_len {l:Ly} (h:LyS l) (j:Nat):(ownF l j).length≤1000:=by
 unfold ownF;split <;> first|exact h.x|exact h.y|exact h.ax|exact h.ay|exact h.sx|exact h.sy|exact h.turn|exact h.opac|exact h.remap|exact h.w|exact h.h|exact h.width|exact h.frm|exact h.to
/-- Where the loop over a layer's rows of keys is. -/
structure OwK (l:Ly) (H K:AH) (i:Nat) (g:Nat→Value) (pm vp vc vda:Value):Prop where
 old:Old H K
 len:H.length+3≤K.length
 c:K[H.length]?=some ⟨ownC l g pm vp vc vda,0,true⟩
 z:∃ zc:List Value,zc.length=50∧K[H.length+1]?=some ⟨zc,0,true⟩
 p:K[H.length+2]?=some ⟨ownP H.length,0,true⟩
 d:∀ j,j<i→Dep (H.length+3) K (fun J=>Kys J (g j) (ownF l j)∧Wr J (g j))
 u:∀ j,i≤j→j<14→Kys H (g j) (ownF l j)
theorem OwK.next {l:Ly} {H K L:AH} {i:Nat} {g:Nat→Value} {pm vp vc vda v:Value} (hz:LyS l) (h:OwK l H K i g pm vp vc vda) (hC:ClRow 7 KyE K (K++L) v (ownF l i)):OwK l H ((K++L).set H.length ⟨ownC l (ownS g i v) pm vp vc vda,0,true⟩) (i+1) (ownS g i v) pm vp vc vda:=by
 have hl:=h.len
 have ho:Old K (K++L):=Old.app' _ _
 have hx:=Olx.set0 H.length (K++L) ⟨ownC l (ownS g i v) pm vp vc vda,0,true⟩
 refine⟨fun c k e=>?_,by rw[List.length_set,List.length_append];omega,List.getElem?_set_self (by rw[List.length_append];omega),?_,?_,fun j hj=>?_,fun j h1 h2=>?_⟩
 ·have:=(List.getElem?_eq_some_iff.1 e).1
  exact hx _ _ (by omega) (ho _ _ (h.old _ _ e))
 ·obtain⟨zc,h1,h2⟩:=h.z
  exact⟨zc,h1,hx _ _ (by omega) (ho _ _ h2)⟩
 ·exact hx _ _ (by omega) (ho _ _ h.p)
 ·by_cases e:j=i
  ·subst e
   show Dep _ _ (fun J=>Kys J (if j=j then v else g j) (ownF l j)∧Wr J (if j=j then v else g j))
   rw[if_pos rfl]
   exact(((hC.dep (fun _ _ _ _ h=>h) (by have:=ownF_len hz j;omega)).and hC.wr).low hl).olx hx (by omega)
  ·show Dep _ _ (fun J=>Kys J (if j=i then v else g j) (ownF l j)∧Wr J (if j=i then v else g j))
   rw[if_neg e]
   exact((h.d j (by omega)).old ho).olx hx (by omega)
 ·show Kys H (if j=i then v else g j) (ownF l j)
  rw[if_neg (by omega)]
  exact h.u j (by omega) h2
/-- A layer's copy on its way: its cells, what stands. -/
structure OwX (H K:AH) (C:List Value) (b:Nat) (Φ:AH→Prop):Prop where
 old:Old H K
 len:H.length+3≤K.length
 c:K[H.length]?=some ⟨C,0,true⟩
 z:∃ zc:List Value,zc.length=50∧K[H.length+1]?=some ⟨zc,0,true⟩
 d:Dex (H.length+3) b K Φ
theorem OwX.step {H K J:AH} {C C':List Value} {b:Nat} {Φ Ψ:AH→Prop} (h:OwX H K C b Φ) (o:Olx H.length K J) (hl:K.length≤J.length) (hc:J[H.length]?=some ⟨C',0,true⟩) (hd:Dex (H.length+3) b J Ψ):OwX H J C' b (fun J=>Φ J∧Ψ J):=by
 obtain⟨zc,h1,h2⟩:=h.z
 refine⟨fun c k e=>?_,Nat.le_trans h.len hl,hc,⟨zc,h1,o _ _ (by omega) h2⟩,fun J' hJ=>⟨h.d.olt o (by omega) J' hJ,hd J' hJ⟩⟩
 have:=(List.getElem?_eq_some_iff.1 e).1
 exact o _ _ (by omega) (h.old _ _ e)
theorem OwX.olx {H K J:AH} {C:List Value} {b:Nat} {Φ:AH→Prop} (h:OwX H K C b Φ) (hb:H.length+3≤b) (o:Olx b K J) (hl:K.length≤J.length):OwX H J C b Φ:=by
 obtain⟨zc,h1,h2⟩:=h.z
 refine⟨fun c k e=>?_,Nat.le_trans h.len hl,o _ _ (by omega) h.c,⟨zc,h1,o _ _ (by omega) h2⟩,h.d.olx o⟩
 have:=(List.getElem?_eq_some_iff.1 e).1
 exact o _ _ (by omega) (h.old _ _ e)
theorem flatten_get {s:Nat}:∀ {cs:List (List Value)} {i:Nat} {c:List Value} (j:Nat),(∀ c∈cs,c.length=s)→cs[i]?=some c→j<s→cs.flatten[i*s+j]?=c[j]?
 | [],i,c,j,_,hi,_=>by simp at hi
 | d::cs,0,c,j,h,hi,hj=>by
  simp at hi;subst hi
  have hd:=h d (by simp)
  rw[Nat.zero_mul,Nat.zero_add,List.flatten_cons,List.getElem?_append_left (by omega)]
 | d::cs,i+1,c,j,h,hi,hj=>by
  have hd:=h d (by simp)
  have ih:=flatten_get (s:=s) (cs:=cs) (i:=i) (c:=c) j (fun d hd=>h d (by simp[hd])) (by simpa using hi) hj
  have e:(i+1)*s+j=d.length+(i*s+j):=by rw[Nat.add_mul,hd];omega
  rw[List.flatten_cons,e,List.getElem?_append_right (by omega),Nat.add_sub_cancel_left,ih]
/-- Rows of paths of which the first i are copied. -/
structure PkK (H K:AH) (b g i:Nat) (ds:List (List Value)) (l:List Pk):Prop where
 b0:H.length+3≤b
 k:K[b]?=some ⟨ds.flatten,g,true⟩
 len:ds.length=l.length
 el:∀ (j:Nat) x,l[j]?=some x→∃ c,ds[j]?=some c∧c.length=8∧(j<i→Dex (H.length+3) b K (fun J=>PkT J c x))∧(i≤j→PkE H c x)
theorem PkK.all {H K:AH} {b g i:Nat} {ds:List (List Value)} {l:List Pk} (h:PkK H K b g i ds l):∀ c∈ds,c.length=8:=
 RowOf.all (P:=fun _ _=>True) h.len fun i x hx=>by obtain⟨c,h1,h2,_⟩:=h.el i x hx;exact⟨c,h1,h2,trivial⟩
theorem PkK.next {H K L:AH} {b g i:Nat} {ds:List (List Value)} {l:List Pk} {x:Pk} {c:List Value} {pv:Value} (h:PkK H K b g i ds l) (hx:l[i]?=some x) (hc:ds[i]?=some c) (hl:x.p.2.length≤1000)
  (hK:H.length+3≤K.length) (hP:ClPts K (K++L) pv x.p.2):PkK H ((K++L).set b ⟨(ds.set i (splice c 1 [.bool x.p.1,pv])).flatten,g,true⟩) b g (i+1) (ds.set i (splice c 1 [.bool x.p.1,pv])) l:=by
 have hbl:=(List.getElem?_eq_some_iff.1 h.k).1
 have hx':=Olx.set0 b (K++L) ⟨(ds.set i (splice c 1 [.bool x.p.1,pv])).flatten,g,true⟩
 refine⟨h.b0,List.getElem?_set_self (by rw[List.length_append];omega),by rw[List.length_set];exact h.len,fun j y hy=>?_⟩
 obtain⟨c',f1,f2,f3,f4⟩:=h.el j y hy
 by_cases e:i=j
 ·subst e
  rw[hx] at hy;cases hy
  rw[hc] at f1;cases f1
  obtain⟨pv0,rfl,_⟩:=f4 (Nat.le_refl _)
  refine⟨_,List.getElem?_set_self (List.getElem?_eq_some_iff.1 hc).1,rfl,fun _=>?_,fun hh=>by omega⟩
  have hd:=(hP.dep (by omega)).and hP.wr
  exact fun J hJ=>⟨pv,rfl,(hd.dex (b:=b) (n0:=H.length+3) hK (.inl hbl)).olx hx' J hJ⟩
 ·refine⟨c',by rw[List.getElem?_set_ne e];exact f1,f2,fun hh=>?_,fun hh=>f4 (by omega)⟩
  exact((f3 (by omega)).olx (Olx.old (Old.app' K L))).olx hx'
theorem RowOf.fix {α:Type} {s:Nat} {E:AH→List Value→α→Prop} {H K:AH} {v:Value} {l:List α} (h:RowOf s E H v l) (o:Old H K):RowOf s (fun _ c x=>E H c x) K v l:=by
 rcases h with h|⟨b,g,rest,rw_,cs,h1,h2,h3,h4,h5⟩
 ·exact .inl h
 ·exact .inr ⟨b,g,rest,rw_,cs,h1,o _ _ h2,h3,h4,h5⟩
set_option maxHeartbeats 8000000 in
theorem own_ (l:Ly) (v0 v1 v2 v3 v4 v5 v6 v7 v8 pm vw vh vp vc vd vda vf vt:Value) (H:AH) (h:LyV H l v0 v1 v2 v3 v4 v5 v6 v7 v8 pm) (hs:ShV H l.shape vw vh vp vc vd vda vf vt) (hz:LyS l) :
  Cal Tryz.prog 48 [.agg (lyVs l v0 v1 v2 v3 v4 v5 v6 v7 v8 pm vw vh vp vc vd vda vf vt).toArray] H fun v' H' W=>W=[]∧(∃ L,H'=H++L)∧∃ w0 w1 w2 w3 w4 w5 w6 w7 w8 wm ww wh wp wc wd wda wf wt,v'=.agg (lyVs l w0 w1 w2 w3 w4 w5 w6 w7 w8 wm ww wh wp wc wd wda wf wt).toArray∧Dep H.length H' (fun J=>(LyV J l w0 w1 w2 w3 w4 w5 w6 w7 w8 wm∧ShV J l.shape ww wh wp wc wd wda wf wt)∧Wr J w0∧Wr J wm∧Wr J wda∧RowOf 8 PkT J wp l.shape.paths):=by
 refine adds_of ?_
 have kd:∀ n,decide (H.length+n<H.length)=false:=fun n=>df (by omega)
 have kd0:decide (H.length<H.length)=false:=df (by omega)
 refine XCal.of hm Tryz.func48 rfl (fun xs w=>Tryz.call48 xs w) Tryz.ntmps48 Tryz.results48 rfl ?_
 (refine sg (et kd kd0) ?_;try exact⟨⟩)
 refine keep (fun r T K D=>D=[]∧∃ (i:Nat) (g:Nat→Value),i+r=14∧OwK l H K i g pm vp vc vda∧T 1=ap H.length 0 0∧T 2=ap (H.length+1) 0 0∧T 26=sl (H.length+2) 0 0 14 1∧T 27=.int .i64 14∧T 28=.int .i64 (i:Int)) 14
  ⟨rfl,0,ownG v0 v1 v2 v3 v4 v5 v6 v7 v8 vw vh vd vf vt,rfl,⟨Old.app' _ _,by simp,by rw[hget_app0];rfl,⟨_,rfl,by rw[hget_app];rfl⟩,by rw[hget_app];rfl,fun j hj=>by omega,fun j _ h2=>?_⟩,by(refine sg trivial ?_;try exact⟨⟩),by(refine sg trivial ?_;try exact⟨⟩),by(refine sg trivial ?_;try exact⟨⟩),by(refine sg trivial ?_;try exact⟨⟩),by(refine sg trivial ?_;try exact⟨⟩) <;> rfl⟩ ?_
 ·match j,h2 with
  | 0,_=>exact h.x
  | 1,_=>exact h.y
  | 2,_=>exact h.ax
  | 3,_=>exact h.ay
  | 4,_=>exact h.sx
  | 5,_=>exact h.sy
  | 6,_=>exact h.turn
  | 7,_=>exact h.opac
  | 8,_=>exact h.remap
  | 9,_=>exact hs.w
  | 10,_=>exact hs.h
  | 11,_=>exact hs.width
  | 12,_=>exact hs.frm
  | 13,_=>exact hs.to
  | j+14,h2=>omega
 rintro r T K D ⟨rfl,i,g,hir,hO,t1,t2,t26,t27,t28⟩
 have hl:=hO.len
 have hc:=hO.c
 have hp:=hO.p
 have kdK:∀ n,decide (K.length+n<H.length)=false:=fun n=>df (by omega)
 have kdK0:decide (K.length<H.length)=false:=df (by omega)
 by_cases hi:i<14
 ·have ck:=clKy_ (ownF l i) (g i) (ownF_len hz i) K ((hO.u i (Nat.le_refl _) hi).old KyE.m hO.old)
  have hcase:i=0∨i=1∨i=2∨i=3∨i=4∨i=5∨i=6∨i=7∨i=8∨i=9∨i=10∨i=11∨i=12∨i=13:=by omega
  have w1:IntKind.i64.wrap ((i:Int)+1)=((i+1:Nat):Int):=by rw[wi (by omega) (by omega)];rfl
  rcases hcase with rfl|rfl|rfl|rfl|rfl|rfl|rfl|rfl|rfl|rfl|rfl|rfl|rfl|rfl
  all_goals
   (refine sg (et t1 (et t2 (et t26 (et t27 (et t28 (et hc (et hp (et kdK kdK0)))))))) ?_;try exact⟨⟩)
   refine ck.x ?_
   rintro v H1 W1 ⟨rfl,⟨L,rfl⟩,hC⟩
   have hN:=hO.next hz hC
   have g0:=old_get hc L
   obtain⟨va,ve,rfl⟩:=hC.form
   (refine sg (et t1 (et t2 (et t26 (et t27 (et t28 (et g0 (et kd0 (et kdK kdK0)))))))) ?_;try exact⟨⟩)
   exact⟨r - 1,by omega,_,_,by omega,hN,rfl⟩
 ·have hi14:i=14:=by omega
  subst hi14
  (refine sg (et t1 (et t2 (et t26 (et t27 (et t28 hc))))) ?_;try exact⟨⟩)
  refine(ownPath_ l.mask.1 l.mask.2 pm hz.mask K (h.mask.old hO.old)).x ?_
  rintro v H1 W1 ⟨rfl,⟨L,rfl⟩,pv,rfl,hP⟩
  have hPd:=(hP.dep (by have:=hz.mask;omega)).and hP.wr
  obtain⟨pa,pe,rfl⟩:=hP.form
  have g0:=old_get hc L
  have hlL:K.length≤(K++L).length:=by rw[List.length_append];omega
  have g1:∀ X,((K++L).set H.length X)[H.length]?=some X:=fun X=>List.getElem?_set_self (by omega)
  obtain⟨zc,hzc,hzk⟩:=hO.z
  (refine sg (et t1 (et t2 (et g0 kd0))) ?_;try exact⟨⟩)
  refine drawnU [(0,7),(1,7),(2,7),(7,8),(7,9),(7,10),(7,11),(0,12),(1,12),(2,12),(7,13),(12,13),(7,14),(12,14),(7,15),(12,15),(7,16),(12,16),(0,17),(1,17),(2,17),(1,20),(2,20),(2,23)] (by decide +kernel) ?_
  have hX:∀ b,(H.length+3≤b→K.length≤b→OwX H K (ownC l g pm vp vc vda) b (fun J=>∀ j,j<14→Kys J (g j) (ownF l j)∧Wr J (g j))):=fun b _ h2=>⟨hO.old,hl,hc,hO.z,fun J hJ j hj=>((hO.d j hj).dex (Nat.le_refl _) (.inr h2)) J hJ⟩
  have hX1:∀ b,(H.length+3≤b→(K++L).length≤b→OwX H ((K++L).set H.length ⟨ownC l g (.slice pa l.mask.2.length pe) vp vc vda,0,true⟩) (ownC l g (.slice pa l.mask.2.length pe) vp vc vda) b (fun J=>(∀ j,j<14→Kys J (g j) (ownF l j)∧Wr J (g j))∧(Pts J (.slice pa l.mask.2.length pe) l.mask.2∧Wr J (.slice pa l.mask.2.length pe)))):=fun b h1 h2=>
   (hX b h1 (by omega)).step (fun c k hne e=>(Olx.set0 _ _ _) c k hne (Old.app' K L c k e)) (by rw[List.length_set];omega) (g1 _) (((hPd.dex (b:=b) hl (.inr h2))).olt (Olx.set0 _ _ _) (by omega))
  have hKo:Old H ((K++L).set H.length ⟨ownC l g (.slice pa l.mask.2.length pe) vp vc vda,0,true⟩):=fun c k e=>by
   have:=(List.getElem?_eq_some_iff.1 e).1
   exact Olx.set0 _ _ _ c k (by omega) (Old.app' K L c k (hO.old _ _ e))
  have hlX:((K++L).set H.length ⟨ownC l g (.slice pa l.mask.2.length pe) vp vc vda,0,true⟩).length=(K++L).length:=List.length_set ..
  have g2:=g1 ⟨ownC l g (.slice pa l.mask.2.length pe) vp vc vda,0,true⟩
  generalize (K++L).set H.length ⟨ownC l g (.slice pa l.mask.2.length pe) vp vc vda,0,true⟩=M at *
  have hMl:H.length+3≤M.length:=by omega
  (refine sg (et t1 (et t2 (et g2 kd0))) ?_;try exact⟨⟩)
  refine(clPk_ l.shape.paths vp hz.paths M (hs.paths.fix hKo)).x ?_
  rintro v H1 W1 ⟨rfl,⟨L1,rfl⟩,hC1⟩
  obtain⟨va1,ve1,hv1⟩:=hC1.form
  have g3:=old_get g2 L1
  (refine sg (et t1 (et t2 (et g3 kd0))) ?_;try exact⟨⟩)
  refine(clCk_ l.shape.colors vc hz.colors (M++L1) ((hs.colors.old CkE.m hKo).old CkE.m (Old.app' _ _))).x ?_
  rintro v' H1 W1 ⟨rfl,⟨L2,rfl⟩,hC2⟩
  obtain⟨va2,ve2,hv2⟩:=hC2.form
  have g4:=old_get g3 L2
  (refine sg (et t1 (et t2 (et g4 kd0))) ?_;try exact⟨⟩)
  refine(clIn_ l.shape.dash vda hz.dash (M++L1++L2) (((hs.dash.old InE.m hKo).old InE.m (Old.app' _ _)).old InE.m (Old.app' _ _))).x ?_
  rintro v'' H1 W1 ⟨rfl,⟨L3,rfl⟩,hC3⟩
  obtain⟨va3,ve3,hv3⟩:=hC3.form
  have g5:=old_get g4 L3
  have hlM:H.length<(M++L1++L2++L3).length:=by simp;omega
  have g6:∀ X,((M++L1++L2++L3).set H.length X)[H.length]?=some X:=fun X=>List.getElem?_set_self hlM
  subst hv1 hv2 hv3
  simp only[go_sem,Nat.reduceEqDiff,Nat.reduceAdd,Nat.reduceSub,Nat.reduceMul,Nat.reduceLT,Nat.reduceLeDiff,Int.reducePow,Int.reduceBEq,Int.reduceBNe,Int.reduceDiv,Int.reduceMod,Int.reduceEq,Int.reduceLT,Int.reduceLE,Int.reduceAdd,Int.reduceSub,Int.reduceMul,Int.reduceNeg,Int.reduceToNat,Int.reduceTDiv,Int.reduceTMod,↓reduceIte,t1,t2,g5,g6,kd0,List.set_set]
  have hl12:(M++L1).length≤(M++L1++L2).length:=by simp
  have hl23:(M++L1++L2).length≤(M++L1++L2++L3).length:=by simp
  have hl01:M.length≤(M++L1).length:=by rw[List.length_append];omega
  have hd2:=hC2.dep (fun _ _ _ _ h=>h) (by have:=hz.colors;omega)
  have hd3:=(hC3.dep (fun _ _ _ _ h=>h) (by have:=hz.dash;omega)).and hC3.wr
  have o3:Old M (M++L1++L2++L3):=((Old.app' _ _).app _).app _
  have oJ:∀ X,Olx H.length M ((M++L1++L2++L3).set H.length X):=fun X c k hne e=>Olx.set0 _ _ _ c k hne (o3 c k e)
  have hY:∀ b,H.length+3≤b→M.length≤b→(b<(M++L1).length∨(M++L1++L2++L3).length≤b)→OwX H ((M++L1++L2++L3).set H.length ⟨ownC l g (.slice pa l.mask.2.length pe) (.slice va1 l.shape.paths.length ve1) (.slice va2 l.shape.colors.length ve2) (.slice va3 l.shape.dash.length ve3),0,true⟩)
    (ownC l g (.slice pa l.mask.2.length pe) (.slice va1 l.shape.paths.length ve1) (.slice va2 l.shape.colors.length ve2) (.slice va3 l.shape.dash.length ve3)) b
    (fun J=>((∀ j,j<14→Kys J (g j) (ownF l j)∧Wr J (g j))∧(Pts J (.slice pa l.mask.2.length pe) l.mask.2∧Wr J (.slice pa l.mask.2.length pe)))∧(Cks J (.slice va2 l.shape.colors.length ve2) l.shape.colors∧(Ins J (.slice va3 l.shape.dash.length ve3) l.shape.dash∧Wr J (.slice va3 l.shape.dash.length ve3)))):=fun b h1 h2 h3=>by
   refine(hX1 b h1 (by omega)).step (oJ _) (by rw[List.length_set];omega) (g6 _) fun J hJ=>⟨?_,?_⟩
   ·exact(((hd2.dex (b:=b) (n0:=H.length+3) (by omega) (h3.imp id (fun e=>by omega))).olx (Olx.old (Old.app' _ L3))).olt (Olx.set0 H.length _ ⟨ownC l g (.slice pa l.mask.2.length pe) (.slice va1 l.shape.paths.length ve1) (.slice va2 l.shape.colors.length ve2) (.slice va3 l.shape.dash.length ve3),0,true⟩) (by omega)) J hJ
   ·exact((hd3.dex (b:=b) (n0:=H.length+3) (by omega) (h3.imp (fun e=>by omega) id)).olt (Olx.set0 H.length _ ⟨ownC l g (.slice pa l.mask.2.length pe) (.slice va1 l.shape.paths.length ve1) (.slice va2 l.shape.colors.length ve2) (.slice va3 l.shape.dash.length ve3),0,true⟩) (by omega)) J hJ
  have fin:∀ (b:Nat) (K':AH) (wp:Value),OwX H K' (ownC l g (.slice pa l.mask.2.length pe) wp (.slice va2 l.shape.colors.length ve2) (.slice va3 l.shape.dash.length ve3)) b (fun J=>((∀ j,j<14→Kys J (g j) (ownF l j)∧Wr J (g j))∧(Pts J (.slice pa l.mask.2.length pe) l.mask.2∧Wr J (.slice pa l.mask.2.length pe)))∧(Cks J (.slice va2 l.shape.colors.length ve2) l.shape.colors∧(Ins J (.slice va3 l.shape.dash.length ve3) l.shape.dash∧Wr J (.slice va3 l.shape.dash.length ve3)))) →
    Dep (H.length+3) K' (fun J=>RowOf 8 PkT J wp l.shape.paths)→∀ X,Dep H.length (K'.set (H.length+1) X) (fun J=>(LyV J l (g 0) (g 1) (g 2) (g 3) (g 4) (g 5) (g 6) (g 7) (g 8) (.slice pa l.mask.2.length pe)∧ShV J l.shape (g 9) (g 10) wp (.slice va2 l.shape.colors.length ve2) (g 11) (.slice va3 l.shape.dash.length ve3) (g 12) (g 13))∧Wr J (g 0)∧Wr J (.slice pa l.mask.2.length pe)∧Wr J (.slice va3 l.shape.dash.length ve3)∧RowOf 8 PkT J wp l.shape.paths):=fun b K' wp hx hp X=>by
   have h1:=((hx.d.dep.and hp).olx (Olx.set0 (H.length+1) K' X) (by omega)).low (show H.length≤H.length+3 by omega)
   exact h1.map fun J ⟨⟨⟨a,b,bw⟩,c,d,dw⟩,e⟩=>⟨⟨⟨(a 0 (by omega)).1,(a 1 (by omega)).1,(a 2 (by omega)).1,(a 3 (by omega)).1,(a 4 (by omega)).1,(a 5 (by omega)).1,(a 6 (by omega)).1,(a 7 (by omega)).1,(a 8 (by omega)).1,b⟩,⟨(a 9 (by omega)).1,(a 10 (by omega)).1,e.sub fun _ _ ⟨pv,h1,h2,_⟩=>⟨pv,h1,h2⟩,c,(a 11 (by omega)).1,d,(a 12 (by omega)).1,(a 13 (by omega)).1⟩⟩,(a 0 (by omega)).2,bw,dw,e⟩
  rcases hC1 with ⟨hpe,hv1e⟩|⟨bp,gp,cs,hbp,hv1e,hk1,hcs,hel⟩
  ·have hx:=hY (M++L1++L2++L3).length (by omega) (by omega) (.inr (Nat.le_refl _))
   have hp0:l.shape.paths.length=0:=by rw[hpe];rfl
   have hpk:∀ K',Dep (H.length+3) K' (fun J=>RowOf 8 PkT J (.slice va1 l.shape.paths.length ve1) l.shape.paths):=fun K' J _=>by rw[hv1e,hpe];exact RowOf.none
   have hfin:=fin _ _ _ hx (hpk _)
   obtain⟨zc,hzc,hzk⟩:=hx.z
   have hxc:=hx.c
   have hxl:=hx.len
   generalize (M++L1++L2++L3).set H.length ⟨ownC l g (.slice pa l.mask.2.length pe) (.slice va1 l.shape.paths.length ve1) (.slice va2 l.shape.colors.length ve2) (.slice va3 l.shape.dash.length ve3),0,true⟩=J at *
   refine rounds 1 ?_
   have hz1:zc.drop 50=[]:=List.drop_eq_nil_of_le (by omega)
   have hz2:50 - zc.length=0:=by omega
   have kd1:decide (H.length+1<H.length)=false:=df (by omega)
   have g9:∀ X,(J.set (H.length+1) X)[H.length+1]?=some X:=fun X=>List.getElem?_set_self (by omega)
   (refine sg (et t1 (et t2 (et (df (show ¬ (0:Int)<((l.shape.paths.length:Nat):Int) by omega)) (et hxc (et hzk (et hz1 (et hz2 (et kd1 g9)))))))) ?_;try exact⟨⟩)
   exact⟨_,_,_,_,_,_,_,_,_,_,_,_,_,_,_,_,_,_,rfl,hfin _⟩
  ·cases hv1e
   have hk1l:=(List.getElem?_eq_some_iff.1 hk1).1
   have hx:=hY bp (by omega) hbp (.inl hk1l)
   have hkb:((M++L1++L2++L3).set H.length ⟨ownC l g (.slice pa l.mask.2.length pe) (sl bp 0 gp l.shape.paths.length 8) (.slice va2 l.shape.colors.length ve2) (.slice va3 l.shape.dash.length ve3),0,true⟩)[bp]?=some ⟨cs.flatten,gp,true⟩:=Olx.set0 _ _ _ bp _ (by omega) (old_get (old_get hk1 _) _)
   have hpk:PkK H ((M++L1++L2++L3).set H.length ⟨ownC l g (.slice pa l.mask.2.length pe) (sl bp 0 gp l.shape.paths.length 8) (.slice va2 l.shape.colors.length ve2) (.slice va3 l.shape.dash.length ve3),0,true⟩) bp gp 0 cs l.shape.paths:=⟨by omega,hkb,hcs,fun j x hx=>by obtain⟨c,e1,e2,e3⟩:=hel j x hx;exact⟨c,e1,e2,fun hh=>by omega,fun _=>e3⟩⟩
   generalize (M++L1++L2++L3).set H.length ⟨ownC l g (.slice pa l.mask.2.length pe) (sl bp 0 gp l.shape.paths.length 8) (.slice va2 l.shape.colors.length ve2) (.slice va3 l.shape.dash.length ve3),0,true⟩=J at *
   have hpl:=hz.paths
   refine keep (fun r T K' D=>D=[]∧∃ (i:Nat) (ds:List (List Value)),i+r=l.shape.paths.length∧OwX H K' (ownC l g (.slice pa l.mask.2.length pe) (sl bp 0 gp l.shape.paths.length 8) (.slice va2 l.shape.colors.length ve2) (.slice va3 l.shape.dash.length ve3)) bp (fun J=>((∀ j,j<14→Kys J (g j) (ownF l j)∧Wr J (g j))∧(Pts J (.slice pa l.mask.2.length pe) l.mask.2∧Wr J (.slice pa l.mask.2.length pe)))∧(Cks J (.slice va2 l.shape.colors.length ve2) l.shape.colors∧(Ins J (.slice va3 l.shape.dash.length ve3) l.shape.dash∧Wr J (.slice va3 l.shape.dash.length ve3)))) ∧
    PkK H K' bp gp i ds l.shape.paths∧T 1=ap H.length 0 0∧T 2=ap (H.length+1) 0 0∧T 5=ap H.length 18 0∧T 72=.int .i64 (l.shape.paths.length:Int)∧T 73=.int .i64 (i:Int)) l.shape.paths.length
    ⟨rfl,0,cs,by omega,hx,hpk,by(refine sg t1 ?_;try exact⟨⟩),by(refine sg t2 ?_;try exact⟨⟩),by(refine sg trivial ?_;try exact⟨⟩),by(refine sg trivial ?_;try exact⟨⟩),by(refine sg trivial ?_;try exact⟨⟩) <;> rfl⟩ ?_
   clear hx hpk hkb hel hcs
   rintro r T K' D ⟨rfl,i,ds,hir',hx,hpk,s1,s2,s5,s72,s73⟩
   have hxc:=hx.c
   have hxl:=hx.len
   by_cases hi:i<l.shape.paths.length
   ·obtain⟨x,hxi⟩:∃ x,l.shape.paths[i]?=some x:=⟨_,List.getElem?_eq_getElem hi⟩
    obtain⟨c,hci,hcl,_,hce⟩:=hpk.el i x hxi
    obtain⟨pv,hcc,hpv⟩:=hce (Nat.le_refl _)
    have hfg:=fun j (hj:j<8)=>flatten_get (s:=8) j hpk.all hci hj
    have f1:=hfg 1 (by omega)
    have f2:=hfg 2 (by omega)
    rw[hcc] at f1 f2
    have l12:=fun b':Nat=>ald_two (b:=b') (g:=gp) (rw_:=true) (o:=i*8+1) f1 f2
    have hxp:=hz.pts x (List.mem_of_getElem? hxi)
    have q1:(i:Int)<(l.shape.paths.length:Int):=by omega
    have q0:(0:Int)≤(i:Int):=by omega
    have w1:IntKind.i64.wrap ((i:Int)+1)=((i+1:Nat):Int):=by rw[wi (by omega) (by omega)];rfl
    have kb:=hpk.k
    have kdb:decide (bp<H.length)=false:=df (by have:=hpk.b0;omega)
    (refine sg (et s1 (et s2 (et s5 (et s72 (et s73 (dt q1)))))) ?_;try exact⟨⟩)
    refine drawnU [(0,13),(1,13),(2,13),(3,13),(4,13)] (by decide +kernel) ?_
    (refine sg (et s1 (et s2 (et s5 (et s72 (et s73 (et hxc (et q0 (et q1 (et Int.toNat_natCast (et Nat.zero_add (et kb l12))))))))))) ?_;try exact⟨⟩)
    refine(ownPath_ x.p.1 x.p.2 pv hxp K' (hpv.old hx.old)).x ?_
    rintro v H1 W1 ⟨rfl,⟨L',rfl⟩,pv',rfl,hP'⟩
    have hN:=hpk.next hxi hci hxp hxl hP'
    have hbl:=(List.getElem?_eq_some_iff.1 kb).1
    have hX':=(hx.olx hpk.b0 (Olx.old (Old.app' K' L')) (by rw[List.length_append];omega)).olx hpk.b0 (Olx.set0 bp (K'++L') ⟨(ds.set i (splice c 1 [.bool x.p.1,pv'])).flatten,gp,true⟩) (by rw[List.length_set];omega)
    obtain⟨pa',pe',rfl⟩:=hP'.form
    have hfl:=flatten_len hpk.all
    rw[hpk.len] at hfl
    have hast:∀ (J:AH) b',ast J (some ⟨ds.flatten,gp,true⟩) (some [.bool x.p.1,.slice pa' x.p.2.length pe']) (some 2) b' (i*8+1) gp=some (J.set b' ⟨(ds.set i (splice c 1 [.bool x.p.1,.slice pa' x.p.2.length pe'])).flatten,gp,true⟩,b'):=fun J b'=>by
     rw[ast_some (s:=2) rfl (by omega),flatten_splice 1 _ hpk.all hci (by simp)]
    (refine sg (et s1 (et s2 (et s5 (et s72 (et s73 (et q0 (et q1 (et Int.toNat_natCast (et Nat.zero_add (et (old_get kb) (et hast (et kdb w1)))))))))))) ?_;try exact⟨⟩)
    exact⟨r - 1,by omega,i+1,_,by omega,hX',hN,rfl⟩
   ·have hil:i=l.shape.paths.length:=by omega
    have hPk:Dep (H.length+3) K' (fun J=>RowOf 8 PkT J (sl bp 0 gp l.shape.paths.length 8) l.shape.paths):=
     MkRow.dep (.inr ⟨bp,gp,ds,hpk.b0,rfl,hpk.k,hpk.len,fun j y hy=>by obtain⟨c,e1,e2,e3,_⟩:=hpk.el j y hy;exact⟨c,e1,e2,e3 (by have:=(List.getElem?_eq_some_iff.1 hy).1;omega)⟩⟩) (by omega)
    have hfin:=fin _ _ _ hx hPk
    obtain⟨zc,hzc,hzk⟩:=hx.z
    have hz1:zc.drop 50=[]:=List.drop_eq_nil_of_le (by omega)
    have hz2:50 - zc.length=0:=by omega
    have kd1:decide (H.length+1<H.length)=false:=df (by omega)
    have g9:∀ X,(K'.set (H.length+1) X)[H.length+1]?=some X:=fun X=>List.getElem?_set_self (by omega)
    (refine sg (et s1 (et s2 (et s5 (et s72 (et s73 (et (df (show ¬ (i:Int)<((l.shape.paths.length:Nat):Int) by omega)) (et hxc (et hzk (et hz1 (et hz2 (et kd1 g9))))))))))) ?_;try exact⟨⟩)
    exact⟨_,_,_,_,_,_,_,_,_,_,_,_,_,_,_,_,_,_,rfl,hfin _⟩
end Go.Proofs.YthhbglkokpablaaGreat
/- Documents: the walk of a document's copy. -/
namespace Go.Proofs.YthhbglkokpablaaGreat
open Go Go.RowKit E
attribute [local irreducible] XRun XOps XCode XCal XLoop XQ SemCall
set_option linter.unusedSimpArgs false
set_option linter.unusedVariables false
/-- A document whose rows are no longer than so. -/
structure DcS (d:Dc):Prop where
 n:d.comps.length≤1000
 c:∀ c∈d.comps,c.length≤1000∧∀ l∈c,LyS l
end Go.Proofs.YthhbglkokpablaaGreat
